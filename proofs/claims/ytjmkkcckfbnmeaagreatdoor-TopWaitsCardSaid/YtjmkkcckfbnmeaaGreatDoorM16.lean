/- Texts OmapI, Reg, OmapB. -/
import Derived.Test.YtjmkkcckfbnmeaaGreatDoorM07
import Derived.Test.YtjmkkcckfbnmeaaGreatDoorM08
import Derived.Test.YtjmkkcckfbnmeaaGreatDoorM15
import Derived.Deep.QuietTactic
import Derived.BigQuiet
set_option maxRecDepth 100000
set_option maxHeartbeats 8000000
set_option linter.all false
open Go.Lib (hid)
namespace Go.Proofs.YtjmkkcckfbnmeaaGreatDoor.Oi
open Go.RowKit
abbrev Ent:=ByteArray × Value
def cs (x:Ent):List Value:=[.string x.1,x.2]
theorem cs_len (x:Ent):(cs x).length=2:=rfl
def keys (l:List Ent):List ByteArray:=l.map (·.1)
def hasK (l:List Ent)(k:ByteArray):Bool:=(keys l).any fun x=>decide (x=k)
theorem hasK_iff {l:List Ent}{k:ByteArray} : hasK l k=true ↔ k∈keys l:=by simp[hasK]
theorem keys_get {l:List Ent}{i:Nat}{x:Ent}(h:l[i]? = some x):(keys l)[i]? = some x.1:=by simp[keys,h]
structure MapAt (w:World)(B r:Nat)(l:List Ent):Prop where
 srt:Srt (keys l)
 len:l.length≤1000
 one:∀ x∈l,x.2.oneCell'=true
 at_:∃ v,Holds w r 206 #[v]∧Own w B 327 2 v l.length (flat cs l)
theorem MapAt.fr0 {w w':World}{B r:Nat}{l:List Ent}(h:MapAt w B r l)(hf:Fr [] w w'):MapAt w' B r l:=by
 obtain⟨v,h1,h2⟩:=h.at_
 exact⟨h.srt,h.len,h.one,v,h1.fr hf (by simp),h2.fr0 hf⟩
theorem MapAt.frx {w w':World}{B r:Nat}{l:List Ent}{Ts:List TypeId}{S:List Nat}(h:MapAt w B r l)(hf:FrX B Ts S w w')(h1:206∉Ts)(h2:327∉Ts)
  (hS:∀ x,x∈S→∃ u,u≠206∧u≠327∧tyOf w x=some u):MapAt w' B r l:=by
 obtain⟨v,q1,q2⟩:=h.at_
 refine⟨h.srt,h.len,h.one,v,q1.frx hf h1 (q1.notin fun x hx=>?_),q2.frx hf h2 fun g hg hx=>?_⟩
 ·obtain⟨u,a,_,b⟩:=hS x hx
  exact⟨u,a,b⟩
 ·obtain⟨u,_,a,b⟩:=hS g hx
  rw[(q2.ty hg).1] at b
  cases b
  exact a rfl
theorem infoE:(Tryz.prog.info? 327).map (fun i=>(i.zero,i.size,i.bytes))=some (some (.agg #[.string ByteArray.empty,.int .i64 0]),2,24):=by kernel_rfl
theorem new_any (w:World)(B:Nat):Calls Tryz.prog 90 #[] w fun e w'=>∃ r,e = .returned (.pointer (some ⟨r,0,none⟩))∧w.heap.size≤r∧MapAt w' B r []∧Fr [] w w':=by
 go_enter Tryz.func90,Tryz.ntmps90
 go_wp2
 go_ret
 exact⟨_,rfl,Nat.le_refl _,⟨List.Pairwise.nil,by simp,by simp,_,Holds.new _ _ _,Own.nil _ _ _ _⟩,(Fr.refl _ _).alloc _⟩
theorem cmp_any (w:World)(key k:ByteArray)(v:Value):Calls Tryz.prog 261 #[.agg #[.string key,v],.string k] w fun e w'=>e = .returned (.int .i64 (Lib.compareBytes key.data.toList k.data.toList))∧Fr [] w w':=by
 go_enter Tryz.func261,Tryz.ntmps261
 go_wp2_with fail
 refine(compare_any key k _).mono ?_
 rintro e w' ⟨rfl,rfl⟩
 go_wp2
 go_ret
 exact⟨rfl,(Fr.refl _ _).alloc _⟩
theorem search_any (w:World)(B:Nat)(v:Value)(l:List Ent)(k:ByteArray)(hs:Srt (keys l))(hl:l.length≤1000)(h:Own w B 327 2 v l.length (flat cs l)) :
  Calls Tryz.prog 260 #[v,.string k,.func (.func 261) #[] #[]] w fun e w'=>e = .returned (.tuple #[.int .i64 (idx (keys l) k),.bool (hasK l k)])∧Fr [] w w':=by
 obtain⟨a,c,rfl⟩:=h.form
 have hkl:(keys l).length=l.length:=by simp[keys]
 have HL:=hid hkl
 have HS:=hid hs
 clear hkl hs
 go_enter Tryz.func260,Tryz.ntmps260
 go_wp2
 go_loopw [9,10] (fun i j wr=>∃ a b:Nat,a≤b∧b≤l.length∧i = .int .i64 a∧j = .int .i64 b∧Lo (keys l) k a∧Hi (keys l) k b∧Fr [] w wr) (fun i j _=>(intOf j).toNat - (intOf i).toNat)
 case atStart=>exact⟨0,l.length,Nat.zero_le _,Nat.le_refl _,rfl,rfl,lo_zero _ _,HL.out ▸ hi_all _ _,Fr.refl _ _⟩
 case round =>
  obtain⟨a',b,hab,hbn,rfl,rfl,hlo,hhi,fr⟩:=hrel
  by_cases hlt:a'<b
  ·have hlt':(a':Int)<(b:Int):=by omega
   obtain⟨m,hm⟩:∃ m:Nat,m=(a'+b) / 2:=⟨_,rfl⟩
   have hm1:a'≤m:=by omega
   have hm2:m<b:=by omega
   have hx:l[m]? = some l[m]:=List.getElem?_eq_getElem (by omega)
   obtain⟨x,hx'⟩:∃ x,l[m]'(by omega)=x:=⟨_,rfl⟩
   rw[hx'] at hx
   clear hx'
   obtain⟨g,c2,hg,hv,hr,hgl,hcell⟩:=(h.fr0 fr).cell cs_len rfl hx
   cases hv
   have q0:wr.cell? ⟨g,m*2,none⟩=some (.string x.1):=hcell 0 _ (by omega) rfl
   have q1:wr.cell? ⟨g,m*2+1,none⟩=some x.2:=hcell 1 _ (by omega) rfl
   have hkx:=keys_get hx
   have hmi:((a':Int)+(b:Int)) / 2=(m:Int):=by omega
   have hmn:(m:Int)<(l.length:Int):=by omega
   have HK:=hid hkx
   have HLo:=hid hlo
   have HHi:=hid hhi
   clear hm hx hcell hkx hr hlo hhi
   by_cases hc:Lib.compareBytes x.1.data.toList k.data.toList<0
   ·have HC:=hid (cmp_lt.1 hc)
    go_wp2_with fail
    refine(cmp_any _ x.1 k x.2).mono ?_
    rintro e w' ⟨rfl,f2⟩
    go_wp2_with fail
    go_roundw
    case rel=>exact⟨m+1,b,by omega,hbn,by go_num,rfl,lo_step HS.out HK.out HC.out,HHi.out,fr.trans f2⟩
    case measure=>simp[intOf];omega
   ·have HC:=hid (fun h=>hc (cmp_lt.2 h))
    go_wp2_with fail
    refine(cmp_any _ x.1 k x.2).mono ?_
    rintro e w' ⟨rfl,f2⟩
    go_wp2_with fail
    go_roundw
    case rel=>exact⟨a',m,hm1,by omega,rfl,rfl,HLo.out,hi_step HS.out HK.out HC.out,fr.trans f2⟩
    case measure=>simp[intOf];omega
  ·obtain rfl:a'=b:=by omega
   have hiq:=idx_eq (by rw[HL.out];exact hbn) hlo hhi
   have HI:=hid hiq
   by_cases hlt2:a'<l.length
   ·have hx:l[a']? = some l[a']:=List.getElem?_eq_getElem hlt2
    obtain⟨x,hx'⟩:∃ x,l[a']'(by omega)=x:=⟨_,rfl⟩
    rw[hx'] at hx
    clear hx'
    obtain⟨g,c2,hg,hv,hr,hgl,hcell⟩:=(h.fr0 fr).cell cs_len rfl hx
    cases hv
    have q0:wr.cell? ⟨g,a'*2,none⟩=some (.string x.1):=hcell 0 _ (by omega) rfl
    have q1:wr.cell? ⟨g,a'*2+1,none⟩=some x.2:=hcell 1 _ (by omega) rfl
    have hkx:=keys_get hx
    have hmn:(a':Int)<(l.length:Int):=by omega
    have hkk:hasK l k=decide (x.1=k):=by
     rw[Bool.eq_iff_iff,hasK_iff,decide_eq_true_eq]
     constructor
     ·intro hm
      have:=idx_mem HS.out hm
      rw[hiq,hkx] at this
      exact Option.some.inj this
     ·rintro rfl
      exact List.mem_of_getElem? hkx
    have HK:=hid hkk
    have HX:=hid (cmp_eq0 (a:=x.1) (b:=k))
    clear hiq hx hcell hkx hr hlo hhi hkk
    go_wp2_with fail
    refine(cmp_any _ x.1 k x.2).mono ?_
    rintro e w' ⟨rfl,f2⟩
    go_wp2_with fail
    go_ret2
    refine⟨?_,fr.trans f2⟩
    rw[HI.out,HK.out,←HX.out]
    rfl
   ·obtain rfl:a'=l.length:=by omega
    have hkk:hasK l k=false:=by
     rw[←Bool.not_eq_true,hasK_iff]
     intro hm
     have:=idx_mem HS.out hm
     rw[hiq] at this
     have:=(List.getElem?_eq_some_iff.1 this).1
     rw[HL.out] at this
     omega
    have HK:=hid hkk
    clear hiq hkk hlo hhi
    go_wp2
    go_ret2
    exact⟨by rw[HI.out,HK.out];rfl,fr⟩
theorem getK_some {l:List Ent}(hs:Srt (keys l)){k:ByteArray}(h:hasK l k=true):∃ x,l[idx (keys l) k]? = some x∧x.1=k:=by
 have:=idx_mem hs (hasK_iff.1 h)
 simp only[keys,List.getElem?_map,Option.map_eq_some_iff] at this
 obtain⟨x,h1,h2⟩:=this
 exact⟨x,h1,h2⟩
theorem find_any (w:World)(B r:Nat)(l:List Ent)(k:ByteArray)(h:MapAt w B r l) :
  Calls Tryz.prog 230 #[.pointer (some ⟨r,0,none⟩),.string k] w fun e w'=>e = .returned (.tuple #[.int .i64 (idx (keys l) k),.bool (hasK l k)])∧Fr [] w w':=by
 obtain⟨v,h1,h2⟩:=h.at_
 have c0:=h1.cell 0
 have hs:=hid h.srt
 have hl:=h.len
 go_enter Tryz.func230,Tryz.ntmps230
 go_wp2_with fail
 refine(search_any w B v l k hs.out hl h2).mono ?_
 rintro e w' ⟨rfl,f1⟩
 go_wp2_with fail
 go_ret2
 exact⟨rfl,f1⟩
theorem get_no (w:World)(B r:Nat)(l:List Ent)(k:ByteArray)(h:MapAt w B r l)(hk:hasK l k=false) :
  Calls Tryz.prog 196 #[.pointer (some ⟨r,0,none⟩),.string k] w fun e w'=>e = .returned (.tuple #[.int .i64 0,.bool false])∧Fr [] w w':=by
 have HK:=hid hk
 clear hk
 go_enter Tryz.func196,Tryz.ntmps196
 go_wp2_with fail
 refine(find_any w B r l k h).mono ?_
 rintro e w' ⟨rfl,f1⟩
 rw[HK.out]
 go_wp2_with fail
 go_ret2
 exact⟨rfl,f1⟩
theorem get_yes (w:World)(B r:Nat)(l:List Ent)(k:ByteArray)(x:Ent)(h:MapAt w B r l)(hk:hasK l k=true)(hx:l[idx (keys l) k]? = some x) :
  Calls Tryz.prog 196 #[.pointer (some ⟨r,0,none⟩),.string k] w fun e w'=>e = .returned (.tuple #[x.2,.bool true])∧Fr [] w w':=by
 have HK:=hid hk
 clear hk
 go_enter Tryz.func196,Tryz.ntmps196
 go_wp2_with fail
 refine(find_any w B r l k h).mono ?_
 rintro e w' ⟨rfl,f1⟩
 rw[HK.out]
 obtain⟨v,h1,h2⟩:=(h.fr0 f1).at_
 obtain⟨g,c2,hg,rfl,hr,hgl,hcell⟩:=h2.cell cs_len rfl hx
 have c0:=h1.cell 0
 have hm:=(List.getElem?_eq_some_iff.1 hx).1
 have hmn:(idx (keys l) k:Int)<(l.length:Int):=by omega
 obtain⟨m,hm'⟩:∃ m,idx (keys l) k=m:=⟨_,rfl⟩
 rw[hm'] at hx hm hmn hcell ⊢
 have q0:w'.cell? ⟨g,m*2,none⟩=some (.string x.1):=hcell 0 _ (by omega) rfl
 have q1:w'.cell? ⟨g,m*2+1,none⟩=some x.2:=hcell 1 _ (by omega) rfl
 clear hm' hx hcell hr h h2
 go_wp2_with fail
 go_ret2
 exact⟨rfl,f1⟩
theorem cs_one {x:Ent}(h:x.2.oneCell'=true):∀ u∈cs x,u.oneCell'=true:=by
 intro u hu
 simp only[cs,List.mem_cons,List.not_mem_nil,or_false] at hu
 rcases hu with rfl|rfl
 ·rfl
 ·exact h
theorem insert_end (w:World)(B:Nat)(v:Value)(l:List Ent)(x:Ent)(vb n:Nat)(h:Own w B 327 2 v n (flat cs l))(hb:Cells w (some ⟨vb,0,none⟩) (cs x))(h1:x.2.oneCell'=true)(hl:n≤1000)(hB:B≤w.heap.size) :
  Calls Tryz.prog 233 #[v,.int .i64 n,.slice (some ⟨vb,0,none⟩) 1 1] w fun e w'=>∃ v',e = .returned v'∧Own w' B 327 2 v' (n+1) (flat cs l++cs x)∧Fr (ownOf v).toList w w'∧(ownOf v'=ownOf v∨∃ g,ownOf v'=some g∧w.heap.size≤g):=by
 obtain⟨i5,hi,hz0,hz1,hz2⟩:=info_parts infoE
 have hs:=h.sl
 have h0:∀ g,ownOf v=some g→B≤g:=fun g hg=>(h.ty hg).2
 have H0:=hid h0
 have H1:=hid h1
 clear h0 h1
 rcases h with⟨rfl,rfl,_⟩|⟨g,cap,hg,rfl,hr⟩
 ·go_enter Tryz.func233,Tryz.ntmps233
  go_wp2_with (at_builtin;refine wpList_append_sl rfl (.tmp 23) (.tmp 24) 204 rfl i5 _ 24 Tryz.underlying204 hi hz0 hz1 hz2 rfl (by decide) _ _ rfl hs _ 1 1 (cs x) rfl rfl hb (cs_one H1.out) (by unfold maxLen;omega) (by omega) ?_;intro v' w2 own' hs1 hf1 ho1 hm1)
  go_ret
  obtain⟨k1,k2⟩:=own_after hB H0.out hs1 ho1 (hm1 (by omega))
  exact⟨v',rfl,k1,hf1,k2 ▸ ho1⟩
 ·have hle:=hr.le
  go_enter Tryz.func233,Tryz.ntmps233
  go_wp2_with (at_builtin;refine wpList_append_sl rfl (.tmp 23) (.tmp 24) 204 rfl i5 _ 24 Tryz.underlying204 hi hz0 hz1 hz2 rfl (by decide) _ _ rfl hs _ 1 1 (cs x) rfl rfl hb (cs_one H1.out) (by unfold maxLen;omega) (by omega) ?_;intro v' w2 own' hs1 hf1 ho1 hm1)
  all_goals
   go_ret
   obtain⟨k1,k2⟩:=own_after hB H0.out hs1 ho1 (hm1 (by omega))
   exact⟨v',rfl,k1,hf1,k2 ▸ ho1⟩
theorem put_end (w:World)(B r:Nat)(l:List Ent)(k:ByteArray)(z:Int)(h:MapAt w B r l)(hk:∀ x∈l,kl x.1<kl k)(hl:l.length<1000)(hB:B≤w.heap.size)(hr:B≤r) :
  Calls Tryz.prog 200 #[.pointer (some ⟨r,0,none⟩),.string k,.int .i64 z] w fun e w'=>e = .returned (.bool true)∧MapAt w' B r (l++[(k,.int .i64 z)])∧FrX B [327] [r] w w':=by
 have hno:hasK l k=false:=by
  rw[←Bool.not_eq_true,hasK_iff]
  intro hm
  obtain⟨x,hx,rfl⟩:=List.mem_map.1 hm
  exact kl_irrefl _ (hk x hx)
 have hidx:idx (keys l) k=l.length:=idx_eq (by simp[keys]) (fun t y hy _=>by
  obtain⟨x,hx,rfl⟩:=List.mem_map.1 (List.mem_of_getElem? hy)
  exact hk x hx) (fun t y hy ht=>by
  have:=(List.getElem?_eq_some_iff.1 hy).1
  simp[keys] at this
  omega)
 have hsrt:Srt (keys (l++[(k,.int .i64 z)])):=by
  have:=h.srt
  unfold Srt keys at *
  rw[List.map_append,List.pairwise_append]
  refine⟨this,by simp,?_⟩
  intro a ha b hb
  simp at hb
  subst hb
  obtain⟨x,hx,rfl⟩:=List.mem_map.1 ha
  exact hk x hx
 have HN:=hid hno
 have HI:=hid hidx
 have HS:=hid hsrt
 have HO:=hid h.one
 clear hno hidx hsrt hk
 go_enter Tryz.func200,Tryz.ntmps200
 go_wp2_with fail
 refine(find_any w B r l k h).mono ?_
 rintro e w1 ⟨rfl,f1⟩
 rw[HN.out,HI.out]
 obtain⟨v,h1,h2⟩:=(h.fr0 f1).at_
 have c0:=h1.cell 0
 have hB1:=f1.size
 have f2:Fr [] w1 (w1.alloc (.cells #[.string k,.int .i64 z] 327)):=(Fr.refl _ _).alloc _
 have hb:=Holds.new w1 327 #[.string k,.int .i64 z]
 have hty:=fun g (hg:ownOf v=some g)=>h2.ty hg
 have HT:=hid hty
 clear hty
 go_wp2_with fail
 refine(insert_end _ B v l (k,.int .i64 z) _ l.length (h2.fr0 f2) (fun j u hu=>⟨_,rfl,by rw[at_add,Nat.zero_add,hb.cell j];simpa[cs] using hu⟩) rfl (by omega) (by simp;omega)).mono ?_
 rintro e w2 ⟨v',rfl,q1,q2,q3⟩
 obtain⟨a',c',rfl⟩:=q1.form
 have hrv:∀ g,ownOf v=some g→r≠g:=fun g hg e=>by
  have:=(HT.out g hg).1
  rw[←e,h1.ty] at this
  cases this
 have h1':=(h1.fr f2 (by simp)).fr q2 (by intro hx;exact hrv r (by simpa using hx) rfl)
 have d0:=h1'.frozen 0
 have d1:=h1'.cell 0
 clear c0
 go_wp2_with fail
 go_ret
 have hne:∀ g,ownOf (.slice a' (l.length+1) c')=some g→r≠g:=fun g hg=>by
  rcases q3 with q3|⟨g',a,b⟩
  ·exact hrv g (q3 ▸ hg)
  ·rw[a] at hg
   cases hg
   have:=h1.lt
   simp at b
   omega
 refine⟨rfl,⟨HS.out,by simp;omega,?_,_,h1'.set 0 _,?_⟩,?_⟩
 ·intro x hx
  rcases List.mem_append.1 hx with hx|hx
  ·exact HO.out x hx
  ·simp at hx
   subst hx
   rfl
 ·have e1:flat cs (l++[(k,.int .i64 z)])=flat cs l++cs (k,.int .i64 z):=by rw[flat_append,flat_one]
  rw[e1,List.length_append]
  exact q1.fr ((Fr.refl [r] w2).setCell (by simp) _) (fun g hg=>by simpa using (hne g hg).symm)
 ·have g1:FrX B [327] [r] w w1:=FrX.of_fr0 f1
  have g2:FrX B [327] [r] w1 w2:=(FrX.of_fr0 f2).trans (FrX.of_frT q2 (fun x hx=>(HT.out x (by simpa using hx)).2) (fun x hx=>⟨327,by simp,(h2.fr0 f2).ty (by simpa using hx) |>.1⟩))
  have g3:FrX B [327] [r] w2 (w2.setCell ⟨r,0,none⟩ (.slice a' (l.length+1) c')):=FrX.of_fr ((Fr.refl [r] w2).setCell (by simp) _) (by simpa using hr)
  exact g1.trans (g2.trans g3)
theorem zeroE (w:World):(zeroValue 327).run Tryz.prog w = .ok (.agg #[.string ByteArray.empty,.int .i64 0]) w:=by kernel_rfl
theorem delete_any (w:World)(g cap k:Nat)(l:List Ent)(hr:Row w 327 2 g l.length cap (flat cs l))(hone:∀ u∈flat cs (l.drop (k+1)),u.oneCell'=true)(hk:k<l.length)(hl:l.length≤1000) :
  Calls Tryz.prog 280 #[.slice (some ⟨g,0,none⟩) l.length cap,.int .i64 k,.int .i64 ((k:Int)+1)] w fun e w'=>e = .returned (.slice (some ⟨g,0,none⟩) (l.length - 1) cap)∧Row w' 327 2 g (l.length - 1) cap (flat cs (l.take k++l.drop (k+1)))∧Fr [g] w w':=by
 obtain⟨i2,hi,hz0,hz1,hz2⟩:=info_parts infoE
 obtain⟨n,hn⟩:∃ n,n=l.length:=⟨_,rfl⟩
 have hle:=hr.le
 have hcm:=hr.cap_le
 unfold maxLen at hcm
 rw[←hn] at hle hr hk hl ⊢
 have hnews:Cells w (some ⟨g,(k+1)*2,none⟩) (flat cs (l.drop (k+1))):=by
  have:=hr.cells.drop ((k+1)*2)
  rw[flat_drop cs_len]
  simpa using this
 have hlen:(flat cs (l.drop (k+1))).length=(n - (k+1))*2:=by rw[flat_length cs_len,List.length_drop,←hn]
 obtain⟨A,hA,hsrc⟩:∃ A:Addr,(if cap=k+1 then some (⟨g,0,none⟩:Addr) else some ⟨g,(k+1)*2,none⟩)=some A∧Cells w (some A) (flat cs (l.drop (k+1))):=by
  by_cases h:cap=k+1
  ·refine⟨⟨g,0,none⟩,by simp[h],?_⟩
   have e0:flat cs (l.drop (k+1))=[]:=List.eq_nil_of_length_eq_zero (by omega)
   rw[e0]
   exact Cells.nil _
  ·exact⟨_,by simp[h],hnews⟩
 have hkc:k≤cap:=by omega
 have hkc1:k+1≤cap:=by omega
 have hi0:(0:Int)≤(k:Int)+1:=by omega
 have hi1:(k:Int)+1≤(n:Int):=by omega
 have H1:=hid hn
 have H2:=hid hlen
 have H3:=hid hone
 clear hn hlen hone hnews
 go_enter Tryz.func280,Tryz.ntmps280
 go_wp2_with fail
 go_region_law ((refine step_append_in rfl (.tmp 22) (.tmp 25) 204 rfl i2 Tryz.underlying204 hi hz1 hr.drew k (by omega) (by simp[Act.eval,Act.put]) A (n - (k+1)) (cap - (k+1)) (flat cs (l.drop (k+1))) (by simp[Act.eval,Act.put]) H2.out (hsrc.fr0 ((Fr.refl [] w).drew)) H3.out (by omega) ?_;intro w1 hr1 f1))
 have e1:k+(n - (k+1))=n - 1:=by omega
 have e2:(flat cs l).take (k*2)++flat cs (l.drop (k+1))=flat cs (l.take k++l.drop (k+1)):=by rw[flat_append,flat_take cs_len]
 rw[e1,e2] at hr1
 rw[e1]
 clear e1 e2 hA hsrc hkc hkc1 hi0 hi1
 obtain⟨m,hm⟩:∃ m,m=n - 1:=⟨_,rfl⟩
 have e3:n=m+1:=by omega
 rw[←hm] at hr1 ⊢
 have HM:=hid hm
 subst e3
 clear hm
 have hA2:(if cap=m then some (⟨g,0,none⟩:Addr) else some ⟨g,m*2,none⟩)=some ⟨g,m*2,none⟩:=by rw[if_neg (by omega)]
 have hj0:(m:Int)≤(m:Int)+1:=by omega
 have hj1:m+1≤cap:=hle
 have hj2:m≤m+1:=by omega
 obtain⟨w2,hrun,hr2,f2⟩:=run_clear_row (sz:=2) 204 0 (.agg #[.string ByteArray.empty,.int .i64 0]) Tryz.underlying204 zeroE (by kernel_rfl) (by kernel_rfl) hr1 (m*2) 1 (cap - m) (by omega) (by omega)
 go_wp2
 go_ret
 exact⟨rfl,hr2,((Fr.refl [g] w).drew).trans (f1.trans f2)⟩
def dropK (l:List Ent)(i:Nat):List Ent:=l.take i++l.drop (i+1)
theorem dropK_srt {l:List Ent}(h:Srt (keys l))(i:Nat):Srt (keys (dropK l i)):=by
 have hs:(dropK l i).Sublist l:=by
  unfold dropK
  rw[show l.take i++l.drop (i+1)=l.eraseIdx i from (List.eraseIdx_eq_take_drop_succ l i).symm]
  exact List.eraseIdx_sublist l i
 exact h.sublist (hs.map _)
theorem del_yes (w:World)(B r:Nat)(l:List Ent)(k:ByteArray)(h:MapAt w B r l)(hk:hasK l k=true)(hB:B≤w.heap.size)(hr:B≤r) :
  Calls Tryz.prog 238 #[.pointer (some ⟨r,0,none⟩),.string k] w fun e w'=>e = .returned (.bool true)∧MapAt w' B r (dropK l (idx (keys l) k))∧FrX B [327] [r] w w':=by
 obtain⟨x,hx,_⟩:=getK_some h.srt hk
 have HK:=hid hk
 have HS:=hid h.srt
 have HO:=hid h.one
 clear hk
 go_enter Tryz.func238,Tryz.ntmps238
 go_wp2_with fail
 refine(find_any w B r l k h).mono ?_
 rintro e w1 ⟨rfl,f1⟩
 rw[HK.out]
 obtain⟨v,h1,h2⟩:=(h.fr0 f1).at_
 have hm:=(List.getElem?_eq_some_iff.1 hx).1
 obtain⟨m,hm'⟩:∃ m,idx (keys l) k=m:=⟨_,rfl⟩
 rw[hm'] at hx hm ⊢
 obtain⟨g,c,hg,rfl,hrow⟩:=h2.pos (by omega)
 have c0:=h1.cell 0
 have hl:=h.len
 have hty:=h2.ty (g:=g) rfl
 have hrg:r≠g:=fun e=>by
  have:=hty.1
  rw[←e,h1.ty] at this
  cases this
 have HM:=hid hm'
 clear hm' hx h h2
 go_wp2_with fail
 refine(delete_any w1 g c m l hrow (fun u hu=>?_) hm hl).mono ?_
 ·simp only[flat,List.mem_flatMap] at hu
  obtain⟨y,hy,hu⟩:=hu
  exact cs_one (HO.out y (List.mem_of_mem_drop hy)) u hu
 rintro e w2 ⟨rfl,hrow2,f2⟩
 have h1':=h1.fr f2 (by simpa using hrg)
 have d0:=h1'.frozen 0
 have d1:=h1'.cell 0
 clear c0
 go_wp2_with fail
 go_ret
 have hlen:(dropK l m).length=l.length - 1:=by simp[dropK];omega
 rw[HM.out]
 refine⟨rfl,⟨dropK_srt HS.out m,by omega,?_,_,h1'.set 0 _,?_⟩,?_⟩
 ·intro y hy
  unfold dropK at hy
  rcases List.mem_append.1 hy with hy|hy
  ·exact HO.out y (List.mem_of_mem_take hy)
  ·exact HO.out y (List.mem_of_mem_drop hy)
 ·rw[hlen]
  exact .inr ⟨g,c,hg,rfl,hrow2.far (fun e=>hrg e.symm) _⟩
 ·have g1:FrX B [327] [r] w w1:=FrX.of_fr0 f1
  have g2:FrX B [327] [r] w1 w2:=FrX.of_frT f2 (by simpa using hg) (fun x hx=>⟨327,by simp,by simp at hx;subst hx;exact hty.1⟩)
  have g3:FrX B [327] [r] w2 (w2.setCell ⟨r,0,none⟩ (.slice (some ⟨g,0,none⟩) (l.length - 1) c)):=FrX.of_fr ((Fr.refl [r] w2).setCell (by simp) _) (by simpa using hr)
  exact g1.trans (g2.trans g3)
end Go.Proofs.YtjmkkcckfbnmeaaGreatDoor.Oi
namespace Go.Proofs.YtjmkkcckfbnmeaaGreatDoor.Rk
open Go.RowKit
def pc (p:Nat):List Value:=[.pointer (some ⟨p,0,none⟩)]
theorem pc_len (p:Nat):(pc p).length=1:=rfl
theorem infoP:(Tryz.prog.info? 168).map (fun i=>(i.zero,i.size,i.bytes))=some (some (.pointer none),1,8):=by kernel_rfl
structure RegAt (w:World)(B g n j:Nat)(l:List Oi.Ent):Prop where
 n1:1≤n
 n16:n≤16
 jn:j<n
 at_:∃ (vs:Value) (ps:List Nat),ps.length=n∧Holds w g 167 #[vs]∧Own w B 168 1 vs n (flat pc ps)∧ps.Nodup∧(∀ p,p∈ps→B≤p) ∧
  (∀ p,ps[j]? = some p→Oi.MapAt w B p l)∧∀ (i:Nat) p,ps[i]? = some p→i≠j→Holds w p 206 #[.slice none 0 0]
abbrev Ts:List TypeId:=[167,168,206,327]
theorem RegAt.fr0 {w w':World}{B g n j:Nat}{l:List Oi.Ent}(h:RegAt w B g n j l)(hf:Fr [] w w'):RegAt w' B g n j l:=by
 obtain⟨a,b,c,vs,ps,h1,h2,h3,h4,h5,h6,h7⟩:=h
 exact⟨a,b,c,vs,ps,h1,h2.fr hf (by simp),h3.fr0 hf,h4,h5,fun p hp=>(h6 p hp).fr0 hf,fun i p hp hi=>(h7 i p hp hi).fr hf (by simp)⟩
theorem RegAt.frx {w w':World}{B g n j:Nat}{l:List Oi.Ent}{Us:List TypeId}(h:RegAt w B g n j l)(hf:FrX B Us [] w w')(hU:∀ t,t∈Ts→t∉Us):RegAt w' B g n j l:=by
 obtain⟨a,b,c,vs,ps,h1,h2,h3,h4,h5,h6,h7⟩:=h
 exact⟨a,b,c,vs,ps,h1,h2.frx hf (hU _ (by simp)) (by simp),h3.frx0 hf (hU _ (by simp)),h4,h5,fun p hp=>(h6 p hp).frx hf (hU _ (by simp)) (hU _ (by simp)) (by simp),fun i p hp hi=>(h7 i p hp hi).frx hf (hU _ (by simp)) (by simp)⟩
def shardOf (k:ByteArray)(n:Nat):Nat:=(Fv.sumL k.data.toList % (n:Int)).toNat
theorem shardOf_lt (k:ByteArray){n:Nat}(h:1≤n):shardOf k n<n∧Fv.sumL k.data.toList % (n:Int)=(shardOf k n:Int):=by
 unfold shardOf
 have h1:=Int.emod_nonneg (Fv.sumL k.data.toList) (show (n:Int)≠0 by omega)
 have h2:=Int.emod_lt_of_pos (Fv.sumL k.data.toList) (show 0<(n:Int) by omega)
 omega
theorem shard_any (w:World)(B g n:Nat)(l:List Oi.Ent)(k:ByteArray)(h:RegAt w B g n (shardOf k n) l)(hk:k.size≤1000) :
  Calls Tryz.prog 195 #[.pointer (some ⟨g,0,none⟩),.string k] w fun e w'=>(∃ p,e = .returned (.pointer (some ⟨p,0,none⟩))∧∀ vs ps,Holds w g 167 #[vs]→Own w B 168 1 vs n (flat pc ps)→ps.length=n→ps[shardOf k n]? = some p)∧∃ m,w'=w.drewN m:=by
 obtain⟨n1,n16,jn,vs,ps,h1,h2,h3,h4,h5,h6,h7⟩:=h
 obtain⟨_,hsh⟩:=shardOf_lt k n1
 have hx:ps[shardOf k n]? = some ps[shardOf k n]:=List.getElem?_eq_getElem (by omega)
 obtain⟨p,hp⟩:∃ p,ps[shardOf k n]'(by omega)=p:=⟨_,rfl⟩
 rw[hp] at hx
 clear hp
 obtain⟨m,hm⟩:∃ m,shardOf k n=m:=⟨_,rfl⟩
 rw[hm] at hsh hx jn
 obtain⟨gq,cq,hgq,rfl,hr,hgl,hcell⟩:=h3.cell pc_len h1.symm hx
 have q0:w.cell? ⟨gq,m,none⟩=some (.pointer (some ⟨p,0,none⟩)):=by have:=hcell 0 _ (by omega) rfl;simpa using this
 have c0:=h2.cell 0
 simp at c0
 have hu:∀ vs' ps',Holds w g 167 #[vs']→Own w B 168 1 vs' n (flat pc ps')→ps'.length=n→ps'[shardOf k n]? = some p:=by
  intro vs' ps' a b c
  have e:=a.cell 0
  rw[c0] at e
  simp at e
  subst e
  have hx':ps'[m]? = some ps'[m]:=List.getElem?_eq_getElem (by omega)
  obtain⟨_,_,_,hv,_,_,hcell'⟩:=b.cell pc_len c.symm hx'
  have q1:=hcell' 0 _ (by omega) rfl
  cases hv
  simp only[Nat.mul_one,Nat.add_zero] at q1
  rw[q0] at q1
  rw[hm,hx']
  simp at q1
  rw[←q1]
 have HU:=hid hu
 have HS:=hid hsh
 have hjn:(m:Int)<(n:Int):=by omega
 have hkm:k.size≤maxLen:=by unfold maxLen;omega
 have HC:=hid (fun x:Nat=>(by have:=Fv.shard_any k n (w.drewN x) hkm (by omega) (by omega);rw[HS.out] at this;exact this:Calls Tryz.prog 229 #[.string k,.int .i64 n] (w.drewN x) fun e w'=>e = .returned (.int .i64 m)∧w.drewN x=w'))
 clear hm h2 h3 h4 h5 h6 h7 hr hcell hx hu hsh
 go_enter Tryz.func195,Tryz.ntmps195
 go_wp2_with fail
 go_quiet ((go_at_call 229;exact quiet_same (HC.out _)))
 go_wp2_with fail
 go_ret
 exact⟨⟨p,rfl,HU.out⟩,_,rfl⟩
theorem find_no (w:World)(B g n:Nat)(l:List Oi.Ent)(k:ByteArray)(h:RegAt w B g n (shardOf k n) l)(hk:k.size≤1000)(hno:Oi.hasK l k=false) :
  Calls Tryz.prog 151 #[.pointer (some ⟨g,0,none⟩),.string k] w fun e w'=>e = .returned (.int .i64 (-1))∧Fr [] w w':=by
 have HN:=hid hno
 clear hno
 go_enter Tryz.func151,Tryz.ntmps151
 go_wp2_with fail
 refine(shard_any w B g n l k h hk).mono ?_
 rintro e w1 ⟨⟨p,rfl,hu⟩,m,rfl⟩
 obtain⟨n1,n16,jn,vs,ps,h1,h2,h3,h4,h5,h6,h7⟩:=h
 have hp:=h6 p (hu vs ps h2 h3 h1)
 have f1:Fr [] w (w.drewN m):=(Fr.refl _ _).drewN m
 have HP:=hid (hp.fr0 f1)
 clear hu h6 h7 hp h2 h3 h4 h5
 go_wp2_with fail
 refine(Oi.get_no _ B p l k HP.out HN.out).mono ?_
 rintro e w2 ⟨rfl,f2⟩
 go_wp2_with fail
 go_ret
 exact⟨rfl,f1.trans f2⟩
theorem find_yes (w:World)(B g n:Nat)(k:ByteArray)(id:Int)(h:RegAt w B g n (shardOf k n) [(k,.int .i64 id)])(hk:k.size≤1000) :
  Calls Tryz.prog 151 #[.pointer (some ⟨g,0,none⟩),.string k] w fun e w'=>e = .returned (.int .i64 id)∧Fr [] w w':=by
 have hyes:Oi.hasK [(k,.int .i64 id)] k=true:=by simp[Oi.hasK,Oi.keys]
 have hx:([(k,.int .i64 id)]:List Oi.Ent)[idx (Oi.keys [(k,.int .i64 id)]) k]? = some (k,.int .i64 id):=by
  have:idx (Oi.keys [(k,.int .i64 id)]) k=0:=idx_eq (by simp) (lo_zero _ _) (fun t x hx _=>by
   match t,hx with
   | 0,hx=>simp[Oi.keys] at hx;subst hx;exact kl_irrefl _)
  rw[this]
  rfl
 have HN:=hid hyes
 have HX:=hid hx
 clear hyes hx
 go_enter Tryz.func151,Tryz.ntmps151
 go_wp2_with fail
 refine(shard_any w B g n _ k h hk).mono ?_
 rintro e w1 ⟨⟨p,rfl,hu⟩,m,rfl⟩
 obtain⟨n1,n16,jn,vs,ps,h1,h2,h3,h4,h5,h6,h7⟩:=h
 have hp:=h6 p (hu vs ps h2 h3 h1)
 have f1:Fr [] w (w.drewN m):=(Fr.refl _ _).drewN m
 have HP:=hid (hp.fr0 f1)
 clear hu h6 h7 hp h2 h3 h4 h5
 go_wp2_with fail
 refine(Oi.get_yes _ B p _ k _ HP.out HN.out HX.out).mono ?_
 rintro e w2 ⟨rfl,f2⟩
 go_wp2_with fail
 go_ret
 exact⟨rfl,f1.trans f2⟩
theorem RegAt.shard {w w':World}{B g n j:Nat}{l l':List Oi.Ent}{vs:Value}{ps:List Nat}{p:Nat}(n1:1≤n)(n16:n≤16)(jn:j<n)(h1:ps.length=n)(h2:Holds w g 167 #[vs])(h3:Own w B 168 1 vs n (flat pc ps))(h4:ps.Nodup)(h5:∀ p,p∈ps→B≤p)
  (h7:∀ (i:Nat) p,ps[i]? = some p→i≠j→Holds w p 206 #[.slice none 0 0]) (hp:ps[j]? = some p) (hm:Oi.MapAt w' B p l') (hty:tyOf w p=some 206) (hf:FrX B [327] [p] w w'):RegAt w' B g n j l':=by
 refine⟨n1,n16,jn,vs,ps,h1,h2.frx hf (by decide) (fun hx=>?_),h3.frx hf (by decide) (fun q hq hx=>?_),h4,h5,fun q hq=>?_,fun i q hq hi=>?_⟩
 ·simp at hx
  subst hx
  rw[h2.ty] at hty
  cases hty
 ·simp at hx
  subst hx
  rw[(h3.ty hq).1] at hty
  cases hty
 ·rw[hp] at hq
  cases hq
  exact hm
 ·refine(h7 i q hq hi).frx hf (by decide) (fun hx=>?_)
  simp at hx
  subst hx
  have a:=List.getElem?_eq_some_iff.1 hq
  have b:=List.getElem?_eq_some_iff.1 hp
  rcases Nat.lt_or_gt_of_ne hi with h|h
  ·exact List.pairwise_iff_getElem.1 h4 i j a.1 b.1 h (a.2.trans b.2.symm)
  ·exact List.pairwise_iff_getElem.1 h4 j i b.1 a.1 h (b.2.trans a.2.symm)
theorem add_any (w:World)(B g n:Nat)(k:ByteArray)(id:Int)(h:RegAt w B g n (shardOf k n) [])(hk:k.size≤1000)(hiq:0≤id)(hB:B≤w.heap.size) :
  Calls Tryz.prog 156 #[.pointer (some ⟨g,0,none⟩),.string k,.int .i64 id] w fun e w'=>e = .returned (.bool true)∧RegAt w' B g n (shardOf k n) [(k,.int .i64 id)]∧FrX B Ts [] w w':=by
 go_enter Tryz.func156,Tryz.ntmps156
 go_wp2_with fail
 refine(find_no w B g n [] k h hk rfl).mono ?_
 rintro e w0 ⟨rfl,f0⟩
 have h0:=h.fr0 f0
 clear h
 go_wp2_with fail
 refine(shard_any w0 B g n [] k h0 hk).mono ?_
 rintro e w1 ⟨⟨p,rfl,hu⟩,m,rfl⟩
 obtain⟨n1,n16,jn,vs,ps,h1,h2,h3,h4,h5,h6,h7⟩:=h0
 have hpj:=hu vs ps h2 h3 h1
 have f1:Fr [] w0 (w0.drewN m):=(Fr.refl _ _).drewN m
 have HP:=hid ((h6 p hpj).fr0 f1)
 have HR:=hid (fun w' l'=>RegAt.shard (w':=w') (l:=[]) (l':=l') n1 n16 jn h1 (h2.fr f1 (by simp)) (h3.fr0 f1) h4 h5 (fun i q a b=>(h7 i q a b).fr f1 (by simp)) hpj)
 have HB:=hid (h5 p (List.mem_of_getElem? hpj))
 have hsz:=(f0.trans f1).size
 clear hu h6 h7 h2 h3 h4 h5 hpj
 go_wp2_with fail
 refine(Oi.put_end _ B p [] k id HP.out (by simp) (by simp) (by omega) HB.out).mono ?_
 rintro e w2 ⟨rfl,q1,q2⟩
 go_wp2_with fail
 go_ret
 obtain⟨v,hv,_⟩:=HP.out.at_
 refine⟨rfl,HR.out _ _ (by simpa using q1) hv.ty q2,?_⟩
 exact(FrX.of_fr0 (f0.trans f1)).trans ((q2.mono (T:=[p]) (by simp) (fun _ h=>h)).shed (fun x hx=>.inr (.inr ⟨206,by simp,by simp at hx;subst hx;exact hv.ty⟩)))
theorem remove_any (w:World)(B g n:Nat)(k:ByteArray)(id:Int)(h:RegAt w B g n (shardOf k n) [(k,.int .i64 id)])(hk:k.size≤1000)(hiq:0≤id)(hB:B≤w.heap.size) :
  Calls Tryz.prog 207 #[.pointer (some ⟨g,0,none⟩),.string k,.int .i64 id] w fun e w'=>e = .returned (.bool true)∧RegAt w' B g n (shardOf k n) []∧FrX B Ts [] w w':=by
 have hdrop:Oi.dropK [(k,.int .i64 id)] (idx (Oi.keys [(k,.int .i64 id)]) k)=[]:=by
  have:idx (Oi.keys [(k,.int .i64 id)]) k=0:=idx_eq (by simp) (lo_zero _ _) (fun t x hx _=>by
   match t,hx with
   | 0,hx=>simp[Oi.keys] at hx;subst hx;exact kl_irrefl _)
  rw[this]
  rfl
 have HD:=hid hdrop
 clear hdrop
 go_enter Tryz.func207,Tryz.ntmps207
 go_wp2_with fail
 refine(find_yes w B g n k id h hk).mono ?_
 rintro e w0 ⟨rfl,f0⟩
 have h0:=h.fr0 f0
 clear h
 go_wp2_with fail
 refine(shard_any w0 B g n _ k h0 hk).mono ?_
 rintro e w1 ⟨⟨p,rfl,hu⟩,m,rfl⟩
 obtain⟨n1,n16,jn,vs,ps,h1,h2,h3,h4,h5,h6,h7⟩:=h0
 have hpj:=hu vs ps h2 h3 h1
 have f1:Fr [] w0 (w0.drewN m):=(Fr.refl _ _).drewN m
 have HP:=hid ((h6 p hpj).fr0 f1)
 have HR:=hid (fun w' l'=>RegAt.shard (w':=w') (l:=[]) (l':=l') n1 n16 jn h1 (h2.fr f1 (by simp)) (h3.fr0 f1) h4 h5 (fun i q a b=>(h7 i q a b).fr f1 (by simp)) hpj)
 have HB:=hid (h5 p (List.mem_of_getElem? hpj))
 have hsz:=(f0.trans f1).size
 clear hu h6 h7 h2 h3 h4 h5 hpj
 go_wp2_with fail
 refine(Oi.del_yes _ B p _ k HP.out (by simp[Oi.hasK,Oi.keys]) (by omega) HB.out).mono ?_
 rintro e w2 ⟨rfl,q1,q2⟩
 rw[HD.out] at q1
 go_wp2_with fail
 go_ret
 obtain⟨v,hv,_⟩:=HP.out.at_
 refine⟨rfl,HR.out _ _ q1 hv.ty q2,?_⟩
 exact(FrX.of_fr0 (f0.trans f1)).trans ((q2.mono (T:=[p]) (by simp) (fun _ h=>h)).shed (fun x hx=>.inr (.inr ⟨206,by simp,by simp at hx;subst hx;exact hv.ty⟩)))
theorem new_nil (w:World):Calls Tryz.prog 90 #[] w fun e w'=>∃ r,e = .returned (.pointer (some ⟨r,0,none⟩))∧w.heap.size≤r∧Holds w' r 206 #[.slice none 0 0]∧Fr [] w w':=by
 go_enter Tryz.func90,Tryz.ntmps90
 go_wp2
 go_ret
 exact⟨_,rfl,Nat.le_refl _,Holds.new _ _ _,(Fr.refl _ _).alloc _⟩
theorem new_any (w:World)(B:Nat)(n j:Nat)(n1:1≤n)(n16:n≤16)(hj:j<n)(hB:B≤w.heap.size) :
  Calls Tryz.prog 49 #[.int .i64 n] w fun e w'=>∃ g,e = .returned (.pointer (some ⟨g,0,none⟩))∧w.heap.size≤g∧RegAt w' B g n j []∧Fr [] w w':=by
 obtain⟨i3,hi,hz0,hz1,hz2⟩:=info_parts infoP
 have hm:¬ (n:Int)<1:=by omega
 go_enter Tryz.func49,Tryz.ntmps49
 go_wp2
 go_loopw [8] (fun i wr=>∃ (k:Nat) (vs:Value) (ps:List Nat),k≤n∧i = .int .i64 k∧ps.length=k∧Holds wr w.heap.size 167 #[vs]∧Own wr w.heap.size 168 1 vs k (flat pc ps)∧ps.Nodup∧(∀ p,p∈ps→w.heap.size≤p∧Holds wr p 206 #[.slice none 0 0])∧Fr [] w wr) (fun i _=>n - (intOf i).toNat)
 case atStart=>exact⟨0,.slice none 0 0,[],Nat.zero_le _,rfl,rfl,Holds.new _ _ _,Own.nil _ _ _ _,by simp,by simp,(Fr.refl _ _).alloc _⟩
 case round =>
  obtain⟨k,vs,ps,hk,rfl,hpl,h1,h2,hnd,hps,fr⟩:=hrel
  by_cases hlt:k<n
  ·obtain⟨av,cv,rfl⟩:=h2.form
   have c0:=h1.cell 0
   simp at c0
   have hk1:(k:Int)<(n:Int):=by omega
   have hwl:=h1.lt
   have HT:=hid (fun q (hq:ownOf (.slice av k cv)=some q)=>h2.ty hq)
   have HG:=hid (show w.heap.size∉(ownOf (.slice av k cv)).toList from fun hx=>by
    have:=(h2.ty (g:=w.heap.size) (by simpa using hx)).1
    rw[h1.ty] at this
    cases this)
   have H1:=hid h1
   have H2:=hid h2
   have HP:=hid hps
   clear h1 h2 hps
   go_wp2_with fail
   go_region_law (first
    | (refine step_append_sl rfl (.tmp 14) (.tmp 16) 165 rfl i3 _ 8 Tryz.underlying165 hi hz0 hz1 hz2 rfl (by decide) _ (ownOf (.slice av k cv)) rfl (H2.out.sl.fr0 (f2.alloc (.cells #[.pointer (some ⟨r,0,none⟩)] 168))) _ 1 1 [.pointer (some ⟨r,0,none⟩)] rfl rfl (Cells.one (at_new (cs:=#[.pointer (some ⟨r,0,none⟩)]) (t:=168) rfl)) (by simp[Value.oneCell']) (by unfold maxLen;omega) (by omega) ?_;intro v3 w3 own3 hs3 hf3 ho3 hm3;obtain⟨a3,c3,rfl⟩:=hs3.form;have f3:Fr (ownOf (.slice av k cv)).toList wr w3:=(f2.mono (by simp)).trans (((Fr.refl _ _).alloc _).trans hf3);have r1:=H1.out.fr f3 HG.out;have d1:=r1.cell 0;have t1:=r1.frozen 0;simp at d1)
    | (go_simp;go_at_call 90;refine(new_nil _).mono ?_;rintro e w2 ⟨r,rfl,hr2,q2,f2'⟩;have f2:Fr [] wr w2:=((Fr.refl [] wr).drew).trans f2';have e0:=(H1.out.fr f2 (by simp)).cell 0;have hwl2:=(H1.out.fr f2 (by simp)).lt;simp at e0))
   all_goals
    go_wp2_with fail
    go_roundw
    case rel =>
     have hsz:=fr.size
     have hsz2:=f2.size
     obtain⟨o3,e3⟩:=own_after (B:=w.heap.size) (v:=.slice av k cv) (w:=w2.alloc (.cells #[.pointer (some ⟨r,0,none⟩)] 168)) (by simp;omega) (fun q hq=>(HT.out q hq).2) hs3 ho3 (hm3 (by omega))
     have hng:∀ q,ownOf (.slice a3 (k+1) c3)=some q→q≠w.heap.size:=fun q hq=>by
      rw[e3] at hq
      rcases ho3 with h'|⟨x,h',hx⟩
      ·rintro rfl
       exact HG.out (by rw[←h'];simpa using hq)
      ·rw[h'] at hq
       cases hq
       simp at hx
       omega
     have hold:∀ q t cs,Holds wr q t cs→t≠168→q≠w.heap.size→Holds (w3.setCell ⟨w.heap.size,0,none⟩ (.slice a3 (k+1) c3)) q t cs:=fun q t cs hq ht hne=>by
      refine(hq.fr f3 (fun hx=>?_)).far hne _
      have:=(HT.out q (by simpa using hx)).1
      rw[hq.ty] at this
      cases this
      exact ht rfl
     have hnew:Holds (w3.setCell ⟨w.heap.size,0,none⟩ (.slice a3 (k+1) c3)) r 206 #[.slice none 0 0]:=by
      have hr2':wr.heap.size≤r:=by simpa using hr2
      refine(((q2.alloc _).fr hf3 (fun hx=>?_)).far (by simp;omega) _)
      have h':=HT.out r (by simpa using hx)
      have hlt:r<wr.heap.size:=by
       rcases H2.out with⟨hv,_⟩|⟨_,_,_,hv,hrow⟩
       ·rw[hv] at hx;simp[ownOf] at hx
       ·rw[hv] at hx;simp[ownOf] at hx;subst hx;exact hrow.lt
      omega
     refine⟨k+1,.slice a3 (k+1) c3,ps++[r],by omega,by go_num,by simp[hpl],by simpa using r1.set 0 (.slice a3 (k+1) c3),?_,?_,?_,fr.step ((f3.mono (T:=w.heap.size::(ownOf (.slice av k cv)).toList) (fun q hq=>List.mem_cons_of_mem _ hq)).setCell (p:=⟨w.heap.size,0,none⟩) (List.mem_cons_self ..) _) (fun q hq=>.inr (by
      rcases List.mem_cons.1 hq with rfl|hq
      ·exact Nat.le_refl _
      ·exact(HT.out q (by simpa using hq)).2))⟩
     ·have e:flat pc (ps++[r])=flat pc ps++[.pointer (some ⟨r,0,none⟩)]:=by rw[flat_append,flat_one];rfl
      rw[e]
      exact o3.fr ((Fr.refl [w.heap.size] w3).setCell (by simp) _) (fun q hq=>by simpa using hng q hq)
     ·rw[List.nodup_append]
      refine⟨hnd,by simp,fun a ha b hb=>?_⟩
      simp at hb
      subst hb
      have:=(HP.out a ha).2.lt
      simp at hr2
      omega
     ·intro p hp
      rcases List.mem_append.1 hp with hp|hp
      ·obtain⟨a,b⟩:=HP.out p hp
       refine⟨a,hold p _ _ b (by decide) (fun e=>?_)⟩
       have:=b.ty
       rw[e,H1.out.ty] at this
       cases this
      ·simp at hp
       subst hp
       exact⟨by simp at hr2;omega,hnew⟩
    case measure=>simp[intOf];omega
  ·obtain rfl:k=n:=by omega
   go_wp2
   go_ret
   refine⟨_,rfl,Nat.le_refl _,⟨n1,n16,hj,vs,ps,hpl,h1,?_,hnd,fun p hp=>Nat.le_trans hB (hps p hp).1,fun p hp=>?_,fun i p hp _=>(hps p (List.mem_of_getElem? hp)).2⟩,fr⟩
   ·rcases h2 with h|⟨g,c,hg,hv,hr⟩
    ·exact .inl h
    ·exact .inr ⟨g,c,by omega,hv,hr⟩
   ·exact⟨List.Pairwise.nil,by simp,by simp,_,(hps p (List.mem_of_getElem? hp)).2,Own.nil _ _ _ _⟩
end Go.Proofs.YtjmkkcckfbnmeaaGreatDoor.Rk
namespace Go.Proofs.YtjmkkcckfbnmeaaGreatDoor.Ob
open Go.RowKit
abbrev Ent:=ByteArray × Value
def cs (x:Ent):List Value:=[.string x.1,x.2]
theorem cs_len (x:Ent):(cs x).length=2:=rfl
def keys (l:List Ent):List ByteArray:=l.map (·.1)
def hasK (l:List Ent)(k:ByteArray):Bool:=(keys l).any fun x=>decide (x=k)
theorem hasK_iff {l:List Ent}{k:ByteArray} : hasK l k=true ↔ k∈keys l:=by simp[hasK]
theorem keys_get {l:List Ent}{i:Nat}{x:Ent}(h:l[i]? = some x):(keys l)[i]? = some x.1:=by simp[keys,h]
structure MapAt (w:World)(B r:Nat)(l:List Ent):Prop where
 srt:Srt (keys l)
 len:l.length≤1000
 one:∀ x∈l,x.2.oneCell'=true
 at_:∃ v,Holds w r 172 #[v]∧Own w B 329 2 v l.length (flat cs l)
theorem MapAt.fr0 {w w':World}{B r:Nat}{l:List Ent}(h:MapAt w B r l)(hf:Fr [] w w'):MapAt w' B r l:=by
 obtain⟨v,h1,h2⟩:=h.at_
 exact⟨h.srt,h.len,h.one,v,h1.fr hf (by simp),h2.fr0 hf⟩
theorem MapAt.frx {w w':World}{B r:Nat}{l:List Ent}{Ts:List TypeId}{S:List Nat}(h:MapAt w B r l)(hf:FrX B Ts S w w')(h1:172∉Ts)(h2:329∉Ts)
  (hS:∀ x,x∈S→∃ u,u≠172∧u≠329∧tyOf w x=some u):MapAt w' B r l:=by
 obtain⟨v,q1,q2⟩:=h.at_
 refine⟨h.srt,h.len,h.one,v,q1.frx hf h1 (q1.notin fun x hx=>?_),q2.frx hf h2 fun g hg hx=>?_⟩
 ·obtain⟨u,a,_,b⟩:=hS x hx
  exact⟨u,a,b⟩
 ·obtain⟨u,_,a,b⟩:=hS g hx
  rw[(q2.ty hg).1] at b
  cases b
  exact a rfl
theorem infoE:(Tryz.prog.info? 329).map (fun i=>(i.zero,i.size,i.bytes))=some (some (.agg #[.string ByteArray.empty,.pointer none]),2,24):=by kernel_rfl
theorem new_any (w:World)(B:Nat):Calls Tryz.prog 50 #[] w fun e w'=>∃ r,e = .returned (.pointer (some ⟨r,0,none⟩))∧w.heap.size≤r∧MapAt w' B r []∧Fr [] w w':=by
 go_enter Tryz.func50,Tryz.ntmps50
 go_wp2
 go_ret
 exact⟨_,rfl,Nat.le_refl _,⟨List.Pairwise.nil,by simp,by simp,_,Holds.new _ _ _,Own.nil _ _ _ _⟩,(Fr.refl _ _).alloc _⟩
theorem cmp_any (w:World)(key k:ByteArray)(v:Value):Calls Tryz.prog 263 #[.agg #[.string key,v],.string k] w fun e w'=>e = .returned (.int .i64 (Lib.compareBytes key.data.toList k.data.toList))∧Fr [] w w':=by
 go_enter Tryz.func263,Tryz.ntmps263
 go_wp2_with fail
 refine(compare_any key k _).mono ?_
 rintro e w' ⟨rfl,rfl⟩
 go_wp2
 go_ret
 exact⟨rfl,(Fr.refl _ _).alloc _⟩
theorem search_any (w:World)(B:Nat)(v:Value)(l:List Ent)(k:ByteArray)(hs:Srt (keys l))(hl:l.length≤1000)(h:Own w B 329 2 v l.length (flat cs l)) :
  Calls Tryz.prog 262 #[v,.string k,.func (.func 263) #[] #[]] w fun e w'=>e = .returned (.tuple #[.int .i64 (idx (keys l) k),.bool (hasK l k)])∧Fr [] w w':=by
 obtain⟨a,c,rfl⟩:=h.form
 have hkl:(keys l).length=l.length:=by simp[keys]
 have HL:=hid hkl
 have HS:=hid hs
 clear hkl hs
 go_enter Tryz.func262,Tryz.ntmps262
 go_wp2
 go_loopw [9,10] (fun i j wr=>∃ a b:Nat,a≤b∧b≤l.length∧i = .int .i64 a∧j = .int .i64 b∧Lo (keys l) k a∧Hi (keys l) k b∧Fr [] w wr) (fun i j _=>(intOf j).toNat - (intOf i).toNat)
 case atStart=>exact⟨0,l.length,Nat.zero_le _,Nat.le_refl _,rfl,rfl,lo_zero _ _,HL.out ▸ hi_all _ _,Fr.refl _ _⟩
 case round =>
  obtain⟨a',b,hab,hbn,rfl,rfl,hlo,hhi,fr⟩:=hrel
  by_cases hlt:a'<b
  ·have hlt':(a':Int)<(b:Int):=by omega
   obtain⟨m,hm⟩:∃ m:Nat,m=(a'+b) / 2:=⟨_,rfl⟩
   have hm1:a'≤m:=by omega
   have hm2:m<b:=by omega
   have hx:l[m]? = some l[m]:=List.getElem?_eq_getElem (by omega)
   obtain⟨x,hx'⟩:∃ x,l[m]'(by omega)=x:=⟨_,rfl⟩
   rw[hx'] at hx
   clear hx'
   obtain⟨g,c2,hg,hv,hr,hgl,hcell⟩:=(h.fr0 fr).cell cs_len rfl hx
   cases hv
   have q0:wr.cell? ⟨g,m*2,none⟩=some (.string x.1):=hcell 0 _ (by omega) rfl
   have q1:wr.cell? ⟨g,m*2+1,none⟩=some x.2:=hcell 1 _ (by omega) rfl
   have hkx:=keys_get hx
   have hmi:((a':Int)+(b:Int)) / 2=(m:Int):=by omega
   have hmn:(m:Int)<(l.length:Int):=by omega
   have HK:=hid hkx
   have HLo:=hid hlo
   have HHi:=hid hhi
   clear hm hx hcell hkx hr hlo hhi
   by_cases hc:Lib.compareBytes x.1.data.toList k.data.toList<0
   ·have HC:=hid (cmp_lt.1 hc)
    go_wp2_with fail
    refine(cmp_any _ x.1 k x.2).mono ?_
    rintro e w' ⟨rfl,f2⟩
    go_wp2_with fail
    go_roundw
    case rel=>exact⟨m+1,b,by omega,hbn,by go_num,rfl,lo_step HS.out HK.out HC.out,HHi.out,fr.trans f2⟩
    case measure=>simp[intOf];omega
   ·have HC:=hid (fun h=>hc (cmp_lt.2 h))
    go_wp2_with fail
    refine(cmp_any _ x.1 k x.2).mono ?_
    rintro e w' ⟨rfl,f2⟩
    go_wp2_with fail
    go_roundw
    case rel=>exact⟨a',m,hm1,by omega,rfl,rfl,HLo.out,hi_step HS.out HK.out HC.out,fr.trans f2⟩
    case measure=>simp[intOf];omega
  ·obtain rfl:a'=b:=by omega
   have hiq:=idx_eq (by rw[HL.out];exact hbn) hlo hhi
   have HI:=hid hiq
   by_cases hlt2:a'<l.length
   ·have hx:l[a']? = some l[a']:=List.getElem?_eq_getElem hlt2
    obtain⟨x,hx'⟩:∃ x,l[a']'(by omega)=x:=⟨_,rfl⟩
    rw[hx'] at hx
    clear hx'
    obtain⟨g,c2,hg,hv,hr,hgl,hcell⟩:=(h.fr0 fr).cell cs_len rfl hx
    cases hv
    have q0:wr.cell? ⟨g,a'*2,none⟩=some (.string x.1):=hcell 0 _ (by omega) rfl
    have q1:wr.cell? ⟨g,a'*2+1,none⟩=some x.2:=hcell 1 _ (by omega) rfl
    have hkx:=keys_get hx
    have hmn:(a':Int)<(l.length:Int):=by omega
    have hkk:hasK l k=decide (x.1=k):=by
     rw[Bool.eq_iff_iff,hasK_iff,decide_eq_true_eq]
     constructor
     ·intro hm
      have:=idx_mem HS.out hm
      rw[hiq,hkx] at this
      exact Option.some.inj this
     ·rintro rfl
      exact List.mem_of_getElem? hkx
    have HK:=hid hkk
    have HX:=hid (cmp_eq0 (a:=x.1) (b:=k))
    clear hiq hx hcell hkx hr hlo hhi hkk
    go_wp2_with fail
    refine(cmp_any _ x.1 k x.2).mono ?_
    rintro e w' ⟨rfl,f2⟩
    go_wp2_with fail
    go_ret2
    refine⟨?_,fr.trans f2⟩
    rw[HI.out,HK.out,←HX.out]
    rfl
   ·obtain rfl:a'=l.length:=by omega
    have hkk:hasK l k=false:=by
     rw[←Bool.not_eq_true,hasK_iff]
     intro hm
     have:=idx_mem HS.out hm
     rw[hiq] at this
     have:=(List.getElem?_eq_some_iff.1 this).1
     rw[HL.out] at this
     omega
    have HK:=hid hkk
    clear hiq hkk hlo hhi
    go_wp2
    go_ret2
    exact⟨by rw[HI.out,HK.out];rfl,fr⟩
theorem getK_some {l:List Ent}(hs:Srt (keys l)){k:ByteArray}(h:hasK l k=true):∃ x,l[idx (keys l) k]? = some x∧x.1=k:=by
 have:=idx_mem hs (hasK_iff.1 h)
 simp only[keys,List.getElem?_map,Option.map_eq_some_iff] at this
 obtain⟨x,h1,h2⟩:=this
 exact⟨x,h1,h2⟩
theorem find_any (w:World)(B r:Nat)(l:List Ent)(k:ByteArray)(h:MapAt w B r l) :
  Calls Tryz.prog 231 #[.pointer (some ⟨r,0,none⟩),.string k] w fun e w'=>e = .returned (.tuple #[.int .i64 (idx (keys l) k),.bool (hasK l k)])∧Fr [] w w':=by
 obtain⟨v,h1,h2⟩:=h.at_
 have c0:=h1.cell 0
 have hs:=hid h.srt
 have hl:=h.len
 go_enter Tryz.func231,Tryz.ntmps231
 go_wp2_with fail
 refine(search_any w B v l k hs.out hl h2).mono ?_
 rintro e w' ⟨rfl,f1⟩
 go_wp2_with fail
 go_ret2
 exact⟨rfl,f1⟩
theorem get_no (w:World)(B r:Nat)(l:List Ent)(k:ByteArray)(h:MapAt w B r l)(hk:hasK l k=false) :
  Calls Tryz.prog 197 #[.pointer (some ⟨r,0,none⟩),.string k] w fun e w'=>e = .returned (.tuple #[.pointer none,.bool false])∧Fr [] w w':=by
 have HK:=hid hk
 clear hk
 go_enter Tryz.func197,Tryz.ntmps197
 go_wp2_with fail
 refine(find_any w B r l k h).mono ?_
 rintro e w' ⟨rfl,f1⟩
 rw[HK.out]
 go_wp2_with fail
 go_ret2
 exact⟨rfl,f1⟩
theorem get_yes (w:World)(B r:Nat)(l:List Ent)(k:ByteArray)(x:Ent)(h:MapAt w B r l)(hk:hasK l k=true)(hx:l[idx (keys l) k]? = some x) :
  Calls Tryz.prog 197 #[.pointer (some ⟨r,0,none⟩),.string k] w fun e w'=>e = .returned (.tuple #[x.2,.bool true])∧Fr [] w w':=by
 have HK:=hid hk
 clear hk
 go_enter Tryz.func197,Tryz.ntmps197
 go_wp2_with fail
 refine(find_any w B r l k h).mono ?_
 rintro e w' ⟨rfl,f1⟩
 rw[HK.out]
 obtain⟨v,h1,h2⟩:=(h.fr0 f1).at_
 obtain⟨g,c2,hg,rfl,hr,hgl,hcell⟩:=h2.cell cs_len rfl hx
 have c0:=h1.cell 0
 have hm:=(List.getElem?_eq_some_iff.1 hx).1
 have hmn:(idx (keys l) k:Int)<(l.length:Int):=by omega
 obtain⟨m,hm'⟩:∃ m,idx (keys l) k=m:=⟨_,rfl⟩
 rw[hm'] at hx hm hmn hcell ⊢
 have q0:w'.cell? ⟨g,m*2,none⟩=some (.string x.1):=hcell 0 _ (by omega) rfl
 have q1:w'.cell? ⟨g,m*2+1,none⟩=some x.2:=hcell 1 _ (by omega) rfl
 clear hm' hx hcell hr h h2
 go_wp2_with fail
 go_ret2
 exact⟨rfl,f1⟩
theorem cs_one {x:Ent}(h:x.2.oneCell'=true):∀ u∈cs x,u.oneCell'=true:=by
 intro u hu
 simp only[cs,List.mem_cons,List.not_mem_nil,or_false] at hu
 rcases hu with rfl|rfl
 ·rfl
 ·exact h
theorem insert_end (w:World)(B:Nat)(v:Value)(l:List Ent)(x:Ent)(vb n:Nat)(h:Own w B 329 2 v n (flat cs l))(hb:Cells w (some ⟨vb,0,none⟩) (cs x))(h1:x.2.oneCell'=true)(hl:n≤1000)(hB:B≤w.heap.size) :
  Calls Tryz.prog 232 #[v,.int .i64 n,.slice (some ⟨vb,0,none⟩) 1 1] w fun e w'=>∃ v',e = .returned v'∧Own w' B 329 2 v' (n+1) (flat cs l++cs x)∧Fr (ownOf v).toList w w'∧(ownOf v'=ownOf v∨∃ g,ownOf v'=some g∧w.heap.size≤g):=by
 obtain⟨i5,hi,hz0,hz1,hz2⟩:=info_parts infoE
 have hs:=h.sl
 have h0:∀ g,ownOf v=some g→B≤g:=fun g hg=>(h.ty hg).2
 have H0:=hid h0
 have H1:=hid h1
 clear h0 h1
 rcases h with⟨rfl,rfl,_⟩|⟨g,cap,hg,rfl,hr⟩
 ·go_enter Tryz.func232,Tryz.ntmps232
  go_wp2_with (at_builtin;refine wpList_append_sl rfl (.tmp 23) (.tmp 24) 170 rfl i5 _ 24 Tryz.underlying170 hi hz0 hz1 hz2 rfl (by decide) _ _ rfl hs _ 1 1 (cs x) rfl rfl hb (cs_one H1.out) (by unfold maxLen;omega) (by omega) ?_;intro v' w2 own' hs1 hf1 ho1 hm1)
  go_ret
  obtain⟨k1,k2⟩:=own_after hB H0.out hs1 ho1 (hm1 (by omega))
  exact⟨v',rfl,k1,hf1,k2 ▸ ho1⟩
 ·have hle:=hr.le
  go_enter Tryz.func232,Tryz.ntmps232
  go_wp2_with (at_builtin;refine wpList_append_sl rfl (.tmp 23) (.tmp 24) 170 rfl i5 _ 24 Tryz.underlying170 hi hz0 hz1 hz2 rfl (by decide) _ _ rfl hs _ 1 1 (cs x) rfl rfl hb (cs_one H1.out) (by unfold maxLen;omega) (by omega) ?_;intro v' w2 own' hs1 hf1 ho1 hm1)
  all_goals
   go_ret
   obtain⟨k1,k2⟩:=own_after hB H0.out hs1 ho1 (hm1 (by omega))
   exact⟨v',rfl,k1,hf1,k2 ▸ ho1⟩
theorem put_end (w:World)(B r:Nat)(l:List Ent)(k:ByteArray)(z:Addr)(h:MapAt w B r l)(hk:∀ x∈l,kl x.1<kl k)(hl:l.length<1000)(hB:B≤w.heap.size)(hr:B≤r) :
  Calls Tryz.prog 199 #[.pointer (some ⟨r,0,none⟩),.string k,.pointer (some z)] w fun e w'=>e = .returned (.bool true)∧MapAt w' B r (l++[(k,.pointer (some z))])∧FrX B [329] [r] w w':=by
 have hno:hasK l k=false:=by
  rw[←Bool.not_eq_true,hasK_iff]
  intro hm
  obtain⟨x,hx,rfl⟩:=List.mem_map.1 hm
  exact kl_irrefl _ (hk x hx)
 have hidx:idx (keys l) k=l.length:=idx_eq (by simp[keys]) (fun t y hy _=>by
  obtain⟨x,hx,rfl⟩:=List.mem_map.1 (List.mem_of_getElem? hy)
  exact hk x hx) (fun t y hy ht=>by
  have:=(List.getElem?_eq_some_iff.1 hy).1
  simp[keys] at this
  omega)
 have hsrt:Srt (keys (l++[(k,.pointer (some z))])):=by
  have:=h.srt
  unfold Srt keys at *
  rw[List.map_append,List.pairwise_append]
  refine⟨this,by simp,?_⟩
  intro a ha b hb
  simp at hb
  subst hb
  obtain⟨x,hx,rfl⟩:=List.mem_map.1 ha
  exact hk x hx
 have HN:=hid hno
 have HI:=hid hidx
 have HS:=hid hsrt
 have HO:=hid h.one
 clear hno hidx hsrt hk
 go_enter Tryz.func199,Tryz.ntmps199
 go_wp2_with fail
 refine(find_any w B r l k h).mono ?_
 rintro e w1 ⟨rfl,f1⟩
 rw[HN.out,HI.out]
 obtain⟨v,h1,h2⟩:=(h.fr0 f1).at_
 have c0:=h1.cell 0
 have hB1:=f1.size
 have f2:Fr [] w1 (w1.alloc (.cells #[.string k,.pointer (some z)] 329)):=(Fr.refl _ _).alloc _
 have hb:=Holds.new w1 329 #[.string k,.pointer (some z)]
 have hty:=fun g (hg:ownOf v=some g)=>h2.ty hg
 have HT:=hid hty
 clear hty
 go_wp2_with fail
 refine(insert_end _ B v l (k,.pointer (some z)) _ l.length (h2.fr0 f2) (fun j u hu=>⟨_,rfl,by rw[at_add,Nat.zero_add,hb.cell j];simpa[cs] using hu⟩) rfl (by omega) (by simp;omega)).mono ?_
 rintro e w2 ⟨v',rfl,q1,q2,q3⟩
 obtain⟨a',c',rfl⟩:=q1.form
 have hrv:∀ g,ownOf v=some g→r≠g:=fun g hg e=>by
  have:=(HT.out g hg).1
  rw[←e,h1.ty] at this
  cases this
 have h1':=(h1.fr f2 (by simp)).fr q2 (by intro hx;exact hrv r (by simpa using hx) rfl)
 have d0:=h1'.frozen 0
 have d1:=h1'.cell 0
 clear c0
 go_wp2_with fail
 go_ret
 have hne:∀ g,ownOf (.slice a' (l.length+1) c')=some g→r≠g:=fun g hg=>by
  rcases q3 with q3|⟨g',a,b⟩
  ·exact hrv g (q3 ▸ hg)
  ·rw[a] at hg
   cases hg
   have:=h1.lt
   simp at b
   omega
 refine⟨rfl,⟨HS.out,by simp;omega,?_,_,h1'.set 0 _,?_⟩,?_⟩
 ·intro x hx
  rcases List.mem_append.1 hx with hx|hx
  ·exact HO.out x hx
  ·simp at hx
   subst hx
   rfl
 ·have e1:flat cs (l++[(k,.pointer (some z))])=flat cs l++cs (k,.pointer (some z)):=by rw[flat_append,flat_one]
  rw[e1,List.length_append]
  exact q1.fr ((Fr.refl [r] w2).setCell (by simp) _) (fun g hg=>by simpa using (hne g hg).symm)
 ·have g1:FrX B [329] [r] w w1:=FrX.of_fr0 f1
  have g2:FrX B [329] [r] w1 w2:=(FrX.of_fr0 f2).trans (FrX.of_frT q2 (fun x hx=>(HT.out x (by simpa using hx)).2) (fun x hx=>⟨329,by simp,(h2.fr0 f2).ty (by simpa using hx) |>.1⟩))
  have g3:FrX B [329] [r] w2 (w2.setCell ⟨r,0,none⟩ (.slice a' (l.length+1) c')):=FrX.of_fr ((Fr.refl [r] w2).setCell (by simp) _) (by simpa using hr)
  exact g1.trans (g2.trans g3)
end Go.Proofs.YtjmkkcckfbnmeaaGreatDoor.Ob
