/- Texts OmapC, Col, ColC. -/
import Derived.Test.YtjmkkcckfbnmeaaGreatDoorM00
import Derived.Test.YtjmkkcckfbnmeaaGreatDoorM07
import Derived.Test.YtjmkkcckfbnmeaaGreatDoorM08
import Derived.Test.YtjmkkcckfbnmeaaGreatDoorM09
import Derived.Test.YtjmkkcckfbnmeaaGreatDoorM10
import Derived.Test.YtjmkkcckfbnmeaaGreatDoorM15
import Derived.Deep.QuietTactic
import Derived.BigQuiet
set_option maxRecDepth 100000
set_option maxHeartbeats 8000000
set_option linter.all false
open Go.Lib (hid)
namespace Go.Proofs.YtjmkkcckfbnmeaaGreatDoor.Oc
open Go.RowKit
abbrev Ent:=ByteArray × Int × ByteArray
def cs (x:Ent):List Value:=[.string x.1,.int .i64 x.2.1,.string x.2.2]
theorem cs_len (x:Ent):(cs x).length=3:=rfl
def keys (l:List Ent):List ByteArray:=l.map (·.1)
def hasK (l:List Ent)(k:ByteArray):Bool:=(keys l).any fun x=>decide (x=k)
theorem hasK_iff {l:List Ent}{k:ByteArray} : hasK l k=true ↔ k∈keys l:=by simp[hasK]
theorem keys_get {l:List Ent}{i:Nat}{x:Ent}(h:l[i]? = some x):(keys l)[i]? = some x.1:=by simp[keys,h]
structure MapAt (w:World)(B r:Nat)(l:List Ent):Prop where
 srt:Srt (keys l)
 len:l.length≤1000
 one:∀ x∈l,(cs x).length=3
 at_:∃ v,Holds w r 313 #[v]∧Own w B 311 3 v l.length (flat cs l)
theorem MapAt.fr0 {w w':World}{B r:Nat}{l:List Ent}(h:MapAt w B r l)(hf:Fr [] w w'):MapAt w' B r l:=by
 obtain⟨v,h1,h2⟩:=h.at_
 exact⟨h.srt,h.len,h.one,v,h1.fr hf (by simp),h2.fr0 hf⟩
theorem MapAt.frx {w w':World}{B r:Nat}{l:List Ent}{Ts:List TypeId}{S:List Nat}(h:MapAt w B r l)(hf:FrX B Ts S w w')(h1:313∉Ts)(h2:311∉Ts)
  (hS:∀ x,x∈S→∃ u,u≠313∧u≠311∧tyOf w x=some u):MapAt w' B r l:=by
 obtain⟨v,q1,q2⟩:=h.at_
 refine⟨h.srt,h.len,h.one,v,q1.frx hf h1 (q1.notin fun x hx=>?_),q2.frx hf h2 fun g hg hx=>?_⟩
 ·obtain⟨u,a,_,b⟩:=hS x hx
  exact⟨u,a,b⟩
 ·obtain⟨u,_,a,b⟩:=hS g hx
  rw[(q2.ty hg).1] at b
  cases b
  exact a rfl
theorem infoE:(Tryz.prog.info? 311).map (fun i=>(i.zero,i.size,i.bytes))=some (some (.agg #[.string ByteArray.empty,.int .i64 0,.string ByteArray.empty]),3,40):=by kernel_rfl
theorem new_any (w:World)(B:Nat):Calls Tryz.prog 201 #[] w fun e w'=>∃ r,e = .returned (.pointer (some ⟨r,0,none⟩))∧w.heap.size≤r∧MapAt w' B r []∧Fr [] w w':=by
 go_enter Tryz.func201,Tryz.ntmps201
 go_wp2
 go_ret
 exact⟨_,rfl,Nat.le_refl _,⟨List.Pairwise.nil,by simp,by simp,_,Holds.new _ _ _,Own.nil _ _ _ _⟩,(Fr.refl _ _).alloc _⟩
theorem cmp_any (w:World)(key k:ByteArray)(v1:Int)(v2:ByteArray):Calls Tryz.prog 249 #[.agg #[.string key,.int .i64 v1,.string v2],.string k] w fun e w'=>e = .returned (.int .i64 (Lib.compareBytes key.data.toList k.data.toList))∧Fr [] w w':=by
 go_enter Tryz.func249,Tryz.ntmps249
 go_wp2_with fail
 refine(compare_any key k _).mono ?_
 rintro e w' ⟨rfl,rfl⟩
 go_wp2
 go_ret
 exact⟨rfl,(Fr.refl _ _).alloc _⟩
theorem search_any (w:World)(B:Nat)(v:Value)(l:List Ent)(k:ByteArray)(hs:Srt (keys l))(hl:l.length≤1000)(h:Own w B 311 3 v l.length (flat cs l)) :
  Calls Tryz.prog 248 #[v,.string k,.func (.func 249) #[] #[]] w fun e w'=>e = .returned (.tuple #[.int .i64 (idx (keys l) k),.bool (hasK l k)])∧Fr [] w w':=by
 obtain⟨a,c,rfl⟩:=h.form
 have hkl:(keys l).length=l.length:=by simp[keys]
 have HL:=hid hkl
 have HS:=hid hs
 clear hkl hs
 go_enter Tryz.func248,Tryz.ntmps248
 go_wp2
 go_loopw [9,10] (fun i j wr=>∃ a b:Nat,a≤b∧b≤l.length∧i = .int .i64 a∧j = .int .i64 b∧Lo (keys l) k a∧Hi (keys l) k b∧Fr [] w wr) (fun i j _=>(intOf j).toNat - (intOf i).toNat)
 case atStart=>exact⟨0,l.length,Nat.zero_le _,Nat.le_refl _,rfl,rfl,lo_zero _ _,HL.out ▸ hi_all _ _,Fr.refl _ _⟩
 case round =>
  obtain⟨a',b,hab,hbn,rfl,rfl,hlo,hhi,fr⟩:=hrel
  by_cases hlt:a'<b
  ·have hlt':(a':Int)<(b:Int):=by omega
   obtain⟨m,hm⟩:∃ m:Nat,m=(a'+b) / 2:=⟨_,rfl⟩
   have hm1:a'≤m:=by omega
   have hm2:m<b:=by omega
   have hx:l[m]? = some l[m]:=List.getElem?_eq_getElem (by omega)
   obtain⟨x,hx'⟩:∃ x,l[m]'(by omega)=x:=⟨_,rfl⟩
   rw[hx'] at hx
   clear hx'
   obtain⟨g,c2,hg,hv,hr,hgl,hcell⟩:=(h.fr0 fr).cell cs_len rfl hx
   cases hv
   have q0:wr.cell? ⟨g,m*3,none⟩=some (.string x.1):=hcell 0 _ (by omega) rfl
   have q1:wr.cell? ⟨g,m*3+1,none⟩=some (.int .i64 x.2.1):=hcell 1 _ (by omega) rfl
   have q2:wr.cell? ⟨g,m*3+2,none⟩=some (.string x.2.2):=hcell 2 _ (by omega) rfl
   have hkx:=keys_get hx
   have hmi:((a':Int)+(b:Int)) / 2=(m:Int):=by omega
   have hmn:(m:Int)<(l.length:Int):=by omega
   have HK:=hid hkx
   have HLo:=hid hlo
   have HHi:=hid hhi
   clear hm hx hcell hkx hr hlo hhi
   by_cases hc:Lib.compareBytes x.1.data.toList k.data.toList<0
   ·have HC:=hid (cmp_lt.1 hc)
    go_wp2_with fail
    refine(cmp_any _ x.1 k x.2.1 x.2.2).mono ?_
    rintro e w' ⟨rfl,f2⟩
    go_wp2_with fail
    go_roundw
    case rel=>exact⟨m+1,b,by omega,hbn,by go_num,rfl,lo_step HS.out HK.out HC.out,HHi.out,fr.trans f2⟩
    case measure=>simp[intOf];omega
   ·have HC:=hid (fun h=>hc (cmp_lt.2 h))
    go_wp2_with fail
    refine(cmp_any _ x.1 k x.2.1 x.2.2).mono ?_
    rintro e w' ⟨rfl,f2⟩
    go_wp2_with fail
    go_roundw
    case rel=>exact⟨a',m,hm1,by omega,rfl,rfl,HLo.out,hi_step HS.out HK.out HC.out,fr.trans f2⟩
    case measure=>simp[intOf];omega
  ·obtain rfl:a'=b:=by omega
   have hiq:=idx_eq (by rw[HL.out];exact hbn) hlo hhi
   have HI:=hid hiq
   by_cases hlt2:a'<l.length
   ·have hx:l[a']? = some l[a']:=List.getElem?_eq_getElem hlt2
    obtain⟨x,hx'⟩:∃ x,l[a']'(by omega)=x:=⟨_,rfl⟩
    rw[hx'] at hx
    clear hx'
    obtain⟨g,c2,hg,hv,hr,hgl,hcell⟩:=(h.fr0 fr).cell cs_len rfl hx
    cases hv
    have q0:wr.cell? ⟨g,a'*3,none⟩=some (.string x.1):=hcell 0 _ (by omega) rfl
    have q1:wr.cell? ⟨g,a'*3+1,none⟩=some (.int .i64 x.2.1):=hcell 1 _ (by omega) rfl
    have q2:wr.cell? ⟨g,a'*3+2,none⟩=some (.string x.2.2):=hcell 2 _ (by omega) rfl
    have hkx:=keys_get hx
    have hmn:(a':Int)<(l.length:Int):=by omega
    have hkk:hasK l k=decide (x.1=k):=by
     rw[Bool.eq_iff_iff,hasK_iff,decide_eq_true_eq]
     constructor
     ·intro hm
      have:=idx_mem HS.out hm
      rw[hiq,hkx] at this
      exact Option.some.inj this
     ·rintro rfl
      exact List.mem_of_getElem? hkx
    have HK:=hid hkk
    have HX:=hid (cmp_eq0 (a:=x.1) (b:=k))
    clear hiq hx hcell hkx hr hlo hhi hkk
    go_wp2_with fail
    refine(cmp_any _ x.1 k x.2.1 x.2.2).mono ?_
    rintro e w' ⟨rfl,f2⟩
    go_wp2_with fail
    go_ret2
    refine⟨?_,fr.trans f2⟩
    rw[HI.out,HK.out,←HX.out]
    rfl
   ·obtain rfl:a'=l.length:=by omega
    have hkk:hasK l k=false:=by
     rw[←Bool.not_eq_true,hasK_iff]
     intro hm
     have:=idx_mem HS.out hm
     rw[hiq] at this
     have:=(List.getElem?_eq_some_iff.1 this).1
     rw[HL.out] at this
     omega
    have HK:=hid hkk
    clear hiq hkk hlo hhi
    go_wp2
    go_ret2
    exact⟨by rw[HI.out,HK.out];rfl,fr⟩
theorem getK_some {l:List Ent}(hs:Srt (keys l)){k:ByteArray}(h:hasK l k=true):∃ x,l[idx (keys l) k]? = some x∧x.1=k:=by
 have:=idx_mem hs (hasK_iff.1 h)
 simp only[keys,List.getElem?_map,Option.map_eq_some_iff] at this
 obtain⟨x,h1,h2⟩:=this
 exact⟨x,h1,h2⟩
theorem find_any (w:World)(B r:Nat)(l:List Ent)(k:ByteArray)(h:MapAt w B r l) :
  Calls Tryz.prog 217 #[.pointer (some ⟨r,0,none⟩),.string k] w fun e w'=>e = .returned (.tuple #[.int .i64 (idx (keys l) k),.bool (hasK l k)])∧Fr [] w w':=by
 obtain⟨v,h1,h2⟩:=h.at_
 have c0:=h1.cell 0
 have hs:=hid h.srt
 have hl:=h.len
 go_enter Tryz.func217,Tryz.ntmps217
 go_wp2_with fail
 refine(search_any w B v l k hs.out hl h2).mono ?_
 rintro e w' ⟨rfl,f1⟩
 go_wp2_with fail
 go_ret2
 exact⟨rfl,f1⟩
theorem ret_get (W:World)(tmps:Array Value)(g:Nat)(k:Int)(s:ByteArray)(b:Bool)(hp:Holds W g 258 #[.int .i64 k,.string s])(h4:tmps[4]?.getD undef = .pointer (some ⟨g,0,none⟩))(h5:tmps[5]?.getD undef = .bool b) :
  (results Tryz.f213 tmps).run Tryz.prog W = .ok (.tuple #[.agg #[.int .i64 k,.string s],.bool b]) W:=by
 have q0:=hp.cell 0
 have q1:=hp.cell 1
 have hr:Tryz.f213.results=#[.cell 4 258,.tmp 5]:=rfl
 simp at q0 q1
 simp[results,h4,h5,go_sem,q0,q1]
theorem get_no (w:World)(B r:Nat)(l:List Ent)(k:ByteArray)(h:MapAt w B r l)(hk:hasK l k=false) :
  Calls Tryz.prog 213 #[.pointer (some ⟨r,0,none⟩),.string k] w fun e w'=>e = .returned (.tuple #[.agg #[.int .i64 0,.string ByteArray.empty],.bool false])∧Fr [] w w':=by
 have HK:=hid hk
 clear hk
 have f0:Fr [] w (w.alloc (.cells #[.int .i64 0,.string ⟨#[]⟩] 258)):=(Fr.refl _ _).alloc _
 have b0:=Holds.new w 258 #[.int .i64 0,.string ⟨#[]⟩]
 go_enter Tryz.func213,Tryz.ntmps213
 go_wp2_with fail
 refine(find_any _ B r l k (h.fr0 f0)).mono ?_
 rintro e w1 ⟨rfl,f1⟩
 rw[HK.out]
 have b1:=b0.fr f1 (by simp)
 have c0:=b1.cell 0
 have c1:=b1.cell 1
 have z0:=b1.frozen 0
 have z1:=b1.frozen 1
 simp at c0 c1
 have hlt:w.heap.size<w1.heap.size:=b1.lt
 go_wp2_with fail
 exact bodyPost_ret (ret_get _ _ w.heap.size 0 ⟨#[]⟩ _ (((b1.set 0 _).set 1 _).alloc _) rfl rfl) rfl ⟨rfl,((((f0.trans f1).setNew (Nat.le_refl _) _).setNew (Nat.le_refl _) _).alloc _)⟩
theorem get_yes (w:World)(B r:Nat)(l:List Ent)(k:ByteArray)(x:Ent)(h:MapAt w B r l)(hk:hasK l k=true)(hx:l[idx (keys l) k]? = some x) :
  Calls Tryz.prog 213 #[.pointer (some ⟨r,0,none⟩),.string k] w fun e w'=>e = .returned (.tuple #[.agg #[.int .i64 x.2.1,.string x.2.2],.bool true])∧Fr [] w w':=by
 have HK:=hid hk
 clear hk
 have f0:Fr [] w (w.alloc (.cells #[.int .i64 0,.string ⟨#[]⟩] 258)):=(Fr.refl _ _).alloc _
 have b0:=Holds.new w 258 #[.int .i64 0,.string ⟨#[]⟩]
 go_enter Tryz.func213,Tryz.ntmps213
 go_wp2_with fail
 refine(find_any _ B r l k (h.fr0 f0)).mono ?_
 rintro e w' ⟨rfl,f1⟩
 rw[HK.out]
 have b1:=b0.fr f1 (by simp)
 obtain⟨v,h1,h2⟩:=(h.fr0 (f0.trans f1)).at_
 obtain⟨g,c2,hg,rfl,hr,hgl,hcell⟩:=h2.cell cs_len rfl hx
 have c0:=h1.cell 0
 have z0:=b1.frozen 0
 have z1:=b1.frozen 1
 have y0:=b1.cell 0
 have y1:=b1.cell 1
 have hm:=(List.getElem?_eq_some_iff.1 hx).1
 have hmn:(idx (keys l) k:Int)<(l.length:Int):=by omega
 obtain⟨m,hm'⟩:∃ m,idx (keys l) k=m:=⟨_,rfl⟩
 rw[hm'] at hx hm hmn hcell ⊢
 have q1:w'.cell? ⟨g,m*3+1,none⟩=some (.int .i64 x.2.1):=hcell 1 _ (by omega) rfl
 have q2:w'.cell? ⟨g,m*3+2,none⟩=some (.string x.2.2):=hcell 2 _ (by omega) rfl
 clear hm' hx hcell hr h h2
 go_wp2_with fail
 exact bodyPost_ret (ret_get _ _ w.heap.size x.2.1 x.2.2 _ ((b1.set 0 _).set 1 _) rfl rfl) rfl ⟨rfl,(((f0.trans f1).setNew (Nat.le_refl _) _).setNew (Nat.le_refl _) _)⟩
theorem cs_one {x:Ent}(_:(cs x).length=3):∀ u∈cs x,u.oneCell'=true:=by
 intro u hu
 simp only[cs,List.mem_cons,List.not_mem_nil,or_false] at hu
 rcases hu with rfl|rfl|rfl<;>rfl
theorem insert_end (w:World)(B:Nat)(v:Value)(l:List Ent)(x:Ent)(vb n:Nat)(h:Own w B 311 3 v n (flat cs l))(hb:Cells w (some ⟨vb,0,none⟩) (cs x))(h1:(cs x).length=3)(hl:n≤1000)(hB:B≤w.heap.size) :
  Calls Tryz.prog 219 #[v,.int .i64 n,.slice (some ⟨vb,0,none⟩) 1 1] w fun e w'=>∃ v',e = .returned v'∧Own w' B 311 3 v' (n+1) (flat cs l++cs x)∧Fr (ownOf v).toList w w'∧(ownOf v'=ownOf v∨∃ g,ownOf v'=some g∧w.heap.size≤g):=by
 obtain⟨i5,hi,hz0,hz1,hz2⟩:=info_parts infoE
 have hs:=h.sl
 have h0:∀ g,ownOf v=some g→B≤g:=fun g hg=>(h.ty hg).2
 have H0:=hid h0
 have H1:=hid h1
 clear h0 h1
 rcases h with⟨rfl,rfl,_⟩|⟨g,cap,hg,rfl,hr⟩
 ·go_enter Tryz.func219,Tryz.ntmps219
  go_wp2_with (at_builtin;refine wpList_append_sl rfl (.tmp 23) (.tmp 24) 308 rfl i5 _ 40 Tryz.underlying308 hi hz0 hz1 hz2 rfl (by decide) _ _ rfl hs _ 1 1 (cs x) rfl rfl hb (cs_one H1.out) (by unfold maxLen;omega) (by omega) ?_;intro v' w2 own' hs1 hf1 ho1 hm1)
  go_ret
  obtain⟨k1,k2⟩:=own_after hB H0.out hs1 ho1 (hm1 (by omega))
  exact⟨v',rfl,k1,hf1,k2 ▸ ho1⟩
 ·have hle:=hr.le
  go_enter Tryz.func219,Tryz.ntmps219
  go_wp2_with (at_builtin;refine wpList_append_sl rfl (.tmp 23) (.tmp 24) 308 rfl i5 _ 40 Tryz.underlying308 hi hz0 hz1 hz2 rfl (by decide) _ _ rfl hs _ 1 1 (cs x) rfl rfl hb (cs_one H1.out) (by unfold maxLen;omega) (by omega) ?_;intro v' w2 own' hs1 hf1 ho1 hm1)
  all_goals
   go_ret
   obtain⟨k1,k2⟩:=own_after hB H0.out hs1 ho1 (hm1 (by omega))
   exact⟨v',rfl,k1,hf1,k2 ▸ ho1⟩
theorem put_end (w:World)(B r:Nat)(l:List Ent)(k:ByteArray)(z1:Int)(z2:ByteArray)(h:MapAt w B r l)(hk:∀ x∈l,kl x.1<kl k)(hl:l.length<1000)(hB:B≤w.heap.size)(hr:B≤r) :
  Calls Tryz.prog 171 #[.pointer (some ⟨r,0,none⟩),.string k,.agg #[.int .i64 z1,.string z2]] w fun e w'=>e = .returned (.bool true)∧MapAt w' B r (l++[(k,z1,z2)])∧FrX B [311] [r] w w':=by
 have hno:hasK l k=false:=by
  rw[←Bool.not_eq_true,hasK_iff]
  intro hm
  obtain⟨x,hx,rfl⟩:=List.mem_map.1 hm
  exact kl_irrefl _ (hk x hx)
 have hidx:idx (keys l) k=l.length:=idx_eq (by simp[keys]) (fun t y hy _=>by
  obtain⟨x,hx,rfl⟩:=List.mem_map.1 (List.mem_of_getElem? hy)
  exact hk x hx) (fun t y hy ht=>by
  have:=(List.getElem?_eq_some_iff.1 hy).1
  simp[keys] at this
  omega)
 have hsrt:Srt (keys (l++[(k,z1,z2)])):=by
  have:=h.srt
  unfold Srt keys at *
  rw[List.map_append,List.pairwise_append]
  refine⟨this,by simp,?_⟩
  intro a ha b hb
  simp at hb
  subst hb
  obtain⟨x,hx,rfl⟩:=List.mem_map.1 ha
  exact hk x hx
 have HN:=hid hno
 have HI:=hid hidx
 have HS:=hid hsrt
 have HO:=hid h.one
 clear hno hidx hsrt hk
 have f0:Fr [] w (w.alloc (.cells #[.int .i64 z1,.string z2] 258)):=(Fr.refl _ _).alloc _
 have b0:=Holds.new w 258 #[.int .i64 z1,.string z2]
 go_enter Tryz.func171,Tryz.ntmps171
 go_wp2_with fail
 refine(find_any _ B r l k (h.fr0 f0)).mono ?_
 rintro e w1 ⟨rfl,f1'⟩
 rw[HN.out,HI.out]
 have f1:=f0.trans f1'
 obtain⟨v,h1,h2⟩:=(h.fr0 f1).at_
 have hs0:=h2.form
 obtain⟨a0,c0',hv0⟩:=hs0
 subst hv0
 have b1:=b0.fr f1' (by simp)
 have y0:=b1.cell 0
 have y1:=b1.cell 1
 have c0:=h1.cell 0
 have z0:=h1.frozen 0
 simp at y0 y1 c0
 have hB1:=f1.size
 have hrl:=h1.lt
 have hbl:=b1.lt
 have hty:=fun g (hg:ownOf (.slice a0 l.length c0')=some g)=>h2.ty hg
 have HT:=hid hty
 clear hty f0 b0 f1' b1
 go_wp2_with fail
 have f2:Fr [] w1 (w1.alloc (.cells #[.string k,.int .i64 z1,.string z2] 311)).drew:=((Fr.refl _ _).alloc _).drew
 have hb:Holds (w1.alloc (.cells #[.string k,.int .i64 z1,.string z2] 311)).drew w1.heap.size 311 #[.string k,.int .i64 z1,.string z2]:=(Holds.new _ _ _).drew
 have hins:=insert_end _ B _ l (k,z1,z2) w1.heap.size l.length (h2.fr0 f2) (fun j u hu=>⟨_,rfl,by rw[at_add,Nat.zero_add,hb.cell j];simpa[cs] using hu⟩) rfl (by omega) (by simp;omega)
 have hrv:∀ g,ownOf (.slice a0 l.length c0')=some g→r≠g:=fun g hg e=>by
  have:=(HT.out g hg).1
  rw[←e,h1.ty] at this
  cases this
 have HH:=hid hins
 have HR:=hid hrv
 have h1f:=h1.fr f2 (by simp)
 clear hins hrv
 go_region_law (go_simp;go_at_call 219;refine HH.out.mono ?_;rintro e w2 ⟨v',rfl,q1,q2,q3⟩;obtain⟨a',c',rfl⟩:=q1.form;have h1':=h1f.fr q2 (by intro hx;exact HR.out r (by simpa using hx) rfl);have d0:=h1'.frozen 0;have d1:=h1'.cell 0;simp only[List.getElem?_toArray,List.getElem?_cons_zero] at d1)
 all_goals
  go_wp2_with fail
  go_ret
  have hne:∀ g,ownOf (.slice a' (l.length+1) c')=some g→r≠g:=fun g hg=>by
   rcases q3 with q3|⟨g',a,b⟩
   ·exact HR.out g (q3 ▸ hg)
   ·rw[a] at hg
    cases hg
    simp at b
    omega
  refine⟨rfl,⟨HS.out,by simp;omega,?_,_,h1'.set 0 _,?_⟩,?_⟩
  ·intro x hx
   rfl
  ·have e1:flat cs (l++[(k,z1,z2)])=flat cs l++cs (k,z1,z2):=by rw[flat_append,flat_one]
   rw[e1,List.length_append]
   exact q1.fr ((Fr.refl [r] w2).setCell (by simp) _) (fun g hg=>by simpa using (hne g hg).symm)
  ·have g1:FrX B [311] [r] w w1:=FrX.of_fr0 f1
   have g2:FrX B [311] [r] w1 w2:=(FrX.of_fr0 f2).trans (FrX.of_frT q2 (fun x hx=>(HT.out x (by simpa using hx)).2) (fun x hx=>⟨311,by simp,(h2.fr0 f2).ty (by simpa using hx) |>.1⟩))
   have g3:FrX B [311] [r] w2 (w2.setCell ⟨r,0,none⟩ (.slice a' (l.length+1) c')):=FrX.of_fr ((Fr.refl [r] w2).setCell (by simp) _) (by simpa using hr)
   exact g1.trans (g2.trans g3)
theorem zeroE (w:World):(zeroValue 311).run Tryz.prog w = .ok (.agg #[.string ByteArray.empty,.int .i64 0,.string ByteArray.empty]) w:=by kernel_rfl
theorem delete_any (w:World)(g cap k:Nat)(l:List Ent)(hr:Row w 311 3 g l.length cap (flat cs l))(hone:∀ u∈flat cs (l.drop (k+1)),u.oneCell'=true)(hk:k<l.length)(hl:l.length≤1000) :
  Calls Tryz.prog 218 #[.slice (some ⟨g,0,none⟩) l.length cap,.int .i64 k,.int .i64 ((k:Int)+1)] w fun e w'=>e = .returned (.slice (some ⟨g,0,none⟩) (l.length - 1) cap)∧Row w' 311 3 g (l.length - 1) cap (flat cs (l.take k++l.drop (k+1)))∧Fr [g] w w':=by
 obtain⟨i2,hi,hz0,hz1,hz2⟩:=info_parts infoE
 obtain⟨n,hn⟩:∃ n,n=l.length:=⟨_,rfl⟩
 have hle:=hr.le
 have hcm:=hr.cap_le
 unfold maxLen at hcm
 rw[←hn] at hle hr hk hl ⊢
 have hnews:Cells w (some ⟨g,(k+1)*3,none⟩) (flat cs (l.drop (k+1))):=by
  have:=hr.cells.drop ((k+1)*3)
  rw[flat_drop cs_len]
  simpa using this
 have hlen:(flat cs (l.drop (k+1))).length=(n - (k+1))*3:=by rw[flat_length cs_len,List.length_drop,←hn]
 obtain⟨A,hA,hsrc⟩:∃ A:Addr,(if cap=k+1 then some (⟨g,0,none⟩:Addr) else some ⟨g,(k+1)*3,none⟩)=some A∧Cells w (some A) (flat cs (l.drop (k+1))):=by
  by_cases h:cap=k+1
  ·refine⟨⟨g,0,none⟩,by simp[h],?_⟩
   have e0:flat cs (l.drop (k+1))=[]:=List.eq_nil_of_length_eq_zero (by omega)
   rw[e0]
   exact Cells.nil _
  ·exact⟨_,by simp[h],hnews⟩
 have hkc:k≤cap:=by omega
 have hkc1:k+1≤cap:=by omega
 have hi0:(0:Int)≤(k:Int)+1:=by omega
 have hi1:(k:Int)+1≤(n:Int):=by omega
 have H1:=hid hn
 have H2:=hid hlen
 have H3:=hid hone
 clear hn hlen hone hnews
 go_enter Tryz.func218,Tryz.ntmps218
 go_wp2_with fail
 go_region_law ((refine step_append_in rfl (.tmp 22) (.tmp 25) 308 rfl i2 Tryz.underlying308 hi hz1 hr.drew k (by omega) (by simp[Act.eval,Act.put]) A (n - (k+1)) (cap - (k+1)) (flat cs (l.drop (k+1))) (by simp[Act.eval,Act.put]) H2.out (hsrc.fr0 ((Fr.refl [] w).drew)) H3.out (by omega) ?_;intro w1 hr1 f1))
 have e1:k+(n - (k+1))=n - 1:=by omega
 have e2:(flat cs l).take (k*3)++flat cs (l.drop (k+1))=flat cs (l.take k++l.drop (k+1)):=by rw[flat_append,flat_take cs_len]
 rw[e1,e2] at hr1
 rw[e1]
 clear e1 e2 hA hsrc hkc hkc1 hi0 hi1
 obtain⟨m,hm⟩:∃ m,m=n - 1:=⟨_,rfl⟩
 have e3:n=m+1:=by omega
 rw[←hm] at hr1 ⊢
 have HM:=hid hm
 subst e3
 clear hm
 have hA2:(if cap=m then some (⟨g,0,none⟩:Addr) else some ⟨g,m*3,none⟩)=some ⟨g,m*3,none⟩:=by rw[if_neg (by omega)]
 have hj0:(m:Int)≤(m:Int)+1:=by omega
 have hj1:m+1≤cap:=hle
 have hj2:m≤m+1:=by omega
 obtain⟨w2,hrun,hr2,f2⟩:=run_clear_row (sz:=3) 308 0 (.agg #[.string ByteArray.empty,.int .i64 0,.string ByteArray.empty]) Tryz.underlying308 zeroE (by kernel_rfl) (by kernel_rfl) hr1 (m*3) 1 (cap - m) (by omega) (by omega)
 go_wp2
 go_ret
 exact⟨rfl,hr2,((Fr.refl [g] w).drew).trans (f1.trans f2)⟩
def dropK (l:List Ent)(i:Nat):List Ent:=l.take i++l.drop (i+1)
theorem dropK_srt {l:List Ent}(h:Srt (keys l))(i:Nat):Srt (keys (dropK l i)):=by
 have hs:(dropK l i).Sublist l:=by
  unfold dropK
  rw[show l.take i++l.drop (i+1)=l.eraseIdx i from (List.eraseIdx_eq_take_drop_succ l i).symm]
  exact List.eraseIdx_sublist l i
 exact h.sublist (hs.map _)
theorem del_yes (w:World)(B r:Nat)(l:List Ent)(k:ByteArray)(h:MapAt w B r l)(hk:hasK l k=true)(hB:B≤w.heap.size)(hr:B≤r) :
  Calls Tryz.prog 170 #[.pointer (some ⟨r,0,none⟩),.string k] w fun e w'=>e = .returned (.bool true)∧MapAt w' B r (dropK l (idx (keys l) k))∧FrX B [311] [r] w w':=by
 obtain⟨x,hx,_⟩:=getK_some h.srt hk
 have HK:=hid hk
 have HS:=hid h.srt
 have HO:=hid h.one
 clear hk
 go_enter Tryz.func170,Tryz.ntmps170
 go_wp2_with fail
 refine(find_any w B r l k h).mono ?_
 rintro e w1 ⟨rfl,f1⟩
 rw[HK.out]
 obtain⟨v,h1,h2⟩:=(h.fr0 f1).at_
 have hm:=(List.getElem?_eq_some_iff.1 hx).1
 obtain⟨m,hm'⟩:∃ m,idx (keys l) k=m:=⟨_,rfl⟩
 rw[hm'] at hx hm ⊢
 obtain⟨g,c,hg,rfl,hrow⟩:=h2.pos (by omega)
 have c0:=h1.cell 0
 have hl:=h.len
 have hty:=h2.ty (g:=g) rfl
 have hrg:r≠g:=fun e=>by
  have:=hty.1
  rw[←e,h1.ty] at this
  cases this
 have HM:=hid hm'
 clear hm' hx h h2
 go_wp2_with fail
 refine(delete_any w1 g c m l hrow (fun u hu=>?_) hm hl).mono ?_
 ·simp only[flat,List.mem_flatMap] at hu
  obtain⟨y,hy,hu⟩:=hu
  exact cs_one (HO.out y (List.mem_of_mem_drop hy)) u hu
 rintro e w2 ⟨rfl,hrow2,f2⟩
 have h1':=h1.fr f2 (by simpa using hrg)
 have d0:=h1'.frozen 0
 have d1:=h1'.cell 0
 clear c0
 go_wp2_with fail
 go_ret
 have hlen:(dropK l m).length=l.length - 1:=by simp[dropK];omega
 rw[HM.out]
 refine⟨rfl,⟨dropK_srt HS.out m,by omega,?_,_,h1'.set 0 _,?_⟩,?_⟩
 ·intro y hy
  unfold dropK at hy
  rcases List.mem_append.1 hy with hy|hy
  ·exact HO.out y (List.mem_of_mem_take hy)
  ·exact HO.out y (List.mem_of_mem_drop hy)
 ·rw[hlen]
  exact .inr ⟨g,c,hg,rfl,hrow2.far (fun e=>hrg e.symm) _⟩
 ·have g1:FrX B [311] [r] w w1:=FrX.of_fr0 f1
  have g2:FrX B [311] [r] w1 w2:=FrX.of_frT f2 (by simpa using hg) (fun x hx=>⟨311,by simp,by simp at hx;subst hx;exact hty.1⟩)
  have g3:FrX B [311] [r] w2 (w2.setCell ⟨r,0,none⟩ (.slice (some ⟨g,0,none⟩) (l.length - 1) c)):=FrX.of_fr ((Fr.refl [r] w2).setCell (by simp) _) (by simpa using hr)
  exact g1.trans (g2.trans g3)
end Go.Proofs.YtjmkkcckfbnmeaaGreatDoor.Oc
namespace Go.Proofs.YtjmkkcckfbnmeaaGreatDoor.Co
open Go.RowKit
def ent (c:M.Cd):Oc.Ent:=(c.uid,c.version,c.text)
def ents (l:List M.Cd):List Oc.Ent:=l.map ent
structure ColAt (w:World)(B g:Nat)(c:M.Col):Prop where
 at_:∃ m r,B≤m∧B≤r∧Holds w g 256 #[.pointer (some ⟨m,0,none⟩),.pointer (some ⟨r,0,none⟩),.int .i64 c.most,.int .i64 c.bytes,.int .i64 c.latest,.int .i64 c.horizon]∧Oc.MapAt w B m (ents c.cards)∧Rg.RingAt w B r c.logMost c.log
abbrev Ts:List TypeId:=[256,313,311,317,261]
theorem ColAt.fr0 {w w':World}{B g:Nat}{c:M.Col}(h:ColAt w B g c)(hf:Fr [] w w'):ColAt w' B g c:=by
 obtain⟨m,r,h1,h2,h3,h4,h5⟩:=h
 exact⟨m,r,h1,h2,h3.fr hf (by simp),h4.fr0 hf,h5.fr0 hf⟩
theorem ColAt.frx {w w':World}{B g:Nat}{c:M.Col}{Us:List TypeId}(h:ColAt w B g c)(hf:FrX B Us [] w w')(ht:∀ t,t∈Ts→t∉Us):ColAt w' B g c:=by
 obtain⟨m,r,h1,h2,h3,h4,h5⟩:=h
 exact⟨m,r,h1,h2,h3.frx hf (ht _ (by simp)) (by simp),h4.frx hf (ht _ (by simp)) (ht _ (by simp)) (by simp),h5.frx hf (ht _ (by simp)) (ht _ (by simp))⟩
theorem beq_dec (a b:ByteArray):(a==b)=decide (a=b):=by
 obtain⟨a⟩:=a
 obtain⟨b⟩:=b
 have:((ByteArray.mk a==ByteArray.mk b):Bool)=(a==b):=rfl
 rw[this]
 by_cases h:a=b
 ·simp[h]
 ·rw[beq_eq_false_iff_ne.2 h]
  simp[h]
theorem hasK_ents (l:List M.Cd)(u:ByteArray):Oc.hasK (ents l) u=(M.getC l u).isSome:=by
 unfold Oc.hasK Oc.keys ents M.getC
 induction l with
 | nil=>rfl
 | cons c l ih =>
  rw[List.find?_cons,beq_dec]
  simp only[List.map_cons,List.any_cons,ent]
  cases decide (c.uid=u) with
  | true=>rfl
  | false=>simpa[ent] using ih
theorem getC_at {l:List M.Cd}{u:ByteArray}{c:M.Cd}(hs:Srt (Oc.keys (ents l)))(h:M.getC l u=some c):c.uid=u∧(ents l)[idx (Oc.keys (ents l)) u]? = some (ent c):=by
 have hk:Oc.hasK (ents l) u=true:=by rw[hasK_ents,h];rfl
 obtain⟨x,hx,hxu⟩:=Oc.getK_some hs hk
 have hc:=List.mem_of_find?_eq_some h
 have hcu:c.uid=u:=by
  have:=List.find?_some h
  simp only[beq_dec] at this
  exact of_decide_eq_true this
 refine⟨hcu,?_⟩
 obtain⟨i,hi,hie⟩:=List.mem_iff_getElem.1 hc
 have q2:(Oc.keys (ents l))[i]? = some u:=by
  simp[Oc.keys,ents,ent,List.getElem?_eq_getElem hi,hie,hcu]
 have q1:=Oc.keys_get hx
 rw[hxu] at q1
 have hii:idx (Oc.keys (ents l)) u=i:=by
  rcases Nat.lt_trichotomy (idx (Oc.keys (ents l)) u) i with h'|h'|h'
  ·exact absurd (srt_lt hs q1 q2 h') (kl_irrefl _)
  ·exact h'
  ·exact absurd (srt_lt hs q2 q1 h') (kl_irrefl _)
 rw[hii]
 simp[ents,List.getElem?_eq_getElem hi,hie]
def vOf (o:Option M.Cd):Int:=(o.map (·.version)).getD 0
def tOf (o:Option M.Cd):ByteArray:=(o.map (·.text)).getD ByteArray.empty
theorem omapget_any (w:World)(B m:Nat)(l:List M.Cd)(u:ByteArray)(h:Oc.MapAt w B m (ents l)) :
  Calls Tryz.prog 213 #[.pointer (some ⟨m,0,none⟩),.string u] w fun e w'=>e = .returned (.tuple #[.agg #[.int .i64 (vOf (M.getC l u)),.string (tOf (M.getC l u))],.bool (M.getC l u).isSome])∧Fr [] w w':=by
 cases hc:M.getC l u with
 | none=>exact Oc.get_no w B m _ u h (by rw[hasK_ents,hc];rfl)
 | some c=>exact Oc.get_yes w B m _ u (ent c) h (by rw[hasK_ents,hc];rfl) (getC_at h.srt hc).2
theorem get_any (w:World)(B g:Nat)(c:M.Col)(u:ByteArray)(h:ColAt w B g c) :
  Calls Tryz.prog 164 #[.pointer (some ⟨g,0,none⟩),.string u] w fun e w'=>e = .returned (.tuple #[.int .i64 (vOf (M.getC c.cards u)),.string (tOf (M.getC c.cards u)),.bool (M.getC c.cards u).isSome])∧Fr [] w w':=by
 obtain⟨m,r,hm,hr,h1,h2,h3⟩:=h
 have c0:=h1.cell 0
 simp at c0
 clear h3
 generalize vOf (M.getC c.cards u)=v,tOf (M.getC c.cards u)=t,(M.getC c.cards u).isSome=b,omapget_any w B m c.cards u h2=hcall
 clear h2
 go_enter Tryz.func164,Tryz.ntmps164
 go_wp2_with fail
 refine hcall.mono ?_
 rintro e w1 ⟨rfl,f1⟩
 go_wp2_with fail
 go_quiet (fail)
 go_wp2_with fail
 go_ret3
 exact⟨rfl,(f1.alloc _).drewN _⟩
theorem bytes_any (w:World)(B g:Nat)(c:M.Col)(h:ColAt w B g c) :
  Calls Tryz.prog 209 #[.pointer (some ⟨g,0,none⟩)] w fun e w'=>e = .returned (.int .i64 c.bytes)∧w=w':=by
 obtain⟨m,r,hm,hr,h1,h2,h3⟩:=h
 have c0:=h1.cell 3
 simp at c0
 clear h2 h3
 go_enter Tryz.func209,Tryz.ntmps209
 go_wp2_with fail
 go_ret
 exact⟨rfl,rfl⟩
theorem latest_any (w:World)(B g:Nat)(c:M.Col)(h:ColAt w B g c) :
  Calls Tryz.prog 166 #[.pointer (some ⟨g,0,none⟩)] w fun e w'=>e = .returned (.int .i64 c.latest)∧w=w':=by
 obtain⟨m,r,hm,hr,h1,h2,h3⟩:=h
 have c0:=h1.cell 4
 simp at c0
 clear h2 h3
 go_enter Tryz.func166,Tryz.ntmps166
 go_wp2_with fail
 go_ret
 exact⟨rfl,rfl⟩
theorem omaplen_any (w:World)(B m:Nat)(l:List M.Cd)(h:Oc.MapAt w B m (ents l)) :
  Calls Tryz.prog 216 #[.pointer (some ⟨m,0,none⟩)] w fun e w'=>e = .returned (.int .i64 l.length)∧w=w':=by
 obtain⟨_,hl,_,v,h1,h2⟩:=h
 obtain⟨a,cap,rfl⟩:=h2.form
 have c0:=h1.cell 0
 have he:(ents l).length=l.length:=by simp[ents]
 rw[he] at c0 hl
 simp at c0
 clear h2
 go_enter Tryz.func216,Tryz.ntmps216
 go_wp2_with fail
 go_ret
 exact⟨rfl,rfl⟩
theorem len_any (w:World)(B g:Nat)(c:M.Col)(h:ColAt w B g c) :
  Calls Tryz.prog 169 #[.pointer (some ⟨g,0,none⟩)] w fun e w'=>e = .returned (.int .i64 c.cards.length)∧w=w':=by
 obtain⟨m,r,hm,hr,h1,h2,h3⟩:=h
 have c0:=h1.cell 0
 simp at c0
 clear h3
 go_enter Tryz.func169,Tryz.ntmps169
 go_wp2_with fail
 refine(omaplen_any w B m _ h2).mono ?_
 rintro e w1 ⟨rfl,rfl⟩
 go_wp2_with fail
 go_ret
 exact⟨rfl,rfl⟩
theorem new_any (w:World)(B:Nat)(birth:Int)(cards log:Int)(hc:1≤cards)(hl:1≤log)(hB:B≤w.heap.size) :
  Calls Tryz.prog 157 #[.int .i64 birth,.int .i64 cards,.int .i64 log] w fun e w'=>∃ g,e = .returned (.pointer (some ⟨g,0,none⟩))∧w.heap.size≤g∧ColAt w' B g { logMost:=log,most:=cards,latest:=birth,horizon:=birth }∧Fr [] w w':=by
 go_enter Tryz.func157,Tryz.ntmps157
 go_wp2_with fail
 refine(Oc.new_any w B).mono ?_
 rintro e w1 ⟨m,rfl,hm,q1,f1⟩
 go_wp2_with fail
 refine(Rg.new_any w1 B log hl).mono ?_
 rintro e w2 ⟨r,rfl,hr,q2,f2⟩
 have hmx:max cards 1=cards:=by omega
 have s1:=f1.size
 have s2:=f2.size
 go_wp2_with fail
 go_ret
 refine⟨_,rfl,by omega,⟨m,r,by omega,by omega,?_,?_,?_⟩,(f1.trans f2).alloc _⟩
 ·have:=Holds.new w2 256 #[.pointer (some ⟨m,0,none⟩),.pointer (some ⟨r,0,none⟩),.int .i64 cards,.int .i64 0,.int .i64 birth,.int .i64 birth]
  simpa[hmx] using this
 ·exact(q1.fr0 f2).fr0 ((Fr.refl _ _).alloc _)
 ·exact q2.fr0 ((Fr.refl _ _).alloc _)
end Go.Proofs.YtjmkkcckfbnmeaaGreatDoor.Co
namespace Go.Proofs.YtjmkkcckfbnmeaaGreatDoor.Co
open Go.RowKit
theorem Row.pre {w:World}{e:TypeId}{sz g n cap i:Nat}{xs:List Value}(h:Row w e sz g n cap xs)(hi:i≤n):Row w e sz g i cap (xs.take (i*sz)):=by
 obtain⟨cur,h1,h2,h3,h4,h5,h6⟩:=h
 refine⟨cur,h1,by omega,h3,h4,?_,?_⟩
 ·rw[←h5,List.take_take,Nat.min_eq_left (Nat.mul_le_mul_right _ hi)]
 ·rw[List.length_take,h6,Nat.min_eq_left (Nat.mul_le_mul_right _ hi)]
theorem streq (a b:ByteArray):(ByteArray.toList a==ByteArray.toList b)=(a==b):=by
 rw[beq_dec,ByteArray.toList_eq,ByteArray.toList_eq]
 by_cases h:a=b
 ·simp[h]
 ·rw[decide_eq_false h,beq_eq_false_iff_ne]
  exact fun e=>h (kl_inj e)
theorem same_any (w:World)(b:Nat)(o x:M.Op)(hc:w.cell? ⟨b,1,none⟩=some (.string o.uid)) :
  Calls Tryz.prog 240 #[.agg #[.bool x.del,.string x.uid,.string x.card,.int .i64 x.ck,.int .i64 x.cv],.pointer (some ⟨b,0,none⟩)] w fun e w'=>e = .returned (.bool (x.uid==o.uid))∧Fr [] w w':=by
 have hB:=block_lt_of_cell hc
 go_enter Tryz.func240,Tryz.ntmps240
 go_wp2
 go_ret
 exact⟨ret_bool (streq _ _),(Fr.refl _ _).alloc _⟩
theorem holdsB_eq (k v:Int)(there:Bool)(ver:Int)(h:Et.condOk k v=true):Et.holdsB k v there ver=M.holdsB k v there ver:=by
 simp[Et.holdsB,M.holdsB,h]
theorem chk_cons (c:M.Col)(room:Int)(ops:List M.Op)(i:Nat)(many grow:Int)(o:M.Op)(r:List M.Op)(tw b:Bool)(v:Int)(t:ByteArray)(htw:(ops.take i).any (fun p=>p.uid==o.uid)=tw)(hb:(M.getC c.cards o.uid).isSome=b)(hv:vOf (M.getC c.cards o.uid)=v)(ht:tOf (M.getC c.cards o.uid)=t) :
  M.chk c room ops i many grow (o::r)=if tw then ((i:Int),0,11) else if !M.holdsB o.ck o.cv b v then ((i:Int),0,6) else if o.del&&!b then ((i:Int),0,4)
   else if ((if o.del then (if b then many - 1 else many) else (if b then many - 1 else many)+1) > c.most∨(if o.del then (if b then grow - (t.size:Int) else grow) else (if b then grow - (t.size:Int) else grow)+(o.card.size:Int)) > room) then ((i:Int),0,7)
   else M.chk c room ops (i+1) (if o.del then (if b then many - 1 else many) else (if b then many - 1 else many)+1) (if o.del then (if b then grow - (t.size:Int) else grow) else (if b then grow - (t.size:Int) else grow)+(o.card.size:Int)) r:=by
 subst htw hb hv ht
 rw[M.chk]
 unfold vOf tOf
 cases M.getC c.cards o.uid with
 | none=>simp
 | some e=>simp
theorem check_any (w:World)(B B' g:Nat)(c:M.Col)(ops:List M.Op)(vo:Value)(room:Int)(h:ColAt w B g c)(ho:Own w B' 49 5 vo ops.length (flat Lp.cs ops))(hl:ops.length≤100)
  (hcd:∀ o∈ops,Et.condOk o.ck o.cv=true) (hsz:∀ o∈ops,o.card.size≤100000) (htx:∀ x∈c.cards,x.text.size≤100000) (hcl:c.cards.length≤1000) :
  Calls Tryz.prog 210 #[.pointer (some ⟨g,0,none⟩),vo,.int .i64 room] w fun e w'=>e = .returned (.tuple #[.int .i64 (c.check ops room).1,.int .i64 (c.check ops room).2.1,.int .i64 (c.check ops room).2.2])∧Fr [] w w':=by
 obtain⟨a,cap,rfl⟩:=ho.form
 obtain⟨R,hR⟩:∃ R,R=c.check ops room:=⟨_,rfl⟩
 rw[←hR]
 have HR:=hid hR
 clear hR
 have HC:=hid hcd
 have HZ:=hid hsz
 have HT:=hid htx
 have HA:=hid h
 have HO:=hid ho
 clear hcd hsz htx ho
 go_enter Tryz.func210,Tryz.ntmps210
 go_wp2_with fail
 refine(len_any w B g c h).mono ?_
 rintro e w1 ⟨rfl,rfl⟩
 clear h
 go_wp2_with fail
 go_loopw [7,9,19] (fun gr mn i wr=>∃ (k:Nat) (many grow:Int),k≤ops.length∧i = .int .i64 k∧mn = .int .i64 many∧gr = .int .i64 grow∧-(k:Int)≤many∧many≤1000+k∧-(100000*(k:Int))≤grow∧grow≤100000*(k:Int)∧Hid (R=M.chk c room ops k many grow (ops.drop k))∧Fr [] w wr) (fun _ _ i _=>ops.length - (intOf i).toNat)
 case atStart=>exact⟨0,_,_,Nat.zero_le _,rfl,rfl,rfl,by omega,by omega,by omega,by omega,hid (by rw[HR.out];rfl),Fr.refl _ _⟩
 case round =>
  obtain⟨k,many,grow,hk,rfl,rfl,rfl,hm1,hm2,hg1,hg2,hres,fr⟩:=hrel
  by_cases hlt:k<ops.length
  ·have hx:ops[k]? = some ops[k]:=List.getElem?_eq_getElem hlt
   obtain⟨o,hx'⟩:∃ o,ops[k]=o:=⟨_,rfl⟩
   rw[hx'] at hx
   have HD:=hid (show ops.drop k=o::ops.drop (k+1) by rw[←hx'];exact List.drop_eq_getElem_cons hlt)
   have HM:=hid (List.mem_of_getElem? hx)
   clear hx'
   have hk1:(k:Int)<(ops.length:Int):=by omega
   obtain⟨q,c2,hq,hv,hr,hgl,hcell⟩:=(HO.out.fr0 fr).cell Lp.cs_len rfl hx
   cases hv
   have q0:wr.cell? ⟨q,k*5,none⟩=some (.bool o.del):=hcell 0 _ (by omega) rfl
   have q1:wr.cell? ⟨q,k*5+1,none⟩=some (.string o.uid):=hcell 1 _ (by omega) rfl
   have q2:wr.cell? ⟨q,k*5+2,none⟩=some (.string o.card):=hcell 2 _ (by omega) rfl
   have q3:wr.cell? ⟨q,k*5+3,none⟩=some (.int .i64 o.ck):=hcell 3 _ (by omega) rfl
   have q4:wr.cell? ⟨q,k*5+4,none⟩=some (.int .i64 o.cv):=hcell 4 _ (by omega) rfl
   have f1:Fr [] wr (wr.alloc (.cells #[.bool o.del,.string o.uid,.string o.card,.int .i64 o.ck,.int .i64 o.cv] 49)):=(Fr.refl _ _).alloc _
   have b1:=Holds.new wr 49 #[.bool o.del,.string o.uid,.string o.card,.int .i64 o.ck,.int .i64 o.cv]
   have hrow:=Row.pre (hr.fr f1 (by simp)) (Nat.le_of_lt hlt)
   rw[←flat_take Lp.cs_len] at hrow
   have htl:(ops.take k).length=k:=by simp;omega
   have hown:Own (wr.alloc (.cells #[.bool o.del,.string o.uid,.string o.card,.int .i64 o.ck,.int .i64 o.cv] 49)) 0 49 5 (.slice (some ⟨q,0,none⟩) (ops.take k).length cap) (ops.take k).length (flat Lp.cs (ops.take k)):=.inr ⟨q,cap,Nat.zero_le _,rfl,by rw[htl];exact hrow⟩
   have hcon:=Lp.contains_any _ 0 _ (ops.take k) (fun p=>p.uid==o.uid) wr.heap.size hown (by omega) (fun w' hf x _=>same_any w' wr.heap.size o x ((b1.fr hf (by simp)).cell 1))
   rw[htl] at hcon
   have HCON:=hid hcon
   have hkc:k≤cap:=Nat.le_trans (Nat.le_of_lt hlt) hr.le
   have hcapm:cap≤maxLen:=hr.cap_le
   clear hcell hr hown hrow hcon hx htl
   go_wp2_with fail
   refine HCON.out.mono ?_
   rintro e w2 ⟨rfl,f2⟩
   obtain⟨tw,htw⟩:∃ b,(ops.take k).any (fun p=>p.uid==o.uid)=b:=⟨_,rfl⟩
   obtain⟨b,hb⟩:∃ b,(M.getC c.cards o.uid).isSome=b:=⟨_,rfl⟩
   obtain⟨v,hv⟩:∃ b,vOf (M.getC c.cards o.uid)=b:=⟨_,rfl⟩
   obtain⟨t,ht⟩:∃ b,tOf (M.getC c.cards o.uid)=b:=⟨_,rfl⟩
   have htz:(t.size:Int)≤100000:=by
    rw[←ht]
    unfold tOf
    cases hge:M.getC c.cards o.uid with
    | none=>simp
    | some e =>
     have:=HT.out e (List.mem_of_find?_eq_some hge)
     simp
     omega
   have hcz:(o.card.size:Int)≤100000:=by
    have:=HZ.out o HM.out
    omega
   have HCH:=hid (hres.out.trans ((congrArg (M.chk c room ops k many grow) HD.out).trans (chk_cons c room ops k many grow o _ tw b v t htw hb hv ht)))
   have HG:=hid (get_any w2 B g c o.uid (HA.out.fr0 (fr.trans (f1.trans f2))))
   rw[hb,hv,ht] at HG
   rw[htw]
   clear hres htw hb hv ht
   have b2:=b1.fr f2 (by simp)
   have d0:=b2.cell 0
   have d1:=b2.cell 1
   have d2:=b2.cell 2
   have d3:=b2.cell 3
   have d4:=b2.cell 4
   simp at d0 d1 d2 d3 d4
   cases tw with
   | true =>
    go_wp2_with fail
    go_ret3
    have:=HCH.out
    simp only[if_true] at this
    rw[this]
    exact⟨rfl,fr.trans (f1.trans f2)⟩
   | false =>
    go_wp2_with fail
    refine HG.out.mono ?_
    rintro e w3 ⟨rfl,f3⟩
    have b3:=b2.fr f3 (by simp)
    clear d0 d1 d2 d3 d4
    have d0:=b3.cell 0
    have d1:=b3.cell 1
    have d2:=b3.cell 2
    have d3:=b3.cell 3
    have d4:=b3.cell 4
    simp at d0 d1 d2 d3 d4
    go_wp2_with fail
    have hho:=Et.holds_any o.ck o.cv b v w3
    rw[holdsB_eq _ _ _ _ (HC.out o HM.out)] at hho
    refine hho.mono ?_
    clear hho
    rintro e w4 ⟨rfl,f4⟩
    have b4:=b3.fr f4 (by simp)
    clear d0 d1 d2 d3 d4
    have d0:=b4.cell 0
    have d2:=b4.cell 2
    simp at d0 d2
    obtain⟨hh,hhe⟩:∃ x,M.holdsB o.ck o.cv b v=x:=⟨_,rfl⟩
    rw[hhe]
    rw[hhe] at HCH
    clear hhe
    have f5:=fr.trans (f1.trans (f2.trans (f3.trans f4)))
    cases hh with
    | false =>
     go_wp2_with fail
     go_ret3
     have:=HCH.out
     simp only[Bool.false_eq_true,if_false,Bool.not_false,if_true] at this
     rw[this]
     exact⟨rfl,f5⟩
    | true =>
     obtain⟨mm,rr,_,_,hcol,_,_⟩:=HA.out.fr0 f5
     have y2:=hcol.cell 2
     simp at y2
     obtain⟨dl,hdl⟩:∃ x,o.del=x:=⟨_,rfl⟩
     have HCX:=hid HCH.out
     clear HCH
     rw[hdl] at HCX d0
     have HDL:=hid hdl
     clear hdl
     cases dl<;>cases b
     ·try simp only[Bool.false_eq_true,if_false,Bool.not_false,if_true,Bool.not_true,Bool.and_true,Bool.and_false,Bool.true_and,Bool.false_and] at HCX
      by_cases hx1:c.most<many+1
      ·go_wp2_with fail
       go_ret3
       rw[HCX.out,if_pos (by omega)]
       exact⟨rfl,f5⟩
      ·by_cases hx2:room<grow+(o.card.size:Int)
       ·go_wp2_with fail
        go_ret3
        rw[HCX.out,if_pos (by omega)]
        exact⟨rfl,f5⟩
       ·go_wp2_with fail
        go_roundw
        case rel=>exact⟨k+1,many+1,grow+(o.card.size:Int),by omega,by go_num,by go_num,by go_num,by omega,by omega,by omega,by omega,hid (HCX.out.trans (if_neg (by omega))),f5⟩
        case measure=>simp[intOf];omega
     ·simp only[Bool.false_eq_true,if_false,Bool.not_false,if_true,Bool.not_true,Bool.and_true,Bool.and_false,Bool.true_and,Bool.false_and] at HCX
      by_cases hx1:c.most<many - 1+1
      ·go_wp2_with fail
       go_ret3
       rw[HCX.out,if_pos (by omega)]
       exact⟨rfl,f5⟩
      ·by_cases hx2:room<grow - (t.size:Int)+(o.card.size:Int)
       ·go_wp2_with fail
        go_ret3
        rw[HCX.out,if_pos (by omega)]
        exact⟨rfl,f5⟩
       ·go_wp2_with fail
        go_roundw
        case rel=>exact⟨k+1,many - 1+1,grow - (t.size:Int)+(o.card.size:Int),by omega,by go_num,by go_num,by go_num,by omega,by omega,by omega,by omega,hid (HCX.out.trans (if_neg (by omega))),f5⟩
        case measure=>simp[intOf];omega
     ·simp only[Bool.false_eq_true,if_false,Bool.not_false,if_true,Bool.not_true,Bool.and_true,Bool.and_false,Bool.true_and,Bool.false_and] at HCX
      go_wp2_with fail
      go_ret3
      rw[HCX.out]
      exact⟨rfl,f5⟩
     ·simp only[Bool.false_eq_true,if_false,Bool.not_false,if_true,Bool.not_true,Bool.and_true,Bool.and_false,Bool.true_and,Bool.false_and] at HCX
      by_cases hx1:c.most<many - 1
      ·go_wp2_with fail
       go_ret3
       rw[HCX.out,if_pos (by omega)]
       exact⟨rfl,f5⟩
      ·by_cases hx2:room<grow - (t.size:Int)
       ·go_wp2_with fail
        go_ret3
        rw[HCX.out,if_pos (by omega)]
        exact⟨rfl,f5⟩
       ·go_wp2_with fail
        go_roundw
        case rel=>exact⟨k+1,many - 1,grow - (t.size:Int),by omega,by go_num,by go_num,by go_num,by omega,by omega,by omega,by omega,hid (HCX.out.trans (if_neg (by omega))),f5⟩
        case measure=>simp[intOf];omega
  ·obtain rfl:k=ops.length:=by omega
   have hz:R=(0,grow,0):=by
    have:=hres.out
    rw[List.drop_length] at this
    exact this
   clear hres
   go_wp2_with fail
   go_ret3
   rw[hz]
   exact⟨rfl,fr⟩
end Go.Proofs.YtjmkkcckfbnmeaaGreatDoor.Co
