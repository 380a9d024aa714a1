/- Texts Ring, LInts, LAsk, Lock. -/
import Derived.Test.YtjmkkcckfbnmeaaGreatDoorM00
import Derived.Test.YtjmkkcckfbnmeaaGreatDoorM07
import Derived.Test.YtjmkkcckfbnmeaaGreatDoorM08
import Derived.BigQuiet
import Derived.Deep.QuietTactic
set_option maxRecDepth 100000
set_option maxHeartbeats 8000000
set_option linter.all false
open Go.Lib (hid)
namespace Go.Proofs.YtjmkkcckfbnmeaaGreatDoor.Rg
open Go.RowKit
structure RingAt (w:World)(B g:Nat)(most:Int)(l:List (Int × ByteArray)):Prop where
 len:l.length≤100
 at_:∃ va,Holds w g 317 #[.int .i64 most,va]∧Own w B 261 2 va l.length (flat Lc.cs l)
abbrev Ts:List TypeId:=[317,261]
theorem RingAt.fr0 {w w':World}{B g:Nat}{most:Int}{l:List (Int × ByteArray)}(h:RingAt w B g most l)(hf:Fr [] w w'):RingAt w' B g most l:=by
 obtain⟨a,va,h1,h2⟩:=h
 exact⟨a,va,h1.fr hf (by simp),h2.fr0 hf⟩
theorem RingAt.frx {w w':World}{B g:Nat}{most:Int}{l:List (Int × ByteArray)}{Us:List TypeId}(h:RingAt w B g most l)(hf:FrX B Us [] w w')(h1:317∉Us)(h2:261∉Us):RingAt w' B g most l:=by
 obtain⟨a,va,p,q⟩:=h
 exact⟨a,va,p.frx hf h1 (by simp),q.frx0 hf h2⟩
theorem new_any (w:World)(B:Nat)(most:Int)(h1:1≤most):Calls Tryz.prog 202 #[.int .i64 most] w fun e w'=>∃ g,e = .returned (.pointer (some ⟨g,0,none⟩))∧w.heap.size≤g∧RingAt w' B g most []∧Fr [] w w':=by
 have hm:¬ most<1:=by omega
 go_enter Tryz.func202,Tryz.ntmps202
 go_wp2
 go_ret
 exact⟨_,rfl,Nat.le_refl _,⟨by simp,_,Holds.new _ _ _,Own.nil _ _ _ _⟩,(Fr.refl _ _).alloc _⟩
theorem ret_push (W:World)(tmps:Array Value)(g:Nat)(k:Int)(s:ByteArray)(b:Bool)(hp:Holds W g 261 #[.int .i64 k,.string s])(h4:tmps[4]?.getD undef = .pointer (some ⟨g,0,none⟩))(h5:tmps[5]?.getD undef = .bool b) :
  (results Tryz.f172 tmps).run Tryz.prog W = .ok (.tuple #[.agg #[.int .i64 k,.string s],.bool b]) W:=by
 have q0:=hp.cell 0
 have q1:=hp.cell 1
 have hr:Tryz.f172.results=#[.cell 4 261,.tmp 5]:=rfl
 simp at q0 q1
 simp[results,h4,h5,go_sem,q0,q1]
theorem push_any (w:World)(B g:Nat)(most tok:Int)(uid:ByteArray)(l:List (Int × ByteArray))(h:RingAt w B g most l)(hB:B≤w.heap.size)(hg:B≤g)(hl:(l.length:Int)<most)(hl2:l.length≤90) :
  Calls Tryz.prog 172 #[.pointer (some ⟨g,0,none⟩),.agg #[.int .i64 tok,.string uid]] w fun e w'=>e = .returned (.tuple #[.agg #[.int .i64 0,.string ByteArray.empty],.bool false])∧RingAt w' B g most (l++[(tok,uid)])∧FrX B Ts [] w w'∧∃ S,Fr S w w'∧(∀ w0,RingAt w0 B g most l→Fr [] w0 w→∀ x∈S,x<w0.heap.size)∧∀ v k,w'.cell? ⟨g,1,none⟩=some v→ownOf v=some k→k∈S∨w.heap.size≤k:=by
 obtain⟨i3,hi,hz0,hz1,hz2⟩:=info_parts Lc.infoE
 have f0:Fr [] w ((w.alloc (.cells #[.int .i64 tok,.string uid] 261)).alloc (.cells #[.int .i64 0,.string ⟨#[]⟩] 261)):=((Fr.refl _ _).alloc _).alloc _
 have bx0:Holds ((w.alloc (.cells #[.int .i64 tok,.string uid] 261)).alloc (.cells #[.int .i64 0,.string ⟨#[]⟩] 261)) w.heap.size 261 #[.int .i64 tok,.string uid]:=(Holds.new _ _ _).alloc _
 have by0:Holds ((w.alloc (.cells #[.int .i64 tok,.string uid] 261)).alloc (.cells #[.int .i64 0,.string ⟨#[]⟩] 261)) (w.heap.size+1) 261 #[.int .i64 0,.string ⟨#[]⟩]:=at_new (by simp)
 obtain⟨_,va,p1,p2⟩:=h.fr0 f0
 obtain⟨aq,cq,rfl⟩:=p2.form
 have c0:=p1.cell 0
 have c1:=p1.cell 1
 simp at c0 c1
 have hne:((l.length:Int)==most)=false:=by simp only[beq_eq_false_iff_ne,ne_eq];omega
 go_enter Tryz.func172,Tryz.ntmps172
 go_wp2_with fail
 go_quiet (fail)
 obtain⟨W,hW⟩:∃ W,W=((w.alloc (.cells #[.int .i64 tok,.string uid] 261)).alloc (.cells #[.int .i64 0,.string ⟨#[]⟩] 261)).drewN nq:=⟨_,rfl⟩
 have fW:Fr [] w W:=by rw[hW];exact f0.drewN _
 have q1:Holds W g 317 #[.int .i64 most,.slice aq l.length cq]:=by rw[hW];exact p1.drewN _
 have q2:Own W B 261 2 (.slice aq l.length cq) l.length (flat Lc.cs l):=by rw[hW];exact p2.fr0 ((Fr.refl _ _).drewN _)
 have bx:Holds W w.heap.size 261 #[.int .i64 tok,.string uid]:=by rw[hW];exact bx0.drewN _
 have by_:Holds W (w.heap.size+1) 261 #[.int .i64 0,.string ⟨#[]⟩]:=by rw[hW];exact by0.drewN _
 rw[←hW]
 clear hW f0 bx0 by0 p1 p2 c0 c1
 have c0:=q1.cell 0
 have c1:=q1.cell 1
 have x0:=bx.cell 0
 have x1:=bx.cell 1
 simp at c0 c1 x0 x1
 have hgl:=q1.lt
 have hxl:=bx.lt
 have hyl:=by_.lt
 have hsz:=fW.size
 have HT:=hid (fun k (hk:ownOf (.slice aq l.length cq)=some k)=>q2.ty hk)
 have HG:=hid (show g∉(ownOf (.slice aq l.length cq)).toList from fun hk=>by
  have:=(q2.ty (g:=g) (by simpa using hk)).1
  rw[q1.ty] at this
  cases this)
 have hold:∀ k,ownOf (.slice aq l.length cq)=some k→k<w.heap.size:=fun k hk=>by
  obtain⟨_,va',k1,k2⟩:=h
  have e:va' = .slice aq l.length cq:=by
   have a:=(k1.fr fW (by simp)).cell 1
   have b:=q1.cell 1
   rw[a] at b
   simpa using b
  subst e
  rcases k2 with⟨hv,_⟩|⟨_,_,_,hv,hrow'⟩
  ·rw[hv] at hk;cases hk
  ·rw[hv] at hk;cases hk;exact hrow'.lt
 have HO:=hid hold
 have HSl:=hid (q2.sl.fr0 (((Fr.refl [] W).alloc (.cells #[.int .i64 tok,.string uid] 261)).drew))
 clear h hold
 go_wp2_with fail
 go_region_law ((refine step_append_sl rfl (.tmp 40) (.tmp 42) 315 rfl i3 _ 24 Tryz.underlying315 hi hz0 hz1 hz2 rfl (by decide) _ (ownOf (.slice aq l.length cq)) rfl HSl.out _ 1 1 [.int .i64 tok,.string uid] rfl rfl (fun j u hu=>⟨_,rfl,by rw[at_add,Nat.zero_add,((at_new (cs:=#[.int .i64 tok,.string uid]) (t:=261) (n:=W.heap.size) rfl).drew).cell j];simpa using hu⟩) (by simp[Value.oneCell']) (by unfold maxLen;omega) (by omega) ?_;intro v2 w2 own2 hs2 hf2 ho2 hm2;obtain⟨a2,c2,rfl⟩:=hs2.form;have f2:Fr (ownOf (.slice aq l.length cq)).toList W w2:=(((Fr.refl _ W).alloc _).drew).trans hf2;have r1:=q1.fr f2 HG.out;have d1:=r1.cell 1;have t1:=r1.frozen 1;have ry:=by_.fr f2 (fun hx=>by have:=HO.out _ (by simpa using hx);omega);have y0:=ry.cell 0;have y1:=ry.cell 1;have z0:=ry.frozen 0;have z1:=ry.frozen 1;simp at d1 y0 y1))
 all_goals
  have hyg:w.heap.size+1≠g:=fun e=>by
   have:=ry.ty
   rw[e,r1.ty] at this
   cases this
  have hgy:g≠w.heap.size+1:=fun e=>hyg e.symm
  have hl2':=ry.lt
  go_wp2_with fail
  obtain⟨o2,e2⟩:=own_after (v:=.slice aq l.length cq) (w:=(W.alloc (.cells #[.int .i64 tok,.string uid] 261)).drew) (by simp;omega) (fun k hk=>(HT.out k hk).2) hs2 ho2 (hm2 (by omega))
  have hng:∀ k,ownOf (.slice a2 (l.length+1) c2)=some k→k≠g∧k≠w.heap.size+1:=fun k hk=>by
   rw[e2] at hk
   rcases ho2 with h'|⟨x,h',hx⟩
   ·refine⟨?_,?_⟩
    ·rintro rfl
     exact HG.out (by rw[←h'];simpa using hk)
    ·have:=HO.out k (by rw[←h'];exact hk)
     omega
   ·rw[h'] at hk
    cases hk
    simp at hx
    exact⟨by omega,by omega⟩
  refine bodyPost_ret (ret_push _ _ (w.heap.size+1) 0 ⟨#[]⟩ _ (((ry.far hyg _).set 0 _).set 1 _) rfl rfl) rfl ⟨rfl,⟨by simp;omega,_,by simpa using ((r1.set 1 (.slice a2 (l.length+1) c2)).far hgy _).far hgy _,?_⟩,?_,g::(ownOf (.slice aq l.length cq)).toList,?_,?_,?_⟩
  ·have e:flat Lc.cs (l++[(tok,uid)])=flat Lc.cs l++[.int .i64 tok,.string uid]:=by rw[flat_append,flat_one];rfl
   simp only[List.length_append,List.length_cons,List.length_nil,e]
   exact o2.fr ((((Fr.refl [g,w.heap.size+1] w2).setCell (by simp) _).setCell (by simp) _).setCell (by simp) _) (fun k hk=>by simpa using hng k hk)
  ·have a1:FrX B Ts [] w w2:=(FrX.of_fr0 fW).trans (FrX.of_frT f2 (fun x hx=>(HT.out x (by simpa using hx)).2) (fun x hx=>⟨261,by simp,(HT.out x (by simpa using hx)).1⟩))
   exact((a1.trans (FrX.of_frT ((Fr.refl [g] w2).setCell (by simp) _) (by simpa using hg) (fun x hx=>⟨317,by simp,by simp at hx;subst hx;exact r1.ty⟩))).setNew (by simp) _).setNew (by simp) _
  ·have a1:Fr (g::(ownOf (.slice aq l.length cq)).toList) w w2:=(fW.mono (by simp)).trans (f2.mono (fun x hx=>List.mem_cons_of_mem _ hx))
   exact((a1.setCell (p:=⟨g,1,none⟩) (by simp) _).setNew (by simp) _).setNew (by simp) _
  ·rintro w0 ⟨_,va0,k1,k2⟩ f0 x hx
   rcases List.mem_cons.1 hx with rfl|hx
   ·exact k1.lt
   ·have e:va0 = .slice aq l.length cq:=by
     have a:=((k1.fr f0 (by simp)).fr fW (by simp)).cell 1
     have b:=q1.cell 1
     rw[a] at b
     simpa using b
    subst e
    rcases k2 with⟨hv,_⟩|⟨_,_,_,hv,hrow'⟩
    ·rw[hv] at hx;simp[ownOf] at hx
    ·rw[hv] at hx;simp[ownOf] at hx;subst hx;exact hrow'.lt
  ·intro v k hv hk
   have hc:=(((r1.set 1 (.slice a2 (l.length+1) c2)).far (p:=⟨w.heap.size+1,0,none⟩) hgy (.int .i64 0)).far (p:=⟨w.heap.size+1,1,none⟩) hgy (.string ⟨#[]⟩)).cell 1
   rw[hv] at hc
   simp at hc
   subst hc
   rw[e2] at hk
   rcases ho2 with h'|⟨x,h',hx⟩
   ·exact .inl (List.mem_cons_of_mem _ (by rw[←h'];simpa using hk))
   ·rw[h'] at hk
    cases hk
    simp at hx
    exact .inr (by omega)
theorem RingAt.far {w:World}{B g b i:Nat}{most:Int}{l:List (Int × ByteArray)}(h:RingAt w B g most l)(hg:g≠b)(ho:∀ v k,w.cell? ⟨g,1,none⟩=some v→ownOf v=some k→k≠b)(u:Value):RingAt (w.setCell ⟨b,i,none⟩ u) B g most l:=by
 obtain⟨a,va,p,q⟩:=h
 have hc:=p.cell 1
 simp at hc
 exact⟨a,va,p.far hg u,q.fr ((Fr.refl [b] w).setCell (by simp) _) (fun k hk=>by simpa using ho va k hc hk)⟩
end Go.Proofs.YtjmkkcckfbnmeaaGreatDoor.Rg
namespace Go.Proofs.YtjmkkcckfbnmeaaGreatDoor.Li
open Go.RowKit
abbrev El:=Int
def cs (x:El):List Value:=[.int .i64 x]
theorem cs_len (x:El):(cs x).length=1:=rfl
theorem cs_one {x:El} : ∀ u∈cs x,u.oneCell'=true:=by
 intro u hu
 simp only[cs,List.mem_cons,List.not_mem_nil,or_false] at hu
 subst hu;rfl
theorem infoE:(Tryz.prog.info? 3).map (fun i=>(i.zero,i.size,i.bytes))=some (some (.int .i64 0),1,8):=by kernel_rfl
def firstP (p:El→Bool)(l:List El):Int:=match l.findIdx? p with|some k=>(k:Int)|none=>-1
theorem firstP_yes {p:El→Bool}{l:List El}{k:Nat}{x:El}(h:∀ (j:Nat) y,l[j]? = some y→j<k→p y=false)(hx:l[k]? = some x)(hp:p x=true):firstP p l=(k:Int):=by
 have hk:=List.getElem?_eq_some_iff.1 hx
 have:l.findIdx? p=some k:=by
  rw[List.findIdx?_eq_some_iff_getElem]
  refine⟨hk.1,by rw[hk.2];exact hp,fun j hj=>?_⟩
  have:=h j (l[j]'(Nat.lt_trans hj hk.1)) (List.getElem?_eq_getElem _) hj
  rw[this]
  decide
 rw[firstP,this]
theorem firstP_no {p:El→Bool}{l:List El}(h:∀ (j:Nat) y,l[j]? = some y→p y=false):firstP p l = -1:=by
 have:l.findIdx? p=none:=by
  rw[List.findIdx?_eq_none_iff]
  intro x hx
  obtain⟨j,hj⟩:=List.getElem?_of_mem hx
  exact h j x hj
 rw[firstP,this]
theorem firstP_any (p:El→Bool)(l:List El):decide (firstP p l ≥ 0)=l.any p:=by
 unfold firstP
 cases h:l.findIdx? p with
 | none =>
  rw[List.findIdx?_eq_none_iff] at h
  have:l.any p=false:=by rw[List.any_eq_false];intro x hx;rw[h x hx];decide
  rw[this]
  rfl
 | some k =>
  rw[List.findIdx?_eq_some_iff_getElem] at h
  obtain⟨hk,hp,_⟩:=h
  have:l.any p=true:=List.any_eq_true.2 ⟨_,List.getElem_mem hk,hp⟩
  rw[this]
  simp
theorem index_any (w:World)(B:Nat)(v:Value)(l:List El)(p:El→Bool)(b:Nat)(h:Own w B 3 1 v l.length (flat cs l))(hl:l.length≤1000)
  (hp:∀ w',Fr [] w w'→∀ x,x∈l→Calls Tryz.prog 174 #[.int .i64 x,.pointer (some ⟨b,0,none⟩)] w' fun e w''=>e = .returned (.bool (p x))∧Fr [] w' w'') :
  Calls Tryz.prog 220 #[v,.func (.func 174) #[] #[.pointer (some ⟨b,0,none⟩)]] w fun e w'=>e = .returned (.int .i64 (firstP p l))∧Fr [] w w':=by
 obtain⟨a,c,rfl⟩:=h.form
 have HP:=hid hp
 clear hp
 go_enter Tryz.func220,Tryz.ntmps220
 go_wp2
 go_loopw [5,8] (fun _ i wr=>∃ k:Nat,k≤l.length∧i = .int .i64 k∧(∀ (j:Nat) y,l[j]? = some y→j<k→p y=false)∧Fr [] w wr) (fun _ i _=>l.length - (intOf i).toNat)
 case atStart=>exact⟨0,Nat.zero_le _,rfl,fun _ _ _ h=>by omega,Fr.refl _ _⟩
 case round =>
  obtain⟨k,hk,rfl,hno,fr⟩:=hrel
  by_cases hlt:k<l.length
  ·have hx:l[k]? = some l[k]:=List.getElem?_eq_getElem hlt
   obtain⟨x,hx'⟩:∃ x,l[k]=x:=⟨_,rfl⟩
   rw[hx'] at hx
   clear hx'
   have hk1:(k:Int)<(l.length:Int):=by omega
   obtain⟨g,c2,hg,hv,hr,hgl,hcell⟩:=(h.fr0 fr).cell cs_len rfl hx
   cases hv
   have q0:wr.cell? ⟨g,k,none⟩=some (.int .i64 x):=by have:=hcell 0 _ (by omega) rfl;simpa using this
   have hcall:=HP.out wr fr x (List.mem_of_getElem? hx)
   have HX:=hid hx
   have HN:=hid hno
   have HC:=hid hcall
   clear hx hno hcall hr hcell
   cases hb:p x
   ·have HB:=hid hb
    clear hb
    go_wp2_with fail
    refine HC.out.mono ?_
    rintro e w' ⟨rfl,f2⟩
    rw[HB.out]
    go_wp2_with fail
    go_roundw
    case rel=>exact⟨k+1,by omega,by go_num,fun j y hy hj=>by
     by_cases e:j=k
     ·subst e
      rw[HX.out] at hy
      cases hy
      exact HB.out
     ·exact HN.out j y hy (by omega),fr.trans f2⟩
    case measure=>simp[intOf];omega
   ·have HB:=hid hb
    have HF:=hid (firstP_yes HN.out HX.out hb)
    clear hb
    go_wp2_with fail
    refine HC.out.mono ?_
    rintro e w' ⟨rfl,f2⟩
    rw[HB.out]
    go_wp2_with fail
    go_ret
    exact⟨ret_int HF.out.symm,fr.trans f2⟩
  ·obtain rfl:k=l.length:=by omega
   have HF:=hid (firstP_no (p:=p) (l:=l) fun j y hy=>hno j y hy (List.getElem?_eq_some_iff.1 hy).1)
   clear hno
   go_wp2
   go_ret
   exact⟨ret_int HF.out.symm,fr⟩
theorem index_int (w:World)(B:Nat)(v:Value)(l:List El)(who:Int)(h:Own w B 3 1 v l.length (flat cs l))(hl:l.length≤1000) :
  Calls Tryz.prog 186 #[v,.int .i64 who] w fun e w'=>e = .returned (.int .i64 (firstP (fun x=>who==x) l))∧w=w':=by
 obtain⟨a,c,rfl⟩:=h.form
 go_enter Tryz.func186,Tryz.ntmps186
 go_wp2
 go_loop [5,8] (fun _ i=>∃ k:Nat,k≤l.length∧i = .int .i64 k∧(∀ (j:Nat) y,l[j]? = some y→j<k→(who==y)=false)) (fun _ i=>l.length - (intOf i).toNat)
 case atStart=>exact⟨0,Nat.zero_le _,rfl,fun _ _ _ h=>by omega⟩
 case round =>
  obtain⟨k,hk,rfl,hno⟩:=hrel
  by_cases hlt:k<l.length
  ·have hx:l[k]? = some l[k]:=List.getElem?_eq_getElem hlt
   obtain⟨x,hx'⟩:∃ x,l[k]=x:=⟨_,rfl⟩
   rw[hx'] at hx
   clear hx'
   have hk1:(k:Int)<(l.length:Int):=by omega
   obtain⟨g,c2,hg,hv,hr,hgl,hcell⟩:=h.cell cs_len rfl hx
   cases hv
   have q0:w.cell? ⟨g,k,none⟩=some (.int .i64 x):=by have:=hcell 0 _ (by omega) rfl;simpa using this
   have HX:=hid hx
   have HN:=hid hno
   clear hx hno hr hcell
   cases hb:who==x
   ·go_wp2
    go_round
    case rel=>exact⟨k+1,by omega,by go_num,fun j y hy hj=>by
     by_cases e:j=k
     ·subst e
      rw[HX.out] at hy
      cases hy
      exact hb
     ·exact HN.out j y hy (by omega)⟩
    case measure=>simp[intOf];omega
   ·have HF:=hid (firstP_yes (p:=fun x=>who==x) HN.out HX.out hb)
    go_wp2
    go_ret
    exact⟨ret_int HF.out.symm,rfl⟩
  ·obtain rfl:k=l.length:=by omega
   have HF:=hid (firstP_no (p:=fun x=>who==x) (l:=l) fun j y hy=>hno j y hy (List.getElem?_eq_some_iff.1 hy).1)
   clear hno
   go_wp2
   go_ret
   exact⟨ret_int HF.out.symm,rfl⟩
theorem contains_int (w:World)(B:Nat)(v:Value)(l:List El)(who:Int)(h:Own w B 3 1 v l.length (flat cs l))(hl:l.length≤1000) :
  Calls Tryz.prog 131 #[v,.int .i64 who] w fun e w'=>e = .returned (.bool (l.any fun x=>who==x))∧w=w':=by
 have HI:=hid (index_int w B v l who h hl)
 obtain⟨a,c,rfl⟩:=h.form
 have HA:=hid (firstP_any (fun x=>who==x) l)
 go_enter Tryz.func131,Tryz.ntmps131
 go_wp2_with fail
 refine HI.out.mono ?_
 rintro e w' ⟨rfl,rfl⟩
 go_wp2_with fail
 go_ret
 exact⟨ret_bool (by rw[←HA.out]),rfl⟩
theorem zeroE (w:World):(zeroValue 3).run Tryz.prog w = .ok (.int .i64 0) w:=by kernel_rfl
theorem filter_take_succ {p:El→Bool}{l:List El}{j:Nat}{x:El}(h:l[j]? = some x):(l.take (j+1)).filter (fun y=>!p y)=(l.take j).filter (fun y=>!p y)++if p x then [] else [x]:=by
 rw[List.take_add_one,h,Option.toList_some,List.filter_append]
 cases hp:p x<;>simp[hp]
theorem deletefunc_any (w:World)(B g cap:Nat)(l:List El)(p:El→Bool)(b:Nat)(hr:Row w 3 1 g l.length cap (flat cs l))(hgB:B≤g)(hl:l.length≤1000)
  (hp:∀ w',Fr [g] w w'→∀ x,x∈l→Calls Tryz.prog 174 #[.int .i64 x,.pointer (some ⟨b,0,none⟩)] w' fun e w''=>e = .returned (.bool (p x))∧Fr [] w' w'') :
  Calls Tryz.prog 173 #[.slice (some ⟨g,0,none⟩) l.length cap,.func (.func 174) #[] #[.pointer (some ⟨b,0,none⟩)]] w fun e w'=>e = .returned (.slice (some ⟨g,0,none⟩) (l.filter fun y=>!p y).length cap)∧Row w' 3 1 g (l.filter fun y=>!p y).length cap (flat cs (l.filter fun y=>!p y))∧Fr [g] w w':=by
 have hle:=hr.le
 have hcm:=hr.cap_le
 unfold maxLen at hcm
 have hI:=index_any w B (.slice (some ⟨g,0,none⟩) l.length cap) l p b (.inr ⟨g,cap,hgB,rfl,hr⟩) hl (fun w' f x hx=>hp w' (f.mono (by simp)) x hx)
 have HI:=hid hI
 have HP:=hid hp
 clear hI hp
 cases hf:l.findIdx? p with
 | none =>
  have hF:firstP p l = -1:=by rw[firstP,hf]
  have hE:(l.filter fun y=>!p y)=l:=by
   rw[List.findIdx?_eq_none_iff] at hf
   rw[List.filter_eq_self]
   intro x hx
   rw[hf x hx]
   rfl
  rw[hE]
  have HF:=hid hF
  clear hF hE hf
  go_enter Tryz.func173,Tryz.ntmps173
  go_wp2_with fail
  refine HI.out.mono ?_
  rintro e w1 ⟨rfl,f1⟩
  rw[HF.out]
  go_wp2_with fail
  go_ret
  exact⟨rfl,hr.fr f1 (by simp),f1.mono (by simp)⟩
 | some m =>
  have hF:firstP p l=(m:Int):=by rw[firstP,hf]
  obtain⟨hm,hpm,hbef⟩:=List.findIdx?_eq_some_iff_getElem.1 hf
  have hT:(l.take m).filter (fun y=>!p y)=l.take m:=by
   rw[List.filter_eq_self]
   intro x hx
   obtain⟨j,hj,rfl⟩:=List.mem_iff_getElem.1 hx
   have hjm:j<m:=by simp at hj;omega
   have:=hbef j hjm
   rw[List.getElem_take]
   simpa using this
  have hT1:(l.take (m+1)).filter (fun y=>!p y)=l.take m:=by
   rw[filter_take_succ (List.getElem?_eq_getElem hm),hT,hpm]
   simp
  have hne:((m:Int)==-1)=false:=by
   simp only[beq_eq_false_iff_ne,ne_eq]
   omega
  have HF:=hid hF
  have HT:=hid hT1
  clear hF hf hbef hpm hT hT1
  go_enter Tryz.func173,Tryz.ntmps173
  go_wp2_with fail
  refine HI.out.mono ?_
  rintro e w1 ⟨rfl,f1⟩
  rw[HF.out]
  have r1:=hr.fr f1 (by simp)
  go_wp2_with fail
  go_loopw [5,6,7] (fun s i _ wr=>∃ (a j:Nat) (c:List El),a<j∧j≤l.length∧s = .int .i64 a∧i = .int .i64 j∧c.length=l.length∧Row wr 3 1 g l.length cap (flat cs c)∧c.take a=(l.take j).filter (fun y=>!p y)∧a=((l.take j).filter (fun y=>!p y)).length∧c.drop j=l.drop j∧Fr [g] w wr) (fun _ i _ _=>l.length - (intOf i).toNat)
  case atStart=>exact⟨m,m+1,l,by omega,by omega,rfl,rfl,rfl,r1,HT.out.symm,by rw[HT.out];simp;omega,rfl,f1.mono (by simp)⟩
  case round =>
   obtain⟨a,j,c,haj,hj,rfl,rfl,hcl,hrow,htk,hal,hdr,fr⟩:=hrel
   by_cases hlt:j<l.length
   ·have hx:l[j]? = some l[j]:=List.getElem?_eq_getElem hlt
    obtain⟨x,hx'⟩:∃ x,l[j]=x:=⟨_,rfl⟩
    rw[hx'] at hx
    clear hx'
    have hcx:c[j]? = some x:=by
     have:=congrArg (fun l:List El=>l[0]?) hdr
     simpa[hx] using this
    have hk1:(j:Int)<(l.length:Int):=by omega
    have q0:wr.cell? ⟨g,j,none⟩=some (.int .i64 x):=hrow.cell (by have:=flat_get cs_len hcx (j:=0) (by omega);simpa[cs] using this)
    have hcall:=HP.out wr fr x (List.mem_of_getElem? hx)
    have hsucc:=filter_take_succ (p:=p) hx
    have hdr2:c.drop (j+1)=l.drop (j+1):=by
     have:=congrArg (List.drop 1) hdr
     simpa[List.drop_drop,Nat.add_comm] using this
    have HD:=hid hdr2
    have HX:=hid hx
    have HK:=hid htk
    have HL:=hid hal
    have HC:=hid hcall
    have HCl:=hid hcl
    clear hx htk hal hcall hdr hdr2 hcx hcl
    cases hb:p x
    ·rw[hb] at hsucc
     have HS:=hid hsucc
     have HB:=hid hb
     clear hb hsucc
     have z0:=hrow.frozen a
     go_wp2_with fail
     refine HC.out.mono ?_
     rintro e w2 ⟨rfl,f2⟩
     rw[HB.out]
     have hrow2:=hrow.fr f2 (by simp)
     have z2:=hrow2.frozen a
     have hca:a<c.length:=by rw[HCl.out];omega
     have zc:w2.cell? ⟨g,a,none⟩=some (.int .i64 c[a]):=hrow2.cell (by have:=flat_get cs_len (List.getElem?_eq_getElem hca) (j:=0) (by omega);simpa[cs] using this)
     have ha1:(a:Int)<(l.length:Int):=by omega
     go_wp2_with fail
     go_roundw
     case rel=>exact⟨a+1,j+1,c.set a x,by omega,by omega,by go_num,by go_num,by simpa using HCl.out,by
       rw[flat_set cs_len (List.getElem?_eq_getElem hca) (j:=0) (by omega) (show cs x=(cs c[a]).set 0 _ from rfl)]
       simpa using hrow2.set a (.int .i64 x),by
       rw[HS.out,List.take_add_one,List.getElem?_set_self hca,List.take_set_of_le (Nat.le_refl _),HK.out];rfl,by
       rw[HS.out,List.length_append,←HL.out];rfl,by
       rw[List.drop_set_of_lt (by omega),HD.out],(fr.trans (f2.mono (by simp))).setCell (by simp) _⟩
     case measure=>simp[intOf];omega
    ·rw[hb] at hsucc
     have HS:=hid hsucc
     have HB:=hid hb
     clear hb hsucc
     go_wp2_with fail
     refine HC.out.mono ?_
     rintro e w2 ⟨rfl,f2⟩
     rw[HB.out]
     have hrow2:=hrow.fr f2 (by simp)
     go_wp2_with fail
     go_roundw
     case rel=>exact⟨a,j+1,c,by omega,by omega,rfl,by go_num,HCl.out,hrow2,by rw[HS.out,HK.out];simp,by rw[HS.out];simpa using HL.out,HD.out,fr.trans (f2.mono (by simp))⟩
     case measure=>simp[intOf];omega
   ·obtain rfl:j=l.length:=by omega
    rw[List.take_length] at htk hal
    have hrow2:=hrow.less (k:=a) (by omega)
    have e2:(flat cs c).take (a*1)=flat cs (l.filter fun y=>!p y):=by rw[←htk,flat_take cs_len]
    rw[e2] at hrow2
    have HL:=hid hal
    clear htk hal hdr e2 hcl
    have hA2:(if cap=a then some (⟨g,0,none⟩:Addr) else some ⟨g,a*1,none⟩)=some ⟨g,a*1,none⟩:=by rw[if_neg (by omega)]
    have hac:a≤cap:=by omega
    obtain⟨w2,hrun,hr2,f2⟩:=run_clear_row (sz:=1) 22 0 (.int .i64 0) Tryz.underlying22 zeroE (by kernel_rfl) (by kernel_rfl) hrow2 (a*1) (l.length - a) (cap - a) (by omega) (by omega)
    simp only[Nat.mul_one] at hrun hA2
    have hal2:(a:Int)≤(l.length:Int):=by omega
    go_wp2
    go_ret
    rw[←HL.out]
    exact⟨rfl,hr2,fr.trans f2⟩
end Go.Proofs.YtjmkkcckfbnmeaaGreatDoor.Li
namespace Go.Proofs.YtjmkkcckfbnmeaaGreatDoor.La
open Go.RowKit
abbrev El:=Int × Bool
def cs (x:El):List Value:=[.int .i64 x.1,.bool x.2]
theorem cs_len (x:El):(cs x).length=2:=rfl
theorem cs_one {x:El} : ∀ u∈cs x,u.oneCell'=true:=by
 intro u hu
 simp only[cs,List.mem_cons,List.not_mem_nil,or_false] at hu
 rcases hu with rfl|rfl<;>rfl
theorem infoE:(Tryz.prog.info? 217).map (fun i=>(i.zero,i.size,i.bytes))=some (some (.agg #[.int .i64 0,.bool false]),2,16):=by kernel_rfl
def firstP (p:El→Bool)(l:List El):Int:=match l.findIdx? p with|some k=>(k:Int)|none=>-1
theorem firstP_yes {p:El→Bool}{l:List El}{k:Nat}{x:El}(h:∀ (j:Nat) y,l[j]? = some y→j<k→p y=false)(hx:l[k]? = some x)(hp:p x=true):firstP p l=(k:Int):=by
 have hk:=List.getElem?_eq_some_iff.1 hx
 have:l.findIdx? p=some k:=by
  rw[List.findIdx?_eq_some_iff_getElem]
  refine⟨hk.1,by rw[hk.2];exact hp,fun j hj=>?_⟩
  have:=h j (l[j]'(Nat.lt_trans hj hk.1)) (List.getElem?_eq_getElem _) hj
  rw[this]
  decide
 rw[firstP,this]
theorem firstP_no {p:El→Bool}{l:List El}(h:∀ (j:Nat) y,l[j]? = some y→p y=false):firstP p l = -1:=by
 have:l.findIdx? p=none:=by
  rw[List.findIdx?_eq_none_iff]
  intro x hx
  obtain⟨j,hj⟩:=List.getElem?_of_mem hx
  exact h j x hj
 rw[firstP,this]
theorem firstP_any (p:El→Bool)(l:List El):decide (firstP p l ≥ 0)=l.any p:=by
 unfold firstP
 cases h:l.findIdx? p with
 | none =>
  rw[List.findIdx?_eq_none_iff] at h
  have:l.any p=false:=by rw[List.any_eq_false];intro x hx;rw[h x hx];decide
  rw[this]
  rfl
 | some k =>
  rw[List.findIdx?_eq_some_iff_getElem] at h
  obtain⟨hk,hp,_⟩:=h
  have:l.any p=true:=List.any_eq_true.2 ⟨_,List.getElem_mem hk,hp⟩
  rw[this]
  simp
theorem index_any (w:World)(B:Nat)(v:Value)(l:List El)(p:El→Bool)(b:Nat)(h:Own w B 217 2 v l.length (flat cs l))(hl:l.length≤1000)
  (hp:∀ w',Fr [] w w'→∀ x,x∈l→Calls Tryz.prog 133 #[.agg #[.int .i64 x.1,.bool x.2],.pointer (some ⟨b,0,none⟩)] w' fun e w''=>e = .returned (.bool (p x))∧Fr [] w' w'') :
  Calls Tryz.prog 187 #[v,.func (.func 133) #[] #[.pointer (some ⟨b,0,none⟩)]] w fun e w'=>e = .returned (.int .i64 (firstP p l))∧Fr [] w w':=by
 obtain⟨a,c,rfl⟩:=h.form
 have HP:=hid hp
 clear hp
 go_enter Tryz.func187,Tryz.ntmps187
 go_wp2
 go_loopw [5,8] (fun _ i wr=>∃ k:Nat,k≤l.length∧i = .int .i64 k∧(∀ (j:Nat) y,l[j]? = some y→j<k→p y=false)∧Fr [] w wr) (fun _ i _=>l.length - (intOf i).toNat)
 case atStart=>exact⟨0,Nat.zero_le _,rfl,fun _ _ _ h=>by omega,Fr.refl _ _⟩
 case round =>
  obtain⟨k,hk,rfl,hno,fr⟩:=hrel
  by_cases hlt:k<l.length
  ·have hx:l[k]? = some l[k]:=List.getElem?_eq_getElem hlt
   obtain⟨x,hx'⟩:∃ x,l[k]=x:=⟨_,rfl⟩
   rw[hx'] at hx
   clear hx'
   have hk1:(k:Int)<(l.length:Int):=by omega
   obtain⟨g,c2,hg,hv,hr,hgl,hcell⟩:=(h.fr0 fr).cell cs_len rfl hx
   cases hv
   have q0:wr.cell? ⟨g,k*2,none⟩=some (.int .i64 x.1):=hcell 0 _ (by omega) rfl
   have q1:wr.cell? ⟨g,k*2+1,none⟩=some (.bool x.2):=hcell 1 _ (by omega) rfl
   have hcall:=HP.out wr fr x (List.mem_of_getElem? hx)
   have HX:=hid hx
   have HN:=hid hno
   have HC:=hid hcall
   clear hx hno hcall hr hcell
   cases hb:p x
   ·have HB:=hid hb
    clear hb
    go_wp2_with fail
    refine HC.out.mono ?_
    rintro e w' ⟨rfl,f2⟩
    rw[HB.out]
    go_wp2_with fail
    go_roundw
    case rel=>exact⟨k+1,by omega,by go_num,fun j y hy hj=>by
     by_cases e:j=k
     ·subst e
      rw[HX.out] at hy
      cases hy
      exact HB.out
     ·exact HN.out j y hy (by omega),fr.trans f2⟩
    case measure=>simp[intOf];omega
   ·have HB:=hid hb
    have HF:=hid (firstP_yes HN.out HX.out hb)
    clear hb
    go_wp2_with fail
    refine HC.out.mono ?_
    rintro e w' ⟨rfl,f2⟩
    rw[HB.out]
    go_wp2_with fail
    go_ret
    exact⟨ret_int HF.out.symm,fr.trans f2⟩
  ·obtain rfl:k=l.length:=by omega
   have HF:=hid (firstP_no (p:=p) (l:=l) fun j y hy=>hno j y hy (List.getElem?_eq_some_iff.1 hy).1)
   clear hno
   go_wp2
   go_ret
   exact⟨ret_int HF.out.symm,fr⟩
theorem contains_any (w:World)(B:Nat)(v:Value)(l:List El)(p:El→Bool)(b:Nat)(h:Own w B 217 2 v l.length (flat cs l))(hl:l.length≤1000)
  (hp:∀ w',Fr [] w w'→∀ x,x∈l→Calls Tryz.prog 133 #[.agg #[.int .i64 x.1,.bool x.2],.pointer (some ⟨b,0,none⟩)] w' fun e w''=>e = .returned (.bool (p x))∧Fr [] w' w'') :
  Calls Tryz.prog 132 #[v,.func (.func 133) #[] #[.pointer (some ⟨b,0,none⟩)]] w fun e w'=>e = .returned (.bool (l.any p))∧Fr [] w w':=by
 have HI:=hid (index_any w B v l p b h hl hp)
 obtain⟨a,c,rfl⟩:=h.form
 have HA:=hid (firstP_any p l)
 clear hp
 go_enter Tryz.func132,Tryz.ntmps132
 go_wp2_with fail
 refine HI.out.mono ?_
 rintro e w' ⟨rfl,f2⟩
 go_wp2_with fail
 go_ret
 exact⟨ret_bool (by rw[←HA.out]),f2⟩
theorem zeroE (w:World):(zeroValue 217).run Tryz.prog w = .ok (.agg #[.int .i64 0,.bool false]) w:=by kernel_rfl
theorem delete_any (w:World)(g cap k:Nat)(l:List El)(hr:Row w 217 2 g l.length cap (flat cs l))(hk:k<l.length)(hl:l.length≤1000) :
  Calls Tryz.prog 206 #[.slice (some ⟨g,0,none⟩) l.length cap,.int .i64 k,.int .i64 ((k:Int)+1)] w fun e w'=>e = .returned (.slice (some ⟨g,0,none⟩) (l.length - 1) cap)∧Row w' 217 2 g (l.length - 1) cap (flat cs (l.take k++l.drop (k+1)))∧Fr [g] w w':=by
 obtain⟨i2,hi,hz0,hz1,hz2⟩:=info_parts infoE
 obtain⟨n,hn⟩:∃ n,n=l.length:=⟨_,rfl⟩
 have hle:=hr.le
 have hcm:=hr.cap_le
 unfold maxLen at hcm
 rw[←hn] at hle hr hk hl ⊢
 have hnews:Cells w (some ⟨g,(k+1)*2,none⟩) (flat cs (l.drop (k+1))):=by
  have:=hr.cells.drop ((k+1)*2)
  rw[flat_drop cs_len]
  simpa using this
 have hlen:(flat cs (l.drop (k+1))).length=(n - (k+1))*2:=by rw[flat_length cs_len,List.length_drop,←hn]
 obtain⟨A,hA,hsrc⟩:∃ A:Addr,(if cap=k+1 then some (⟨g,0,none⟩:Addr) else some ⟨g,(k+1)*2,none⟩)=some A∧Cells w (some A) (flat cs (l.drop (k+1))):=by
  by_cases h:cap=k+1
  ·refine⟨⟨g,0,none⟩,by simp[h],?_⟩
   have e0:flat cs (l.drop (k+1))=[]:=List.eq_nil_of_length_eq_zero (by omega)
   rw[e0]
   exact Cells.nil _
  ·exact⟨_,by simp[h],hnews⟩
 have hkc:k≤cap:=by omega
 have hkc1:k+1≤cap:=by omega
 have hi0:(0:Int)≤(k:Int)+1:=by omega
 have hi1:(k:Int)+1≤(n:Int):=by omega
 have hone:=flat_cells (fun x=>cs_one (x:=x)) (l.drop (k+1))
 have H1:=hid hn
 have H2:=hid hlen
 have H3:=hid hone
 clear hn hlen hone hnews
 go_enter Tryz.func206,Tryz.ntmps206
 go_wp2_with fail
 go_region_law ((refine step_append_in rfl (.tmp 22) (.tmp 25) 211 rfl i2 Tryz.underlying211 hi hz1 hr.drew k (by omega) (by simp[Act.eval,Act.put]) A (n - (k+1)) (cap - (k+1)) (flat cs (l.drop (k+1))) (by simp[Act.eval,Act.put]) H2.out (hsrc.fr0 ((Fr.refl [] w).drew)) H3.out (by omega) ?_;intro w1 hr1 f1))
 have e1:k+(n - (k+1))=n - 1:=by omega
 have e2:(flat cs l).take (k*2)++flat cs (l.drop (k+1))=flat cs (l.take k++l.drop (k+1)):=by rw[flat_append,flat_take cs_len]
 rw[e1,e2] at hr1
 rw[e1]
 clear e1 e2 hA hsrc hkc hkc1 hi0 hi1
 obtain⟨m,hm⟩:∃ m,m=n - 1:=⟨_,rfl⟩
 have e3:n=m+1:=by omega
 rw[←hm] at hr1 ⊢
 have HM:=hid hm
 subst e3
 clear hm
 have hA2:(if cap=m then some (⟨g,0,none⟩:Addr) else some ⟨g,m*2,none⟩)=some ⟨g,m*2,none⟩:=by rw[if_neg (by omega)]
 have hj0:(m:Int)≤(m:Int)+1:=by omega
 have hj1:m+1≤cap:=hle
 have hj2:m≤m+1:=by omega
 obtain⟨w2,hrun,hr2,f2⟩:=run_clear_row (sz:=2) 211 0 (.agg #[.int .i64 0,.bool false]) Tryz.underlying211 zeroE (by kernel_rfl) (by kernel_rfl) hr1 (m*2) 1 (cap - m) (by omega) (by omega)
 go_wp2
 go_ret
 exact⟨rfl,hr2,((Fr.refl [g] w).drew).trans (f1.trans f2)⟩
theorem delete_head (w:World)(g cap:Nat)(x:El)(q:List El)(hr:Row w 217 2 g (q.length+1) cap (flat cs (x::q)))(hl:q.length+1≤1000) :
  Calls Tryz.prog 206 #[.slice (some ⟨g,0,none⟩) (q.length+1) cap,.int .i64 0,.int .i64 1] w fun e w'=>e = .returned (.slice (some ⟨g,0,none⟩) q.length cap)∧Row w' 217 2 g q.length cap (flat cs q)∧Fr [g] w w':=by
 have:=delete_any w g cap 0 (x::q) hr (by simp) (by simpa using hl)
 simpa using this
end Go.Proofs.YtjmkkcckfbnmeaaGreatDoor.La
namespace Go.Proofs.YtjmkkcckfbnmeaaGreatDoor.Lo
open Go.RowKit
structure LockAt (w:World)(B g:Nat)(l:M.Lk):Prop where
 lr:l.readers.length≤100
 lq:l.queue.length≤100
 at_:∃ vr vq,Holds w g 213 #[vr,.int .i64 l.writer,.bool l.writes,vq]∧Own w B 3 1 vr l.readers.length (flat Li.cs l.readers)∧Own w B 217 2 vq l.queue.length (flat La.cs l.queue)
theorem LockAt.fr0 {w w':World}{B g:Nat}{l:M.Lk}(h:LockAt w B g l)(hf:Fr [] w w'):LockAt w' B g l:=by
 obtain⟨a,b,vr,vq,h1,h2,h3⟩:=h
 exact⟨a,b,vr,vq,h1.fr hf (by simp),h2.fr0 hf,h3.fr0 hf⟩
abbrev Ts:List TypeId:=[213,3,217]
theorem new_any (w:World)(B:Nat):Calls Tryz.prog 158 #[] w fun e w'=>∃ g,e = .returned (.pointer (some ⟨g,0,none⟩))∧w.heap.size≤g∧LockAt w' B g {}∧Fr [] w w':=by
 go_enter Tryz.func158,Tryz.ntmps158
 go_wp2
 go_ret
 exact⟨_,rfl,Nat.le_refl _,⟨by simp,by simp,_,_,Holds.new _ _ _,Own.nil _ _ _ _,Own.nil _ _ _ _⟩,(Fr.refl _ _).alloc _⟩
theorem is_any (w:World)(b:Nat)(who:Int)(x:Int × Bool)(hc:w.cell? ⟨b,0,none⟩=some (.int .i64 who)) :
  Calls Tryz.prog 133 #[.agg #[.int .i64 x.1,.bool x.2],.pointer (some ⟨b,0,none⟩)] w fun e w'=>e = .returned (.bool (x.1==who))∧Fr [] w w':=by
 have hB:=block_lt_of_cell hc
 go_enter Tryz.func133,Tryz.ntmps133
 go_wp2
 go_ret
 exact⟨rfl,(Fr.refl _ _).alloc _⟩
theorem out_any (w:World)(b:Nat)(who:Int)(x:Int)(hc:w.cell? ⟨b,0,none⟩=some (.int .i64 who)) :
  Calls Tryz.prog 174 #[.int .i64 x,.pointer (some ⟨b,0,none⟩)] w fun e w'=>e = .returned (.bool (x==who))∧Fr [] w w':=by
 go_enter Tryz.func174,Tryz.ntmps174
 go_wp2
 go_ret
 exact⟨rfl,Fr.refl _ _⟩
theorem contains_eq (l:List Int)(who:Int):(l.any fun x=>who==x)=l.contains who:=by
 rw[List.contains_eq_any_beq]
theorem state_any (w:World)(B g:Nat)(l:M.Lk)(who:Int)(h:LockAt w B g l) :
  Calls Tryz.prog 99 #[.pointer (some ⟨g,0,none⟩),.int .i64 who] w fun e w'=>e = .returned (.int .i64 (l.state who))∧Fr [] w w':=by
 have f0:Fr [] w (w.alloc (.cells #[.int .i64 who] 3)):=(Fr.refl _ _).alloc _
 have b0:=Holds.new w 3 #[.int .i64 who]
 obtain⟨lr,lq,vr,vq,h1,h2,h3⟩:=h.fr0 f0
 obtain⟨readers,writer,writes,queue⟩:=l
 simp only at lr lq h1 h2 h3
 have hgl:=h.at_
 obtain⟨_,_,hg0,_,_⟩:=hgl
 have hlt:=hg0.lt
 clear hg0
 have c0:=h1.cell 0
 have c1:=h1.cell 1
 have c2:=h1.cell 2
 have c3:=h1.cell 3
 have y0:(w.alloc (.cells #[.int .i64 who] 3)).cell? ⟨w.heap.size,0,none⟩=some (.int .i64 who):=b0.cell 0
 simp at c0 c1 c2 c3
 obtain⟨ar,cr,rfl⟩:=h2.form
 obtain⟨aq,cq,rfl⟩:=h3.form
 have hall:=contains_eq readers who
 have hany:(queue.any fun x=>x.1==who)=queue.any (fun a=>a.1==who):=rfl
 have HR:=hid hall
 clear hall hany
 have HI:=hid (fun (W:World) (f:Fr [] (w.alloc (.cells #[.int .i64 who] 3)) W)=>La.contains_any W B _ queue (fun x=>x.1==who) w.heap.size (h3.fr0 f) (by omega) (fun w' fw x _=>is_any w' w.heap.size who x (fw.cell (f.cell y0 (by simp) (by simp)) (b0.fr f (by simp)).lt (by simp))))
 have hcq:∀ W,Fr [] (w.alloc (.cells #[.int .i64 who] 3)) W→Calls Tryz.prog 131 #[.slice ar readers.length cr,.int .i64 who] W fun e w'=>e = .returned (.bool (readers.contains who))∧W=w':=fun W fW=>by
  rw[←HR.out]
  exact Li.contains_int _ B _ readers who (h2.fr0 fW) (by omega)
 have HF:=hid (fun (W:World) (f:Fr [] (w.alloc (.cells #[.int .i64 who] 3)) W)=>(⟨(h1.fr f (by simp)).cell 0,(h1.fr f (by simp)).cell 3,f.cell y0 (by simp) (by simp)⟩:W.cell? ⟨g,0,none⟩=_∧W.cell? ⟨g,3,none⟩=_∧W.cell? ⟨w.heap.size,0,none⟩=_))
 clear h1 h2 h3 h b0 y0
 have hst:M.Lk.state ⟨readers,writer,writes,queue⟩ who=if writes&&writer==who then 3 else if readers.contains who then 2 else if queue.any (fun a=>a.1==who) then 1 else 0:=rfl
 cases hw:(writes&&writer==who)
 ·rw[hw] at hst
  simp only[Bool.false_eq_true,if_false] at hst
  cases hc:readers.contains who
  ·rw[hc] at hst hcq
   simp only[Bool.false_eq_true,if_false] at hst
   clear hc
   have HC:=hid hcq
   clear hcq
   cases hq:queue.any (fun a=>a.1==who)
   all_goals
    rw[hq] at hst
    simp only[Bool.false_eq_true,if_false,if_true] at hst
    have HS:=hid hst
    have HQ:=hid hq
    clear hst hq
    cases writes
    all_goals
     first|(simp only[Bool.true_and] at hw)|clear hw
     go_enter Tryz.func99,Tryz.ntmps99
     go_wp2_with fail
     go_quiet (fail)
     generalize hW:(w.alloc (.cells #[.int .i64 who] 3)).drewN nq=W
     have fW:Fr [] (w.alloc (.cells #[.int .i64 who] 3)) W:=by rw[←hW];exact(Fr.refl _ _).drewN _
     obtain⟨d0,d3,dy⟩:=HF.out W fW
     simp only[List.getElem?_toArray,List.getElem?_cons_zero,List.getElem?_cons_succ] at d0 d3
     clear hW c0 c3
     go_wp2_with fail
     go_quiet ((go_at_call 131;exact quiet_same (HC.out _ (fW.drewN _))))
     go_wp2_with fail
     refine(HI.out _ (fW.drewN _)).mono ?_
     rintro e w' ⟨rfl,f2⟩
     rw[HQ.out]
     go_wp2_with fail
     go_ret
     exact⟨ret_int HS.out.symm,((f0.trans (fW.drewN _)).trans f2)⟩
  ·rw[hc] at hst hcq
   simp only[if_true] at hst
   clear hc
   have HC:=hid hcq
   have HS:=hid hst
   clear hcq hst
   cases writes
   all_goals
    first|(simp only[Bool.true_and] at hw)|clear hw
    go_enter Tryz.func99,Tryz.ntmps99
    go_wp2_with fail
    go_quiet (fail)
    generalize hW:(w.alloc (.cells #[.int .i64 who] 3)).drewN nq=W
    have fW:Fr [] (w.alloc (.cells #[.int .i64 who] 3)) W:=by rw[←hW];exact(Fr.refl _ _).drewN _
    obtain⟨d0,d3,dy⟩:=HF.out W fW
    simp only[List.getElem?_toArray,List.getElem?_cons_zero,List.getElem?_cons_succ] at d0 d3
    clear hW c0 c3
    go_wp2_with fail
    go_quiet ((go_at_call 131;exact quiet_same (HC.out _ (fW.drewN _))))
    go_wp2_with fail
    go_ret
    exact⟨ret_int HS.out.symm,f0.trans (fW.drewN _)⟩
 ·rw[hw] at hst
  simp only[if_true] at hst
  have HS:=hid hst
  cases writes
  ·simp at hw
  ·simp only[Bool.true_and] at hw
   clear hcq hst
   go_enter Tryz.func99,Tryz.ntmps99
   go_wp2_with fail
   go_quiet (fail)
   go_wp2_with fail
   go_ret
   exact⟨ret_int HS.out.symm,f0.drewN _⟩
def lenOf (v:Value):Nat:=match v with|.slice _ n _=>n|_=>0
theorem move_any (w:World)(B g:Nat)(l:M.Lk)(h:LockAt w B g l)(hB:B≤w.heap.size)(hg:B≤g)(hn:l.readers.length+l.queue.length≤100) :
  Calls Tryz.prog 161 #[.pointer (some ⟨g,0,none⟩)] w fun e w'=>∃ a n c,e = .returned (.slice a n c)∧LockAt w' B g l.move∧FrX B Ts [] w w':=by
 obtain⟨i3,hi,hz0,hz1,hz2⟩:=info_parts Li.infoE
 obtain⟨_,_,vr0,vq0,k1,k2,k3⟩:=h
 have HB:=hid (show ∀ l':M.Lk,l'=⟨l'.readers,l'.writer,l'.writes,l'.queue⟩ from fun _=>rfl)
 go_enter Tryz.func161,Tryz.ntmps161
 go_wp2
 go_loopw [3] (fun v3 wr=>∃ (l':M.Lk) (n:Nat) (xs:List Value) (own:Option Nat) (vr vq:Value),(Holds wr g 213 #[vr,.int .i64 l'.writer,.bool l'.writes,vq]∧Own wr B 3 1 vr l'.readers.length (flat Li.cs l'.readers)∧Own wr B 217 2 vq l'.queue.length (flat La.cs l'.queue)∧∀ k,own=some k→ownOf vr≠some k)∧l'.move=l.move∧l'.readers.length+l'.queue.length≤100∧Sl wr 3 1 v3 n xs own∧n+l'.queue.length≤100∧(∀ k,own=some k→w.heap.size≤k)∧(0<n→∃ k,own=some k)∧FrX B Ts [] w wr) (fun v3 _=>200 - lenOf v3)
 case atStart=>exact⟨l,0,[],none,vr0,vq0,⟨k1,k2,k3,by simp⟩,rfl,hn,Sl.nil _ _ _,by omega,by simp,by simp,FrX.refl _ _ _ _⟩
 case round =>
  obtain⟨⟨readers,writer,writes,queue⟩,n,xs,own,vr,vq,⟨h1,h2,h3,hov⟩,hmv,hln,hs,hnq,ho,hm,fr⟩:=hrel
  simp only at hln hnq h1 h2 h3
  have lr:readers.length≤100:=by omega
  have lq:queue.length≤100:=by omega
  have hl:LockAt wr B g ⟨readers,writer,writes,queue⟩:=⟨lr,lq,vr,vq,h1,h2,h3⟩
  have HOV:=hid hov
  clear hov k1 k2 k3
  obtain⟨a3,c3,rfl⟩:=hs.form
  obtain⟨ar,cr,rfl⟩:=h2.form
  have c0:=h1.cell 0
  have c1:=h1.cell 1
  have c2:=h1.cell 2
  have c3':=h1.cell 3
  simp at c0 c1 c2
  match queue,hmv,hl,hln,hnq,lq,h1,h3,c3' with
  | [],hmv,hl,hln,hnq,lq,h1,h3,c3' =>
   obtain⟨aq,cq,rfl⟩:=h3.form
   simp at c3'
   have HE:=hid (show M.Lk.move ⟨readers,writer,writes,[]⟩=⟨readers,writer,writes,[]⟩ from rfl)
   have HM:=hid hmv
   clear hmv
   go_wp2
   go_ret
   exact⟨_,_,_,rfl,by rw[←HM.out,HE.out];exact hl,fr⟩
  | (who,wt)::q,hmv,hl,hln,hnq,lq,h1,h3,c3' =>
   obtain⟨gq,cq,hgq,rfl,hrq⟩:=h3.pos (by simp)
   simp at c3' hln hnq lq
   have hgql:=hrq.lt
   have qa:wr.cell? ⟨gq,0,none⟩=some (.int .i64 who):=hrq.cell rfl
   have qb:wr.cell? ⟨gq,1,none⟩=some (.bool wt):=hrq.cell rfl
   have hql:(0:Int)<((q.length:Int)+1):=by omega
   cases writes
   ·by_cases hbrk:wt=true∧readers≠[]
    ·obtain⟨rfl,hne⟩:=hbrk
     have hrl:(0:Int)<(readers.length:Int):=by have:=List.length_pos_iff.2 hne;omega
     have HE:=hid (show M.Lk.move ⟨readers,writer,false,(who,true)::q⟩=⟨readers,writer,false,(who,true)::q⟩ from M.mv_stuck _ _ _ _ rfl hne)
     have HM:=hid hmv
     have hgl:=h1.lt
     clear hmv hne
     go_wp2
     go_ret
     exact⟨_,_,_,rfl,by rw[←HM.out,HE.out];exact hl.fr0 ((Fr.refl _ _).alloc _),fr.alloc _⟩
    ·have hgl:=h1.lt
     have hgg:g≠gq:=fun e=>by
      have:=hrq.ty
      rw[←e,h1.ty] at this
      cases this
     have hown2:∀ k,own=some k→k≠g∧k≠gq:=fun k hk=>by
      obtain⟨c',hv,hrow⟩:=(hk ▸ hs).own_row
      refine⟨fun e=>?_,fun e=>?_⟩
      ·have:=hrow.ty
       rw[e,h1.ty] at this
       cases this
      ·have:=hrow.ty
       rw[e,hrq.ty] at this
       cases this
     have HO2:=hid hown2
     have HM:=hid hmv
     have f1:Fr [] wr (wr.alloc (.cells #[.int .i64 who,.bool wt] 217)):=(Fr.refl _ _).alloc _
     have ba:=Holds.new wr 217 #[.int .i64 who,.bool wt]
     clear hmv hown2
     cases wt
     ·go_wp2_with fail
      refine(La.delete_head _ gq cq (who,false) q (hrq.fr f1 (by simp)) (by omega)).mono ?_
      rintro e w2 ⟨rfl,hrq2,f2⟩
      have f12:Fr [gq] wr w2:=(f1.mono (by simp)).trans f2
      have p1:=h1.fr f12 (by simpa using hgg)
      have ba2:=ba.fr f2 (by simp;omega)
      have hs2:=hs.fr f12 (fun k hk=>by simpa using (HO2.out k (by simpa using hk)).2) hm
      have h22:=h2.fr f12 (fun k hk=>by
       have:=(h2.ty hk).1
       simp only[List.mem_singleton]
       rintro rfl
       rw[hrq.ty] at this
       cases this)
      have d3:=p1.cell 3
      have z3:=p1.frozen 3
      have y0:=ba2.cell 0
      have y1:=ba2.cell 1
      simp at d3 y0 y1
      have hal:=ba2.lt
      clear c0 c1 c2 c3' qa qb
      obtain⟨W3,hW3⟩:∃ W3,W3=w2.setCell ⟨g,3,none⟩ (.slice (some ⟨gq,0,none⟩) q.length cq):=⟨_,rfl⟩
      have p3:Holds W3 g 213 #[.slice ar readers.length cr,.int .i64 writer,.bool false,.slice (some ⟨gq,0,none⟩) q.length cq]:=by rw[hW3];simpa using p1.set 3 (.slice (some ⟨gq,0,none⟩) q.length cq)
      have f3:Fr [g,gq] wr W3:=by rw[hW3];exact(f12.mono (by simp)).setCell (by simp) _
      have hs3:Sl W3 3 1 (.slice a3 n c3) n xs own:=by rw[hW3];exact hs2.far hm p1 (by decide) 3 _
      have h23:Own W3 B 3 1 (.slice ar readers.length cr) readers.length (flat Li.cs readers):=by
       rw[hW3]
       exact h22.fr ((Fr.refl [g] w2).setCell (by simp) _) (fun k hk=>by
        have:=(h22.ty hk).1
        simp only[List.mem_singleton]
        rintro rfl
        rw[p1.ty] at this
        cases this)
      have hrq3:Row W3 217 2 gq q.length cq (flat La.cs q):=by rw[hW3];exact hrq2.far (fun e=>hgg e.symm) _
      have ba3:Holds W3 wr.heap.size 217 #[.int .i64 who,.bool false]:=by rw[hW3];exact ba2.far (by simp;omega) _
      have hgl3:=p3.lt
      have hn4:∀ k,own=some k→k≠g∧k≠gq∧k≠wr.heap.size∧ownOf (.slice ar readers.length cr)≠some k:=fun k hk=>by
       obtain⟨x1,x2⟩:=HO2.out k hk
       have:=(hk ▸ hs).own_row
       obtain⟨c',_,hrow⟩:=this
       have:=hrow.lt
       exact⟨x1,x2,by omega,HOV.out k hk⟩
      have HN4:=hid hn4
      have HG:=hid (show g∉(ownOf (.slice ar readers.length cr)).toList from fun hk=>by
       have:=(h2.ty (g:=g) (by simpa using hk)).1
       rw[h1.ty] at this
       cases this)
      clear hn4
      have H4:=hid (fun (S:List Nat) (W4:World) (f:Fr S W3 W4) (hS:∀ k,k∈S→k≠g∧k≠gq∧k≠wr.heap.size∧ownOf (.slice ar readers.length cr)≠some k)=>(⟨p3.fr f (fun hx=>(hS g hx).1 rfl),h23.fr f (fun k hk hx=>(hS k hx).2.2.2 hk),hrq3.fr f (fun hx=>(hS gq hx).2.1 rfl),ba3.fr f (fun hx=>(hS _ hx).2.2.1 rfl)⟩:Holds W4 g 213 _∧Own W4 B 3 1 _ readers.length (flat Li.cs readers)∧Row W4 217 2 gq q.length cq _∧Holds W4 wr.heap.size 217 _))
      clear hs2 h22 hrq2 ba2
      go_wp2_with (at_builtin;go_loud (refine wpList_append_sl rfl (.tmp 42) (.tmp 45) 22 rfl i3 _ 8 Tryz.underlying22 hi hz0 hz1 hz2 rfl (by decide) _ own rfl ((by rw[←hW3];exact hs3.fr0 ((Fr.refl [] W3).alloc _))) _ 1 1 [.int .i64 who] rfl rfl (Cells.one (at_new (t:=3) (cs:=#[.int .i64 who]) (by simp))) (by simp[Value.oneCell']) (by unfold maxLen;omega) (by omega) ?_;rw[←hW3];intro v4 w4 own4 hs4 hf4 ho4 hm4;clear d3 y0 y1 z3;obtain⟨a4,c4,rfl⟩:=hs4.form; have f4:Fr own.toList W3 w4:=((Fr.refl _ W3).alloc _).trans hf4;obtain⟨p4,h24,hrq4,ba4⟩:=H4.out _ w4 f4 (fun k hk=>HN4.out k (by simpa using hk));have e0:=p4.cell 0;have t0:=p4.frozen 0;have y0:=ba4.cell 0;have y1:=ba4.cell 1;simp at e0 y0 y1))
      have hgl4:=p4.lt
      have hal4:=ba4.lt
      have HSl:=hid (h24.sl.fr0 (((Fr.refl [] w4).alloc (.cells #[.int .i64 who] 3)).drew))
      go_region_law ((refine step_append_sl rfl (.tmp 61) (.tmp 64) 22 rfl i3 _ 8 Tryz.underlying22 hi hz0 hz1 hz2 rfl (by decide) _ (ownOf (.slice ar readers.length cr)) rfl HSl.out _ 1 1 [.int .i64 who] rfl rfl (Cells.one ((at_new (t:=3) (cs:=#[.int .i64 who]) (by simp)).drew)) (by simp[Value.oneCell']) (by unfold maxLen;omega) (by omega) ?_;intro v5 w5 own5 hs5 hf5 ho5 hm5;obtain⟨a5,c5,rfl⟩:=hs5.form;have f5:Fr (ownOf (.slice ar readers.length cr)).toList w4 w5:=((((Fr.refl _ w4).alloc _).drew)).trans hf5;have p5:=p4.fr f5 HG.out;have d5:=p5.cell 0;have t5:=p5.frozen 0;simp at d5))
      all_goals
       go_wp2_with fail
       go_roundw
       case rel =>
        have hB4:B≤w4.heap.size:=by have:=f4.size;have:=f3.size;have:=fr.size;omega
        obtain⟨o5,e5⟩:=own_after (v:=.slice ar readers.length cr) (w:=(w4.alloc (.cells #[.int .i64 who] 3)).drew) (by simp;omega) (fun k hk=>(h2.ty hk).2) hs5 ho5 (hm5 (by omega))
        have hng:∀ k,ownOf (.slice ar readers.length cr)=some k→k≠g∧k≠gq:=fun k hk=>by
         have:=(h2.ty hk).1
         refine⟨fun e=>?_,fun e=>?_⟩
         ·rw[e,h1.ty] at this;cases this
         ·rw[e,hrq.ty] at this;cases this
        have hn5:∀ k,ownOf (.slice a5 (readers.length+1) c5)=some k→k≠g∧own4≠some k:=fun k hk=>by
         rw[e5] at hk
         refine⟨?_,?_⟩
         ·rcases ho5 with h|⟨x,h,hx⟩
          ·exact(hng k (h ▸ hk)).1
          ·rw[h] at hk
           cases hk
           simp at hx
           omega
         ·intro h4k
          have hk4:k<w4.heap.size:=by
           have:=(h4k ▸ hs4).own_row
           obtain⟨_,_,hrow⟩:=this
           exact hrow.lt
          rcases ho5 with h|⟨x,h,hx⟩
          ·rw[h] at hk
           rcases ho4 with h'|⟨x,h',hx⟩
           ·exact(HN4.out k (h' ▸ h4k)).2.2.2 hk
           ·rw[h'] at h4k
            cases h4k
            have:=(h23.ty hk)
            have hlt:k<W3.heap.size:=by
             rcases h23 with⟨hv,_⟩|⟨gx,cx,_,hv,hrow⟩
             ·rw[hv] at hk;cases hk
             ·rw[hv] at hk;cases hk;exact hrow.lt
            simp at hx
            omega
          ·rw[h] at hk
           cases hk
           simp at hx
           omega
        refine⟨⟨readers++[who],writer,false,q⟩,n+1,xs++[.int .i64 who],own4,.slice a5 (readers.length+1) c5,.slice (some ⟨gq,0,none⟩) q.length cq,⟨?_,?_,?_,fun k hk hx=>(hn5 k hx).2 hk⟩,?_,by simp;omega,?_,(show n+1+q.length≤100 by omega),?_,fun _=>hm4 (by omega),?_⟩
        ·simpa using p5.set 0 (.slice a5 (readers.length+1) c5)
        ·have e:flat Li.cs (readers++[who])=flat Li.cs readers++[.int .i64 who]:=by rw[flat_append,flat_one];rfl
         simp only[List.length_append,List.length_cons,List.length_nil,e]
         exact o5.fr ((Fr.refl [g] w5).setCell (by simp) _) (fun k hk=>by simpa using (hn5 k hk).1)
        ·exact .inr ⟨gq,cq,hgq,rfl,(hrq4.fr f5 (fun hx=>(hng gq (by simpa using hx)).2 rfl)).far (fun e=>hgg e.symm) _⟩
        ·rw[←HM.out]
         simp[M.Lk.move,M.mv]
        ·have hs5':=hs4.fr f5 (fun k hk hx=>by
          rcases ho4 with h'|⟨x,h',hx'⟩
          ·exact(HN4.out k (by rw[←h'];simpa using hk)).2.2.2 (by simpa using hx)
          ·rw[h'] at hk
           simp at hk
           subst hk
           have hlt:k<W3.heap.size:=by
            rcases h23 with⟨hv,_⟩|⟨gx,cx,_,hv,hrow⟩
            ·rw[hv] at hx;simp[ownOf] at hx
            ·rw[hv] at hx;simp[ownOf] at hx;subst hx;exact hrow.lt
           simp at hx'
           omega) (fun _=>hm4 (by omega))
         exact hs5'.far (fun _=>hm4 (by omega)) p5 (by decide) 0 _
        ·intro k hk
         rcases ho4 with h'|⟨x,h',hx'⟩
         ·exact ho k (h' ▸ hk)
         ·rw[h'] at hk
          cases hk
          have:=f3.size
          have:=fr.size
          simp at hx'
          omega
        ·have t3:∀ x,x∈[g,gq]→∃ t,t∈Ts∧tyOf wr x=some t:=fun x hx=>by
          simp only[List.mem_cons,List.not_mem_nil,or_false] at hx
          rcases hx with rfl|rfl
          ·exact⟨_,by simp,h1.ty⟩
          ·exact⟨_,by simp,hrq.ty⟩
         have g1:FrX B Ts [] w W3:=fr.trans (FrX.of_frT f3 (fun x hx=>by simp only[List.mem_cons,List.not_mem_nil,or_false] at hx;rcases hx with rfl|rfl<;>assumption) t3)
         have g2:FrX B Ts [] w w4:=g1.step (FrX.of_fr (Ts:=Ts) f4 (fun x hx=>by have:=ho x (by simpa using hx);omega)) (fun _ h=>h) (fun x hx=>.inr (ho x (by simpa using hx)))
         have g3:FrX B Ts [] w w5:=g2.trans (FrX.of_frT f5 (fun x hx=>(h24.ty (by simpa using hx)).2) (fun x hx=>⟨_,by simp,(h24.ty (by simpa using hx)).1⟩))
         exact g3.trans (FrX.of_frT ((Fr.refl [g] w5).setCell (by simp) _) (by simpa using hg) (fun x hx=>⟨213,by simp,by simp at hx;subst hx;exact p5.ty⟩))
       case measure=>simp[lenOf];omega
     ·have hre:readers=[]:=Classical.byContradiction fun hne=>hbrk ⟨rfl,hne⟩
      have hr0:(readers.length:Int)≤0:=by rw[hre];simp
      have HRE:=hid hre
      clear hre
      go_wp2_with fail
      refine(La.delete_head _ gq cq (who,true) q (hrq.fr f1 (by simp)) (by omega)).mono ?_
      rintro e w2 ⟨rfl,hrq2,f2⟩
      have f12:Fr [gq] wr w2:=(f1.mono (by simp)).trans f2
      have p1:=h1.fr f12 (by simpa using hgg)
      have ba2:=ba.fr f2 (by simp;omega)
      have hs2:=hs.fr f12 (fun k hk=>by simpa using (HO2.out k (by simpa using hk)).2) hm
      have h22:=h2.fr f12 (fun k hk=>by
       have:=(h2.ty hk).1
       simp only[List.mem_singleton]
       rintro rfl
       rw[hrq.ty] at this
       cases this)
      have d3:=p1.cell 3
      have z3:=p1.frozen 3
      have y0:=ba2.cell 0
      have y1:=ba2.cell 1
      simp at d3 y0 y1
      have hal:=ba2.lt
      clear c0 c1 c2 c3' qa qb
      obtain⟨W3,hW3⟩:∃ W3,W3=w2.setCell ⟨g,3,none⟩ (.slice (some ⟨gq,0,none⟩) q.length cq):=⟨_,rfl⟩
      have p3:Holds W3 g 213 #[.slice ar readers.length cr,.int .i64 writer,.bool false,.slice (some ⟨gq,0,none⟩) q.length cq]:=by rw[hW3];simpa using p1.set 3 (.slice (some ⟨gq,0,none⟩) q.length cq)
      have f3:Fr [g,gq] wr W3:=by rw[hW3];exact(f12.mono (by simp)).setCell (by simp) _
      have hs3:Sl W3 3 1 (.slice a3 n c3) n xs own:=by rw[hW3];exact hs2.far hm p1 (by decide) 3 _
      have h23:Own W3 B 3 1 (.slice ar readers.length cr) readers.length (flat Li.cs readers):=by
       rw[hW3]
       exact h22.fr ((Fr.refl [g] w2).setCell (by simp) _) (fun k hk=>by
        have:=(h22.ty hk).1
        simp only[List.mem_singleton]
        rintro rfl
        rw[p1.ty] at this
        cases this)
      have hrq3:Row W3 217 2 gq q.length cq (flat La.cs q):=by rw[hW3];exact hrq2.far (fun e=>hgg e.symm) _
      have ba3:Holds W3 wr.heap.size 217 #[.int .i64 who,.bool true]:=by rw[hW3];exact ba2.far (by simp;omega) _
      have hgl3:=p3.lt
      have hn4:∀ k,own=some k→k≠g∧k≠gq∧k≠wr.heap.size∧ownOf (.slice ar readers.length cr)≠some k:=fun k hk=>by
       obtain⟨x1,x2⟩:=HO2.out k hk
       have:=(hk ▸ hs).own_row
       obtain⟨c',_,hrow⟩:=this
       have:=hrow.lt
       exact⟨x1,x2,by omega,HOV.out k hk⟩
      have HN4:=hid hn4
      have HG:=hid (show g∉(ownOf (.slice ar readers.length cr)).toList from fun hk=>by
       have:=(h2.ty (g:=g) (by simpa using hk)).1
       rw[h1.ty] at this
       cases this)
      clear hn4
      have H4:=hid (fun (S:List Nat) (W4:World) (f:Fr S W3 W4) (hS:∀ k,k∈S→k≠g∧k≠gq∧k≠wr.heap.size∧ownOf (.slice ar readers.length cr)≠some k)=>(⟨p3.fr f (fun hx=>(hS g hx).1 rfl),h23.fr f (fun k hk hx=>(hS k hx).2.2.2 hk),hrq3.fr f (fun hx=>(hS gq hx).2.1 rfl),ba3.fr f (fun hx=>(hS _ hx).2.2.1 rfl)⟩:Holds W4 g 213 _∧Own W4 B 3 1 _ readers.length (flat Li.cs readers)∧Row W4 217 2 gq q.length cq _∧Holds W4 wr.heap.size 217 _))
      clear hs2 h22 hrq2 ba2
      go_wp2_with (at_builtin;go_loud (refine wpList_append_sl rfl (.tmp 42) (.tmp 45) 22 rfl i3 _ 8 Tryz.underlying22 hi hz0 hz1 hz2 rfl (by decide) _ own rfl ((by rw[←hW3];exact hs3.fr0 ((Fr.refl [] W3).alloc _))) _ 1 1 [.int .i64 who] rfl rfl (Cells.one (at_new (t:=3) (cs:=#[.int .i64 who]) (by simp))) (by simp[Value.oneCell']) (by unfold maxLen;omega) (by omega) ?_;rw[←hW3];intro v4 w4 own4 hs4 hf4 ho4 hm4;clear d3 y0 y1 z3;obtain⟨a4,c4,rfl⟩:=hs4.form; have f4:Fr own.toList W3 w4:=((Fr.refl _ W3).alloc _).trans hf4;obtain⟨p4,h24,hrq4,ba4⟩:=H4.out _ w4 f4 (fun k hk=>HN4.out k (by simpa using hk));have e1:=p4.cell 1;have t1:=p4.frozen 1;have e2:=p4.cell 2;have t2:=p4.frozen 2;have y0:=ba4.cell 0;have y1:=ba4.cell 1;simp at e1 e2 y0 y1))
      go_roundw
      case rel =>
       have hB4:B≤w4.heap.size:=by have:=f4.size;have:=f3.size;have:=fr.size;omega
       refine⟨⟨readers,who,true,q⟩,n+1,xs++[.int .i64 who],own4,.slice ar readers.length cr,.slice (some ⟨gq,0,none⟩) q.length cq,⟨?_,?_,?_,?_⟩,?_,(show readers.length+q.length≤100 by omega),?_,(show n+1+q.length≤100 by omega),?_,fun _=>hm4 (by omega),?_⟩
       ·simpa using (p4.set 1 (.int .i64 who)).set 2 (.bool true)
       ·exact h24.fr (((Fr.refl [g] w4).setCell (by simp) _).setCell (by simp) _) (fun k hk=>by
         have:=(h24.ty hk).1
         simp only[List.mem_singleton]
         rintro rfl
         rw[p4.ty] at this
         cases this)
       ·exact .inr ⟨gq,cq,hgq,rfl,(hrq4.far (fun e=>hgg e.symm) _).far (fun e=>hgg e.symm) _⟩
       ·intro k hk hx
        rcases ho4 with h'|⟨x,h',hx'⟩
        ·exact(HN4.out k (h' ▸ hk)).2.2.2 hx
        ·rw[h'] at hk
         cases hk
         have hlt:k<W3.heap.size:=by
          rcases h23 with⟨hv,_⟩|⟨gx,cx,_,hv,hrow⟩
          ·rw[hv] at hx;cases hx
          ·rw[hv] at hx;cases hx;exact hrow.lt
         simp at hx'
         omega
       ·rw[←HM.out]
        show M.mv q readers who true=M.mv ((who,true)::q) readers writer false
        rw[HRE.out,M.mv_enter _ _ _ rfl,M.mv_writes]
       ·exact(hs4.far (fun _=>hm4 (by omega)) p4 (by decide) 1 _).far (fun _=>hm4 (by omega)) (p4.set 1 _) (by decide) 2 _
       ·intro k hk
        rcases ho4 with h'|⟨x,h',hx'⟩
        ·exact ho k (h' ▸ hk)
        ·rw[h'] at hk
         cases hk
         have:=f3.size
         have:=fr.size
         simp at hx'
         omega
       ·have t3:∀ x,x∈[g,gq]→∃ t,t∈Ts∧tyOf wr x=some t:=fun x hx=>by
         simp only[List.mem_cons,List.not_mem_nil,or_false] at hx
         rcases hx with rfl|rfl
         ·exact⟨_,by simp,h1.ty⟩
         ·exact⟨_,by simp,hrq.ty⟩
        have g1:FrX B Ts [] w W3:=fr.trans (FrX.of_frT f3 (fun x hx=>by simp only[List.mem_cons,List.not_mem_nil,or_false] at hx;rcases hx with rfl|rfl<;>assumption) t3)
        have g2:FrX B Ts [] w w4:=g1.step (FrX.of_fr (Ts:=Ts) f4 (fun x hx=>by have:=ho x (by simpa using hx);omega)) (fun _ h=>h) (fun x hx=>.inr (ho x (by simpa using hx)))
        exact g2.trans (FrX.of_frT (((Fr.refl [g] w4).setCell (by simp) _).setCell (by simp) _) (by simpa using hg) (fun x hx=>⟨213,by simp,by simp at hx;subst hx;exact p4.ty⟩))
      case measure=>simp[lenOf];omega
   ·have HE:=hid (show M.Lk.move ⟨readers,writer,true,(who,wt)::q⟩=⟨readers,writer,true,(who,wt)::q⟩ from M.mv_writes _ _ _)
    have HM:=hid hmv
    clear hmv
    go_wp2
    go_ret
    exact⟨_,_,_,rfl,by rw[←HM.out,HE.out];exact hl,fr⟩
end Go.Proofs.YtjmkkcckfbnmeaaGreatDoor.Lo
