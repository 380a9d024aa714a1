/- Texts LockA, LOp. -/
import Derived.Test.YtjmkkcckfbnmeaaGreatDoorM00
import Derived.Test.YtjmkkcckfbnmeaaGreatDoorM07
import Derived.Test.YtjmkkcckfbnmeaaGreatDoorM08
import Derived.Test.YtjmkkcckfbnmeaaGreatDoorM09
import Derived.Deep.QuietTactic
set_option maxRecDepth 100000
set_option maxHeartbeats 8000000
set_option linter.all false
open Go.Lib (hid)
namespace Go.Proofs.YtjmkkcckfbnmeaaGreatDoor.Lo
open Go.RowKit
theorem ask_any (w:World)(B g:Nat)(l:M.Lk)(who:Int)(wt:Bool)(h:LockAt w B g l)(hB:B≤w.heap.size)(hg:B≤g)(hn:l.readers.length+l.queue.length≤99) :
  Calls Tryz.prog 110 #[.pointer (some ⟨g,0,none⟩),.int .i64 who,.bool wt] w fun e w'=>(∃ b,e = .returned (.bool b))∧LockAt w' B g (l.ask who wt)∧FrX B Ts [] w w':=by
 obtain⟨i3,hi,hz0,hz1,hz2⟩:=info_parts La.infoE
 by_cases hst:l.state who=0
 ·have HS:=hid hst
  have HA:=hid (show l.ask who wt=M.Lk.move { l with queue:=l.queue++[(who,wt)] } by unfold M.Lk.ask;rw[if_pos hst])
  clear hst
  go_enter Tryz.func110,Tryz.ntmps110
  go_wp2_with fail
  refine(state_any w B g l who h).mono ?_
  rintro e w1 ⟨rfl,f1⟩
  rw[HS.out]
  have hl1:=h.fr0 f1
  obtain⟨lr,lq,vr,vq,h1,h2,h3⟩:=hl1
  obtain⟨ar,cr,rfl⟩:=h2.form
  obtain⟨aq,cq,rfl⟩:=h3.form
  have c3:=h1.cell 3
  have z3:=h1.frozen 3
  simp at c3
  have hgl:=h1.lt
  have hgo:g∉(ownOf (.slice aq l.queue.length cq)).toList:=fun hk=>by
   have:=(h3.ty (g:=g) (by simpa using hk)).1
   rw[h1.ty] at this
   cases this
  have HG:=hid hgo
  have HT:=hid (fun k (hk:ownOf (.slice aq l.queue.length cq)=some k)=>h3.ty hk)
  have hsz:=f1.size
  clear hgo
  go_wp2_with (at_builtin;refine wpList_append_sl rfl (.tmp 15) (.tmp 19) 211 rfl i3 _ 16 Tryz.underlying211 hi hz0 hz1 hz2 rfl (by decide) _ (ownOf (.slice aq l.queue.length cq)) rfl (h3.sl.fr0 ((Fr.refl [] w1).alloc _)) _ 1 1 [.int .i64 who,.bool wt] rfl rfl (fun j u hu=>⟨_,rfl,by rw[at_add,Nat.zero_add,(at_new (cs:=#[.int .i64 who,.bool wt]) (t:=217) (n:=w1.heap.size) rfl).cell j];simpa using hu⟩) (by simp[Value.oneCell']) (by unfold maxLen;omega) (by omega) ?_;intro v2 w2 own2 hs2 hf2 ho2 hm2;obtain⟨a2,c2,rfl⟩:=hs2.form;have f2:Fr (ownOf (.slice aq l.queue.length cq)).toList w1 w2:=((Fr.refl _ w1).alloc _).trans hf2;have p2:=h1.fr f2 HG.out;have d3:=p2.cell 3;have t3:=p2.frozen 3;simp at d3;clear c3 z3)
  have hql:B≤w1.heap.size:=by omega
  obtain⟨o2,e2⟩:=own_after (v:=.slice aq l.queue.length cq) (w:=w1.alloc (.cells #[.int .i64 who,.bool wt] 217)) (by simp;omega) (fun k hk=>(HT.out k hk).2) hs2 ho2 (hm2 (by omega))
  have hng:∀ k,ownOf (.slice a2 (l.queue.length+1) c2)=some k→k≠g:=fun k hk=>by
   rw[e2] at hk
   rcases ho2 with h'|⟨x,h',hx⟩
   ·rintro rfl
    exact HG.out (by rw[←h'];simpa using hk)
   ·rw[h'] at hk
    cases hk
    simp at hx
    omega
  obtain⟨W3,hW3⟩:∃ W3,W3=w2.setCell ⟨g,3,none⟩ (.slice a2 (l.queue.length+1) c2):=⟨_,rfl⟩
  have f3:Fr [g] w2 W3:=by rw[hW3];exact(Fr.refl _ _).setCell (by simp) _
  have hl3:LockAt W3 B g { l with queue:=l.queue++[(who,wt)] }:=by
   refine⟨lr,by simp;omega,.slice ar l.readers.length cr,.slice a2 (l.queue.length+1) c2,?_,?_,?_⟩
   ·rw[hW3];simpa using p2.set 3 (.slice a2 (l.queue.length+1) c2)
   ·refine(h2.fr f2 (fun k hk hx=>?_)).fr f3 (fun k hk=>?_)
    ·have a:=(h2.ty hk).1
     have b:=(HT.out k (by simpa using hx)).1
     rw[a] at b
     cases b
    ·have a:=(h2.ty hk).1
     simp only[List.mem_singleton]
     rintro rfl
     rw[h1.ty] at a
     cases a
   ·have e:flat La.cs (l.queue++[(who,wt)])=flat La.cs l.queue++[.int .i64 who,.bool wt]:=by rw[flat_append,flat_one];rfl
    simp only[List.length_append,List.length_cons,List.length_nil,e]
    exact o2.fr f3 (fun k hk=>by simpa using hng k hk)
  have g3:FrX B Ts [] w W3:=by
   have a1:FrX B Ts [] w w1:=FrX.of_fr0 f1
   have a2:FrX B Ts [] w w2:=a1.trans (FrX.of_frT f2 (fun x hx=>(HT.out x (by simpa using hx)).2) (fun x hx=>⟨_,by simp,(HT.out x (by simpa using hx)).1⟩))
   exact a2.trans (FrX.of_frT f3 (by simpa using hg) (fun x hx=>⟨213,by simp,by simp at hx;subst hx;exact p2.ty⟩))
  have hB3:B≤W3.heap.size:=by have:=g3.size;omega
  rw[←hW3]
  refine(move_any W3 B g _ hl3 hB3 hg (by simp;omega)).mono ?_
  rintro e w4 ⟨a4,n4,c4,rfl,hl4,g4⟩
  rw[←HA.out] at hl4
  clear d3 t3 hW3
  go_wp2_with fail
  refine(state_any w4 B g _ who hl4).mono ?_
  rintro e w5 ⟨rfl,f5⟩
  go_wp2_with fail
  go_ret
  exact⟨⟨_,rfl⟩,hl4.fr0 f5,(g3.trans g4).trans (FrX.of_fr0 f5)⟩
 ·have hA:l.ask who wt=l:=by unfold M.Lk.ask;rw[if_neg hst]
  have hb:(l.state who != 0)=true:=by simpa using hst
  rw[hA]
  clear hA hst
  have HB:=hid hb
  clear hb
  go_enter Tryz.func110,Tryz.ntmps110
  go_wp2_with fail
  refine(state_any w B g l who h).mono ?_
  rintro e w1 ⟨rfl,f1⟩
  have hb:=HB.out
  generalize l.state who=z at hb ⊢
  go_wp2_with fail
  go_ret
  exact⟨⟨_,rfl⟩,h.fr0 f1,FrX.of_fr0 f1⟩
theorem leave_any (w:World)(B g:Nat)(l:M.Lk)(who:Int)(h:LockAt w B g l)(hB:B≤w.heap.size)(hg:B≤g)(hn:l.readers.length+l.queue.length≤100)(hst:l.state who=3∨l.state who=2) :
  Calls Tryz.prog 115 #[.pointer (some ⟨g,0,none⟩),.int .i64 who] w fun e w'=>(∃ a n c,e = .returned (.slice a n c))∧LockAt w' B g (l.leave who)∧FrX B Ts [] w w':=by
 have f0:Fr [] w (w.alloc (.cells #[.int .i64 who] 3)):=(Fr.refl _ _).alloc _
 have b0:=Holds.new w 3 #[.int .i64 who]
 rcases hst with hst|hst
 ·have HS:=hid hst
  have HA:=hid (show l.leave who=M.Lk.move { l with writes:=false } by unfold M.Lk.leave;rw[if_pos hst])
  clear hst
  go_enter Tryz.func115,Tryz.ntmps115
  go_wp2_with fail
  refine(state_any _ B g l who (h.fr0 f0)).mono ?_
  rintro e w1 ⟨rfl,f1⟩
  rw[HS.out]
  have f01:=f0.trans f1
  obtain⟨lr,lq,vr,vq,h1,h2,h3⟩:=h.fr0 f01
  have d2:=h1.cell 2
  have t2:=h1.frozen 2
  simp at d2
  go_wp2_with fail
  obtain⟨W3,hW3⟩:∃ W3,W3=w1.setCell ⟨g,2,none⟩ (.bool false):=⟨_,rfl⟩
  have f3:Fr [g] w1 W3:=by rw[hW3];exact(Fr.refl _ _).setCell (by simp) _
  have hl3:LockAt W3 B g { l with writes:=false }:=by
   refine⟨lr,lq,vr,vq,?_,?_,?_⟩
   ·rw[hW3];simpa using h1.set 2 (.bool false)
   ·refine h2.fr f3 (fun k hk=>?_)
    have a:=(h2.ty hk).1
    simp only[List.mem_singleton]
    rintro rfl
    rw[h1.ty] at a
    cases a
   ·refine h3.fr f3 (fun k hk=>?_)
    have a:=(h3.ty hk).1
    simp only[List.mem_singleton]
    rintro rfl
    rw[h1.ty] at a
    cases a
  have g3:FrX B Ts [] w W3:=(FrX.of_fr0 f01).trans (FrX.of_frT f3 (by simpa using hg) (fun x hx=>⟨213,by simp,by simp at hx;subst hx;exact h1.ty⟩))
  have hB3:B≤W3.heap.size:=by have:=g3.size;omega
  rw[←hW3]
  refine(move_any W3 B g _ hl3 hB3 hg hn).mono ?_
  rintro e w4 ⟨a4,n4,c4,rfl,hl4,g4⟩
  rw[←HA.out] at hl4
  clear d2 t2 hW3
  go_wp2_with fail
  go_ret
  exact⟨⟨_,_,_,rfl⟩,hl4,g3.trans g4⟩
 ·have HS:=hid hst
  have HA:=hid (show l.leave who=M.Lk.move { l with readers:=l.readers.filter (fun x=>x != who) } by unfold M.Lk.leave;rw[if_neg (by rw[hst];decide),if_pos hst])
  have hne:l.readers≠[]:=fun e=>by
   unfold M.Lk.state at hst
   rw[e] at hst
   simp only[List.contains_nil,Bool.false_eq_true,if_false] at hst
   split at hst
   ·cases hst
   ·split at hst<;>cases hst
  have hpos:=List.length_pos_iff.2 hne
  clear hst hne
  go_enter Tryz.func115,Tryz.ntmps115
  go_wp2_with fail
  refine(state_any _ B g l who (h.fr0 f0)).mono ?_
  rintro e w1 ⟨rfl,f1⟩
  rw[HS.out]
  have f01:=f0.trans f1
  have b1:=b0.fr f1 (by simp)
  obtain⟨lr,lq,vr,vq,h1,h2,h3⟩:=h.fr0 f01
  obtain⟨gr,cr,hgr,rfl,hrow⟩:=h2.pos hpos
  have d0:=h1.cell 0
  have t0:=h1.frozen 0
  have y0:=b1.cell 0
  simp at d0 y0
  have hgg:g≠gr:=fun e=>by
   have:=hrow.ty
   rw[←e,h1.ty] at this
   cases this
  have hgrw:gr<w.heap.size:=by
   obtain⟨_,_,vr',vq',k1,k2,k3⟩:=h
   have e:vr' = .slice (some ⟨gr,0,none⟩) l.readers.length cr:=by
    have a:=(k1.fr f01 (by simp)).cell 0
    have b:=h1.cell 0
    rw[a] at b
    simpa using b
   subst e
   rcases k2 with⟨hv,_⟩|⟨_,_,_,hv,hrow'⟩
   ·cases hv
   ·cases hv;exact hrow'.lt
  go_wp2_with fail
  refine(Li.deletefunc_any w1 B gr cr l.readers (fun x=>x==who) w.heap.size hrow hgr (by omega) (fun w' fw x _=>out_any w' w.heap.size who x (fw.cell y0 b1.lt (by simp;omega)))).mono ?_
  rintro e w2 ⟨rfl,hrow2,f2⟩
  have p2:=h1.fr f2 (by simpa using hgg)
  have d0':=p2.cell 0
  have t0':=p2.frozen 0
  simp at d0'
  clear d0 t0
  go_wp2_with fail
  obtain⟨m,hm⟩:∃ m,m=(l.readers.filter fun y=>!(y==who)).length:=⟨_,rfl⟩
  obtain⟨W3,hW3⟩:∃ W3,W3=w2.setCell ⟨g,0,none⟩ (.slice (some ⟨gr,0,none⟩) (l.readers.filter fun y=>!(y==who)).length cr):=⟨_,rfl⟩
  have f3:Fr [g] w2 W3:=by rw[hW3];exact(Fr.refl _ _).setCell (by simp) _
  have hfl:(l.readers.filter fun y=>!(y==who))=l.readers.filter (fun x=>x != who):=rfl
  have hlen:=List.length_filter_le (fun y=>!(y==who)) l.readers
  have hl3:LockAt W3 B g { l with readers:=l.readers.filter (fun x=>x != who) }:=by
   refine⟨(show (l.readers.filter fun y=>!(y==who)).length≤100 by omega),lq,.slice (some ⟨gr,0,none⟩) (l.readers.filter fun y=>!(y==who)).length cr,vq,?_,?_,?_⟩
   ·rw[hW3];simpa using p2.set 0 (.slice (some ⟨gr,0,none⟩) (l.readers.filter fun y=>!(y==who)).length cr)
   ·exact .inr ⟨gr,cr,hgr,rfl,hrow2.fr f3 (by simpa using fun e=>hgg e.symm)⟩
   ·refine(h3.fr f2 (fun k hk=>?_)).fr f3 (fun k hk=>?_)
    ·have a:=(h3.ty hk).1
     simp only[List.mem_singleton]
     rintro rfl
     rw[hrow.ty] at a
     cases a
    ·have a:=(h3.ty hk).1
     simp only[List.mem_singleton]
     rintro rfl
     rw[h1.ty] at a
     cases a
  have g3:FrX B Ts [] w W3:=((FrX.of_fr0 f01).trans (FrX.of_frT f2 (by simpa using hgr) (fun x hx=>⟨3,by simp,by simp at hx;subst hx;exact hrow.ty⟩))).trans (FrX.of_frT f3 (by simpa using hg) (fun x hx=>⟨213,by simp,by simp at hx;subst hx;exact p2.ty⟩))
  have hB3:B≤W3.heap.size:=by have:=g3.size;omega
  first|rw[←hW3]|(simp only[bne] at *;rw[←hW3])
  refine(move_any W3 B g _ hl3 hB3 hg (show (l.readers.filter fun y=>!(y==who)).length+l.queue.length≤100 by omega)).mono ?_
  rintro e w4 ⟨a4,n4,c4,rfl,hl4,g4⟩
  rw[←HA.out] at hl4
  clear d0' t0' hW3
  go_wp2_with fail
  go_ret
  exact⟨⟨_,_,_,rfl⟩,hl4,g3.trans g4⟩
end Go.Proofs.YtjmkkcckfbnmeaaGreatDoor.Lo
namespace Go.Proofs.YtjmkkcckfbnmeaaGreatDoor.Lp
open Go.RowKit
abbrev El:=M.Op
def cs (x:El):List Value:=[.bool x.del,.string x.uid,.string x.card,.int .i64 x.ck,.int .i64 x.cv]
theorem cs_len (x:El):(cs x).length=5:=rfl
theorem cs_one {x:El} : ∀ u∈cs x,u.oneCell'=true:=by
 intro u hu
 simp only[cs,List.mem_cons,List.not_mem_nil,or_false] at hu
 rcases hu with rfl|rfl|rfl|rfl|rfl<;>rfl
theorem infoE:(Tryz.prog.info? 49).map (fun i=>(i.zero,i.size,i.bytes))=some (some (.agg #[.bool false,.string ByteArray.empty,.string ByteArray.empty,.int .i64 0,.int .i64 0]),5,56):=by kernel_rfl
def firstP (p:El→Bool)(l:List El):Int:=match l.findIdx? p with|some k=>(k:Int)|none=>-1
theorem firstP_yes {p:El→Bool}{l:List El}{k:Nat}{x:El}(h:∀ (j:Nat) y,l[j]? = some y→j<k→p y=false)(hx:l[k]? = some x)(hp:p x=true):firstP p l=(k:Int):=by
 have hk:=List.getElem?_eq_some_iff.1 hx
 have:l.findIdx? p=some k:=by
  rw[List.findIdx?_eq_some_iff_getElem]
  refine⟨hk.1,by rw[hk.2];exact hp,fun j hj=>?_⟩
  have:=h j (l[j]'(Nat.lt_trans hj hk.1)) (List.getElem?_eq_getElem _) hj
  rw[this]
  decide
 rw[firstP,this]
theorem firstP_no {p:El→Bool}{l:List El}(h:∀ (j:Nat) y,l[j]? = some y→p y=false):firstP p l = -1:=by
 have:l.findIdx? p=none:=by
  rw[List.findIdx?_eq_none_iff]
  intro x hx
  obtain⟨j,hj⟩:=List.getElem?_of_mem hx
  exact h j x hj
 rw[firstP,this]
theorem firstP_any (p:El→Bool)(l:List El):decide (firstP p l ≥ 0)=l.any p:=by
 unfold firstP
 cases h:l.findIdx? p with
 | none =>
  rw[List.findIdx?_eq_none_iff] at h
  have:l.any p=false:=by rw[List.any_eq_false];intro x hx;rw[h x hx];decide
  rw[this]
  rfl
 | some k =>
  rw[List.findIdx?_eq_some_iff_getElem] at h
  obtain⟨hk,hp,_⟩:=h
  have:l.any p=true:=List.any_eq_true.2 ⟨_,List.getElem_mem hk,hp⟩
  rw[this]
  simp
theorem index_any (w:World)(B:Nat)(v:Value)(l:List El)(p:El→Bool)(b:Nat)(h:Own w B 49 5 v l.length (flat cs l))(hl:l.length≤1000)
  (hp:∀ w',Fr [] w w'→∀ x,x∈l→Calls Tryz.prog 240 #[.agg #[.bool x.del,.string x.uid,.string x.card,.int .i64 x.ck,.int .i64 x.cv],.pointer (some ⟨b,0,none⟩)] w' fun e w''=>e = .returned (.bool (p x))∧Fr [] w' w'') :
  Calls Tryz.prog 281 #[v,.func (.func 240) #[] #[.pointer (some ⟨b,0,none⟩)]] w fun e w'=>e = .returned (.int .i64 (firstP p l))∧Fr [] w w':=by
 obtain⟨a,c,rfl⟩:=h.form
 have HP:=hid hp
 clear hp
 go_enter Tryz.func281,Tryz.ntmps281
 go_wp2
 go_loopw [5,8] (fun _ i wr=>∃ k:Nat,k≤l.length∧i = .int .i64 k∧(∀ (j:Nat) y,l[j]? = some y→j<k→p y=false)∧Fr [] w wr) (fun _ i _=>l.length - (intOf i).toNat)
 case atStart=>exact⟨0,Nat.zero_le _,rfl,fun _ _ _ h=>by omega,Fr.refl _ _⟩
 case round =>
  obtain⟨k,hk,rfl,hno,fr⟩:=hrel
  by_cases hlt:k<l.length
  ·have hx:l[k]? = some l[k]:=List.getElem?_eq_getElem hlt
   obtain⟨x,hx'⟩:∃ x,l[k]=x:=⟨_,rfl⟩
   rw[hx'] at hx
   clear hx'
   have hk1:(k:Int)<(l.length:Int):=by omega
   obtain⟨g,c2,hg,hv,hr,hgl,hcell⟩:=(h.fr0 fr).cell cs_len rfl hx
   cases hv
   have q0:wr.cell? ⟨g,k*5,none⟩=some (.bool x.del):=hcell 0 _ (by omega) rfl
   have q1:wr.cell? ⟨g,k*5+1,none⟩=some (.string x.uid):=hcell 1 _ (by omega) rfl
   have q2:wr.cell? ⟨g,k*5+2,none⟩=some (.string x.card):=hcell 2 _ (by omega) rfl
   have q3:wr.cell? ⟨g,k*5+3,none⟩=some (.int .i64 x.ck):=hcell 3 _ (by omega) rfl
   have q4:wr.cell? ⟨g,k*5+4,none⟩=some (.int .i64 x.cv):=hcell 4 _ (by omega) rfl
   have hcall:=HP.out wr fr x (List.mem_of_getElem? hx)
   have HX:=hid hx
   have HN:=hid hno
   have HC:=hid hcall
   clear hx hno hcall hr hcell
   cases hb:p x
   ·have HB:=hid hb
    clear hb
    go_wp2_with fail
    refine HC.out.mono ?_
    rintro e w' ⟨rfl,f2⟩
    rw[HB.out]
    go_wp2_with fail
    go_roundw
    case rel=>exact⟨k+1,by omega,by go_num,fun j y hy hj=>by
     by_cases e:j=k
     ·subst e
      rw[HX.out] at hy
      cases hy
      exact HB.out
     ·exact HN.out j y hy (by omega),fr.trans f2⟩
    case measure=>simp[intOf];omega
   ·have HB:=hid hb
    have HF:=hid (firstP_yes HN.out HX.out hb)
    clear hb
    go_wp2_with fail
    refine HC.out.mono ?_
    rintro e w' ⟨rfl,f2⟩
    rw[HB.out]
    go_wp2_with fail
    go_ret
    exact⟨ret_int HF.out.symm,fr.trans f2⟩
  ·obtain rfl:k=l.length:=by omega
   have HF:=hid (firstP_no (p:=p) (l:=l) fun j y hy=>hno j y hy (List.getElem?_eq_some_iff.1 hy).1)
   clear hno
   go_wp2
   go_ret
   exact⟨ret_int HF.out.symm,fr⟩
theorem contains_any (w:World)(B:Nat)(v:Value)(l:List El)(p:El→Bool)(b:Nat)(h:Own w B 49 5 v l.length (flat cs l))(hl:l.length≤1000)
  (hp:∀ w',Fr [] w w'→∀ x,x∈l→Calls Tryz.prog 240 #[.agg #[.bool x.del,.string x.uid,.string x.card,.int .i64 x.ck,.int .i64 x.cv],.pointer (some ⟨b,0,none⟩)] w' fun e w''=>e = .returned (.bool (p x))∧Fr [] w' w'') :
  Calls Tryz.prog 239 #[v,.func (.func 240) #[] #[.pointer (some ⟨b,0,none⟩)]] w fun e w'=>e = .returned (.bool (l.any p))∧Fr [] w w':=by
 have HI:=hid (index_any w B v l p b h hl hp)
 obtain⟨a,c,rfl⟩:=h.form
 have HA:=hid (firstP_any p l)
 clear hp
 go_enter Tryz.func239,Tryz.ntmps239
 go_wp2_with fail
 refine HI.out.mono ?_
 rintro e w' ⟨rfl,f2⟩
 go_wp2_with fail
 go_ret
 exact⟨ret_bool (by rw[←HA.out]),f2⟩
end Go.Proofs.YtjmkkcckfbnmeaaGreatDoor.Lp
