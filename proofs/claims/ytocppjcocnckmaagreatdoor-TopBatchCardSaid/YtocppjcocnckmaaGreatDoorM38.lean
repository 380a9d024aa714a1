/- Walks. -/
import Derived.Test.YtocppjcocnckmaaGreatDoorM37
import Derived.Deep.RegionHeld3
set_option maxRecDepth 100000
set_option maxHeartbeats 8000000
set_option linter.all false
open Go.Lib (hid)
namespace Go.Proofs.YtocppjcocnckmaaGreatDoor
open Go.Proofs.Tryz
namespace Rf
open Go.RowKit Fm Ct Fd
theorem kN (f:F)(w:World)(h:iu f)(hv:ku f) :
  cA 230 #[.agg (fcs f).toArray] w (.string (aL f)):=by
 obtain⟨W,hW⟩:∃ W,W=w.alloc (.cells (fcs f).toArray 209):=⟨_,rfl⟩
 have f0:Fr [] w W:=by rw[hW];exact rZ.alloc _
 have b1:Holds W w.heap.size 209 (fcs f).toArray:=by rw[hW];exact Holds.new _ _ _
 have HC:=hid (dN f W h hv)
 have HW:=hid qM
 have HL:=hid o9
 have hz:=h.s2
 have hk6:=h.k6
 have hl3:=h.l3
 have hzk:(kT f.k).size<=4:=mL ⟨f.k,by omega⟩
 have hzl:(lT f.l).size<=5:=pY ⟨f.l,by omega⟩
 have hline:kT f.k++lT f.l++⟨#[58]⟩++f.v=aL f:=rfl
 have HN:=hid hline
 clear h hv hline
 obtain⟨s,hs⟩:∃ s,aL f=s:=⟨_,rfl⟩
 rw[hs] at HN ⊢
 clear hs
 obtain⟨fk,fl,fv⟩:=f
 simp only at hz hzk hzl HN hk6 hl3
 obtain⟨T,hT⟩:∃ T,kT fk=T:=⟨_,rfl⟩
 obtain⟨L,hL⟩:∃ L,lT fl=L:=⟨_,rfl⟩
 have HT:=hid hT
 have HL2:=hid hL
 rw[hT] at hzk HN
 rw[hL] at hzl HN
 have hk7:(fk:Int)<7:=by omega
 have hl4:(fl:Int)<4:=by omega
 have hk7n:fk<7:=by omega
 have hl4n:fl<4:=by omega
 have hcap1:¬ (9223372036854775807<T.size+L.size):=by omega
 have hcap2:¬ (9223372036854775807<T.size+L.size+1):=by omega
 have hcap3:¬ (9223372036854775807<T.size+L.size+1+fv.size):=by omega
 clear hT hL
 have q0:=b1.cell 0
 have q1:=b1.cell 1
 have q2:=b1.cell 2
 simp at q0 q1 q2
 go_enter func230,ntmps230
 go_wp2_with fail
 rw[<-hW]
 clear hW
 go_wp2_with fail
 refine uu HC λw2 f2=>?_
 have c1:=b1.fr f2 (by simp)
 clear q0 q1 q2
 have q0:=c1.cell 0
 have q1:=c1.cell 1
 have q2:=c1.cell 2
 have l1:=c1.lt
 simp at q0 q1 q2
 go_wp2_with fail
 have S0:=hid (And.intro q0 (And.intro q1 q2))
 refine wp_region_noPanic ?_
 refine wp_region_held_drew (S:=(λw'=>Fr [] w2 w'/\w'.cell? ⟨w.heap.size,0,none⟩=some (.int .i64 fk)/\w'.cell? ⟨w.heap.size,1,none⟩=some (.int .i64 fl)/\w'.cell? ⟨w.heap.size,2,none⟩=some (.string fv))) (by kernel_rfl) ⟨rZ.drew,S0.1,S0.2.1,S0.2.2⟩ (λhS=>?_)
 refine wpAnyH_take (i:=1) (oi:=⟨some 7,_,_,_,_,_⟩) (v:=?_) rfl (by kernel_rfl) (by kernel_rfl) (by kernel_rfl) (λ_ _ _ h=>h) (Or.inl ⟨by rfl,?_⟩) (by assumption) ?_
 rotate_left
 ·intro w hSw;(try dsimp only at hSw);go_simp<;>with_reducible rfl
 try simp only[Act.put,List.setIfInBounds_toArray,List.set_cons_zero,List.set_cons_succ]
 refine wpAnyH_take (i:=2) (oi:=⟨some 8,_,_,_,_,_⟩) (v:=?_) rfl (by kernel_rfl) (by kernel_rfl) (by kernel_rfl) (λ_ _ _ h=>h) (Or.inl ⟨by rfl,?_⟩) (by assumption) ?_
 rotate_left
 ·intro w hSw;(try dsimp only at hSw);go_simp<;>with_reducible rfl
 try simp only[Act.put,List.setIfInBounds_toArray,List.set_cons_zero,List.set_cons_succ]
 refine wpAnyH_take (i:=6) (oi:=⟨some 12,_,_,_,_,_⟩) (v:=?_) rfl (by kernel_rfl) (by kernel_rfl) (by kernel_rfl) (λ_ _ _ h=>h) (Or.inl ⟨by rfl,?_⟩) (by assumption) ?_
 rotate_left
 ·intro w hSw;(try dsimp only at hSw);go_simp<;>with_reducible rfl
 try simp only[Act.put,List.setIfInBounds_toArray,List.set_cons_zero,List.set_cons_succ]
 refine wpAnyH_take (i:=7) (oi:=⟨some 13,_,_,_,_,_⟩) (v:=?_) rfl (by kernel_rfl) (by kernel_rfl) (by kernel_rfl) (λ_ _ _ h=>h) (Or.inl ⟨by rfl,?_⟩) (by assumption) ?_
 rotate_left
 ·intro w hSw;(try dsimp only at hSw);go_simp<;>with_reducible rfl
 try simp only[Act.put,List.setIfInBounds_toArray,List.set_cons_zero,List.set_cons_succ]
 refine wpAnyH_take (i:=12) (oi:=⟨some 18,_,_,_,_,_⟩) (v:=?_) rfl (by kernel_rfl) (by kernel_rfl) (by kernel_rfl) (λ_ _ _ h=>h) (Or.inl ⟨by rfl,?_⟩) (by assumption) ?_
 rotate_left
 ·intro w hSw;(try dsimp only at hSw);go_simp<;>with_reducible rfl
 try simp only[Act.put,List.setIfInBounds_toArray,List.set_cons_zero,List.set_cons_succ]
 refine wpAnyH_take (i:=13) (oi:=⟨some 19,_,_,_,_,_⟩) (v:=?_) rfl (by kernel_rfl) (by kernel_rfl) (by kernel_rfl) (λ_ _ _ h=>h) (Or.inl ⟨by rfl,?_⟩) (by assumption) ?_
 rotate_left
 ·intro w hSw;(try dsimp only at hSw);go_simp<;>with_reducible rfl
 try simp only[Act.put,List.setIfInBounds_toArray,List.set_cons_zero,List.set_cons_succ]
 refine wpAnyH_ready (rs:=[0]) (by kernel_rfl) (by simp) ?_
 refine AllReadyH.cons rfl (λK hK=>?_) AllReadyH.nil
 go_simp
 refine(HW _).mono ?_
 rintro e w3 ⟨b,rfl,y1,yl,f3⟩
 replace y1:=y1 fk hk6
 rw[HT] at y1
 have F3:Fr [] w2 w3:=rZ.drew.trans f3
 go_wp2_with fail
 refine hK.out _ _ ⟨F3,F3.cell S0.1 l1 (by simp),F3.cell S0.2.1 l1 (by simp),F3.cell S0.2.2 l1 (by simp)⟩ (λhS=>?_)
 clear hK K
 try simp only[Act.put,List.setIfInBounds_toArray,List.set_cons_zero,List.set_cons_succ]
 refine wpAnyH_take (i:=3) (oi:=⟨some 9,_,_,_,_,_⟩) (v:=?_) rfl (by kernel_rfl) (by kernel_rfl) (by kernel_rfl) (λ_ _ _ h=>h) (Or.inl ⟨by rfl,?_⟩) (by assumption) ?_
 rotate_left
 ·intro w hSw;(try dsimp only at hSw);go_simp<;>with_reducible rfl
 try simp only[Act.put,List.setIfInBounds_toArray,List.set_cons_zero,List.set_cons_succ]
 refine wpAnyH_ready (rs:=[4,5]) (by kernel_rfl) (by simp) ?_
 refine AllReadyH.cons rfl (λK hK=>?_) (AllReadyH.cons rfl (λK hK=>?_) AllReadyH.nil)
 focus
  go_simp
  refine hK.out _ _ hS (λhS=>?_)
  clear hK K
  try simp only[Act.put,List.setIfInBounds_toArray,List.set_cons_zero,List.set_cons_succ]
  refine wpAnyH_ready (rs:=[5]) (by kernel_rfl) (by simp) ?_
  refine AllReadyH.cons rfl (λK hK=>?_) AllReadyH.nil
  go_simp
  refine(HL _).mono ?_
  rintro e w4 ⟨b4,rfl,x1,xl,f4⟩
  replace x1:=x1 fl hl3
  rw[HL2] at x1
  have F4:Fr [] w2 w4:=F3.trans f4
  have y1:=f4.cell y1 yl (by simp)
  go_wp2_with fail
  refine hK.out _ _ ⟨F4,F4.cell S0.1 l1 (by simp),F4.cell S0.2.1 l1 (by simp),F4.cell S0.2.2 l1 (by simp)⟩ (λhS=>?_)
  clear hK K
  try simp only[Act.put,List.setIfInBounds_toArray,List.set_cons_zero,List.set_cons_succ]
  refine wpAnyH_take (i:=8) (oi:=⟨some 14,_,_,_,_,_⟩) (v:=?_) rfl (by kernel_rfl) (by kernel_rfl) (by kernel_rfl) (λ_ _ _ h=>h) (Or.inl ⟨by rfl,?_⟩) (by assumption) ?_
  rotate_left
  ·intro w hSw;(try dsimp only at hSw);go_simp<;>with_reducible rfl
  try simp only[Act.put,List.setIfInBounds_toArray,List.set_cons_zero,List.set_cons_succ]
  refine wpAnyH_ready (rs:=[9]) (by kernel_rfl) (by simp) ?_
  refine AllReadyH.cons rfl (λK hK=>?_) AllReadyH.nil
  go_simp
  refine hK.out _ _ hS (λhS=>?_)
  clear hK K
  try simp only[Act.put,List.setIfInBounds_toArray,List.set_cons_zero,List.set_cons_succ]
 rotate_left
 focus
  go_simp
  refine(HL _).mono ?_
  rintro e w4 ⟨b4,rfl,x1,xl,f4⟩
  replace x1:=x1 fl hl3
  rw[HL2] at x1
  have F4:Fr [] w2 w4:=F3.trans f4
  have y1:=f4.cell y1 yl (by simp)
  go_wp2_with fail
  refine hK.out _ _ ⟨F4,F4.cell S0.1 l1 (by simp),F4.cell S0.2.1 l1 (by simp),F4.cell S0.2.2 l1 (by simp)⟩ (λhS=>?_)
  clear hK K
  try simp only[Act.put,List.setIfInBounds_toArray,List.set_cons_zero,List.set_cons_succ]
  refine wpAnyH_take (i:=8) (oi:=⟨some 14,_,_,_,_,_⟩) (v:=?_) rfl (by kernel_rfl) (by kernel_rfl) (by kernel_rfl) (λ_ _ _ h=>h) (Or.inl ⟨by rfl,?_⟩) (by assumption) ?_
  rotate_left
  ·intro w hSw;(try dsimp only at hSw);go_simp<;>with_reducible rfl
  try simp only[Act.put,List.setIfInBounds_toArray,List.set_cons_zero,List.set_cons_succ]
  refine wpAnyH_ready (rs:=[4,9]) (by kernel_rfl) (by simp) ?_
  refine AllReadyH.cons rfl (λK hK=>?_) (AllReadyH.cons rfl (λK hK=>?_) AllReadyH.nil)
 focus
  go_simp
  refine hK.out _ _ hS (λhS=>?_)
  clear hK K
  try simp only[Act.put,List.setIfInBounds_toArray,List.set_cons_zero,List.set_cons_succ]
  refine wpAnyH_ready (rs:=[9]) (by kernel_rfl) (by simp) ?_
  refine AllReadyH.cons rfl (λK hK=>?_) AllReadyH.nil
  go_simp
  refine hK.out _ _ hS (λhS=>?_)
  clear hK K
  try simp only[Act.put,List.setIfInBounds_toArray,List.set_cons_zero,List.set_cons_succ]
 rotate_left
 focus
  go_simp
  refine hK.out _ _ hS (λhS=>?_)
  clear hK K
  try simp only[Act.put,List.setIfInBounds_toArray,List.set_cons_zero,List.set_cons_succ]
  refine wpAnyH_ready (rs:=[4]) (by kernel_rfl) (by simp) ?_
  refine AllReadyH.cons rfl (λK hK=>?_) AllReadyH.nil
  go_simp
  refine hK.out _ _ hS (λhS=>?_)
  clear hK K
  try simp only[Act.put,List.setIfInBounds_toArray,List.set_cons_zero,List.set_cons_succ]
 all_goals
  refine wpAnyH_take (i:=10) (oi:=⟨some 16,_,_,_,_,_⟩) (v:=?_) rfl (by kernel_rfl) (by kernel_rfl) (by kernel_rfl) (λ_ _ _ h=>h) (Or.inl ⟨by rfl,?_⟩) (by assumption) ?_
  rotate_left
  ·intro w hSw;(try dsimp only at hSw);go_simp<;>with_reducible rfl
  try simp only[Act.put,List.setIfInBounds_toArray,List.set_cons_zero,List.set_cons_succ]
  refine wpAnyH_take (i:=11) (oi:=⟨some 17,_,_,_,_,_⟩) (v:=?_) rfl (by kernel_rfl) (by kernel_rfl) (by kernel_rfl) (λ_ _ _ h=>h) (Or.inl ⟨by rfl,?_⟩) (by assumption) ?_
  rotate_left
  ·intro w hSw;(try dsimp only at hSw);go_simp<;>with_reducible rfl
  try simp only[Act.put,List.setIfInBounds_toArray,List.set_cons_zero,List.set_cons_succ]
  refine wpAnyH_take (i:=14) (oi:=⟨some 20,_,_,_,_,_⟩) (v:=?_) rfl (by kernel_rfl) (by kernel_rfl) (by kernel_rfl) (λ_ _ _ h=>h) (Or.inl ⟨by rfl,?_⟩) (by assumption) ?_
  rotate_left
  ·intro w hSw;(try dsimp only at hSw);go_simp<;>with_reducible rfl
  try simp only[Act.put,List.setIfInBounds_toArray,List.set_cons_zero,List.set_cons_succ]
  refine wpAnyH_take (i:=15) (oi:=⟨some 2,_,_,_,_,_⟩) (v:=?_) rfl (by kernel_rfl) (by kernel_rfl) (by kernel_rfl) (λ_ _ _ h=>h) (Or.inl ⟨by rfl,?_⟩) (by assumption) ?_
  rotate_left
  ·intro w hSw;(try dsimp only at hSw);go_simp<;>with_reducible rfl
  try simp only[Act.put,List.setIfInBounds_toArray,List.set_cons_zero,List.set_cons_succ]
  refine wpAnyH_done (by kernel_rfl) ?_ _
  refine NoPanic.normal ?_
  clear q0 q1 q2
  go_wp2_with fail
  go_ret
  exact⟨mI HN,(f0.trans f2).trans hS.1⟩
theorem lD (W:World)(tmps:Array Value)(g:Nat)(f:F)(vb:Value)(hp:Holds W g 209 (fcs f).toArray)(h2:tmps[2]?.getD undef = .pointer (some ⟨g,0,none⟩))(h3:tmps[3]?.getD undef=vb) :
  (results f126 tmps).run prog W = .ok (.tuple #[.agg (fcs f).toArray,vb]) W:=by
 have hr:f126.results=#[.cell 2 209,.tmp 3]:=rfl
 have q0:=hp.cell 0
 have q1:=hp.cell 1
 have q2:=hp.cell 2
 simp at q0 q1 q2
 simp[results,h2,h3,go_sem,q0,q1,q2]
def hd (k l:Nat):ByteArray:=kT k++lT l++⟨#[58]⟩
theorem yQ {a b x y:List UInt8}(ha:(58:UInt8)∉a)(hb:(58:UInt8)∉b)(e:a++58::x=b++58::y):a=b:=by
 induction a generalizing b with
 | nil =>
  cases b with
  | nil=>rfl
  | cons c b=>simp at e;exact absurd (by rw[e.1];exact List.mem_cons_self ..) hb
 | cons c a ih =>
  cases b with
  | nil=>simp at e;exact absurd (by rw[<-e.1];exact List.mem_cons_self ..) ha
  | cons d b =>
   simp only[List.cons_append,List.cons.injEq] at e
   rw[e.1,ih (λh=>ha (List.mem_cons_of_mem _ h)) (λh=>hb (List.mem_cons_of_mem _ h)) e.2]
theorem Bw {k l:Nat}(h1:1<=k)(h6:k<=6)(h3:l<=3):(58:UInt8)∉(kT k++lT l).data.toList/\(hd k l).size<=10:=by
 have:=Er ⟨k,by omega⟩ ⟨l,by omega⟩ h1
 simp only[uw,Bool.and_eq_true,List.all_eq_true,decide_eq_true_eq] at this
 obtain⟨⟨h1,h2⟩,h3⟩:=this
 refine⟨λhm=>(h1 _ hm).1 rfl,?_⟩
 have e:(hd k l).size=(cP k l).size+1:=by
  have:(hd k l).data.toList=(cP k l).data.toList++58::(⟨#[]⟩:ByteArray).data.toList:=by simp[hd,cP]
  have:=iQ this
  have h0:(⟨#[]⟩:ByteArray).size=0:=rfl
  omega
 omega
theorem DE (f:F):(aL f).extract 0 (hd f.k f.l).size=hd f.k f.l/\(aL f).extract (hd f.k f.l).size (aL f).size=f.v:=by
 have e:(aL f).data.toList=(hd f.k f.l).data.toList++f.v.data.toList:=by simp[aL,hd,cP]
 have hl:(hd f.k f.l).data.toList.length=(hd f.k f.l).size:=by simp
 constructor
 ·apply gC
  rw[bJ,e,List.drop_zero,<-hl,List.take_left]
 apply gC
 rw[bJ,List.take_of_length_le (by simp),e,<-hl,List.drop_left]
theorem Bx {f:F}(h:iu f){k l:Nat}(h1:1<=k)(h6:k<=6)(h3:l<=3)(hle:(hd k l).size<=(aL f).size)(e:(aL f).extract 0 (hd k l).size=hd k l):k=f.k/\l=f.l:=by
 have e1:=congrArg (λx=>x.data.toList) e
 simp only[bJ,List.drop_zero] at e1
 have e2:(aL f).data.toList=(kT k++lT l).data.toList++58::(aL f).data.toList.drop (hd k l).size:=by
  conv=>lhs;rw[<-List.take_append_drop (hd k l).size (aL f).data.toList,e1]
  simp[hd]
 rw[ie] at e2
 have e3:=yQ h.head.1 (Bw h1 h6 h3).1 e2
 have e4:cP f.k f.l=cP k l:=gC e3
 have:=Bv ⟨f.k,by have:=h.k6;omega⟩ ⟨f.l,by have:=h.l3;omega⟩ ⟨k,by omega⟩ ⟨l,by omega⟩ h.k1 h1 e4
 simp only[Fin.mk.injEq] at this
 exact⟨this.1.symm,this.2.symm⟩
theorem lI (f:F)(w:World)(h:iu f)(hv:ku f) :
  cA 126 #[.string (aL f)] w (.tuple #[.agg (fcs f).toArray,.int .i64 0]):=by
 obtain⟨W,hW⟩:∃ W,W=w.alloc (.cells #[.int .i64 0,.int .i64 0,.string ⟨#[]⟩] 209):=⟨_,rfl⟩
 have F0:=hid (show Fr [] w W by rw[hW];exact rZ.alloc _)
 have B1:=hid (show Holds W w.heap.size 209 #[.int .i64 0,.int .i64 0,.string ⟨#[]⟩] by rw[hW];exact Holds.new _ _ _)
 have hls:=h.size
 have hh:=h.head
 have hz:=h.s2
 have HM:=hid (λW=>dN f W h hv)
 have HO:=hid (λk l (h1:1<=k) (h6:k<=6) (h3:l<=3) hle e=>Bx h (k:=k) (l:=l) h1 h6 h3 hle e)
 have HI:=hid (DE f)
 have hsz:(aL f).size<=80:=by omega
 have hle0:(hd f.k f.l).size<=(aL f).size:=by
  have e:(aL f).data.toList=(hd f.k f.l).data.toList++f.v.data.toList:=by simp[aL,hd,cP]
  have:=congrArg List.length e
  simp at this
  omega
 have k1:=h.k1
 have k6:=h.k6
 have l3:=h.l3
 have HW:=hid qM
 have HL:=hid o9
 clear h hv hls hh hz
 obtain⟨fk,fl,fv⟩:=f
 simp only at HO HI hle0 k1 k6 l3 ⊢
 obtain⟨s,hs⟩:∃ s,aL ⟨fk,fl,fv⟩=s:=⟨_,rfl⟩
 rw[hs] at HO HI hsz hle0 ⊢
 clear hs
 go_enter func126,ntmps126
 go_wp2_with fail
 rw[<-hW]
 clear hW
 refine(HW W).mono ?_
 rintro e w2 ⟨b2,rfl,y1,yl,f2⟩
 have F2:=hid (F0.trans f2)
 have C2:=hid (B1.fr f2 (by simp))
 clear f2
 go_wp2_with fail
 refine(HL _).mono ?_
 rintro e w3 ⟨b3,rfl,x1,xl,f3⟩
 have F3:=hid (F2.trans f3)
 have C3:=hid (C2.fr f3 (by simp))
 have Y1:=hid (λk (hk:k<=6)=>f3.cell (y1 k hk) yl (by simp))
 have X1:=hid x1
 have yl3:=Nat.lt_of_lt_of_le yl f3.size
 clear f3 y1 x1 yl
 go_wp2_with fail
 go_loopw [6] (λi wr=>∃ k:Nat,1<=k/\k<=fk/\i = .int .i64 k/\Fr [] w3 wr) (λi _=>6 - (intOf i).toNat)
 case atStart=>exact⟨1,Nat.le_refl _,k1,rfl,rZ⟩
 obtain⟨k,hk1,hkf,rfl,fr⟩:=hrel
 have hk6:(k:Int)<=6:=by omega
 have FR0:=hid fr
 clear fr
 go_wp2_with fail
 go_loopw [7] (λi wr=>∃ l:Nat,l<=4/\(k=fk->l<=fl)/\i = .int .i64 l/\Fr [] w3 wr) (λi _=>4 - (intOf i).toNat)
 case atStart=>exact⟨0,by omega,λ_=>Nat.zero_le _,rfl,FR0⟩
 obtain⟨l,hl4,hlf,rfl,fr⟩:=hrel
 have FR:=hid fr
 clear fr
 by_cases hl:l=4
 ·subst hl
  have hkn:k≠fk:=λe=>by have:=hlf e;omega
  clear hlf
  go_wp2_with fail
  go_roundw
  case rel=>exact⟨k+1,by omega,by omega,by go_num,FR⟩
  simp[intOf];omega
 have hl3:(l:Int)<4:=by omega
 have hl3n:l<4:=by omega
 have hk7:(k:Int)<7:=by omega
 have hk7n:k<7:=by omega
 have HLF:=hid hlf
 clear hlf
 have hyk:=FR.cell (Y1.out k (by omega)) yl3 (by simp)
 have hxl:=FR.cell (X1.out l (by omega)) xl (by simp)
 have y2:=Nat.lt_of_lt_of_le yl3 FR.size
 have x2:=Nat.lt_of_lt_of_le xl FR.size
 have hh58:=(Bw hk1 (by omega) (by omega:l<=3)).2
 have hzk:(kT k).size<=4:=mL ⟨k,by omega⟩
 have hzl:(lT l).size<=5:=pY ⟨l,by omega⟩
 have hhd:kT k++lT l++⟨#[58]⟩=hd k l:=rfl
 have HHD:=hid hhd
 have HO1:=hid (HO.out k l hk1 (by omega) (by omega))
 clear hhd
 go_wp2_with fail
 go_quiet (fail)
 go_upto_region 9 with fail
 rw[HHD]
 obtain⟨V,hV⟩:∃ V,V=wr.drewN nq:=⟨_,rfl⟩
 have FV:=hid (show Fr [] w3 V by rw[hV];exact FR.drewN _)
 rw[<-hV]
 clear hV hyk hxl y2 x2 hzk hzl
 by_cases hle:(hd k l).size<=s.size
 ·by_cases he:s.extract 0 (hd k l).size=hd k l
  ·obtain⟨rfl,rfl⟩:=HO1.out hle he
   have hfv:=HI.2
   obtain⟨P,hP⟩:∃ P,hd k l=P:=⟨_,rfl⟩
   rw[hP] at hle he hfv hh58 ⊢
   have hltd:decide ((s.size:Int)<(P.size:Int))=false:=decide_eq_false (by omega)
   have hle':(P.size:Int)<=(s.size:Int):=by omega
   clear hP
   go_wp2_with fail
   refine uu (HM _) λw4 f4=>?_
   have F4:=hid ((F3.out.trans (FV.alloc _)).trans f4)
   have c2:=(Holds.new V 209 (fcs ⟨k,l,fv⟩).toArray).fr f4 (by simp)
   have C4:=hid (C3.fr ((FV.alloc _).trans f4) (by simp))
   clear f4
   have q0:=c2.cell 0
   have q1:=c2.cell 1
   have q2:=c2.cell 2
   have d0:=C4.cell 0
   have d1:=C4.cell 1
   have d2:=C4.cell 2
   have y0:=C4.frozen 0
   have y1:=C4.frozen 1
   have y2:=C4.frozen 2
   have l2:=C4.lt
   simp at q0 q1 q2 d0 d1 d2
   clear c2
   go_wp2_with fail
   exact bodyPost_ret (lD _ _ w.heap.size ⟨k,l,fv⟩ _ (fJ ⟨k,l,fv⟩ C4) rfl rfl) rfl ⟨rfl,jI F4.out (Nat.le_refl _)⟩
  have hne:=oX he
  have HNE:=hid (show ¬ (k=fk/\l=fl) from λe=>he (by rw[e.1,e.2];exact HI.1))
  obtain⟨P,hP⟩:∃ P,hd k l=P:=⟨_,rfl⟩
  rw[hP] at hle hne hh58 ⊢
  have hltd:decide ((s.size:Int)<(P.size:Int))=false:=decide_eq_false (by omega)
  have hle':(P.size:Int)<=(s.size:Int):=by omega
  clear hP he
  go_wp2_with fail
  go_roundw
  case rel =>
   refine⟨l+1,by omega,λe=>?_,by go_num,FV⟩
   have h1:=HLF.out e
   have h2:l≠fl:=λe2=>HNE ⟨e,e2⟩
   omega
  simp[intOf];omega
 have HNE:=hid (show ¬ (k=fk/\l=fl) from λe=>hle (by rw[e.1,e.2];exact hle0))
 obtain⟨P,hP⟩:∃ P,hd k l=P:=⟨_,rfl⟩
 rw[hP] at hle hh58 ⊢
 have hltd:decide ((s.size:Int)<(P.size:Int))=true:=decide_eq_true (by omega)
 clear hP
 go_wp2_with fail
 go_roundw
 case rel =>
  refine⟨l+1,by omega,λe=>?_,by go_num,FV⟩
  have h1:=HLF.out e
  have h2:l≠fl:=λe2=>HNE ⟨e,e2⟩
  omega
 simp[intOf];omega
open Go.RowKit Fm Ct Fd
theorem tT (x y:F)(w:World)(h:x.k<y.k):cA 262 #[.agg (fcs x).toArray,.agg (fcs y).toArray] w (.bool true):=by
 obtain⟨xk,xl,xv⟩:=x
 obtain⟨yk,yl,yv⟩:=y
 simp only at h
 have F0:=hid (show Fr [] w ((w.alloc (.cells #[.int .i64 xk,.int .i64 xl,.string xv] 209)).alloc (.cells #[.int .i64 yk,.int .i64 yl,.string yv] 209)) from (rZ.alloc _).alloc _)
 have h1:((xk:Int) != (yk:Int))=true:=by
  have:(xk:Int)≠(yk:Int):=by omega
  simpa using this
 have h2:((xk:Int)==(yk:Int))=false:=by
  have:(xk:Int)≠(yk:Int):=by omega
  simpa using this
 have h3:¬ ((xk:Int)=(yk:Int)):=by omega
 have h4:decide ((xk:Int)<(yk:Int))=true:=decide_eq_true (by omega)
 go_enter func262,ntmps262
 go_wp2_with fail
 go_ret
 exact⟨by first|rfl|simp,F0.out⟩
theorem Ff (w:World)(B:Nat)(v:Value)(l:List F)(x:F)(hf:dA w B v l)(hne:∀ y,y∈l->y.k≠x.k)(h12:l.length<=12) :
  cA 261 #[v,.agg (fcs x).toArray] w (.bool false):=by
 obtain⟨a,c,rfl⟩:=hf.form
 obtain⟨xk,xl,xv⟩:=x
 have HF:=hid hf
 have HN:=hid hne
 have B0:=hid (Holds.new w 209 #[.int .i64 xk,.int .i64 xl,.string xv])
 have F0:=hid (show Fr [] w (w.alloc (.cells #[.int .i64 xk,.int .i64 xl,.string xv] 209)) from rZ.alloc _)
 clear hf hne
 go_enter func261,ntmps261
 go_wp2_with fail
 go_loopw [5] (λi wr=>∃ k:Nat,k<=l.length/\i = .int .i64 k/\Fr [] (w.alloc (.cells #[.int .i64 xk,.int .i64 xl,.string xv] 209)) wr) (λi _=>l.length - (intOf i).toNat)
 case atStart=>exact⟨0,Nat.zero_le _,rfl,rZ⟩
 obtain⟨k,hk,rfl,fr⟩:=hrel
 have FR:=hid fr
 by_cases hlt:k<l.length
 ·have hx:l[k]? = some l[k]:=List.getElem?_eq_getElem hlt
  have hm:l[k]∈l:=List.getElem_mem hlt
  obtain⟨y,hy'⟩:∃ y,l[k]=y:=⟨_,rfl⟩
  rw[hy'] at hx hm
  obtain⟨g,rfl,hg,hgl,z0,z1,z2⟩:=eG (HF.fr0 (F0.trans fr)) hx
  have hnk:=HN.out y hm
  try simp only at hnk
  have hne:((y.k:Int)==(xk:Int))=false:=by
   have:(y.k:Int)≠(xk:Int):=by omega
   simpa using this
  have b1:=B0.fr fr (by simp)
  have q0:=b1.cell 0
  have q1:=b1.cell 1
  have q2:=b1.cell 2
  have ql:=b1.lt
  simp at q0 q1 q2
  have hk1:(k:Int)<(l.length:Int):=by omega
  clear hx hm hy' fr b1 hnk
  go_wp2_with fail
  go_quiet (fail)
  go_wp2_with fail
  go_roundw
  case rel=>exact⟨k+1,by omega,by go_num,FR.drewN _⟩
  simp[intOf];omega
 obtain rfl:k=l.length:=by omega
 clear fr
 go_wp2_with fail
 go_ret
 exact⟨rfl,F0.trans FR⟩
theorem oZ (L:List F)(w:World)(B:Nat)(v:Value)(h:dG L)(hv:∀ f,f∈L->ku f)(hf:dA w B v L) :
  cA 187 #[v] w (.string (aJ L)):=by
 have h4:=h.n4
 obtain⟨a,c,rfl⟩:=hf.form
 have HF:=hid hf
 have HL:=hid (λW f (hm:f∈L)=>kN f W (h.fN f hm) (hv f hm))
 have HSz:=hid (λf (hm:f∈L)=>show (aL f).size<=74 from by
  have h1:=(h.fN f hm).size
  have h2:=(h.fN f hm).head
  have h3:=(h.fN f hm).s2
  omega)
 have HTS:=hid (λk=>dB (L.take k) λf hm=>h.fN f (List.mem_of_mem_take hm))
 clear hf h hv
 go_enter func187,ntmps187
 go_wp2_with fail
 go_loopw [3,4] (λs i wr=>∃ k:Nat,k<=L.length/\i = .int .i64 k/\s = .string (aJ (L.take k))/\Fr [] w wr) (λ_ i _=>L.length - (intOf i).toNat)
 case atStart=>exact⟨0,Nat.zero_le _,rfl,rfl,rZ⟩
 obtain⟨k,hk,rfl,rfl,fr⟩:=hrel
 have FR:=hid fr
 by_cases hlt:k<L.length
 ·have hx:L[k]? = some L[k]:=List.getElem?_eq_getElem hlt
  have hm:L[k]∈L:=List.getElem_mem hlt
  have HT:=hid (show aJ (L.take k)++(aL L[k]++⟨#[10]⟩)=aJ (L.take (k+1)) by rw[fX hlt,js];rfl)
  obtain⟨x,hx'⟩:∃ x,L[k]=x:=⟨_,rfl⟩
  rw[hx'] at hx hm HT
  obtain⟨g,rfl,hg,hgl,z0,z1,z2⟩:=eG (HF.fr0 fr) hx
  have hk1:(k:Int)<(L.length:Int):=by omega
  have HLx:=hid (λW=>HL W x hm)
  have hsz:=HSz.out x hm
  have hts:=HTS.out k
  have hln:(L.take k).length<=4:=by simp only[List.length_take];omega
  obtain⟨s,hs⟩:∃ s,aL x=s:=⟨_,rfl⟩
  rw[hs] at HLx hsz HT
  obtain⟨t,ht⟩:∃ t,aJ (L.take k)=t:=⟨_,rfl⟩
  rw[ht] at HT hts ⊢
  have hts2:t.size<=300:=by omega
  have hcap1:¬ (9223372036854775807<s.size+1):=by omega
  have hcap2:¬ (9223372036854775807<t.size+(s.size+1)):=by omega
  clear hx hm hx' hs ht hts hln fr
  simp only[fcs] at HLx
  go_wp2_with fail
  refine uu (HLx _) λw2 f2=>?_
  have F2:=hid (FR.trans f2)
  clear z0 z1 z2 f2
  go_wp2_with fail
  go_roundw
  case rel=>exact⟨k+1,by omega,by go_num,by rw[<-HT],F2⟩
  simp[intOf];omega
 obtain rfl:k=L.length:=by omega
 have ht:L.take L.length=L:=List.take_of_length_le (Nat.le_refl _)
 rw[ht]
 clear fr
 go_wp2_with fail
 go_ret
 exact⟨rfl,FR⟩
theorem ri {L:List F}(h:mA L):∀ (k j:Nat) (x y:F),j<k->L[j]? = some x->L[k]? = some y->x.k<y.k
 | 0,_,_,_,hj,_,_=>by omega
 | k+1,j,x,y,hj,hx,hy=>by
  have hlt:=(List.getElem?_eq_some_iff.1 hy).1
  have hz:L[k]? = some L[k]:=List.getElem?_eq_getElem (by omega)
  have h1:=h k _ _ hz hy
  rcases Nat.lt_or_ge j k with hjk|hjk
  ·have:=ri h k j x _ hjk hx hz
   omega
  obtain rfl:j=k:=by omega
  rw[hz] at hx
  cases hx
  exact h1
theorem qm {w:World}{B n:Nat}{v:Value}{l:List F}(h:dA w B v l)(hn:l.length=n):Own w B 209 3 v n (flat fcs l):=hn ▸ h
theorem iz {w:World}{B e sz g n c:Nat}{xs:List Value}(hg:B<=g)(h:Row w e sz g n c xs):Cells w (some ⟨g,0,none⟩) xs:=by
 obtain⟨a,c',hv,hc,_⟩:=Ev.Own.cells (.inr ⟨g,c,hg,rfl,h⟩:Own w B e sz (.slice (some ⟨g,0,none⟩) n c) n xs)
 cases hv
 exact hc
theorem rj {w w5 w6:World}{v v':Value}{l:List F}{n:Nat}{own':Option Nat}(h:Own w5 w.heap.size 209 3 v n (flat fcs l))(f:Fr [] w w5)(hn:l.length=n)(h1n:0<n)(hs:Sl w6 209 3 v' (n+0) (flat fcs l++[]) own')(ho:own'=ay v∨∃ g,own'=some g/\w5.heap.size<=g)(h5:Fr (ay v).toList w5 w6) :
  dA w6 w.heap.size v' l/\Fr [] w w6:=by
 subst hn
 rw[Nat.add_zero,List.append_nil] at hs
 refine⟨?_,f.step h5 λy hy=>?_⟩
 ·rcases hs with⟨h0,a,hv,h1,h2,h3,h4⟩|⟨g,c,h0,hv,hr⟩
  ·exfalso
   obtain⟨g,c,_,hv2,_⟩:=Own.pos h h1n
   rcases ho with ho|⟨g',e1,e2⟩
   ·rw[h0,hv2] at ho
    cases ho
   rw[h0] at e1
   cases e1
  refine .inr ⟨g,c,?_,hv,hr⟩
  rcases ho with ho|⟨g',h1,h2⟩
  ·exact(Own.ty h (by rw[<-ho,h0])).2
  rw[h0] at h1
  cases h1
  exact Nat.le_trans f.size h2
 exact .inr (Own.ty h (g:=y) (by simpa using hy)).2
theorem ny (L:List F)(w:World)(B:Nat)(v:Value)(h:mA L)(h4:L.length<=4)(hf:dA w B v L) :
  Calls prog 229 #[v] w λe w'=>∃ v',e = .returned v'/\dA w' w.heap.size v' L/\Fr [] w w':=by
 obtain⟨i5,hi,hz0,hz1,hz2⟩:=info_parts sx
 obtain⟨a,c,rfl⟩:=hf.form
 have HF:=hid hf
 have HR:=hid (ri h)
 clear hf h
 go_enter func229,ntmps229
 go_wp2_with fail
 go_loopw [3,4] (λo i wr=>∃ k:Nat,k<=L.length/\i = .int .i64 k/\dA wr w.heap.size o (L.take k)/\Fr [] w wr) (λ_ i _=>L.length - (intOf i).toNat)
 case atStart=>exact⟨0,Nat.zero_le _,rfl,Own.nil _ _ _ _,rZ⟩
 obtain⟨k,hk,rfl,ho,fr⟩:=hrel
 have HO:=hid ho
 have HLN:=hid (show (L.take k).length=k by simp only[List.length_take];omega)
 obtain⟨oa,oc,hoe⟩:=ho.form
 rw[HLN] at hoe
 subst hoe
 clear ho
 have FR:=hid fr
 by_cases hlt:k<L.length
 ·have hx:L[k]? = some L[k]:=List.getElem?_eq_getElem hlt
  have HTk:=hid (fX hlt)
  obtain⟨x,hx'⟩:∃ x,L[k]=x:=⟨_,rfl⟩
  rw[hx'] at hx HTk
  have HX:=hid hx
  obtain⟨g,rfl,hg,hgl,z0,z1,z2⟩:=eG (HF.fr0 fr) hx
  have hk1:(k:Int)<(L.length:Int):=by omega
  have hln:=HLN.out
  have HH:=hid (Ff wr w.heap.size _ (L.take k) x HO (λy hy=>by
   obtain⟨j,hj⟩:=List.getElem?_of_mem hy
   have hjk:j<k:=by
    have:=(List.getElem?_eq_some_iff.1 hj).1
    omega
   rw[List.getElem?_take,if_pos hjk] at hj
   have:=HR.out k j y x hjk hj hx
   omega) (by omega))
  clear hx hx' fr hln
  simp only[fcs] at HH
  go_wp2_with fail
  refine uu HH λw2 f2=>?_
  have F2:=hid (FR.trans f2)
  have O2:=hid (HO.fr0 f2)
  clear f2 z0 z1 z2
  go_wp2_with fail
  go_loopw [5] (λi wr=>∃ j:Nat,j<=k/\i = .int .i64 j/\Fr [] w2 wr) (λi _=>k - (intOf i).toNat)
  case atStart=>exact⟨0,Nat.zero_le _,rfl,rZ⟩
  obtain⟨j,hj,rfl,fj⟩:=hrel
  have FJ:=hid fj
  clear fj
  by_cases hjl:j<k
  ·have hxj:L[j]? = some L[j]:=List.getElem?_eq_getElem (by omega)
   obtain⟨y,hy'⟩:∃ y,L[j]=y:=⟨_,rfl⟩
   rw[hy'] at hxj
   have hlt2:=HR.out k j y x hjl hxj HX
   obtain⟨go,rfl,hgo,hgol,u0,u1,u2⟩:=eG (O2.fr0 FJ) (k:=j) (x:=y) (by rw[List.getElem?_take,if_pos hjl];exact hxj)
   obtain⟨g',hv',hg',hgl',z0,z1,z2⟩:=eG (HF.fr0 (F2.trans FJ)) HX
   cases hv'
   have HS:=hid (λW (f:Fr [] wr W)=>And.intro (f.cell u0 hgol (by simp)) (And.intro (f.cell u1 hgol (by simp)) (And.intro (f.cell u2 hgol (by simp)) (And.intro (f.cell z0 hgl' (by simp)) (And.intro (f.cell z1 hgl' (by simp)) (f.cell z2 hgl' (by simp)))))))
   have HLs:=hid (λW=>tT y x W hlt2)
   simp only[fcs] at HLs
   have hjk1:(j:Int)<(k:Int):=by omega
   have hjd:decide ((j:Int)<(k:Int))=true:=decide_eq_true hjk1
   clear hy' hxj hlt2
   go_upto_region 7 with fail
   have hS0:=HS.out _ (Fr.refl [] wr).drew
   go_region_held3 (λW=>W.cell? ⟨go,j*3,none⟩=some (.int .i64 y.k)/\W.cell? ⟨go,j*3+1,none⟩=some (.int .i64 y.l)/\W.cell? ⟨go,j*3+2,none⟩=some (.string y.v)/\W.cell? ⟨g,k*3,none⟩=some (.int .i64 x.k)/\W.cell? ⟨g,k*3+1,none⟩=some (.int .i64 x.l)/\W.cell? ⟨g,k*3+2,none⟩=some (.string x.v)) (first|with_reducible exact hS|with_reducible exact hS0|go_keep)
    (first|(go_at_call 262;refine uu (HLs _) λw4 f4'=>?_;have f4:Fr [] wr w4:=(by first|exact(Fr.refl [] wr).drew.trans f4'|exact((Fr.refl [] wr).drewN _).trans f4');have hS:=HS.out w4 f4))
   have F4:=hid (FJ.trans f4)
   clear hS hS0 u0 u1 u2 z0 z1 z2 f4 f4'
   go_wp2_with fail
   go_roundw
   case rel=>exact⟨j+1,by omega,by go_num,F4⟩
   simp[intOf];omega
  obtain rfl:j=k:=by omega
  have hjd:decide ((j:Int)<(j:Int))=false:=decide_eq_false (by omega)
  have O3:=hid (O2.fr0 FJ)
  have F3:=hid (F2.trans FJ)
  go_upto_region 7 with fail
  go_quiet (fail)
  obtain⟨V,hV⟩:∃ V,V=wr.drewN nq:=⟨_,rfl⟩
  have F4:=hid (show Fr [] w V by rw[hV];exact F3.drewN _)
  have O4:=O3.fr0 (show Fr [] wr V by rw[hV];exact rZ.drewN _)
  rw[<-hV]
  clear hV
  have HL1:=hid (show (L.take (j+1)).length=j+1 by simp only[List.length_take];omega)
  have HFL:=hid (show (flat fcs (L.take j)).length=j*3 by rw[gw wq,HLN])
  obtain⟨g',hv',hg',hgl',z0,z1,z2⟩:=eG (HF.fr0 F4) HX
  cases hv'
  have hj4:j+1<=4:=by omega
  unfold dA at O4
  rw[HLN] at O4
  rcases O4 with⟨hv0,hj0,hx0⟩|⟨gr,cr,hgr,hvr,hrow⟩
  ·subst hj0
   cases hv0
   have NN:Own V w.heap.size 209 3 (.slice none 0 0) 0 (flat fcs (L.take 0)):=Own.nil _ _ _ _
   have FN:Fr [] V V:=rZ
   go_wp2_with (at_builtin;first
    | (refine af rfl (.tmp 41) (.tmp 46) 166 rfl i5 _ 32 underlying166 hi hz0 hz1 hz2 rfl (by decide) _ _ rfl (Own.fr0 NN (rZ.alloc _)).sl _ 1 1 (fcs x) rfl rfl (Cells.bO (aE (t:=209) (cs:=(fcs x).toArray) (by simp))) (ja x) (by unfold maxLen;omega) (by omega) ?_;intro v5 w5 own5 hs5 hf5 ho5 hm5;obtain⟨o5,g5⟩:=jM NN HLN.symm (Nat.le_trans F4.size FN.size) (rZ.alloc _) hs5 ho5 (hm5 (by omega)) hf5;have f5:=g5 w (Nat.le_refl _) (F4.trans FN);rw[<-HTk] at o5;obtain⟨a5,c5,hv5⟩:=o5.form;rw[HL1] at hv5;subst hv5;have NM:=qm o5 HL1)
    | (refine af rfl (.tmp 48) (.tmp 51) 166 rfl i5 _ 32 underlying166 hi hz0 hz1 hz2 rfl (by decide) _ _ rfl NM.sl _ 0 _ [] rfl rfl (Cells.nil _) (by simp) (by unfold maxLen;omega) (by omega) ?_;intro v6 w6 own6 hs6 hf6 ho6 hm6;have o6:=rj NM f5 HL1 (Nat.succ_pos _) hs6 ho6 hf6))
   have O6:=hid o6
   clear o6 hs6 hf6 ho6 hm6 hs5 hf5 ho5 hm5 z0 z1 z2
   go_wp2_with fail
   go_roundw
   case rel=>exact⟨_,hlt,by go_num,O6.1,O6.2⟩
   simp[intOf];omega
  have hle:=hrow.le
  have hle':(j:Int)<=(cr:Int):=by omega
  have hcells:Cells V (some ⟨gr,0,none⟩) (flat fcs (L.take j)):=iz hgr hrow
  cases hvr
  go_wp2_with (at_builtin;first
   | (refine Ev.dR w.heap.size rfl (.tmp 36) (.tmp 39) 166 rfl i5 _ 32 underlying166 hi hz0 hz1 hz2 rfl (by decide) rfl _ j _ (flat fcs (L.take j)) rfl HFL hcells (cm ja _) (by unfold maxLen;omega) (by omega) F4.size ?_;intro v3 w3 NN FN;obtain⟨a3,c3,hv3⟩:=Own.form NN;subst hv3;have z0:=FN.cell z0 hgl' (by simp);have z1:=FN.cell z1 hgl' (by simp);have z2:=FN.cell z2 hgl' (by simp);have hgl':=Nat.lt_of_lt_of_le hgl' FN.size)
   | (refine af rfl (.tmp 41) (.tmp 46) 166 rfl i5 _ 32 underlying166 hi hz0 hz1 hz2 rfl (by decide) _ _ rfl (Own.fr0 NN (rZ.alloc _)).sl _ 1 1 (fcs x) rfl rfl (Cells.bO (aE (t:=209) (cs:=(fcs x).toArray) (by simp))) (ja x) (by unfold maxLen;omega) (by omega) ?_;intro v5 w5 own5 hs5 hf5 ho5 hm5;obtain⟨o5,g5⟩:=jM NN HLN.symm (Nat.le_trans F4.size FN.size) (rZ.alloc _) hs5 ho5 (hm5 (by omega)) hf5;have f5:=g5 w (Nat.le_refl _) (F4.trans FN);rw[<-HTk] at o5;obtain⟨a5,c5,hv5⟩:=o5.form;rw[HL1] at hv5;subst hv5;have NM:=qm o5 HL1)
   | (refine af rfl (.tmp 48) (.tmp 51) 166 rfl i5 _ 32 underlying166 hi hz0 hz1 hz2 rfl (by decide) _ _ rfl NM.sl _ 0 _ [] rfl rfl (Cells.nil _) (by simp) (by unfold maxLen;omega) (by omega) ?_;intro v6 w6 own6 hs6 hf6 ho6 hm6;have o6:=rj NM f5 HL1 (Nat.succ_pos _) hs6 ho6 hf6))
  have O6:=hid o6
  clear o6 hs6 hf6 ho6 hm6 hs5 hf5 ho5 hm5 z0 z1 z2
  go_wp2_with fail
  go_roundw
  case rel=>exact⟨_,hlt,by go_num,O6.1,O6.2⟩
  simp[intOf];omega
 obtain rfl:k=L.length:=by omega
 have ht:L.take L.length=L:=List.take_of_length_le (Nat.le_refl _)
 rw[ht] at HO
 clear fr ht
 go_wp2_with fail
 go_ret
 exact⟨_,rfl,HO,FR⟩
open Go.RowKit Fm Ct Fd
theorem de (L:List F)(w:World)(B:Nat)(v:Value)(h:dG L)(hv:∀ f,f∈L->ku f)(hf:dA w B v L) :
  Calls prog 186 #[v] w λe w'=>∃ v',e = .returned (.tuple #[v',.int .i64 0])/\dA w' w.heap.size v' L/\Fr [] w w':=by
 obtain⟨i5,hi,hz0,hz1,hz2⟩:=info_parts sx
 have h4:=h.n4
 have h1:=h.n1
 obtain⟨a,c,rfl⟩:=hf.form
 have HF:=hid hf
 have HC:=hid (λW f (hm:f∈L)=>iN f W (h.fN f hm) (hv f hm))
 have HK:=hid (λf (hm:f∈L)=>And.intro (h.fN f hm).k1 (h.fN f hm).k6)
 have HT:=hid (λW v (hf:dA W w.heap.size v L)=>oZ L W w.heap.size v h hv hf)
 have HTS:=hid (dB L h.fN)
 have HR:=hid h.Eo
 have HN:=hid (And.intro h.c1 (And.intro h.c2 h.c5))
 clear hf h hv
 go_enter func186,ntmps186
 go_wp2_with fail
 go_loopw [4,5] (λo i wr=>∃ k:Nat,k<=L.length/\i = .int .i64 k/\dA wr w.heap.size o (L.take k)/\Fr [] w wr) (λ_ i _=>L.length - (intOf i).toNat)
 case atStart=>exact⟨0,Nat.zero_le _,rfl,Own.nil _ _ _ _,rZ⟩
 obtain⟨k,hk,rfl,ho,fr⟩:=hrel
 have HO:=hid ho
 obtain⟨oa,oc,hoe⟩:=ho.form
 have hln:(L.take k).length=k:=by simp only[List.length_take];omega
 rw[hln] at hoe
 subst hoe
 clear ho
 have FR:=hid fr
 by_cases hlt:k<L.length
 ·have hx:L[k]? = some L[k]:=List.getElem?_eq_getElem hlt
  have hm:L[k]∈L:=List.getElem_mem hlt
  have HTk:=hid (fX hlt)
  obtain⟨x,hx'⟩:∃ x,L[k]=x:=⟨_,rfl⟩
  rw[hx'] at hx hm HTk
  obtain⟨g,rfl,hg,hgl,z0,z1,z2⟩:=eG (HF.fr0 fr) hx
  have hk1:(k:Int)<(L.length:Int):=by omega
  have HCx:=hid (λW=>HC W x hm)
  clear hx hm hx' fr
  simp only[fcs] at HCx
  go_wp2_with fail
  refine uu (HCx _) λw2 f2=>?_
  have F2:=hid f2
  clear f2 z0 z1 z2
  have hln4:k+1<=4:=by omega
  have OO:=qm (HO.fr0 F2) hln
  go_wp2_with (at_builtin;(refine af rfl (.tmp 27) (.tmp 29) 166 rfl i5 _ 32 underlying166 hi hz0 hz1 hz2 rfl (by decide) _ _ rfl (Own.fr0 OO ((rZ.alloc _).alloc _)).sl _ 1 1 (fcs x) rfl rfl (Cells.bO (aE (t:=209) (cs:=(fcs x).toArray) (by simp))) (ja x) (by unfold maxLen;omega) (by omega) ?_;intro v5 w5 own5 hs5 hf5 ho5 hm5;obtain⟨o5,g5⟩:=jM OO hln.symm (Nat.le_trans FR.size F2.size) ((rZ.alloc _).alloc _) hs5 ho5 (hm5 (by omega)) hf5))
  have F5:=hid (g5 w (Nat.le_refl _) (FR.trans F2))
  rw[<-HTk] at o5
  have O5:=hid o5
  clear hs5 hf5 ho5 hm5 o5 g5
  go_wp2_with fail
  go_roundw
  case rel=>exact⟨k+1,by omega,by go_num,O5,F5⟩
  simp[intOf];omega
 obtain rfl:k=L.length:=by omega
 have ht:L.take L.length=L:=List.take_of_length_le (Nat.le_refl _)
 rw[ht] at HO
 clear ht hlt hln fr
 go_wp2_with fail
 refine(ny L wr w.heap.size _ HR h4 HO).mono ?_
 rintro e w4 ⟨v',rfl,o4,f4⟩
 obtain⟨ra,rc,rfl⟩:=o4.form
 have O4:=hid (show dA w4 w.heap.size (.slice ra L.length rc) L from by
  have:=FR.size
  rcases o4 with h|⟨g,c,hg,h1,h2⟩
  ·exact .inl h
  exact .inr ⟨g,c,Nat.le_trans this hg,h1,h2⟩)
 have F4:=hid (FR.trans f4)
 have hd12:decide ((L.length:Int) > 12)=false:=decide_eq_false (by omega)
 clear f4 o4
 have b0:=hid (show Holds (w4.alloc (.cells #[.int .i64 0,.int .i64 0,.int .i64 0,.int .i64 0,.int .i64 0,.int .i64 0,.int .i64 0] 327)) w4.heap.size 327 (sO (L.take 0)) from Holds.new _ _ _)
 go_wp2_with fail
 go_loopw [9] (λi wr=>∃ k:Nat,k<=L.length/\i = .int .i64 k/\Holds wr w4.heap.size 327 (sO (L.take k))/\Fr [] w4 wr) (λi _=>L.length - (intOf i).toNat)
 case atStart=>exact⟨0,Nat.zero_le _,rfl,b0,rZ.alloc _⟩
 obtain⟨k,hk,rfl,hm,fm⟩:=hrel
 have HM:=hid hm
 have FM:=hid fm
 clear b0
 by_cases hlt:k<L.length
 ·have hx:L[k]? = some L[k]:=List.getElem?_eq_getElem hlt
  have hmm:L[k]∈L:=List.getElem_mem hlt
  have HTk:=hid (fX hlt)
  obtain⟨x,hx'⟩:∃ x,L[k]=x:=⟨_,rfl⟩
  rw[hx'] at hx hmm HTk
  obtain⟨g,rfl,hg,hgl,z0,z1,z2⟩:=eG (O4.fr0 fm) hx
  have hk1:(k:Int)<(L.length:Int):=by omega
  have hkk:=HK.out x hmm
  have q:=eM hkk.2 hm
  have yq:=hm.frozen x.k
  have ql:=hm.lt
  have hc4:=qz (L.take k) x.k
  have hln:(L.take k).length=k:=by simp only[List.length_take];omega
  have hw:IntKind.i64.wrap ((cnt (L.take k) x.k:Int)+1)=(cnt (L.take k) x.k:Int)+1:=IntWalk.i64_in _ (by omega)
  have HSN:=hid (pj (L.take k) x hkk.1 hkk.2 hm)
  rw[<-HTk] at HSN
  have hk7:(x.k:Int)<7:=by omega
  have hk70:x.k<7:=by omega
  obtain⟨n,hn⟩:∃ n,cnt (L.take k) x.k=n:=⟨_,rfl⟩
  rw[hn] at q hw HSN
  clear hx hmm hx' fm hm hc4 hln hkk hn
  go_wp2_with fail
  go_roundw
  case rel=>exact⟨k+1,by omega,by go_num,HSN,Ev.Fr.aw FM (Nat.le_refl _) _⟩
  simp[intOf];omega
 obtain rfl:k=L.length:=by omega
 have ht:L.take L.length=L:=List.take_of_length_le (Nat.le_refl _)
 rw[ht] at HM
 have q1:=eM (k:=1) (by omega) HM
 have q2:=eM (k:=2) (by omega) HM
 have q5:=eM (k:=5) (by omega) HM
 have ql:=HM.lt
 rw[HN.1] at q1
 have hn2:=HN.2.1
 have hn5:=HN.2.2
 have e2:decide ((cnt L 2:Int) > 1)=false:=decide_eq_false (by omega)
 have e5:decide ((cnt L 5:Int) > 1)=false:=decide_eq_false (by omega)
 have hts:=HTS.out
 have e9:decide (((aJ L).size:Int) > 900)=false:=decide_eq_false (by omega)
 have HTx:=hid (HT wr _ (O4.fr0 FM))
 clear ht hlt hm hn2 hn5 hts fm
 go_wp2_with fail
 refine uu HTx λw6 f6=>?_
 clear q1 q2 q5 ql
 go_wp2_with fail
 go_ret2
 exact⟨_,rfl,(O4.fr0 FM).fr0 f6,(F4.trans FM).trans f6⟩
theorem aN (L:List F)(w:World)(B:Nat)(v:Value)(h:dG L)(hv:∀ f,f∈L->ku f)(hf:dA w B v L) :
  cA 127 #[v] w (.tuple #[.string (aJ L),.int .i64 0]):=by
 have HC:=hid (de L w B v h hv hf)
 have HT:=hid (λW v (hf:dA W w.heap.size v L)=>oZ L W w.heap.size v h hv hf)
 obtain⟨a,c,rfl⟩:=hf.form
 clear hf h hv
 go_enter func127,ntmps127
 go_wp2_with fail
 refine HC.mono ?_
 rintro e w2 ⟨v',rfl,r2,f2⟩
 have HT2:=hid (HT w2 v' r2)
 obtain⟨a',c',rfl⟩:=r2.form
 clear r2
 go_wp2_with fail
 refine uu HT2 λw3 f3=>?_
 go_wp2_with fail
 go_ret2
 exact⟨rfl,f2.trans f3⟩
def off (L:List F)(k:Nat):Nat:=(aJ (L.take k)).size
theorem EU {L:List F}{k:Nat}(h:k<L.length):off L (k+1)=off L k+(aL L[k]).size+1:=by
 unfold off
 rw[fX h,js]
 have:(aJ (L.take k)++rowOf L[k]).data.toList.length=(aJ (L.take k)).data.toList.length+(aL L[k]).data.toList.length+1:=by simp[rowOf];omega
 simpa using this
theorem j9 {L:List F}{k:Nat}(h:k<L.length):(aJ L).data.toList=(aJ (L.take k)).data.toList++((aL L[k]).data.toList++10::(aJ (L.drop (k+1))).data.toList):=by
 conv=>lhs;rw[<-List.take_append_drop k L]
 rw[eJ,List.flatMap_append,<-eJ,<-eJ]
 congr 1
 rw[List.drop_eq_getElem_cons h,jt]
theorem Bi {L:List F}{k:Nat}(h:k<L.length):(aJ L).extract (off L k) (off L k+(aL L[k]).size)=aL L[k]:=by
 apply gC
 have h1:(aJ (L.take k)).data.toList.length=off L k:=by simp[off]
 have h2:(aL L[k]).data.toList.length=(aL L[k]).size:=by simp
 rw[bJ,j9 h,<-h1,<-h2,List.take_length_add_append,List.drop_left,List.take_left]
theorem byte_at {L:List F}{k j:Nat}(h:k<L.length)(hf:iu L[k])(hj:j<=(aL L[k]).size)(hlt:off L k+j<(aJ L).size):(aJ L)[off L k+j]=10 ↔ j=(aL L[k]).size:=by
 have h1:(aJ (L.take k)).data.toList.length=off L k:=by simp[off]
 have h2:(aL L[k]).data.toList.length=(aL L[k]).size:=by simp
 have e:=eX hlt
 rw[j9 h,List.getElem?_append_right (by omega),h1,show off L k+j - off L k=j by omega] at e
 rcases Nat.lt_or_ge j (aL L[k]).size with hl|hl
 ·rw[List.getElem?_append_left (by omega)] at e
  constructor
  ·intro h10
   rw[h10] at e
   exact absurd (List.mem_of_getElem? e) hf.line
  omega
 have hje:j=(aL L[k]).size:=by omega
 rw[List.getElem?_append_right (by omega),h2,show j - (aL L[k]).size=0 by omega] at e
 simp at e
 exact⟨λ_=>hje,λ_=>e.symm⟩
theorem xX (L:List F)(w:World)(h:dG L)(hv:∀ f,f∈L->ku f) :
  Calls prog 97 #[.string (aJ L)] w λe w'=>∃ vl,e = .returned (.tuple #[vl,.int .i64 0])/\Fr [] w w':=by
 obtain⟨i5,hi,hz0,hz1,hz2⟩:=info_parts sx
 have h4:=h.n4
 have hts:=dB L h.fN
 have HP:=hid (λW f (hm:f∈L)=>lI f W (h.fN f hm) (hv f hm))
 have HT:=hid (λW v (hf:dA W w.heap.size v L)=>aN L W w.heap.size v h hv hf)
 have HAt:=hid (λk j (hk:k<L.length) (hj:j<=(aL L[k]).size) (hlt:off L k+j<(aJ L).size)=>byte_at hk (h.fN _ (List.getElem_mem hk)) hj hlt)
 have HX:=hid (λk (hk:k<L.length)=>Bi hk)
 have HO1:=hid (λk (hk:k<L.length)=>EU (L:=L) hk)
 have HO2:=hid (λk (hk:k<L.length)=>show off L k+(aL L[k]).size+1<=(aJ L).size from by
  have e:=congrArg List.length (j9 hk)
  simp[off] at e ⊢
  omega)
 have HOe:=hid (show off L L.length=(aJ L).size by unfold off;rw[List.take_of_length_le (Nat.le_refl _)])
 have HOs:=hid (show off L 0=0 from rfl)
 have e9:decide (((aJ L).size:Int) > 900)=false:=decide_eq_false (by omega)
 obtain⟨s,hs⟩:∃ s,aJ L=s:=⟨_,rfl⟩
 rw[hs] at HT e9 hts HAt HX HO2 HOe ⊢
 have hs300:s.size<=300:=by omega
 clear h hv hs hts
 go_enter func97,ntmps97
 go_wp2_with fail
 go_loopw [4,5,6] (λo fm i wr=>∃ k j:Nat,k<=L.length/\i = .int .i64 (off L k+j:Nat)/\fm = .int .i64 (off L k:Nat)/\(∀ (hk:k<L.length),j<=(aL L[k]).size)/\(k=L.length->j=0)/\dA wr w.heap.size o (L.take k)/\Fr [] w wr) (λ_ _ i _=>s.size - (intOf i).toNat)
 case atStart=>exact⟨0,0,Nat.zero_le _,by rw[HOs];rfl,by rw[HOs];rfl,λ_=>Nat.zero_le _,λ_=>rfl,Own.nil _ _ _ _,rZ⟩
 obtain⟨k,j,hk,rfl,rfl,hj,hje,ho,fr⟩:=hrel
 have HO:=hid ho
 have hln:(L.take k).length=k:=by simp only[List.length_take];omega
 obtain⟨oa,oc,hoe⟩:=ho.form
 rw[hln] at hoe
 subst hoe
 clear ho
 have FR:=hid fr
 by_cases hlt:k<L.length
 ·have hj1:=hj hlt
  have h2:=HO2.out k hlt
  have h1:=HO1.out k hlt
  have hx:=HX.out k hlt
  have hm:L[k]∈L:=List.getElem_mem hlt
  have HTk:=hid (fX hlt)
  have hlt2:off L k+j<s.size:=by omega
  have hat:=HAt.out k j hlt hj1 hlt2
  obtain⟨x,hx'⟩:∃ x,L[k]=x:=⟨_,rfl⟩
  rw[hx'] at hj1 h2 h1 hx hm HTk hat
  have HX':=hid hx'
  obtain⟨n,hn⟩:∃ n,(aL x).size=n:=⟨_,rfl⟩
  rw[hn] at hj1 h2 h1 hx hat
  have HNn:=hid hn
  obtain⟨O,hO⟩:∃ O,off L k=O:=⟨_,rfl⟩
  have HOO:=hid hO
  simp only[hO] at h2 h1 hx hat hlt2 ⊢
  have HH1:=hid h1
  have HHx:=hid hx
  clear hj hje fr h1 hx hx' hn
  have hi1:((O+j:Nat):Int)<(s.size:Int):=by omega
  by_cases hjn:j=n
  ·subst hjn
   have h10:s[O+j]=10:=hat.2 rfl
   have d2:((s[O+j].toNat:Int) != 10)=false:=by rw[h10];rfl
   have hle1:O<=O+j:=Nat.le_add_right _ _
   have hle2:O+j<=s.size:=by omega
   have HPx:=hid (λW=>HP W x hm)
   clear hat h10 hm
   have hle3:(O:Int)<=(O:Int)+(j:Int):=by omega
   have hle4:(O:Int)+(j:Int)<=(s.size:Int):=by omega
   go_wp2_with fail
   rw[HHx]
   refine uu (HPx _) λw3 f3=>?_
   have F3:=hid f3
   have hln4:k+1<=4:=by omega
   have OO:=qm (HO.fr0 f3) hln
   clear f3
   go_wp2_with (at_builtin;(refine af rfl (.tmp 34) (.tmp 36) 166 rfl i5 _ 32 underlying166 hi hz0 hz1 hz2 rfl (by decide) _ _ rfl (Own.fr0 OO ((rZ.alloc _).alloc _)).sl _ 1 1 (fcs x) rfl rfl (Cells.bO (aE (t:=209) (cs:=(fcs x).toArray) (by simp))) (ja x) (by unfold maxLen;omega) (by omega) ?_;intro v5 w5 own5 hs5 hf5 ho5 hm5;obtain⟨o5,g5⟩:=jM OO hln.symm (Nat.le_trans FR.size F3.size) ((rZ.alloc _).alloc _) hs5 ho5 (hm5 (by omega)) hf5))
   have F5:=hid (g5 w (Nat.le_refl _) (FR.trans F3))
   rw[<-HTk] at o5
   have O5:=hid o5
   clear hs5 hf5 ho5 hm5 o5 g5
   go_wp2_with fail
   go_roundw
   case rel =>
    have h1:=HH1.out
    exact⟨k+1,0,by omega,by rw[h1];go_num,by rw[h1];go_num,λ_=>Nat.zero_le _,λ_=>rfl,O5,F5⟩
   simp[intOf];omega
  have hne:s[O+j]≠10:=λe=>hjn (hat.1 e)
  have d2:((s[O+j].toNat:Int) != 10)=true:=by
   have:¬ ((s[O+j].toNat:Int)=10):=λe=>hne (UInt8.toNat_inj.1 (show s[O+j].toNat=(10:UInt8).toNat from by
    have h:s[O+j].toNat=10:=by omega
    exact h))
   simpa using this
  clear hat hne hm
  go_wp2_with fail
  go_roundw
  case rel=>exact⟨k,j+1,hk,by rw[HOO];go_num,by rw[HOO],λhk2=>by rw[HX'.out,HNn];omega,λe=>by omega,HO,FR⟩
  simp[intOf];omega
 obtain rfl:k=L.length:=by omega
 have hj0:=hje rfl
 subst hj0
 have ht:L.take L.length=L:=List.take_of_length_le (Nat.le_refl _)
 rw[ht] at HO
 have hoe:=HOe.out
 rw[Nat.add_zero,hoe]
 have HTx:=hid (HT wr _ HO)
 clear ht hlt fr hj hje hoe
 go_wp2_with fail
 refine uu HTx λw6 f6=>?_
 go_wp2_with fail
 go_ret2
 exact⟨_,rfl,FR.trans f6⟩
theorem CV (L:List F)(w:World)(h:dG L)(hv:∀ f,f∈L->ku f) :
  cA 62 #[.string (aJ L)] w (.bool true):=by
 have HP:=hid (xX L w h hv)
 generalize aJ L=s at *
 go_enter func62,ntmps62
 go_wp2_with fail
 refine HP.mono ?_
 rintro e w2 ⟨vl,rfl,f2⟩
 go_wp2_with fail
 go_ret
 exact⟨rfl,f2⟩
theorem Gn : wH (M.bs "example.org") := ⟨by decide +kernel, by decide +kernel, by decide +kernel, by decide +kernel⟩
theorem Gm : wH (M.bs "coop.example.org") := ⟨by decide +kernel, by decide +kernel, by decide +kernel, by decide +kernel⟩
def atB (s:ByteArray):Bool:=(List.range s.size).all λk=>(s.data.toList[k]?==some 64)==(k==2)
theorem s9 {s:ByteArray}(h:atB s=true)(k:Nat)(hk:k<s.size):s[k]=64 ↔ k=2:=by
 have:=List.all_eq_true.1 h k (List.mem_range.2 hk)
 rw[eX hk] at this
 have e:(s[k]==64)=(k==2):=by simpa using this
 constructor
 ·intro h
  have h2:(k==2)=true:=by rw[<-e,h];rfl
  simpa using h2
 intro h
 have h2:(s[k]==64)=true:=by rw[e,h];rfl
 exact eq_of_beq h2
theorem CU : mB (M.bs "cy@example.org") (M.bs "cy") (M.bs "example.org") [M.bs "example", M.bs "org"] := ⟨Bc, s9 (by decide +kernel), Gn⟩
theorem CT : mB (M.bs "ed@coop.example.org") (M.bs "ed") (M.bs "coop.example.org") [M.bs "coop", M.bs "example", M.bs "org"] := ⟨Bb, s9 (by decide +kernel), Gm⟩
theorem oL (l:Nat)(v:ByteArray)(h:rY v=true):ku ⟨1,l,v⟩:=.clean 1 l v (.inl rfl) (eT h)
theorem rH {s : ByteArray} (h : (M.jf s || decide (s = M.bs "name:Bob\n")) = true) : ∃ L, dG L /\ (∀ f, f ∈ L -> ku f) /\ s = aJ L := by
 simp only[M.jf,M.kq,List.any_cons,List.any_nil,Bool.or_eq_true,decide_eq_true_eq,Bool.or_false] at h
 rcases h with(h|h|h|h|h)|h
 ·refine⟨fA,FU,λf hf=>?_,by rw[h];decide +kernel⟩
  simp only[fA,List.mem_cons,List.not_mem_nil,or_false] at hf
  subst hf
  exact oL _ _ (by decide +kernel)
 ·refine⟨fB,FT,λf hf=>?_,by rw[h];decide +kernel⟩
  simp only[fB,List.mem_cons,List.not_mem_nil,or_false] at hf
  rcases hf with rfl|rfl
  ·exact oL _ _ (by decide +kernel)
  exact .tel _ _ (M.bs "4930123456") (pH (by decide +kernel))
 ·refine⟨fC,FQ,λf hf=>?_,by rw[h];decide +kernel⟩
  simp only[fC,List.mem_cons,List.not_mem_nil,or_false] at hf
  rcases hf with rfl|rfl
  ·exact oL _ _ (by decide +kernel)
  exact .mail _ _ _ _ _ CU
 ·refine⟨fD,FP,λf hf=>?_,by rw[h];decide +kernel⟩
  simp only[fD,List.mem_cons,List.not_mem_nil,or_false] at hf
  rcases hf with rfl|rfl|rfl
  ·exact oL _ _ (by decide +kernel)
  ·exact .day _ _ (eT (by decide +kernel)) ⟨rfl⟩
  exact .clean 6 _ _ (by omega) (eT (by decide +kernel))
 ·refine⟨fE,FL,λf hf=>?_,by rw[h];decide +kernel⟩
  simp only[fE,List.mem_cons,List.not_mem_nil,or_false] at hf
  rcases hf with rfl|rfl|rfl|rfl
  ·exact oL _ _ (by decide +kernel)
  ·exact .clean 2 _ _ (by omega) (eT (by decide +kernel))
  ·exact .tel _ _ (M.bs "01601234567") (pH (by decide +kernel))
  exact .mail _ _ _ _ _ CT
 refine⟨fO,FK,λf hf=>?_,by rw[h];decide +kernel⟩
 simp only[fO,List.mem_cons,List.not_mem_nil,or_false] at hf
 subst hf
 exact oL _ _ (by decide +kernel)
theorem cz (s : ByteArray) (w : World) (h : (M.jf s || decide (s = M.bs "name:Bob\n")) = true) :
  cA 62 #[.string s] w (.bool true):=by
 obtain⟨L,hL,hv,rfl⟩:=rH h
 exact CV L w hL hv
end Rf
namespace Rq
open Go.RowKit
abbrev em:ByteArray:=⟨#[]⟩
abbrev j6 (s : ByteArray) : Prop := (M.jf s || decide (s = M.bs "name:Bob\n")) = true
structure kv (o:M.Op):Prop where
 uid:M.gB o.uid=true
 u4:o.uid.size<=4
 cond:M.aY o.ck o.cv=true
 cv:o.cv<=247
 au:if o.del then o.au=em else j6 o.au
theorem mo {o:M.Op}(h:M.Di o=true):kv o:=by
 simp only[M.Di,Bool.and_eq_true,decide_eq_true_eq] at h
 obtain⟨⟨⟨⟨h1,h0⟩,h2⟩,h3⟩,h4⟩:=h
 refine⟨h1,h0,h2,h3,?_⟩
 cases hd:o.del with
 | true=>simpa[hd] using h4
 | false=>simpa[hd,j6] using h4
inductive Sh:Int->ByteArray->ByteArray->ByteArray->ByteArray->Int->Int->Nat->Int->Int->Int->Prop
 | eh : Sh 1 (M.bs "ann") em em em 0 0 0 0 0 0
 | create:Sh 2 em M.home em em 0 0 0 0 0 0
 | put (u c:ByteArray) (ck cv:Int) (hu:M.gB u=true) (hz:u.size<=4) (hc:j6 c) (hk:M.aY ck cv=true) (hv:cv<=247):Sh 4 em M.home u c ck cv 0 0 0 0
 | get (u:ByteArray) (hu:M.gB u=true):Sh 6 em M.home u em 0 0 0 0 0 0
 | batch (n:Nat) (h1:1<=n) (h2:n<=2):Sh 7 em M.home em em 0 0 n 0 0 0
 | delta (t m:Int) (h1:0<=t) (h2:t<=1099511627791) (h3:1<=m) (h4:m<=247):Sh 8 em M.home em em 0 0 0 t m 0
 | wait (t k:Int) (h1:0<=t) (h2:t<=247) (h3:0<=k) (h4:k<=247):Sh 9 em M.home em em 0 0 0 t 0 k
theorem iy {q:M.Req}(h:M.bF q=true):Sh q.kind q.aR q.col q.uid q.au q.ck q.cv q.ops.length q.token q.aD q.bj/\∀ o,o∈q.ops->kv o:=by
 unfold M.bF at h
 split at h
 ·have e:=of_decide_eq_true h
  rw[e];exact⟨.eh,by simp⟩
 split at h
 ·have e:=of_decide_eq_true h
  rw[e];exact⟨.create,by simp⟩
 split at h
 ·simp only[Bool.and_eq_true,decide_eq_true_eq] at h
  obtain⟨e,ho⟩:=h
  have o:=mo ho
  rw[e]
  exact⟨.put _ _ _ _ o.uid o.u4 (by simpa using o.au) o.cond o.cv,by simp⟩
 split at h
 ·simp only[Bool.and_eq_true,decide_eq_true_eq] at h
  obtain⟨e,hu⟩:=h
  rw[e]
  exact⟨.get _ hu,by simp⟩
 split at h
 ·simp only[Bool.and_eq_true,decide_eq_true_eq,List.all_eq_true] at h
  obtain⟨⟨e,h1,h2⟩,ho⟩:=h
  have ho':∀ o,o∈q.ops->kv o:=λo hm=>mo (ho o hm)
  generalize q.ops=l at *
  rw[e]
  exact⟨.batch _ h1 h2,ho'⟩
 split at h
 ·simp only[Bool.and_eq_true,decide_eq_true_eq] at h
  obtain⟨e,h1,h2,h3,h4⟩:=h
  rw[e]
  exact⟨.delta _ _ h1 h2 h3 h4,by simp⟩
 simp only[Bool.and_eq_true,decide_eq_true_eq] at h
 obtain⟨e,h1,h2,h3,h4⟩:=h
 rw[e]
 exact⟨.wait _ _ h1 h2 h3 h4,by simp⟩
abbrev rqv (k:Int)(t c u d:ByteArray)(ck cv:Int)(v:Value)(tk ms tc:Int):List Value:=[.int .i64 k,.string t,.string c,.string u,.string d,.int .i64 ck,.int .i64 cv,v,.int .i64 tk,.int .i64 ms,.int .i64 tc]
def mG (k:Int):List Bool :=
 if k=1 then [true,false,false,false,false,false,false,false,false]
 else if k=2 then [false,true,false,false,false,false,false,false,false]
 else if k=3 then [false,true,false,false,false,false,false,false,false]
 else if k=4 then [false,true,true,true,true,false,false,false,false]
 else if k=5 then [false,true,true,false,true,false,false,false,false]
 else if k=6 then [false,true,true,false,false,false,false,false,false]
 else if k=7 then [false,true,false,false,false,true,false,false,false]
 else if k=8 then [false,true,false,false,false,false,true,true,false]
 else if k=9 then [false,true,false,false,false,false,true,false,true]
 else [false,false,false,false,false,false,false,false,false]
def flC (k:Int):List Value:=(mG k).map Value.bool
theorem cz (w:World)(k:Int)(h0:1<=k)(h1:k<=10):Calls prog 135 #[.int .i64 k] w λe w'=>e = .returned (.bool true)/\w=w':=by
 have d1:decide (k >= 1)=true:=decide_eq_true h0
 have d2:decide (k<=11)=true:=decide_eq_true (by omega)
 go_enter func135,ntmps135
 go_wp2_with fail
 go_ret
 exact⟨rfl,rfl⟩
theorem tU (W:World)(tmps:Array Value)(g:Nat)(a b c d e f i j l:Value)(hp:Holds W g 220 #[a,b,c,d,e,f,i,j,l])(h2:tmps[2]?.getD undef = .pointer (some ⟨g,0,none⟩)) :
  (results f136 tmps).run prog W = .ok (.agg #[a,b,c,d,e,f,i,j,l]) W:=by
 have hr:f136.results=#[.cell 2 220]:=rfl
 obtain⟨q0,q1,q2,q3,q4,q5,q6,q7,q8⟩:=hp.cs9
 simp at q0 q1 q2 q3 q4 q5 q6 q7 q8
 simp[results,h2,go_sem,q0,q1,q2,q3,q4,q5,q6,q7,q8]
theorem de (w:World)(k:Int)(h0:1<=k)(h1:k<=10):cA 136 #[.int .i64 k] w (.agg (flC k).toArray):=by
 obtain rfl|rfl|rfl|rfl|rfl|rfl|rfl|rfl|rfl|rfl:k=1∨k=2∨k=3∨k=4∨k=5∨k=6∨k=7∨k=8∨k=9∨k=10:=by omega
 all_goals
  go_enter func136,ntmps136
  go_wp2_with fail
  exact bodyPost_ret (tU _ _ w.heap.size _ _ _ _ _ _ _ _ _ (Holds.new w _ _) rfl) rfl ⟨rfl,rZ.alloc _⟩
open Go.RowKit
theorem gR {w:World}{B:Nat}{a:Option Addr}{cap n:Nat}{l:List M.Op}(h:Own w B 43 5 (.slice a n cap) n (flat Lp.cs l))(hn:n=l.length){k:Nat}{x:M.Op}(hx:l[k]? = some x) :
  ∃ g,a=some ⟨g,0,none⟩/\g<w.heap.size/\w.cell? ⟨g,k*5,none⟩=some (.bool x.del)/\w.cell? ⟨g,k*5+1,none⟩=some (.string x.uid)/\w.cell? ⟨g,k*5+2,none⟩=some (.string x.au)/\w.cell? ⟨g,k*5+3,none⟩=some (.int .i64 x.ck)/\w.cell? ⟨g,k*5+4,none⟩=some (.int .i64 x.cv):=by
 obtain⟨g,c,hg,hv,hr,hgl,hcell⟩:=h.cell Lp.bh hn hx
 cases hv
 exact⟨g,rfl,hgl,hcell 0 _ (by omega) rfl,hcell 1 _ (by omega) rfl,hcell 2 _ (by omega) rfl,hcell 3 _ (by omega) rfl,hcell 4 _ (by omega) rfl⟩
abbrev Ops (w:World)(B:Nat)(a:Option Addr)(n cap:Nat)(l:List M.Op):Prop:=Own w B 43 5 (.slice a n cap) n (flat Lp.cs l)
theorem wT (w:World)(B n cap:Nat)(k:Int)(t c u d:ByteArray)(ck cv tk ms tc:Int)(a:Option Addr)(l:List M.Op)(hs:Sh k t c u d ck cv n tk ms tc)(ho:Ops w B a n cap l)(hn:n=l.length)(hop:∀ o,o∈l->kv o) :
  cA 146 #[.agg (rqv k t c u d ck cv (.slice a n cap) tk ms tc).toArray,.agg (flC k).toArray] w (.bool false):=by
 have f0:Fr [] w ((w.alloc (.cells (rqv k t c u d ck cv (.slice a n cap) tk ms tc).toArray 37)).alloc (.cells (flC k).toArray 220)):=(rZ.alloc _).alloc _
 have HO:=hid ho
 have HP:=hid hop
 have HN:=hid hn
 clear ho hop
 have hn8:(n:Int)<=8/\(k=7∨n=0):=by cases hs<;>simp<;>omega
 have hn8':=hn8.1
 clear hn8 f0
 cases hs
 all_goals
  clear hn
  simp only[flC,mG,Int.reduceEq,if_true,if_false,List.map]
  go_enter func146,ntmps146
  go_wp2_with fail
  go_loopw [98] (λi wr=>∃ k:Nat,i = .int .i64 k/\k<=l.length/\Fr [] w wr) (λi _=>l.length - (intOf i).toNat)
  case atStart=>exact⟨0,rfl,Nat.zero_le _,(rZ.alloc _).alloc _⟩
  obtain⟨k,rfl,hk,fr⟩:=hrel
  by_cases hlt:k<l.length
  ·have hx:l[k]? = some l[k]:=List.getElem?_eq_getElem hlt
   obtain⟨x,hx'⟩:∃ x,l[k]=x:=⟨_,rfl⟩
   rw[hx'] at hx
   have okx:=HP.out x (List.mem_of_getElem? hx)
   obtain⟨g,rfl,hgl,z0,z1,z2,z3,z4⟩:=gR (HO.fr0 fr) HN hx
   have hN:=HN.out
   have hcard:=okx.au
   clear hx hx' okx HP
   first
    | (exfalso;omega)
    | (have hk1:(k:Int)<(n:Int):=by omega
       clear hN
       cases hd:x.del with
       | true =>
        rw[hd] at hcard z0
        simp only[if_true] at hcard
        rw[hcard] at z2
        go_wp2_with fail
        go_roundw
        case rel=>exact⟨k+1,by go_num,by omega,fr.trans (rZ.alloc _)⟩
        simp[intOf];omega
       | false =>
        rw[hd] at z0
        clear hcard
        go_wp2_with fail
        go_roundw
        case rel=>exact⟨k+1,by go_num,by omega,fr.trans (rZ.alloc _)⟩
        simp[intOf];omega)
  have hN:=HN.out
  first
   | (have hk1:¬ (k:Int)<0:=by omega
      clear hN
      go_wp2_with fail
      go_ret
      exact⟨rfl,fr⟩)
   | (have hk1:¬ (k:Int)<(n:Int):=by omega
      clear hN
      go_wp2_with fail
      go_ret
      exact⟨rfl,fr⟩)
open Go.RowKit
theorem jj : Id.gB (M.bs "ann") = true := by decide +kernel
theorem gm:Id.gB M.home=true:=by decide +kernel
theorem yh (w:World)(B n cap:Nat)(k:Int)(t c u d:ByteArray)(ck cv tk ms tc:Int)(a:Option Addr)(l:List M.Op)(hs:Sh k t c u d ck cv n tk ms tc)(ho:Ops w B a n cap l)(hn:n=l.length)(hop:∀ o,o∈l->kv o) :
  cA 147 #[.agg (rqv k t c u d ck cv (.slice a n cap) tk ms tc).toArray,.agg (flC k).toArray] w (.bool true):=by
 have HO:=hid ho
 have HP:=hid hop
 have HN:=hid hn
 clear ho hop
 have hn8:(n:Int)<=8:=by cases hs<;>omega
 cases hs
 all_goals
  clear hn
  simp only[flC,mG,Int.reduceEq,if_true,if_false,List.map]
  go_enter func147,ntmps147
  go_wp2_with (first
   | (go_at_call 158;refine(Id.nM _ _ (by first|exact jj|exact gm)).mono ?_;rintro e w' ⟨rfl,rfl⟩)
   | (go_at_call 194;refine(Id.vK _ _ (by assumption)).mono ?_;rintro e w' ⟨rfl,rfl⟩))
  go_loopw [38] (λi wr=>∃ k:Nat,i = .int .i64 k/\k<=l.length/\Fr [] w wr) (λi _=>l.length - (intOf i).toNat)
  case atStart=>exact⟨0,rfl,Nat.zero_le _,(rZ.alloc _).alloc _⟩
  obtain⟨k,rfl,hk,fr⟩:=hrel
  by_cases hlt:k<l.length
  ·have hx:l[k]? = some l[k]:=List.getElem?_eq_getElem hlt
   obtain⟨x,hx'⟩:∃ x,l[k]=x:=⟨_,rfl⟩
   rw[hx'] at hx
   have hux:=(HP x (List.mem_of_getElem? hx)).uid
   obtain⟨g,rfl,hgl,z0,z1,z2,z3,z4⟩:=gR (HO.fr0 fr) HN hx
   have hN:=HN.out
   have HU:=hid hux
   clear hx hx' HP hux
   first
    | (exfalso;omega)
    | (have hk1:(k:Int)<(n:Int):=by omega
       clear hN
       go_wp2_with fail
       refine(Id.vK _ _ HU).mono ?_
       rintro e w' ⟨rfl,rfl⟩
       go_wp2_with fail
       go_roundw
       case rel=>exact⟨k+1,by go_num,by omega,fr.trans (rZ.alloc _)⟩
       simp[intOf];omega)
  have hN:=HN.out
  first
   | (have hk1:¬ (k:Int)<0:=by omega
      clear hN
      go_wp2_with fail
      go_ret
      exact⟨rfl,fr⟩)
   | (have hk1:¬ (k:Int)<(n:Int):=by omega
      clear hN
      go_wp2_with fail
      go_ret
      exact⟨rfl,fr⟩)
theorem uN (w:World)(B n cap:Nat)(k:Int)(t c u d:ByteArray)(ck cv tk ms tc:Int)(a:Option Addr)(l:List M.Op)(hs:Sh k t c u d ck cv n tk ms tc)(ho:Ops w B a n cap l)(hn:n=l.length)(hop:∀ o,o∈l->kv o)(hG:Sh.Gl w) :
  cA 148 #[.agg (rqv k t c u d ck cv (.slice a n cap) tk ms tc).toArray,.agg (flC k).toArray] w (.bool true):=by
 have HO:=hid ho
 have HP:=hid hop
 have HN:=hid hn
 have HG:=hid hG
 clear ho hop hG
 have b1:Holds ((w.alloc (.cells (rqv k t c u d ck cv (.slice a n cap) tk ms tc).toArray 37)).alloc (.cells (flC k).toArray 220)) w.heap.size 37 (rqv k t c u d ck cv (.slice a n cap) tk ms tc).toArray:=(Holds.new _ _ _).alloc _
 have b2:Holds ((w.alloc (.cells (rqv k t c u d ck cv (.slice a n cap) tk ms tc).toArray 37)).alloc (.cells (flC k).toArray 220)) (w.heap.size+1) 220 (flC k).toArray:=aE (by simp)
 have F1:Fr [] w ((w.alloc (.cells (rqv k t c u d ck cv (.slice a n cap) tk ms tc).toArray 37)).alloc (.cells (flC k).toArray 220)):=(rZ.alloc _).alloc _
 have hn8:(n:Int)<=8:=by cases hs<;>omega
 cases hs
 all_goals
  clear hn
  simp only[flC,mG,Int.reduceEq,if_true,if_false,List.map] at b1 b2 F1 ⊢
  have b1:=hid b1
  have b2:=hid b2
  have F1:=hid F1
  go_enter func148,ntmps148
  go_wp2_with (first
   | (go_at_call 195;refine uu (Fd.cz _ _ (by assumption) (HG.fr0 F1.out)) λw2 f2=>?_;have b1:=hid (b1.out.fr f2 (by simp));have b2:=hid (b2.out.fr f2 (by simp));have F1:=hid (F1.out.trans f2);have c5:=b1.out.cell 5;have c6:=b1.out.cell 6;have c7:=b1.out.cell 7;have d4:=b2.out.cell 4;simp at c5 c6 c7 d4)
   | (go_at_call 196;refine uu (Et.dN _ _ _) λw3 f3=>?_;have hcd:=(show Et.aY _ _=true from by assumption);rw[hcd];have b1:=hid (b1.out.fr f3 (by simp));have F1:=hid (F1.out.trans f3);have c7:=b1.out.cell 7;simp at c7))
  go_loopw [28] (λi wr=>∃ k:Nat,i = .int .i64 k/\k<=l.length/\Fr [] w wr) (λi _=>l.length - (intOf i).toNat)
  case atStart=>exact⟨0,rfl,Nat.zero_le _,F1.out⟩
  obtain⟨k,rfl,hk,fr⟩:=hrel
  clear b1 b2 F1
  try clear c5
  try clear c6
  try clear c7
  try clear d4
  by_cases hlt:k<l.length
  ·have hx:l[k]? = some l[k]:=List.getElem?_eq_getElem hlt
   obtain⟨x,hx'⟩:∃ x,l[k]=x:=⟨_,rfl⟩
   rw[hx'] at hx
   have okx:=HP.out x (List.mem_of_getElem? hx)
   obtain⟨g,rfl,hgl,z0,z1,z2,z3,z4⟩:=gR (HO.fr0 fr) HN hx
   have hN:=HN.out
   have hcard:=okx.au
   have HCD:=hid (show Et.aY x.ck x.cv=true from okx.cond)
   clear hx hx' HP okx
   first
    | (exfalso;omega)
    | (have hk1:(k:Int)<(n:Int):=by omega
       clear hN
       have b3:=hid (Holds.new wr 43 (Lp.cs x).toArray)
       cases hd:x.del with
       | true =>
        rw[hd] at z0
        clear hcard
        go_wp2_with fail
        refine uu (Et.dN _ _ _) λw3 f3=>?_
        rw[HCD]
        go_wp2_with fail
        go_roundw
        case rel=>exact⟨k+1,by go_num,by omega,(fr.trans (rZ.alloc _)).trans f3⟩
        simp[intOf];omega
       | false =>
        rw[hd] at hcard z0
        simp only[Bool.false_eq_true,if_false] at hcard
        have HCA:=hid hcard
        clear hcard
        go_wp2_with fail
        refine uu (Fd.cz _ _ HCA (HG.fr0 (fr.trans (rZ.alloc _)))) λw2 f2=>?_
        have f2':Fr [] (wr.alloc (.cells (Lp.cs x).toArray 43)) w2:=by
         simp only[Lp.cs,hd]
         exact f2
        have b4:=b3.fr f2' (by simp)
        have c3:=b4.cell 3
        have c4:=b4.cell 4
        simp[Lp.cs] at c3 c4
        clear z0 z1 z2 z3 z4 b4
        go_wp2_with fail
        refine uu (Et.dN _ _ _) λw3 f3=>?_
        rw[HCD]
        go_wp2_with fail
        go_roundw
        case rel=>exact⟨k+1,by go_num,by omega,((fr.trans (rZ.alloc _)).trans f2).trans f3⟩
        simp[intOf];omega)
  have hN:=HN.out
  first
   | (have hk1:¬ (k:Int)<0:=by omega
      clear hN
      go_wp2_with fail
      go_ret
      exact⟨rfl,fr⟩)
   | (have hk1:¬ (k:Int)<(n:Int):=by omega
      clear hN
      go_wp2_with fail
      go_ret
      exact⟨rfl,fr⟩)
open Go.RowKit
theorem bd {k:Int}{t c u d:ByteArray}{ck cv tk ms tc:Int}{n:Nat}(hs:Sh k t c u d ck cv n tk ms tc):1<=k/\k<=10:=by cases hs<;>omega
theorem dX (w:World)(B n cap:Nat)(k:Int)(t c u d:ByteArray)(ck cv tk ms tc:Int)(a:Option Addr)(l:List M.Op)(hs:Sh k t c u d ck cv n tk ms tc)(ho:Ops w B a n cap l)(hn:n=l.length)(hop:∀ o,o∈l->kv o)(hG:Sh.Gl w) :
  cA 108 #[.agg (rqv k t c u d ck cv (.slice a n cap) tk ms tc).toArray] w (.int .i64 0):=by
 have HI:=hid (λW=>cz W k (bd hs).1 (bd hs).2)
 have HL:=hid (λW=>de W k (bd hs).1 (bd hs).2)
 have HS:=hid (λW (f:Fr [] w W)=>wT W B n cap k t c u d ck cv tk ms tc a l hs (ho.fr0 f) hn hop)
 have HM:=hid (λW (f:Fr [] w W)=>yh W B n cap k t c u d ck cv tk ms tc a l hs (ho.fr0 f) hn hop)
 have HF:=hid (λW (f:Fr [] w W)=>uN W B n cap k t c u d ck cv tk ms tc a l hs (ho.fr0 f) hn hop (hG.fr0 f))
 clear hn hop ho hG
 cases hs
 all_goals
  simp only[flC,mG,Int.reduceEq,if_true,if_false,List.map] at HL HS HM HF
  go_enter func108,ntmps108
  go_wp2_with fail
  refine(HI _).mono ?_
  rintro e w2 ⟨rfl,rfl⟩
  go_wp2_with fail
  refine uu (HL _) λw2 f2=>?_
  have F2:=hid (((Fr.refl [] w).alloc _).trans f2)
  have b1:=(Holds.new w 37 _).fr f2 (by simp)
  have b0:=hid b1
  obtain⟨d0,d1,d2,d3,d4,d5,d6,d7,d8,d9,d10⟩:=b1.dW
  have l1:=b1.lt
  simp at d0 d1 d2 d3 d4 d5 d6 d7 d8 d9 d10
  clear b1
  go_wp2_with fail
  refine uu (HS _ (F2.alloc _)) λw3 f3=>?_
  have F3:=hid ((F2.alloc _).trans f3)
  have b0:=hid ((b0.alloc _).fr f3 (by simp))
  have e0:=hid ((Holds.new w2 220 _).fr f3 (by simp))
  clear d0 d1 d2 d3 d4 d5 d6 d7 d8 d9 d10
  obtain⟨d0,d1,d2,d3,d4,d5,d6,d7,d8,d9,d10⟩:=b0.dW
  obtain⟨h0,h1,h2,h3,h4,h5,h6,h7,h8⟩:=e0.cs9
  simp at d0 d1 d2 d3 d4 d5 d6 d7 d8 d9 d10 h0 h1 h2 h3 h4 h5 h6 h7 h8
  go_wp2_with fail
  refine uu (HM _ F3) λw4 f4=>?_
  have F4:=hid (F3.trans f4)
  have b0:=hid (b0.fr f4 (by simp))
  have e0:=hid (e0.fr f4 (by simp))
  clear d0 d1 d2 d3 d4 d5 d6 d7 d8 d9 d10 h0 h1 h2 h3 h4 h5 h6 h7 h8
  obtain⟨d0,d1,d2,d3,d4,d5,d6,d7,d8,d9,d10⟩:=b0.dW
  obtain⟨h0,h1,h2,h3,h4,h5,h6,h7,h8⟩:=e0.cs9
  simp at d0 d1 d2 d3 d4 d5 d6 d7 d8 d9 d10 h0 h1 h2 h3 h4 h5 h6 h7 h8
  go_wp2_with fail
  refine uu (HF _ F4) λw5 f5=>?_
  have F5:=hid (F4.trans f5)
  have b0:=hid (b0.fr f5 (by simp))
  have e0:=hid (e0.fr f5 (by simp))
  clear d0 d1 d2 d3 d4 d5 d6 d7 d8 d9 d10 h0 h1 h2 h3 h4 h5 h6 h7 h8
  have d7:=b0.cell 7
  have d8:=b0.cell 8
  have d9:=b0.cell 9
  have d10:=b0.cell 10
  have h5:=e0.cell 5
  have h7:=e0.cell 7
  simp at d7 d8 d9 d10 h5 h7
  first
   | (go_wp2_with fail
      go_ret
      exact⟨rfl,F5⟩)
   | (have k1:decide ((n:Int)<1)=false:=decide_eq_false (by omega)
      have k2:decide ((n:Int) > 8)=false:=decide_eq_false (by omega)
      go_wp2_with fail
      go_ret
      exact⟨rfl,F5⟩)
   | (rename_i k1 k2 k3 k4
      have g1:=decide_eq_false (show ¬ tk<0 by omega)
      have g2:=decide_eq_false (show ¬ ms<1 by omega)
      have g3:=decide_eq_false (show ¬ ms > 1000 by omega)
      go_wp2_with fail
      go_ret
      exact⟨rfl,F5⟩)
   | (have g1:=decide_eq_false (show ¬ tk<0 by omega)
      have g2:=decide_eq_false (show ¬ tc<0 by omega)
      have g3:=decide_eq_false (show ¬ tc > 1048576 by omega)
      go_wp2_with fail
      go_ret
      exact⟨rfl,F5⟩)
open Go.RowKit Fm Pk
theorem cu.far {w:World}{r:Nat}{rest:List UInt8}(h:cu w r rest){p t:Nat}{cs:Array Value}(hp:Holds w p t cs)(h1:t≠284)(h2:t≠5)(i:Nat)(u:Value):cu (w.setCell ⟨p,i,none⟩ u) r rest:=by
 obtain⟨l,k,g,c,n,hb,a1,a2,a3,a4,hr⟩:=h
 exact⟨l,k,g,c,n,hb.far (hb.ne hp (Ne.symm h1)) _,a1,a2,a3,a4,hr.far (hr.ne hp (Ne.symm h2)) _⟩
structure QRd (w:World)(x r:Nat)(rest:List UInt8):Prop where
 box:Holds w x 226 #[.pointer (some ⟨r,0,none⟩),.bool false]
 rd:cu w r rest
theorem QRd.fr {w w':World}{x r:Nat}{rest:List UInt8}(h:QRd w x r rest)(hf:Fr [] w w'):QRd w' x r rest:=⟨h.box.fr hf (by simp),h.rd.fr hf⟩
theorem QRd.far {w:World}{x r:Nat}{rest:List UInt8}(h:QRd w x r rest){p t:Nat}{cs:Array Value}(hp:Holds w p t cs)(h1:t≠284)(h2:t≠5)(h3:t≠226)(i:Nat)(u:Value):QRd (w.setCell ⟨p,i,none⟩ u) x r rest :=
 ⟨h.box.far (h.box.ne hp (Ne.symm h3)) _,cu.far h.rd hp h1 h2 i u⟩
theorem cu.rlt {w:World}{r:Nat}{rest:List UInt8}(h:cu w r rest):cB w r=some 284:=by
 obtain⟨l,k,g,c,n,hb,_⟩:=h
 exact hb.ty
theorem QRd.ne {w:World}{x r:Nat}{rest:List UInt8}(h:QRd w x r rest):x≠r:=λe=>by
 have h1:=cu.rlt h.rd
 rw[<-e,h.box.ty] at h1
 exact absurd h1 (by decide)
theorem bP (w:World)(x r:Nat)(c:UInt8)(rest:List UInt8)(h:QRd w x r (c::rest))(hc:c.toNat<=247) :
  Calls prog 142 #[.pointer (some ⟨x,0,none⟩)] w λe w'=>e = .returned (.int .i64 c.toNat)/\QRd w' x r rest/\Fr [r,x] w w':=by
 have hne:=h.ne
 have c0:=h.box.cell 0
 have HB:=hid h.box
 have HN:=hid (fZ w r c rest h.rd hc)
 have d1:decide ((c.toNat:Int) > 2147483647)=false:=decide_eq_false (by omega)
 clear h
 go_enter func142,ntmps142
 go_wp2_with fail
 refine HN.mono ?_
 rintro e w2 ⟨rfl,rd2,f2⟩
 have b2:=HB.fr f2 (by simpa using hne)
 have c0:=b2.cell 0
 have c1:=b2.cell 1
 have z1:=b2.frozen 1
 have HR:=hid rd2
 have HB2:=hid b2
 clear rd2 b2
 go_wp2_with fail
 go_ret
 exact⟨rfl,⟨by simpa using HB2.set 1 (.bool false),cu.far HR.out HB2.out (by decide) (by decide) _ _⟩,(f2.mono (by simp)).setCell (by simp) _⟩
theorem aN (w:World)(x r:Nat)(s:ByteArray)(rest:List UInt8)(h:QRd w x r (txt s++rest))(hs:s.size<=247)(h0:0<s.size) :
  Calls prog 138 #[.pointer (some ⟨x,0,none⟩)] w λe w'=>e = .returned (.string s)/\QRd w' x r rest/\Fr [r] w w':=by
 have hne:=h.ne
 have c0:=h.box.cell 0
 have HB:=hid h.box
 have HN:=hid (lz w r s rest h.rd hs h0)
 clear h
 go_enter func138,ntmps138
 go_wp2_with fail
 refine HN.mono ?_
 rintro e w2 ⟨rfl,rd2,f2⟩
 go_wp2_with fail
 go_ret
 exact⟨rfl,⟨HB.fr f2 (by simpa using hne),rd2⟩,f2⟩
theorem AE (w:World)(x r:Nat)(c:UInt8)(rest:List UInt8)(h:QRd w x r (c::rest))(hc:c.toNat<=247) :
  Calls prog 141 #[.pointer (some ⟨r,0,none⟩)] w λe w'=>e = .returned (.int .i64 c.toNat)/\QRd w' x r rest/\Fr [r] w w' :=
 (fZ w r c rest h.rd hc).mono λ_ _ ⟨h1,h2,h3⟩=>⟨h1,⟨h.box.fr h3 (by simpa using h.ne),h2⟩,h3⟩
theorem oR (w:World)(x r:Nat)(tk:Int)(rest:List UInt8)(h:QRd w x r (ed tk++rest))(h0:0<=tk)(h1:tk<=1099511627791) :
  Calls prog 141 #[.pointer (some ⟨r,0,none⟩)] w λe w'=>e = .returned (.int .i64 tk)/\QRd w' x r rest/\Fr [r] w w':=by
 obtain⟨N,rfl⟩:=Int.eq_ofNat_of_zero_le h0
 exact(xm w r N rest h.rd (by omega)).mono λ_ _ ⟨h1,h2,h3⟩=>⟨h1,⟨h.box.fr h3 (by simpa using h.ne),h2⟩,h3⟩
theorem Ap (W:World)(tmps:Array Value)(g:Nat)(a b:Value)(hp:Holds W g 34 #[a,b])(h2:tmps[2]?.getD undef = .pointer (some ⟨g,0,none⟩)) :
  (results f139 tmps).run prog W = .ok (.agg #[a,b]) W:=by
 have hr:f139.results=#[.cell 2 34]:=rfl
 have q0:=hp.cell 0
 have q1:=hp.cell 1
 simp at q0 q1
 simp[results,h2,go_sem,q0,q1]
theorem iL (w:World)(x r:Nat)(k v:Int)(rest:List UInt8)(h:QRd w x r (nb k::nb v::rest))(hk0:0<=k)(hk1:k<=247)(hv0:0<=v)(hv1:v<=247) :
  Calls prog 139 #[.pointer (some ⟨x,0,none⟩)] w λe w'=>e = .returned (.agg #[.int .i64 k,.int .i64 v])/\QRd w' x r rest/\Fr [r,x] w w':=by
 have f0:Fr [] w (w.alloc (.cells #[.int .i64 0,.int .i64 0] 34)):=rZ.alloc _
 have b0:=Holds.new w 34 #[.int .i64 0,.int .i64 0]
 have e1:=cd hk0 (by omega:k<=255)
 have e2:=cd hv0 (by omega:v<=255)
 have hx:=h.box.lt
 have HN:=hid (bP _ x r (nb k) (nb v::rest) (h.fr f0) (by omega))
 have hrl:r<w.heap.size:=by
  obtain⟨l,k,g,c,n,hb,_⟩:=h.rd
  exact hb.lt
 rw[e1] at HN
 clear h
 go_enter func139,ntmps139
 go_wp2_with fail
 refine HN.mono ?_
 rintro e w2 ⟨rfl,q2,f2⟩
 have c0:=q2.box.cell 0
 have HP:=hid (AE w2 x r (nb v) rest q2 (by omega))
 rw[e2] at HP
 have b2:=b0.fr f2 (by simp;omega)
 clear q2
 go_wp2_with fail
 refine HP.mono ?_
 rintro e w3 ⟨rfl,q3,f3⟩
 have b3:=b2.fr f3 (by simp;omega)
 have d0:=b3.cell 0
 have d1:=b3.cell 1
 have z0:=b3.frozen 0
 have z1:=b3.frozen 1
 simp at d0 d1
 have Q3:=hid q3
 have F3:=hid (((f0.mono (T:=[r,x]) (by simp)).trans f2).trans (f3.mono (by simp)))
 have B3:=hid b3
 clear q3 b3 b2
 go_wp2_with fail
 have hb:=((B3.set 0 (.int .i64 k)).set 1 (.int .i64 v))
 simp at hb
 refine bodyPost_ret (Ap _ _ w.heap.size _ _ hb rfl) rfl ⟨rfl,?_,Ev.Fr.aw (Ev.Fr.aw F3 (Nat.le_refl _) _) (Nat.le_refl _) _⟩
 exact(Q3.far B3 (by decide) (by decide) (by decide) _ _).far (B3.set 0 _) (by decide) (by decide) (by decide) _ _
end Rq
