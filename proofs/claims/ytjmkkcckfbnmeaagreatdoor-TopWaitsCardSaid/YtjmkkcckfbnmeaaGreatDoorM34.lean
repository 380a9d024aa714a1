/- Texts DecC. -/
import Derived.Test.YtjmkkcckfbnmeaaGreatDoorM33
import Derived.Test.YtjmkkcckfbnmeaaGreatDoorM51
set_option maxRecDepth 100000
set_option maxHeartbeats 8000000
set_option linter.all false
open Go.Lib (hid)
namespace Go.Proofs.YtjmkkcckfbnmeaaGreatDoor.Rq
open Go.RowKit Fm Pk
theorem size_ann : 0 < (M.bs "ann").size ∧ (M.bs "ann").size ≤ 247 := by decide +kernel
theorem size_home:0<M.home.size∧M.home.size≤247:=by decide +kernel
theorem opB_size {o:M.Op}(h:OpOk o):(En.opB o).length≤40:=by
 have h1:=low_size h.uid
 have h2:(if o.del then ([]:List UInt8) else txt o.card).length≤17:=by
  cases hd:o.del with
  | true=>simp
  | false =>
   have:=h.card
   rw[hd] at this
   have:=card3_size this
   simp[txt]
   omega
 simp only[En.opB,En.condB,List.length_cons,List.length_append,List.length_nil]
 simp only[txt,List.length_cons] at h2 ⊢
 simp at h2 ⊢
 omega
theorem ops_size {l:List M.Op}(h:∀ o,o∈l→OpOk o):(l.flatMap En.opB).length≤40*l.length:=by
 induction l with
 | nil=>simp
 | cons o l ih =>
  have h1:=opB_size (h o (by simp))
  have h2:=ih fun x hx=>h x (by simp[hx])
  simp only[List.flatMap_cons,List.length_append,List.length_cons]
  omega
structure Dc (w W:World)(gh gq x r:Nat)(fl cs:List Value)(rest:List UInt8):Prop where
 fr:Fr [] w W
 res:Holds W w.heap.size 41 (rqv 0 em em em em 0 0 (.slice none 0 0) 0 0 0).toArray
 hb:Holds W gh 224 fl.toArray
 qb:Holds W gq 41 cs.toArray
 rd:QRd W x r rest
 l1:w.heap.size<gq
 l2:w.heap.size≤r
 l3:w.heap.size≤x
section
variable {w W W':World} {gh gq x r:Nat} {fl cs:List Value} {rest rest':List UInt8}
theorem Dc.call (h:Dc w W gh gq x r fl cs rest)(hq:QRd W' x r rest')(hf:Fr [r,x] W W'):Dc w W' gh gq x r fl cs rest':=by
 have hn:∀ {g t:Nat} {c:Array Value},Holds W g t c→t≠283→t≠230→g∉[r,x]:=fun hg h1 h2 hm=>by
  simp only[List.mem_cons,List.not_mem_nil,or_false] at hm
  rcases hm with rfl|rfl
  ·have:=RdAt.rlt h.rd.rd
   rw[hg.ty] at this
   exact h1 (Option.some.inj this)
  ·have:=h.rd.box.ty
   rw[hg.ty] at this
   exact h2 (Option.some.inj this)
 exact⟨h.fr.step hf (fun y hy=>.inr (by
  simp only[List.mem_cons,List.not_mem_nil,or_false] at hy
  rcases hy with rfl|rfl
  ·exact h.l2
  ·exact h.l3)),h.res.fr hf (hn h.res (by decide) (by decide)),h.hb.fr hf (hn h.hb (by decide) (by decide)),h.qb.fr hf (hn h.qb (by decide) (by decide)),hq,h.l1,h.l2,h.l3⟩
theorem Dc.set (h:Dc w W gh gq x r fl cs rest)(i:Nat)(u:Value):Dc w (W.setCell ⟨gq,i,none⟩ u) gh gq x r fl (cs.set i u) rest :=
 ⟨Ev.Fr.setNew h.fr (Nat.le_of_lt h.l1) u,h.res.far (Nat.ne_of_lt h.l1) _,h.hb.far (h.hb.ne h.qb (by decide)) _,by simpa using h.qb.set i u,h.rd.far h.qb (by decide) (by decide) (by decide) i u,h.l1,h.l2,h.l3⟩
theorem Dc.fr0 (h:Dc w W gh gq x r fl cs rest)(hf:Fr [] W W'):Dc w W' gh gq x r fl cs rest:=h.call (h.rd.fr hf) (hf.mono (by simp))
theorem Dc.ne1 (h:Dc w W gh gq x r fl cs rest):gh≠gq:=h.hb.ne h.qb (by decide)
theorem Dc.ne2 (h:Dc w W gh gq x r fl cs rest):x≠gq:=h.rd.box.ne h.qb (by decide)
theorem Dc.begin {w w1 w2:World}{r:Nat}{c0 fl cs:List Value}(h0:Holds w1 w.heap.size 41 c0.toArray)(hc0:c0=rqv 0 em em em em 0 0 (.slice none 0 0) 0 0 0)(f1:Fr [] w w1)(hr:RdAt w2 r rest)(hrl:(w1.alloc (.cells fl.toArray 224)).heap.size≤r)(f2:Fr [] (w1.alloc (.cells fl.toArray 224)) w2) :
  Dc w ((w2.alloc (.cells #[.pointer (some ⟨r,0,none⟩),.bool false] 230)).alloc (.cells cs.toArray 41)) w1.heap.size (w2.heap.size+1) w2.heap.size r fl cs rest:=by
 subst hc0
 have s1:=f1.size
 have s2:=f2.size
 have s0:=h0.lt
 simp only[World.size_alloc] at s2 hrl
 exact⟨((((f1.alloc _).trans f2).alloc _).alloc _),((((h0.alloc _).fr f2 (by simp)).alloc _).alloc _),((((Holds.new w1 _ _).fr f2 (by simp)).alloc _).alloc _),at_new (by simp),⟨(Holds.new w2 _ _).alloc _,hr.fr (((Fr.refl _ _).alloc _).alloc _)⟩,by omega,by omega,by omega⟩
end
def put11v (W:World)(g:Nat)(k:Int)(t c u d:ByteArray)(ck cv:Int)(v:Value)(tk ms tc:Int):World:=(((((((((((W.setCell ⟨g,0,none⟩ (.int .i64 k)).setCell ⟨g,1,none⟩ (.string t)).setCell ⟨g,2,none⟩ (.string c)).setCell ⟨g,3,none⟩ (.string u)).setCell ⟨g,4,none⟩ (.string d)).setCell ⟨g,5,none⟩ (.int .i64 ck)).setCell ⟨g,6,none⟩ (.int .i64 cv)).setCell ⟨g,7,none⟩ v).setCell ⟨g,8,none⟩ (.int .i64 tk)).setCell ⟨g,9,none⟩ (.int .i64 ms)).setCell ⟨g,10,none⟩ (.int .i64 tc))
theorem ret_decode (W:World)(tmps:Array Value)(g:Nat)(k:Int)(t c u d:ByteArray)(ck cv:Int)(v:Value)(tk ms tc:Int)(hp:Holds W g 41 (rqv k t c u d ck cv v tk ms tc).toArray)(h4:tmps[4]?.getD undef = .pointer (some ⟨g,0,none⟩))(h5:tmps[5]?.getD undef = .int .i64 0) :
  (results Tryz.f102 tmps).run Tryz.prog W = .ok (.tuple #[.agg (rqv k t c u d ck cv v tk ms tc).toArray,.int .i64 0]) W:=by
 have hr:Tryz.f102.results=#[.cell 4 41,.tmp 5]:=rfl
 obtain⟨q0,q1,q2,q3,q4,q5,q6,q7,q8,q9,q10⟩:=hp.cs11
 simp at q0 q1 q2 q3 q4 q5 q6 q7 q8 q9 q10
 simp[results,h4,h5,go_sem,q0,q1,q2,q3,q4,q5,q6,q7,q8,q9,q10]
theorem dec_end {w W:World}{B gh gq x r:Nat}{fl cs:List Value}{rest:List UInt8}{tmps:Array Value}{k:Int}{t c u d:ByteArray}{ck cv:Int}{v:Value}{tk ms tc:Int}{l:List M.Op}(h:Dc w W gh gq x r fl cs rest)(hB:B≤w.heap.size)(ho:Ev.OpsAt W B v l)
  (h4:tmps[4]?.getD undef = .pointer (some ⟨w.heap.size,0,none⟩)) (h5:tmps[5]?.getD undef = .int .i64 0) :
  bodyPost Tryz.prog Tryz.f102 (fun e w'=>∃ vo,e = .returned (.tuple #[.agg (rqv k t c u d ck cv vo tk ms tc).toArray,.int .i64 0])∧Ev.OpsAt w' B vo l∧Fr [] w w') Exit.ret ⟨tmps,[]⟩ (put11v W w.heap.size k t c u d ck cv v tk ms tc):=by
 have hb:Holds (put11v W w.heap.size k t c u d ck cv v tk ms tc) w.heap.size 41 (rqv k t c u d ck cv v tk ms tc).toArray:=by
  have:=(((((((((((h.res.set 0 (.int .i64 k)).set 1 (.string t)).set 2 (.string c)).set 3 (.string u)).set 4 (.string d)).set 5 (.int .i64 ck)).set 6 (.int .i64 cv)).set 7 v).set 8 (.int .i64 tk)).set 9 (.int .i64 ms)).set 10 (.int .i64 tc))
  simpa[put11v] using this
 have hf:Fr [w.heap.size] W (put11v W w.heap.size k t c u d ck cv v tk ms tc):=(((((((((((((Fr.refl [w.heap.size] W).setCell (p:=⟨w.heap.size,0,none⟩) (by simp) _).setCell (p:=⟨w.heap.size,1,none⟩) (by simp) _).setCell (p:=⟨w.heap.size,2,none⟩) (by simp) _).setCell (p:=⟨w.heap.size,3,none⟩) (by simp) _).setCell (p:=⟨w.heap.size,4,none⟩) (by simp) _).setCell (p:=⟨w.heap.size,5,none⟩) (by simp) _).setCell (p:=⟨w.heap.size,6,none⟩) (by simp) _).setCell (p:=⟨w.heap.size,7,none⟩) (by simp) _).setCell (p:=⟨w.heap.size,8,none⟩) (by simp) _).setCell (p:=⟨w.heap.size,9,none⟩) (by simp) _).setCell (p:=⟨w.heap.size,10,none⟩) (by simp) _))
 refine bodyPost_ret (ret_decode _ _ w.heap.size k t c u d ck cv v tk ms tc hb h4 h5) rfl ⟨v,rfl,?_,h.fr.step hf (fun y hy=>.inr (by simp at hy;omega))⟩
 exact ho.frx0 (FrX.of_frT (Ts:=[41]) hf (by simpa using hB) (fun y hy=>⟨41,by simp,by simp at hy;subst hy;exact h.res.ty⟩)) (by decide)
theorem dec1 (w : World) (B : Nat) (v : Value)  (hb : BIn w v (txt (M.bs "ann") ++ [])) (hB : B ≤ w.heap.size) :
  Calls Tryz.prog 102 #[.int .i64 1, v] w fun e w' => ∃ vo, e = .returned (.tuple #[.agg (rqv 1 (M.bs "ann") em em em 0 0 vo 0 0 0).toArray, .int .i64 0]) ∧ Ev.OpsAt w' B vo [] ∧ Fr [] w w' := by
 have hs : Sh 1 (M.bs "ann") em em em 0 0 0 0 0 0 := .hello
 have HI:=hid (fun W=>is_any W 1 (sh_kind hs).1 (sh_kind hs).2)
 have HL:=hid (fun W=>fields_any W 1 (sh_kind hs).1 (sh_kind hs).2)
 have HSz := hid (show ((txt (M.bs "ann") ++ []) : List UInt8).length ≤ 100000 by have := size_ann; simp[txt]; omega)
 have HR:=hid (fun W (f:Fr [] w W)=>read_any W v _ (hb.fr f) (HSz.out))
 simp only[flC,has9,Int.reduceEq,if_true,if_false,List.map] at HL
 have HS:=hid hs
 clear hs hb
 go_enter Tryz.func102,Tryz.ntmps102
 go_wp2_with (fail)
 refine(HI.out _).mono ?_
 rintro e w0 ⟨rfl,rfl⟩
 go_wp2_with (fail)
 refine(HL.out _).mono ?_
 rintro e w1 ⟨rfl,f1⟩
 have b1:=hid ((Holds.new w 41 (rqv 0 em em em em 0 0 (.slice none 0 0) 0 0 0).toArray).fr f1 (by simp))
 have F1:=hid (((Fr.refl [] w).alloc _).trans f1)
 clear f1
 go_wp2_with (fail)
 refine(HR.out _ (F1.out.alloc _)).mono ?_
 rintro e w2 ⟨r,rfl,rd2,hr2,f2⟩
 have D:=hid (Dc.begin (cs:=rqv 1 em em em em 0 0 (.slice none 0 0) 0 0 0) b1.out rfl F1.out rd2 hr2 f2)
 obtain⟨W3,hW3⟩:∃ W3,W3=(w2.alloc (.cells #[.pointer (some ⟨r,0,none⟩),.bool false] 230)).alloc (.cells (rqv 1 em em em em 0 0 (.slice none 0 0) 0 0 0).toArray 41):=⟨_,rfl⟩
 rw[←hW3] at D
 have hb2:=hid ((Holds.new w1 224 _).fr f2 (by simp))
 have hx3:=D.out.ne2
 have hg3:=D.out.ne1
 clear rd2 hr2 f2
 have a0h0:=hb2.out.cell 0
 have hlt2:=hb2.out.lt
 simp at a0h0
 go_wp2_with (fail)
 rw[←hW3]
 clear a0h0 hlt2
 refine (text_any _ w2.heap.size r (M.bs "ann") _ D.out.rd size_ann.2 size_ann.1).mono ?_
 rintro e v0 ⟨rfl,q0,f0⟩
 have C0:=hid (D.out.call q0 (f0.mono (by simp)))
 clear q0 f0
 have b0h1:=C0.out.hb.cell 1
 have b0h2:=C0.out.hb.cell 2
 have b0h3:=C0.out.hb.cell 3
 have b0h4:=C0.out.hb.cell 4
 have b0h5:=C0.out.hb.cell 5
 have b0h6:=C0.out.hb.cell 6
 have b0h7:=C0.out.hb.cell 7
 have b0h8:=C0.out.hb.cell 8
 have b0y1:=C0.out.qb.cell 1
 have b0z1:=C0.out.qb.frozen 1
 have b0lt:=C0.out.qb.lt
 have b0x0:=C0.out.rd.box.cell 0
 have b0x1:=C0.out.rd.box.cell 1
 simp at b0h1 b0h2 b0h3 b0h4 b0h5 b0h6 b0h7 b0h8 b0y1 b0x0 b0x1
 go_wp2_with (fail)
 obtain ⟨X0, hX0⟩ : ∃ X, X = (v0.setCell ⟨w2.heap.size + 1, 1, none⟩ (.string (M.bs "ann"))) := ⟨_, rfl⟩
 have D0 := hid (C0.out.set 1 (.string (M.bs "ann")))
 rw[←hX0] at D0 ⊢
 clear b0h1 b0h2 b0h3 b0h4 b0h5 b0h6 b0h7 b0h8 b0y1 b0z1 b0lt hX0 b0x0 b0x1
 have HErr:=hid (err_any X0 r [] D0.out.rd.rd)
 have HLeft:=hid (left_any X0 r D0.out.rd.rd)
 have HCk := hid (fun W => checkv_any W B 0 0 1 (M.bs "ann") em em em 0 0 0 0 0 none [] HS.out (Own.nil _ _ _ _) rfl (by simp))
 simp only[rqv] at HCk
 refine HErr.out.mono ?_
 rintro e s1 ⟨rfl,rfl⟩
 have x0:=D0.out.rd.box.cell 0
 go_wp2_with (fail)
 refine HLeft.out.mono ?_
 rintro e s2 ⟨rfl,n2,hs2⟩
 have fs2:Fr [] X0 s2:=by rw[hs2];exact(Fr.refl _ _).drewN _
 have E2:=hid (D0.out.fr0 fs2)
 obtain⟨y0,y1,y2,y3,y4,y5,y6,y7,y8,y9,y10⟩:=E2.out.qb.cs11
 simp at y0 y1 y2 y3 y4 y5 y6 y7 y8 y9 y10
 have HCk2:=hid (HCk.out s2)
 clear hs2 x0
 go_wp2_with (fail)
 refine HCk2.out.mono ?_
 rintro e s3 ⟨rfl,f3⟩
 have E3:=hid (E2.out.fr0 f3)
 clear f3 y0 y1 y2 y3 y4 y5 y6 y7 y8 y9 y10
 obtain⟨y0,y1,y2,y3,y4,y5,y6,y7,y8,y9,y10⟩:=E3.out.qb.cs11
 obtain⟨r0,r1,r2,r3,r4,r5,r6,r7,r8,r9,r10⟩:=E3.out.res.cs11
 obtain⟨g0,g1,g2,g3,g4,g5,g6,g7,g8,g9,g10⟩:=E3.out.res.fz11
 have hrl:=E3.out.res.lt
 simp at y0 r0 g0 y1 r1 g1 y2 r2 g2 y3 r3 g3 y4 r4 g4 y5 r5 g5 y6 r6 g6 y7 r7 g7 y8 r8 g8 y9 r9 g9 y10 r10 g10
 go_wp2_with (fail)
 exact dec_end E3.out hB (Own.nil _ _ _ _:Ev.OpsAt _ B _ []) rfl rfl
theorem dec2 (w:World)(B:Nat)(v:Value)  (hb:BIn w v (txt M.home++[]))(hB:B≤w.heap.size) :
  Calls Tryz.prog 102 #[.int .i64 2,v] w fun e w'=>∃ vo,e = .returned (.tuple #[.agg (rqv 2 em M.home em em 0 0 vo 0 0 0).toArray,.int .i64 0])∧Ev.OpsAt w' B vo []∧Fr [] w w':=by
 have hs:Sh 2 em M.home em em 0 0 0 0 0 0:=.create
 have HI:=hid (fun W=>is_any W 2 (sh_kind hs).1 (sh_kind hs).2)
 have HL:=hid (fun W=>fields_any W 2 (sh_kind hs).1 (sh_kind hs).2)
 have HSz:=hid (show ((txt M.home++[]):List UInt8).length≤100000 by have:=size_home;simp[txt];omega)
 have HR:=hid (fun W (f:Fr [] w W)=>read_any W v _ (hb.fr f) (HSz.out))
 simp only[flC,has9,Int.reduceEq,if_true,if_false,List.map] at HL
 have HS:=hid hs
 clear hs hb
 go_enter Tryz.func102,Tryz.ntmps102
 go_wp2_with (fail)
 refine(HI.out _).mono ?_
 rintro e w0 ⟨rfl,rfl⟩
 go_wp2_with (fail)
 refine(HL.out _).mono ?_
 rintro e w1 ⟨rfl,f1⟩
 have b1:=hid ((Holds.new w 41 (rqv 0 em em em em 0 0 (.slice none 0 0) 0 0 0).toArray).fr f1 (by simp))
 have F1:=hid (((Fr.refl [] w).alloc _).trans f1)
 clear f1
 go_wp2_with (fail)
 refine(HR.out _ (F1.out.alloc _)).mono ?_
 rintro e w2 ⟨r,rfl,rd2,hr2,f2⟩
 have D:=hid (Dc.begin (cs:=rqv 2 em em em em 0 0 (.slice none 0 0) 0 0 0) b1.out rfl F1.out rd2 hr2 f2)
 obtain⟨W3,hW3⟩:∃ W3,W3=(w2.alloc (.cells #[.pointer (some ⟨r,0,none⟩),.bool false] 230)).alloc (.cells (rqv 2 em em em em 0 0 (.slice none 0 0) 0 0 0).toArray 41):=⟨_,rfl⟩
 rw[←hW3] at D
 have hb2:=hid ((Holds.new w1 224 _).fr f2 (by simp))
 have hx3:=D.out.ne2
 have hg3:=D.out.ne1
 clear rd2 hr2 f2
 have a0h0:=hb2.out.cell 0
 have a0h1:=hb2.out.cell 1
 have hlt2:=hb2.out.lt
 simp at a0h0 a0h1
 go_wp2_with (fail)
 rw[←hW3]
 clear a0h0 a0h1 hlt2
 refine(text_any _ w2.heap.size r M.home _ D.out.rd size_home.2 size_home.1).mono ?_
 rintro e v0 ⟨rfl,q0,f0⟩
 have C0:=hid (D.out.call q0 (f0.mono (by simp)))
 clear q0 f0
 have b0h2:=C0.out.hb.cell 2
 have b0h3:=C0.out.hb.cell 3
 have b0h4:=C0.out.hb.cell 4
 have b0h5:=C0.out.hb.cell 5
 have b0h6:=C0.out.hb.cell 6
 have b0h7:=C0.out.hb.cell 7
 have b0h8:=C0.out.hb.cell 8
 have b0y2:=C0.out.qb.cell 2
 have b0z2:=C0.out.qb.frozen 2
 have b0lt:=C0.out.qb.lt
 have b0x0:=C0.out.rd.box.cell 0
 have b0x1:=C0.out.rd.box.cell 1
 simp at b0h2 b0h3 b0h4 b0h5 b0h6 b0h7 b0h8 b0y2 b0x0 b0x1
 go_wp2_with (fail)
 obtain⟨X0,hX0⟩:∃ X,X=(v0.setCell ⟨w2.heap.size+1,2,none⟩ (.string M.home)):=⟨_,rfl⟩
 have D0:=hid (C0.out.set 2 (.string M.home))
 rw[←hX0] at D0 ⊢
 clear b0h2 b0h3 b0h4 b0h5 b0h6 b0h7 b0h8 b0y2 b0z2 b0lt hX0 b0x0 b0x1
 have HErr:=hid (err_any X0 r [] D0.out.rd.rd)
 have HLeft:=hid (left_any X0 r D0.out.rd.rd)
 have HCk:=hid (fun W=>checkv_any W B 0 0 2 em M.home em em 0 0 0 0 0 none [] HS.out (Own.nil _ _ _ _) rfl (by simp))
 simp only[rqv] at HCk
 refine HErr.out.mono ?_
 rintro e s1 ⟨rfl,rfl⟩
 have x0:=D0.out.rd.box.cell 0
 go_wp2_with (fail)
 refine HLeft.out.mono ?_
 rintro e s2 ⟨rfl,n2,hs2⟩
 have fs2:Fr [] X0 s2:=by rw[hs2];exact(Fr.refl _ _).drewN _
 have E2:=hid (D0.out.fr0 fs2)
 obtain⟨y0,y1,y2,y3,y4,y5,y6,y7,y8,y9,y10⟩:=E2.out.qb.cs11
 simp at y0 y1 y2 y3 y4 y5 y6 y7 y8 y9 y10
 have HCk2:=hid (HCk.out s2)
 clear hs2 x0
 go_wp2_with (fail)
 refine HCk2.out.mono ?_
 rintro e s3 ⟨rfl,f3⟩
 have E3:=hid (E2.out.fr0 f3)
 clear f3 y0 y1 y2 y3 y4 y5 y6 y7 y8 y9 y10
 obtain⟨y0,y1,y2,y3,y4,y5,y6,y7,y8,y9,y10⟩:=E3.out.qb.cs11
 obtain⟨r0,r1,r2,r3,r4,r5,r6,r7,r8,r9,r10⟩:=E3.out.res.cs11
 obtain⟨g0,g1,g2,g3,g4,g5,g6,g7,g8,g9,g10⟩:=E3.out.res.fz11
 have hrl:=E3.out.res.lt
 simp at y0 r0 g0 y1 r1 g1 y2 r2 g2 y3 r3 g3 y4 r4 g4 y5 r5 g5 y6 r6 g6 y7 r7 g7 y8 r8 g8 y9 r9 g9 y10 r10 g10
 go_wp2_with (fail)
 exact dec_end E3.out hB (Own.nil _ _ _ _:Ev.OpsAt _ B _ []) rfl rfl
theorem dec3 (w:World)(B:Nat)(v:Value)  (hb:BIn w v (txt M.home++[]))(hB:B≤w.heap.size) :
  Calls Tryz.prog 102 #[.int .i64 3,v] w fun e w'=>∃ vo,e = .returned (.tuple #[.agg (rqv 3 em M.home em em 0 0 vo 0 0 0).toArray,.int .i64 0])∧Ev.OpsAt w' B vo []∧Fr [] w w':=by
 have hs:Sh 3 em M.home em em 0 0 0 0 0 0:=.drop
 have HI:=hid (fun W=>is_any W 3 (sh_kind hs).1 (sh_kind hs).2)
 have HL:=hid (fun W=>fields_any W 3 (sh_kind hs).1 (sh_kind hs).2)
 have HSz:=hid (show ((txt M.home++[]):List UInt8).length≤100000 by have:=size_home;simp[txt];omega)
 have HR:=hid (fun W (f:Fr [] w W)=>read_any W v _ (hb.fr f) (HSz.out))
 simp only[flC,has9,Int.reduceEq,if_true,if_false,List.map] at HL
 have HS:=hid hs
 clear hs hb
 go_enter Tryz.func102,Tryz.ntmps102
 go_wp2_with (fail)
 refine(HI.out _).mono ?_
 rintro e w0 ⟨rfl,rfl⟩
 go_wp2_with (fail)
 refine(HL.out _).mono ?_
 rintro e w1 ⟨rfl,f1⟩
 have b1:=hid ((Holds.new w 41 (rqv 0 em em em em 0 0 (.slice none 0 0) 0 0 0).toArray).fr f1 (by simp))
 have F1:=hid (((Fr.refl [] w).alloc _).trans f1)
 clear f1
 go_wp2_with (fail)
 refine(HR.out _ (F1.out.alloc _)).mono ?_
 rintro e w2 ⟨r,rfl,rd2,hr2,f2⟩
 have D:=hid (Dc.begin (cs:=rqv 3 em em em em 0 0 (.slice none 0 0) 0 0 0) b1.out rfl F1.out rd2 hr2 f2)
 obtain⟨W3,hW3⟩:∃ W3,W3=(w2.alloc (.cells #[.pointer (some ⟨r,0,none⟩),.bool false] 230)).alloc (.cells (rqv 3 em em em em 0 0 (.slice none 0 0) 0 0 0).toArray 41):=⟨_,rfl⟩
 rw[←hW3] at D
 have hb2:=hid ((Holds.new w1 224 _).fr f2 (by simp))
 have hx3:=D.out.ne2
 have hg3:=D.out.ne1
 clear rd2 hr2 f2
 have a0h0:=hb2.out.cell 0
 have a0h1:=hb2.out.cell 1
 have hlt2:=hb2.out.lt
 simp at a0h0 a0h1
 go_wp2_with (fail)
 rw[←hW3]
 clear a0h0 a0h1 hlt2
 refine(text_any _ w2.heap.size r M.home _ D.out.rd size_home.2 size_home.1).mono ?_
 rintro e v0 ⟨rfl,q0,f0⟩
 have C0:=hid (D.out.call q0 (f0.mono (by simp)))
 clear q0 f0
 have b0h2:=C0.out.hb.cell 2
 have b0h3:=C0.out.hb.cell 3
 have b0h4:=C0.out.hb.cell 4
 have b0h5:=C0.out.hb.cell 5
 have b0h6:=C0.out.hb.cell 6
 have b0h7:=C0.out.hb.cell 7
 have b0h8:=C0.out.hb.cell 8
 have b0y2:=C0.out.qb.cell 2
 have b0z2:=C0.out.qb.frozen 2
 have b0lt:=C0.out.qb.lt
 have b0x0:=C0.out.rd.box.cell 0
 have b0x1:=C0.out.rd.box.cell 1
 simp at b0h2 b0h3 b0h4 b0h5 b0h6 b0h7 b0h8 b0y2 b0x0 b0x1
 go_wp2_with (fail)
 obtain⟨X0,hX0⟩:∃ X,X=(v0.setCell ⟨w2.heap.size+1,2,none⟩ (.string M.home)):=⟨_,rfl⟩
 have D0:=hid (C0.out.set 2 (.string M.home))
 rw[←hX0] at D0 ⊢
 clear b0h2 b0h3 b0h4 b0h5 b0h6 b0h7 b0h8 b0y2 b0z2 b0lt hX0 b0x0 b0x1
 have HErr:=hid (err_any X0 r [] D0.out.rd.rd)
 have HLeft:=hid (left_any X0 r D0.out.rd.rd)
 have HCk:=hid (fun W=>checkv_any W B 0 0 3 em M.home em em 0 0 0 0 0 none [] HS.out (Own.nil _ _ _ _) rfl (by simp))
 simp only[rqv] at HCk
 refine HErr.out.mono ?_
 rintro e s1 ⟨rfl,rfl⟩
 have x0:=D0.out.rd.box.cell 0
 go_wp2_with (fail)
 refine HLeft.out.mono ?_
 rintro e s2 ⟨rfl,n2,hs2⟩
 have fs2:Fr [] X0 s2:=by rw[hs2];exact(Fr.refl _ _).drewN _
 have E2:=hid (D0.out.fr0 fs2)
 obtain⟨y0,y1,y2,y3,y4,y5,y6,y7,y8,y9,y10⟩:=E2.out.qb.cs11
 simp at y0 y1 y2 y3 y4 y5 y6 y7 y8 y9 y10
 have HCk2:=hid (HCk.out s2)
 clear hs2 x0
 go_wp2_with (fail)
 refine HCk2.out.mono ?_
 rintro e s3 ⟨rfl,f3⟩
 have E3:=hid (E2.out.fr0 f3)
 clear f3 y0 y1 y2 y3 y4 y5 y6 y7 y8 y9 y10
 obtain⟨y0,y1,y2,y3,y4,y5,y6,y7,y8,y9,y10⟩:=E3.out.qb.cs11
 obtain⟨r0,r1,r2,r3,r4,r5,r6,r7,r8,r9,r10⟩:=E3.out.res.cs11
 obtain⟨g0,g1,g2,g3,g4,g5,g6,g7,g8,g9,g10⟩:=E3.out.res.fz11
 have hrl:=E3.out.res.lt
 simp at y0 r0 g0 y1 r1 g1 y2 r2 g2 y3 r3 g3 y4 r4 g4 y5 r5 g5 y6 r6 g6 y7 r7 g7 y8 r8 g8 y9 r9 g9 y10 r10 g10
 go_wp2_with (fail)
 exact dec_end E3.out hB (Own.nil _ _ _ _:Ev.OpsAt _ B _ []) rfl rfl
theorem dec4 (w:World)(B:Nat)(v:Value)(u c:ByteArray)(ck cv:Int)(hu:M.lowS u=true)(hc:M.card3 c=true)(hk:M.condOk ck cv=true)(hv:cv≤247)(hb:BIn w v (txt M.home++(txt u++(txt c++(nb ck::nb cv::[])))))(hB:B≤w.heap.size) :
  Calls Tryz.prog 102 #[.int .i64 4,v] w fun e w'=>∃ vo,e = .returned (.tuple #[.agg (rqv 4 em M.home u c ck cv vo 0 0 0).toArray,.int .i64 0])∧Ev.OpsAt w' B vo []∧Fr [] w w':=by
 have hs:Sh 4 em M.home u c ck cv 0 0 0 0:=.put _ _ _ _ hu hc hk hv
 have HI:=hid (fun W=>is_any W 4 (sh_kind hs).1 (sh_kind hs).2)
 have HL:=hid (fun W=>fields_any W 4 (sh_kind hs).1 (sh_kind hs).2)
 have HSz:=hid (show ((txt M.home++(txt u++(txt c++(nb ck::nb cv::[])))):List UInt8).length≤100000 by have:=size_home;have:=low_size hu;have:=card3_size hc;simp[txt];omega)
 have HR:=hid (fun W (f:Fr [] w W)=>read_any W v _ (hb.fr f) (HSz.out))
 simp only[flC,has9,Int.reduceEq,if_true,if_false,List.map] at HL
 have HS:=hid hs
 have hu':=low_size hu
 have hc':=card3_size hc
 obtain⟨k0,k1,k2⟩:=cond_range hk hv
 have HU:=hid (And.intro hu (And.intro hc (And.intro hk hv)))
 clear hu hc hk
 clear hs hb
 go_enter Tryz.func102,Tryz.ntmps102
 go_wp2_with (fail)
 refine(HI.out _).mono ?_
 rintro e w0 ⟨rfl,rfl⟩
 go_wp2_with (fail)
 refine(HL.out _).mono ?_
 rintro e w1 ⟨rfl,f1⟩
 have b1:=hid ((Holds.new w 41 (rqv 0 em em em em 0 0 (.slice none 0 0) 0 0 0).toArray).fr f1 (by simp))
 have F1:=hid (((Fr.refl [] w).alloc _).trans f1)
 clear f1
 go_wp2_with (fail)
 refine(HR.out _ (F1.out.alloc _)).mono ?_
 rintro e w2 ⟨r,rfl,rd2,hr2,f2⟩
 have D:=hid (Dc.begin (cs:=rqv 4 em em em em 0 0 (.slice none 0 0) 0 0 0) b1.out rfl F1.out rd2 hr2 f2)
 obtain⟨W3,hW3⟩:∃ W3,W3=(w2.alloc (.cells #[.pointer (some ⟨r,0,none⟩),.bool false] 230)).alloc (.cells (rqv 4 em em em em 0 0 (.slice none 0 0) 0 0 0).toArray 41):=⟨_,rfl⟩
 rw[←hW3] at D
 have hb2:=hid ((Holds.new w1 224 _).fr f2 (by simp))
 have hx3:=D.out.ne2
 have hg3:=D.out.ne1
 clear rd2 hr2 f2
 have a0h0:=hb2.out.cell 0
 have a0h1:=hb2.out.cell 1
 have hlt2:=hb2.out.lt
 simp at a0h0 a0h1
 go_wp2_with (fail)
 rw[←hW3]
 clear a0h0 a0h1 hlt2
 refine(text_any _ w2.heap.size r M.home _ D.out.rd size_home.2 size_home.1).mono ?_
 rintro e v0 ⟨rfl,q0,f0⟩
 have C0:=hid (D.out.call q0 (f0.mono (by simp)))
 clear q0 f0
 have b0h2:=C0.out.hb.cell 2
 have b0y2:=C0.out.qb.cell 2
 have b0z2:=C0.out.qb.frozen 2
 have b0lt:=C0.out.qb.lt
 simp at b0h2 b0y2
 go_wp2_with (fail)
 obtain⟨X0,hX0⟩:∃ X,X=(v0.setCell ⟨w2.heap.size+1,2,none⟩ (.string M.home)):=⟨_,rfl⟩
 have D0:=hid (C0.out.set 2 (.string M.home))
 rw[←hX0] at D0 ⊢
 clear b0h2 b0y2 b0z2 b0lt hX0
 refine(text_any _ w2.heap.size r u _ D0.out.rd (by omega) (by omega)).mono ?_
 rintro e v1 ⟨rfl,q1,f1⟩
 have C1:=hid (D0.out.call q1 (f1.mono (by simp)))
 clear q1 f1
 have b1h3:=C1.out.hb.cell 3
 have b1y3:=C1.out.qb.cell 3
 have b1z3:=C1.out.qb.frozen 3
 have b1lt:=C1.out.qb.lt
 simp at b1h3 b1y3
 go_wp2_with (fail)
 obtain⟨X1,hX1⟩:∃ X,X=(v1.setCell ⟨w2.heap.size+1,3,none⟩ (.string u)):=⟨_,rfl⟩
 have D1:=hid (C1.out.set 3 (.string u))
 rw[←hX1] at D1 ⊢
 clear b1h3 b1y3 b1z3 b1lt hX1
 refine(text_any _ w2.heap.size r c _ D1.out.rd (by omega) (by omega)).mono ?_
 rintro e v2 ⟨rfl,q2,f2⟩
 have C2:=hid (D1.out.call q2 (f2.mono (by simp)))
 clear q2 f2
 have b2h4:=C2.out.hb.cell 4
 have b2y4:=C2.out.qb.cell 4
 have b2z4:=C2.out.qb.frozen 4
 have b2lt:=C2.out.qb.lt
 simp at b2h4 b2y4
 go_wp2_with (fail)
 obtain⟨X2,hX2⟩:∃ X,X=(v2.setCell ⟨w2.heap.size+1,4,none⟩ (.string c)):=⟨_,rfl⟩
 have D2:=hid (C2.out.set 4 (.string c))
 rw[←hX2] at D2 ⊢
 clear b2h4 b2y4 b2z4 b2lt hX2
 refine(cond_any _ w2.heap.size r ck cv _ D2.out.rd k0 k1 k2 hv).mono ?_
 rintro e v3 ⟨rfl,q3,f3⟩
 have C3:=hid (D2.out.call q3 f3)
 clear q3 f3
 have b3h5:=C3.out.hb.cell 5
 have b3h6:=C3.out.hb.cell 6
 have b3h7:=C3.out.hb.cell 7
 have b3h8:=C3.out.hb.cell 8
 have b3y5:=C3.out.qb.cell 5
 have b3y6:=C3.out.qb.cell 6
 have b3z5:=C3.out.qb.frozen 5
 have b3z6:=C3.out.qb.frozen 6
 have b3lt:=C3.out.qb.lt
 have b3x0:=C3.out.rd.box.cell 0
 have b3x1:=C3.out.rd.box.cell 1
 simp at b3h5 b3h6 b3h7 b3h8 b3y5 b3y6 b3x0 b3x1
 go_wp2_with (fail)
 obtain⟨X3,hX3⟩:∃ X,X=((v3.setCell ⟨w2.heap.size+1,5,none⟩ (.int .i64 ck)).setCell ⟨w2.heap.size+1,6,none⟩ (.int .i64 cv)):=⟨_,rfl⟩
 have D3:=hid ((C3.out.set 5 (.int .i64 ck)).set 6 (.int .i64 cv))
 rw[←hX3] at D3 ⊢
 clear b3h5 b3h6 b3h7 b3h8 b3y5 b3z5 b3y6 b3z6 b3lt hX3 b3x0 b3x1
 have HErr:=hid (err_any X3 r [] D3.out.rd.rd)
 have HLeft:=hid (left_any X3 r D3.out.rd.rd)
 have HCk:=hid (fun W=>checkv_any W B 0 0 4 em M.home u c ck cv 0 0 0 none [] HS.out (Own.nil _ _ _ _) rfl (by simp))
 simp only[rqv] at HCk
 refine HErr.out.mono ?_
 rintro e s1 ⟨rfl,rfl⟩
 have x0:=D3.out.rd.box.cell 0
 go_wp2_with (fail)
 refine HLeft.out.mono ?_
 rintro e s2 ⟨rfl,n2,hs2⟩
 have fs2:Fr [] X3 s2:=by rw[hs2];exact(Fr.refl _ _).drewN _
 have E2:=hid (D3.out.fr0 fs2)
 obtain⟨y0,y1,y2,y3,y4,y5,y6,y7,y8,y9,y10⟩:=E2.out.qb.cs11
 simp at y0 y1 y2 y3 y4 y5 y6 y7 y8 y9 y10
 have HCk2:=hid (HCk.out s2)
 clear hs2 x0
 go_wp2_with (fail)
 refine HCk2.out.mono ?_
 rintro e s3 ⟨rfl,f3⟩
 have E3:=hid (E2.out.fr0 f3)
 clear f3 y0 y1 y2 y3 y4 y5 y6 y7 y8 y9 y10
 obtain⟨y0,y1,y2,y3,y4,y5,y6,y7,y8,y9,y10⟩:=E3.out.qb.cs11
 obtain⟨r0,r1,r2,r3,r4,r5,r6,r7,r8,r9,r10⟩:=E3.out.res.cs11
 obtain⟨g0,g1,g2,g3,g4,g5,g6,g7,g8,g9,g10⟩:=E3.out.res.fz11
 have hrl:=E3.out.res.lt
 simp at y0 r0 g0 y1 r1 g1 y2 r2 g2 y3 r3 g3 y4 r4 g4 y5 r5 g5 y6 r6 g6 y7 r7 g7 y8 r8 g8 y9 r9 g9 y10 r10 g10
 go_wp2_with (fail)
 exact dec_end E3.out hB (Own.nil _ _ _ _:Ev.OpsAt _ B _ []) rfl rfl
theorem dec5 (w:World)(B:Nat)(v:Value)(u:ByteArray)(ck cv:Int)(hu:M.lowS u=true)(hk:M.condOk ck cv=true)(hv:cv≤247)(hb:BIn w v (txt M.home++(txt u++(nb ck::nb cv::[]))))(hB:B≤w.heap.size) :
  Calls Tryz.prog 102 #[.int .i64 5,v] w fun e w'=>∃ vo,e = .returned (.tuple #[.agg (rqv 5 em M.home u em ck cv vo 0 0 0).toArray,.int .i64 0])∧Ev.OpsAt w' B vo []∧Fr [] w w':=by
 have hs:Sh 5 em M.home u em ck cv 0 0 0 0:=.del _ _ _ hu hk hv
 have HI:=hid (fun W=>is_any W 5 (sh_kind hs).1 (sh_kind hs).2)
 have HL:=hid (fun W=>fields_any W 5 (sh_kind hs).1 (sh_kind hs).2)
 have HSz:=hid (show ((txt M.home++(txt u++(nb ck::nb cv::[]))):List UInt8).length≤100000 by have:=size_home;have:=low_size hu;simp[txt];omega)
 have HR:=hid (fun W (f:Fr [] w W)=>read_any W v _ (hb.fr f) (HSz.out))
 simp only[flC,has9,Int.reduceEq,if_true,if_false,List.map] at HL
 have HS:=hid hs
 have hu':=low_size hu
 obtain⟨k0,k1,k2⟩:=cond_range hk hv
 clear hu hk
 clear hs hb
 go_enter Tryz.func102,Tryz.ntmps102
 go_wp2_with (fail)
 refine(HI.out _).mono ?_
 rintro e w0 ⟨rfl,rfl⟩
 go_wp2_with (fail)
 refine(HL.out _).mono ?_
 rintro e w1 ⟨rfl,f1⟩
 have b1:=hid ((Holds.new w 41 (rqv 0 em em em em 0 0 (.slice none 0 0) 0 0 0).toArray).fr f1 (by simp))
 have F1:=hid (((Fr.refl [] w).alloc _).trans f1)
 clear f1
 go_wp2_with (fail)
 refine(HR.out _ (F1.out.alloc _)).mono ?_
 rintro e w2 ⟨r,rfl,rd2,hr2,f2⟩
 have D:=hid (Dc.begin (cs:=rqv 5 em em em em 0 0 (.slice none 0 0) 0 0 0) b1.out rfl F1.out rd2 hr2 f2)
 obtain⟨W3,hW3⟩:∃ W3,W3=(w2.alloc (.cells #[.pointer (some ⟨r,0,none⟩),.bool false] 230)).alloc (.cells (rqv 5 em em em em 0 0 (.slice none 0 0) 0 0 0).toArray 41):=⟨_,rfl⟩
 rw[←hW3] at D
 have hb2:=hid ((Holds.new w1 224 _).fr f2 (by simp))
 have hx3:=D.out.ne2
 have hg3:=D.out.ne1
 clear rd2 hr2 f2
 have a0h0:=hb2.out.cell 0
 have a0h1:=hb2.out.cell 1
 have hlt2:=hb2.out.lt
 simp at a0h0 a0h1
 go_wp2_with (fail)
 rw[←hW3]
 clear a0h0 a0h1 hlt2
 refine(text_any _ w2.heap.size r M.home _ D.out.rd size_home.2 size_home.1).mono ?_
 rintro e v0 ⟨rfl,q0,f0⟩
 have C0:=hid (D.out.call q0 (f0.mono (by simp)))
 clear q0 f0
 have b0h2:=C0.out.hb.cell 2
 have b0y2:=C0.out.qb.cell 2
 have b0z2:=C0.out.qb.frozen 2
 have b0lt:=C0.out.qb.lt
 simp at b0h2 b0y2
 go_wp2_with (fail)
 obtain⟨X0,hX0⟩:∃ X,X=(v0.setCell ⟨w2.heap.size+1,2,none⟩ (.string M.home)):=⟨_,rfl⟩
 have D0:=hid (C0.out.set 2 (.string M.home))
 rw[←hX0] at D0 ⊢
 clear b0h2 b0y2 b0z2 b0lt hX0
 refine(text_any _ w2.heap.size r u _ D0.out.rd (by omega) (by omega)).mono ?_
 rintro e v1 ⟨rfl,q1,f1⟩
 have C1:=hid (D0.out.call q1 (f1.mono (by simp)))
 clear q1 f1
 have b1h3:=C1.out.hb.cell 3
 have b1h4:=C1.out.hb.cell 4
 have b1y3:=C1.out.qb.cell 3
 have b1z3:=C1.out.qb.frozen 3
 have b1lt:=C1.out.qb.lt
 simp at b1h3 b1h4 b1y3
 go_wp2_with (fail)
 obtain⟨X1,hX1⟩:∃ X,X=(v1.setCell ⟨w2.heap.size+1,3,none⟩ (.string u)):=⟨_,rfl⟩
 have D1:=hid (C1.out.set 3 (.string u))
 rw[←hX1] at D1 ⊢
 clear b1h3 b1h4 b1y3 b1z3 b1lt hX1
 refine(cond_any _ w2.heap.size r ck cv _ D1.out.rd k0 k1 k2 hv).mono ?_
 rintro e v2 ⟨rfl,q2,f2⟩
 have C2:=hid (D1.out.call q2 f2)
 clear q2 f2
 have b2h5:=C2.out.hb.cell 5
 have b2h6:=C2.out.hb.cell 6
 have b2h7:=C2.out.hb.cell 7
 have b2h8:=C2.out.hb.cell 8
 have b2y5:=C2.out.qb.cell 5
 have b2y6:=C2.out.qb.cell 6
 have b2z5:=C2.out.qb.frozen 5
 have b2z6:=C2.out.qb.frozen 6
 have b2lt:=C2.out.qb.lt
 have b2x0:=C2.out.rd.box.cell 0
 have b2x1:=C2.out.rd.box.cell 1
 simp at b2h5 b2h6 b2h7 b2h8 b2y5 b2y6 b2x0 b2x1
 go_wp2_with (fail)
 obtain⟨X2,hX2⟩:∃ X,X=((v2.setCell ⟨w2.heap.size+1,5,none⟩ (.int .i64 ck)).setCell ⟨w2.heap.size+1,6,none⟩ (.int .i64 cv)):=⟨_,rfl⟩
 have D2:=hid ((C2.out.set 5 (.int .i64 ck)).set 6 (.int .i64 cv))
 rw[←hX2] at D2 ⊢
 clear b2h5 b2h6 b2h7 b2h8 b2y5 b2z5 b2y6 b2z6 b2lt hX2 b2x0 b2x1
 have HErr:=hid (err_any X2 r [] D2.out.rd.rd)
 have HLeft:=hid (left_any X2 r D2.out.rd.rd)
 have HCk:=hid (fun W=>checkv_any W B 0 0 5 em M.home u em ck cv 0 0 0 none [] HS.out (Own.nil _ _ _ _) rfl (by simp))
 simp only[rqv] at HCk
 refine HErr.out.mono ?_
 rintro e s1 ⟨rfl,rfl⟩
 have x0:=D2.out.rd.box.cell 0
 go_wp2_with (fail)
 refine HLeft.out.mono ?_
 rintro e s2 ⟨rfl,n2,hs2⟩
 have fs2:Fr [] X2 s2:=by rw[hs2];exact(Fr.refl _ _).drewN _
 have E2:=hid (D2.out.fr0 fs2)
 obtain⟨y0,y1,y2,y3,y4,y5,y6,y7,y8,y9,y10⟩:=E2.out.qb.cs11
 simp at y0 y1 y2 y3 y4 y5 y6 y7 y8 y9 y10
 have HCk2:=hid (HCk.out s2)
 clear hs2 x0
 go_wp2_with (fail)
 refine HCk2.out.mono ?_
 rintro e s3 ⟨rfl,f3⟩
 have E3:=hid (E2.out.fr0 f3)
 clear f3 y0 y1 y2 y3 y4 y5 y6 y7 y8 y9 y10
 obtain⟨y0,y1,y2,y3,y4,y5,y6,y7,y8,y9,y10⟩:=E3.out.qb.cs11
 obtain⟨r0,r1,r2,r3,r4,r5,r6,r7,r8,r9,r10⟩:=E3.out.res.cs11
 obtain⟨g0,g1,g2,g3,g4,g5,g6,g7,g8,g9,g10⟩:=E3.out.res.fz11
 have hrl:=E3.out.res.lt
 simp at y0 r0 g0 y1 r1 g1 y2 r2 g2 y3 r3 g3 y4 r4 g4 y5 r5 g5 y6 r6 g6 y7 r7 g7 y8 r8 g8 y9 r9 g9 y10 r10 g10
 go_wp2_with (fail)
 exact dec_end E3.out hB (Own.nil _ _ _ _:Ev.OpsAt _ B _ []) rfl rfl
theorem dec6 (w:World)(B:Nat)(v:Value)(u:ByteArray)(hu:M.lowS u=true)(hb:BIn w v (txt M.home++(txt u++[])))(hB:B≤w.heap.size) :
  Calls Tryz.prog 102 #[.int .i64 6,v] w fun e w'=>∃ vo,e = .returned (.tuple #[.agg (rqv 6 em M.home u em 0 0 vo 0 0 0).toArray,.int .i64 0])∧Ev.OpsAt w' B vo []∧Fr [] w w':=by
 have hs:Sh 6 em M.home u em 0 0 0 0 0 0:=.get _ hu
 have HI:=hid (fun W=>is_any W 6 (sh_kind hs).1 (sh_kind hs).2)
 have HL:=hid (fun W=>fields_any W 6 (sh_kind hs).1 (sh_kind hs).2)
 have HSz:=hid (show ((txt M.home++(txt u++[])):List UInt8).length≤100000 by have:=size_home;have:=low_size hu;simp[txt];omega)
 have HR:=hid (fun W (f:Fr [] w W)=>read_any W v _ (hb.fr f) (HSz.out))
 simp only[flC,has9,Int.reduceEq,if_true,if_false,List.map] at HL
 have HS:=hid hs
 have hu':=low_size hu
 clear hu
 clear hs hb
 go_enter Tryz.func102,Tryz.ntmps102
 go_wp2_with (fail)
 refine(HI.out _).mono ?_
 rintro e w0 ⟨rfl,rfl⟩
 go_wp2_with (fail)
 refine(HL.out _).mono ?_
 rintro e w1 ⟨rfl,f1⟩
 have b1:=hid ((Holds.new w 41 (rqv 0 em em em em 0 0 (.slice none 0 0) 0 0 0).toArray).fr f1 (by simp))
 have F1:=hid (((Fr.refl [] w).alloc _).trans f1)
 clear f1
 go_wp2_with (fail)
 refine(HR.out _ (F1.out.alloc _)).mono ?_
 rintro e w2 ⟨r,rfl,rd2,hr2,f2⟩
 have D:=hid (Dc.begin (cs:=rqv 6 em em em em 0 0 (.slice none 0 0) 0 0 0) b1.out rfl F1.out rd2 hr2 f2)
 obtain⟨W3,hW3⟩:∃ W3,W3=(w2.alloc (.cells #[.pointer (some ⟨r,0,none⟩),.bool false] 230)).alloc (.cells (rqv 6 em em em em 0 0 (.slice none 0 0) 0 0 0).toArray 41):=⟨_,rfl⟩
 rw[←hW3] at D
 have hb2:=hid ((Holds.new w1 224 _).fr f2 (by simp))
 have hx3:=D.out.ne2
 have hg3:=D.out.ne1
 clear rd2 hr2 f2
 have a0h0:=hb2.out.cell 0
 have a0h1:=hb2.out.cell 1
 have hlt2:=hb2.out.lt
 simp at a0h0 a0h1
 go_wp2_with (fail)
 rw[←hW3]
 clear a0h0 a0h1 hlt2
 refine(text_any _ w2.heap.size r M.home _ D.out.rd size_home.2 size_home.1).mono ?_
 rintro e v0 ⟨rfl,q0,f0⟩
 have C0:=hid (D.out.call q0 (f0.mono (by simp)))
 clear q0 f0
 have b0h2:=C0.out.hb.cell 2
 have b0y2:=C0.out.qb.cell 2
 have b0z2:=C0.out.qb.frozen 2
 have b0lt:=C0.out.qb.lt
 simp at b0h2 b0y2
 go_wp2_with (fail)
 obtain⟨X0,hX0⟩:∃ X,X=(v0.setCell ⟨w2.heap.size+1,2,none⟩ (.string M.home)):=⟨_,rfl⟩
 have D0:=hid (C0.out.set 2 (.string M.home))
 rw[←hX0] at D0 ⊢
 clear b0h2 b0y2 b0z2 b0lt hX0
 refine(text_any _ w2.heap.size r u _ D0.out.rd (by omega) (by omega)).mono ?_
 rintro e v1 ⟨rfl,q1,f1⟩
 have C1:=hid (D0.out.call q1 (f1.mono (by simp)))
 clear q1 f1
 have b1h3:=C1.out.hb.cell 3
 have b1h4:=C1.out.hb.cell 4
 have b1h5:=C1.out.hb.cell 5
 have b1h6:=C1.out.hb.cell 6
 have b1h7:=C1.out.hb.cell 7
 have b1h8:=C1.out.hb.cell 8
 have b1y3:=C1.out.qb.cell 3
 have b1z3:=C1.out.qb.frozen 3
 have b1lt:=C1.out.qb.lt
 have b1x0:=C1.out.rd.box.cell 0
 have b1x1:=C1.out.rd.box.cell 1
 simp at b1h3 b1h4 b1h5 b1h6 b1h7 b1h8 b1y3 b1x0 b1x1
 go_wp2_with (fail)
 obtain⟨X1,hX1⟩:∃ X,X=(v1.setCell ⟨w2.heap.size+1,3,none⟩ (.string u)):=⟨_,rfl⟩
 have D1:=hid (C1.out.set 3 (.string u))
 rw[←hX1] at D1 ⊢
 clear b1h3 b1h4 b1h5 b1h6 b1h7 b1h8 b1y3 b1z3 b1lt hX1 b1x0 b1x1
 have HErr:=hid (err_any X1 r [] D1.out.rd.rd)
 have HLeft:=hid (left_any X1 r D1.out.rd.rd)
 have HCk:=hid (fun W=>checkv_any W B 0 0 6 em M.home u em 0 0 0 0 0 none [] HS.out (Own.nil _ _ _ _) rfl (by simp))
 simp only[rqv] at HCk
 refine HErr.out.mono ?_
 rintro e s1 ⟨rfl,rfl⟩
 have x0:=D1.out.rd.box.cell 0
 go_wp2_with (fail)
 refine HLeft.out.mono ?_
 rintro e s2 ⟨rfl,n2,hs2⟩
 have fs2:Fr [] X1 s2:=by rw[hs2];exact(Fr.refl _ _).drewN _
 have E2:=hid (D1.out.fr0 fs2)
 obtain⟨y0,y1,y2,y3,y4,y5,y6,y7,y8,y9,y10⟩:=E2.out.qb.cs11
 simp at y0 y1 y2 y3 y4 y5 y6 y7 y8 y9 y10
 have HCk2:=hid (HCk.out s2)
 clear hs2 x0
 go_wp2_with (fail)
 refine HCk2.out.mono ?_
 rintro e s3 ⟨rfl,f3⟩
 have E3:=hid (E2.out.fr0 f3)
 clear f3 y0 y1 y2 y3 y4 y5 y6 y7 y8 y9 y10
 obtain⟨y0,y1,y2,y3,y4,y5,y6,y7,y8,y9,y10⟩:=E3.out.qb.cs11
 obtain⟨r0,r1,r2,r3,r4,r5,r6,r7,r8,r9,r10⟩:=E3.out.res.cs11
 obtain⟨g0,g1,g2,g3,g4,g5,g6,g7,g8,g9,g10⟩:=E3.out.res.fz11
 have hrl:=E3.out.res.lt
 simp at y0 r0 g0 y1 r1 g1 y2 r2 g2 y3 r3 g3 y4 r4 g4 y5 r5 g5 y6 r6 g6 y7 r7 g7 y8 r8 g8 y9 r9 g9 y10 r10 g10
 go_wp2_with (fail)
 exact dec_end E3.out hB (Own.nil _ _ _ _:Ev.OpsAt _ B _ []) rfl rfl
theorem dec7 (w:World)(B:Nat)(v:Value)(l:List M.Op)(h1:1≤l.length)(h2:l.length≤8)(hop:∀ o,o∈l→OpOk o)(hb:BIn w v (txt M.home++(nb l.length::l.flatMap En.opB)))(hB:B≤w.heap.size) :
  Calls Tryz.prog 102 #[.int .i64 7,v] w fun e w'=>∃ vo,e = .returned (.tuple #[.agg (rqv 7 em M.home em em 0 0 vo 0 0 0).toArray,.int .i64 0])∧Ev.OpsAt w' B vo l∧Fr [] w w':=by
 have hs:Sh 7 em M.home em em 0 0 l.length 0 0 0:=.batch _ h1 h2
 have HI:=hid (fun W=>is_any W 7 (sh_kind hs).1 (sh_kind hs).2)
 have HL:=hid (fun W=>fields_any W 7 (sh_kind hs).1 (sh_kind hs).2)
 have HSz:=hid (show ((txt M.home++(nb l.length::l.flatMap En.opB)):List UInt8).length≤100000 by have:=size_home;have:=ops_size hop;have e:(txt M.home).length=M.home.size+1:=(by simp[txt]);rw[List.length_append,List.length_cons,e];omega)
 have HR:=hid (fun W (f:Fr [] w W)=>read_any W v _ (hb.fr f) (HSz.out))
 simp only[flC,has9,Int.reduceEq,if_true,if_false,List.map] at HL
 have HS:=hid hs
 have HO:=hid hop
 clear hop
 clear hs hb
 go_enter Tryz.func102,Tryz.ntmps102
 go_wp2_with (fail)
 refine(HI.out _).mono ?_
 rintro e w0 ⟨rfl,rfl⟩
 go_wp2_with (fail)
 refine(HL.out _).mono ?_
 rintro e w1 ⟨rfl,f1⟩
 have b1:=hid ((Holds.new w 41 (rqv 0 em em em em 0 0 (.slice none 0 0) 0 0 0).toArray).fr f1 (by simp))
 have F1:=hid (((Fr.refl [] w).alloc _).trans f1)
 clear f1
 go_wp2_with (fail)
 refine(HR.out _ (F1.out.alloc _)).mono ?_
 rintro e w2 ⟨r,rfl,rd2,hr2,f2⟩
 have D:=hid (Dc.begin (cs:=rqv 7 em em em em 0 0 (.slice none 0 0) 0 0 0) b1.out rfl F1.out rd2 hr2 f2)
 obtain⟨W3,hW3⟩:∃ W3,W3=(w2.alloc (.cells #[.pointer (some ⟨r,0,none⟩),.bool false] 230)).alloc (.cells (rqv 7 em em em em 0 0 (.slice none 0 0) 0 0 0).toArray 41):=⟨_,rfl⟩
 rw[←hW3] at D
 have hb2:=hid ((Holds.new w1 224 _).fr f2 (by simp))
 have hx3:=D.out.ne2
 have hg3:=D.out.ne1
 clear rd2 hr2 f2
 have a0h0:=hb2.out.cell 0
 have a0h1:=hb2.out.cell 1
 have hlt2:=hb2.out.lt
 simp at a0h0 a0h1
 go_wp2_with (fail)
 rw[←hW3]
 clear a0h0 a0h1 hlt2
 refine(text_any _ w2.heap.size r M.home _ D.out.rd size_home.2 size_home.1).mono ?_
 rintro e v0 ⟨rfl,q0,f0⟩
 have C0:=hid (D.out.call q0 (f0.mono (by simp)))
 clear q0 f0
 have b0h2:=C0.out.hb.cell 2
 have b0h3:=C0.out.hb.cell 3
 have b0h4:=C0.out.hb.cell 4
 have b0h5:=C0.out.hb.cell 5
 have b0y2:=C0.out.qb.cell 2
 have b0z2:=C0.out.qb.frozen 2
 have b0lt:=C0.out.qb.lt
 simp at b0h2 b0h3 b0h4 b0h5 b0y2
 go_wp2_with (fail)
 obtain⟨X0,hX0⟩:∃ X,X=(v0.setCell ⟨w2.heap.size+1,2,none⟩ (.string M.home)):=⟨_,rfl⟩
 have D0:=hid (C0.out.set 2 (.string M.home))
 rw[←hX0] at D0 ⊢
 clear b0h2 b0h3 b0h4 b0h5 b0y2 b0z2 b0lt hX0
 refine(ops_any _ B w2.heap.size r l D0.out.rd (Nat.le_trans hB D0.out.fr.size) ⟨Nat.le_trans hB D0.out.l3,Nat.le_trans hB D0.out.l2⟩ HO.out h2).mono ?_
 rintro e v1 ⟨vo,rfl,ho,q1,f1⟩
 obtain⟨oa,oc,rfl⟩:=Own.form ho
 have HOps:=hid ho
 clear ho
 have C1:=hid (D0.out.call q1 f1)
 clear q1 f1
 have b1h6:=C1.out.hb.cell 6
 have b1h7:=C1.out.hb.cell 7
 have b1h8:=C1.out.hb.cell 8
 have b1y7:=C1.out.qb.cell 7
 have b1z7:=C1.out.qb.frozen 7
 have b1lt:=C1.out.qb.lt
 have b1x0:=C1.out.rd.box.cell 0
 have b1x1:=C1.out.rd.box.cell 1
 simp at b1h6 b1h7 b1h8 b1y7 b1x0 b1x1
 go_wp2_with (fail)
 obtain⟨X1,hX1⟩:∃ X,X=(v1.setCell ⟨w2.heap.size+1,7,none⟩ (.slice oa l.length oc)):=⟨_,rfl⟩
 have D1:=hid (C1.out.set 7 (.slice oa l.length oc))
 rw[←hX1] at D1 ⊢
 have HO7:=hid (show Ev.OpsAt X1 B (.slice oa l.length oc) l by rw[hX1];exact HOps.out.frx0 (FrX.of_frT (Ts:=[41]) ((Fr.refl [w2.heap.size+1] _).setCell (by simp) _) (by have:=C1.out.l1;simp;omega) (fun y hy=>⟨41,by simp,by simp at hy;subst hy;exact C1.out.qb.ty⟩)) (by decide))
 clear b1h6 b1h7 b1h8 b1y7 b1z7 b1lt hX1 b1x0 b1x1
 have HErr:=hid (err_any X1 r [] D1.out.rd.rd)
 have HLeft:=hid (left_any X1 r D1.out.rd.rd)
 have HCk:=hid (fun W (f:Fr [] X1 W)=>checkv_any W B l.length oc 7 em M.home em em 0 0 0 0 0 oa l HS.out (Own.fr0 HO7.out f) rfl HO.out)
 simp only[rqv] at HCk
 refine HErr.out.mono ?_
 rintro e s1 ⟨rfl,rfl⟩
 have x0:=D1.out.rd.box.cell 0
 go_wp2_with (fail)
 refine HLeft.out.mono ?_
 rintro e s2 ⟨rfl,n2,hs2⟩
 have fs2:Fr [] X1 s2:=by rw[hs2];exact(Fr.refl _ _).drewN _
 have E2:=hid (D1.out.fr0 fs2)
 obtain⟨y0,y1,y2,y3,y4,y5,y6,y7,y8,y9,y10⟩:=E2.out.qb.cs11
 simp at y0 y1 y2 y3 y4 y5 y6 y7 y8 y9 y10
 have HCk2:=hid (HCk.out s2 fs2)
 have HO8:=hid (Own.fr0 HO7.out fs2)
 clear hs2 x0
 go_wp2_with (fail)
 refine HCk2.out.mono ?_
 rintro e s3 ⟨rfl,f3⟩
 have E3:=hid (E2.out.fr0 f3)
 have HO9:=hid (Own.fr0 HO8.out f3)
 clear f3 y0 y1 y2 y3 y4 y5 y6 y7 y8 y9 y10
 obtain⟨y0,y1,y2,y3,y4,y5,y6,y7,y8,y9,y10⟩:=E3.out.qb.cs11
 obtain⟨r0,r1,r2,r3,r4,r5,r6,r7,r8,r9,r10⟩:=E3.out.res.cs11
 obtain⟨g0,g1,g2,g3,g4,g5,g6,g7,g8,g9,g10⟩:=E3.out.res.fz11
 have hrl:=E3.out.res.lt
 simp at y0 r0 g0 y1 r1 g1 y2 r2 g2 y3 r3 g3 y4 r4 g4 y5 r5 g5 y6 r6 g6 y7 r7 g7 y8 r8 g8 y9 r9 g9 y10 r10 g10
 go_wp2_with (fail)
 exact dec_end E3.out hB HO9.out rfl rfl
theorem dec8 (w:World)(B:Nat)(v:Value)(tk ms:Int)(h1:0≤tk)(h2:tk≤247)(h3:1≤ms)(h4:ms≤247)(hb:BIn w v (txt M.home++(nb tk::(nb ms::[]))))(hB:B≤w.heap.size) :
  Calls Tryz.prog 102 #[.int .i64 8,v] w fun e w'=>∃ vo,e = .returned (.tuple #[.agg (rqv 8 em M.home em em 0 0 vo tk ms 0).toArray,.int .i64 0])∧Ev.OpsAt w' B vo []∧Fr [] w w':=by
 have hs:Sh 8 em M.home em em 0 0 0 tk ms 0:=.delta _ _ h1 h2 h3 h4
 have HI:=hid (fun W=>is_any W 8 (sh_kind hs).1 (sh_kind hs).2)
 have HL:=hid (fun W=>fields_any W 8 (sh_kind hs).1 (sh_kind hs).2)
 have HSz:=hid (show ((txt M.home++(nb tk::(nb ms::[]))):List UInt8).length≤100000 by have:=size_home;simp[txt];omega)
 have HR:=hid (fun W (f:Fr [] w W)=>read_any W v _ (hb.fr f) (HSz.out))
 simp only[flC,has9,Int.reduceEq,if_true,if_false,List.map] at HL
 have HS:=hid hs
 clear hs hb
 go_enter Tryz.func102,Tryz.ntmps102
 go_wp2_with (fail)
 refine(HI.out _).mono ?_
 rintro e w0 ⟨rfl,rfl⟩
 go_wp2_with (fail)
 refine(HL.out _).mono ?_
 rintro e w1 ⟨rfl,f1⟩
 have b1:=hid ((Holds.new w 41 (rqv 0 em em em em 0 0 (.slice none 0 0) 0 0 0).toArray).fr f1 (by simp))
 have F1:=hid (((Fr.refl [] w).alloc _).trans f1)
 clear f1
 go_wp2_with (fail)
 refine(HR.out _ (F1.out.alloc _)).mono ?_
 rintro e w2 ⟨r,rfl,rd2,hr2,f2⟩
 have D:=hid (Dc.begin (cs:=rqv 8 em em em em 0 0 (.slice none 0 0) 0 0 0) b1.out rfl F1.out rd2 hr2 f2)
 obtain⟨W3,hW3⟩:∃ W3,W3=(w2.alloc (.cells #[.pointer (some ⟨r,0,none⟩),.bool false] 230)).alloc (.cells (rqv 8 em em em em 0 0 (.slice none 0 0) 0 0 0).toArray 41):=⟨_,rfl⟩
 rw[←hW3] at D
 have hb2:=hid ((Holds.new w1 224 _).fr f2 (by simp))
 have hx3:=D.out.ne2
 have hg3:=D.out.ne1
 clear rd2 hr2 f2
 have a0h0:=hb2.out.cell 0
 have a0h1:=hb2.out.cell 1
 have hlt2:=hb2.out.lt
 simp at a0h0 a0h1
 go_wp2_with (fail)
 rw[←hW3]
 clear a0h0 a0h1 hlt2
 refine(text_any _ w2.heap.size r M.home _ D.out.rd size_home.2 size_home.1).mono ?_
 rintro e v0 ⟨rfl,q0,f0⟩
 have C0:=hid (D.out.call q0 (f0.mono (by simp)))
 clear q0 f0
 have b0h2:=C0.out.hb.cell 2
 have b0h3:=C0.out.hb.cell 3
 have b0h4:=C0.out.hb.cell 4
 have b0h5:=C0.out.hb.cell 5
 have b0h6:=C0.out.hb.cell 6
 have b0y2:=C0.out.qb.cell 2
 have b0z2:=C0.out.qb.frozen 2
 have b0lt:=C0.out.qb.lt
 have b0x0:=C0.out.rd.box.cell 0
 have b0x1:=C0.out.rd.box.cell 1
 simp at b0h2 b0h3 b0h4 b0h5 b0h6 b0y2 b0x0 b0x1
 go_wp2_with (fail)
 obtain⟨X0,hX0⟩:∃ X,X=(v0.setCell ⟨w2.heap.size+1,2,none⟩ (.string M.home)):=⟨_,rfl⟩
 have D0:=hid (C0.out.set 2 (.string M.home))
 rw[←hX0] at D0 ⊢
 clear b0h2 b0h3 b0h4 b0h5 b0h6 b0y2 b0z2 b0lt hX0 b0x0 b0x1
 have HP:=hid (pnum_any _ w2.heap.size r (nb tk) _ D0.out.rd (by have:=nb_toNat (n:=tk) h1 (by omega);omega))
 rw[nb_toNat (n:=tk) h1 (by omega)] at HP
 refine HP.out.mono ?_
 rintro e v1 ⟨rfl,q1,f1⟩
 have C1:=hid (D0.out.call q1 (f1.mono (by simp)))
 clear q1 f1
 have b1h7:=C1.out.hb.cell 7
 have b1y8:=C1.out.qb.cell 8
 have b1z8:=C1.out.qb.frozen 8
 have b1lt:=C1.out.qb.lt
 simp at b1h7 b1y8
 go_wp2_with (fail)
 obtain⟨X1,hX1⟩:∃ X,X=(v1.setCell ⟨w2.heap.size+1,8,none⟩ (.int .i64 tk)):=⟨_,rfl⟩
 have D1:=hid (C1.out.set 8 (.int .i64 tk))
 rw[←hX1] at D1 ⊢
 clear b1h7 b1y8 b1z8 b1lt hX1
 have HP:=hid (num_any _ w2.heap.size r (nb ms) _ D1.out.rd (by have:=nb_toNat (n:=ms) (by omega) (by omega);omega))
 rw[nb_toNat (n:=ms) (by omega) (by omega)] at HP
 refine HP.out.mono ?_
 rintro e v2 ⟨rfl,q2,f2⟩
 have C2:=hid (D1.out.call q2 f2)
 clear q2 f2
 have b2h8:=C2.out.hb.cell 8
 have b2y9:=C2.out.qb.cell 9
 have b2z9:=C2.out.qb.frozen 9
 have b2lt:=C2.out.qb.lt
 have b2x0:=C2.out.rd.box.cell 0
 have b2x1:=C2.out.rd.box.cell 1
 simp at b2h8 b2y9 b2x0 b2x1
 go_wp2_with (fail)
 obtain⟨X2,hX2⟩:∃ X,X=(v2.setCell ⟨w2.heap.size+1,9,none⟩ (.int .i64 ms)):=⟨_,rfl⟩
 have D2:=hid (C2.out.set 9 (.int .i64 ms))
 rw[←hX2] at D2 ⊢
 clear b2h8 b2y9 b2z9 b2lt hX2 b2x0 b2x1
 have HErr:=hid (err_any X2 r [] D2.out.rd.rd)
 have HLeft:=hid (left_any X2 r D2.out.rd.rd)
 have HCk:=hid (fun W=>checkv_any W B 0 0 8 em M.home em em 0 0 tk ms 0 none [] HS.out (Own.nil _ _ _ _) rfl (by simp))
 simp only[rqv] at HCk
 refine HErr.out.mono ?_
 rintro e s1 ⟨rfl,rfl⟩
 have x0:=D2.out.rd.box.cell 0
 go_wp2_with (fail)
 refine HLeft.out.mono ?_
 rintro e s2 ⟨rfl,n2,hs2⟩
 have fs2:Fr [] X2 s2:=by rw[hs2];exact(Fr.refl _ _).drewN _
 have E2:=hid (D2.out.fr0 fs2)
 obtain⟨y0,y1,y2,y3,y4,y5,y6,y7,y8,y9,y10⟩:=E2.out.qb.cs11
 simp at y0 y1 y2 y3 y4 y5 y6 y7 y8 y9 y10
 have HCk2:=hid (HCk.out s2)
 clear hs2 x0
 go_wp2_with (fail)
 refine HCk2.out.mono ?_
 rintro e s3 ⟨rfl,f3⟩
 have E3:=hid (E2.out.fr0 f3)
 clear f3 y0 y1 y2 y3 y4 y5 y6 y7 y8 y9 y10
 obtain⟨y0,y1,y2,y3,y4,y5,y6,y7,y8,y9,y10⟩:=E3.out.qb.cs11
 obtain⟨r0,r1,r2,r3,r4,r5,r6,r7,r8,r9,r10⟩:=E3.out.res.cs11
 obtain⟨g0,g1,g2,g3,g4,g5,g6,g7,g8,g9,g10⟩:=E3.out.res.fz11
 have hrl:=E3.out.res.lt
 simp at y0 r0 g0 y1 r1 g1 y2 r2 g2 y3 r3 g3 y4 r4 g4 y5 r5 g5 y6 r6 g6 y7 r7 g7 y8 r8 g8 y9 r9 g9 y10 r10 g10
 go_wp2_with (fail)
 exact dec_end E3.out hB (Own.nil _ _ _ _:Ev.OpsAt _ B _ []) rfl rfl
theorem dec9 (w:World)(B:Nat)(v:Value)(tk tc:Int)(h1:0≤tk)(h2:tk≤247)(h3:0≤tc)(h4:tc≤247)(hb:BIn w v (txt M.home++(nb tk::(nb tc::[]))))(hB:B≤w.heap.size) :
  Calls Tryz.prog 102 #[.int .i64 9,v] w fun e w'=>∃ vo,e = .returned (.tuple #[.agg (rqv 9 em M.home em em 0 0 vo tk 0 tc).toArray,.int .i64 0])∧Ev.OpsAt w' B vo []∧Fr [] w w':=by
 have hs:Sh 9 em M.home em em 0 0 0 tk 0 tc:=.wait _ _ h1 h2 h3 h4
 have HI:=hid (fun W=>is_any W 9 (sh_kind hs).1 (sh_kind hs).2)
 have HL:=hid (fun W=>fields_any W 9 (sh_kind hs).1 (sh_kind hs).2)
 have HSz:=hid (show ((txt M.home++(nb tk::(nb tc::[]))):List UInt8).length≤100000 by have:=size_home;simp[txt];omega)
 have HR:=hid (fun W (f:Fr [] w W)=>read_any W v _ (hb.fr f) (HSz.out))
 simp only[flC,has9,Int.reduceEq,if_true,if_false,List.map] at HL
 have HS:=hid hs
 clear hs hb
 go_enter Tryz.func102,Tryz.ntmps102
 go_wp2_with (fail)
 refine(HI.out _).mono ?_
 rintro e w0 ⟨rfl,rfl⟩
 go_wp2_with (fail)
 refine(HL.out _).mono ?_
 rintro e w1 ⟨rfl,f1⟩
 have b1:=hid ((Holds.new w 41 (rqv 0 em em em em 0 0 (.slice none 0 0) 0 0 0).toArray).fr f1 (by simp))
 have F1:=hid (((Fr.refl [] w).alloc _).trans f1)
 clear f1
 go_wp2_with (fail)
 refine(HR.out _ (F1.out.alloc _)).mono ?_
 rintro e w2 ⟨r,rfl,rd2,hr2,f2⟩
 have D:=hid (Dc.begin (cs:=rqv 9 em em em em 0 0 (.slice none 0 0) 0 0 0) b1.out rfl F1.out rd2 hr2 f2)
 obtain⟨W3,hW3⟩:∃ W3,W3=(w2.alloc (.cells #[.pointer (some ⟨r,0,none⟩),.bool false] 230)).alloc (.cells (rqv 9 em em em em 0 0 (.slice none 0 0) 0 0 0).toArray 41):=⟨_,rfl⟩
 rw[←hW3] at D
 have hb2:=hid ((Holds.new w1 224 _).fr f2 (by simp))
 have hx3:=D.out.ne2
 have hg3:=D.out.ne1
 clear rd2 hr2 f2
 have a0h0:=hb2.out.cell 0
 have a0h1:=hb2.out.cell 1
 have hlt2:=hb2.out.lt
 simp at a0h0 a0h1
 go_wp2_with (fail)
 rw[←hW3]
 clear a0h0 a0h1 hlt2
 refine(text_any _ w2.heap.size r M.home _ D.out.rd size_home.2 size_home.1).mono ?_
 rintro e v0 ⟨rfl,q0,f0⟩
 have C0:=hid (D.out.call q0 (f0.mono (by simp)))
 clear q0 f0
 have b0h2:=C0.out.hb.cell 2
 have b0h3:=C0.out.hb.cell 3
 have b0h4:=C0.out.hb.cell 4
 have b0h5:=C0.out.hb.cell 5
 have b0h6:=C0.out.hb.cell 6
 have b0y2:=C0.out.qb.cell 2
 have b0z2:=C0.out.qb.frozen 2
 have b0lt:=C0.out.qb.lt
 have b0x0:=C0.out.rd.box.cell 0
 have b0x1:=C0.out.rd.box.cell 1
 simp at b0h2 b0h3 b0h4 b0h5 b0h6 b0y2 b0x0 b0x1
 go_wp2_with (fail)
 obtain⟨X0,hX0⟩:∃ X,X=(v0.setCell ⟨w2.heap.size+1,2,none⟩ (.string M.home)):=⟨_,rfl⟩
 have D0:=hid (C0.out.set 2 (.string M.home))
 rw[←hX0] at D0 ⊢
 clear b0h2 b0h3 b0h4 b0h5 b0h6 b0y2 b0z2 b0lt hX0 b0x0 b0x1
 have HP:=hid (pnum_any _ w2.heap.size r (nb tk) _ D0.out.rd (by have:=nb_toNat (n:=tk) h1 (by omega);omega))
 rw[nb_toNat (n:=tk) h1 (by omega)] at HP
 refine HP.out.mono ?_
 rintro e v1 ⟨rfl,q1,f1⟩
 have C1:=hid (D0.out.call q1 (f1.mono (by simp)))
 clear q1 f1
 have b1h7:=C1.out.hb.cell 7
 have b1h8:=C1.out.hb.cell 8
 have b1y8:=C1.out.qb.cell 8
 have b1z8:=C1.out.qb.frozen 8
 have b1lt:=C1.out.qb.lt
 simp at b1h7 b1h8 b1y8
 go_wp2_with (fail)
 obtain⟨X1,hX1⟩:∃ X,X=(v1.setCell ⟨w2.heap.size+1,8,none⟩ (.int .i64 tk)):=⟨_,rfl⟩
 have D1:=hid (C1.out.set 8 (.int .i64 tk))
 rw[←hX1] at D1 ⊢
 clear b1h7 b1h8 b1y8 b1z8 b1lt hX1
 have HP:=hid (num_any _ w2.heap.size r (nb tc) _ D1.out.rd (by have:=nb_toNat (n:=tc) (by omega) (by omega);omega))
 rw[nb_toNat (n:=tc) (by omega) (by omega)] at HP
 refine HP.out.mono ?_
 rintro e v2 ⟨rfl,q2,f2⟩
 have C2:=hid (D1.out.call q2 f2)
 clear q2 f2
 have b2y10:=C2.out.qb.cell 10
 have b2z10:=C2.out.qb.frozen 10
 have b2lt:=C2.out.qb.lt
 have b2x0:=C2.out.rd.box.cell 0
 have b2x1:=C2.out.rd.box.cell 1
 simp at b2y10 b2x0 b2x1
 go_wp2_with (fail)
 obtain⟨X2,hX2⟩:∃ X,X=(v2.setCell ⟨w2.heap.size+1,10,none⟩ (.int .i64 tc)):=⟨_,rfl⟩
 have D2:=hid (C2.out.set 10 (.int .i64 tc))
 rw[←hX2] at D2 ⊢
 clear b2y10 b2z10 b2lt hX2 b2x0 b2x1
 have HErr:=hid (err_any X2 r [] D2.out.rd.rd)
 have HLeft:=hid (left_any X2 r D2.out.rd.rd)
 have HCk:=hid (fun W=>checkv_any W B 0 0 9 em M.home em em 0 0 tk 0 tc none [] HS.out (Own.nil _ _ _ _) rfl (by simp))
 simp only[rqv] at HCk
 refine HErr.out.mono ?_
 rintro e s1 ⟨rfl,rfl⟩
 have x0:=D2.out.rd.box.cell 0
 go_wp2_with (fail)
 refine HLeft.out.mono ?_
 rintro e s2 ⟨rfl,n2,hs2⟩
 have fs2:Fr [] X2 s2:=by rw[hs2];exact(Fr.refl _ _).drewN _
 have E2:=hid (D2.out.fr0 fs2)
 obtain⟨y0,y1,y2,y3,y4,y5,y6,y7,y8,y9,y10⟩:=E2.out.qb.cs11
 simp at y0 y1 y2 y3 y4 y5 y6 y7 y8 y9 y10
 have HCk2:=hid (HCk.out s2)
 clear hs2 x0
 go_wp2_with (fail)
 refine HCk2.out.mono ?_
 rintro e s3 ⟨rfl,f3⟩
 have E3:=hid (E2.out.fr0 f3)
 clear f3 y0 y1 y2 y3 y4 y5 y6 y7 y8 y9 y10
 obtain⟨y0,y1,y2,y3,y4,y5,y6,y7,y8,y9,y10⟩:=E3.out.qb.cs11
 obtain⟨r0,r1,r2,r3,r4,r5,r6,r7,r8,r9,r10⟩:=E3.out.res.cs11
 obtain⟨g0,g1,g2,g3,g4,g5,g6,g7,g8,g9,g10⟩:=E3.out.res.fz11
 have hrl:=E3.out.res.lt
 simp at y0 r0 g0 y1 r1 g1 y2 r2 g2 y3 r3 g3 y4 r4 g4 y5 r5 g5 y6 r6 g6 y7 r7 g7 y8 r8 g8 y9 r9 g9 y10 r10 g10
 go_wp2_with (fail)
 exact dec_end E3.out hB (Own.nil _ _ _ _:Ev.OpsAt _ B _ []) rfl rfl
theorem dec10 (w:World)(B:Nat)(v:Value)  (hb:BIn w v [])(hB:B≤w.heap.size) :
  Calls Tryz.prog 102 #[.int .i64 10,v] w fun e w'=>∃ vo,e = .returned (.tuple #[.agg (rqv 10 em em em em 0 0 vo 0 0 0).toArray,.int .i64 0])∧Ev.OpsAt w' B vo []∧Fr [] w w':=by
 have hs:Sh 10 em em em em 0 0 0 0 0 0:=.list
 have HI:=hid (fun W=>is_any W 10 (sh_kind hs).1 (sh_kind hs).2)
 have HL:=hid (fun W=>fields_any W 10 (sh_kind hs).1 (sh_kind hs).2)
 have HSz:=hid (show ([]:List UInt8).length≤100000 by simp)
 have HR:=hid (fun W (f:Fr [] w W)=>read_any W v _ (hb.fr f) (HSz.out))
 simp only[flC,has9,Int.reduceEq,if_true,if_false,List.map] at HL
 have HS:=hid hs
 clear hs hb
 go_enter Tryz.func102,Tryz.ntmps102
 go_wp2_with (fail)
 refine(HI.out _).mono ?_
 rintro e w0 ⟨rfl,rfl⟩
 go_wp2_with (fail)
 refine(HL.out _).mono ?_
 rintro e w1 ⟨rfl,f1⟩
 have b1:=hid ((Holds.new w 41 (rqv 0 em em em em 0 0 (.slice none 0 0) 0 0 0).toArray).fr f1 (by simp))
 have F1:=hid (((Fr.refl [] w).alloc _).trans f1)
 clear f1
 go_wp2_with (fail)
 refine(HR.out _ (F1.out.alloc _)).mono ?_
 rintro e w2 ⟨r,rfl,rd2,hr2,f2⟩
 have D:=hid (Dc.begin (cs:=rqv 10 em em em em 0 0 (.slice none 0 0) 0 0 0) b1.out rfl F1.out rd2 hr2 f2)
 obtain⟨W3,hW3⟩:∃ W3,W3=(w2.alloc (.cells #[.pointer (some ⟨r,0,none⟩),.bool false] 230)).alloc (.cells (rqv 10 em em em em 0 0 (.slice none 0 0) 0 0 0).toArray 41):=⟨_,rfl⟩
 rw[←hW3] at D
 have hb2:=hid ((Holds.new w1 224 _).fr f2 (by simp))
 have hx3:=D.out.ne2
 have hg3:=D.out.ne1
 clear rd2 hr2 f2
 obtain⟨a0h0,a0h1,a0h2,a0h3,a0h4,a0h5,a0h6,a0h7,a0h8⟩:=hb2.out.cs9
 have hlt2:=hb2.out.lt
 simp at a0h0 a0h1 a0h2 a0h3 a0h4 a0h5 a0h6 a0h7 a0h8
 go_wp2_with (fail)
 rw[←hW3]
 clear a0h0 a0h1 a0h2 a0h3 a0h4 a0h5 a0h6 a0h7 a0h8 hlt2 hW3
 have HErr:=hid (err_any W3 r [] D.out.rd.rd)
 have HLeft:=hid (left_any W3 r D.out.rd.rd)
 have HCk:=hid (fun W=>checkv_any W B 0 0 10 em em em em 0 0 0 0 0 none [] HS.out (Own.nil _ _ _ _) rfl (by simp))
 simp only[rqv] at HCk
 refine HErr.out.mono ?_
 rintro e s1 ⟨rfl,rfl⟩
 have x0:=D.out.rd.box.cell 0
 go_wp2_with (fail)
 refine HLeft.out.mono ?_
 rintro e s2 ⟨rfl,n2,hs2⟩
 have fs2:Fr [] W3 s2:=by rw[hs2];exact(Fr.refl _ _).drewN _
 have E2:=hid (D.out.fr0 fs2)
 obtain⟨y0,y1,y2,y3,y4,y5,y6,y7,y8,y9,y10⟩:=E2.out.qb.cs11
 simp at y0 y1 y2 y3 y4 y5 y6 y7 y8 y9 y10
 have HCk2:=hid (HCk.out s2)
 clear hs2 x0
 go_wp2_with (fail)
 refine HCk2.out.mono ?_
 rintro e s3 ⟨rfl,f3⟩
 have E3:=hid (E2.out.fr0 f3)
 clear f3 y0 y1 y2 y3 y4 y5 y6 y7 y8 y9 y10
 obtain⟨y0,y1,y2,y3,y4,y5,y6,y7,y8,y9,y10⟩:=E3.out.qb.cs11
 obtain⟨r0,r1,r2,r3,r4,r5,r6,r7,r8,r9,r10⟩:=E3.out.res.cs11
 obtain⟨g0,g1,g2,g3,g4,g5,g6,g7,g8,g9,g10⟩:=E3.out.res.fz11
 have hrl:=E3.out.res.lt
 simp at y0 r0 g0 y1 r1 g1 y2 r2 g2 y3 r3 g3 y4 r4 g4 y5 r5 g5 y6 r6 g6 y7 r7 g7 y8 r8 g8 y9 r9 g9 y10 r10 g10
 go_wp2_with (fail)
 exact dec_end E3.out hB (Own.nil _ _ _ _:Ev.OpsAt _ B _ []) rfl rfl
end Go.Proofs.YtjmkkcckfbnmeaaGreatDoor.Rq
