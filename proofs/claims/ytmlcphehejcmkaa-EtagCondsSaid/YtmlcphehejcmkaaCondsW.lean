/- The walk of EtagConds. -/
import Derived.Test.YtmlcphehejcmkaaFst
namespace Go.Proofs.Ytmlcphehejcmkaa
open Go.RowKit

set_option maxRecDepth 100000 in
set_option maxHeartbeats 4000000 in
theorem conds_no (k cv : Int) (there : Bool) (v : Int) (w : World) (hcv : cv ≤ 9223372036854775807) (hm : condOk k cv = false) :
    Calls Try.prog 6 #[.agg #[.int .i64 k, .int .i64 cv], .bool there, .int .i64 v] w fun e w' => e = .returned (.bool true) ∧ Fr [] w w' := by
  have t1 : text1 k cv = ⟨#[]⟩ := by simp [text1, hm]; rfl
  have t2 : text2 k cv = ⟨#[]⟩ := by simp [text2, hm]; rfl
  have hh : holdsB k cv there v = false := by simp [holdsB, hm]
  have q0 := Holds.new w 29 #[.int .i64 k, .int .i64 cv]
  have f0 : Fr [] w (w.alloc (.cells #[.int .i64 k, .int .i64 cv] 29)) := (Fr.refl _ _).alloc _
  have T1 := Lib.hid t1
  have T2 := Lib.hid t2
  have HH := Lib.hid hh
  have HM := Lib.hid hm
  clear t1 t2 hh hm
  go_enter Try.func6, Try.ntmps6
  go_wp2_with fail
  refine (first_true _).mono ?_
  rintro e wa ⟨rfl, f1⟩
  have q1 := q0.fr f1 (by simp)
  have fa := f0.trans f1
  obtain ⟨g, hg⟩ : ∃ g, g = w.heap.size := ⟨_, rfl⟩
  rw [← hg] at q1 ⊢
  clear q0 f0 f1 hg
  have c0 := q1.cell 0
  have c1 := q1.cell 1
  go_wp2_with fail
  refine (texts_any k cv wa hcv).mono ?_
  rintro e wb ⟨rfl, f2⟩
  rw [T1.out, T2.out]
  have q2 := q1.fr f2 (by simp)
  have fb := fa.trans f2
  clear c0 c1 q1 fa f2
  have c0 := q2.cell 0
  have c1 := q2.cell 1
  go_wp2_with fail
  refine (may_any k cv wb).mono ?_
  rintro e wc ⟨rfl, f3⟩
  rw [HM.out]
  have q3 := q2.fr f3 (by simp)
  have fc := fb.trans f3
  clear c0 c1 q2 fb f3
  have c0 := q3.cell 0
  have c1 := q3.cell 1
  go_wp2_with fail
  refine (holds_any k cv there v wc).mono ?_
  rintro e wd ⟨rfl, f4⟩
  rw [HH.out]
  go_wp2_with fail
  go_ret
  exact ⟨rfl, fc.trans f4⟩

theorem xor_val (n : Int) : bits .xor .i64 n 1 = IntKind.i64.wrap ((BitVec.ofInt 64 n ^^^ BitVec.ofInt 64 1).toNat : Nat) := by
  show IntKind.i64.wrap ((BitVec.ofInt 64 n ^^^ BitVec.ofInt 64 1).toNat : Nat) = _
  rfl
theorem xor_bv (x : BitVec 64) (h : x ^^^ BitVec.ofInt 64 1 = x) : False := by
  have e2 : x ^^^ (x ^^^ BitVec.ofInt 64 1) = 0#64 := by rw [h, BitVec.xor_self]
  rw [← BitVec.xor_assoc, BitVec.xor_self, BitVec.zero_xor] at e2
  have := congrArg BitVec.toNat e2
  simp at this
theorem xor_one (n : Int) (h1 : 1 ≤ n) (h2 : n ≤ 9223372036854775807) : bits .xor .i64 n 1 ≠ n := by
  intro h
  rw [xor_val, IntKind.wrap_i64] at h
  refine xor_bv (BitVec.ofInt 64 n) ?_
  have hlt := (BitVec.ofInt 64 n ^^^ BitVec.ofInt 64 1).isLt
  have hn : (BitVec.ofInt 64 n).toNat = n.toNat := by
    rw [BitVec.toNat_ofInt]
    omega
  apply BitVec.eq_of_toNat_eq
  rw [hn]
  omega
theorem text_size (k cv : Int) (h : cv ≤ 9223372036854775807) : (text1 k cv).size ≤ 1000 ∧ (text2 k cv).size ≤ 1000 := by
  constructor
  · unfold text1
    split
    · rw [bs_size]; simp
    · split
      · rw [bs_size]; simp
      · split
        · rw [bs_size]; simp
        · have := show_size h; omega
  · unfold text2
    split
    · rw [bs_size]; simp
    · split <;> (rw [bs_size]; simp)
theorem cond_back {k cv : Int} (h : condOk k cv = true) (hcv : cv ≤ 9223372036854775807) : tupOf (text1 k cv) (text2 k cv) = .tuple #[.agg #[.int .i64 k, .int .i64 cv], .int .i64 0] := by
  by_cases h0 : k = 0
  · subst h0
    have : cv = 0 := by simpa [condOk] using h
    subst this
    have e1 : text1 0 0 = bs [] := by simp [text1, h, showL_zero]
    have e2 : text2 0 0 = bs [] := by simp [text2, h]
    rw [e1, e2]
    simp [tupOf, condOf]
  by_cases h1 : k = 1
  · subst h1
    have : cv = 0 := by simpa [condOk] using h
    subst this
    have e1 : text1 1 0 = bs [] := by simp [text1, h]
    have e2 : text2 1 0 = bs [42] := by simp [text2, h]
    rw [e1, e2]
    simp [tupOf, condOf, bs]
  by_cases h2 : k = 2
  · subst h2
    have : cv = 0 := by simpa [condOk] using h
    subst this
    have e1 : text1 2 0 = bs [42] := by simp [text1, h]
    have e2 : text2 2 0 = bs [] := by simp [text2, h]
    rw [e1, e2]
    simp [tupOf, condOf, bs]
  by_cases h3 : k = 3
  · subst h3
    have hc : 1 ≤ cv := by simpa [condOk] using h
    have e1 : text1 3 cv = bs (showL cv) := by simp [text1, h]
    have e2 : text2 3 cv = bs [] := by simp [text2, h]
    rw [e1, e2]
    have hv := verOf_tag hc hcv
    have hs := (show_at hc).1
    have n0 : bs (showL cv) ≠ bs [] := fun e => by rw [e, bs_size] at hs; simp at hs
    have n1 : bs (showL cv) ≠ bs [42] := fun e => by rw [e, bs_size] at hs; simp at hs
    simp only [tupOf, condOf, hv, n0, n1, false_and, if_false, and_true, ne_eq]
    rw [if_pos (by omega)]
  · simp [condOk, h0, h1, h2, h3] at h

set_option maxRecDepth 100000 in
set_option maxHeartbeats 8000000 in
theorem conds_yes (k cv : Int) (there : Bool) (v : Int) (w : World) (hcv : cv ≤ 9223372036854775807) (hm : condOk k cv = true) :
    Calls Try.prog 6 #[.agg #[.int .i64 k, .int .i64 cv], .bool there, .int .i64 v] w fun e w' => e = .returned (.bool true) ∧ Fr [] w w' := by
  obtain ⟨z1, z2⟩ := text_size k cv hcv
  have hback := cond_back hm hcv
  have hc := Lib.hid (fun w => cond_any (text1 k cv) (text2 k cv) w z1 z2)
  rw [hback] at hc
  have ht := Lib.hid (fun w => texts_any k cv w hcv)
  generalize text1 k cv = T1 at ht hc
  generalize text2 k cv = T2 at ht hc
  have h3 : Hid (k = 3 → holdsB 3 cv there cv = there ∧ holdsB 3 cv there (bits .xor .i64 cv 1) = false ∧ holdsB 3 cv false v = false) := Lib.hid (by
    intro e
    subst e
    have hc1 : 1 ≤ cv := by simpa [condOk] using hm
    have hx := xor_one cv hc1 hcv
    refine ⟨by simp [holdsB, hm], ?_, by simp [holdsB, hm]⟩
    have : (bits .xor .i64 cv 1 == cv) = false := by simpa using hx
    simp [holdsB, this])
  have HM := Lib.hid hm
  clear hback z1 z2 hm
  have q0 := Holds.new w 29 #[.int .i64 k, .int .i64 cv]
  have f0 : Fr [] w (w.alloc (.cells #[.int .i64 k, .int .i64 cv] 29)) := (Fr.refl _ _).alloc _
  go_enter Try.func6, Try.ntmps6
  go_wp2_with fail
  refine (first_true _).mono ?_
  rintro e w1 ⟨rfl, f1⟩
  have q1 := q0.fr f1 (by simp)
  have r1 := f0.trans f1
  obtain ⟨g, hg⟩ : ∃ g, g = w.heap.size := ⟨_, rfl⟩
  rw [← hg] at q1 ⊢
  clear q0 f0 f1 hg
  have c0 := q1.cell 0
  have c1 := q1.cell 1
  go_wp2_with fail
  refine (ht.out _).mono ?_
  rintro e w2 ⟨rfl, f2⟩
  have q2 := q1.fr f2 (by simp)
  have r2 := r1.trans f2
  clear c0 c1 q1 r1 f2
  have c0 := q2.cell 0
  have c1 := q2.cell 1
  go_wp2_with fail
  refine (may_any k cv _).mono ?_
  rintro e w3 ⟨rfl, f3⟩
  rw [HM.out]
  have q3 := q2.fr f3 (by simp)
  have r3 := r2.trans f3
  clear c0 c1 q2 r2 f3
  have c0 := q3.cell 0
  have c1 := q3.cell 1
  go_wp2_with fail
  refine (hc.out _).mono ?_
  rintro e w4 ⟨rfl, f4⟩
  have q4 := q3.fr f4 (by simp)
  have r4 := r3.trans f4
  clear c0 c1 q3 r3 f4
  have c0 := q4.cell 0
  have c1 := q4.cell 1
  have s4 : Fr [] w4 (w4.alloc (.cells #[.int .i64 k, .int .i64 cv] 29)) := (Fr.refl _ _).alloc _
  have p5 := Holds.new w4 29 #[.int .i64 k, .int .i64 cv]
  have q5 := q4.fr s4 (by simp)
  have r5 := r4.trans s4
  clear c0 c1 q4 r4 s4
  have c0 := q5.cell 0
  have c1 := q5.cell 1
  have d0 := p5.cell 0
  have d1 := p5.cell 1
  go_wp2_with fail
  refine (holds_any 0 0 there v _).mono ?_
  rintro e w6 ⟨rfl, f6⟩
  rw [show holdsB 0 0 there v = true from rfl]
  have q6 := q5.fr f6 (by simp)
  have p6 := p5.fr f6 (by simp)
  have r6 := r5.trans f6
  clear c0 c1 q5 r5 f6 d0 d1 p5
  have c0 := q6.cell 0
  have c1 := q6.cell 1
  have d0 := p6.cell 0
  have d1 := p6.cell 1
  go_wp2_with fail
  refine (holds_any 1 0 there v _).mono ?_
  rintro e w7 ⟨rfl, f7⟩
  rw [show holdsB 1 0 there v = !there from rfl]
  have q7 := q6.fr f7 (by simp)
  have p7 := p6.fr f7 (by simp)
  have r7 := r6.trans f7
  clear c0 c1 q6 r6 f7 d0 d1 p6
  have c0 := q7.cell 0
  have c1 := q7.cell 1
  have d0 := p7.cell 0
  have d1 := p7.cell 1
  go_wp2_with fail
  refine (holds_any 2 0 there v _).mono ?_
  rintro e w8 ⟨rfl, f8⟩
  rw [show holdsB 2 0 there v = there from rfl]
  have q8 := q7.fr f8 (by simp)
  have p8 := p7.fr f8 (by simp)
  have r8 := r7.trans f8
  clear c0 c1 q7 r7 f8 d0 d1 p7
  have c0 := q8.cell 0
  have c1 := q8.cell 1
  have d0 := p8.cell 0
  have d1 := p8.cell 1
  by_cases hk : k = 3
  · subst hk
    obtain ⟨x1, x2, x3⟩ := h3.out rfl
    have X1 := Lib.hid x1
    have X2 := Lib.hid x2
    have X3 := Lib.hid x3
    clear x1 x2 x3
    go_wp2_with fail
    refine (holds_any 3 cv there cv _).mono ?_
    rintro e w9 ⟨rfl, f9⟩
    rw [X1.out]
    have q9 := q8.fr f9 (by simp)
    have p9 := p8.fr f9 (by simp)
    have r9 := r8.trans f9
    clear c0 c1 q8 r8 f9 d0 d1 p8
    have c0 := q9.cell 0
    have c1 := q9.cell 1
    have d0 := p9.cell 0
    have d1 := p9.cell 1
    go_wp2_with fail
    refine (holds_any 3 cv there _ _).mono ?_
    rintro e w10 ⟨rfl, f10⟩
    rw [X2.out]
    have q10 := q9.fr f10 (by simp)
    have p10 := p9.fr f10 (by simp)
    have r10 := r9.trans f10
    clear c0 c1 q9 r9 f10 d0 d1 p9
    have c0 := q10.cell 0
    have c1 := q10.cell 1
    have d0 := p10.cell 0
    have d1 := p10.cell 1
    go_wp2_with fail
    refine (holds_any 3 cv false v _).mono ?_
    rintro e w11 ⟨rfl, f11⟩
    rw [X3.out]
    have q11 := q10.fr f11 (by simp)
    have p11 := p10.fr f11 (by simp)
    have r11 := r10.trans f11
    clear c0 c1 q10 r10 f11 d0 d1 p10
    have c0 := q11.cell 0
    have c1 := q11.cell 1
    have d0 := p11.cell 0
    have d1 := p11.cell 1
    go_wp2_with fail
    go_ret
    exact ⟨ret_bool (by simp), r11⟩
  · have e3 : (k == 3) = false := by simpa using hk
    have e4 : (k != 3) = true := by simpa using hk
    clear hk
    go_wp2_with fail
    go_ret
    exact ⟨ret_bool (by simp), r8⟩

theorem conds_all (k cv : Int) (there : Bool) (v : Int) (w : World) (hcv : cv ≤ 9223372036854775807) :
    Calls Try.prog 6 #[.agg #[.int .i64 k, .int .i64 cv], .bool there, .int .i64 v] w fun e w' => e = .returned (.bool true) ∧ Fr [] w w' := by
  cases hm : condOk k cv
  · exact conds_no k cv there v w hcv hm
  · exact conds_yes k cv there v w hcv hm
end Go.Proofs.Ytmlcphehejcmkaa
