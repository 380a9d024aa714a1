/- What the laws of chapter 16 do where their limits are passed over: first() once more. -/
import Derived.Test.YtkomadieeldihaaActs
namespace Go.Proofs.Ytkomadieeldihaa
open Go.RowKit
set_option maxRecDepth 100000 in
set_option maxHeartbeats 1000000 in
theorem plays_not (w : World) (c d b l : Int) (a : Option Addr) (len cap : Nat) (h : ¬ (qOk c d b l = true ∧ ¬ 100 < len)) :
    Calls Try.prog 4 #[.agg #[.int .i64 c, .int .i64 d, .int .i64 b, .int .i64 l], .slice a len cap] w fun e w' => e = .returned (.bool true) ∧ Fr [] w w' := by
  have q0 := Holds.new w 23 #[.int .i64 c, .int .i64 d, .int .i64 b, .int .i64 l]
  have r0 := (Fr.refl [] w).alloc (.cells #[.int .i64 c, .int .i64 d, .int .i64 b, .int .i64 l] 23)
  by_cases k0 : 100 < len
  · go_enter Try.func4, Try.ntmps4
    go_wp2_with fail
    refine (first_true _).mono ?_
    rintro e w1 ⟨rfl, r1⟩
    have q1 := q0.fr r1 (by simp)
    have a0 := q1.cell 0
    have a1 := q1.cell 1
    have a2 := q1.cell 2
    have a3 := q1.cell 3
    go_wp2_with fail
    refine (first_true _).mono ?_
    rintro e w3 ⟨rfl, r3⟩
    go_wp2_with fail
    go_ret
    exact ⟨rfl, (r0.trans r1).trans r3⟩
  by_cases hq : qOk c d b l = true
  · have HE := Lib.hid (show qErr c d b l = 0 by simp [qErr, hq])
    exact absurd ⟨hq, k0⟩ h
  have HE := Lib.hid (show qErr c d b l = 12 by simp [qErr, Bool.eq_false_iff.2 hq])
  go_enter Try.func4, Try.ntmps4
  go_wp2_with fail
  refine (first_true _).mono ?_
  rintro e w1 ⟨rfl, r1⟩
  have q1 := q0.fr r1 (by simp)
  have a0 := q1.cell 0
  have a1 := q1.cell 1
  have a2 := q1.cell 2
  have a3 := q1.cell 3
  go_wp2_with fail
  refine (checkRef_any c d b l w1).mono ?_
  rintro e w2 ⟨rfl, r2⟩
  rw [HE.out]
  clear a0 a1 a2 a3
  have q2 := q1.fr r2 (by simp)
  have a0 := q2.cell 0
  have a1 := q2.cell 1
  have a2 := q2.cell 2
  have a3 := q2.cell 3
  go_wp2_with fail
  refine (first_true _).mono ?_
  rintro e w3 ⟨rfl, r3⟩
  go_wp2_with fail
  go_ret
  exact ⟨rfl, ((r0.trans r1).trans r2).trans r3⟩
set_option maxRecDepth 100000 in
set_option maxHeartbeats 1000000 in
theorem never_not (w : World) (c d b l : Int) (a : Option Addr) (len cap : Nat) (h : ¬ (qOk c d b l = true ∧ ¬ 100 < len)) :
    Calls Try.prog 5 #[.agg #[.int .i64 c, .int .i64 d, .int .i64 b, .int .i64 l], .slice a len cap] w fun e w' => e = .returned (.bool true) ∧ Fr [] w w' := by
  have q0 := Holds.new w 23 #[.int .i64 c, .int .i64 d, .int .i64 b, .int .i64 l]
  have r0 := (Fr.refl [] w).alloc (.cells #[.int .i64 c, .int .i64 d, .int .i64 b, .int .i64 l] 23)
  by_cases k0 : 100 < len
  · go_enter Try.func5, Try.ntmps5
    go_wp2_with fail
    refine (first_true _).mono ?_
    rintro e w1 ⟨rfl, r1⟩
    have q1 := q0.fr r1 (by simp)
    have a0 := q1.cell 0
    have a1 := q1.cell 1
    have a2 := q1.cell 2
    have a3 := q1.cell 3
    go_wp2_with fail
    refine (first_true _).mono ?_
    rintro e w3 ⟨rfl, r3⟩
    go_wp2_with fail
    go_ret
    exact ⟨rfl, (r0.trans r1).trans r3⟩
  by_cases hq : qOk c d b l = true
  · have HE := Lib.hid (show qErr c d b l = 0 by simp [qErr, hq])
    exact absurd ⟨hq, k0⟩ h
  have HE := Lib.hid (show qErr c d b l = 12 by simp [qErr, Bool.eq_false_iff.2 hq])
  go_enter Try.func5, Try.ntmps5
  go_wp2_with fail
  refine (first_true _).mono ?_
  rintro e w1 ⟨rfl, r1⟩
  have q1 := q0.fr r1 (by simp)
  have a0 := q1.cell 0
  have a1 := q1.cell 1
  have a2 := q1.cell 2
  have a3 := q1.cell 3
  go_wp2_with fail
  refine (checkRef_any c d b l w1).mono ?_
  rintro e w2 ⟨rfl, r2⟩
  rw [HE.out]
  clear a0 a1 a2 a3
  have q2 := q1.fr r2 (by simp)
  have a0 := q2.cell 0
  have a1 := q2.cell 1
  have a2 := q2.cell 2
  have a3 := q2.cell 3
  go_wp2_with fail
  refine (first_true _).mono ?_
  rintro e w3 ⟨rfl, r3⟩
  go_wp2_with fail
  go_ret
  exact ⟨rfl, ((r0.trans r1).trans r2).trans r3⟩
set_option maxRecDepth 100000 in
set_option maxHeartbeats 1000000 in
theorem opens_not (w : World) (c d b l : Int) (k : Int) (h : ¬ (qOk c d b l = true ∧ ¬ k < 0 ∧ ¬ 8 < k)) :
    Calls Try.prog 6 #[.agg #[.int .i64 c, .int .i64 d, .int .i64 b, .int .i64 l], .int .i64 k] w fun e w' => e = .returned (.bool true) ∧ Fr [] w w' := by
  have q0 := Holds.new w 23 #[.int .i64 c, .int .i64 d, .int .i64 b, .int .i64 l]
  have r0 := (Fr.refl [] w).alloc (.cells #[.int .i64 c, .int .i64 d, .int .i64 b, .int .i64 l] 23)
  by_cases hq : qOk c d b l = true
  · have HE := Lib.hid (show qErr c d b l = 0 by simp [qErr, hq])
    by_cases m0 : k < 0
    · go_enter Try.func6, Try.ntmps6
      go_wp2_with fail
      refine (first_true _).mono ?_
      rintro e w1 ⟨rfl, r1⟩
      have q1 := q0.fr r1 (by simp)
      have a0 := q1.cell 0
      have a1 := q1.cell 1
      have a2 := q1.cell 2
      have a3 := q1.cell 3
      go_wp2_with fail
      refine (checkRef_any c d b l w1).mono ?_
      rintro e w2 ⟨rfl, r2⟩
      rw [HE.out]
      clear a0 a1 a2 a3
      have q2 := q1.fr r2 (by simp)
      have a0 := q2.cell 0
      have a1 := q2.cell 1
      have a2 := q2.cell 2
      have a3 := q2.cell 3
      go_wp2_with fail
      refine (first_true _).mono ?_
      rintro e w3 ⟨rfl, r3⟩
      go_wp2_with fail
      go_ret
      exact ⟨rfl, ((r0.trans r1).trans r2).trans r3⟩
    by_cases m1 : 8 < k
    · go_enter Try.func6, Try.ntmps6
      go_wp2_with fail
      refine (first_true _).mono ?_
      rintro e w1 ⟨rfl, r1⟩
      have q1 := q0.fr r1 (by simp)
      have a0 := q1.cell 0
      have a1 := q1.cell 1
      have a2 := q1.cell 2
      have a3 := q1.cell 3
      go_wp2_with fail
      refine (checkRef_any c d b l w1).mono ?_
      rintro e w2 ⟨rfl, r2⟩
      rw [HE.out]
      clear a0 a1 a2 a3
      have q2 := q1.fr r2 (by simp)
      have a0 := q2.cell 0
      have a1 := q2.cell 1
      have a2 := q2.cell 2
      have a3 := q2.cell 3
      go_wp2_with fail
      refine (first_true _).mono ?_
      rintro e w3 ⟨rfl, r3⟩
      go_wp2_with fail
      go_ret
      exact ⟨rfl, ((r0.trans r1).trans r2).trans r3⟩
    exact absurd ⟨hq, m0, m1⟩ h
  have HE := Lib.hid (show qErr c d b l = 12 by simp [qErr, Bool.eq_false_iff.2 hq])
  go_enter Try.func6, Try.ntmps6
  go_wp2_with fail
  refine (first_true _).mono ?_
  rintro e w1 ⟨rfl, r1⟩
  have q1 := q0.fr r1 (by simp)
  have a0 := q1.cell 0
  have a1 := q1.cell 1
  have a2 := q1.cell 2
  have a3 := q1.cell 3
  go_wp2_with fail
  refine (checkRef_any c d b l w1).mono ?_
  rintro e w2 ⟨rfl, r2⟩
  rw [HE.out]
  clear a0 a1 a2 a3
  have q2 := q1.fr r2 (by simp)
  have a0 := q2.cell 0
  have a1 := q2.cell 1
  have a2 := q2.cell 2
  have a3 := q2.cell 3
  go_wp2_with fail
  refine (first_true _).mono ?_
  rintro e w3 ⟨rfl, r3⟩
  go_wp2_with fail
  go_ret
  exact ⟨rfl, ((r0.trans r1).trans r2).trans r3⟩
set_option maxRecDepth 100000 in
set_option maxHeartbeats 1000000 in
theorem back_not (w : World) (c d b l : Int) (a n : Int) (h : ¬ (qOk c d b l = true ∧ ¬ a < 0 ∧ ¬ n < 0 ∧ ¬ 2097152 < n)) :
    Calls Try.prog 7 #[.agg #[.int .i64 c, .int .i64 d, .int .i64 b, .int .i64 l], .int .i64 a, .int .i64 n] w fun e w' => e = .returned (.bool true) ∧ Fr [] w w' := by
  have q0 := Holds.new w 23 #[.int .i64 c, .int .i64 d, .int .i64 b, .int .i64 l]
  have r0 := (Fr.refl [] w).alloc (.cells #[.int .i64 c, .int .i64 d, .int .i64 b, .int .i64 l] 23)
  by_cases hq : qOk c d b l = true
  · have HE := Lib.hid (show qErr c d b l = 0 by simp [qErr, hq])
    by_cases m0 : a < 0
    · go_enter Try.func7, Try.ntmps7
      go_wp2_with fail
      refine (first_true _).mono ?_
      rintro e w1 ⟨rfl, r1⟩
      have q1 := q0.fr r1 (by simp)
      have a0 := q1.cell 0
      have a1 := q1.cell 1
      have a2 := q1.cell 2
      have a3 := q1.cell 3
      go_wp2_with fail
      refine (checkRef_any c d b l w1).mono ?_
      rintro e w2 ⟨rfl, r2⟩
      rw [HE.out]
      clear a0 a1 a2 a3
      have q2 := q1.fr r2 (by simp)
      have a0 := q2.cell 0
      have a1 := q2.cell 1
      have a2 := q2.cell 2
      have a3 := q2.cell 3
      go_wp2_with fail
      refine (first_true _).mono ?_
      rintro e w3 ⟨rfl, r3⟩
      go_wp2_with fail
      go_ret
      exact ⟨rfl, ((r0.trans r1).trans r2).trans r3⟩
    by_cases m1 : n < 0
    · go_enter Try.func7, Try.ntmps7
      go_wp2_with fail
      refine (first_true _).mono ?_
      rintro e w1 ⟨rfl, r1⟩
      have q1 := q0.fr r1 (by simp)
      have a0 := q1.cell 0
      have a1 := q1.cell 1
      have a2 := q1.cell 2
      have a3 := q1.cell 3
      go_wp2_with fail
      refine (checkRef_any c d b l w1).mono ?_
      rintro e w2 ⟨rfl, r2⟩
      rw [HE.out]
      clear a0 a1 a2 a3
      have q2 := q1.fr r2 (by simp)
      have a0 := q2.cell 0
      have a1 := q2.cell 1
      have a2 := q2.cell 2
      have a3 := q2.cell 3
      go_wp2_with fail
      refine (first_true _).mono ?_
      rintro e w3 ⟨rfl, r3⟩
      go_wp2_with fail
      go_ret
      exact ⟨rfl, ((r0.trans r1).trans r2).trans r3⟩
    by_cases m2 : 2097152 < n
    · go_enter Try.func7, Try.ntmps7
      go_wp2_with fail
      refine (first_true _).mono ?_
      rintro e w1 ⟨rfl, r1⟩
      have q1 := q0.fr r1 (by simp)
      have a0 := q1.cell 0
      have a1 := q1.cell 1
      have a2 := q1.cell 2
      have a3 := q1.cell 3
      go_wp2_with fail
      refine (checkRef_any c d b l w1).mono ?_
      rintro e w2 ⟨rfl, r2⟩
      rw [HE.out]
      clear a0 a1 a2 a3
      have q2 := q1.fr r2 (by simp)
      have a0 := q2.cell 0
      have a1 := q2.cell 1
      have a2 := q2.cell 2
      have a3 := q2.cell 3
      go_wp2_with fail
      refine (first_true _).mono ?_
      rintro e w3 ⟨rfl, r3⟩
      go_wp2_with fail
      go_ret
      exact ⟨rfl, ((r0.trans r1).trans r2).trans r3⟩
    exact absurd ⟨hq, m0, m1, m2⟩ h
  have HE := Lib.hid (show qErr c d b l = 12 by simp [qErr, Bool.eq_false_iff.2 hq])
  go_enter Try.func7, Try.ntmps7
  go_wp2_with fail
  refine (first_true _).mono ?_
  rintro e w1 ⟨rfl, r1⟩
  have q1 := q0.fr r1 (by simp)
  have a0 := q1.cell 0
  have a1 := q1.cell 1
  have a2 := q1.cell 2
  have a3 := q1.cell 3
  go_wp2_with fail
  refine (checkRef_any c d b l w1).mono ?_
  rintro e w2 ⟨rfl, r2⟩
  rw [HE.out]
  clear a0 a1 a2 a3
  have q2 := q1.fr r2 (by simp)
  have a0 := q2.cell 0
  have a1 := q2.cell 1
  have a2 := q2.cell 2
  have a3 := q2.cell 3
  go_wp2_with fail
  refine (first_true _).mono ?_
  rintro e w3 ⟨rfl, r3⟩
  go_wp2_with fail
  go_ret
  exact ⟨rfl, ((r0.trans r1).trans r2).trans r3⟩
end Go.Proofs.Ytkomadieeldihaa
