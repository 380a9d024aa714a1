/- first(), and the walk of QuotaTells. -/
import Derived.Test.YtkomadieeldihaaBud
namespace Go.Proofs.Ytkomadieeldihaa
open Go.RowKit

set_option maxHeartbeats 400000 in
theorem first_true (w : World) : Calls Try.prog 8 #[] w fun e w' => e = .returned (.bool true) ∧ Fr [] w w' := by
  go_enter Try.func8, Try.ntmps8
  go_wp2_with fail
  refine (new_yes 1 1 10 1 _ (by decide)).mono ?_
  rintro e w1 ⟨g, rfl, hg, p1, r1⟩
  go_wp2_with fail
  refine (move_any w1 g 1 1 10 1 0 0 7 p1 (by decide) (by decide) (by decide) (by decide) true (by decide)).mono ?_
  rintro e w2 ⟨rfl, p2, r2⟩
  go_wp2_with fail
  refine (move_any w2 g 1 1 10 1 0 7 4 p2 (by decide) (by decide) (by decide) (by decide) false (by decide)).mono ?_
  rintro e w3 ⟨rfl, p3, r3⟩
  go_wp2_with fail
  refine (bytes_any w3 g 1 1 10 1 0 7 p3).mono ?_
  rintro e w' ⟨rfl, rfl⟩
  go_wp2_with fail
  refine (room_any w3 g 1 1 10 1 0 7 p3 (by decide) (by decide) (by decide)).mono ?_
  rintro e w' ⟨rfl, n, rfl⟩
  go_wp2_with fail
  go_ret
  exact ⟨rfl, ((r1.step r2 (by simpa using hg)).step r3 (by simpa using hg)).drewN n⟩

set_option maxRecDepth 100000 in
set_option maxHeartbeats 800000 in
theorem tells_walk (w : World) (c d b l : Int) :
    Calls Try.prog 3 #[.agg #[.int .i64 c, .int .i64 d, .int .i64 b, .int .i64 l]] w fun e w' => e = .returned (.bool true) ∧ Fr [] w w' := by
  have q0 := Holds.new w 23 #[.int .i64 c, .int .i64 d, .int .i64 b, .int .i64 l]
  have r0 := (Fr.refl [] w).alloc (.cells #[.int .i64 c, .int .i64 d, .int .i64 b, .int .i64 l] 23)
  by_cases hq : qOk c d b l = true
  · have hE : qErr c d b l = 0 := by simp [qErr, hq]
    have HE := Lib.hid hE
    clear hE
    go_enter Try.func3, Try.ntmps3
    go_wp2_with fail
    refine (first_true _).mono ?_
    rintro e w1 ⟨rfl, r1⟩
    have q1 := q0.fr r1 (by simp)
    have a0 := q1.cell 0
    have a1 := q1.cell 1
    have a2 := q1.cell 2
    have a3 := q1.cell 3
    go_wp2_with fail
    refine (checkRef_any c d b l w1).mono ?_
    rintro e w2 ⟨rfl, r2⟩
    rw [HE.out]
    clear a0 a1 a2 a3
    have q2 := q1.fr r2 (by simp)
    have a0 := q2.cell 0
    have a1 := q2.cell 1
    have a2 := q2.cell 2
    have a3 := q2.cell 3
    go_wp2_with fail
    refine (new_yes c d b l w2 hq).mono ?_
    rintro e w3 ⟨g, rfl, hg, p3, r3⟩
    clear a0 a1 a2 a3
    have q3 := q2.fr r3 (by simp)
    have a0 := q3.cell 0
    have a1 := q3.cell 1
    have a2 := q3.cell 2
    have a3 := q3.cell 3
    go_wp2_with fail
    refine (check_any c d b l w3).mono ?_
    rintro e w4 ⟨rfl, r4⟩
    rw [HE.out]
    clear a0 a1 a2 a3
    have q4 := q3.fr r4 (by simp)
    have p4 := p3.fr r4 (by simp)
    have a2 := q4.cell 2
    have hqs := hq
    simp [qOk] at hqs
    have hb1 : 0 ≤ b := by omega
    have hb2 : b ≤ 1048576 := by omega
    clear hqs
    go_wp2_with fail
    go_quiet ((first
      | (go_at_call 12; exact quiet_same (cols_any _ g c d b l 0 0 (p4.drewN _)))
      | (go_at_call 13; exact quiet_same (bytes_any _ g c d b l 0 0 (p4.drewN _)))
      | (go_at_call 14; exact quiet_draw (room_any _ g c d b l 0 0 (p4.drewN _) (by omega) hb1 hb2))))
    go_wp2
    go_ret
    exact ⟨ret_bool (by simp), ((((r0.trans r1).trans r2).trans r3).trans r4).drewN _⟩
  · have hq' : qOk c d b l = false := Bool.eq_false_iff.2 hq
    have hE : qErr c d b l = 12 := by simp [qErr, hq']
    have HE := Lib.hid hE
    clear hE
    go_enter Try.func3, Try.ntmps3
    go_wp2_with fail
    refine (first_true _).mono ?_
    rintro e w1 ⟨rfl, r1⟩
    have q1 := q0.fr r1 (by simp)
    have a0 := q1.cell 0
    have a1 := q1.cell 1
    have a2 := q1.cell 2
    have a3 := q1.cell 3
    go_wp2_with fail
    refine (checkRef_any c d b l w1).mono ?_
    rintro e w2 ⟨rfl, r2⟩
    rw [HE.out]
    clear a0 a1 a2 a3
    have q2 := q1.fr r2 (by simp)
    have a0 := q2.cell 0
    have a1 := q2.cell 1
    have a2 := q2.cell 2
    have a3 := q2.cell 3
    go_wp2_with fail
    refine (new_no c d b l w2 hq').mono ?_
    rintro e w3 ⟨rfl, r3⟩
    clear a0 a1 a2 a3
    have q3 := q2.fr r3 (by simp)
    have a0 := q3.cell 0
    have a1 := q3.cell 1
    have a2 := q3.cell 2
    have a3 := q3.cell 3
    go_wp2_with fail
    refine (check_any c d b l w3).mono ?_
    rintro e w4 ⟨rfl, r4⟩
    rw [HE.out]
    clear a0 a1 a2 a3
    go_wp2_with fail
    go_quiet (fail)
    go_wp2
    go_ret
    exact ⟨rfl, ((((r0.trans r1).trans r2).trans r3).trans r4).drewN _⟩
end Go.Proofs.Ytkomadieeldihaa
