/- The walk of QuotaBack. -/
import Derived.Test.YtkomadieeldihaaOpensW
namespace Go.Proofs.Ytkomadieeldihaa
open Go.RowKit
set_option maxRecDepth 100000 in
set_option maxHeartbeats 2000000 in
theorem back_ay (w : World) (c d b l a n : Int) (ha : 0 ≤ a) (hn : 0 ≤ n) (hn2 : n ≤ 2097152) (hA : a ≤ b) (hN : n ≤ b - a) (hq : qOk c d b l = true) :
    Calls Try.prog 7 #[.agg #[.int .i64 c, .int .i64 d, .int .i64 b, .int .i64 l], .int .i64 a, .int .i64 n] w fun e w' => e = .returned (.bool true) ∧ Fr [] w w' := by
  have q0 := Holds.new w 23 #[.int .i64 c, .int .i64 d, .int .i64 b, .int .i64 l]
  have r0 := (Fr.refl [] w).alloc (.cells #[.int .i64 c, .int .i64 d, .int .i64 b, .int .i64 l] 23)
  have hqs := hq
  simp [qOk] at hqs
  obtain ⟨hc1, hc2, _, _, hb1, hb2, _, _⟩ := hqs
  have hE : qErr c d b l = 0 := by simp [qErr, hq]
  have HE := Lib.hid hE
  clear hE
  go_enter Try.func7, Try.ntmps7
  go_wp2_with fail
  refine (first_true _).mono ?_
  rintro e w1 ⟨rfl, r1⟩
  have q1 := q0.fr r1 (by simp)
  have a0 := q1.cell 0
  have a1 := q1.cell 1
  have a2 := q1.cell 2
  have a3 := q1.cell 3
  go_wp2_with fail
  refine (checkRef_any c d b l w1).mono ?_
  rintro e w2 ⟨rfl, r2⟩
  rw [HE.out]
  clear a0 a1 a2 a3
  have q2 := q1.fr r2 (by simp)
  have a0 := q2.cell 0
  have a1 := q2.cell 1
  have a2 := q2.cell 2
  have a3 := q2.cell 3
  go_wp2_with fail
  refine (new_yes c d b l w2 hq).mono ?_
  rintro e w3 ⟨g, rfl, hg, p3, r3⟩
  clear a0 a1 a2 a3
  have q3 := q2.fr r3 (by simp)
  have a0 := q3.cell 0
  have a1 := q3.cell 1
  have a2 := q3.cell 2
  have a3 := q3.cell 3
  have r03 := ((r0.trans r1).trans r2).trans r3
  have hgb : w.heap.size ≤ g := by have := ((r0.trans r1).trans r2).size; omega
  have hgq : w.heap.size ≠ g := by have := q2.lt; omega
  clear q0 q1 q2 r0 r1 r2 r3 hg
  go_wp2_with fail
  clear a0 a1 a2 a3
  refine (move_lit _ g c d b l 0 0 a p3 (by omega) (by omega) hb2 (by omega) true (decide_eq_true (by omega)) a (by rw [if_pos rfl]; unfold mv; omega)).mono ?_
  rintro e w4 ⟨rfl, p4, f4⟩
  have q4 := q3.fr f4 (by simpa using hgq)
  have r4 := r03.step f4 (by simpa using hgb)
  have a2 := q4.cell 2
  clear p3 q3 r03 f4
  go_wp2_with fail
  refine (bytes_any _ g c d b l 0 a p4).mono ?_
  rintro e w' ⟨rfl, rfl⟩
  go_wp2_with fail
  refine (move_lit _ g c d b l 0 a n p4 (by omega) (by omega) hb2 (by omega) true (decide_eq_true (by omega)) (a + n) (by rw [if_pos rfl]; unfold mv; omega)).mono ?_
  rintro e w5 ⟨rfl, p5, f5⟩
  have r5 := r4.step f5 (by simpa using hgb)
  clear p4 q4 r4 f5 a2
  go_wp2_with fail
  refine (bytes_any _ g c d b l 0 (a + n) p5).mono ?_
  rintro e w' ⟨rfl, rfl⟩
  go_wp2_with fail
  refine (move_lit _ g c d b l 0 (a + n) (-n) p5 (by omega) (by omega) hb2 (by omega) true (decide_eq_true (by omega)) a (by rw [if_pos rfl]; unfold mv; omega)).mono ?_
  rintro e w6 ⟨rfl, p6, f6⟩
  have r6 := r5.step f6 (by simpa using hgb)
  clear p5 r5 f6
  go_wp2_with fail
  refine (bytes_any _ g c d b l 0 a p6).mono ?_
  rintro e w' ⟨rfl, rfl⟩
  go_wp2_with fail
  refine (open_lit _ g c d b l 0 a p6 (by omega) (by omega) true (decide_eq_true (by omega)) 1 (by simp)).mono ?_
  rintro e w7 ⟨rfl, p7, f7⟩
  have r7 := r6.step f7 (by simpa using hgb)
  clear p6 r6 f7
  go_wp2_with fail
  refine (move_lit _ g c d b l 1 a n p7 (by omega) (by omega) hb2 (by omega) true (decide_eq_true (by omega)) (a + n) (by rw [if_pos rfl]; unfold mv; omega)).mono ?_
  rintro e w8 ⟨rfl, p8, f8⟩
  have r8 := r7.step f8 (by simpa using hgb)
  clear p7 r7 f8
  go_wp2_with fail
  refine (close_any _ g c d b l 1 (a + n) n p8 (by omega) (by omega) (by omega) (by omega)).mono ?_
  rintro e w9 ⟨rfl, p9, f9⟩
  have r9 := r8.step f9 (by simpa using hgb)
  rw [show cl1 1 = 0 by unfold cl1; omega, show cl2 (a + n) n = a by unfold cl2; omega] at p9
  clear p8 r8 f9
  go_wp2_with fail
  refine (bytes_any _ g c d b l 0 a p9).mono ?_
  rintro e w' ⟨rfl, rfl⟩
  go_wp2_with fail
  refine (cols_any _ g c d b l 0 a p9).mono ?_
  rintro e w' ⟨rfl, rfl⟩
  go_wp2_with fail
  go_ret
  exact ⟨rfl, r9⟩
set_option maxRecDepth 100000 in
set_option maxHeartbeats 2000000 in
theorem back_an (w : World) (c d b l a n : Int) (ha : 0 ≤ a) (hn : 0 ≤ n) (hn2 : n ≤ 2097152) (hA : a ≤ b) (hN : b - a < n) (hq : qOk c d b l = true) :
    Calls Try.prog 7 #[.agg #[.int .i64 c, .int .i64 d, .int .i64 b, .int .i64 l], .int .i64 a, .int .i64 n] w fun e w' => e = .returned (.bool true) ∧ Fr [] w w' := by
  have q0 := Holds.new w 23 #[.int .i64 c, .int .i64 d, .int .i64 b, .int .i64 l]
  have r0 := (Fr.refl [] w).alloc (.cells #[.int .i64 c, .int .i64 d, .int .i64 b, .int .i64 l] 23)
  have hqs := hq
  simp [qOk] at hqs
  obtain ⟨hc1, hc2, _, _, hb1, hb2, _, _⟩ := hqs
  have hE : qErr c d b l = 0 := by simp [qErr, hq]
  have HE := Lib.hid hE
  clear hE
  go_enter Try.func7, Try.ntmps7
  go_wp2_with fail
  refine (first_true _).mono ?_
  rintro e w1 ⟨rfl, r1⟩
  have q1 := q0.fr r1 (by simp)
  have a0 := q1.cell 0
  have a1 := q1.cell 1
  have a2 := q1.cell 2
  have a3 := q1.cell 3
  go_wp2_with fail
  refine (checkRef_any c d b l w1).mono ?_
  rintro e w2 ⟨rfl, r2⟩
  rw [HE.out]
  clear a0 a1 a2 a3
  have q2 := q1.fr r2 (by simp)
  have a0 := q2.cell 0
  have a1 := q2.cell 1
  have a2 := q2.cell 2
  have a3 := q2.cell 3
  go_wp2_with fail
  refine (new_yes c d b l w2 hq).mono ?_
  rintro e w3 ⟨g, rfl, hg, p3, r3⟩
  clear a0 a1 a2 a3
  have q3 := q2.fr r3 (by simp)
  have a0 := q3.cell 0
  have a1 := q3.cell 1
  have a2 := q3.cell 2
  have a3 := q3.cell 3
  have r03 := ((r0.trans r1).trans r2).trans r3
  have hgb : w.heap.size ≤ g := by have := ((r0.trans r1).trans r2).size; omega
  have hgq : w.heap.size ≠ g := by have := q2.lt; omega
  clear q0 q1 q2 r0 r1 r2 r3 hg
  go_wp2_with fail
  clear a0 a1 a2 a3
  refine (move_lit _ g c d b l 0 0 a p3 (by omega) (by omega) hb2 (by omega) true (decide_eq_true (by omega)) a (by rw [if_pos rfl]; unfold mv; omega)).mono ?_
  rintro e w4 ⟨rfl, p4, f4⟩
  have q4 := q3.fr f4 (by simpa using hgq)
  have r4 := r03.step f4 (by simpa using hgb)
  have a2 := q4.cell 2
  clear p3 q3 r03 f4
  go_wp2_with fail
  refine (bytes_any _ g c d b l 0 a p4).mono ?_
  rintro e w' ⟨rfl, rfl⟩
  go_wp2_with fail
  refine (move_lit _ g c d b l 0 a n p4 (by omega) (by omega) hb2 (by omega) false (decide_eq_false (by omega)) a (by simp)).mono ?_
  rintro e w5 ⟨rfl, p5, f5⟩
  have q5 := q4.fr f5 (by simpa using hgq)
  have r5 := r4.step f5 (by simpa using hgb)
  clear p4 q4 r4 f5 a2
  have a2 := q5.cell 2
  have t1 : decide (b - a < n) = true := decide_eq_true (by omega)
  have t2 : IntKind.i64.wrap (b - a) = b - a := IntWalk.i64_in _ (by omega)
  go_wp2_with fail
  go_quiet ((first
      | (go_at_call 13; exact quiet_same (bytes_any _ g c d b l 0 a (p5.drewN _)))
      | (go_at_call 14; exact quiet_draw (room_any _ g c d b l 0 a (p5.drewN _) (by omega) (by omega) hb2))))
  go_wp2
  go_ret
  exact ⟨ret_bool (by simp), r5.drewN _⟩
set_option maxRecDepth 100000 in
set_option maxHeartbeats 2000000 in
theorem back_ny (w : World) (c d b l a n : Int) (ha : 0 ≤ a) (hn : 0 ≤ n) (hn2 : n ≤ 2097152) (hA : b < a) (hN : n ≤ b) (hq : qOk c d b l = true) :
    Calls Try.prog 7 #[.agg #[.int .i64 c, .int .i64 d, .int .i64 b, .int .i64 l], .int .i64 a, .int .i64 n] w fun e w' => e = .returned (.bool true) ∧ Fr [] w w' := by
  have q0 := Holds.new w 23 #[.int .i64 c, .int .i64 d, .int .i64 b, .int .i64 l]
  have r0 := (Fr.refl [] w).alloc (.cells #[.int .i64 c, .int .i64 d, .int .i64 b, .int .i64 l] 23)
  have hqs := hq
  simp [qOk] at hqs
  obtain ⟨hc1, hc2, _, _, hb1, hb2, _, _⟩ := hqs
  have hE : qErr c d b l = 0 := by simp [qErr, hq]
  have HE := Lib.hid hE
  clear hE
  go_enter Try.func7, Try.ntmps7
  go_wp2_with fail
  refine (first_true _).mono ?_
  rintro e w1 ⟨rfl, r1⟩
  have q1 := q0.fr r1 (by simp)
  have a0 := q1.cell 0
  have a1 := q1.cell 1
  have a2 := q1.cell 2
  have a3 := q1.cell 3
  go_wp2_with fail
  refine (checkRef_any c d b l w1).mono ?_
  rintro e w2 ⟨rfl, r2⟩
  rw [HE.out]
  clear a0 a1 a2 a3
  have q2 := q1.fr r2 (by simp)
  have a0 := q2.cell 0
  have a1 := q2.cell 1
  have a2 := q2.cell 2
  have a3 := q2.cell 3
  go_wp2_with fail
  refine (new_yes c d b l w2 hq).mono ?_
  rintro e w3 ⟨g, rfl, hg, p3, r3⟩
  clear a0 a1 a2 a3
  have q3 := q2.fr r3 (by simp)
  have a0 := q3.cell 0
  have a1 := q3.cell 1
  have a2 := q3.cell 2
  have a3 := q3.cell 3
  have r03 := ((r0.trans r1).trans r2).trans r3
  have hgb : w.heap.size ≤ g := by have := ((r0.trans r1).trans r2).size; omega
  have hgq : w.heap.size ≠ g := by have := q2.lt; omega
  clear q0 q1 q2 r0 r1 r2 r3 hg
  go_wp2_with fail
  clear a0 a1 a2 a3
  refine (move_lit _ g c d b l 0 0 a p3 (by omega) (by omega) hb2 (by omega) false (decide_eq_false (by omega)) 0 (by simp)).mono ?_
  rintro e w4 ⟨rfl, p4, f4⟩
  have q4 := q3.fr f4 (by simpa using hgq)
  have r4 := r03.step f4 (by simpa using hgb)
  have a2 := q4.cell 2
  clear p3 q3 r03 f4
  go_wp2_with fail
  refine (bytes_any _ g c d b l 0 0 p4).mono ?_
  rintro e w' ⟨rfl, rfl⟩
  go_wp2_with fail
  refine (move_lit _ g c d b l 0 0 n p4 (by omega) (by omega) hb2 (by omega) true (decide_eq_true (by omega)) (0 + n) (by rw [if_pos rfl]; unfold mv; omega)).mono ?_
  rintro e w5 ⟨rfl, p5, f5⟩
  have r5 := r4.step f5 (by simpa using hgb)
  clear p4 q4 r4 f5 a2
  go_wp2_with fail
  refine (bytes_any _ g c d b l 0 (0 + n) p5).mono ?_
  rintro e w' ⟨rfl, rfl⟩
  go_wp2_with fail
  refine (move_lit _ g c d b l 0 (0 + n) (-n) p5 (by omega) (by omega) hb2 (by omega) true (decide_eq_true (by omega)) 0 (by rw [if_pos rfl]; unfold mv; omega)).mono ?_
  rintro e w6 ⟨rfl, p6, f6⟩
  have r6 := r5.step f6 (by simpa using hgb)
  clear p5 r5 f6
  go_wp2_with fail
  refine (bytes_any _ g c d b l 0 0 p6).mono ?_
  rintro e w' ⟨rfl, rfl⟩
  go_wp2_with fail
  refine (open_lit _ g c d b l 0 0 p6 (by omega) (by omega) true (decide_eq_true (by omega)) 1 (by simp)).mono ?_
  rintro e w7 ⟨rfl, p7, f7⟩
  have r7 := r6.step f7 (by simpa using hgb)
  clear p6 r6 f7
  go_wp2_with fail
  refine (move_lit _ g c d b l 1 0 n p7 (by omega) (by omega) hb2 (by omega) true (decide_eq_true (by omega)) (0 + n) (by rw [if_pos rfl]; unfold mv; omega)).mono ?_
  rintro e w8 ⟨rfl, p8, f8⟩
  have r8 := r7.step f8 (by simpa using hgb)
  clear p7 r7 f8
  go_wp2_with fail
  refine (close_any _ g c d b l 1 (0 + n) n p8 (by omega) (by omega) (by omega) (by omega)).mono ?_
  rintro e w9 ⟨rfl, p9, f9⟩
  have r9 := r8.step f9 (by simpa using hgb)
  rw [show cl1 1 = 0 by unfold cl1; omega, show cl2 (0 + n) n = 0 by unfold cl2; omega] at p9
  clear p8 r8 f9
  go_wp2_with fail
  refine (bytes_any _ g c d b l 0 0 p9).mono ?_
  rintro e w' ⟨rfl, rfl⟩
  go_wp2_with fail
  refine (cols_any _ g c d b l 0 0 p9).mono ?_
  rintro e w' ⟨rfl, rfl⟩
  go_wp2_with fail
  go_ret
  exact ⟨rfl, r9⟩
set_option maxRecDepth 100000 in
set_option maxHeartbeats 2000000 in
theorem back_nn (w : World) (c d b l a n : Int) (ha : 0 ≤ a) (hn : 0 ≤ n) (hn2 : n ≤ 2097152) (hA : b < a) (hN : b < n) (hq : qOk c d b l = true) :
    Calls Try.prog 7 #[.agg #[.int .i64 c, .int .i64 d, .int .i64 b, .int .i64 l], .int .i64 a, .int .i64 n] w fun e w' => e = .returned (.bool true) ∧ Fr [] w w' := by
  have q0 := Holds.new w 23 #[.int .i64 c, .int .i64 d, .int .i64 b, .int .i64 l]
  have r0 := (Fr.refl [] w).alloc (.cells #[.int .i64 c, .int .i64 d, .int .i64 b, .int .i64 l] 23)
  have hqs := hq
  simp [qOk] at hqs
  obtain ⟨hc1, hc2, _, _, hb1, hb2, _, _⟩ := hqs
  have hE : qErr c d b l = 0 := by simp [qErr, hq]
  have HE := Lib.hid hE
  clear hE
  go_enter Try.func7, Try.ntmps7
  go_wp2_with fail
  refine (first_true _).mono ?_
  rintro e w1 ⟨rfl, r1⟩
  have q1 := q0.fr r1 (by simp)
  have a0 := q1.cell 0
  have a1 := q1.cell 1
  have a2 := q1.cell 2
  have a3 := q1.cell 3
  go_wp2_with fail
  refine (checkRef_any c d b l w1).mono ?_
  rintro e w2 ⟨rfl, r2⟩
  rw [HE.out]
  clear a0 a1 a2 a3
  have q2 := q1.fr r2 (by simp)
  have a0 := q2.cell 0
  have a1 := q2.cell 1
  have a2 := q2.cell 2
  have a3 := q2.cell 3
  go_wp2_with fail
  refine (new_yes c d b l w2 hq).mono ?_
  rintro e w3 ⟨g, rfl, hg, p3, r3⟩
  clear a0 a1 a2 a3
  have q3 := q2.fr r3 (by simp)
  have a0 := q3.cell 0
  have a1 := q3.cell 1
  have a2 := q3.cell 2
  have a3 := q3.cell 3
  have r03 := ((r0.trans r1).trans r2).trans r3
  have hgb : w.heap.size ≤ g := by have := ((r0.trans r1).trans r2).size; omega
  have hgq : w.heap.size ≠ g := by have := q2.lt; omega
  clear q0 q1 q2 r0 r1 r2 r3 hg
  go_wp2_with fail
  clear a0 a1 a2 a3
  refine (move_lit _ g c d b l 0 0 a p3 (by omega) (by omega) hb2 (by omega) false (decide_eq_false (by omega)) 0 (by simp)).mono ?_
  rintro e w4 ⟨rfl, p4, f4⟩
  have q4 := q3.fr f4 (by simpa using hgq)
  have r4 := r03.step f4 (by simpa using hgb)
  have a2 := q4.cell 2
  clear p3 q3 r03 f4
  go_wp2_with fail
  refine (bytes_any _ g c d b l 0 0 p4).mono ?_
  rintro e w' ⟨rfl, rfl⟩
  go_wp2_with fail
  refine (move_lit _ g c d b l 0 0 n p4 (by omega) (by omega) hb2 (by omega) false (decide_eq_false (by omega)) 0 (by simp)).mono ?_
  rintro e w5 ⟨rfl, p5, f5⟩
  have q5 := q4.fr f5 (by simpa using hgq)
  have r5 := r4.step f5 (by simpa using hgb)
  clear p4 q4 r4 f5 a2
  have a2 := q5.cell 2
  have t1 : decide (b - 0 < n) = true := decide_eq_true (by omega)
  have t2 : IntKind.i64.wrap (b - 0) = b - 0 := IntWalk.i64_in _ (by omega)
  go_wp2_with fail
  go_quiet ((first
      | (go_at_call 13; exact quiet_same (bytes_any _ g c d b l 0 0 (p5.drewN _)))
      | (go_at_call 14; exact quiet_draw (room_any _ g c d b l 0 0 (p5.drewN _) (by omega) (by omega) hb2))))
  go_wp2
  go_ret
  exact ⟨ret_bool (by simp), r5.drewN _⟩
end Go.Proofs.Ytkomadieeldihaa
