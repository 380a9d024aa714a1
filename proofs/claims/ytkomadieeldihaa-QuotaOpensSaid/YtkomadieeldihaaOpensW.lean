/- The walk of QuotaOpens. -/
import Derived.Test.YtkomadieeldihaaActs
import Derived.Deep.RegionHeld3
namespace Go.Proofs.Ytkomadieeldihaa
open Go.RowKit
theorem open_lit (w : World) (g : Nat) (c d b l cols bytes : Int) (hp : BudAt w g c d b l cols bytes) (h2 : 0 ≤ cols) (h3 : cols ≤ 8) (y : Bool) (hy : decide (cols < c) = y) (v : Int) (hv : (if y then cols + 1 else cols) = v) :
    Calls Try.prog 15 #[.pointer (some ⟨g, 0, none⟩)] w fun e w' => e = .returned (.bool y) ∧ BudAt w' g c d b l v bytes ∧ Fr [g] w w' := by
  subst hv
  exact open_any w g c d b l cols bytes hp h2 h3 y hy
theorem close_lit (w : World) (g : Nat) (c d b l cols : Int) (hp : BudAt w g c d b l cols 0) (h3 : 0 ≤ cols) (h4 : cols ≤ 8) (v : Int) (hv : cl1 cols = v) :
    Calls Try.prog 17 #[.pointer (some ⟨g, 0, none⟩), .int .i64 0] w fun e w' => e = .returned (.tuple #[]) ∧ BudAt w' g c d b l v 0 ∧ Fr [g] w w' := by
  subst hv
  exact close_any w g c d b l cols 0 0 hp (by omega) (by omega) h3 h4
set_option maxRecDepth 100000 in
set_option maxHeartbeats 2000000 in
theorem opens_lt (w : World) (c d b l K : Int) (hK0 : 0 ≤ K) (hK1 : K ≤ 8) (hm : K < c) (hq : qOk c d b l = true) :
    Calls Try.prog 6 #[.agg #[.int .i64 c, .int .i64 d, .int .i64 b, .int .i64 l], .int .i64 K] w fun e w' => e = .returned (.bool true) ∧ Fr [] w w' := by
  have q0 := Holds.new w 23 #[.int .i64 c, .int .i64 d, .int .i64 b, .int .i64 l]
  have r0 := (Fr.refl [] w).alloc (.cells #[.int .i64 c, .int .i64 d, .int .i64 b, .int .i64 l] 23)
  have hqs := hq
  simp [qOk] at hqs
  obtain ⟨hc1, hc2, _, _, hb1, hb2, _, _⟩ := hqs
  have hE : qErr c d b l = 0 := by simp [qErr, hq]
  have HE := Lib.hid hE
  clear hE
  go_enter Try.func6, Try.ntmps6
  go_wp2_with fail
  refine (first_true _).mono ?_
  rintro e w1 ⟨rfl, r1⟩
  have q1 := q0.fr r1 (by simp)
  have a0 := q1.cell 0
  have a1 := q1.cell 1
  have a2 := q1.cell 2
  have a3 := q1.cell 3
  go_wp2_with fail
  refine (checkRef_any c d b l w1).mono ?_
  rintro e w2 ⟨rfl, r2⟩
  rw [HE.out]
  clear a0 a1 a2 a3
  have q2 := q1.fr r2 (by simp)
  have a0 := q2.cell 0
  have a1 := q2.cell 1
  have a2 := q2.cell 2
  have a3 := q2.cell 3
  go_wp2_with fail
  refine (new_yes c d b l w2 hq).mono ?_
  rintro e w3 ⟨g, rfl, hg, p3, r3⟩
  clear a0 a1 a2 a3
  have q3 := q2.fr r3 (by simp)
  have a0 := q3.cell 0
  have a1 := q3.cell 1
  have a2 := q3.cell 2
  have a3 := q3.cell 3
  have r03 := ((r0.trans r1).trans r2).trans r3
  have hgb : w.heap.size ≤ g := by have := ((r0.trans r1).trans r2).size; omega
  have hgq : w.heap.size ≠ g := by have := q2.lt; omega
  clear q0 q1 q2 r0 r1 r2 r3 hg
  go_wp2_with fail
  clear a0 a1 a2 a3
  go_loopw [7] (fun i wr => ∃ k : Int, 0 ≤ k ∧ k ≤ c ∧ i = .int .i64 k ∧ BudAt wr g c d b l k 0 ∧ Holds wr w.heap.size 23 #[.int .i64 c, .int .i64 d, .int .i64 b, .int .i64 l] ∧ Fr [] w wr) (fun i _ => (c - intOf i).toNat)
  case atStart => exact ⟨0, by omega, by omega, rfl, p3, q3, r03⟩
  case round =>
    obtain ⟨k, hk0, hk1, rfl, p, q, r⟩ := hrel
    have a0 := q.cell 0
    clear p3 q3 r03
    by_cases hlt : k < c
    · go_wp2_with fail
      refine (open_lit _ g c d b l k 0 p hk0 (by omega) true (by simp [hlt]) (k + 1) (by simp)).mono ?_
      rintro e w1' ⟨rfl, p1, f1⟩
      have q1 := q.fr f1 (by simpa using hgq)
      have r1 := r.step f1 (by simpa using hgb)
      go_wp2_with fail
      refine (cols_any _ g c d b l _ 0 p1).mono ?_
      rintro e w' ⟨rfl, rfl⟩
      go_wp2_with fail
      go_roundw
      case rel => exact ⟨k + 1, by omega, by omega, rfl, p1, q1, r1⟩
      case measure => simp [intOf]; omega
    · have hkc : k = c := by omega
      go_wp2_with fail
      refine (open_lit _ g c d b l k 0 p hk0 (by omega) false (by simp [hlt]) k (by simp)).mono ?_
      rintro e w1' ⟨rfl, p1, f1⟩
      have q1 := q.fr f1 (by simpa using hgq)
      have r1 := r.step f1 (by simpa using hgb)
      clear p q r a0 f1
      go_wp2_with fail
      go_loopw [8] (fun i wr => ∃ j : Int, 0 ≤ j ∧ j ≤ K ∧ i = .int .i64 j ∧ BudAt wr g c d b l (max (c - j) 0) 0 ∧ Holds wr w.heap.size 23 #[.int .i64 c, .int .i64 d, .int .i64 b, .int .i64 l] ∧ Fr [] w wr) (fun i _ => (K - intOf i).toNat)
      case atStart => exact ⟨0, by omega, by omega, rfl, by rw [show max (c - 0) 0 = k by omega]; exact p1, q1, r1⟩
      case round =>
        obtain ⟨j, hj0, hj1, rfl, p, q, r⟩ := hrel
        clear p1 q1 r1 hkc
        by_cases hlt2 : j < K
        · go_wp2_with fail
          refine (close_lit _ g c d b l _ p (by omega) (by omega) (max (c - (j + 1)) 0) (by unfold cl1; omega)).mono ?_
          rintro e w2' ⟨rfl, p2, f2⟩
          have q2 := q.fr f2 (by simpa using hgq)
          have r2 := r.step f2 (by simpa using hgb)
          go_wp2_with fail
          go_roundw
          case rel => exact ⟨j + 1, by omega, by omega, rfl, p2, q2, r2⟩
          case measure => simp [intOf]; omega
        · have hjK : max (c - j) 0 = c - K := by omega
          rw [hjK] at p
          clear hjK
          have hm0 : 0 ≤ K := by omega
          have hmc : K ≤ c := by omega
          go_wp2_with fail
          go_loopw [9] (fun i wr => ∃ t : Int, 0 ≤ t ∧ t ≤ K ∧ i = .int .i64 t ∧ BudAt wr g c d b l (c - K + t) 0 ∧ Holds wr w.heap.size 23 #[.int .i64 c, .int .i64 d, .int .i64 b, .int .i64 l] ∧ Fr [] w wr) (fun i _ => (K - intOf i).toNat)
          case atStart => exact ⟨0, by omega, by omega, rfl, by rw [show c - K + 0 = c - K by omega]; exact p, q, r⟩
          case round =>
            obtain ⟨t, ht0, ht1, rfl, p3, q3, r3⟩ := hrel
            clear p q r
            have a0 := q3.cell 0
            by_cases hlt3 : t < K
            · go_wp2_with fail
              refine (open_lit _ g c d b l _ 0 p3 (by omega) (by omega) true (decide_eq_true (by omega)) (c - K + (t + 1)) (by rw [if_pos rfl]; omega)).mono ?_
              rintro e w3' ⟨rfl, p4, f4⟩
              have q4 := q3.fr f4 (by simpa using hgq)
              have r4 := r3.step f4 (by simpa using hgb)
              go_wp2_with fail
              go_roundw
              case rel => exact ⟨t + 1, by omega, by omega, rfl, p4, q4, r4⟩
              case measure => simp [intOf]; omega
            · have htm : c - K + t = c := by omega
              rw [htm] at p3
              clear htm
              have hgw : w.heap.size < wr.heap.size := q3.lt
              go_wp2
              go_region_held3 (fun w' => w'.cell? ⟨w.heap.size, 0, none⟩ = some (.int .i64 c))
                (first | exact a0 | exact f5.cell a0 hgw (by simpa using hgq))
                (first
                  | (go_at_call 15; refine (open_lit _ g c d b l c 0 ?_ (by omega) (by omega) false (by simp) c (by simp)).mono ?_; exact p3; rintro e w5 ⟨rfl, p5, f5⟩)
                  | (go_at_call 12; refine (cols_any _ g c d b l c 0 ?_).mono ?_; exact p5; rintro e w6 ⟨rfl, rfl⟩)
                  | (go_at_call 13; refine (bytes_any _ g c d b l c 0 ?_).mono ?_; exact p5; rintro e w6 ⟨rfl, rfl⟩))
              go_wp2
              go_ret
              exact ⟨ret_bool (by simp), (r3.drew).step f5 (by simpa using hgb)⟩
set_option maxRecDepth 100000 in
set_option maxHeartbeats 2000000 in
theorem opens_gt (w : World) (c d b l K : Int) (hK0 : 0 ≤ K) (hK1 : K ≤ 8) (hm : c < K) (hq : qOk c d b l = true) :
    Calls Try.prog 6 #[.agg #[.int .i64 c, .int .i64 d, .int .i64 b, .int .i64 l], .int .i64 K] w fun e w' => e = .returned (.bool true) ∧ Fr [] w w' := by
  have q0 := Holds.new w 23 #[.int .i64 c, .int .i64 d, .int .i64 b, .int .i64 l]
  have r0 := (Fr.refl [] w).alloc (.cells #[.int .i64 c, .int .i64 d, .int .i64 b, .int .i64 l] 23)
  have hqs := hq
  simp [qOk] at hqs
  obtain ⟨hc1, hc2, _, _, hb1, hb2, _, _⟩ := hqs
  have hE : qErr c d b l = 0 := by simp [qErr, hq]
  have HE := Lib.hid hE
  clear hE
  go_enter Try.func6, Try.ntmps6
  go_wp2_with fail
  refine (first_true _).mono ?_
  rintro e w1 ⟨rfl, r1⟩
  have q1 := q0.fr r1 (by simp)
  have a0 := q1.cell 0
  have a1 := q1.cell 1
  have a2 := q1.cell 2
  have a3 := q1.cell 3
  go_wp2_with fail
  refine (checkRef_any c d b l w1).mono ?_
  rintro e w2 ⟨rfl, r2⟩
  rw [HE.out]
  clear a0 a1 a2 a3
  have q2 := q1.fr r2 (by simp)
  have a0 := q2.cell 0
  have a1 := q2.cell 1
  have a2 := q2.cell 2
  have a3 := q2.cell 3
  go_wp2_with fail
  refine (new_yes c d b l w2 hq).mono ?_
  rintro e w3 ⟨g, rfl, hg, p3, r3⟩
  clear a0 a1 a2 a3
  have q3 := q2.fr r3 (by simp)
  have a0 := q3.cell 0
  have a1 := q3.cell 1
  have a2 := q3.cell 2
  have a3 := q3.cell 3
  have r03 := ((r0.trans r1).trans r2).trans r3
  have hgb : w.heap.size ≤ g := by have := ((r0.trans r1).trans r2).size; omega
  have hgq : w.heap.size ≠ g := by have := q2.lt; omega
  clear q0 q1 q2 r0 r1 r2 r3 hg
  go_wp2_with fail
  clear a0 a1 a2 a3
  go_loopw [7] (fun i wr => ∃ k : Int, 0 ≤ k ∧ k ≤ c ∧ i = .int .i64 k ∧ BudAt wr g c d b l k 0 ∧ Holds wr w.heap.size 23 #[.int .i64 c, .int .i64 d, .int .i64 b, .int .i64 l] ∧ Fr [] w wr) (fun i _ => (c - intOf i).toNat)
  case atStart => exact ⟨0, by omega, by omega, rfl, p3, q3, r03⟩
  case round =>
    obtain ⟨k, hk0, hk1, rfl, p, q, r⟩ := hrel
    have a0 := q.cell 0
    clear p3 q3 r03
    by_cases hlt : k < c
    · go_wp2_with fail
      refine (open_lit _ g c d b l k 0 p hk0 (by omega) true (by simp [hlt]) (k + 1) (by simp)).mono ?_
      rintro e w1' ⟨rfl, p1, f1⟩
      have q1 := q.fr f1 (by simpa using hgq)
      have r1 := r.step f1 (by simpa using hgb)
      go_wp2_with fail
      refine (cols_any _ g c d b l _ 0 p1).mono ?_
      rintro e w' ⟨rfl, rfl⟩
      go_wp2_with fail
      go_roundw
      case rel => exact ⟨k + 1, by omega, by omega, rfl, p1, q1, r1⟩
      case measure => simp [intOf]; omega
    · have hkc : k = c := by omega
      go_wp2_with fail
      refine (open_lit _ g c d b l k 0 p hk0 (by omega) false (by simp [hlt]) k (by simp)).mono ?_
      rintro e w1' ⟨rfl, p1, f1⟩
      have q1 := q.fr f1 (by simpa using hgq)
      have r1 := r.step f1 (by simpa using hgb)
      clear p q r a0 f1
      go_wp2_with fail
      go_loopw [8] (fun i wr => ∃ j : Int, 0 ≤ j ∧ j ≤ K ∧ i = .int .i64 j ∧ BudAt wr g c d b l (max (c - j) 0) 0 ∧ Holds wr w.heap.size 23 #[.int .i64 c, .int .i64 d, .int .i64 b, .int .i64 l] ∧ Fr [] w wr) (fun i _ => (K - intOf i).toNat)
      case atStart => exact ⟨0, by omega, by omega, rfl, by rw [show max (c - 0) 0 = k by omega]; exact p1, q1, r1⟩
      case round =>
        obtain ⟨j, hj0, hj1, rfl, p, q, r⟩ := hrel
        clear p1 q1 r1 hkc
        by_cases hlt2 : j < K
        · go_wp2_with fail
          refine (close_lit _ g c d b l _ p (by omega) (by omega) (max (c - (j + 1)) 0) (by unfold cl1; omega)).mono ?_
          rintro e w2' ⟨rfl, p2, f2⟩
          have q2 := q.fr f2 (by simpa using hgq)
          have r2 := r.step f2 (by simpa using hgb)
          go_wp2_with fail
          go_roundw
          case rel => exact ⟨j + 1, by omega, by omega, rfl, p2, q2, r2⟩
          case measure => simp [intOf]; omega
        · have hjK : max (c - j) 0 = c - c := by omega
          rw [hjK] at p
          clear hjK
          have hm0 : 0 ≤ c := by omega
          have hmc : c ≤ c := by omega
          go_wp2_with fail
          go_loopw [9] (fun i wr => ∃ t : Int, 0 ≤ t ∧ t ≤ c ∧ i = .int .i64 t ∧ BudAt wr g c d b l (c - c + t) 0 ∧ Holds wr w.heap.size 23 #[.int .i64 c, .int .i64 d, .int .i64 b, .int .i64 l] ∧ Fr [] w wr) (fun i _ => (c - intOf i).toNat)
          case atStart => exact ⟨0, by omega, by omega, rfl, by rw [show c - c + 0 = c - c by omega]; exact p, q, r⟩
          case round =>
            obtain ⟨t, ht0, ht1, rfl, p3, q3, r3⟩ := hrel
            clear p q r
            have a0 := q3.cell 0
            by_cases hlt3 : t < c
            · go_wp2_with fail
              refine (open_lit _ g c d b l _ 0 p3 (by omega) (by omega) true (decide_eq_true (by omega)) (c - c + (t + 1)) (by rw [if_pos rfl]; omega)).mono ?_
              rintro e w3' ⟨rfl, p4, f4⟩
              have q4 := q3.fr f4 (by simpa using hgq)
              have r4 := r3.step f4 (by simpa using hgb)
              go_wp2_with fail
              go_roundw
              case rel => exact ⟨t + 1, by omega, by omega, rfl, p4, q4, r4⟩
              case measure => simp [intOf]; omega
            · have htm : c - c + t = c := by omega
              rw [htm] at p3
              clear htm
              have hgw : w.heap.size < wr.heap.size := q3.lt
              go_wp2
              go_region_held3 (fun w' => w'.cell? ⟨w.heap.size, 0, none⟩ = some (.int .i64 c))
                (first | exact a0 | exact f5.cell a0 hgw (by simpa using hgq))
                (first
                  | (go_at_call 15; refine (open_lit _ g c d b l c 0 ?_ (by omega) (by omega) false (by simp) c (by simp)).mono ?_; exact p3; rintro e w5 ⟨rfl, p5, f5⟩)
                  | (go_at_call 12; refine (cols_any _ g c d b l c 0 ?_).mono ?_; exact p5; rintro e w6 ⟨rfl, rfl⟩)
                  | (go_at_call 13; refine (bytes_any _ g c d b l c 0 ?_).mono ?_; exact p5; rintro e w6 ⟨rfl, rfl⟩))
              go_wp2
              go_ret
              exact ⟨ret_bool (by simp), (r3.drew).step f5 (by simpa using hgb)⟩
set_option maxRecDepth 100000 in
set_option maxHeartbeats 2000000 in
theorem opens_eq (w : World) (c d b l : Int) (hK0 : 0 ≤ c) (hK1 : c ≤ 8)  (hq : qOk c d b l = true) :
    Calls Try.prog 6 #[.agg #[.int .i64 c, .int .i64 d, .int .i64 b, .int .i64 l], .int .i64 c] w fun e w' => e = .returned (.bool true) ∧ Fr [] w w' := by
  have q0 := Holds.new w 23 #[.int .i64 c, .int .i64 d, .int .i64 b, .int .i64 l]
  have r0 := (Fr.refl [] w).alloc (.cells #[.int .i64 c, .int .i64 d, .int .i64 b, .int .i64 l] 23)
  have hqs := hq
  simp [qOk] at hqs
  obtain ⟨hc1, hc2, _, _, hb1, hb2, _, _⟩ := hqs
  have hE : qErr c d b l = 0 := by simp [qErr, hq]
  have HE := Lib.hid hE
  clear hE
  go_enter Try.func6, Try.ntmps6
  go_wp2_with fail
  refine (first_true _).mono ?_
  rintro e w1 ⟨rfl, r1⟩
  have q1 := q0.fr r1 (by simp)
  have a0 := q1.cell 0
  have a1 := q1.cell 1
  have a2 := q1.cell 2
  have a3 := q1.cell 3
  go_wp2_with fail
  refine (checkRef_any c d b l w1).mono ?_
  rintro e w2 ⟨rfl, r2⟩
  rw [HE.out]
  clear a0 a1 a2 a3
  have q2 := q1.fr r2 (by simp)
  have a0 := q2.cell 0
  have a1 := q2.cell 1
  have a2 := q2.cell 2
  have a3 := q2.cell 3
  go_wp2_with fail
  refine (new_yes c d b l w2 hq).mono ?_
  rintro e w3 ⟨g, rfl, hg, p3, r3⟩
  clear a0 a1 a2 a3
  have q3 := q2.fr r3 (by simp)
  have a0 := q3.cell 0
  have a1 := q3.cell 1
  have a2 := q3.cell 2
  have a3 := q3.cell 3
  have r03 := ((r0.trans r1).trans r2).trans r3
  have hgb : w.heap.size ≤ g := by have := ((r0.trans r1).trans r2).size; omega
  have hgq : w.heap.size ≠ g := by have := q2.lt; omega
  clear q0 q1 q2 r0 r1 r2 r3 hg
  go_wp2_with fail
  clear a0 a1 a2 a3
  go_loopw [7] (fun i wr => ∃ k : Int, 0 ≤ k ∧ k ≤ c ∧ i = .int .i64 k ∧ BudAt wr g c d b l k 0 ∧ Holds wr w.heap.size 23 #[.int .i64 c, .int .i64 d, .int .i64 b, .int .i64 l] ∧ Fr [] w wr) (fun i _ => (c - intOf i).toNat)
  case atStart => exact ⟨0, by omega, by omega, rfl, p3, q3, r03⟩
  case round =>
    obtain ⟨k, hk0, hk1, rfl, p, q, r⟩ := hrel
    have a0 := q.cell 0
    clear p3 q3 r03
    by_cases hlt : k < c
    · go_wp2_with fail
      refine (open_lit _ g c d b l k 0 p hk0 (by omega) true (by simp [hlt]) (k + 1) (by simp)).mono ?_
      rintro e w1' ⟨rfl, p1, f1⟩
      have q1 := q.fr f1 (by simpa using hgq)
      have r1 := r.step f1 (by simpa using hgb)
      go_wp2_with fail
      refine (cols_any _ g c d b l _ 0 p1).mono ?_
      rintro e w' ⟨rfl, rfl⟩
      go_wp2_with fail
      go_roundw
      case rel => exact ⟨k + 1, by omega, by omega, rfl, p1, q1, r1⟩
      case measure => simp [intOf]; omega
    · have hkc : k = c := by omega
      go_wp2_with fail
      refine (open_lit _ g c d b l k 0 p hk0 (by omega) false (by simp [hlt]) k (by simp)).mono ?_
      rintro e w1' ⟨rfl, p1, f1⟩
      have q1 := q.fr f1 (by simpa using hgq)
      have r1 := r.step f1 (by simpa using hgb)
      clear p q r a0 f1
      go_wp2_with fail
      go_loopw [8] (fun i wr => ∃ j : Int, 0 ≤ j ∧ j ≤ c ∧ i = .int .i64 j ∧ BudAt wr g c d b l (max (c - j) 0) 0 ∧ Holds wr w.heap.size 23 #[.int .i64 c, .int .i64 d, .int .i64 b, .int .i64 l] ∧ Fr [] w wr) (fun i _ => (c - intOf i).toNat)
      case atStart => exact ⟨0, by omega, by omega, rfl, by rw [show max (c - 0) 0 = k by omega]; exact p1, q1, r1⟩
      case round =>
        obtain ⟨j, hj0, hj1, rfl, p, q, r⟩ := hrel
        clear p1 q1 r1 hkc
        by_cases hlt2 : j < c
        · go_wp2_with fail
          refine (close_lit _ g c d b l _ p (by omega) (by omega) (max (c - (j + 1)) 0) (by unfold cl1; omega)).mono ?_
          rintro e w2' ⟨rfl, p2, f2⟩
          have q2 := q.fr f2 (by simpa using hgq)
          have r2 := r.step f2 (by simpa using hgb)
          go_wp2_with fail
          go_roundw
          case rel => exact ⟨j + 1, by omega, by omega, rfl, p2, q2, r2⟩
          case measure => simp [intOf]; omega
        · have hjK : max (c - j) 0 = c - c := by omega
          rw [hjK] at p
          clear hjK
          have hm0 : 0 ≤ c := by omega
          have hmc : c ≤ c := by omega
          go_wp2_with fail
          go_loopw [9] (fun i wr => ∃ t : Int, 0 ≤ t ∧ t ≤ c ∧ i = .int .i64 t ∧ BudAt wr g c d b l (c - c + t) 0 ∧ Holds wr w.heap.size 23 #[.int .i64 c, .int .i64 d, .int .i64 b, .int .i64 l] ∧ Fr [] w wr) (fun i _ => (c - intOf i).toNat)
          case atStart => exact ⟨0, by omega, by omega, rfl, by rw [show c - c + 0 = c - c by omega]; exact p, q, r⟩
          case round =>
            obtain ⟨t, ht0, ht1, rfl, p3, q3, r3⟩ := hrel
            clear p q r
            have a0 := q3.cell 0
            by_cases hlt3 : t < c
            · go_wp2_with fail
              refine (open_lit _ g c d b l _ 0 p3 (by omega) (by omega) true (decide_eq_true (by omega)) (c - c + (t + 1)) (by rw [if_pos rfl]; omega)).mono ?_
              rintro e w3' ⟨rfl, p4, f4⟩
              have q4 := q3.fr f4 (by simpa using hgq)
              have r4 := r3.step f4 (by simpa using hgb)
              go_wp2_with fail
              go_roundw
              case rel => exact ⟨t + 1, by omega, by omega, rfl, p4, q4, r4⟩
              case measure => simp [intOf]; omega
            · have htm : c - c + t = c := by omega
              rw [htm] at p3
              clear htm
              have hgw : w.heap.size < wr.heap.size := q3.lt
              go_wp2
              go_region_held3 (fun w' => w'.cell? ⟨w.heap.size, 0, none⟩ = some (.int .i64 c))
                (first | exact a0 | exact f5.cell a0 hgw (by simpa using hgq))
                (first
                  | (go_at_call 15; refine (open_lit _ g c d b l c 0 ?_ (by omega) (by omega) false (by simp) c (by simp)).mono ?_; exact p3; rintro e w5 ⟨rfl, p5, f5⟩)
                  | (go_at_call 12; refine (cols_any _ g c d b l c 0 ?_).mono ?_; exact p5; rintro e w6 ⟨rfl, rfl⟩)
                  | (go_at_call 13; refine (bytes_any _ g c d b l c 0 ?_).mono ?_; exact p5; rintro e w6 ⟨rfl, rfl⟩))
              go_wp2
              go_ret
              exact ⟨ret_bool (by simp), (r3.drew).step f5 (by simpa using hgb)⟩
end Go.Proofs.Ytkomadieeldihaa
