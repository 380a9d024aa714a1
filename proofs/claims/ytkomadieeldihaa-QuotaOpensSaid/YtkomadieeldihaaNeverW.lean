/- The walk of QuotaNever. -/
import Derived.Test.YtkomadieeldihaaActs
import Derived.Deep.RegionHeld3
namespace Go.Proofs.Ytkomadieeldihaa
open Go.RowKit
set_option maxRecDepth 100000 in
set_option maxHeartbeats 2000000 in
theorem never_walk (w : World) (c d b l : Int) (a : Option Addr) (len cap : Nat) (L : Nat → Act) (hA : ActsAt w w.heap.size a len L) (hl : len ≤ 100) (hq : qOk c d b l = true) :
    Calls Try.prog 5 #[.agg #[.int .i64 c, .int .i64 d, .int .i64 b, .int .i64 l], .slice a len cap] w fun e w' => e = .returned (.bool true) ∧ Fr [] w w' := by
  have q0 := Holds.new w 23 #[.int .i64 c, .int .i64 d, .int .i64 b, .int .i64 l]
  have r0 := (Fr.refl [] w).alloc (.cells #[.int .i64 c, .int .i64 d, .int .i64 b, .int .i64 l] 23)
  have hqs := hq
  simp [qOk] at hqs
  obtain ⟨hc1, hc2, _, _, hb1, hb2, _, _⟩ := hqs
  have hE : qErr c d b l = 0 := by simp [qErr, hq]
  have HE := Lib.hid hE
  clear hE
  go_enter Try.func5, Try.ntmps5
  go_wp2_with fail
  refine (first_true _).mono ?_
  rintro e w1 ⟨rfl, r1⟩
  have q1 := q0.fr r1 (by simp)
  have a0 := q1.cell 0
  have a1 := q1.cell 1
  have a2 := q1.cell 2
  have a3 := q1.cell 3
  go_wp2_with fail
  refine (checkRef_any c d b l w1).mono ?_
  rintro e w2 ⟨rfl, r2⟩
  rw [HE.out]
  clear a0 a1 a2 a3
  have q2 := q1.fr r2 (by simp)
  have a0 := q2.cell 0
  have a1 := q2.cell 1
  have a2 := q2.cell 2
  have a3 := q2.cell 3
  go_wp2_with fail
  refine (new_yes c d b l w2 hq).mono ?_
  rintro e w3 ⟨g, rfl, hg, p3, r3⟩
  clear a0 a1 a2 a3
  have q3 := q2.fr r3 (by simp)
  have a0 := q3.cell 0
  have a1 := q3.cell 1
  have a2 := q3.cell 2
  have a3 := q3.cell 3
  have r03 := ((r0.trans r1).trans r2).trans r3
  have hgb : w.heap.size ≤ g := by have := ((r0.trans r1).trans r2).size; omega
  have hgq : w.heap.size ≠ g := by have := q2.lt; omega
  clear q0 q1 q2 r0 r1 r2 r3 hg
  go_wp2_with fail
  have hA0 := hA.fr r03 (Nat.le_refl _) (by simp)
  clear a0 a1 a2 a3 hA
  go_loopw [7] (fun i wr => ∃ (k : Nat) (cols bytes : Int), k ≤ len ∧ i = .int .i64 k ∧ BudAt wr g c d b l cols bytes ∧ Holds wr w.heap.size 23 #[.int .i64 c, .int .i64 d, .int .i64 b, .int .i64 l] ∧ 0 ≤ cols ∧ cols ≤ c ∧ 0 ≤ bytes ∧ bytes ≤ b ∧ Fr [] w wr ∧ ActsAt wr w.heap.size a len L) (fun i _ => len - (intOf i).toNat)
  case atStart => exact ⟨0, 0, 0, Nat.zero_le _, rfl, p3, q3, by omega, by omega, by omega, by omega, r03, hA0⟩
  case round =>
    obtain ⟨k, cols, bytes, hk, rfl, p, q, hcl0, hcl1, hby0, hby1, r, hA⟩ := hrel
    clear p3 q3 r03 hA0
    have hcl8 : cols ≤ 8 := by omega
    by_cases hlt : k < len
    · obtain ⟨bb, off, rfl, hb, hc⟩ := hA (by omega)
      obtain ⟨e0, e1, hn⟩ := hc k hlt
      clear hc
      by_cases h0 : (L k).op = 0
      · rw [h0] at e0
        clear h0
        obtain ⟨y, hy⟩ : ∃ y, decide (cols < c) = y := ⟨_, rfl⟩
        have hco : 0 ≤ (if y then cols + 1 else cols) ∧ (if y then cols + 1 else cols) ≤ c := by
          cases y
          · simp; omega
          · have := of_decide_eq_true hy; simp; omega
        have HY := Lib.hid hy
        clear hy
        go_wp2_with fail
        refine (open_any _ g c d b l cols bytes p hcl0 hcl8 y HY.out).mono ?_
        rintro e w1' ⟨rfl, p2, f1⟩
        have q2 := q.fr f1 (by simpa using hgq)
        have r2 := r.step f1 (by simpa using hgb)
        generalize (if y then cols + 1 else cols) = co at p2 hco
        have hco1 := hco.1
        have hco2 := hco.2
        clear hco
        have a0 := q2.cell 0
        have a2 := q2.cell 2
        have t1 : decide (co < 0) = false := decide_eq_false (by omega)
        have t2 : decide (c < co) = false := decide_eq_false (by omega)
        have t3 : decide (bytes < 0) = false := decide_eq_false (by omega)
        have t4 : decide (b < bytes) = false := decide_eq_false (by omega)
        have t5 : IntKind.i64.wrap (b - bytes) = b - bytes := IntWalk.i64_in _ (by omega)
        go_wp2
        go_quiet ((first
            | (go_at_call 12; exact quiet_same (cols_any _ g c d b l co bytes (p2.drewN _)))
            | (go_at_call 13; exact quiet_same (bytes_any _ g c d b l co bytes (p2.drewN _)))
            | (go_at_call 14; exact quiet_draw (room_any _ g c d b l co bytes (p2.drewN _) hby0 hby1 hb2))))
        clear t1 t2 t3 t4 t5
        go_wp2
        go_roundw
        case rel => exact ⟨k + 1, co, bytes, by omega, by go_num, p2.drewN nq, q2.drewN nq, by omega, by omega, by omega, by omega, r2.drewN nq, hA.fr (f1.drewN nq) r.size (by simpa using hgb)⟩
        case measure => simp [intOf]; omega
      by_cases h1 : (L k).op = 1
      · rw [h1] at e0
        clear h0 h1
        have hco : 0 ≤ cl1 cols ∧ cl1 cols ≤ c := by unfold cl1; omega
        have hby : 0 ≤ cl2 bytes (L k).n ∧ cl2 bytes (L k).n ≤ b := by unfold cl2; omega
        go_wp2_with fail
        refine (close_any _ g c d b l cols bytes _ p hby0 (by omega) hcl0 hcl8).mono ?_
        rintro e w1' ⟨rfl, p2, f1⟩
        have q2 := q.fr f1 (by simpa using hgq)
        have r2 := r.step f1 (by simpa using hgb)
        generalize cl1 cols = co at p2 hco
        generalize cl2 bytes (L k).n = by' at p2 hby
        have hco1 := hco.1
        have hco2 := hco.2
        have hby1' := hby.1
        have hby2' := hby.2
        clear hco hby
        have a0 := q2.cell 0
        have a2 := q2.cell 2
        have t1 : decide (co < 0) = false := decide_eq_false (by omega)
        have t2 : decide (c < co) = false := decide_eq_false (by omega)
        have t3 : decide (by' < 0) = false := decide_eq_false (by omega)
        have t4 : decide (b < by') = false := decide_eq_false (by omega)
        have t5 : IntKind.i64.wrap (b - by') = b - by' := IntWalk.i64_in _ (by omega)
        go_wp2
        go_quiet ((first
            | (go_at_call 12; exact quiet_same (cols_any _ g c d b l co by' (p2.drewN _)))
            | (go_at_call 13; exact quiet_same (bytes_any _ g c d b l co by' (p2.drewN _)))
            | (go_at_call 14; exact quiet_draw (room_any _ g c d b l co by' (p2.drewN _) hby1' hby2' hb2))))
        clear t1 t2 t3 t4 t5
        go_wp2
        go_roundw
        case rel => exact ⟨k + 1, co, by', by omega, by go_num, p2.drewN nq, q2.drewN nq, by omega, by omega, by omega, by omega, r2.drewN nq, hA.fr (f1.drewN nq) r.size (by simpa using hgb)⟩
        case measure => simp [intOf]; omega
      have e2 : ((L k).op == 0) = false := by simpa using h0
      have e3 : ((L k).op == 1) = false := by simpa using h1
      clear h0 h1
      obtain ⟨y, hy⟩ : ∃ y, decide ((L k).n ≤ b - bytes) = y := ⟨_, rfl⟩
      have hby : 0 ≤ (if y then mv bytes (L k).n else bytes) ∧ (if y then mv bytes (L k).n else bytes) ≤ b := by
        cases y
        · simp; omega
        · have := of_decide_eq_true hy; simp [mv]; omega
      have HY := Lib.hid hy
      clear hy
      go_wp2_with fail
      refine (move_any _ g c d b l cols bytes _ p hby0 hby1 hb2 hn y HY.out).mono ?_
      rintro e w1' ⟨rfl, p2, f1⟩
      have q2 := q.fr f1 (by simpa using hgq)
      have r2 := r.step f1 (by simpa using hgb)
      generalize (if y then mv bytes (L k).n else bytes) = by' at p2 hby
      have hby1' := hby.1
      have hby2' := hby.2
      clear hby
      have a0 := q2.cell 0
      have a2 := q2.cell 2
      have t1 : decide (cols < 0) = false := decide_eq_false (by omega)
      have t2 : decide (c < cols) = false := decide_eq_false (by omega)
      have t3 : decide (by' < 0) = false := decide_eq_false (by omega)
      have t4 : decide (b < by') = false := decide_eq_false (by omega)
      have t5 : IntKind.i64.wrap (b - by') = b - by' := IntWalk.i64_in _ (by omega)
      go_wp2
      go_quiet ((first
          | (go_at_call 12; exact quiet_same (cols_any _ g c d b l cols by' (p2.drewN _)))
          | (go_at_call 13; exact quiet_same (bytes_any _ g c d b l cols by' (p2.drewN _)))
          | (go_at_call 14; exact quiet_draw (room_any _ g c d b l cols by' (p2.drewN _) hby1' hby2' hb2))))
      clear t1 t2 t3 t4 t5
      go_wp2
      go_roundw
      case rel => exact ⟨k + 1, cols, by', by omega, by go_num, p2.drewN nq, q2.drewN nq, by omega, by omega, by omega, by omega, r2.drewN nq, hA.fr (f1.drewN nq) r.size (by simpa using hgb)⟩
      case measure => simp [intOf]; omega
    · have a2 := q.cell 2
      have hgw : w.heap.size < wr.heap.size := q.lt
      go_wp2
      go_region_held3 (fun w' => w'.cell? ⟨w.heap.size, 2, none⟩ = some (.int .i64 b))
        (first | exact a2 | exact f1.cell a2 hgw (by simpa using hgq) | exact f2.cell (f1.cell a2 hgw (by simpa using hgq)) (Nat.lt_of_lt_of_le hgw f1.size) (by simpa using hgq))
        (first
          | (go_at_call 14; refine (room_any _ g c d b l cols bytes ?_ hby0 hby1 hb2).mono ?_; exact p; rintro e w1' ⟨rfl, n1, rfl⟩)
          | (go_at_call_of 19 (Value.int .i64 (b - bytes)); refine (move_lit _ g c d b l cols bytes _ ?_ hby0 hby1 hb2 (by omega) true (by simp) b (by simp [mv]; omega)).mono ?_; exact Holds.drewN (w := wr.drew) p n1; rintro e w1' ⟨rfl, p1, f1⟩)
          | (go_at_call 14; refine (room_lit _ g c d b l cols b ?_ (by omega) (by omega) hb2 0 (by omega)).mono ?_; exact p1; rintro e w2' ⟨rfl, n2, rfl⟩)
          | (go_at_call_of 19 (Value.int .i64 1); refine (move_lit _ g c d b l cols b _ ?_ (by omega) (by omega) hb2 (by omega) false (by simp) b (by simp)).mono ?_; exact Holds.drewN p1 n2; rintro e w2' ⟨rfl, p2, f2⟩)
          | (go_at_call 13; refine (bytes_any _ g c d b l cols b ?_).mono ?_; exact p2; rintro e w3' ⟨rfl, rfl⟩))
      go_wp2
      go_ret
      exact ⟨ret_bool (by simp), (((r.drewN _).step f1 (by simpa using hgb)).drewN _).step f2 (by simpa using hgb)⟩
end Go.Proofs.Ytkomadieeldihaa
