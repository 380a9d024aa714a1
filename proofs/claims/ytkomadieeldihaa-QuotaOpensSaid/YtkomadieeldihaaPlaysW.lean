/- The walk of QuotaPlays. -/
import Derived.Test.YtkomadieeldihaaActs
import Derived.Deep.RegionHeld3
namespace Go.Proofs.Ytkomadieeldihaa
open Go.RowKit
set_option maxRecDepth 100000 in
set_option maxHeartbeats 2000000 in
theorem plays_walk (w : World) (c d b l : Int) (a : Option Addr) (len cap : Nat) (L : Nat → Act) (hA : ActsAt w w.heap.size a len L) (hl : len ≤ 100) (hq : qOk c d b l = true) :
    Calls Try.prog 4 #[.agg #[.int .i64 c, .int .i64 d, .int .i64 b, .int .i64 l], .slice a len cap] w fun e w' => e = .returned (.bool true) ∧ Fr [] w w' := by
  have q0 := Holds.new w 23 #[.int .i64 c, .int .i64 d, .int .i64 b, .int .i64 l]
  have r0 := (Fr.refl [] w).alloc (.cells #[.int .i64 c, .int .i64 d, .int .i64 b, .int .i64 l] 23)
  have hqs := hq
  simp [qOk] at hqs
  obtain ⟨hc1, hc2, _, _, hb1, hb2, _, _⟩ := hqs
  have hE : qErr c d b l = 0 := by simp [qErr, hq]
  have HE := Lib.hid hE
  clear hE
  go_enter Try.func4, Try.ntmps4
  go_wp2_with fail
  refine (first_true _).mono ?_
  rintro e w1 ⟨rfl, r1⟩
  have q1 := q0.fr r1 (by simp)
  have a0 := q1.cell 0
  have a1 := q1.cell 1
  have a2 := q1.cell 2
  have a3 := q1.cell 3
  go_wp2_with fail
  refine (checkRef_any c d b l w1).mono ?_
  rintro e w2 ⟨rfl, r2⟩
  rw [HE.out]
  clear a0 a1 a2 a3
  have q2 := q1.fr r2 (by simp)
  have a0 := q2.cell 0
  have a1 := q2.cell 1
  have a2 := q2.cell 2
  have a3 := q2.cell 3
  go_wp2_with fail
  refine (new_yes c d b l w2 hq).mono ?_
  rintro e w3 ⟨g, rfl, hg, p3, r3⟩
  clear a0 a1 a2 a3
  have q3 := q2.fr r3 (by simp)
  have a0 := q3.cell 0
  have a1 := q3.cell 1
  have a2 := q3.cell 2
  have a3 := q3.cell 3
  have r03 := ((r0.trans r1).trans r2).trans r3
  have hgb : w.heap.size ≤ g := by have := ((r0.trans r1).trans r2).size; omega
  have hgq : w.heap.size ≠ g := by have := q2.lt; omega
  clear q0 q1 q2 r0 r1 r2 r3 hg
  go_wp2_with fail
  have hA0 := hA.fr r03 (Nat.le_refl _) (by simp)
  have s3 := Holds.new w3 35 #[.int .i64 c, .int .i64 d, .int .i64 b, .int .i64 l, .int .i64 0, .int .i64 0]
  have p4 := p3.alloc (.cells #[.int .i64 c, .int .i64 d, .int .i64 b, .int .i64 l, .int .i64 0, .int .i64 0] 35)
  have r04 := r03.alloc (.cells #[.int .i64 c, .int .i64 d, .int .i64 b, .int .i64 l, .int .i64 0, .int .i64 0] 35)
  have hA4 := hA0.fr ((Fr.refl [] w3).alloc (.cells #[.int .i64 c, .int .i64 d, .int .i64 b, .int .i64 l, .int .i64 0, .int .i64 0] 35)) r03.size (by simp)
  have hgr : w.heap.size ≤ w3.heap.size := r03.size
  have hne : g ≠ w3.heap.size := Nat.ne_of_lt p3.lt
  obtain ⟨g', hg'⟩ : ∃ g', g' = w3.heap.size := ⟨_, rfl⟩
  rw [← hg'] at s3 hgr hne
  clear a0 a1 a2 a3 hA hA0 q3 r03 p3
  go_loopw [8] (fun i wr => ∃ (k : Nat) (cols bytes : Int), k ≤ len ∧ i = .int .i64 k ∧ BudAt wr g c d b l cols bytes ∧ RefAt wr g' c d b l cols bytes ∧ 0 ≤ cols ∧ cols ≤ 8 ∧ 0 ≤ bytes ∧ bytes ≤ b ∧ Fr [] w wr ∧ ActsAt wr w.heap.size a len L) (fun i _ => len - (intOf i).toNat)
  case atStart => exact ⟨0, 0, 0, Nat.zero_le _, rfl, p4, s3, by omega, by omega, by omega, by omega, r04, hA4⟩
  case round =>
    obtain ⟨k, cols, bytes, hk, rfl, p, q, hcl0, hcl1, hby0, hby1, r, hA⟩ := hrel
    clear p4 s3 r04 hA4
    rw [← hg']
    have HG := Lib.hid hg'
    clear hg'
    by_cases hlt : k < len
    · obtain ⟨bb, off, rfl, hb, hc⟩ := hA (by omega)
      obtain ⟨e0, e1, hn⟩ := hc k hlt
      clear hc
      have hbw : bb < wr.heap.size := Nat.lt_of_lt_of_le hb r.size
      have hbg1 : bb ≠ g := by omega
      have hbg2 : bb ≠ g' := by omega
      have hk1 : (0 : Int) ≤ (k : Int) := by omega
      have hk2 : (k : Int) < (len : Int) := by omega
      by_cases h0 : (L k).op = 0
      · rw [h0] at e0
        clear h0
        obtain ⟨y, hy⟩ : ∃ y, decide (cols < c) = y := ⟨_, rfl⟩
        have hco : 0 ≤ (if y then cols + 1 else cols) ∧ (if y then cols + 1 else cols) ≤ 8 := by
          cases y
          · simp; omega
          · have := of_decide_eq_true hy; simp; omega
        have HY := Lib.hid hy
        clear hy
        go_wp2_with fail
        refine (open_any _ g c d b l cols bytes p hcl0 hcl1 y HY.out).mono ?_
        rintro e w1' ⟨rfl, p', f1⟩
        have q' := q.fr f1 (by simpa using Ne.symm hne)
        go_wp2_with fail
        refine (ropen_any _ g' c d b l cols bytes q' hcl0 hcl1 y HY.out).mono ?_
        rintro e w2' ⟨rfl, q2, f2⟩
        have p2 := p'.fr f2 (by simpa using hne)
        have r2 := (r.step f1 (by simpa using hgb)).step f2 (by simpa using hgr)
        have fw : Fr [g, g'] wr w2' := (f1.mono (by simp)).trans (f2.mono (by simp))
        generalize (if y then cols + 1 else cols) = co at p2 q2 hco
        go_wp2_with fail
        refine (same_true _ g g' c d b l co bytes p2 q2 hby0 hby1 hb2).mono ?_
        rintro e w5 ⟨rfl, nq, rfl⟩
        go_wp2_with fail
        go_roundw
        case rel => exact ⟨k + 1, co, bytes, by omega, by go_num, p2.drewN nq, q2.drewN nq, by omega, by omega, by omega, by omega, r2.drewN nq, hA.fr (fw.drewN nq) r.size (by simp; omega)⟩
        case measure => simp [intOf]; omega
      by_cases h1 : (L k).op = 1
      · rw [h1] at e0
        clear h0 h1
        have hco : 0 ≤ cl1 cols ∧ cl1 cols ≤ 8 := by unfold cl1; omega
        have hby : 0 ≤ cl2 bytes (L k).n ∧ cl2 bytes (L k).n ≤ b := by unfold cl2; omega
        go_wp2_with fail
        refine (close_any _ g c d b l cols bytes _ p hby0 (by omega) hcl0 hcl1).mono ?_
        rintro e w1' ⟨rfl, p', f1⟩
        have q' := q.fr f1 (by simpa using Ne.symm hne)
        have e1' := cell_fr e1 f1 hbw (by simpa using hbg1)
        go_wp2_with fail
        refine (rclose_any _ g' c d b l cols bytes _ q' hby0 hby1 hb2 hcl0 hcl1).mono ?_
        rintro e w2' ⟨rfl, q2, f2⟩
        have p2 := p'.fr f2 (by simpa using hne)
        have r2 := (r.step f1 (by simpa using hgb)).step f2 (by simpa using hgr)
        have fw : Fr [g, g'] wr w2' := (f1.mono (by simp)).trans (f2.mono (by simp))
        generalize cl1 cols = co at p2 q2 hco
        generalize cl2 bytes (L k).n = by' at p2 q2 hby
        go_wp2_with fail
        refine (same_true _ g g' c d b l co by' p2 q2 hby.1 hby.2 hb2).mono ?_
        rintro e w5 ⟨rfl, nq, rfl⟩
        go_wp2_with fail
        go_roundw
        case rel => exact ⟨k + 1, co, by', by omega, by go_num, p2.drewN nq, q2.drewN nq, by omega, by omega, by omega, by omega, r2.drewN nq, hA.fr (fw.drewN nq) r.size (by simp; omega)⟩
        case measure => simp [intOf]; omega
      have e2 : ((L k).op == 0) = false := by simpa using h0
      have e3 : ((L k).op == 1) = false := by simpa using h1
      clear h0 h1
      obtain ⟨y, hy⟩ : ∃ y, decide ((L k).n ≤ b - bytes) = y := ⟨_, rfl⟩
      have hby : 0 ≤ (if y then mv bytes (L k).n else bytes) ∧ (if y then mv bytes (L k).n else bytes) ≤ b := by
        cases y
        · simp; omega
        · have := of_decide_eq_true hy; simp [mv]; omega
      have HY := Lib.hid hy
      clear hy
      go_wp2
      go_region_held3 (fun w' => w'.cell? ⟨bb, off + k * 2 + 1, none⟩ = some (.int .i64 (L k).n))
        (first | exact e1 | exact cell_fr (w := wr.drew) e1 f1 hbw (by simpa using hbg1) | exact cell_fr (cell_fr (w := wr.drew) e1 f1 hbw (by simpa using hbg1)) f2 (Nat.lt_of_lt_of_le hbw f1.size) (by simpa using hbg2))
        (first
          | (go_at_call 19; refine (move_any _ g c d b l cols bytes _ ?_ hby0 hby1 hb2 hn y HY.out).mono ?_; exact p; rintro e w1' ⟨rfl, p', f1⟩)
          | (go_at_call 20; refine (rmove_any _ g' c d b l cols bytes _ ?_ hby0 hby1 hb2 hn y HY.out).mono ?_; exact Holds.fr (w := wr.drew) q f1 (by simpa using Ne.symm hne); rintro e w2' ⟨rfl, q2, f2⟩))
      have p2 := p'.fr f2 (by simpa using hne)
      have r2 := (r.drew.step f1 (by simpa using hgb)).step f2 (by simpa using hgr)
      have fw : Fr [g, g'] wr w2' := ((Fr.refl [g, g'] wr).drew.trans (f1.mono (by simp))).trans (f2.mono (by simp))
      generalize (if y then mv bytes (L k).n else bytes) = by' at p2 q2 hby
      go_wp2_with fail
      refine (same_true _ g g' c d b l cols by' p2 q2 hby.1 hby.2 hb2).mono ?_
      rintro e w5 ⟨rfl, nq, rfl⟩
      go_wp2_with fail
      go_roundw
      case rel => exact ⟨k + 1, cols, by', by omega, by go_num, p2.drewN nq, q2.drewN nq, by omega, by omega, by omega, by omega, r2.drewN nq, hA.fr (fw.drewN nq) r.size (by simp; omega)⟩
      case measure => simp [intOf]; omega
    · go_wp2
      go_ret
      exact ⟨rfl, r⟩
end Go.Proofs.Ytkomadieeldihaa
