/- The walk of PipePlays. -/
import Derived.Test.YtlbcdbejemiinaaActs
import Derived.Deep.RegionHeld3
import Derived.Deep.DrawnRows
namespace Go.Proofs.Ytlbcdbejemiinaa
open Go.RowKit

theorem put_size {R : Int} {s t : ByteArray} {c : Bool} (hs : (s.size : Int) ≤ R) : ((if fits R s c t then s ++ t else s).size : Int) ≤ R := by
  by_cases h : fits R s c t = true
  · rw [if_pos h, ByteArray.size_append]
    simp only [fits, Bool.and_eq_true, decide_eq_true_eq] at h
    omega
  · rw [if_neg h]; exact hs

theorem take_size {R : Int} {s : ByteArray} {k : Nat} (hs : (s.size : Int) ≤ R) : ((s.extract k s.size).size : Int) ≤ R := by
  rw [ByteArray.size_extract]; omega

set_option maxRecDepth 100000 in
set_option maxHeartbeats 2000000 in
theorem plays_walk (w : World) (room : Int) (a : Option Addr) (len cap : Nat) (L : Nat → Act) (hr : room ≤ 9223372036854775807) (hA : ActsAt w w.heap.size a len L) (hl : len ≤ maxLen) :
    Calls Try.prog 4 #[.int .i64 room, .slice a len cap] w fun e w' => e = .returned (.bool true) ∧ Fr [] w w' := by
  by_cases hok : okActs len L = true
  · have hlen := okActs_len hok
    have hsz := Lib.hid (okActs_size hok)
    go_enter Try.func4, Try.ntmps4
    go_wp2_with fail
    refine (first_true _).mono ?_
    rintro e w1 ⟨rfl, r1⟩
    go_wp2_with fail
    have hA1 := hA.fr r1 (Nat.le_refl _) (by simp)
    refine (light_any w1 w.heap.size a len cap L hA1 hl).mono ?_
    rintro e w' ⟨rfl, rfl⟩
    rw [hok]
    go_wp2_with fail
    refine (new_any room w1).mono ?_
    rintro e w2 ⟨g1, rfl, hg1, p2, r2⟩
    go_wp2_with fail
    refine (rnew_any room w2).mono ?_
    rintro e w3 ⟨g2, rfl, hg2, q3, r3⟩
    have p3 := p2.fr r3 (by simp)
    have hA3 := (hA1.fr r2 r1.size (by simp)).fr r3 (Nat.le_trans r1.size r2.size) (by simp)
    have r03 := (r1.step r2 (by simp)).step r3 (by simp)
    clear p2 hA1
    go_wp2_with fail
    obtain ⟨R, hRe⟩ : ∃ R, R = max room 0 := ⟨_, rfl⟩
    rw [← hRe] at p3 q3
    have hR0 : 0 ≤ R := by omega
    have hR1 : R ≤ 9223372036854775807 := by omega
    have hgb1 : w.heap.size ≤ g1 := Nat.le_trans r1.size hg1
    have hgb2 : w.heap.size ≤ g2 := Nat.le_trans (Nat.le_trans r1.size r2.size) hg2
    have hA0 := hA
    have hne : g1 ≠ g2 := by have := p3.lt; have := Holds.ne p3 q3 (by decide); exact this
    clear hRe r1 r2 r3 hg1 hg2 hA
    replace hA0 := Lib.hid hA0
    go_loopw [7] (fun i wr => ∃ (k : Nat) (s : ByteArray) (c : Bool), k ≤ len ∧ i = .int .i64 k ∧ PipeAt wr g1 R s c ∧ RefAt wr g2 R s c ∧ (s.size : Int) ≤ R ∧ Fr [] w wr ∧ ActsAt wr w.heap.size a len L) (fun i _ => len - (intOf i).toNat)
    case atStart => exact ⟨0, _, _, Nat.zero_le _, rfl, p3, q3, by simpa using hR0, r03, hA3⟩
    case round =>
      obtain ⟨k, s, c, hk, rfl, p, q, hs, r, hA⟩ := hrel
      clear p3 q3 r03 hA3
      by_cases hlt : k < len
      · obtain ⟨b, off, rfl, hb, hc⟩ := hA (by omega)
        obtain ⟨c0, c1, c2⟩ := hc k hlt
        clear hc
        have hbw : b < wr.heap.size := Nat.lt_of_lt_of_le hb r.size
        have hbg1 : b ≠ g1 := by omega
        have hbg2 : b ≠ g2 := by omega
        have hk1 : (0 : Int) ≤ (k : Int) := by omega
        have hk2 : (k : Int) < (len : Int) := by omega
        by_cases h0 : (L k).op = 0
        · rw [h0] at c0
          clear h0
          go_wp2
          go_region_held3 (fun w' => w'.cell? ⟨b, off + k * 3 + 2, none⟩ = some (.string (L k).s))
            (first | exact c2 | exact cell_fr (w := wr.drew) c2 r' hbw (by simpa using hbg1) | exact cell_fr (cell_fr (w := wr.drew) c2 r' hbw (by simpa using hbg1)) r'' (Nat.lt_of_lt_of_le hbw r'.size) (by simpa using hbg2))
            (first
              | (go_at_call 8; refine (put_any _ g1 R s c _ ?_ hR0 hR1 hs).mono ?_; exact p; rintro e w1' ⟨rfl, p', r'⟩)
              | (go_at_call 15; refine (rput_any _ g2 R s c _ ?_ hR0 hR1 hs).mono ?_; exact Holds.fr (w := wr.drew) q r' (by simpa using Ne.symm hne); rintro e w2' ⟨rfl, q', r''⟩))
          obtain ⟨s', hs'⟩ : ∃ s', s' = (if fits R s c (L k).s then s ++ (L k).s else s) := ⟨_, rfl⟩
          have hsz' : (s'.size : Int) ≤ R := by rw [hs']; exact put_size hs
          rw [← hs'] at p' q'
          clear hs'
          have p2 := p'.fr r'' (by simpa using hne)
          have r3 := (r.drew.step r' (by simpa using hgb1)).step r'' (by simpa using hgb2)
          have d0 := q'.cell 0
          have d1 := q'.cell 1
          have d2 := q'.cell 2
          go_wp2
          go_quiet ((first
              | (go_at_call 9; exact quiet_same (look_any _ g1 R s' c (p2.drewN _)))
              | (go_at_call 12; exact quiet_same (len_any _ g1 R s' c (p2.drewN _)))
              | (go_at_call 10; exact quiet_draw (room_any _ g1 R s' c (p2.drewN _) hR0 hR1 hsz'))
              | (go_at_call 18; exact quiet_same (closed_any _ g1 R s' c (p2.drewN _)))))
          go_wp2
          go_roundw
          case rel =>
            have rr := r3.drewN nq
            exact ⟨k + 1, s', c, by omega, by go_num, p2.drewN nq, q'.drewN nq, hsz', rr, hA0.out.fr rr (Nat.le_refl _) (by simp)⟩
          case measure => simp [intOf]; omega
        by_cases h1 : (L k).op = 1
        · rw [h1] at c0
          clear h0 h1
          have hss : s.size ≤ 9223372036854775807 := by omega
          go_wp2
          go_region_held3 (fun w' => w'.cell? ⟨b, off + k * 3 + 1, none⟩ = some (.int .i64 (L k).n))
            (first | exact c1 | exact cell_fr (w := wr.drew) c1 r' hbw (by simpa using hbg1) | exact cell_fr (cell_fr (w := wr.drew) c1 r' hbw (by simpa using hbg1)) r'' (Nat.lt_of_lt_of_le hbw r'.size) (by simpa using hbg2))
            (first
              | (go_at_call 11; refine (take_any _ g1 R s c _ ?_ hss).mono ?_; exact p; rintro e w1' ⟨rfl, p', r'⟩)
              | (go_at_call 16; refine (rtake_any _ g2 R s c _ ?_ hss).mono ?_; exact Holds.fr (w := wr.drew) q r' (by simpa using Ne.symm hne); rintro e w2' ⟨rfl, q', r''⟩))
          obtain ⟨s', hs'⟩ : ∃ s', s' = s.extract (takes (L k).n s) s.size := ⟨_, rfl⟩
          have hsz' : (s'.size : Int) ≤ R := by rw [hs']; exact take_size hs
          rw [← hs'] at p' q'
          clear hs'
          have p2 := p'.fr r'' (by simpa using hne)
          have r3 := (r.drew.step r' (by simpa using hgb1)).step r'' (by simpa using hgb2)
          have d0 := q'.cell 0
          have d1 := q'.cell 1
          have d2 := q'.cell 2
          go_wp2
          go_quiet ((first
              | (go_at_call 9; exact quiet_same (look_any _ g1 R s' c (p2.drewN _)))
              | (go_at_call 12; exact quiet_same (len_any _ g1 R s' c (p2.drewN _)))
              | (go_at_call 10; exact quiet_draw (room_any _ g1 R s' c (p2.drewN _) hR0 hR1 hsz'))
              | (go_at_call 18; exact quiet_same (closed_any _ g1 R s' c (p2.drewN _)))))
          go_wp2
          go_roundw
          case rel =>
            have rr := r3.drewN nq
            exact ⟨k + 1, s', c, by omega, by go_num, p2.drewN nq, q'.drewN nq, hsz', rr, hA0.out.fr rr (Nat.le_refl _) (by simp)⟩
          case measure => simp [intOf]; omega
        by_cases h2 : (L k).op = 2
        · rw [h2] at c0
          clear h0 h1 h2
          go_wp2_with fail
          refine (close_any _ g1 R s c p).mono ?_
          rintro e w1' ⟨rfl, p', r'⟩
          have q' := q.fr r' (by simpa using Ne.symm hne)
          have e2 := q'.cell 2
          have f2 := q'.frozen 2
          have q2 := q'.set 2 (.bool true)
          have p2 := p'.far (p := ⟨g2, 2, none⟩) hne (.bool true)
          have r3 := (r.step r' (by simpa using hgb1)).setNew (p := ⟨g2, 2, none⟩) hgb2 (.bool true)
          go_wp2_with fail
          clear e2 f2 q q' p p' r r'
          obtain ⟨w2', hw2⟩ : ∃ w2', w2' = w1'.setCell ⟨g2, 2, none⟩ (.bool true) := ⟨_, rfl⟩
          rw [← hw2] at p2 q2 r3 ⊢
          clear hw2
          change RefAt w2' g2 R s true at q2
          have d0 := q2.cell 0
          have d1 := q2.cell 1
          have d2 := q2.cell 2
          go_wp2
          go_quiet ((first
              | (go_at_call 9; exact quiet_same (look_any _ g1 R s true (p2.drewN _)))
              | (go_at_call 12; exact quiet_same (len_any _ g1 R s true (p2.drewN _)))
              | (go_at_call 10; exact quiet_draw (room_any _ g1 R s true (p2.drewN _) hR0 hR1 hs))
              | (go_at_call 18; exact quiet_same (closed_any _ g1 R s true (p2.drewN _)))))
          go_wp2
          go_roundw
          case rel =>
            have rr := r3.drewN nq
            exact ⟨k + 1, s, true, by omega, by go_num, p2.drewN nq, q2.drewN nq, hs, rr, hA0.out.fr rr (Nat.le_refl _) (by simp)⟩
          case measure => simp [intOf]; omega
        · have e0 : ((L k).op == 0) = false := by simpa using h0
          have e1 : ((L k).op == 1) = false := by simpa using h1
          have e2 : ((L k).op == 2) = false := by simpa using h2
          clear h0 h1 h2
          have d0 := q.cell 0
          have d1 := q.cell 1
          have d2 := q.cell 2
          go_wp2
          go_quiet ((first
              | (go_at_call 9; exact quiet_same (look_any _ g1 R s c (p.drewN _)))
              | (go_at_call 12; exact quiet_same (len_any _ g1 R s c (p.drewN _)))
              | (go_at_call 10; exact quiet_draw (room_any _ g1 R s c (p.drewN _) hR0 hR1 hs))
              | (go_at_call 18; exact quiet_same (closed_any _ g1 R s c (p.drewN _)))))
          go_wp2
          go_roundw
          case rel =>
            have rr := r.drewN nq
            exact ⟨k + 1, s, c, by omega, by go_num, p.drewN nq, q.drewN nq, hs, rr, hA0.out.fr rr (Nat.le_refl _) (by simp)⟩
          case measure => simp [intOf]; omega
      · go_wp2
        go_ret
        exact ⟨rfl, r⟩
  · have hok' : okActs len L = false := Bool.eq_false_iff.2 hok
    go_enter Try.func4, Try.ntmps4
    go_wp2_with fail
    refine (first_true _).mono ?_
    rintro e w1 ⟨rfl, r1⟩
    go_wp2_with fail
    refine (light_any w1 w.heap.size a len cap L (hA.fr r1 (Nat.le_refl _) (by simp)) hl).mono ?_
    rintro e w' ⟨rfl, rfl⟩
    rw [hok']
    go_wp2_with fail
    refine (first_true _).mono ?_
    rintro e w2 ⟨rfl, r2⟩
    go_wp2
    go_ret
    exact ⟨rfl, r1.trans r2⟩
end Go.Proofs.Ytlbcdbejemiinaa
