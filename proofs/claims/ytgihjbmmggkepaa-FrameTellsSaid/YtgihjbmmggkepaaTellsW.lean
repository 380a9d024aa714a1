/- The walk of FrameTells. -/
import Derived.Test.YtgihjbmmggkepaaFirst
namespace Go.Proofs.Ytgihjbmmggkepaa
open Go.RowKit

theorem conv_bytes {w : World} {B : Nat} {a : Option Addr} {l : List UInt8} (h : BytesAt w B a l) (c : Nat) : (convert 22 9 (.slice a l.length c)).run Try.prog w = .ok (.string ⟨l.toArray⟩) w := by
  rcases Nat.eq_zero_or_pos l.length with h0 | h0
  · obtain rfl : l = [] := List.eq_nil_of_length_eq_zero h0
    cases a with
    | none => exact run_convert_bytes_nil w 22 5 Try.underlying22 Try.underlying5 0 c 9 Try.underlying9
    | some b =>
      show (convert 22 9 (.slice (some b) 0 c)).run Try.prog w = _
      rw [run_convert_bytes_string w 22 9 5 _ 0 c Try.underlying22 Try.underlying5 Try.underlying9, run_bytesToString w b 0 c [] (by simp [loadCells, loadCellsFrom])]
      rfl
  · obtain ⟨b, off, rfl, _, hk⟩ := h h0
    exact conv_body w b off l.length c ⟨l.toArray⟩ (by simp [ByteArray.size]) (fun k x hx => hk k x (by simpa using hx))

set_option maxRecDepth 100000 in
set_option maxHeartbeats 2000000 in
theorem tells_in (w : World) (a : Option Addr) (len cap : Nat) (l : List UInt8) (hb : BytesAt w w.heap.size a l) (hlen : l.length = len) (hl : len ≤ 600) (hcap : len ≤ cap) (k : Int) (s : ByteArray) (h0 : 0 ≤ k) (h1 : k ≤ 255) (hs : s.size ≤ 400) :
    Calls Try.prog 3 #[.slice a len cap, .int .i64 k, .string s] w fun e w' => e = .returned (.bool true) ∧ Fr [] w w' := by
  subst hlen
  have hss : s.size ≤ maxLen := by unfold maxLen; omega
  obtain ⟨kd, bd, n, e, hx⟩ : ∃ kd bd n e, nextL l = (kd, bd, n, e) := ⟨_, _, _, _, rfl⟩
  go_enter Try.func3, Try.ntmps3
  go_wp2_with fail
  refine (first_true w).mono ?_
  rintro _ w1 ⟨rfl, f1⟩
  have hb1 := hb.fr f1 (Nat.le_refl _) (by simp)
  go_wp2_with fail
  refine (next_any w1 a cap l (fun h => by obtain ⟨b, o, e1, e2, e3⟩ := hb1 h; exact ⟨b, o, e1, Nat.lt_of_lt_of_le e2 f1.size, e3⟩) (by omega) hcap).mono ?_
  rw [hx]
  simp only [tup4]
  rintro _ w2 ⟨rfl, f2⟩
  have r2 := (f1.trans f2).alloc (.cells #[.int .i64 kd, .string bd] 25)
  have kc := conv_bytes (hb.fr r2 (Nat.le_refl _) (by simp))
  have hF := Holds.new w2 25 #[.int .i64 kd, .string bd]
  clear f1 f2 hb1
  go_wp2_with fail
  refine (rnext_list _ l (by omega)).mono ?_
  rw [hx]
  simp only [tup4]
  rintro _ w3 ⟨rfl, f3⟩
  have r3 := (r2.trans f3).alloc (.cells #[.int .i64 kd, .string bd] 29)
  have hF3 := (hF.fr f3 (by simp)).alloc (.cells #[.int .i64 kd, .string bd] 29)
  have hG3 := Holds.new w3 29 #[.int .i64 kd, .string bd]
  have hb3 : BytesAt (w3.alloc (.cells #[.int .i64 kd, .string bd] 29)) (w3.alloc (.cells #[.int .i64 kd, .string bd] 29)).heap.size a l := fun h => by
    obtain ⟨b, o, e1, e2, e3⟩ := hb.fr r3 (Nat.le_refl _) (by simp) h
    exact ⟨b, o, e1, Nat.lt_of_lt_of_le e2 r3.size, e3⟩
  clear kc f3 hF r2 hx
  go_wp2_with fail
  refine (put_list _ a l.length cap l hb3 rfl (by omega) k s h0 h1 (by omega)).mono ?_
  rintro _ w4 ⟨g, c, rfl, hg, row4, f4⟩
  have r4 := r3.trans f4
  have hF4 := hF3.fr f4 (by simp)
  have hG4 := hG3.fr f4 (by simp)
  have hb4 : BytesAt w4 w4.heap.size a l := fun h => by
    obtain ⟨b, o, e1, e2, e3⟩ := hb3.fr f4 (Nat.le_refl _) (by simp) h
    exact ⟨b, o, e1, Nat.lt_of_lt_of_le e2 f4.size, e3⟩
  clear hb3 f4 r3 hF3 hG3
  go_wp2_with fail
  refine (rput_list _ a l.length cap l hb4 rfl (by omega) k s h0 h1 (by omega)).mono ?_
  rintro _ w5 ⟨g2, c2, rfl, hg2, row5, f5⟩
  have r5 := r4.trans f5
  have x0 := (hF4.fr f5 (by simp)).cell 0
  have x1 := (hF4.fr f5 (by simp)).cell 1
  have y0 := (hG4.fr f5 (by simp)).cell 0
  have y1 := (hG4.fr f5 (by simp)).cell 1
  have kc1 := (row4.fr f5 (by simp)).conv
  have kc2 := row5.conv
  generalize (⟨(putL l k s).toArray⟩ : ByteArray) = PL at kc1 kc2
  simp at x0 x1 y0 y1
  clear hb4 f5 r4 hF4 hG4 row4 row5 hb hg hg2
  go_wp2_with (first | (go_at_call 12; refine (sum_any k s _ hss).mono ?_; rintro _ _ ⟨rfl, rfl⟩) | (go_at_call 13; refine (rsum_any k s _ hss).mono ?_; rintro _ _ ⟨rfl, rfl⟩))
  go_ret
  exact ⟨rfl, r5⟩
set_option maxRecDepth 100000 in
set_option maxHeartbeats 2000000 in
theorem tells_out (w : World) (a : Option Addr) (len cap : Nat) (l : List UInt8) (hb : BytesAt w w.heap.size a l) (hlen : l.length = len) (hl : len ≤ 600) (hcap : len ≤ cap) (k : Int) (s : ByteArray) (hk : k < 0 ∨ 255 < k) (hs : s.size ≤ 400) :
    Calls Try.prog 3 #[.slice a len cap, .int .i64 k, .string s] w fun e w' => e = .returned (.bool true) ∧ Fr [] w w' := by
  subst hlen
  have hss : s.size ≤ maxLen := by unfold maxLen; omega
  obtain ⟨kd, bd, n, e, hx⟩ : ∃ kd bd n e, nextL l = (kd, bd, n, e) := ⟨_, _, _, _, rfl⟩
  go_enter Try.func3, Try.ntmps3
  go_wp2_with fail
  refine (first_true w).mono ?_
  rintro _ w1 ⟨rfl, f1⟩
  have hb1 := hb.fr f1 (Nat.le_refl _) (by simp)
  go_wp2_with fail
  refine (next_any w1 a cap l (fun h => by obtain ⟨b, o, e1, e2, e3⟩ := hb1 h; exact ⟨b, o, e1, Nat.lt_of_lt_of_le e2 f1.size, e3⟩) (by omega) hcap).mono ?_
  rw [hx]
  simp only [tup4]
  rintro _ w2 ⟨rfl, f2⟩
  have r2 := (f1.trans f2).alloc (.cells #[.int .i64 kd, .string bd] 25)
  have kc := conv_bytes (hb.fr r2 (Nat.le_refl _) (by simp))
  have hF := Holds.new w2 25 #[.int .i64 kd, .string bd]
  clear f1 f2 hb1
  go_wp2_with fail
  refine (rnext_list _ l (by omega)).mono ?_
  rw [hx]
  simp only [tup4]
  rintro _ w3 ⟨rfl, f3⟩
  have r3 := (r2.trans f3).alloc (.cells #[.int .i64 kd, .string bd] 29)
  have hF3 := (hF.fr f3 (by simp)).alloc (.cells #[.int .i64 kd, .string bd] 29)
  have hG3 := Holds.new w3 29 #[.int .i64 kd, .string bd]
  have hb3 : BytesAt (w3.alloc (.cells #[.int .i64 kd, .string bd] 29)) (w3.alloc (.cells #[.int .i64 kd, .string bd] 29)).heap.size a l := fun h => by
    obtain ⟨b, o, e1, e2, e3⟩ := hb.fr r3 (Nat.le_refl _) (by simp) h
    exact ⟨b, o, e1, Nat.lt_of_lt_of_le e2 r3.size, e3⟩
  clear kc f3 hF r2 hx
  go_wp2_with fail
  refine (put_range _ _ k s hk).mono ?_
  rintro _ w4 ⟨rfl, f4⟩
  have r4 := r3.trans f4
  have hF4 := hF3.fr f4 (by simp)
  have hG4 := hG3.fr f4 (by simp)
  clear hb3 f4 r3 hF3 hG3
  go_wp2_with fail
  refine (rput_range _ _ k s hk).mono ?_
  rintro _ w5 ⟨rfl, f5⟩
  have r5 := r4.trans f5
  have x0 := (hF4.fr f5 (by simp)).cell 0
  have x1 := (hF4.fr f5 (by simp)).cell 1
  have y0 := (hG4.fr f5 (by simp)).cell 0
  have y1 := (hG4.fr f5 (by simp)).cell 1
  have kc1 : ∀ l c, (convert 22 9 (.slice none l c)).run Try.prog w5 = .ok (.string ByteArray.empty) w5 := fun l c => run_convert_bytes_nil w5 22 5 Try.underlying22 Try.underlying5 l c 9 Try.underlying9
  simp at x0 x1 y0 y1
  clear f5 r4 hF4 hG4 hb hk
  go_wp2_with (first | (go_at_call 12; refine (sum_any k s _ hss).mono ?_; rintro _ _ ⟨rfl, rfl⟩) | (go_at_call 13; refine (rsum_any k s _ hss).mono ?_; rintro _ _ ⟨rfl, rfl⟩))
  go_ret
  exact ⟨rfl, r5⟩
/-- FrameTells, whatever comes in. -/
theorem tells_any (w : World) (a : Option Addr) (len cap : Nat) (l : List UInt8) (hb : BytesAt w w.heap.size a l) (hlen : l.length = len) (hcap : len ≤ cap) (k : Int) (s : ByteArray) (hl2 : len ≤ maxLen) (hs2 : s.size ≤ maxLen) :
    Calls Try.prog 3 #[.slice a len cap, .int .i64 k, .string s] w fun e w' => e = .returned (.bool true) ∧ Fr [] w w' := by
  unfold maxLen at hl2 hs2
  by_cases hl : len ≤ 600
  · by_cases hs : s.size ≤ 400
    · by_cases hk : k < 0 ∨ 255 < k
      · exact tells_out w a len cap l hb hlen hl hcap k s hk hs
      · exact tells_in w a len cap l hb hlen hl hcap k s (by omega) (by omega) hs
    · go_enter Try.func3, Try.ntmps3
      go_wp2_with fail
      refine (first_true w).mono ?_
      rintro _ w1 ⟨rfl, f1⟩
      go_wp2_with fail
      refine (first_true w1).mono ?_
      rintro _ w2 ⟨rfl, f2⟩
      go_wp2_with fail
      go_ret
      exact ⟨rfl, f1.trans f2⟩
  · go_enter Try.func3, Try.ntmps3
    go_wp2_with fail
    refine (first_true w).mono ?_
    rintro _ w1 ⟨rfl, f1⟩
    go_wp2_with fail
    refine (first_true w1).mono ?_
    rintro _ w2 ⟨rfl, f2⟩
    go_wp2_with fail
    go_ret
    exact ⟨rfl, f1.trans f2⟩
end Go.Proofs.Ytgihjbmmggkepaa
