/- The walk of FrameLong. -/
import Derived.Test.YtgihjbmmggkepaaFirst
namespace Go.Proofs.Ytgihjbmmggkepaa
open Go.RowKit

theorem and24 (n : Int) : bits .and .i64 n 16777215 = n % 16777216 := by
  have h255 : (BitVec.ofInt 64 16777215).toNat = 2 ^ 24 - 1 := by decide
  have key : (BitVec.ofInt 64 n &&& BitVec.ofInt 64 16777215).toNat = (n % ((2 ^ 64 : Nat) : Int)).toNat % 2 ^ 24 := by
    rw [BitVec.toNat_and, BitVec.toNat_ofInt, h255, Nat.and_two_pow_sub_one_eq_mod]
  show IntKind.i64.wrap ((BitVec.ofInt 64 n &&& BitVec.ofInt 64 16777215).toNat : Nat) = n % 16777216
  rw [key, IntKind.wrap_i64]
  omega
theorem u8_nat (x : Int) (h0 : 0 ≤ x) (h1 : x < 256) : (u8 x).toNat = x.toNat := by
  rw [u8, UInt8.toNat_ofNat']; omega
theorem size_u8 (N : Nat) (h : N < 16777216) : sizeOf3 (u8 ((N : Int) / 65536)) (u8 ((N : Int) / 256 % 256)) (u8 ((N : Int) % 256)) = N := by
  unfold sizeOf3
  rw [u8_nat _ (by omega) (by omega), u8_nat _ (by omega) (by omega), u8_nat _ (by omega) (by omega)]
  omega
def longL (N : Nat) (more : List UInt8) : List UInt8 := u8 ((N : Int) / 65536) :: u8 ((N : Int) / 256 % 256) :: u8 ((N : Int) % 256) :: more
theorem long_1 (N : Nat) (more : List UInt8) (h : N < 16777216) (h1 : 20000 < N) : nextL (longL N more) = (0, ByteArray.empty, 0, 2) := by
  simp only [longL, nextL, size_u8 N h, h1, if_true]
theorem long_2 (N : Nat) (more : List UInt8) (h : N ≤ 20000) (h1 : 100 < N) (hm : more.length ≤ 100) : nextL (longL N more) = (0, ByteArray.empty, 0, 14) := by
  simp only [longL, nextL, size_u8 N (by omega), show ¬ 20000 < N by omega, show more.length + 3 < N + 6 by omega, if_true, if_false]
theorem long_3 (N : Nat) (more : List UInt8) (h : N ≤ 20000) : ∃ kd bd n e, nextL (longL N more) = (kd, bd, n, e) ∧ (e != 2) = true := by
  simp only [longL, nextL, size_u8 N (by omega), show ¬ 20000 < N by omega, if_false]
  split
  · exact ⟨_, _, _, _, rfl, by decide⟩
  · split
    · exact ⟨_, _, _, _, rfl, by decide⟩
    · exact ⟨_, _, _, _, rfl, by decide⟩
theorem long_cells (N : Nat) (l : List UInt8) (h : N < 16777216) : [Value.int .u8 ((N : Int) / 65536), .int .u8 ((N : Int) / 256 % 256), .int .u8 ((N : Int) % 256)] ++ bc l = bc (longL N l) := by
  simp only [bc, longL, List.map_cons, List.cons_append, List.nil_append]
  rw [u8_cell _ (by omega) (by omega), u8_cell ((N : Int) / 256 % 256) (by omega) (by omega), u8_cell ((N : Int) % 256) (by omega) (by omega)]
theorem Sl.bytes {w : World} {v : Value} {n : Nat} {l : List UInt8} {own : Option Nat} (h : Sl w 5 1 v n (bc l) own) : ∃ a c, v = .slice a n c ∧ n = l.length ∧ n ≤ c ∧ BytesAt w w.heap.size a l := by
  have hn : n = l.length := by have := h.length; rw [bc_length] at this; omega
  have key : ∀ a, Cells w a (bc l) → BytesAt w w.heap.size a l := by
    intro a hc hl
    obtain ⟨b, rfl, hb⟩ := hc 0 (.int .u8 (l[0].toNat : Int)) (by simp [bc, List.getElem?_eq_getElem hl])
    rw [show b.add 0 = b by simp [Addr.add]] at hb
    have hsp := spot_none hb
    have hlt := block_lt_of_cell hb
    obtain ⟨bb, off, sp⟩ := b
    simp only at hsp hlt
    subst hsp
    refine ⟨bb, off, rfl, hlt, fun k c hk => ?_⟩
    obtain ⟨b2, hb2, hv⟩ := hc k (.int .u8 c.toNat) (by simp [bc, hk])
    cases hb2
    rwa [at_add] at hv
  rcases h with ⟨_, a, rfl, _, _, hc, _⟩ | ⟨g, c, _, rfl, hr⟩
  · exact ⟨a, n, rfl, hn, Nat.le_refl _, key a hc⟩
  · exact ⟨_, c, rfl, hn, hr.le, key _ hr.cells⟩

set_option maxRecDepth 100000 in
set_option maxHeartbeats 2000000 in
theorem long_w1 (w : World) (a : Option Addr) (len cap : Nat) (l : List UInt8) (hb : BytesAt w w.heap.size a l) (hlen : l.length = len) (hl : len ≤ 100) (k : Int) (N : Nat) (hN : bits .and .i64 k 16777215 = (N : Int)) (hN2 : N < 16777216) (h1 : 20000 < N) :
    Calls Try.prog 6 #[.int .i64 k, .slice a len cap] w fun e w' => e = .returned (.bool true) ∧ Fr [] w w' := by
  obtain ⟨i5, hi, hz0, hz1, hz2⟩ := info_parts info5
  have ha := and255
  go_enter Try.func6, Try.ntmps6
  go_wp2_with fail
  refine (first_true w).mono ?_
  rintro _ w1 ⟨rfl, f1⟩
  have hb1 := hb.fr f1 (Nat.le_refl _) (by simp)
  go_wp2_with (at_builtin; refine wpList_append_sl rfl (.tmp 30) (.tmp 31) 22 rfl i5 _ 1 Try.underlying22 hi hz0 hz1 hz2 rfl (by decide) _ none rfl (.inl ⟨rfl, some ⟨w1.heap.size, 0, none⟩, rfl, fun h => (by cases h), by decide, Cells.of_holds (Holds.new w1 5 #[.int .u8 ((N : Int) / 65536), .int .u8 ((N : Int) / 256 % 256), .int .u8 ((N : Int) % 256)]), rfl⟩) a len cap (bc l) rfl (by simpa [bc_length] using hlen) (hb1.cells.fr0 ((Fr.refl [] w1).alloc _)) (bc_one l) (by unfold maxLen; omega) (by omega) ?_; intro v2 w2 own2 hs2 hf2 ho2 hm2; clear hm2 ho2)
  rw [long_cells N l hN2] at hs2
  obtain ⟨a2, c2, rfl, e2, hc2, hB2⟩ := Sl.bytes hs2
  have f2 : Fr [] w w2 := (f1.alloc _).trans hf2
  have hnext := next_any w2 a2 c2 (longL N l) hB2 (by omega) (by omega)
  rw [← e2] at hnext
  have hl100 : l.length ≤ 100 := by omega
  clear hs2 hf2 hb1 f1
  rw [long_1 N l hN2 h1] at hnext
  simp only [tup4] at hnext
  refine hnext.mono ?_
  rintro _ w3 ⟨rfl, f3⟩
  go_wp2_with fail
  go_ret
  exact ⟨rfl, (f2.trans f3).alloc _⟩

set_option maxRecDepth 100000 in
set_option maxHeartbeats 2000000 in
theorem long_w2 (w : World) (a : Option Addr) (len cap : Nat) (l : List UInt8) (hb : BytesAt w w.heap.size a l) (hlen : l.length = len) (hl : len ≤ 100) (k : Int) (N : Nat) (hN : bits .and .i64 k 16777215 = (N : Int)) (hN2 : N < 16777216) (h1 : N ≤ 20000) (h2 : 100 < N) :
    Calls Try.prog 6 #[.int .i64 k, .slice a len cap] w fun e w' => e = .returned (.bool true) ∧ Fr [] w w' := by
  obtain ⟨i5, hi, hz0, hz1, hz2⟩ := info_parts info5
  have ha := and255
  go_enter Try.func6, Try.ntmps6
  go_wp2_with fail
  refine (first_true w).mono ?_
  rintro _ w1 ⟨rfl, f1⟩
  have hb1 := hb.fr f1 (Nat.le_refl _) (by simp)
  go_wp2_with (at_builtin; refine wpList_append_sl rfl (.tmp 30) (.tmp 31) 22 rfl i5 _ 1 Try.underlying22 hi hz0 hz1 hz2 rfl (by decide) _ none rfl (.inl ⟨rfl, some ⟨w1.heap.size, 0, none⟩, rfl, fun h => (by cases h), by decide, Cells.of_holds (Holds.new w1 5 #[.int .u8 ((N : Int) / 65536), .int .u8 ((N : Int) / 256 % 256), .int .u8 ((N : Int) % 256)]), rfl⟩) a len cap (bc l) rfl (by simpa [bc_length] using hlen) (hb1.cells.fr0 ((Fr.refl [] w1).alloc _)) (bc_one l) (by unfold maxLen; omega) (by omega) ?_; intro v2 w2 own2 hs2 hf2 ho2 hm2; clear hm2 ho2)
  rw [long_cells N l hN2] at hs2
  obtain ⟨a2, c2, rfl, e2, hc2, hB2⟩ := Sl.bytes hs2
  have f2 : Fr [] w w2 := (f1.alloc _).trans hf2
  have hnext := next_any w2 a2 c2 (longL N l) hB2 (by omega) (by omega)
  rw [← e2] at hnext
  have hl100 : l.length ≤ 100 := by omega
  clear hs2 hf2 hb1 f1
  rw [long_2 N l h1 h2 hl100] at hnext
  simp only [tup4] at hnext
  refine hnext.mono ?_
  rintro _ w3 ⟨rfl, f3⟩
  go_wp2_with fail
  go_ret
  exact ⟨rfl, (f2.trans f3).alloc _⟩

set_option maxRecDepth 100000 in
set_option maxHeartbeats 2000000 in
theorem long_w3 (w : World) (a : Option Addr) (len cap : Nat) (l : List UInt8) (hb : BytesAt w w.heap.size a l) (hlen : l.length = len) (hl : len ≤ 100) (k : Int) (N : Nat) (hN : bits .and .i64 k 16777215 = (N : Int)) (hN2 : N < 16777216) (h1 : N ≤ 100) :
    Calls Try.prog 6 #[.int .i64 k, .slice a len cap] w fun e w' => e = .returned (.bool true) ∧ Fr [] w w' := by
  obtain ⟨i5, hi, hz0, hz1, hz2⟩ := info_parts info5
  have ha := and255
  go_enter Try.func6, Try.ntmps6
  go_wp2_with fail
  refine (first_true w).mono ?_
  rintro _ w1 ⟨rfl, f1⟩
  have hb1 := hb.fr f1 (Nat.le_refl _) (by simp)
  go_wp2_with (at_builtin; refine wpList_append_sl rfl (.tmp 30) (.tmp 31) 22 rfl i5 _ 1 Try.underlying22 hi hz0 hz1 hz2 rfl (by decide) _ none rfl (.inl ⟨rfl, some ⟨w1.heap.size, 0, none⟩, rfl, fun h => (by cases h), by decide, Cells.of_holds (Holds.new w1 5 #[.int .u8 ((N : Int) / 65536), .int .u8 ((N : Int) / 256 % 256), .int .u8 ((N : Int) % 256)]), rfl⟩) a len cap (bc l) rfl (by simpa [bc_length] using hlen) (hb1.cells.fr0 ((Fr.refl [] w1).alloc _)) (bc_one l) (by unfold maxLen; omega) (by omega) ?_; intro v2 w2 own2 hs2 hf2 ho2 hm2; clear hm2 ho2)
  rw [long_cells N l hN2] at hs2
  obtain ⟨a2, c2, rfl, e2, hc2, hB2⟩ := Sl.bytes hs2
  have f2 : Fr [] w w2 := (f1.alloc _).trans hf2
  have hnext := next_any w2 a2 c2 (longL N l) hB2 (by omega) (by omega)
  rw [← e2] at hnext
  have hl100 : l.length ≤ 100 := by omega
  clear hs2 hf2 hb1 f1
  obtain ⟨kd, bd, n, e, hx, he⟩ := long_3 N l (by omega)
  rw [hx] at hnext
  simp only [tup4] at hnext
  refine hnext.mono ?_
  rintro _ w3 ⟨rfl, f3⟩
  have f4 := (f2.trans f3).alloc (.cells #[.int .i64 kd, .string bd] 25)
  have u2 : 2 ≤ c2 := by omega
  clear hx hnext
  go_wp2_with fail
  refine (next_short3 _ a2 2 c2 (by decide)).mono ?_
  rintro _ w5 ⟨rfl, f5⟩
  go_wp2_with fail
  go_ret
  exact ⟨rfl, (f4.trans f5).alloc _⟩

/-- FrameLong, whatever comes in. -/
theorem long_any (w : World) (a : Option Addr) (len cap : Nat) (l : List UInt8) (hb : BytesAt w w.heap.size a l) (hlen : l.length = len) (k : Int) :
    Calls Try.prog 6 #[.int .i64 k, .slice a len cap] w fun e w' => e = .returned (.bool true) ∧ Fr [] w w' := by
  by_cases hl : len ≤ 100
  · obtain ⟨N, hN, hN2⟩ : ∃ N : Nat, bits .and .i64 k 16777215 = (N : Int) ∧ N < 16777216 := ⟨(k % 16777216).toNat, by rw [and24]; omega, by omega⟩
    by_cases h1 : 20000 < N
    · exact long_w1 w a len cap l hb hlen hl k N hN hN2 h1
    · by_cases h2 : 100 < N
      · exact long_w2 w a len cap l hb hlen hl k N hN hN2 (by omega) h2
      · exact long_w3 w a len cap l hb hlen hl k N hN hN2 (by omega)
  · go_enter Try.func6, Try.ntmps6
    go_wp2_with fail
    refine (first_true w).mono ?_
    rintro _ w1 ⟨rfl, f1⟩
    go_wp2_with fail
    refine (first_true w1).mono ?_
    rintro _ w2 ⟨rfl, f2⟩
    go_wp2_with fail
    go_ret
    exact ⟨rfl, f1.trans f2⟩
end Go.Proofs.Ytgihjbmmggkepaa
