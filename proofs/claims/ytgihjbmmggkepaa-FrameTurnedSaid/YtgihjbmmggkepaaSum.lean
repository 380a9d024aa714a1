/- The contracts of frame.Sum and of the reference's Sum: both compute the same fold over the bytes. -/
import Derived.Test.YtgihjbmmggkepaaRows
import Derived.Test.YtgihjbmmggkepaaSlices
import Derived.Test.YtgihjbmmggkepaaOpen
import Derived.Laws.Bits128
namespace Go.Proofs.Ytgihjbmmggkepaa
open Go.RowKit

def stp (p : Int × Int) (c : UInt8) : Int × Int := ((p.1 + c.toNat) % 256, (p.2 + (p.1 + c.toNat) % 256) % 256)
def stL (k : Int) (l : List UInt8) : Int × Int := l.foldl stp ((1 + k) % 256, (1 + k) % 256)
/-- A frame's sum. -/
def sumL (k : Int) (l : List UInt8) : Int := 256 * (stL k l).2 + (stL k l).1
theorem take_snoc (s : ByteArray) (k : Nat) (h : k < s.size) : s.data.toList.take (k + 1) = s.data.toList.take k ++ [s[k]] := by
  rw [List.take_succ_eq_append_getElem (by simpa using h)]; rfl
theorem stL_snoc (k : Int) (l : List UInt8) (c : UInt8) : stL k (l ++ [c]) = stp (stL k l) c := by simp [stL]
theorem stp_range (p : Int × Int) (c : UInt8) : (0 ≤ (stp p c).1 ∧ (stp p c).1 < 256) ∧ (0 ≤ (stp p c).2 ∧ (stp p c).2 < 256) := by
  unfold stp; omega
theorem stL_range (k : Int) (l : List UInt8) : (0 ≤ (stL k l).1 ∧ (stL k l).1 < 256) ∧ (0 ≤ (stL k l).2 ∧ (stL k l).2 < 256) := by
  unfold stL
  suffices H : ∀ (l : List UInt8) (p : Int × Int), (0 ≤ p.1 ∧ p.1 < 256) ∧ (0 ≤ p.2 ∧ p.2 < 256) → (0 ≤ (l.foldl stp p).1 ∧ (l.foldl stp p).1 < 256) ∧ (0 ≤ (l.foldl stp p).2 ∧ (l.foldl stp p).2 < 256) from H l _ (by simp only; omega)
  intro l
  induction l with
  | nil => intro p h; exact h
  | cons c l ih => intro p _; exact ih _ (stp_range p c)
theorem sumL_range (k : Int) (l : List UInt8) : 0 ≤ sumL k l ∧ sumL k l < 65536 := by
  have := stL_range k l
  unfold sumL; omega
theorem and255 (n : Int) : bits .and .i64 n 255 = n % 256 := by
  have h255 : (BitVec.ofInt 64 255).toNat = 2 ^ 8 - 1 := by decide
  have key : (BitVec.ofInt 64 n &&& BitVec.ofInt 64 255).toNat = (n % ((2 ^ 64 : Nat) : Int)).toNat % 2 ^ 8 := by
    rw [BitVec.toNat_and, BitVec.toNat_ofInt, h255, Nat.and_two_pow_sub_one_eq_mod]
  show IntKind.i64.wrap ((BitVec.ofInt 64 n &&& BitVec.ofInt 64 255).toNat : Nat) = n % 256
  rw [key, IntKind.wrap_i64]
  omega

theorem wraps_i64 (n : Int) (h₀ : 0 ≤ n) (h₁ : n < 2 ^ 63) : IntKind.i64.wrap n = n := by rw [IntKind.wrap_i64]; omega
/-- 'x<<i | y', a number below 2^i behind a multiple of it. -/
theorem or_add (i : Nat) (x y : Int) (hx₀ : 0 ≤ x) (hx : x % 2 ^ i = 0) (hx₁ : x < 2 ^ 63) (hy₀ : 0 ≤ y) (hy : y < 2 ^ i) (hy₁ : y < 2 ^ 63) : bits .or .i64 x y = x + y :=
  bits_join .i64 63 (by decide) wraps_i64 i x y hx₀ hx hx₁ hy₀ hy hy₁
theorem byte_lt (c : UInt8) : (c.toNat : Int) < 256 := by have := c.toNat_lt; omega
theorem stp_1 (x y : Int) (c : UInt8) (hx0 : 0 ≤ x) (hx1 : x < 256) : wrap64 (x + wrap64 (c.toNat : Int)) % 256 = (stp (x, y) c).1 := by
  have := byte_lt c
  rw [IntWalk.wrap64_in (c.toNat : Int) (by omega), IntWalk.wrap64_in _ (by omega)]; rfl
theorem stp_2 (x y : Int) (c : UInt8) (hx0 : 0 ≤ x) (hx1 : x < 256) : (y + wrap64 (x + wrap64 (c.toNat : Int))) % 256 = (stp (x, y) c).2 := by
  have := byte_lt c
  rw [IntWalk.wrap64_in (c.toNat : Int) (by omega), IntWalk.wrap64_in _ (by omega)]
  simp [stp]
theorem rstp_1 (x y : Int) (c : UInt8) (hx0 : 0 ≤ x) (hx1 : x < 256) : (wrap64 (x + wrap64 (c.toNat : Int))).tmod 256 = (stp (x, y) c).1 := by
  have := byte_lt c
  rw [IntWalk.wrap64_in (c.toNat : Int) (by omega), IntWalk.wrap64_in _ (by omega), Int.tmod_eq_emod_of_nonneg (by omega)]; rfl
theorem rstp_2 (x y : Int) (c : UInt8) (hx0 : 0 ≤ x) (hx1 : x < 256) (hy0 : 0 ≤ y) (hy1 : y < 256) : (wrap64 (y + (wrap64 (x + wrap64 (c.toNat : Int))).tmod 256)).tmod 256 = (stp (x, y) c).2 := by
  have := byte_lt c
  rw [IntWalk.wrap64_in (c.toNat : Int) (by omega), IntWalk.wrap64_in (x + (c.toNat : Int)) (by omega), Int.tmod_eq_emod_of_nonneg (by omega : (0 : Int) ≤ x + c.toNat), IntWalk.wrap64_in _ (by omega), Int.tmod_eq_emod_of_nonneg (by omega)]; rfl

set_option maxHeartbeats 400000 in
theorem sum_any (k : Int) (s : ByteArray) (w : World) (hs : s.size ≤ maxLen) :
    Calls Try.prog 12 #[.int .i64 k, .string s] w fun e w' => e = .returned (.int .i64 (sumL k s.data.toList)) ∧ w = w' := by
  unfold maxLen at hs
  have ha := and255
  go_enter Try.func12, Try.ntmps12
  go_wp2
  go_loop [5, 6, 19] (fun a b i => ∃ (n : Nat) (x y : Int), n ≤ s.size ∧ stL k (s.data.toList.take n) = (x, y) ∧ a = .int .i64 x ∧ b = .int .i64 y ∧ i = .int .i64 n) (fun _ _ i => s.size - (intOf i).toNat)
  case atStart => exact ⟨0, _, _, Nat.zero_le _, rfl, rfl, rfl, rfl⟩
  case round =>
    obtain ⟨n, x, y, hn, hst, rfl, rfl, rfl⟩ := hrel
    have hr := stL_range k (s.data.toList.take n)
    rw [hst] at hr
    obtain ⟨⟨hx0, hx1⟩, hy0, hy1⟩ := hr
    simp only at hx0 hx1 hy0 hy1
    have HS := Lib.hid hst
    clear hst
    by_cases hlt : n < s.size
    · go_wp2
      go_round
      case rel => exact ⟨n + 1, _, _, by omega, by rw [take_snoc s n hlt, stL_snoc, HS.out], int_eq (stp_1 x y _ hx0 hx1), int_eq (stp_2 x y _ hx0 hx1), by go_num⟩
      case measure => simp [intOf]; omega
    · have e1 : sumL k s.data.toList = 256 * y + x := by
        have h := HS.out
        rw [List.take_of_length_le (by simp; omega)] at h
        simp [sumL, h]
      have e2 : bits .or .i64 (y * 256) x = 256 * y + x := by rw [or_add 8 _ _ (by omega) (by omega) (by omega) hx0 hx1 (by omega)]; omega
      have E := Lib.hid e1
      clear e1
      go_wp2
      go_ret
      exact ⟨ret_int (by rw [E.out]), rfl⟩

set_option maxHeartbeats 400000 in
theorem rsum_any (k : Int) (s : ByteArray) (w : World) (hs : s.size ≤ maxLen) :
    Calls Try.prog 13 #[.int .i64 k, .string s] w fun e w' => e = .returned (.int .i64 (sumL k s.data.toList)) ∧ w = w' := by
  unfold maxLen at hs
  have ha := and255
  go_enter Try.func13, Try.ntmps13
  go_wp2
  go_loop [5, 6, 7] (fun a b i => ∃ (n : Nat) (x y : Int), n ≤ s.size ∧ stL k (s.data.toList.take n) = (x, y) ∧ a = .int .i64 x ∧ b = .int .i64 y ∧ i = .int .i64 n) (fun _ _ i => s.size - (intOf i).toNat)
  case atStart => exact ⟨0, _, _, Nat.zero_le _, rfl, int_eq (by omega), int_eq (by omega), rfl⟩
  case round =>
    obtain ⟨n, x, y, hn, hst, rfl, rfl, rfl⟩ := hrel
    have hr := stL_range k (s.data.toList.take n)
    rw [hst] at hr
    obtain ⟨⟨hx0, hx1⟩, hy0, hy1⟩ := hr
    simp only at hx0 hx1 hy0 hy1
    have HS := Lib.hid hst
    clear hst
    by_cases hlt : n < s.size
    · go_wp2
      go_round
      case rel => exact ⟨n + 1, _, _, by omega, by rw [take_snoc s n hlt, stL_snoc, HS.out], int_eq (rstp_1 x y _ hx0 hx1), int_eq (rstp_2 x y _ hx0 hx1 hy0 hy1), by go_num⟩
      case measure => simp [intOf]; omega
    · have e1 : sumL k s.data.toList = 256 * y + x := by
        have h := HS.out
        rw [List.take_of_length_le (by simp; omega)] at h
        simp [sumL, h]
      have E := Lib.hid e1
      clear e1
      go_wp2
      go_ret
      exact ⟨ret_int (by rw [E.out]), rfl⟩
end Go.Proofs.Ytgihjbmmggkepaa
