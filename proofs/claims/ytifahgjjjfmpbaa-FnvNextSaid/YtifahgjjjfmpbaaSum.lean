/- The contracts of fnv.Sum and of the reference's SumOf: both compute the same fold over the bytes. -/
import Derived.Test.YtifahgjjjfmpbaaRows
import Derived.WalkKit
namespace Go.Proofs.Ytifahgjjjfmpbaa
open Go.RowKit

def step (h : Int) (c : UInt8) : Int := IntKind.u64.wrap (bits BinOp.xor IntKind.u64 h (IntKind.u64.wrap (c.toNat : Int)) * 1099511628211)
def sumL (l : List UInt8) : Int := l.foldl step 14695981039346656037

theorem take_snoc (s : ByteArray) (k : Nat) (h : k < s.size) : s.data.toList.take (k + 1) = s.data.toList.take k ++ [s[k]] := by
  rw [List.take_succ_eq_append_getElem (by simpa using h)]; rfl
theorem sumL_snoc (l : List UInt8) (c : UInt8) : sumL (l ++ [c]) = step (sumL l) c := by simp [sumL]
theorem ret_int {k : IntKind} {a b : Int} (h : a = b) : Ending.returned (.int k a) = .returned (.int k b) := by rw [h]
theorem ret_bool {a b : Bool} (h : a = b) : Ending.returned (.bool a) = .returned (.bool b) := by rw [h]
theorem int_eq {k : IntKind} {a b : Int} (h : a = b) : Value.int k a = .int k b := by rw [h]

set_option maxHeartbeats 400000 in
theorem sum_any (s : ByteArray) (w : World) (hs : s.size ≤ maxLen) :
    Calls Try.prog 7 #[.string s] w fun e w' => e = .returned (.int .u64 (sumL s.data.toList)) ∧ w = w' := by
  unfold maxLen at hs
  go_enter Try.func7, Try.ntmps7
  go_wp2
  go_loop [3, 7] (fun h i => ∃ k : Nat, k ≤ s.size ∧ i = .int .i64 k ∧ h = .int .u64 (sumL (s.data.toList.take k))) (fun _ i => s.size - (intOf i).toNat)
  case atStart => exact ⟨0, Nat.zero_le _, rfl, rfl⟩
  case round =>
    obtain ⟨k, hk, rfl, rfl⟩ := hrel
    by_cases hlt : k < s.size
    · go_wp2
      go_round
      case rel => exact ⟨k + 1, by omega, by go_num, by rw [take_snoc s k hlt, sumL_snoc]; rfl⟩
      case measure => simp [intOf]; omega
    · go_wp2
      go_ret
      exact ⟨ret_int (by rw [List.take_of_length_le (by simp; omega)]), rfl⟩

set_option maxHeartbeats 400000 in
theorem sumOf_any (s : ByteArray) (w : World) (hs : s.size ≤ maxLen) :
    Calls Try.prog 8 #[.string s] w fun e w' => e = .returned (.int .u64 (sumL s.data.toList)) ∧ w = w' := by
  unfold maxLen at hs
  go_enter Try.func8, Try.ntmps8
  go_wp2
  go_loop [3, 4] (fun h i => ∃ k : Nat, k ≤ s.size ∧ i = .int .i64 k ∧ h = .int .u64 (sumL (s.data.toList.take k))) (fun _ i => s.size - (intOf i).toNat)
  case atStart => exact ⟨0, Nat.zero_le _, rfl, rfl⟩
  case round =>
    obtain ⟨k, hk, rfl, rfl⟩ := hrel
    by_cases hlt : k < s.size
    · go_wp2
      go_round
      case rel => exact ⟨k + 1, by omega, by go_num, by rw [take_snoc s k hlt, sumL_snoc]; rfl⟩
      case measure => simp [intOf]; omega
    · go_wp2
      go_ret
      exact ⟨ret_int (by rw [List.take_of_length_le (by simp; omega)]), rfl⟩

theorem step_range (h : Int) (c : UInt8) : 0 ≤ step h c ∧ step h c < 18446744073709551616 := by
  unfold step
  rw [IntKind.wrap_u64]
  omega
theorem sumL_range (l : List UInt8) : 0 ≤ sumL l ∧ sumL l < 18446744073709551616 := by
  unfold sumL
  suffices H : ∀ (l : List UInt8) (h : Int), 0 ≤ h ∧ h < 18446744073709551616 → 0 ≤ l.foldl step h ∧ l.foldl step h < 18446744073709551616 from H l _ (by omega)
  intro l
  induction l with
  | nil => intro h hh; exact hh
  | cons c l ih => intro h _; exact ih _ (step_range h c)

set_option maxHeartbeats 400000 in
theorem shard_zero (s : ByteArray) (n : Int) (w : World) (hn : n < 1) :
    Calls Try.prog 9 #[.string s, .int .i64 n] w fun e w' => e = .returned (.int .i64 0) ∧ w = w' := by
  go_enter Try.func9, Try.ntmps9
  go_wp2
  go_ret
  exact ⟨rfl, rfl⟩

set_option maxHeartbeats 400000 in
theorem shard_any (s : ByteArray) (n : Int) (w : World) (hs : s.size ≤ maxLen) (hn : 1 ≤ n) (hn' : n ≤ 9223372036854775807) :
    Calls Try.prog 9 #[.string s, .int .i64 n] w fun e w' => e = .returned (.int .i64 (sumL s.data.toList % n)) ∧ w = w' := by
  have hr := sumL_range s.data.toList
  go_enter Try.func9, Try.ntmps9
  go_wp2_with (go_at_call 7; refine (sum_any _ _ hs).mono ?_; rintro e w' ⟨rfl, rfl⟩)
  go_ret
  exact ⟨ret_int (by
    have h1 := Int.emod_nonneg (sumL s.data.toList) (show n ≠ 0 by omega)
    have h2 := Int.emod_lt_of_pos (sumL s.data.toList) (show 0 < n by omega)
    exact IntWalk.wrap64_in _ (by omega)), rfl⟩

theorem sum_nil (w : World) : Calls Try.prog 7 #[.string ⟨#[]⟩] w fun e w' => e = .returned (.int .u64 14695981039346656037) ∧ w = w' :=
  sum_any ⟨#[]⟩ w (by decide)
theorem sumL_a : sumL [97] = 12638187200555641996 := by decide +kernel
theorem sum_a (w : World) : Calls Try.prog 7 #[.string ⟨#[97]⟩] w fun e w' => e = .returned (.int .u64 12638187200555641996) ∧ w = w' :=
  (sum_any ⟨#[97]⟩ w (by decide)).mono fun e w' ⟨he, hw⟩ => ⟨he.trans (ret_int sumL_a), hw⟩

set_option maxHeartbeats 400000 in
theorem first_true (w : World) : Calls Try.prog 6 #[] w fun e w' => e = .returned (.bool true) ∧ w = w' := by
  go_enter Try.func6, Try.ntmps6
  go_wp2_with fail
  refine (sum_nil _).mono ?_
  rintro e w' ⟨rfl, rfl⟩
  go_wp2_with fail
  refine (sum_a _).mono ?_
  rintro e w' ⟨rfl, rfl⟩
  go_wp2_with fail
  refine (shard_zero _ _ _ (by omega)).mono ?_
  rintro e w' ⟨rfl, rfl⟩
  go_wp2_with fail
  go_ret
  exact ⟨rfl, rfl⟩
end Go.Proofs.Ytifahgjjjfmpbaa
