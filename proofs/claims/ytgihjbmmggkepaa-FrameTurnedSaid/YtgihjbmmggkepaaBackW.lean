/- The walk of FrameBack. -/
import Derived.Test.YtgihjbmmggkepaaBackN
namespace Go.Proofs.Ytgihjbmmggkepaa
open Go.RowKit

theorem and16 (n : Int) : bits .and .i64 n 65535 = n % 65536 := by
  have h255 : (BitVec.ofInt 64 65535).toNat = 2 ^ 16 - 1 := by decide
  have key : (BitVec.ofInt 64 n &&& BitVec.ofInt 64 65535).toNat = (n % ((2 ^ 64 : Nat) : Int)).toNat % 2 ^ 16 := by
    rw [BitVec.toNat_and, BitVec.toNat_ofInt, h255, Nat.and_two_pow_sub_one_eq_mod]
  show IntKind.i64.wrap ((BitVec.ofInt 64 n &&& BitVec.ofInt 64 65535).toNat : Nat) = n % 65536
  rw [key, IntKind.wrap_i64]
  omega
set_option maxRecDepth 100000 in
set_option maxHeartbeats 2000000 in
theorem back_in (w : World) (a : Option Addr) (len cap : Nat) (l : List UInt8) (hb : BytesAt w w.heap.size a l) (hlen : l.length = len) (hl : len ≤ 100) (k cut : Int) (s : ByteArray) (hs : s.size ≤ 400) (K C m : Nat) (hK : bits .and .i64 k 255 = (K : Int)) (hK2 : K < 256) (hC : bits .and .i64 cut 65535 = (C : Int)) (hm : (C : Int).tmod ((s.size : Int) + 6) = (m : Int)) (hm2 : m < s.size + 6) :
    Calls Try.prog 4 #[.int .i64 k, .string s, .slice a len cap, .int .i64 cut] w fun e w' => e = .returned (.bool true) ∧ Fr [] w w' := by
  obtain ⟨i5, hi, hz0, hz1, hz2⟩ := info_parts info5
  go_enter Try.func4, Try.ntmps4
  go_wp2_with fail
  refine (first_true w).mono ?_
  rintro _ w1 ⟨rfl, f1⟩
  go_wp2_with fail
  refine (put_list w1 none 0 0 [] (nil_bytes w1) rfl (by decide) K s (by omega) (by omega) (by omega)).mono ?_
  rintro _ w2 ⟨g, c, rfl, hg, hr, f2⟩
  have r2 := f1.trans f2
  rw [show 0 + s.size + 6 = s.size + 6 by omega] at hr
  have hb2 := hb.fr r2 (Nat.le_refl _) (by simp)
  have hgw : w.heap.size < g := Nat.lt_of_le_of_lt f1.size hg
  clear f1 f2 hb
  have hPL : (putL [] K s).length = s.size + 6 := by rw [putL_length]; simp
  have hsrc := hr.cells.fr0 ((Fr.refl [] w2).alloc (.cells #[] 5))
  have hbm := (hb2.cells).fr0 ((Fr.refl [] w2).alloc (.cells #[] 5))
  have hgl := hr.lt
  go_wp2_with (at_builtin; first
    | (refine wpList_append_sl rfl (.tmp 48) (.tmp 49) 22 rfl i5 _ 1 Try.underlying22 hi hz0 hz1 hz2 rfl (by decide) _ none rfl (Sl.tight _ _ _ ⟨w2.heap.size, 0, none⟩) _ (s.size + 6) c (bc (putL [] K s)) rfl (by rw [bc_length, hPL, Nat.mul_one]) hsrc (bc_one _) (by unfold maxLen; omega) (by omega) ?_; intro v3 w3 own3 hs3 hf3 ho3 hm3; simp only [Nat.zero_add, List.nil_append] at hs3; have hbm3 := hbm.fr0 hf3; obtain ⟨a3, c3, rfl⟩ := hs3.form; clear hm3 hsrc hbm)
    | (refine wpList_append_sl rfl (.tmp 50) (.tmp 51) 22 rfl i5 _ 1 Try.underlying22 hi hz0 hz1 hz2 rfl (by decide) _ own3 rfl hs3 a len cap (bc l) rfl (by rw [bc_length, hlen, Nat.mul_one]) hbm3 (bc_one _) (by unfold maxLen; omega) (by omega) ?_; intro v4 w4 own4 hs4 hf4 ho4 hm4; clear hm4 ho4 hbm3))
  rw [← bc_append] at hs4
  obtain ⟨a4, c4, rfl, e4, hc4, hB4⟩ := Sl.bytes hs4
  have hown : ∀ x, x ∈ own3.toList → w2.heap.size < x := by
    intro x hx
    rcases ho3 with rfl | ⟨g3, rfl, hg3⟩
    · cases hx
    · simp at hx hg3; omega
  have fA : Fr [] w2 w3 := ((Fr.refl [] w2).alloc _).trans hf3
  have r4 : Fr [] w w4 := (r2.trans fA).step hf4 (fun x hx => .inr (by have := hown x hx; have := r2.size; omega))
  have hr4 := (hr.fr fA (by simp)).fr hf4 (fun hx => by have := hown g hx; omega)
  have hnext := next_any w4 a4 c4 (putL [] K s ++ l) hB4 (by rw [List.length_append, hPL]; omega) (by omega)
  rw [← e4, back_1 K s l (by omega) (by omega) (by omega)] at hnext
  simp only [tup4] at hnext
  clear hs3 hs4 hf3 hf4 ho3 hown fA hr hb2 hB4 r2
  refine hnext.mono ?_
  rintro _ w5 ⟨rfl, f5⟩
  have r5 := (r4.trans f5).alloc (.cells #[.int .i64 K, .string s] 25)
  have hr5 := (hr4.fr f5 (by simp)).alloc (.cells #[.int .i64 K, .string s] 25)
  have hF5 := Holds.new w5 25 #[.int .i64 K, .string s]
  have hBT : BytesAt (w5.alloc (.cells #[.int .i64 K, .string s] 25)) (w5.alloc (.cells #[.int .i64 K, .string s] 25)).heap.size (some ⟨g, 0, none⟩) ((putL [] K s).take m) := fun _ => ⟨g, 0, rfl, hr5.lt, fun j x hx => by
    rw [Nat.zero_add]
    rw [List.getElem?_take] at hx
    split at hx
    · exact hr5.at_ j x hx
    · cases hx⟩
  have hcl := hr5.le
  have hlm : ((putL [] K s).take m).length = m := by rw [List.length_take, hPL]; omega
  have hn2 := next_any _ _ c _ hBT (by omega) (by omega)
  rw [hlm, back_2 K s m (by omega) hm2] at hn2
  simp only [tup4] at hn2
  clear hnext f5 r4 hr4 hr5 hBT hlm e4
  go_wp2_with fail
  refine hn2.mono ?_
  rintro _ w6 ⟨rfl, f6⟩
  have r6 := (r5.trans f6).alloc (.cells #[.int .i64 0, .string ByteArray.empty] 25)
  have hF6 := (hF5.fr f6 (by simp)).alloc (.cells #[.int .i64 0, .string ByteArray.empty] 25)
  have x0 := hF6.cell 0
  have x1 := hF6.cell 1
  simp at x0 x1
  clear hn2 f6 r5 hF5 hF6
  go_wp2_with fail
  go_ret
  exact ⟨rfl, r6⟩
/-- FrameBack, whatever comes in. -/
theorem back_any (w : World) (a : Option Addr) (len cap : Nat) (l : List UInt8) (hb : BytesAt w w.heap.size a l) (hlen : l.length = len) (k cut : Int) (s : ByteArray) :
    Calls Try.prog 4 #[.int .i64 k, .string s, .slice a len cap, .int .i64 cut] w fun e w' => e = .returned (.bool true) ∧ Fr [] w w' := by
  by_cases hs : s.size ≤ 400
  · by_cases hl : len ≤ 100
    · obtain ⟨K, hK, hK2⟩ : ∃ K : Nat, bits .and .i64 k 255 = (K : Int) ∧ K < 256 := ⟨(k % 256).toNat, by rw [and255]; omega, by omega⟩
      obtain ⟨C, hC⟩ : ∃ C : Nat, bits .and .i64 cut 65535 = (C : Int) := ⟨(cut % 65536).toNat, by rw [and16]; omega⟩
      exact back_in w a len cap l hb hlen hl k cut s hs K C (C % (s.size + 6)) hK hK2 hC (by rw [Int.tmod_eq_emod_of_nonneg (by omega)]; push_cast; rfl) (Nat.mod_lt _ (by omega))
    · go_enter Try.func4, Try.ntmps4
      go_wp2_with fail
      refine (first_true w).mono ?_
      rintro _ w1 ⟨rfl, f1⟩
      go_wp2_with fail
      refine (first_true w1).mono ?_
      rintro _ w2 ⟨rfl, f2⟩
      go_wp2_with fail
      go_ret
      exact ⟨rfl, f1.trans f2⟩
  · go_enter Try.func4, Try.ntmps4
    go_wp2_with fail
    refine (first_true w).mono ?_
    rintro _ w1 ⟨rfl, f1⟩
    go_wp2_with fail
    refine (first_true w1).mono ?_
    rintro _ w2 ⟨rfl, f2⟩
    go_wp2_with fail
    go_ret
    exact ⟨rfl, f1.trans f2⟩
end Go.Proofs.Ytgihjbmmggkepaa
