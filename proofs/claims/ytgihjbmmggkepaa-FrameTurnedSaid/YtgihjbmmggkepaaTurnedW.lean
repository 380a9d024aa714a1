/- The walk of FrameTurned. -/
import Derived.Test.YtgihjbmmggkepaaBackW
namespace Go.Proofs.Ytgihjbmmggkepaa
open Go.RowKit

theorem xor_u8 (x b : UInt8) (hb : b ≠ 0) : ∃ y : UInt8, bits .xor .u8 (x.toNat : Int) (b.toNat : Int) = (y.toNat : Int) ∧ x ≠ y := by
  refine ⟨x ^^^ b, ?_, fun h => hb ?_⟩
  · have hx := x.toNat_lt
    have hb2 := b.toNat_lt
    have key : (BitVec.ofInt 8 (x.toNat : Int) ^^^ BitVec.ofInt 8 (b.toNat : Int)).toNat = (x ^^^ b).toNat := by
      rw [BitVec.toNat_xor, BitVec.toNat_ofInt, BitVec.toNat_ofInt, UInt8.toNat_xor]
      congr 1 <;> omega
    show IntKind.u8.wrap ((BitVec.ofInt 8 (x.toNat : Int) ^^^ BitVec.ofInt 8 (b.toNat : Int)).toNat : Nat) = _
    rw [key]
    have := (x ^^^ b).toNat_lt
    generalize (x ^^^ b).toNat = z at *
    simp [IntKind.wrap, IntKind.bits, IntKind.signed]
    omega
  · have e : x ^^^ (x ^^^ b) = b := by rw [← UInt8.xor_assoc, UInt8.xor_self, UInt8.zero_xor]
    rw [← e, ← h, UInt8.xor_self]
theorem bc_set (l : List UInt8) (p : Nat) (y : UInt8) : (bc l).set p (.int .u8 (y.toNat : Int)) = bc (l.set p y) := by
  simp [bc, List.map_set]
set_option maxRecDepth 100000 in
set_option maxHeartbeats 2000000 in
theorem turned_in (w : World) (k at_ : Int) (s : ByteArray) (hs : s.size ≤ 400) (b : UInt8) (hb : b ≠ 0) (K C q : Nat) (hK : bits .and .i64 k 255 = (K : Int)) (hK2 : K < 256) (hC : bits .and .i64 at_ 65535 = (C : Int)) (hm : (C : Int) % ((s.size : Int) + 6 - 3) = (q : Int)) (hq : q < s.size + 3) :
    Calls Try.prog 5 #[.int .i64 k, .string s, .int .i64 at_, .int .u8 (b.toNat : Int)] w fun e w' => e = .returned (.bool true) ∧ Fr [] w w' := by
  obtain ⟨i5, hi, hz0, hz1, hz2⟩ := info_parts info5
  have hPL : (putL [] K s).length = s.size + 6 := by rw [putL_length]; simp
  obtain ⟨x, hx⟩ : ∃ x, (putL [] K s)[3 + q]? = some x := ⟨_, List.getElem?_eq_getElem (by omega)⟩
  obtain ⟨y, hxy, hne⟩ := xor_u8 x b hb
  have hT := turned K s (3 + q) x y (by omega) (by omega) (by omega) (by omega) hx hne
  have hb0 : ((b.toNat : Int) == 0) = false := by
    have : b.toNat ≠ 0 := fun h => hb (UInt8.toNat_inj.1 (by simpa using h))
    simp; omega
  have HT := Lib.hid hT
  have HX := Lib.hid hx
  clear hT hx
  go_enter Try.func5, Try.ntmps5
  go_wp2_with fail
  refine (first_true w).mono ?_
  rintro _ w1 ⟨rfl, f1⟩
  go_wp2_with fail
  refine (put_list w1 none 0 0 [] (nil_bytes w1) rfl (by decide) K s (by omega) (by omega) (by omega)).mono ?_
  rintro _ w2 ⟨g, c, rfl, hg, hr, f2⟩
  have r2 := f1.trans f2
  rw [show 0 + s.size + 6 = s.size + 6 by omega] at hr
  have hsrc := hr.cells.fr0 ((Fr.refl [] w2).alloc (.cells #[] 5))
  clear f1 f2 hg
  go_wp2_with (at_builtin; refine wpList_append_sl rfl (.tmp 50) (.tmp 51) 22 rfl i5 _ 1 Try.underlying22 hi hz0 hz1 hz2 rfl (by decide) _ none rfl (Sl.tight _ _ _ ⟨w2.heap.size, 0, none⟩) _ (s.size + 6) c (bc (putL [] K s)) rfl (by rw [bc_length, hPL, Nat.mul_one]) hsrc (bc_one _) (by unfold maxLen; omega) (by omega) ?_; intro v3 w3 own3 hs3 hf3 ho3 hm3; simp only [Nat.zero_add, List.nil_append] at hs3; obtain ⟨g3, rfl⟩ := hm3 (by omega); obtain ⟨c3, rfl, hr3⟩ := hs3.own_row; have hg3 : w2.heap.size < g3 := (by rcases ho3 with h | ⟨g4, h, h4⟩ <;> cases h <;> simp at h4 <;> omega); have cx := hr3.at_ (3 + q) x HX.out; have zx := hr3.frozen (3 + q); have r3 : Fr [] w w3 := (r2.alloc _).trans hf3; clear hs3 ho3 hm3 hsrc hr)
  have hr4 := hr3.set (3 + q) (.int .u8 (y.toNat : Int))
  rw [bc_set] at hr4
  have r4 : Fr [] w (w3.setCell ⟨g3, 3 + q, none⟩ (.int .u8 (y.toNat : Int))) := r3.setNew (by have := r2.size; show w.heap.size ≤ g3; omega) _
  have hlm : ((putL [] K s).set (3 + q) y).length = s.size + 6 := by rw [List.length_set, hPL]
  have hn := next_any _ _ c3 _ (hr4.bytes hr4.lt) (by omega) (by have := hr4.le; omega)
  rw [hlm, HT.out] at hn
  simp only [tup4] at hn
  refine hn.mono ?_
  rintro _ w5 ⟨rfl, f5⟩
  have r5 := (r4.trans f5).alloc (.cells #[.int .i64 0, .string ByteArray.empty] 25)
  clear hn f5 r4 hr4 hr3 cx zx
  go_wp2_with fail
  go_ret
  exact ⟨rfl, r5⟩
/-- FrameTurned, whatever comes in. -/
theorem turned_any (w : World) (k at_ : Int) (s : ByteArray) (b : Int) (hb0 : 0 ≤ b) (hb1 : b ≤ 255) :
    Calls Try.prog 5 #[.int .i64 k, .string s, .int .i64 at_, .int .u8 b] w fun e w' => e = .returned (.bool true) ∧ Fr [] w w' := by
  by_cases hs : s.size ≤ 400
  · obtain ⟨K, hK, hK2⟩ : ∃ K : Nat, bits .and .i64 k 255 = (K : Int) ∧ K < 256 := ⟨(k % 256).toNat, by rw [and255]; omega, by omega⟩
    by_cases hb : b = 0
    · subst hb
      go_enter Try.func5, Try.ntmps5
      go_wp2_with fail
      refine (first_true w).mono ?_
      rintro _ w1 ⟨rfl, f1⟩
      go_wp2_with fail
      refine (put_list w1 none 0 0 [] (nil_bytes w1) rfl (by decide) K s (by omega) (by omega) (by omega)).mono ?_
      rintro _ w2 ⟨g, c, rfl, hg, hr, f2⟩
      clear hr
      go_wp2_with fail
      refine (first_true w2).mono ?_
      rintro _ w3 ⟨rfl, f3⟩
      go_wp2_with fail
      go_ret
      exact ⟨rfl, (f1.trans f2).trans f3⟩
    · obtain ⟨C, hC⟩ : ∃ C : Nat, bits .and .i64 at_ 65535 = (C : Int) := ⟨(at_ % 65536).toNat, by rw [and16]; omega⟩
      have e : ((u8 b).toNat : Int) = b := by rw [u8_nat b hb0 (by omega)]; omega
      have := turned_in w k at_ s hs (u8 b) (fun h => hb (by rw [← e, h]; rfl)) K C (C % (s.size + 3)) hK hK2 hC (by rw [show (s.size : Int) + 6 - 3 = ((s.size + 3 : Nat) : Int) by omega]; rfl) (Nat.mod_lt _ (by omega))
      rwa [e] at this
  · go_enter Try.func5, Try.ntmps5
    go_wp2_with fail
    refine (first_true w).mono ?_
    rintro _ w1 ⟨rfl, f1⟩
    go_wp2_with fail
    refine (first_true w1).mono ?_
    rintro _ w2 ⟨rfl, f2⟩
    go_wp2_with fail
    go_ret
    exact ⟨rfl, f1.trans f2⟩
end Go.Proofs.Ytgihjbmmggkepaa
