/- The version of a text; the contracts of Parse and Version in one word each; the contracts of Cond. -/
import Derived.Test.YtmlcphehejcmkaaCnd
namespace Go.Proofs.Ytmlcphehejcmkaa
open Go.RowKit

open Classical in
/-- The version whose tag a text is; 0. -/
noncomputable def verOf (s : ByteArray) : Int := if h : Good s.data.toList then h.choose else 0
theorem verOf_no {s : ByteArray} (h : ¬ Good s.data.toList) : verOf s = 0 := by rw [verOf, dif_neg h]
theorem verOf_tag {v : Int} (h1 : 1 ≤ v) (h2 : v ≤ 9223372036854775807) : verOf (bs (showL v)) = v := by
  have hg : Good (bs (showL v)).data.toList := ⟨v, h1, h2, rfl⟩
  rw [verOf, dif_pos hg]
  obtain ⟨a, _, c⟩ := hg.choose_spec
  exact showL_inj a c
theorem verOf_bd (s : ByteArray) : 0 ≤ verOf s ∧ verOf s ≤ 9223372036854775807 := by
  by_cases h : Good s.data.toList
  · obtain ⟨v, h1, h2, h3⟩ := h
    have : s = bs (showL v) := by
      obtain ⟨⟨l⟩⟩ := s
      simp [bs] at h3 ⊢
      exact h3.symm
    rw [this, verOf_tag h1 h2]
    omega
  · rw [verOf_no h]; omega
theorem good_bs {s : ByteArray} (h : Good s.data.toList) : ∃ v : Int, 1 ≤ v ∧ v ≤ 9223372036854775807 ∧ s = bs (showL v) := by
  obtain ⟨v, h1, h2, h3⟩ := h
  refine ⟨v, h1, h2, ?_⟩
  obtain ⟨⟨l⟩⟩ := s
  simp [bs] at h3 ⊢
  exact h3.symm
theorem parse_any (s : ByteArray) (w : World) (hs : s.size ≤ maxLen) :
    Calls Try.prog 8 #[.string s] w fun e w' => e = .returned (.tuple #[.int .i64 (verOf s), .bool (verOf s != 0)]) ∧ w = w' := by
  by_cases h : Good s.data.toList
  · obtain ⟨v, h1, h2, rfl⟩ := good_bs h
    rw [verOf_tag h1 h2, show (v != 0) = true by simp; omega]
    exact parse_yes v w h1 h2
  · rw [verOf_no h]
    exact parse_no s w hs h
theorem version_any (s : ByteArray) (w : World) (hs : s.size ≤ maxLen) :
    Calls Try.prog 10 #[.string s] w fun e w' => e = .returned (.tuple #[.int .i64 (verOf s), .bool (verOf s != 0)]) ∧ w = w' := by
  by_cases h : Good s.data.toList
  · obtain ⟨v, h1, h2, rfl⟩ := good_bs h
    rw [verOf_tag h1 h2, show (v != 0) = true by simp; omega]
    exact version_yes v w h1 h2
  · rw [verOf_no h]
    exact version_no s w hs h
theorem good_len {s : ByteArray} (h : Good s.data.toList) : 4 ≤ s.size := by
  obtain ⟨v, h1, h2, rfl⟩ := good_bs h
  rw [bs_size, showL_pos h1, tag_len]
  have := enc_ne (v := v.toNat) (by omega)
  omega
theorem verOf_short {s : ByteArray} (h : s.size < 4) : verOf s = 0 := verOf_no fun hg => by have := good_len hg; omega

open Classical in
/-- The condition of two texts: its kind, its version, what stands in its way. -/
noncomputable def condOf (a b : ByteArray) : Int × Int × Int :=
  if a = bs [] ∧ b = bs [] then (0, 0, 0) else if a = bs [] ∧ b = bs [42] then (1, 0, 0) else if a = bs [42] ∧ b = bs [] then (2, 0, 0)
  else if verOf a ≠ 0 ∧ b = bs [] then (3, verOf a, 0) else (0, 0, 1)
noncomputable def tupOf (a b : ByteArray) : Value := .tuple #[.agg #[.int .i64 (condOf a b).1, .int .i64 (condOf a b).2.1], .int .i64 (condOf a b).2.2]

/-- A text that is none of "" and "*", in the walk's words. -/
theorem str_facts {a : ByteArray} (h0 : a ≠ bs []) (h1 : a ≠ bs [42]) : a.toList.isEmpty = false ∧ (a.toList == [42]) = false ∧ ([42] == a.toList) = false ∧ a.toList ≠ [] := by
  have e0 : a.data.toList ≠ [] := by
    intro h
    apply h0
    obtain ⟨⟨l⟩⟩ := a
    simp [bs] at h ⊢
    exact h
  have e1 : a.data.toList ≠ [42] := by
    intro h
    apply h1
    obtain ⟨⟨l⟩⟩ := a
    simp [bs] at h ⊢
    exact h
  rw [Lib.toList_data]
  refine ⟨by simpa using e0, by simpa using e1, ?_, e0⟩
  rw [beq_eq_false_iff_ne]
  exact Ne.symm e1

set_option maxHeartbeats 2000000 in
theorem cond_any (a b : ByteArray) (w : World) (ha : a.size ≤ 1000) (hb : b.size ≤ 1000) :
    Calls Try.prog 11 #[.string a, .string b] w fun e w' => e = .returned (tupOf a b) ∧ Fr [] w w' := by
  have hsz : a.size ≤ maxLen := by unfold maxLen; omega
  by_cases a0 : a = bs []
  · subst a0
    have HV : Hid (verOf (bs []) = 0) := Lib.hid (verOf_short (by rw [bs_size]; simp))
    by_cases b0 : b = bs []
    · subst b0
      have HT : Hid (tupOf (bs []) (bs []) = .tuple #[.agg #[.int .i64 0, .int .i64 0], .int .i64 0]) := Lib.hid (by simp [tupOf, condOf])
      show Calls Try.prog 11 #[.string ⟨#[]⟩, .string ⟨#[]⟩] w _
      go_enter Try.func11, Try.ntmps11
      go_wp2_with fail
      exact bodyPost_ret (v := .tuple #[.agg #[.int .i64 0, .int .i64 0], .int .i64 0]) (by simp [results, Try.results11, go_sem]) rfl ⟨by rw [HT.out], (Fr.refl _ _).alloc _⟩
    by_cases b1 : b = bs [42]
    · subst b1
      have HT : Hid (tupOf (bs []) (bs [42]) = .tuple #[.agg #[.int .i64 1, .int .i64 0], .int .i64 0]) := Lib.hid (by simp [tupOf, condOf, bs])
      show Calls Try.prog 11 #[.string ⟨#[]⟩, .string ⟨#[42]⟩] w _
      go_enter Try.func11, Try.ntmps11
      go_wp2_with fail
      exact bodyPost_ret (v := .tuple #[.agg #[.int .i64 1, .int .i64 0], .int .i64 0]) (by simp [results, Try.results11, go_sem]) rfl ⟨by rw [HT.out], (Fr.refl _ _).alloc _⟩
    · obtain ⟨x0, x1, x2, x3⟩ := str_facts b0 b1
      have x4 : ¬ b.toList = [42] := by simpa using x1
      have HT : Hid (tupOf (bs []) b = .tuple #[.agg #[.int .i64 0, .int .i64 0], .int .i64 1]) := Lib.hid (by simp [tupOf, condOf, b0, b1, HV.out])
      clear b0 b1
      show Calls Try.prog 11 #[.string ⟨#[]⟩, .string b] w _
      go_enter Try.func11, Try.ntmps11
      go_wp2_with fail
      refine (parse_any ⟨#[]⟩ _ hsz).mono ?_
      rintro e w' ⟨rfl, rfl⟩
      rw [show verOf ⟨#[]⟩ = 0 from HV.out, show ((0 : Int) != 0) = false from rfl]
      go_wp2_with fail
      exact bodyPost_ret (v := .tuple #[.agg #[.int .i64 0, .int .i64 0], .int .i64 1]) (by simp [results, Try.results11, go_sem]) rfl ⟨by rw [HT.out], (Fr.refl _ _).alloc _⟩
  by_cases a1 : a = bs [42]
  · subst a1
    have HV : Hid (verOf (bs [42]) = 0) := Lib.hid (verOf_short (by rw [bs_size]; simp))
    by_cases b0 : b = bs []
    · subst b0
      have HT : Hid (tupOf (bs [42]) (bs []) = .tuple #[.agg #[.int .i64 2, .int .i64 0], .int .i64 0]) := Lib.hid (by simp [tupOf, condOf, bs])
      show Calls Try.prog 11 #[.string ⟨#[42]⟩, .string ⟨#[]⟩] w _
      go_enter Try.func11, Try.ntmps11
      go_wp2_with fail
      exact bodyPost_ret (v := .tuple #[.agg #[.int .i64 2, .int .i64 0], .int .i64 0]) (by simp [results, Try.results11, go_sem]) rfl ⟨by rw [HT.out], (Fr.refl _ _).alloc _⟩
    by_cases b1 : b = bs [42]
    · subst b1
      have HT : Hid (tupOf (bs [42]) (bs [42]) = .tuple #[.agg #[.int .i64 0, .int .i64 0], .int .i64 1]) := Lib.hid (by simp [tupOf, condOf, bs])
      show Calls Try.prog 11 #[.string ⟨#[42]⟩, .string ⟨#[42]⟩] w _
      go_enter Try.func11, Try.ntmps11
      go_wp2_with fail
      refine (parse_any ⟨#[42]⟩ _ hsz).mono ?_
      rintro e w' ⟨rfl, rfl⟩
      rw [show verOf ⟨#[42]⟩ = 0 from HV.out, show ((0 : Int) != 0) = false from rfl]
      go_wp2_with fail
      exact bodyPost_ret (v := .tuple #[.agg #[.int .i64 0, .int .i64 0], .int .i64 1]) (by simp [results, Try.results11, go_sem]) rfl ⟨by rw [HT.out], (Fr.refl _ _).alloc _⟩
    · obtain ⟨x0, x1, x2, x3⟩ := str_facts b0 b1
      have x4 : ¬ b.toList = [42] := by simpa using x1
      have HT : Hid (tupOf (bs [42]) b = .tuple #[.agg #[.int .i64 0, .int .i64 0], .int .i64 1]) := Lib.hid (by simp [tupOf, condOf, b0, b1, HV.out])
      clear b0 b1
      show Calls Try.prog 11 #[.string ⟨#[42]⟩, .string b] w _
      go_enter Try.func11, Try.ntmps11
      go_wp2_with fail
      refine (parse_any ⟨#[42]⟩ _ hsz).mono ?_
      rintro e w' ⟨rfl, rfl⟩
      rw [show verOf ⟨#[42]⟩ = 0 from HV.out, show ((0 : Int) != 0) = false from rfl]
      go_wp2_with fail
      exact bodyPost_ret (v := .tuple #[.agg #[.int .i64 0, .int .i64 0], .int .i64 1]) (by simp [results, Try.results11, go_sem]) rfl ⟨by rw [HT.out], (Fr.refl _ _).alloc _⟩
  obtain ⟨y0, y1, y2, y3⟩ := str_facts a0 a1
  have y4 : ¬ a.toList = [42] := by simpa using y1
  by_cases hv : verOf a = 0
  · have HV := Lib.hid hv
    have HT : Hid (tupOf a b = .tuple #[.agg #[.int .i64 0, .int .i64 0], .int .i64 1]) := Lib.hid (by simp [tupOf, condOf, a0, a1, hv])
    clear a0 a1 hv
    by_cases b0 : b = bs []
    · subst b0
      have HT : Hid (tupOf a (bs []) = .tuple #[.agg #[.int .i64 0, .int .i64 0], .int .i64 1]) := Lib.hid (by exact HT.out)
      show Calls Try.prog 11 #[.string a, .string ⟨#[]⟩] w _
      go_enter Try.func11, Try.ntmps11
      go_wp2_with fail
      refine (parse_any a _ hsz).mono ?_
      rintro e w' ⟨rfl, rfl⟩
      rw [HV.out, show ((0 : Int) != 0) = false from rfl]
      go_wp2_with fail
      exact bodyPost_ret (v := .tuple #[.agg #[.int .i64 0, .int .i64 0], .int .i64 1]) (by simp [results, Try.results11, go_sem]) rfl ⟨by rw [HT.out], (Fr.refl _ _).alloc _⟩
    by_cases b1 : b = bs [42]
    · subst b1
      have HT : Hid (tupOf a (bs [42]) = .tuple #[.agg #[.int .i64 0, .int .i64 0], .int .i64 1]) := Lib.hid (by exact HT.out)
      show Calls Try.prog 11 #[.string a, .string ⟨#[42]⟩] w _
      go_enter Try.func11, Try.ntmps11
      go_wp2_with fail
      refine (parse_any a _ hsz).mono ?_
      rintro e w' ⟨rfl, rfl⟩
      rw [HV.out, show ((0 : Int) != 0) = false from rfl]
      go_wp2_with fail
      exact bodyPost_ret (v := .tuple #[.agg #[.int .i64 0, .int .i64 0], .int .i64 1]) (by simp [results, Try.results11, go_sem]) rfl ⟨by rw [HT.out], (Fr.refl _ _).alloc _⟩
    · obtain ⟨x0, x1, x2, x3⟩ := str_facts b0 b1
      have x4 : ¬ b.toList = [42] := by simpa using x1
      have HT : Hid (tupOf a b = .tuple #[.agg #[.int .i64 0, .int .i64 0], .int .i64 1]) := Lib.hid (by exact HT.out)
      clear b0 b1
      show Calls Try.prog 11 #[.string a, .string b] w _
      go_enter Try.func11, Try.ntmps11
      go_wp2_with fail
      refine (parse_any a _ hsz).mono ?_
      rintro e w' ⟨rfl, rfl⟩
      rw [HV.out, show ((0 : Int) != 0) = false from rfl]
      go_wp2_with fail
      exact bodyPost_ret (v := .tuple #[.agg #[.int .i64 0, .int .i64 0], .int .i64 1]) (by simp [results, Try.results11, go_sem]) rfl ⟨by rw [HT.out], (Fr.refl _ _).alloc _⟩
  · have hv1 : (verOf a != 0) = true := by simpa using hv
    have HV := Lib.hid hv1
    by_cases b0 : b = bs []
    · subst b0
      have HT : Hid (tupOf a (bs []) = .tuple #[.agg #[.int .i64 3, .int .i64 (verOf a)], .int .i64 0]) := Lib.hid (by simp [tupOf, condOf, a0, a1, hv])
      clear a0 a1 hv hv1
      show Calls Try.prog 11 #[.string a, .string ⟨#[]⟩] w _
      go_enter Try.func11, Try.ntmps11
      go_wp2_with fail
      refine (parse_any a _ hsz).mono ?_
      rintro e w' ⟨rfl, rfl⟩
      rw [HV.out]
      go_wp2_with fail
      exact bodyPost_ret (v := .tuple #[.agg #[.int .i64 3, .int .i64 (verOf a)], .int .i64 0]) (by simp [results, Try.results11, go_sem]) rfl ⟨by rw [HT.out], (Fr.refl _ _).alloc _⟩
    by_cases b1 : b = bs [42]
    · subst b1
      have HT : Hid (tupOf a (bs [42]) = .tuple #[.agg #[.int .i64 0, .int .i64 0], .int .i64 1]) := Lib.hid (by simp [tupOf, condOf, a0, a1]; simp [bs])
      clear a0 a1 hv hv1
      show Calls Try.prog 11 #[.string a, .string ⟨#[42]⟩] w _
      go_enter Try.func11, Try.ntmps11
      go_wp2_with fail
      refine (parse_any a _ hsz).mono ?_
      rintro e w' ⟨rfl, rfl⟩
      rw [HV.out]
      go_wp2_with fail
      exact bodyPost_ret (v := .tuple #[.agg #[.int .i64 0, .int .i64 0], .int .i64 1]) (by simp [results, Try.results11, go_sem]) rfl ⟨by rw [HT.out], (Fr.refl _ _).alloc _⟩
    · obtain ⟨x0, x1, x2, x3⟩ := str_facts b0 b1
      have x4 : ¬ b.toList = [42] := by simpa using x1
      have HT : Hid (tupOf a b = .tuple #[.agg #[.int .i64 0, .int .i64 0], .int .i64 1]) := Lib.hid (by simp [tupOf, condOf, a0, a1, b0, b1])
      clear a0 a1 hv hv1 b0 b1
      show Calls Try.prog 11 #[.string a, .string b] w _
      go_enter Try.func11, Try.ntmps11
      go_wp2_with fail
      refine (parse_any a _ hsz).mono ?_
      rintro e w' ⟨rfl, rfl⟩
      rw [HV.out]
      go_wp2_with fail
      exact bodyPost_ret (v := .tuple #[.agg #[.int .i64 0, .int .i64 0], .int .i64 1]) (by simp [results, Try.results11, go_sem]) rfl ⟨by rw [HT.out], (Fr.refl _ _).alloc _⟩

set_option maxHeartbeats 2000000 in
theorem rcond_any (a b : ByteArray) (w : World) (ha : a.size ≤ 1000) (hb : b.size ≤ 1000) :
    Calls Try.prog 12 #[.string a, .string b] w fun e w' => e = .returned (tupOf a b) ∧ Fr [] w w' := by
  have hsz : a.size ≤ maxLen := by unfold maxLen; omega
  by_cases a0 : a = bs []
  · subst a0
    have HV : Hid (verOf (bs []) = 0) := Lib.hid (verOf_short (by rw [bs_size]; simp))
    by_cases b0 : b = bs []
    · subst b0
      have HT : Hid (tupOf (bs []) (bs []) = .tuple #[.agg #[.int .i64 0, .int .i64 0], .int .i64 0]) := Lib.hid (by simp [tupOf, condOf])
      show Calls Try.prog 12 #[.string ⟨#[]⟩, .string ⟨#[]⟩] w _
      go_enter Try.func12, Try.ntmps12
      go_wp2_with fail
      refine (version_any ⟨#[]⟩ _ hsz).mono ?_
      rintro e w' ⟨rfl, rfl⟩
      rw [show verOf ⟨#[]⟩ = 0 from HV.out, show ((0 : Int) != 0) = false from rfl]
      go_wp2_with fail
      exact bodyPost_ret (v := .tuple #[.agg #[.int .i64 0, .int .i64 0], .int .i64 0]) (by simp [results, Try.results12, go_sem]) rfl ⟨by rw [HT.out], (Fr.refl _ _).alloc _⟩
    by_cases b1 : b = bs [42]
    · subst b1
      have HT : Hid (tupOf (bs []) (bs [42]) = .tuple #[.agg #[.int .i64 1, .int .i64 0], .int .i64 0]) := Lib.hid (by simp [tupOf, condOf, bs])
      show Calls Try.prog 12 #[.string ⟨#[]⟩, .string ⟨#[42]⟩] w _
      go_enter Try.func12, Try.ntmps12
      go_wp2_with fail
      refine (version_any ⟨#[]⟩ _ hsz).mono ?_
      rintro e w' ⟨rfl, rfl⟩
      rw [show verOf ⟨#[]⟩ = 0 from HV.out, show ((0 : Int) != 0) = false from rfl]
      go_wp2_with fail
      exact bodyPost_ret (v := .tuple #[.agg #[.int .i64 1, .int .i64 0], .int .i64 0]) (by simp [results, Try.results12, go_sem]) rfl ⟨by rw [HT.out], (Fr.refl _ _).alloc _⟩
    · obtain ⟨x0, x1, x2, x3⟩ := str_facts b0 b1
      have x4 : ¬ b.toList = [42] := by simpa using x1
      have HT : Hid (tupOf (bs []) b = .tuple #[.agg #[.int .i64 0, .int .i64 0], .int .i64 1]) := Lib.hid (by simp [tupOf, condOf, b0, b1, HV.out])
      clear b0 b1
      show Calls Try.prog 12 #[.string ⟨#[]⟩, .string b] w _
      go_enter Try.func12, Try.ntmps12
      go_wp2_with fail
      refine (version_any ⟨#[]⟩ _ hsz).mono ?_
      rintro e w' ⟨rfl, rfl⟩
      rw [show verOf ⟨#[]⟩ = 0 from HV.out, show ((0 : Int) != 0) = false from rfl]
      go_wp2_with fail
      exact bodyPost_ret (v := .tuple #[.agg #[.int .i64 0, .int .i64 0], .int .i64 1]) (by simp [results, Try.results12, go_sem]) rfl ⟨by rw [HT.out], (Fr.refl _ _).alloc _⟩
  by_cases a1 : a = bs [42]
  · subst a1
    have HV : Hid (verOf (bs [42]) = 0) := Lib.hid (verOf_short (by rw [bs_size]; simp))
    by_cases b0 : b = bs []
    · subst b0
      have HT : Hid (tupOf (bs [42]) (bs []) = .tuple #[.agg #[.int .i64 2, .int .i64 0], .int .i64 0]) := Lib.hid (by simp [tupOf, condOf, bs])
      show Calls Try.prog 12 #[.string ⟨#[42]⟩, .string ⟨#[]⟩] w _
      go_enter Try.func12, Try.ntmps12
      go_wp2_with fail
      refine (version_any ⟨#[42]⟩ _ hsz).mono ?_
      rintro e w' ⟨rfl, rfl⟩
      rw [show verOf ⟨#[42]⟩ = 0 from HV.out, show ((0 : Int) != 0) = false from rfl]
      go_wp2_with fail
      exact bodyPost_ret (v := .tuple #[.agg #[.int .i64 2, .int .i64 0], .int .i64 0]) (by simp [results, Try.results12, go_sem]) rfl ⟨by rw [HT.out], (Fr.refl _ _).alloc _⟩
    by_cases b1 : b = bs [42]
    · subst b1
      have HT : Hid (tupOf (bs [42]) (bs [42]) = .tuple #[.agg #[.int .i64 0, .int .i64 0], .int .i64 1]) := Lib.hid (by simp [tupOf, condOf, bs])
      show Calls Try.prog 12 #[.string ⟨#[42]⟩, .string ⟨#[42]⟩] w _
      go_enter Try.func12, Try.ntmps12
      go_wp2_with fail
      refine (version_any ⟨#[42]⟩ _ hsz).mono ?_
      rintro e w' ⟨rfl, rfl⟩
      rw [show verOf ⟨#[42]⟩ = 0 from HV.out, show ((0 : Int) != 0) = false from rfl]
      go_wp2_with fail
      exact bodyPost_ret (v := .tuple #[.agg #[.int .i64 0, .int .i64 0], .int .i64 1]) (by simp [results, Try.results12, go_sem]) rfl ⟨by rw [HT.out], (Fr.refl _ _).alloc _⟩
    · obtain ⟨x0, x1, x2, x3⟩ := str_facts b0 b1
      have x4 : ¬ b.toList = [42] := by simpa using x1
      have HT : Hid (tupOf (bs [42]) b = .tuple #[.agg #[.int .i64 0, .int .i64 0], .int .i64 1]) := Lib.hid (by simp [tupOf, condOf, b0, b1, HV.out])
      clear b0 b1
      show Calls Try.prog 12 #[.string ⟨#[42]⟩, .string b] w _
      go_enter Try.func12, Try.ntmps12
      go_wp2_with fail
      refine (version_any ⟨#[42]⟩ _ hsz).mono ?_
      rintro e w' ⟨rfl, rfl⟩
      rw [show verOf ⟨#[42]⟩ = 0 from HV.out, show ((0 : Int) != 0) = false from rfl]
      go_wp2_with fail
      exact bodyPost_ret (v := .tuple #[.agg #[.int .i64 0, .int .i64 0], .int .i64 1]) (by simp [results, Try.results12, go_sem]) rfl ⟨by rw [HT.out], (Fr.refl _ _).alloc _⟩
  obtain ⟨y0, y1, y2, y3⟩ := str_facts a0 a1
  have y4 : ¬ a.toList = [42] := by simpa using y1
  by_cases hv : verOf a = 0
  · have HV := Lib.hid hv
    have HT : Hid (tupOf a b = .tuple #[.agg #[.int .i64 0, .int .i64 0], .int .i64 1]) := Lib.hid (by simp [tupOf, condOf, a0, a1, hv])
    clear a0 a1 hv
    by_cases b0 : b = bs []
    · subst b0
      have HT : Hid (tupOf a (bs []) = .tuple #[.agg #[.int .i64 0, .int .i64 0], .int .i64 1]) := Lib.hid (by exact HT.out)
      show Calls Try.prog 12 #[.string a, .string ⟨#[]⟩] w _
      go_enter Try.func12, Try.ntmps12
      go_wp2_with fail
      refine (version_any a _ hsz).mono ?_
      rintro e w' ⟨rfl, rfl⟩
      rw [HV.out, show ((0 : Int) != 0) = false from rfl]
      go_wp2_with fail
      exact bodyPost_ret (v := .tuple #[.agg #[.int .i64 0, .int .i64 0], .int .i64 1]) (by simp [results, Try.results12, go_sem]) rfl ⟨by rw [HT.out], (Fr.refl _ _).alloc _⟩
    by_cases b1 : b = bs [42]
    · subst b1
      have HT : Hid (tupOf a (bs [42]) = .tuple #[.agg #[.int .i64 0, .int .i64 0], .int .i64 1]) := Lib.hid (by exact HT.out)
      show Calls Try.prog 12 #[.string a, .string ⟨#[42]⟩] w _
      go_enter Try.func12, Try.ntmps12
      go_wp2_with fail
      refine (version_any a _ hsz).mono ?_
      rintro e w' ⟨rfl, rfl⟩
      rw [HV.out, show ((0 : Int) != 0) = false from rfl]
      go_wp2_with fail
      exact bodyPost_ret (v := .tuple #[.agg #[.int .i64 0, .int .i64 0], .int .i64 1]) (by simp [results, Try.results12, go_sem]) rfl ⟨by rw [HT.out], (Fr.refl _ _).alloc _⟩
    · obtain ⟨x0, x1, x2, x3⟩ := str_facts b0 b1
      have x4 : ¬ b.toList = [42] := by simpa using x1
      have HT : Hid (tupOf a b = .tuple #[.agg #[.int .i64 0, .int .i64 0], .int .i64 1]) := Lib.hid (by exact HT.out)
      clear b0 b1
      show Calls Try.prog 12 #[.string a, .string b] w _
      go_enter Try.func12, Try.ntmps12
      go_wp2_with fail
      refine (version_any a _ hsz).mono ?_
      rintro e w' ⟨rfl, rfl⟩
      rw [HV.out, show ((0 : Int) != 0) = false from rfl]
      go_wp2_with fail
      exact bodyPost_ret (v := .tuple #[.agg #[.int .i64 0, .int .i64 0], .int .i64 1]) (by simp [results, Try.results12, go_sem]) rfl ⟨by rw [HT.out], (Fr.refl _ _).alloc _⟩
  · have hv1 : (verOf a != 0) = true := by simpa using hv
    have HV := Lib.hid hv1
    by_cases b0 : b = bs []
    · subst b0
      have HT : Hid (tupOf a (bs []) = .tuple #[.agg #[.int .i64 3, .int .i64 (verOf a)], .int .i64 0]) := Lib.hid (by simp [tupOf, condOf, a0, a1, hv])
      clear a0 a1 hv hv1
      show Calls Try.prog 12 #[.string a, .string ⟨#[]⟩] w _
      go_enter Try.func12, Try.ntmps12
      go_wp2_with fail
      refine (version_any a _ hsz).mono ?_
      rintro e w' ⟨rfl, rfl⟩
      rw [HV.out]
      go_wp2_with fail
      exact bodyPost_ret (v := .tuple #[.agg #[.int .i64 3, .int .i64 (verOf a)], .int .i64 0]) (by simp [results, Try.results12, go_sem]) rfl ⟨by rw [HT.out], (Fr.refl _ _).alloc _⟩
    by_cases b1 : b = bs [42]
    · subst b1
      have HT : Hid (tupOf a (bs [42]) = .tuple #[.agg #[.int .i64 0, .int .i64 0], .int .i64 1]) := Lib.hid (by simp [tupOf, condOf, a0, a1]; simp [bs])
      clear a0 a1 hv hv1
      show Calls Try.prog 12 #[.string a, .string ⟨#[42]⟩] w _
      go_enter Try.func12, Try.ntmps12
      go_wp2_with fail
      refine (version_any a _ hsz).mono ?_
      rintro e w' ⟨rfl, rfl⟩
      rw [HV.out]
      go_wp2_with fail
      exact bodyPost_ret (v := .tuple #[.agg #[.int .i64 0, .int .i64 0], .int .i64 1]) (by simp [results, Try.results12, go_sem]) rfl ⟨by rw [HT.out], (Fr.refl _ _).alloc _⟩
    · obtain ⟨x0, x1, x2, x3⟩ := str_facts b0 b1
      have x4 : ¬ b.toList = [42] := by simpa using x1
      have HT : Hid (tupOf a b = .tuple #[.agg #[.int .i64 0, .int .i64 0], .int .i64 1]) := Lib.hid (by simp [tupOf, condOf, a0, a1, b0, b1])
      clear a0 a1 hv hv1 b0 b1
      show Calls Try.prog 12 #[.string a, .string b] w _
      go_enter Try.func12, Try.ntmps12
      go_wp2_with fail
      refine (version_any a _ hsz).mono ?_
      rintro e w' ⟨rfl, rfl⟩
      rw [HV.out]
      go_wp2_with fail
      exact bodyPost_ret (v := .tuple #[.agg #[.int .i64 0, .int .i64 0], .int .i64 1]) (by simp [results, Try.results12, go_sem]) rfl ⟨by rw [HT.out], (Fr.refl _ _).alloc _⟩

end Go.Proofs.Ytmlcphehejcmkaa
