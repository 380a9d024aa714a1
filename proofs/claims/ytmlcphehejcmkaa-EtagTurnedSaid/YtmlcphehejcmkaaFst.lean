/- The chapter's example; the walk of EtagBack. -/
import Derived.Test.YtmlcphehejcmkaaCon
namespace Go.Proofs.Ytmlcphehejcmkaa
open Go.RowKit

theorem show_32 : showL 32 = [34, 49, 48, 52, 34] := by
  have e1 : enc 1 = [1] := by rw [enc_pos (by omega)]; simp [enc_zero]
  have e : enc 32 = [1, 0] := by rw [enc_pos (by omega)]; simp [e1]
  rw [showL_pos (by omega), show (32 : Int).toNat = 32 from rfl, e]
  decide +kernel
theorem show_1 : showL 1 = [34, 49, 112, 34] := by
  have e1 : enc 1 = [1] := by rw [enc_pos (by omega)]; simp [enc_zero]
  rw [showL_pos (by omega), show (1 : Int).toNat = 1 from rfl, e1]
  decide +kernel

set_option maxHeartbeats 1000000 in
theorem first_true (w : World) : Calls Try.prog 7 #[] w fun e w' => e = .returned (.bool true) ∧ Fr [] w w' := by
  have hv : verOf ⟨#[34, 49, 48, 52, 34]⟩ = 32 := by
    have h := verOf_tag (v := 32) (by omega) (by omega)
    rw [show_32] at h
    exact h
  have HV := Lib.hid hv
  clear hv
  go_enter Try.func7, Try.ntmps7
  go_wp2_with fail
  refine (parse_any _ w (by decide)).mono ?_
  rintro e w' ⟨rfl, rfl⟩
  rw [HV.out]
  go_wp2_with fail
  refine (show_any 1 w (by omega)).mono ?_
  rintro e w' ⟨rfl, rfl⟩
  rw [show bs (showL 1) = ⟨#[34, 49, 112, 34]⟩ by rw [show_1]; rfl]
  go_wp2_with fail
  refine (holds_any 0 0 true 3 w).mono ?_
  rintro e w1 ⟨rfl, f1⟩
  rw [show holdsB 0 0 true 3 = true from rfl]
  go_wp2_with fail
  go_ret
  exact ⟨rfl, f1⟩

theorem show_ver {s : ByteArray} (h : verOf s ≠ 0) : bs (showL (verOf s)) = s := by
  by_cases hg : Good s.data.toList
  · obtain ⟨v, h1, h2, rfl⟩ := good_bs hg
    rw [verOf_tag h1 h2]
  · exact absurd (verOf_no hg) h
theorem show_size {v : Int} (h : v ≤ 9223372036854775807) : (bs (showL v)).size ≤ 16 := by rw [bs_size]; exact showL_len v h
theorem show_at {v : Int} (h : 1 ≤ v) : 4 ≤ (bs (showL v)).size ∧ (∀ h, (bs (showL v))[0]'h = 34) ∧ (∀ (k : Nat) (h : k < (bs (showL v)).size), k + 1 = (bs (showL v)).size → (bs (showL v))[k]'h = 34) := by
  have hsz : (bs (showL v)).size = (enc v.toNat).length + 3 := by rw [bs_size, showL_pos h, tag_len]
  have hpos := enc_ne (v := v.toNat) (by omega)
  refine ⟨by omega, fun h' => bs_at _ 0 _ (by rw [showL_pos h]; rfl) h', fun k h' hk => bs_at _ k _ ?_ h'⟩
  rw [hsz] at hk
  rw [showL_pos h, tag]
  obtain ⟨j, rfl⟩ : ∃ j, k = j + 1 := ⟨k - 1, by omega⟩
  rw [List.getElem?_cons_succ, List.getElem?_append_right (by simp; omega), show j - ((enc v.toNat).map dg).length = 1 by simp; omega]
  rfl

set_option maxHeartbeats 4000000 in
theorem back_walk (v u : Int) (w : World) (hv : v ≤ 9223372036854775807) (hu : u ≤ 9223372036854775807) (s : ByteArray) (hs : s.size ≤ 100) :
    Calls Try.prog 3 #[.int .i64 v, .int .i64 u, .string s] w fun e w' => e = .returned (.bool true) ∧ Fr [] w w' := by
  have hbd := (verOf_bd s).2
  have hsm : s.size ≤ maxLen := by unfold maxLen; omega
  have hpa := Lib.hid (fun w => parse_any s w hsm)
  have hsv : Hid (verOf s ≠ 0 → bs (showL (verOf s)) = s) := Lib.hid show_ver
  obtain ⟨x, hxx⟩ : ∃ x, x = verOf s := ⟨_, rfl⟩
  rw [← hxx] at hpa hbd hsv
  clear hxx
  by_cases hx : x = 0
  · subst hx
    clear hsv
    by_cases h1 : v < 1
    · have HZ : Hid (bs (showL v) = bs []) := Lib.hid (by rw [showL_zero h1])
      go_enter Try.func3, Try.ntmps3
      go_wp2_with fail
      refine (first_true w).mono ?_
      rintro e w1 ⟨rfl, f1⟩
      go_wp2_with fail
      refine (hpa.out w1).mono ?_
      rintro e w' ⟨rfl, rfl⟩
      rw [show ((0 : Int) != 0) = false from rfl]
      go_wp2_with fail
      refine (show_any v w1 hv).mono ?_
      rintro e w' ⟨rfl, rfl⟩
      rw [show bs (showL v) = ⟨#[]⟩ from HZ.out]
      go_wp2_with fail
      go_ret
      exact ⟨rfl, f1⟩
    · have h1' : 1 ≤ v := by omega
      obtain ⟨z4, zf, zl⟩ := show_at h1'
      have zs := show_size hv
      have hpt := Lib.hid (fun w => parse_yes v w h1' hv)
      have HI : Hid (∀ u, u ≠ v → bs (showL u) ≠ bs (showL v)) := Lib.hid (by intro u hu h; have h' : showL v = showL u := by simpa [bs] using h.symm
                                                                              exact hu (showL_inj h1' h').symm)
      have r0 := run_at (bs (showL v)) 0 (by omega) 0 rfl
      rw [zf] at r0
      have rl := run_at (bs (showL v)) ((bs (showL v)).size - 1) (by omega) (((bs (showL v)).size : Int) - 1) (by omega)
      rw [zl _ _ (by omega)] at rl
      clear zf zl h1
      generalize hT : bs (showL v) = T at z4 zs hpt r0 rl HI
      have HT := Lib.hid hT
      clear hT
      have ht4 : (4 : Int) ≤ (T.size : Int) := by omega
      by_cases he : u = v
      · obtain rfl : v = u := he.symm
        go_enter Try.func3, Try.ntmps3
        go_wp2_with fail
        refine (first_true w).mono ?_
        rintro e w1 ⟨rfl, f1⟩
        go_wp2_with fail
        refine (hpa.out w1).mono ?_
        rintro e w' ⟨rfl, rfl⟩
        rw [show ((0 : Int) != 0) = false from rfl]
        go_wp2_with fail
        refine (show_any v w1 hv).mono ?_
        rintro e w' ⟨rfl, rfl⟩
        rw [HT.out]
        go_wp2_with fail
        refine (hpt.out w1).mono ?_
        rintro e w' ⟨rfl, rfl⟩
        go_wp2_with fail
        refine (show_any v w1 hv).mono ?_
        rintro e w' ⟨rfl, rfl⟩
        rw [HT.out]
        go_wp2_with fail
        go_ret
        exact ⟨rfl, f1⟩
      · have hne := HI.out u he
        obtain ⟨s1, s2⟩ := str_ne hne
        have e1 : (v == u) = false := by simpa using Ne.symm he
        generalize hU : bs (showL u) = U at s1 s2
        have HU := Lib.hid hU
        clear hU hne he
        go_enter Try.func3, Try.ntmps3
        go_wp2_with fail
        refine (first_true w).mono ?_
        rintro e w1 ⟨rfl, f1⟩
        go_wp2_with fail
        refine (hpa.out w1).mono ?_
        rintro e w' ⟨rfl, rfl⟩
        rw [show ((0 : Int) != 0) = false from rfl]
        go_wp2_with fail
        refine (show_any v w1 hv).mono ?_
        rintro e w' ⟨rfl, rfl⟩
        rw [HT.out]
        go_wp2_with fail
        refine (hpt.out w1).mono ?_
        rintro e w' ⟨rfl, rfl⟩
        go_wp2_with fail
        refine (show_any u w1 hu).mono ?_
        rintro e w' ⟨rfl, rfl⟩
        rw [HU.out]
        go_wp2_with fail
        go_ret
        exact ⟨rfl, f1⟩
  · have HSX := Lib.hid (hsv.out hx)
    have hx1 : (x != 0) = true := by simpa using hx
    have HX := Lib.hid hx1
    clear hsv hx hx1
    by_cases h1 : v < 1
    · have HZ : Hid (bs (showL v) = bs []) := Lib.hid (by rw [showL_zero h1])
      go_enter Try.func3, Try.ntmps3
      go_wp2_with fail
      refine (first_true w).mono ?_
      rintro e w1 ⟨rfl, f1⟩
      go_wp2_with fail
      refine (hpa.out w1).mono ?_
      rintro e w' ⟨rfl, rfl⟩
      rw [HX.out]
      go_wp2_with fail
      refine (show_any x w1 hbd).mono ?_
      rintro e w' ⟨rfl, rfl⟩
      rw [HSX.out]
      go_wp2_with fail
      refine (show_any v w1 hv).mono ?_
      rintro e w' ⟨rfl, rfl⟩
      rw [show bs (showL v) = ⟨#[]⟩ from HZ.out]
      go_wp2_with fail
      go_ret
      exact ⟨rfl, f1⟩
    · have h1' : 1 ≤ v := by omega
      obtain ⟨z4, zf, zl⟩ := show_at h1'
      have zs := show_size hv
      have hpt := Lib.hid (fun w => parse_yes v w h1' hv)
      have HI : Hid (∀ u, u ≠ v → bs (showL u) ≠ bs (showL v)) := Lib.hid (by intro u hu h; have h' : showL v = showL u := by simpa [bs] using h.symm
                                                                              exact hu (showL_inj h1' h').symm)
      have r0 := run_at (bs (showL v)) 0 (by omega) 0 rfl
      rw [zf] at r0
      have rl := run_at (bs (showL v)) ((bs (showL v)).size - 1) (by omega) (((bs (showL v)).size : Int) - 1) (by omega)
      rw [zl _ _ (by omega)] at rl
      clear zf zl h1
      generalize hT : bs (showL v) = T at z4 zs hpt r0 rl HI
      have HT := Lib.hid hT
      clear hT
      have ht4 : (4 : Int) ≤ (T.size : Int) := by omega
      by_cases he : u = v
      · obtain rfl : v = u := he.symm
        go_enter Try.func3, Try.ntmps3
        go_wp2_with fail
        refine (first_true w).mono ?_
        rintro e w1 ⟨rfl, f1⟩
        go_wp2_with fail
        refine (hpa.out w1).mono ?_
        rintro e w' ⟨rfl, rfl⟩
        rw [HX.out]
        go_wp2_with fail
        refine (show_any x w1 hbd).mono ?_
        rintro e w' ⟨rfl, rfl⟩
        rw [HSX.out]
        go_wp2_with fail
        refine (show_any v w1 hv).mono ?_
        rintro e w' ⟨rfl, rfl⟩
        rw [HT.out]
        go_wp2_with fail
        refine (hpt.out w1).mono ?_
        rintro e w' ⟨rfl, rfl⟩
        go_wp2_with fail
        refine (show_any v w1 hv).mono ?_
        rintro e w' ⟨rfl, rfl⟩
        rw [HT.out]
        go_wp2_with fail
        go_ret
        exact ⟨rfl, f1⟩
      · have hne := HI.out u he
        obtain ⟨s1, s2⟩ := str_ne hne
        have e1 : (v == u) = false := by simpa using Ne.symm he
        generalize hU : bs (showL u) = U at s1 s2
        have HU := Lib.hid hU
        clear hU hne he
        go_enter Try.func3, Try.ntmps3
        go_wp2_with fail
        refine (first_true w).mono ?_
        rintro e w1 ⟨rfl, f1⟩
        go_wp2_with fail
        refine (hpa.out w1).mono ?_
        rintro e w' ⟨rfl, rfl⟩
        rw [HX.out]
        go_wp2_with fail
        refine (show_any x w1 hbd).mono ?_
        rintro e w' ⟨rfl, rfl⟩
        rw [HSX.out]
        go_wp2_with fail
        refine (show_any v w1 hv).mono ?_
        rintro e w' ⟨rfl, rfl⟩
        rw [HT.out]
        go_wp2_with fail
        refine (hpt.out w1).mono ?_
        rintro e w' ⟨rfl, rfl⟩
        go_wp2_with fail
        refine (show_any u w1 hu).mono ?_
        rintro e w' ⟨rfl, rfl⟩
        rw [HU.out]
        go_wp2_with fail
        go_ret
        exact ⟨rfl, f1⟩

set_option maxHeartbeats 400000 in
theorem back_all (v u : Int) (s : ByteArray) (w : World) (hv : v ≤ 9223372036854775807) (hu : u ≤ 9223372036854775807) :
    Calls Try.prog 3 #[.int .i64 v, .int .i64 u, .string s] w fun e w' => e = .returned (.bool true) ∧ Fr [] w w' := by
  by_cases hs : s.size ≤ 100
  · exact back_walk v u w hv hu s hs
  · go_enter Try.func3, Try.ntmps3
    go_wp2_with fail
    refine (first_true _).mono ?_
    rintro e w1 ⟨rfl, f1⟩
    go_wp2_with fail
    refine (first_true _).mono ?_
    rintro e w2 ⟨rfl, f2⟩
    go_wp2_with fail
    go_ret
    exact ⟨rfl, f1.trans f2⟩
end Go.Proofs.Ytmlcphehejcmkaa
