/- The contracts of Parse and Version. -/
import Derived.Test.YtmlcphehejcmkaaTag
namespace Go.Proofs.Ytmlcphehejcmkaa
open Go.RowKit

theorem run_at (s : ByteArray) (k : Nat) (h : k < s.size) (x : Int) (hx : x = k) (W : World) : (Instr.index 9 (.string s) (.int .i64 x)).run Try.prog W = .ok (.int .u8 (s[k]'h).toNat) W := by
  subst hx
  rw [run_index_string W 9 s .i64 _ Try.underlying9, dif_pos (by omega)]
  rfl
theorem pl_bd (c : UInt8) : -1 ≤ pl c ∧ pl c < 32 := by
  rcases pl_all c with h | ⟨d, hd, rfl⟩
  · omega
  · rw [pl_dg d hd]; omega

/-- Two texts compared, in the walk's words. -/
theorem str_ne {a b : ByteArray} (h : a ≠ b) : (a.toList == b.toList) = false ∧ (!a.toList == b.toList) = true := by
  have e : (a.toList == b.toList) = false := by
    rw [Lib.toList_data, Lib.toList_data, beq_eq_false_iff_ne]
    intro h'
    apply h
    obtain ⟨⟨x⟩⟩ := a
    obtain ⟨⟨y⟩⟩ := b
    simp at h'
    rw [h']
  exact ⟨e, by rw [e]; rfl⟩
theorem str_eq {a b : ByteArray} (h : a = b) : (a.toList == b.toList) = true ∧ (!a.toList == b.toList) = false := by
  subst h
  simp

set_option maxHeartbeats 2000000 in
theorem parse_no (s : ByteArray) (w : World) (hs : s.size ≤ maxLen) (hng : ¬ Good s.data.toList) :
    Calls Try.prog 8 #[.string s] w fun e w' => e = .returned (.tuple #[.int .i64 0, .bool false]) ∧ w = w' := by
  unfold maxLen at hs
  by_cases h4 : s.size < 4
  · clear hng
    go_enter Try.func8, Try.ntmps8
    go_wp2
    go_ret2
    exact ⟨rfl, rfl⟩
  · have h4' : 4 ≤ s.size := by omega
    clear h4
    have r0 := run_at s 0 (by omega) 0 rfl
    have rl := run_at s (s.size - 1) (by omega) ((s.size : Int) - 1) (by omega)
    generalize s[0]'(show 0 < s.size by omega) = c0 at r0
    generalize s[s.size - 1]'(show s.size - 1 < s.size by omega) = cl at rl
    by_cases e0 : ((c0.toNat : Int) != 34) = true
    · clear hng
      go_enter Try.func8, Try.ntmps8
      go_wp2
      go_ret2
      exact ⟨rfl, rfl⟩
    · have e0' : ((c0.toNat : Int) != 34) = false := by simpa using e0
      clear e0
      by_cases el : ((cl.toNat : Int) != 34) = true
      · clear hng
        go_enter Try.func8, Try.ntmps8
        go_wp2
        go_ret2
        exact ⟨rfl, rfl⟩
      · have el' : ((cl.toNat : Int) != 34) = false := by simpa using el
        clear el
        have HNG := Lib.hid hng
        clear hng
        go_enter Try.func8, Try.ntmps8
        go_wp2_with fail
        clear r0 rl e0' el'
        go_loop [5, 6, 7] (fun v i _ => ∃ (k : Nat) (m : Int), 1 ≤ k ∧ k ≤ s.size - 2 ∧ i = .int .i64 k ∧ v = .int .i64 m ∧ 0 ≤ m ∧ m ≤ 9223372036854775807) (fun _ i _ => s.size - (intOf i).toNat)
        case atStart => exact ⟨1, 0, by omega, by omega, rfl, rfl, by omega, by omega⟩
        case round =>
          obtain ⟨k, m, hk1, hk2, rfl, rfl, hm1, hm2⟩ := hrel
          by_cases hlt : k < s.size - 2
          · have hks : k < s.size := by omega
            have hki : (k : Int) < (s.size : Int) - 2 := by omega
            obtain ⟨d, hd⟩ : ∃ d, d = pl (s[k]'hks) := ⟨_, rfl⟩
            have hdb := pl_bd (s[k]'hks)
            rw [← hd] at hdb
            obtain ⟨hd1, hd2⟩ := hdb
            have HD := Lib.hid hd
            clear hd
            by_cases hneg : d < 0
            · go_wp2_with fail
              refine (digit_any (s[k]'hks) w).mono ?_
              rintro e w' ⟨rfl, rfl⟩
              rw [← HD.out]
              go_wp2_with fail
              go_ret2
              exact ⟨rfl, rfl⟩
            · have hd0 : 0 ≤ d := by omega
              clear hneg
              by_cases hov : (9223372036854775807 - d) / 32 < m
              · go_wp2_with fail
                refine (digit_any (s[k]'hks) w).mono ?_
                rintro e w' ⟨rfl, rfl⟩
                rw [← HD.out]
                go_wp2_with fail
                go_ret2
                exact ⟨rfl, rfl⟩
              · have hmd : m * 32 + d ≤ 9223372036854775807 := by omega
                go_wp2_with fail
                refine (digit_any (s[k]'hks) w).mono ?_
                rintro e w' ⟨rfl, rfl⟩
                rw [← HD.out]
                go_wp2_with fail
                go_round
                case rel => exact ⟨k + 1, m * 32 + d, by omega, by omega, by go_num, rfl, by omega, by omega⟩
                case measure => simp [intOf]; omega
          · have hki : ¬ (k : Int) < (s.size : Int) - 2 := by omega
            have hne : Hid (bs (showL m) ≠ s) := Lib.hid (by
              intro h
              refine HNG.out (good_of (v := m) ?_ ?_ hm2)
              · rw [← h]; rfl
              · intro h'
                have : s.size = 0 := by rw [← ByteArray.size_data, ← Array.length_toList, h']; rfl
                omega)
            have hsh := show_any m w hm2
            generalize bs (showL m) = R at hne hsh
            obtain ⟨hne1, hne2⟩ := str_ne hne.out
            go_wp2_with fail
            refine hsh.mono ?_
            rintro e w' ⟨rfl, rfl⟩
            go_wp2_with fail
            go_ret2
            exact ⟨rfl, rfl⟩

set_option maxHeartbeats 2000000 in
/-- The reference's. -/
theorem version_no (s : ByteArray) (w : World) (hs : s.size ≤ maxLen) (hng : ¬ Good s.data.toList) :
    Calls Try.prog 10 #[.string s] w fun e w' => e = .returned (.tuple #[.int .i64 0, .bool false]) ∧ w = w' := by
  unfold maxLen at hs
  by_cases h4 : s.size < 4
  · clear hng
    go_enter Try.func10, Try.ntmps10
    go_wp2
    go_ret2
    exact ⟨rfl, rfl⟩
  · by_cases h16 : 16 < s.size
    · clear hng
      go_enter Try.func10, Try.ntmps10
      go_wp2
      go_ret2
      exact ⟨rfl, rfl⟩
    · have h4' : 4 ≤ s.size := by omega
      have h16' : s.size ≤ 16 := by omega
      have HNG := Lib.hid hng
      clear hng h4 h16
      go_enter Try.func10, Try.ntmps10
      go_wp2_with fail
      go_loop [4, 5, 6] (fun v i _ => ∃ (k : Nat) (m : Int), 1 ≤ k ∧ k ≤ s.size - 2 ∧ i = .int .i64 k ∧ v = .int .i64 m ∧ 0 ≤ m ∧ m ≤ 9223372036854775807) (fun _ i _ => s.size - (intOf i).toNat)
      case atStart => exact ⟨1, 0, by omega, by omega, rfl, rfl, by omega, by omega⟩
      case round =>
        obtain ⟨k, m, hk1, hk2, rfl, rfl, hm1, hm2⟩ := hrel
        by_cases hlt : k < s.size - 2
        · have hks : k < s.size := by omega
          have hki : (k : Int) < (s.size : Int) - 2 := by omega
          obtain ⟨d, hd⟩ : ∃ d, d = pl (s[k]'hks) := ⟨_, rfl⟩
          have hdb := pl_bd (s[k]'hks)
          rw [← hd] at hdb
          obtain ⟨hd1, hd2⟩ := hdb
          have HD := Lib.hid hd
          clear hd
          by_cases hneg : d < 0
          · go_wp2_with fail
            refine (place_any (s[k]'hks) w).mono ?_
            rintro e w' ⟨rfl, rfl⟩
            rw [← HD.out]
            go_wp2_with fail
            go_ret2
            exact ⟨rfl, rfl⟩
          · have hd0 : 0 ≤ d := by omega
            clear hneg
            by_cases hov : (9223372036854775807 - d) / 32 < m
            · go_wp2_with fail
              refine (place_any (s[k]'hks) w).mono ?_
              rintro e w' ⟨rfl, rfl⟩
              rw [← HD.out]
              go_wp2_with fail
              go_ret2
              exact ⟨rfl, rfl⟩
            · have hmd : 32 * m + d ≤ 9223372036854775807 := by omega
              go_wp2_with fail
              refine (place_any (s[k]'hks) w).mono ?_
              rintro e w' ⟨rfl, rfl⟩
              rw [← HD.out]
              go_wp2_with fail
              go_round
              case rel => exact ⟨k + 1, 32 * m + d, by omega, by omega, by go_num, rfl, by omega, by omega⟩
              case measure => simp [intOf]; omega
        · have hki : ¬ (k : Int) < (s.size : Int) - 2 := by omega
          by_cases hm0 : m < 1
          · clear HNG
            go_wp2_with fail
            go_ret2
            exact ⟨rfl, rfl⟩
          · have hne : Hid (bs (showL m) ≠ s) := Lib.hid (by
              intro h
              refine HNG.out (good_of (v := m) ?_ ?_ hm2)
              · rw [← h]; rfl
              · intro h'
                have : s.size = 0 := by rw [← ByteArray.size_data, ← Array.length_toList, h']; rfl
                omega)
            have hsh := tag_any m w hm2
            generalize bs (showL m) = R at hne hsh
            obtain ⟨hne1, hne2⟩ := str_ne hne.out
            go_wp2_with fail
            refine hsh.mono ?_
            rintro e w' ⟨rfl, rfl⟩
            go_wp2_with fail
            go_ret2
            exact ⟨rfl, rfl⟩

theorem int_same {k : IntKind} {a b : Int} (h : a = b) : Value.int k a = Value.int k b := by rw [h]

set_option maxHeartbeats 2000000 in
theorem parse_yes (v : Int) (w : World) (h1 : 1 ≤ v) (hv : v ≤ 9223372036854775807) :
    Calls Try.prog 8 #[.string (bs (showL v))] w fun e w' => e = .returned (.tuple #[.int .i64 v, .bool true]) ∧ w = w' := by
  have hsh := show_any v w hv
  have hl := enc_len 13 v.toNat (by omega)
  have hpos := enc_ne (v := v.toNat) (by omega)
  have hlt := enc_lt v.toNat
  have hnum := num_enc v.toNat
  have hsz : (bs (showL v)).size = (enc v.toNat).length + 3 := by rw [bs_size, showL_pos h1, tag_len]
  have hfirst : ∀ h, (bs (showL v))[0]'h = 34 := by
    intro h
    exact bs_at _ 0 _ (by rw [showL_pos h1]; rfl) h
  have hlast : ∀ (k : Nat) (h : k < (bs (showL v)).size), k + 1 = (bs (showL v)).size → (bs (showL v))[k]'h = 34 := by
    intro k h hk
    refine bs_at _ k _ ?_ h
    rw [hsz] at hk
    rw [showL_pos h1, tag]
    obtain ⟨j, rfl⟩ : ∃ j, k = j + 1 := ⟨k - 1, by omega⟩
    rw [List.getElem?_cons_succ, List.getElem?_append_right (by simp; omega), show j - ((enc v.toNat).map dg).length = 1 by simp; omega]
    rfl
  have hat : Hid (∀ (j : Nat) (h : j + 1 < (bs (showL v)).size) (h' : j < (enc v.toNat).length), (bs (showL v))[j + 1]'h = dg ((enc v.toNat)[j]'h')) := Lib.hid (by
    intro j h h'
    refine bs_at _ (j + 1) _ ?_ h
    rw [showL_pos h1, tag, List.getElem?_cons_succ, List.getElem?_append_left (by simpa using h')]
    simp [h'])
  have hmono : Hid (∀ k, num ((enc v.toNat).take k) ≤ v.toNat) := Lib.hid (by
    intro k
    have := num_mono ((enc v.toNat).drop k) ((enc v.toNat).take k)
    rw [List.take_append_drop, hnum] at this
    exact this)
  have r0 := run_at (bs (showL v)) 0 (by omega) 0 rfl
  rw [hfirst] at r0
  have rl := run_at (bs (showL v)) ((bs (showL v)).size - 1) (by omega) (((bs (showL v)).size : Int) - 1) (by omega)
  rw [hlast _ _ (by omega)] at rl
  clear hfirst hlast
  generalize bs (showL v) = S at hsh hsz hat r0 rl ⊢
  generalize enc v.toNat = ds at hl hpos hlt hnum hsz hat hmono
  have hs4 : 4 ≤ S.size := by omega
  have hs16 : S.size ≤ 16 := by omega
  have HS := Lib.hid hsz
  have HLT := Lib.hid hlt
  have HN := Lib.hid hnum
  clear hsz hlt hnum
  obtain ⟨hsh1, hsh2⟩ := str_eq (rfl : S = S)
  go_enter Try.func8, Try.ntmps8
  go_wp2_with fail
  clear r0 rl
  go_loop [5, 6, 7] (fun v i _ => ∃ k : Nat, 1 ≤ k ∧ k ≤ ds.length + 1 ∧ i = .int .i64 k ∧ v = .int .i64 (num (ds.take (k - 1)) : Nat)) (fun _ i _ => S.size - (intOf i).toNat)
  case atStart => exact ⟨1, by omega, by omega, rfl, rfl⟩
  case round =>
    obtain ⟨k, hk1, hk2, rfl, rfl⟩ := hrel
    by_cases hlt : k ≤ ds.length
    · obtain ⟨j, rfl⟩ : ∃ j, k = j + 1 := ⟨k - 1, by omega⟩
      have hks : j + 1 < S.size := by rw [HS.out]; omega
      have hki : ((j + 1 : Nat) : Int) < (S.size : Int) - 2 := by have := HS.out; omega
      have hat1 := hat.out j hks (by omega)
      have hdk := HLT.out _ (List.getElem_mem (show j < ds.length by omega))
      have hsn : num (ds.take (j + 1)) = 32 * num (ds.take j) + ds[j] := by rw [List.take_succ_eq_append_getElem (by omega), num_snoc]
      have hb := hmono.out (j + 1)
      simp only [Nat.add_sub_cancel] at *
      generalize ds[j] = d at hat1 hdk hsn
      rw [hsn] at hb
      have HSN := Lib.hid hsn
      clear hsn
      generalize num (ds.take j) = m at hb HSN
      have hpl : pl (S[j + 1]'hks) = d := by rw [hat1]; exact pl_dg d hdk
      have HP := Lib.hid hpl
      clear hat1 hpl
      have hov : (m : Int) ≤ (9223372036854775807 - (d : Int)) / 32 := by omega
      have hmd : (m : Int) * 32 + d ≤ 9223372036854775807 := by omega
      have hmd2 : (m : Int) * 32 ≤ 9223372036854775807 := by omega
      have hj1 : ((j : Int) + 1) < (S.size : Int) - 2 := by have := HS.out; omega
      go_wp2_with fail
      refine (digit_any (S[j + 1]'hks) w).mono ?_
      rintro e w' ⟨rfl, rfl⟩
      rw [HP.out]
      go_wp2_with fail
      go_round
      case rel => exact ⟨j + 2, by omega, by omega, by go_num, by rw [show j + 2 - 1 = j + 1 by omega, HSN.out]; apply int_same; omega⟩
      case measure => simp [intOf]; omega
    · obtain rfl : k = ds.length + 1 := by omega
      have hki : ¬ ((ds.length + 1 : Nat) : Int) < (S.size : Int) - 2 := by have := HS.out; omega
      have hkj : ¬ ((ds.length : Int) + 1) < (S.size : Int) - 2 := by have := HS.out; omega
      simp only [Nat.add_sub_cancel, List.take_length] at *
      have hv0 : ((num ds : Nat) : Int) = v := by rw [HN.out]; omega
      rw [hv0]
      have HV := Lib.hid hv0
      clear hv0
      go_wp2_with fail
      refine hsh.mono ?_
      rintro e w' ⟨rfl, rfl⟩
      go_wp2_with fail
      go_ret2
      exact ⟨rfl, rfl⟩


set_option maxHeartbeats 2000000 in
theorem version_yes (v : Int) (w : World) (h1 : 1 ≤ v) (hv : v ≤ 9223372036854775807) :
    Calls Try.prog 10 #[.string (bs (showL v))] w fun e w' => e = .returned (.tuple #[.int .i64 v, .bool true]) ∧ w = w' := by
  have hsh := tag_any v w hv
  have hl := enc_len 13 v.toNat (by omega)
  have hpos := enc_ne (v := v.toNat) (by omega)
  have hlt := enc_lt v.toNat
  have hnum := num_enc v.toNat
  have hsz : (bs (showL v)).size = (enc v.toNat).length + 3 := by rw [bs_size, showL_pos h1, tag_len]
  have hfirst : ∀ h, (bs (showL v))[0]'h = 34 := by
    intro h
    exact bs_at _ 0 _ (by rw [showL_pos h1]; rfl) h
  have hlast : ∀ (k : Nat) (h : k < (bs (showL v)).size), k + 1 = (bs (showL v)).size → (bs (showL v))[k]'h = 34 := by
    intro k h hk
    refine bs_at _ k _ ?_ h
    rw [hsz] at hk
    rw [showL_pos h1, tag]
    obtain ⟨j, rfl⟩ : ∃ j, k = j + 1 := ⟨k - 1, by omega⟩
    rw [List.getElem?_cons_succ, List.getElem?_append_right (by simp; omega), show j - ((enc v.toNat).map dg).length = 1 by simp; omega]
    rfl
  have hat : Hid (∀ (j : Nat) (h : j + 1 < (bs (showL v)).size) (h' : j < (enc v.toNat).length), (bs (showL v))[j + 1]'h = dg ((enc v.toNat)[j]'h')) := Lib.hid (by
    intro j h h'
    refine bs_at _ (j + 1) _ ?_ h
    rw [showL_pos h1, tag, List.getElem?_cons_succ, List.getElem?_append_left (by simpa using h')]
    simp [h'])
  have hmono : Hid (∀ k, num ((enc v.toNat).take k) ≤ v.toNat) := Lib.hid (by
    intro k
    have := num_mono ((enc v.toNat).drop k) ((enc v.toNat).take k)
    rw [List.take_append_drop, hnum] at this
    exact this)
  have r0 := run_at (bs (showL v)) 0 (by omega) 0 rfl
  rw [hfirst] at r0
  have rl := run_at (bs (showL v)) ((bs (showL v)).size - 1) (by omega) (((bs (showL v)).size : Int) - 1) (by omega)
  rw [hlast _ _ (by omega)] at rl
  clear hfirst hlast
  generalize bs (showL v) = S at hsh hsz hat r0 rl ⊢
  generalize enc v.toNat = ds at hl hpos hlt hnum hsz hat hmono
  have hs4 : 4 ≤ S.size := by omega
  have hs16 : S.size ≤ 16 := by omega
  have HS := Lib.hid hsz
  have HLT := Lib.hid hlt
  have HN := Lib.hid hnum
  clear hsz hlt hnum
  obtain ⟨hsh1, hsh2⟩ := str_eq (rfl : S = S)
  go_enter Try.func10, Try.ntmps10
  go_wp2_with fail
  clear r0 rl
  go_loop [4, 5, 6] (fun v i _ => ∃ k : Nat, 1 ≤ k ∧ k ≤ ds.length + 1 ∧ i = .int .i64 k ∧ v = .int .i64 (num (ds.take (k - 1)) : Nat)) (fun _ i _ => S.size - (intOf i).toNat)
  case atStart => exact ⟨1, by omega, by omega, rfl, rfl⟩
  case round =>
    obtain ⟨k, hk1, hk2, rfl, rfl⟩ := hrel
    by_cases hlt : k ≤ ds.length
    · obtain ⟨j, rfl⟩ : ∃ j, k = j + 1 := ⟨k - 1, by omega⟩
      have hks : j + 1 < S.size := by rw [HS.out]; omega
      have hki : ((j + 1 : Nat) : Int) < (S.size : Int) - 2 := by have := HS.out; omega
      have hat1 := hat.out j hks (by omega)
      have hdk := HLT.out _ (List.getElem_mem (show j < ds.length by omega))
      have hsn : num (ds.take (j + 1)) = 32 * num (ds.take j) + ds[j] := by rw [List.take_succ_eq_append_getElem (by omega), num_snoc]
      have hb := hmono.out (j + 1)
      simp only [Nat.add_sub_cancel] at *
      generalize ds[j] = d at hat1 hdk hsn
      rw [hsn] at hb
      have HSN := Lib.hid hsn
      clear hsn
      generalize num (ds.take j) = m at hb HSN
      have hpl : pl (S[j + 1]'hks) = d := by rw [hat1]; exact pl_dg d hdk
      have HP := Lib.hid hpl
      clear hat1 hpl
      have hov : (m : Int) ≤ (9223372036854775807 - (d : Int)) / 32 := by omega
      have hmd : 32 * (m : Int) + d ≤ 9223372036854775807 := by omega
      have hmd2 : 32 * (m : Int) ≤ 9223372036854775807 := by omega
      have hj1 : ((j : Int) + 1) < (S.size : Int) - 2 := by have := HS.out; omega
      go_wp2_with fail
      refine (place_any (S[j + 1]'hks) w).mono ?_
      rintro e w' ⟨rfl, rfl⟩
      rw [HP.out]
      go_wp2_with fail
      go_round
      case rel => exact ⟨j + 2, by omega, by omega, by go_num, by rw [show j + 2 - 1 = j + 1 by omega, HSN.out]; apply int_same; omega⟩
      case measure => simp [intOf]; omega
    · obtain rfl : k = ds.length + 1 := by omega
      have hki : ¬ ((ds.length + 1 : Nat) : Int) < (S.size : Int) - 2 := by have := HS.out; omega
      have hkj : ¬ ((ds.length : Int) + 1) < (S.size : Int) - 2 := by have := HS.out; omega
      simp only [Nat.add_sub_cancel, List.take_length] at *
      have hv0 : ((num ds : Nat) : Int) = v := by rw [HN.out]; omega
      rw [hv0]
      have HV := Lib.hid hv0
      clear hv0
      go_wp2_with fail
      refine hsh.mono ?_
      rintro e w' ⟨rfl, rfl⟩
      go_wp2_with fail
      go_ret2
      exact ⟨rfl, rfl⟩

end Go.Proofs.Ytmlcphehejcmkaa
