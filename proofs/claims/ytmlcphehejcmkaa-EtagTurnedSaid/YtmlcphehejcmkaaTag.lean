/- The contracts of Show and Tag, and of what they call. -/
import Derived.Test.YtmlcphehejcmkaaRows
import Derived.Test.YtmlcphehejcmkaaTagN
import Derived.Test.YtmlcphehejcmkaaWords
import Derived.Laws.Externs
namespace Go.Proofs.Ytmlcphehejcmkaa
open Go.RowKit

def bs (l : List UInt8) : ByteArray := ⟨l.toArray⟩

set_option maxHeartbeats 400000 in
theorem lite_any (s : ByteArray) (c : UInt8) (w : World) :
    Calls Try.prog 24 #[.string s, .int .u8 c.toNat] w fun e w' => e = .returned (.int .i64 (Lib.indexByte s.data.toList c)) ∧ w = w' := by
  go_enter Try.func24, Try.ntmps24
  go_wp2
  rw [run_callFunc_extern Try.func25 (by kernel_rfl) (by kernel_rfl) (by kernel_rfl) (e := Extern.BytealgIndexByte.indexByte) (by kernel_rfl), Lib.run_indexByteString]
  simp only [Result.andThen]
  rw [Oper.upon_value]
  go_wp2
  go_ret
  exact ⟨ret_int (by simp), rfl⟩

set_option maxHeartbeats 400000 in
theorem index_any (s : ByteArray) (c : UInt8) (w : World) :
    Calls Try.prog 20 #[.string s, .int .u8 c.toNat] w fun e w' => e = .returned (.int .i64 (Lib.indexByte s.data.toList c)) ∧ w = w' := by
  go_enter Try.func20, Try.ntmps20
  go_wp2_with fail
  refine (lite_any s c w).mono ?_
  rintro e w' ⟨rfl, rfl⟩
  go_wp2_with fail
  go_ret
  exact ⟨rfl, rfl⟩
theorem digit_any (c : UInt8) (w : World) :
    Calls Try.prog 20 #[.string ⟨#[48, 49, 50, 51, 52, 53, 54, 55, 56, 57, 97, 98, 99, 100, 101, 102, 103, 104, 106, 107, 109, 110, 112, 113, 114, 115, 116, 118, 119, 120, 121, 122]⟩, .int .u8 c.toNat] w fun e w' => e = .returned (.int .i64 (pl c)) ∧ w = w' := index_any _ c w

/-- The digits as one text. -/
def D : ByteArray := ⟨#[48, 49, 50, 51, 52, 53, 54, 55, 56, 57, 97, 98, 99, 100, 101, 102, 103, 104, 106, 107, 109, 110, 112, 113, 114, 115, 116, 118, 119, 120, 121, 122]⟩
theorem digits_any (w : World) : Calls Try.prog 23 #[] w fun e w' => e = .returned (.string D) ∧ w = w' := by
  go_enter Try.func23, Try.ntmps23
  go_wp2
  go_ret
  exact ⟨rfl, rfl⟩
theorem D_size : D.size = 32 := rfl
theorem D_ext (d : Nat) (h : d < 32) : D.extract d (d + 1) = bs [dg d] := by
  have H : ∀ d : Nat, d < 32 → D.extract d (d + 1) = bs [dg d] := by decide +kernel
  exact H d h
theorem D_at (d : Nat) (h : d < 32) (h' : d < D.size) : D[d]'h' = dg d := by
  have H : ∀ d : Nat, d < 32 → D.data.toList[d]? = some (dg d) := by decide +kernel
  have := H d h
  rw [List.getElem?_eq_getElem (by simpa using h')] at this
  exact Option.some.inj this

set_option maxHeartbeats 400000 in
theorem place_any (c : UInt8) (w : World) : Calls Try.prog 22 #[.int .u8 c.toNat] w fun e w' => e = .returned (.int .i64 (pl c)) ∧ w = w' := by
  have hsz := D_size
  have HS := Lib.hid hsz
  clear hsz
  go_enter Try.func22, Try.ntmps22
  go_wp2_with fail
  refine (digits_any w).mono ?_
  rintro e w' ⟨rfl, rfl⟩
  go_wp2_with fail
  go_loop [4] (fun i => ∃ k : Nat, k ≤ 32 ∧ i = .int .i64 k ∧ Hid (∀ j, j < k → dg j ≠ c)) (fun i => 32 - (intOf i).toNat)
  case atStart => exact ⟨0, by omega, rfl, Lib.hid (by intro j hj; omega)⟩
  case round =>
    obtain ⟨k, hk, rfl, hno⟩ := hrel
    by_cases hlt : k < 32
    · have hk1 : k < D.size := by rw [HS.out]; exact hlt
      have hd := D_at k hlt hk1
      have HD := Lib.hid hd
      clear hd
      by_cases he : dg k = c
      · have hp : pl c = k := by rw [← he]; exact pl_dg k hlt
        have HP := Lib.hid hp
        have hb : ((D[k]'hk1).toNat : Int) = (c.toNat : Int) := by rw [HD.out, he]
        clear he hp
        go_wp2
        go_ret
        exact ⟨ret_int HP.out.symm, rfl⟩
      · have hb : (((D[k]'hk1).toNat : Int) == (c.toNat : Int)) = false := by
          rw [HD.out]
          simp only [beq_eq_false_iff_ne, ne_eq]
          intro h
          exact he (UInt8.toNat_inj.1 (by omega))
        have hn2 : Hid (∀ j, j < k + 1 → dg j ≠ c) := Lib.hid (by
          intro j hj
          by_cases e : j = k
          · rw [e]; exact he
          · exact hno.out j (by omega))
        clear he hno
        go_wp2
        go_round
        case rel => exact ⟨k + 1, by omega, by go_num, hn2⟩
        case measure => simp [intOf]; omega
    · obtain rfl : 32 = k := by omega
      have hp : pl c = -1 := by
        rcases pl_all c with h | ⟨d, hd, h⟩
        · exact h
        · exact absurd h.symm (hno.out d hd)
      have HP := Lib.hid hp
      have hk2 : ¬ 32 < D.size := by rw [HS.out]; omega
      clear hp hno
      go_wp2
      go_ret
      exact ⟨ret_int HP.out.symm, rfl⟩

theorem bs_size (l : List UInt8) : (bs l).size = l.length := by simp [bs, ByteArray.size]
theorem bs_at (l : List UInt8) (k : Nat) (c : UInt8) (h : l[k]? = some c) (h' : k < (bs l).size) : (bs l)[k]'h' = c := by
  have hk := List.getElem?_eq_some_iff.1 h
  have : (bs l)[k]'h' = l[k]'(hk.1) := rfl
  rw [this, hk.2]
theorem bs_app (a b : List UInt8) : bs a ++ bs b = bs (a ++ b) := by
  have : (bs a ++ bs b).data.toList = (bs (a ++ b)).data.toList := by simp [bs]
  generalize bs a ++ bs b = x at this ⊢
  obtain ⟨⟨x⟩⟩ := x
  simp [bs] at this ⊢
  exact this

/-- One digit cut out of the digits. -/
theorem run_digit (d : Nat) (h : d < 32) (x y : Int) (hx : x = d) (hy : y = d + 1) (w : World) :
    (Instr.slice 9 (.string ⟨#[48, 49, 50, 51, 52, 53, 54, 55, 56, 57, 97, 98, 99, 100, 101, 102, 103, 104, 106, 107, 109, 110, 112, 113, 114, 115, 116, 118, 119, 120, 121, 122]⟩) (some (.int .i64 x)) (some (.int .i64 y)) none).run Try.prog w = .ok (.string (bs [dg d])) w := by
  subst hx hy
  have hs : (⟨#[48, 49, 50, 51, 52, 53, 54, 55, 56, 57, 97, 98, 99, 100, 101, 102, 103, 104, 106, 107, 109, 110, 112, 113, 114, 115, 116, 118, 119, 120, 121, 122]⟩ : ByteArray).size = 32 := rfl
  rw [run_slice_string w 9 _ .i64 .i64 _ _ Try.underlying9 (by omega) (by omega) (by omega)]
  rw [show ((d : Int) + 1).toNat = d + 1 by omega, show (d : Int).toNat = d by omega]
  exact congrArg (fun s => Result.ok (Value.string s) w) (D_ext d h)

set_option maxHeartbeats 1000000 in
theorem check_any (ds : List Nat) (w : World) (hd : ∀ d ∈ ds, d < 32) (hl : ds.length ≤ 1000) :
    Calls Try.prog 21 #[.string (bs (ds.map dg))] w fun e w' => e = .returned (.string (bs [dg (chk ds)])) ∧ w = w' := by
  have hsz : (bs (ds.map dg)).size = ds.length := by rw [bs_size, List.length_map]
  have hat : Hid (∀ (k : Nat) (h : k < (bs (ds.map dg)).size) (h' : k < ds.length), (bs (ds.map dg))[k]'h = dg (ds[k]'h')) := Lib.hid (by
    intro k h h'
    exact bs_at _ k _ (by simp [h']) h)
  generalize bs (ds.map dg) = S at hsz hat
  have HS := Lib.hid hsz
  have hszle : S.size ≤ 1000 := by omega
  have HD := Lib.hid hd
  clear hsz hd
  go_enter Try.func21, Try.ntmps21
  go_wp2_with fail
  go_loop [3, 4, 7] (fun n _ i => ∃ k : Nat, k ≤ ds.length ∧ i = .int .i64 k ∧ n = .int .i64 (chk (ds.take k) : Nat)) (fun _ _ i => ds.length - (intOf i).toNat)
  case atStart => exact ⟨0, Nat.zero_le _, rfl, rfl⟩
  case round =>
    obtain ⟨k, hk, rfl, rfl⟩ := hrel
    have hc := chk_lt (ds.take k)
    by_cases hlt : k < ds.length
    · have hk1 : k < S.size := by rw [HS.out]; exact hlt
      have hat1 := hat.out k hk1 hlt
      have hdk := HD.out _ (List.getElem_mem hlt)
      have hsn : chk (ds.take (k + 1)) = (3 * chk (ds.take k) + ds[k]) % 31 := by rw [List.take_succ_eq_append_getElem hlt, chk_snoc]
      generalize ds[k] = d at hat1 hdk hsn
      generalize chk (ds.take k) = c1 at hsn hc
      have hpl : pl (S[k]'hk1) = d := by rw [hat1]; exact pl_dg d hdk
      have HP := Lib.hid hpl
      have HSN := Lib.hid hsn
      clear hat1 hpl hsn
      go_wp2_with fail
      refine (digit_any (S[k]'hk1) w).mono ?_
      rintro e w' ⟨rfl, rfl⟩
      rw [HP.out]
      go_wp2_with fail
      go_round
      case rel => exact ⟨k + 1, by omega, by go_num, by rw [HSN.out]; go_num⟩
      case measure => simp [intOf]; omega
    · obtain rfl : ds.length = k := by omega
      rw [List.take_length] at hc ⊢
      generalize hcc : chk ds = c1 at hc
      have HCC := Lib.hid hcc
      clear hcc
      have hx := run_digit c1 (by omega) (c1 : Int) ((c1 : Int) + 1) rfl rfl
      have hk2 : S.size ≤ ds.length := Nat.le_of_eq HS.out
      go_wp2_with fail
      go_ret
      exact ⟨ret_str (by rw [HCC.out]), rfl⟩

theorem cons_enc {m : Nat} (h : 0 < m) (ds : List Nat) : enc m ++ ds = enc (m / 32) ++ (m % 32) :: ds := by rw [enc_pos h]; simp

set_option maxHeartbeats 1000000 in
theorem show_any (v : Int) (w : World) (hv : v ≤ 9223372036854775807) :
    Calls Try.prog 9 #[.int .i64 v] w fun e w' => e = .returned (.string (bs (showL v))) ∧ w = w' := by
  by_cases h1 : v < 1
  · rw [showL_zero h1]
    go_enter Try.func9, Try.ntmps9
    go_wp2
    go_ret
    exact ⟨rfl, rfl⟩
  · rw [showL_pos (by omega)]
    have hl := enc_len 13 v.toNat (by omega)
    have hlt := enc_lt v.toNat
    obtain ⟨n, rfl⟩ : ∃ n : Nat, v = n := ⟨v.toNat, by omega⟩
    simp only [Int.toNat_natCast] at hl hlt ⊢
    have hn : 1 ≤ n := by omega
    have HL := Lib.hid hlt
    clear hlt
    go_enter Try.func9, Try.ntmps9
    go_wp2_with fail
    go_loop [0, 3] (fun v s => ∃ (m : Nat) (ds : List Nat), m ≤ n ∧ v = .int .i64 m ∧ s = .string (bs (ds.map dg)) ∧ Hid (enc n = enc m ++ ds)) (fun v _ => (intOf v).toNat)
    case atStart => exact ⟨n, [], Nat.le_refl _, rfl, rfl, Lib.hid (by simp)⟩
    case round =>
      obtain ⟨m, ds, hm, rfl, rfl, he⟩ := hrel
      by_cases hm0 : 0 < m
      · have hx := run_digit (m % 32) (by omega) ((m : Int) % 32) ((m : Int) % 32 + 1) (by omega) (by omega)
        have h2 : Hid (enc n = enc (m / 32) ++ (m % 32) :: ds) := Lib.hid (by rw [he.out, cons_enc hm0])
        have hs : Hid (bs [dg (m % 32)] ++ bs (ds.map dg) = bs ((m % 32 :: ds).map dg)) := Lib.hid (by rw [bs_app]; rfl)
        have hq1 : (bs [dg (m % 32)]).size ≤ 1 := by rw [bs_size]; simp
        have hq2 : (bs (ds.map dg)).size ≤ 13 := by
          have := congrArg List.length he.out
          rw [bs_size, List.length_map]
          simp at this
          omega
        clear he
        generalize bs (ds.map dg) = S at hs hq2
        generalize bs [dg (m % 32)] = T at hs hq1 hx
        go_wp2_with fail
        go_round
        case rel => exact ⟨m / 32, m % 32 :: ds, by omega, by go_num, by rw [hs.out], h2⟩
        case measure => simp [intOf]; omega
      · obtain rfl : 0 = m := by omega
        have hds : ds = enc n := by have := he.out; rw [enc_zero] at this; simpa using this.symm
        subst hds
        clear he
        have hq1 : (bs [dg (chk (enc n))]).size ≤ 1 := by rw [bs_size]; simp
        have hq2 : (bs ((enc n).map dg)).size ≤ 13 := by rw [bs_size, List.length_map]; omega
        go_wp2_with fail
        refine (check_any (enc n) w HL.out (by omega)).mono ?_
        rintro e w' ⟨rfl, rfl⟩
        go_wp2_with fail
        go_ret
        exact ⟨ret_str (by
          show bs [34] ++ bs ((enc n).map dg) ++ bs [dg (chk (enc n))] ++ bs [34] = bs (tag (enc n))
          rw [bs_app, bs_app, bs_app]
          simp [tag]), rfl⟩

theorem run_digitD (d : Nat) (h : d < 32) (x y : Int) (hx : x = d) (hy : y = d + 1) (w : World) :
    (Instr.slice 9 (.string D) (some (.int .i64 x)) (some (.int .i64 y)) none).run Try.prog w = .ok (.string (bs [dg d])) w := run_digit d h x y hx hy w

set_option maxHeartbeats 1000000 in
/-- The reference's. -/
theorem tag_any (v : Int) (w : World) (hv : v ≤ 9223372036854775807) :
    Calls Try.prog 15 #[.int .i64 v] w fun e w' => e = .returned (.string (bs (showL v))) ∧ w = w' := by
  by_cases h1 : v < 1
  · rw [showL_zero h1]
    go_enter Try.func15, Try.ntmps15
    go_wp2
    go_ret
    exact ⟨rfl, rfl⟩
  · rw [showL_pos (by omega)]
    have hl := enc_len 13 v.toNat (by omega)
    have hlt := enc_lt v.toNat
    obtain ⟨n, rfl⟩ : ∃ n : Nat, v = n := ⟨v.toNat, by omega⟩
    simp only [Int.toNat_natCast] at hl hlt ⊢
    have hn : 1 ≤ n := by omega
    have HL := Lib.hid hlt
    clear hlt
    go_enter Try.func15, Try.ntmps15
    go_wp2_with fail
    go_loop [3, 4] (fun s v => ∃ (m : Nat) (ds : List Nat), m ≤ n ∧ v = .int .i64 m ∧ s = .string (bs (ds.map dg)) ∧ Hid (enc n = enc m ++ ds)) (fun _ v => (intOf v).toNat)
    case atStart => exact ⟨n, [], Nat.le_refl _, rfl, rfl, Lib.hid (by simp)⟩
    case round =>
      obtain ⟨m, ds, hm, rfl, rfl, he⟩ := hrel
      by_cases hm0 : 0 < m
      · have hx := run_digitD (m % 32) (by omega) ((m : Int) % 32) ((m : Int) % 32 + 1) (by omega) (by omega)
        have h2 : Hid (enc n = enc (m / 32) ++ (m % 32) :: ds) := Lib.hid (by rw [he.out, cons_enc hm0])
        have hs : Hid (bs [dg (m % 32)] ++ bs (ds.map dg) = bs ((m % 32 :: ds).map dg)) := Lib.hid (by rw [bs_app]; rfl)
        have hq1 : (bs [dg (m % 32)]).size ≤ 1 := by rw [bs_size]; simp
        have hq2 : (bs (ds.map dg)).size ≤ 13 := by
          have := congrArg List.length he.out
          rw [bs_size, List.length_map]
          simp at this
          omega
        clear he
        generalize bs (ds.map dg) = S at hs hq2
        generalize bs [dg (m % 32)] = T at hs hq1 hx
        go_wp2_with fail
        refine (digits_any w).mono ?_
        rintro e w' ⟨rfl, rfl⟩
        go_wp2_with fail
        go_round
        case rel => exact ⟨m / 32, m % 32 :: ds, by omega, by go_num, by rw [hs.out], h2⟩
        case measure => simp [intOf]; omega
      · obtain rfl : 0 = m := by omega
        have hds : ds = enc n := by have := he.out; rw [enc_zero] at this; simpa using this.symm
        subst hds
        clear he
        have hsz : (bs ((enc n).map dg)).size = (enc n).length := by rw [bs_size, List.length_map]
        have hat : Hid (∀ (k : Nat) (h : k < (bs ((enc n).map dg)).size) (h' : k < (enc n).length), (bs ((enc n).map dg))[k]'h = dg ((enc n)[k]'h')) := Lib.hid (by
          intro k h h'
          exact bs_at _ k _ (by simp [h']) h)
        have hfin : Hid (bs [34] ++ bs ((enc n).map dg) ++ bs [dg (chk (enc n))] ++ bs [34] = bs (tag (enc n))) := Lib.hid (by
          rw [bs_app, bs_app, bs_app]
          simp [tag])
        generalize bs ((enc n).map dg) = S at hsz hat hfin
        obtain ⟨R, hR⟩ : ∃ R, R = bs (tag (enc n)) := ⟨_, rfl⟩
        rw [← hR] at hfin
        have HR := Lib.hid hR
        clear hR
        generalize enc n = ds at hsz hat hfin hl HL
        have HS := Lib.hid hsz
        have hszle : S.size ≤ 13 := by omega
        clear hsz
        go_wp2_with fail
        go_loop [5, 6] (fun c i => ∃ k : Nat, k ≤ ds.length ∧ i = .int .i64 k ∧ c = .int .i64 (chk (ds.take k) : Nat)) (fun _ i => ds.length - (intOf i).toNat)
        case atStart => exact ⟨0, Nat.zero_le _, rfl, rfl⟩
        case round =>
          obtain ⟨k, hk, rfl, rfl⟩ := hrel
          have hc := chk_lt (ds.take k)
          by_cases hlt : k < ds.length
          · have hk1 : k < S.size := by rw [HS.out]; exact hlt
            have hat1 := hat.out k hk1 hlt
            have hdk := HL.out _ (List.getElem_mem hlt)
            have hsn : chk (ds.take (k + 1)) = (3 * chk (ds.take k) + ds[k]) % 31 := by rw [List.take_succ_eq_append_getElem hlt, chk_snoc]
            generalize ds[k] = d at hat1 hdk hsn
            generalize chk (ds.take k) = c1 at hsn hc
            have hpl : pl (S[k]'hk1) = d := by rw [hat1]; exact pl_dg d hdk
            have HP := Lib.hid hpl
            have HSN := Lib.hid hsn
            clear hat1 hpl hsn
            go_wp2_with fail
            refine (place_any (S[k]'hk1) w).mono ?_
            rintro e w' ⟨rfl, rfl⟩
            rw [HP.out]
            go_wp2_with fail
            go_round
            case rel => exact ⟨k + 1, by omega, by go_num, by rw [HSN.out]; go_num⟩
            case measure => simp [intOf]; omega
          · obtain rfl : ds.length = k := by omega
            rw [List.take_length] at hc ⊢
            have hk2 : S.size ≤ ds.length := Nat.le_of_eq HS.out
            have hx := run_digitD (chk ds) (by omega) (chk ds : Int) ((chk ds : Int) + 1) rfl rfl
            have hq1 : (bs [dg (chk ds)]).size ≤ 1 := by rw [bs_size]; simp
            generalize bs [dg (chk ds)] = T at hfin hq1 hx
            generalize chk ds = c1 at hc hx
            go_wp2_with fail
            refine (digits_any w).mono ?_
            rintro e w' ⟨rfl, rfl⟩
            go_wp2_with fail
            go_ret
            exact ⟨ret_str (hfin.out.trans HR.out), rfl⟩
end Go.Proofs.Ytmlcphehejcmkaa
