/- The walk of RingTexts. -/
import Derived.Test.YtmljpajegjioeaaIns
namespace Go.Proofs.Ytmljpajegjioeaa
open Go.RowKit
set_option maxRecDepth 100000 in
set_option maxHeartbeats 2000000 in
theorem texts_more (w : World) (M : Nat) (hM1 : 1 ≤ M) (hM2 : (M : Int) ≤ 9223372036854775807) (a : Option Addr) (len cap : Nat) (L : Nat → ByteArray) (hA : StrsAt w w.heap.size a len L) (hl : len ≤ 40) :
    Calls Try.prog 5 #[.int .i64 (M : Int), .slice a len cap] w fun e w' => e = .returned (.bool true) ∧ Fr [] w w' := by
  go_enter Try.func5, Try.ntmps5
  go_wp2_with fail
  refine (first_true _).mono ?_
  rintro e w1 ⟨rfl, r1⟩
  have hA1 := hA.fr r1 (Nat.le_refl _) (by simp)
  go_wp2_with fail
  refine (RS.new_any _ w1).mono ?_
  rintro e w2 ⟨r, rfl, hr, p2, r2⟩
  have hA2 := hA1.fr r2 r1.size (by simp)
  have r02 := r1.trans r2
  have hrb : w.heap.size ≤ r := Nat.le_trans r1.size hr
  rw [show max (M : Int) 1 = ((M : Nat) : Int) by omega] at p2
  clear hA hA1 r1 r2 hr
  go_wp2_with fail
  go_loopw [6] (fun i wr => ∃ (k : Nat) (v : Value) (own : Option Nat), k ≤ len ∧ i = .int .i64 k ∧ RS.RingAt wr r ((M : Nat) : Int) v (win L (k - M) (min k M)) own ∧ (∀ g, g ∈ own.toList → w.heap.size ≤ g) ∧ Fr [] w wr ∧ StrsAt wr w.heap.size a len L) (fun i _ => len - (intOf i).toNat)
  case atStart => exact ⟨0, _, none, Nat.zero_le _, rfl, by simpa [win_zero] using p2, by simp, r02, hA2⟩
  case round =>
    obtain ⟨k, v, own, hk, rfl, p, ho, r0, hA⟩ := hrel
    clear p2 r02 hA2
    have HO := Lib.hid ho
    clear ho
    by_cases hlt : k < len
    · obtain ⟨b, off, rfl, hb, hc⟩ := hA (by omega)
      have hck := hc k hlt
      have HC := Lib.hid hc
      clear hc
      by_cases hkM : k < M
      · rw [show k - M = 0 by omega, show min k M = k by omega] at p
        have t1 : decide (M ≤ k) = false := decide_eq_false (by omega)
        go_wp2_with fail
        refine (pushS_room wr r M k v own L p hkM (by omega)).mono ?_
        rintro e w3 ⟨v3, o3, rfl, p3, f3, h3⟩
        have ho3 := own_next HO.out r0.size h3
        have hA3 := hA.fr f3 r0.size (cons_all hrb HO.out)
        have r3 := r0.step f3 (fun g hg => .inr (cons_all hrb HO.out g hg))
        have HO3 := Lib.hid ho3
        clear ho3 h3 p
        go_wp2_with fail
        go_roundw
        case rel => exact ⟨k + 1, v3, o3, by omega, by go_num, by rw [show k + 1 - M = 0 by omega, show min (k + 1) M = k + 1 by omega]; exact p3, HO3.out, r3, hA3⟩
        case measure => simp [intOf]; omega
      · obtain ⟨s, rfl⟩ : ∃ s, k = s + M := ⟨k - M, by omega⟩
        rw [show s + M - M = s by omega, show min (s + M) M = M by omega] at p
        have t1 : decide (M ≤ s + M) = true := decide_eq_true (by omega)
        go_wp2_with fail
        refine (pushS_all wr r M s v own L p hM1 (by omega)).mono ?_
        rintro e w3 ⟨v3, o3, rfl, p3, f3, h3⟩
        have ho3 := own_next HO.out r0.size h3
        have hA3 := hA.fr f3 r0.size (cons_all hrb HO.out)
        have r3 := r0.step f3 (fun g hg => .inr (cons_all hrb HO.out g hg))
        have HO3 := Lib.hid ho3
        have hcs3 := StrsAt.at3 hA3 (show s < len by omega)
        clear ho3 h3 p hck
        go_wp2_with fail
        go_roundw
        case rel => exact ⟨s + M + 1, v3, o3, by omega, by go_num, by rw [show s + M + 1 - M = s + 1 by omega, show min (s + M + 1) M = M by omega]; exact p3, HO3.out, r3, hA3⟩
        case measure => simp [intOf]; omega
    · obtain rfl : k = len := by omega
      by_cases hlM : k < M
      · rw [show k - M = 0 by omega, show min k M = k by omega] at p
        go_wp2_with fail
        go_loop [9] (fun v => ∃ j : Nat, j ≤ k ∧ v = .int .i64 j) (fun v => k - (intOf v).toNat)
        case atStart => exact ⟨0, by omega, rfl⟩
        case round =>
          obtain ⟨j, hj, rfl⟩ := hrel
          by_cases hjc : j < k
          · obtain ⟨b, off, rfl, hb, _⟩ := hA (by omega)
            have hj50 : j < 50 := by omega
            have hcj := StrsAt.at3 hA hjc
            go_wp2_with fail
            refine (RS.len_any wr r _ v _ own p k (win_length _ _ _)).mono ?_
            rintro e w' ⟨rfl, rfl⟩
            go_wp2_with fail
            refine (RS.at_in wr r _ v _ own j (L (j)) p (by rw [win_get L hjc, Nat.zero_add])).mono ?_
            rintro e w' ⟨rfl, rfl⟩
            go_wp2_with fail
            go_round
            case rel =>
              first
              | exact ⟨j + 1, by omega, by go_num⟩
              | (refine ⟨trivial, ?_⟩; (repeat apply Exists.intro); refine ⟨⟨j + 1, by omega, by go_num⟩, rfl⟩)
            case measure => simp [intOf]; omega
          · obtain rfl : k = j := by omega
            go_wp2_with fail
            refine (RS.len_any wr r _ v _ own p k (win_length _ _ _)).mono ?_
            rintro e w' ⟨rfl, rfl⟩
            go_wp2_with fail
            refine (RS.len_any wr r _ v _ own p k (win_length _ _ _)).mono ?_
            rintro e w' ⟨rfl, rfl⟩
            go_wp2_with fail
            go_ret
            exact ⟨rfl, r0⟩
      · rcases (by omega : M = k ∨ M < k) with rfl | hgt
        · rw [show M - M = 0 by omega, show min M M = M by omega] at p
          go_wp2_with fail
          go_loop [9] (fun v => ∃ j : Nat, j ≤ M ∧ v = .int .i64 j) (fun v => M - (intOf v).toNat)
          case atStart => exact ⟨0, by omega, rfl⟩
          case round =>
            obtain ⟨j, hj, rfl⟩ := hrel
            by_cases hjc : j < M
            · obtain ⟨b, off, rfl, hb, _⟩ := hA (by omega)
              have hj50 : j < 50 := by omega
              have hcj := StrsAt.at3 hA hjc
              go_wp2_with fail
              refine (RS.len_any wr r _ v _ own p M (win_length _ _ _)).mono ?_
              rintro e w' ⟨rfl, rfl⟩
              go_wp2_with fail
              refine (RS.at_in wr r _ v _ own j (L (j)) p (by rw [win_get L hjc, Nat.zero_add])).mono ?_
              rintro e w' ⟨rfl, rfl⟩
              go_wp2_with fail
              go_round
              case rel =>
                first
                | exact ⟨j + 1, by omega, by go_num⟩
                | (refine ⟨trivial, ?_⟩; (repeat apply Exists.intro); refine ⟨⟨j + 1, by omega, by go_num⟩, rfl⟩)
              case measure => simp [intOf]; omega
            · obtain rfl : M = j := by omega
              go_wp2_with fail
              refine (RS.len_any wr r _ v _ own p M (win_length _ _ _)).mono ?_
              rintro e w' ⟨rfl, rfl⟩
              go_wp2_with fail
              refine (RS.len_any wr r _ v _ own p M (win_length _ _ _)).mono ?_
              rintro e w' ⟨rfl, rfl⟩
              go_wp2_with fail
              go_ret
              exact ⟨rfl, r0⟩
        · obtain ⟨s, rfl⟩ : ∃ s, k = s + M := ⟨k - M, by omega⟩
          rw [show s + M - M = s by omega, show min (s + M) M = M by omega] at p
          have t2 : decide (M < s + M) = true := decide_eq_true (by omega)
          go_wp2_with fail
          go_loop [9] (fun v => ∃ j : Nat, j ≤ M ∧ v = .int .i64 j) (fun v => M - (intOf v).toNat)
          case atStart => exact ⟨0, by omega, rfl⟩
          case round =>
            obtain ⟨j, hj, rfl⟩ := hrel
            by_cases hjc : j < M
            · obtain ⟨b, off, rfl, hb, _⟩ := hA (by omega)
              have hj50 : j < 50 := by omega
              have hcj := StrsAt.at3 hA (show s + j < s + M by omega)
              go_wp2_with fail
              refine (RS.len_any wr r _ v _ own p M (win_length _ _ _)).mono ?_
              rintro e w' ⟨rfl, rfl⟩
              go_wp2_with fail
              refine (RS.at_in wr r _ v _ own j (L (s + j)) p (win_get L hjc)).mono ?_
              rintro e w' ⟨rfl, rfl⟩
              go_wp2_with fail
              go_round
              case rel =>
                first
                | exact ⟨j + 1, by omega, by go_num⟩
                | (refine ⟨trivial, ?_⟩; (repeat apply Exists.intro); refine ⟨⟨j + 1, by omega, by go_num⟩, rfl⟩)
              case measure => simp [intOf]; omega
            · obtain rfl : M = j := by omega
              go_wp2_with fail
              refine (RS.len_any wr r _ v _ own p M (win_length _ _ _)).mono ?_
              rintro e w' ⟨rfl, rfl⟩
              go_wp2_with fail
              refine (RS.len_any wr r _ v _ own p M (win_length _ _ _)).mono ?_
              rintro e w' ⟨rfl, rfl⟩
              go_wp2_with fail
              go_ret
              exact ⟨rfl, r0⟩
set_option maxRecDepth 100000 in
set_option maxHeartbeats 2000000 in
theorem texts_one (w : World) (most : Int) (hmo : most < 1) (a : Option Addr) (len cap : Nat) (L : Nat → ByteArray) (hA : StrsAt w w.heap.size a len L) (hl : len ≤ 40) :
    Calls Try.prog 5 #[.int .i64 most, .slice a len cap] w fun e w' => e = .returned (.bool true) ∧ Fr [] w w' := by
  go_enter Try.func5, Try.ntmps5
  go_wp2_with fail
  refine (first_true _).mono ?_
  rintro e w1 ⟨rfl, r1⟩
  have hA1 := hA.fr r1 (Nat.le_refl _) (by simp)
  go_wp2_with fail
  refine (RS.new_any _ w1).mono ?_
  rintro e w2 ⟨r, rfl, hr, p2, r2⟩
  have hA2 := hA1.fr r2 r1.size (by simp)
  have r02 := r1.trans r2
  have hrb : w.heap.size ≤ r := Nat.le_trans r1.size hr
  rw [show max most 1 = ((1 : Nat) : Int) by omega] at p2
  clear hA hA1 r1 r2 hr
  go_wp2_with fail
  go_loopw [6] (fun i wr => ∃ (k : Nat) (v : Value) (own : Option Nat), k ≤ len ∧ i = .int .i64 k ∧ RS.RingAt wr r ((1 : Nat) : Int) v (win L (k - 1) (min k 1)) own ∧ (∀ g, g ∈ own.toList → w.heap.size ≤ g) ∧ Fr [] w wr ∧ StrsAt wr w.heap.size a len L) (fun i _ => len - (intOf i).toNat)
  case atStart => exact ⟨0, _, none, Nat.zero_le _, rfl, by simpa [win_zero] using p2, by simp, r02, hA2⟩
  case round =>
    obtain ⟨k, v, own, hk, rfl, p, ho, r0, hA⟩ := hrel
    clear p2 r02 hA2
    have HO := Lib.hid ho
    clear ho
    by_cases hlt : k < len
    · obtain ⟨b, off, rfl, hb, hc⟩ := hA (by omega)
      have hck := hc k hlt
      have HC := Lib.hid hc
      clear hc
      by_cases hkM : k < 1
      · rw [show k - 1 = 0 by omega, show min k 1 = k by omega] at p
        have t1 : decide (1 ≤ k) = false := decide_eq_false (by omega)
        go_wp2_with fail
        refine (pushS_room wr r 1 k v own L p hkM (by omega)).mono ?_
        rintro e w3 ⟨v3, o3, rfl, p3, f3, h3⟩
        have ho3 := own_next HO.out r0.size h3
        have hA3 := hA.fr f3 r0.size (cons_all hrb HO.out)
        have r3 := r0.step f3 (fun g hg => .inr (cons_all hrb HO.out g hg))
        have HO3 := Lib.hid ho3
        clear ho3 h3 p
        go_wp2_with fail
        go_roundw
        case rel => exact ⟨k + 1, v3, o3, by omega, by go_num, by rw [show k + 1 - 1 = 0 by omega, show min (k + 1) 1 = k + 1 by omega]; exact p3, HO3.out, r3, hA3⟩
        case measure => simp [intOf]; omega
      · obtain ⟨s, rfl⟩ : ∃ s, k = s + 1 := ⟨k - 1, by omega⟩
        rw [show s + 1 - 1 = s by omega, show min (s + 1) 1 = 1 by omega] at p
        have t1 : decide (1 ≤ s + 1) = true := decide_eq_true (by omega)
        go_wp2_with fail
        refine (pushS_all wr r 1 s v own L p (by omega) (by omega)).mono ?_
        rintro e w3 ⟨v3, o3, rfl, p3, f3, h3⟩
        have ho3 := own_next HO.out r0.size h3
        have hA3 := hA.fr f3 r0.size (cons_all hrb HO.out)
        have r3 := r0.step f3 (fun g hg => .inr (cons_all hrb HO.out g hg))
        have HO3 := Lib.hid ho3
        have hcs3 := StrsAt.at3 hA3 (show s < len by omega)
        clear ho3 h3 p hck
        go_wp2_with fail
        go_roundw
        case rel => exact ⟨s + 1 + 1, v3, o3, by omega, by go_num, by rw [show s + 1 + 1 - 1 = s + 1 by omega, show min (s + 1 + 1) 1 = 1 by omega]; exact p3, HO3.out, r3, hA3⟩
        case measure => simp [intOf]; omega
    · obtain rfl : k = len := by omega
      by_cases hlM : k < 1
      · rw [show k - 1 = 0 by omega, show min k 1 = k by omega] at p
        go_wp2_with fail
        go_loop [9] (fun v => ∃ j : Nat, j ≤ k ∧ v = .int .i64 j) (fun v => k - (intOf v).toNat)
        case atStart => exact ⟨0, by omega, rfl⟩
        case round =>
          obtain ⟨j, hj, rfl⟩ := hrel
          by_cases hjc : j < k
          · exfalso; omega
          · obtain rfl : k = j := by omega
            go_wp2_with fail
            refine (RS.len_any wr r _ v _ own p k (win_length _ _ _)).mono ?_
            rintro e w' ⟨rfl, rfl⟩
            go_wp2_with fail
            refine (RS.len_any wr r _ v _ own p k (win_length _ _ _)).mono ?_
            rintro e w' ⟨rfl, rfl⟩
            go_wp2_with fail
            go_ret
            exact ⟨rfl, r0⟩
      · rcases (by omega : 1 = k ∨ 1 < k) with rfl | hgt
        · rw [show 1 - 1 = 0 by omega, show min 1 1 = 1 by omega] at p
          go_wp2_with fail
          go_loop [9] (fun v => ∃ j : Nat, j ≤ 1 ∧ v = .int .i64 j) (fun v => 1 - (intOf v).toNat)
          case atStart => exact ⟨0, by omega, rfl⟩
          case round =>
            obtain ⟨j, hj, rfl⟩ := hrel
            by_cases hjc : j < 1
            · obtain ⟨b, off, rfl, hb, _⟩ := hA (by omega)
              have hj50 : j < 50 := by omega
              have hcj := StrsAt.at3 hA hjc
              go_wp2_with fail
              refine (RS.len_any wr r _ v _ own p 1 (win_length _ _ _)).mono ?_
              rintro e w' ⟨rfl, rfl⟩
              go_wp2_with fail
              refine (RS.at_in wr r _ v _ own j (L (j)) p (by rw [win_get L hjc, Nat.zero_add])).mono ?_
              rintro e w' ⟨rfl, rfl⟩
              go_wp2_with fail
              go_round
              case rel =>
                first
                | exact ⟨j + 1, by omega, by go_num⟩
                | (refine ⟨trivial, ?_⟩; (repeat apply Exists.intro); refine ⟨⟨j + 1, by omega, by go_num⟩, rfl⟩)
              case measure => simp [intOf]; omega
            · obtain rfl : 1 = j := by omega
              go_wp2_with fail
              refine (RS.len_any wr r _ v _ own p 1 (win_length _ _ _)).mono ?_
              rintro e w' ⟨rfl, rfl⟩
              go_wp2_with fail
              refine (RS.len_any wr r _ v _ own p 1 (win_length _ _ _)).mono ?_
              rintro e w' ⟨rfl, rfl⟩
              go_wp2_with fail
              go_ret
              exact ⟨rfl, r0⟩
        · obtain ⟨s, rfl⟩ : ∃ s, k = s + 1 := ⟨k - 1, by omega⟩
          rw [show s + 1 - 1 = s by omega, show min (s + 1) 1 = 1 by omega] at p
          have t2 : decide (1 < s + 1) = true := decide_eq_true (by omega)
          go_wp2_with fail
          go_loop [9] (fun v => ∃ j : Nat, j ≤ 1 ∧ v = .int .i64 j) (fun v => 1 - (intOf v).toNat)
          case atStart => exact ⟨0, by omega, rfl⟩
          case round =>
            obtain ⟨j, hj, rfl⟩ := hrel
            by_cases hjc : j < 1
            · obtain ⟨b, off, rfl, hb, _⟩ := hA (by omega)
              have hj50 : j < 50 := by omega
              have hcj := StrsAt.at3 hA (show s + j < s + 1 by omega)
              go_wp2_with fail
              refine (RS.len_any wr r _ v _ own p 1 (win_length _ _ _)).mono ?_
              rintro e w' ⟨rfl, rfl⟩
              go_wp2_with fail
              refine (RS.at_in wr r _ v _ own j (L (s + j)) p (win_get L hjc)).mono ?_
              rintro e w' ⟨rfl, rfl⟩
              go_wp2_with fail
              go_round
              case rel =>
                first
                | exact ⟨j + 1, by omega, by go_num⟩
                | (refine ⟨trivial, ?_⟩; (repeat apply Exists.intro); refine ⟨⟨j + 1, by omega, by go_num⟩, rfl⟩)
              case measure => simp [intOf]; omega
            · obtain rfl : 1 = j := by omega
              go_wp2_with fail
              refine (RS.len_any wr r _ v _ own p 1 (win_length _ _ _)).mono ?_
              rintro e w' ⟨rfl, rfl⟩
              go_wp2_with fail
              refine (RS.len_any wr r _ v _ own p 1 (win_length _ _ _)).mono ?_
              rintro e w' ⟨rfl, rfl⟩
              go_wp2_with fail
              go_ret
              exact ⟨rfl, r0⟩
/-- RingTexts, whatever comes in. -/
theorem texts_any (w : World) (most : Int) (a : Option Addr) (len cap : Nat) (L : Nat → ByteArray) (hm : most ≤ 9223372036854775807) (hA : StrsAt w w.heap.size a len L) :
    Calls Try.prog 5 #[.int .i64 most, .slice a len cap] w fun e w' => e = .returned (.bool true) ∧ Fr [] w w' := by
  by_cases hl : len ≤ 40
  · by_cases h1 : most < 1
    · exact texts_one w most h1 a len cap L hA hl
    · obtain ⟨M, rfl⟩ := Int.eq_ofNat_of_zero_le (by omega : 0 ≤ most)
      exact texts_more w M (by omega) hm a len cap L hA hl
  · go_enter Try.func5, Try.ntmps5
    go_wp2_with fail
    refine (first_true _).mono ?_
    rintro e w1 ⟨rfl, r1⟩
    go_wp2_with fail
    refine (first_true _).mono ?_
    rintro e w2 ⟨rfl, r2⟩
    go_wp2_with fail
    go_ret
    exact ⟨rfl, r1.trans r2⟩
end Go.Proofs.Ytmljpajegjioeaa
