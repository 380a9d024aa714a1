/- The walk of RingPlays. -/
import Derived.Test.YtmljpajegjioeaaIns
namespace Go.Proofs.Ytmljpajegjioeaa
open Go.RowKit
set_option maxRecDepth 100000 in
set_option maxHeartbeats 2000000 in
theorem plays_more (w : World) (M : Nat) (hM1 : 1 ≤ M) (hM2 : (M : Int) ≤ 9223372036854775807) (at_ : Int) (a : Option Addr) (len cap : Nat) (L : Nat → Int) (hA : IntsAt w w.heap.size a len L) (hl : len ≤ 80) :
    Calls Try.prog 3 #[.int .i64 (M : Int), .slice a len cap, .int .i64 at_] w fun e w' => e = .returned (.bool true) ∧ Fr [] w w' := by
  go_enter Try.func3, Try.ntmps3
  go_wp2_with fail
  refine (first_true _).mono ?_
  rintro e w1 ⟨rfl, r1⟩
  have hA1 := hA.fr r1 (Nat.le_refl _) (by simp)
  go_wp2_with fail
  refine (RI.new_any _ w1).mono ?_
  rintro e w2 ⟨r, rfl, hr, p2, r2⟩
  have hA2 := hA1.fr r2 r1.size (by simp)
  have r02 := r1.trans r2
  have hrb : w.heap.size ≤ r := Nat.le_trans r1.size hr
  rw [show max (M : Int) 1 = ((M : Nat) : Int) by omega] at p2
  clear hA hA1 r1 r2 hr
  go_wp2_with fail
  go_loopw [8] (fun i wr => ∃ (k : Nat) (v : Value) (own : Option Nat), k ≤ len ∧ i = .int .i64 k ∧ RI.RingAt wr r ((M : Nat) : Int) v (win L (k - M) (min k M)) own ∧ (∀ g, g ∈ own.toList → w.heap.size ≤ g) ∧ Fr [] w wr ∧ IntsAt wr w.heap.size a len L) (fun i _ => len - (intOf i).toNat)
  case atStart => exact ⟨0, _, none, Nat.zero_le _, rfl, by simpa [win_zero] using p2, by simp, r02, hA2⟩
  case round =>
    obtain ⟨k, v, own, hk, rfl, p, ho, r0, hA⟩ := hrel
    clear p2 r02 hA2
    have HO := Lib.hid ho
    clear ho
    by_cases hlt : k < len
    · obtain ⟨b, off, rfl, hb, hc⟩ := hA (by omega)
      have hck := hc k hlt
      have HC := Lib.hid hc
      clear hc
      by_cases hkM : k < M
      · rw [show k - M = 0 by omega, show min k M = k by omega] at p
        have t1 : decide (M ≤ k) = false := decide_eq_false (by omega)
        go_wp2_with fail
        refine (pushI_room wr r M k v own L p hkM (by omega)).mono ?_
        rintro e w3 ⟨v3, o3, rfl, p3, f3, h3⟩
        have ho3 := own_next HO.out r0.size h3
        have hA3 := hA.fr f3 r0.size (cons_all hrb HO.out)
        have r3 := r0.step f3 (fun g hg => .inr (cons_all hrb HO.out g hg))
        have HO3 := Lib.hid ho3
        clear ho3 h3 p
        go_wp2_with fail
        refine (RI.len_any w3 r _ v3 _ o3 p3 (k + 1) (win_length _ _ _)).mono ?_
        rintro e w' ⟨rfl, rfl⟩
        go_wp2_with fail
        clear t1
        go_loop [12] (fun j => ∃ m : Nat, m ≤ k + 1 ∧ j = .int .i64 m) (fun j => (k + 1) - (intOf j).toNat)
        case atStart => exact ⟨0, by omega, rfl⟩
        case round =>
          obtain ⟨m, hm, rfl⟩ := hrel
          by_cases hmk : m < k + 1
          · have hcm := IntsAt.at3 hA3 (show m < len by omega)
            go_wp2_with fail
            refine (RI.at_in w3 r _ v3 _ o3 m (L m) p3 (by rw [win_get L hmk, Nat.zero_add])).mono ?_
            rintro e w' ⟨rfl, rfl⟩
            go_wp2_with fail
            go_round
            case rel => exact ⟨m + 1, by omega, by go_num⟩
            case measure => simp [intOf]; omega
          · obtain rfl : m = k + 1 := by omega
            go_wp2_with fail
            refine (RI.at_out w3 r _ v3 _ o3 _ p3 (.inr (by rw [win_length]; omega))).mono ?_
            rintro e w' ⟨rfl, rfl⟩
            go_wp2_with fail
            go_roundw
            case rel => exact ⟨k + 1, v3, o3, by omega, by go_num, by rw [show k + 1 - M = 0 by omega, show min (k + 1) M = k + 1 by omega]; exact p3, HO3.out, r3, hA3⟩
            case measure => simp [intOf]; omega
      · obtain ⟨s, rfl⟩ : ∃ s, k = s + M := ⟨k - M, by omega⟩
        rw [show s + M - M = s by omega, show min (s + M) M = M by omega] at p
        have t1 : decide (M ≤ s + M) = true := decide_eq_true (by omega)
        have hcs := HC.out s (by omega)
        go_wp2_with fail
        refine (pushI_all wr r M s v own L p hM1 (by omega)).mono ?_
        rintro e w3 ⟨v3, o3, rfl, p3, f3, h3⟩
        have ho3 := own_next HO.out r0.size h3
        have hA3 := hA.fr f3 r0.size (cons_all hrb HO.out)
        have r3 := r0.step f3 (fun g hg => .inr (cons_all hrb HO.out g hg))
        have HO3 := Lib.hid ho3
        have hcs3 := IntsAt.at3 hA3 (show s < len by omega)
        clear ho3 h3 p hcs hck
        go_wp2_with fail
        refine (RI.len_any w3 r _ v3 _ o3 p3 M (win_length _ _ _)).mono ?_
        rintro e w' ⟨rfl, rfl⟩
        go_wp2_with fail
        clear t1 hcs3
        go_loop [12] (fun j => ∃ m : Nat, m ≤ M ∧ j = .int .i64 m) (fun j => M - (intOf j).toNat)
        case atStart => exact ⟨0, by omega, rfl⟩
        case round =>
          obtain ⟨m, hm, rfl⟩ := hrel
          by_cases hmk : m < M
          · have hcm : w3.cell? ⟨b, off + (s + M + 1 - M + m), none⟩ = some (.int .i64 (L (s + 1 + m))) := by rw [show s + M + 1 - M + m = s + 1 + m by omega]; exact IntsAt.at3 hA3 (by omega)
            go_wp2_with fail
            refine (RI.at_in w3 r _ v3 _ o3 m (L (s + 1 + m)) p3 (win_get L hmk)).mono ?_
            rintro e w' ⟨rfl, rfl⟩
            go_wp2_with fail
            go_round
            case rel => exact ⟨m + 1, by omega, by go_num⟩
            case measure => simp [intOf]; omega
          · obtain rfl : M = m := by omega
            go_wp2_with fail
            refine (RI.at_out w3 r _ v3 _ o3 _ p3 (.inr (by rw [win_length]; omega))).mono ?_
            rintro e w' ⟨rfl, rfl⟩
            go_wp2_with fail
            go_roundw
            case rel => exact ⟨s + M + 1, v3, o3, by omega, by go_num, by rw [show s + M + 1 - M = s + 1 by omega, show min (s + M + 1) M = M by omega]; exact p3, HO3.out, r3, hA3⟩
            case measure => simp [intOf]; omega
    · obtain rfl : k = len := by omega
      by_cases hlM : k < M
      · rw [show k - M = 0 by omega, show min k M = k by omega] at p
        by_cases hat : at_ < 0
        · go_wp2_with fail
          refine (RI.at_out wr r _ v _ own _ p (.inl hat)).mono ?_
          rintro e w' ⟨rfl, rfl⟩
          go_wp2_with fail
          go_ret
          exact ⟨rfl, r0⟩
        · obtain ⟨q, rfl⟩ := Int.eq_ofNat_of_zero_le (by omega : 0 ≤ at_)
          by_cases hq : q < k
          · obtain ⟨b, off, rfl, hb, _⟩ := hA (by omega)
            have hcq := IntsAt.at3 hA hq
            go_wp2_with fail
            refine (RI.at_in wr r _ v _ own q (L q) p (by rw [win_get L hq, Nat.zero_add])).mono ?_
            rintro e w' ⟨rfl, rfl⟩
            go_wp2_with fail
            all_goals (go_ret; exact ⟨rfl, r0⟩)
          · go_wp2_with fail
            refine (RI.at_out wr r _ v _ own _ p (.inr (by rw [win_length]; omega))).mono ?_
            rintro e w' ⟨rfl, rfl⟩
            go_wp2_with fail
            go_ret
            exact ⟨rfl, r0⟩
      · obtain ⟨s, rfl⟩ : ∃ s, k = s + M := ⟨k - M, by omega⟩
        rw [show s + M - M = s by omega, show min (s + M) M = M by omega] at p
        rcases Nat.eq_zero_or_pos s with rfl | hs
        · by_cases hat : at_ < 0
          · go_wp2_with fail
            refine (RI.at_out wr r _ v _ own _ p (.inl hat)).mono ?_
            rintro e w' ⟨rfl, rfl⟩
            go_wp2_with fail
            go_ret
            exact ⟨rfl, r0⟩
          · obtain ⟨q, rfl⟩ := Int.eq_ofNat_of_zero_le (by omega : 0 ≤ at_)
            by_cases hq : q < M
            · obtain ⟨b, off, rfl, hb, _⟩ := hA (by omega)
              have hcq := IntsAt.at3 hA (show q < 0 + M by omega)
              go_wp2_with fail
              refine (RI.at_in wr r _ v _ own q (L q) p (by rw [win_get L hq, Nat.zero_add])).mono ?_
              rintro e w' ⟨rfl, rfl⟩
              go_wp2_with fail
              go_ret
              exact ⟨rfl, r0⟩
            · go_wp2_with fail
              refine (RI.at_out wr r _ v _ own _ p (.inr (by rw [win_length]; omega))).mono ?_
              rintro e w' ⟨rfl, rfl⟩
              go_wp2_with fail
              go_ret
              exact ⟨rfl, r0⟩
        · have t2 : decide (M < s + M) = true := decide_eq_true (by omega)
          by_cases hat : at_ < 0
          · go_wp2_with fail
            refine (RI.at_out wr r _ v _ own _ p (.inl hat)).mono ?_
            rintro e w' ⟨rfl, rfl⟩
            go_wp2_with fail
            go_ret
            exact ⟨rfl, r0⟩
          · obtain ⟨q, rfl⟩ := Int.eq_ofNat_of_zero_le (by omega : 0 ≤ at_)
            by_cases hq : q < M
            · obtain ⟨b, off, rfl, hb, _⟩ := hA (by omega)
              have hcq := IntsAt.at3 hA (show s + q < s + M by omega)
              go_wp2_with fail
              refine (RI.at_in wr r _ v _ own q (L (s + q)) p (win_get L hq)).mono ?_
              rintro e w' ⟨rfl, rfl⟩
              go_wp2_with fail
              go_ret
              exact ⟨rfl, r0⟩
            · go_wp2_with fail
              refine (RI.at_out wr r _ v _ own _ p (.inr (by rw [win_length]; omega))).mono ?_
              rintro e w' ⟨rfl, rfl⟩
              go_wp2_with fail
              go_ret
              exact ⟨rfl, r0⟩
set_option maxRecDepth 100000 in
set_option maxHeartbeats 2000000 in
theorem plays_one (w : World) (most : Int) (hmo : most < 1) (at_ : Int) (a : Option Addr) (len cap : Nat) (L : Nat → Int) (hA : IntsAt w w.heap.size a len L) (hl : len ≤ 80) :
    Calls Try.prog 3 #[.int .i64 most, .slice a len cap, .int .i64 at_] w fun e w' => e = .returned (.bool true) ∧ Fr [] w w' := by
  go_enter Try.func3, Try.ntmps3
  go_wp2_with fail
  refine (first_true _).mono ?_
  rintro e w1 ⟨rfl, r1⟩
  have hA1 := hA.fr r1 (Nat.le_refl _) (by simp)
  go_wp2_with fail
  refine (RI.new_any _ w1).mono ?_
  rintro e w2 ⟨r, rfl, hr, p2, r2⟩
  have hA2 := hA1.fr r2 r1.size (by simp)
  have r02 := r1.trans r2
  have hrb : w.heap.size ≤ r := Nat.le_trans r1.size hr
  rw [show max most 1 = ((1 : Nat) : Int) by omega] at p2
  clear hA hA1 r1 r2 hr
  go_wp2_with fail
  go_loopw [8] (fun i wr => ∃ (k : Nat) (v : Value) (own : Option Nat), k ≤ len ∧ i = .int .i64 k ∧ RI.RingAt wr r ((1 : Nat) : Int) v (win L (k - 1) (min k 1)) own ∧ (∀ g, g ∈ own.toList → w.heap.size ≤ g) ∧ Fr [] w wr ∧ IntsAt wr w.heap.size a len L) (fun i _ => len - (intOf i).toNat)
  case atStart => exact ⟨0, _, none, Nat.zero_le _, rfl, by simpa [win_zero] using p2, by simp, r02, hA2⟩
  case round =>
    obtain ⟨k, v, own, hk, rfl, p, ho, r0, hA⟩ := hrel
    clear p2 r02 hA2
    have HO := Lib.hid ho
    clear ho
    by_cases hlt : k < len
    · obtain ⟨b, off, rfl, hb, hc⟩ := hA (by omega)
      have hck := hc k hlt
      have HC := Lib.hid hc
      clear hc
      by_cases hkM : k < 1
      · rw [show k - 1 = 0 by omega, show min k 1 = k by omega] at p
        have t1 : decide (1 ≤ k) = false := decide_eq_false (by omega)
        go_wp2_with fail
        refine (pushI_room wr r 1 k v own L p hkM (by omega)).mono ?_
        rintro e w3 ⟨v3, o3, rfl, p3, f3, h3⟩
        have ho3 := own_next HO.out r0.size h3
        have hA3 := hA.fr f3 r0.size (cons_all hrb HO.out)
        have r3 := r0.step f3 (fun g hg => .inr (cons_all hrb HO.out g hg))
        have HO3 := Lib.hid ho3
        clear ho3 h3 p
        go_wp2_with fail
        refine (RI.len_any w3 r _ v3 _ o3 p3 (k + 1) (win_length _ _ _)).mono ?_
        rintro e w' ⟨rfl, rfl⟩
        go_wp2_with fail
        clear t1
        go_loop [12] (fun j => ∃ m : Nat, m ≤ k + 1 ∧ j = .int .i64 m) (fun j => (k + 1) - (intOf j).toNat)
        case atStart => exact ⟨0, by omega, rfl⟩
        case round =>
          obtain ⟨m, hm, rfl⟩ := hrel
          by_cases hmk : m < k + 1
          · have hcm := IntsAt.at3 hA3 (show m < len by omega)
            go_wp2_with fail
            refine (RI.at_in w3 r _ v3 _ o3 m (L m) p3 (by rw [win_get L hmk, Nat.zero_add])).mono ?_
            rintro e w' ⟨rfl, rfl⟩
            go_wp2_with fail
            go_round
            case rel => exact ⟨m + 1, by omega, by go_num⟩
            case measure => simp [intOf]; omega
          · obtain rfl : m = k + 1 := by omega
            go_wp2_with fail
            refine (RI.at_out w3 r _ v3 _ o3 _ p3 (.inr (by rw [win_length]; omega))).mono ?_
            rintro e w' ⟨rfl, rfl⟩
            go_wp2_with fail
            go_roundw
            case rel => exact ⟨k + 1, v3, o3, by omega, by go_num, by rw [show k + 1 - 1 = 0 by omega, show min (k + 1) 1 = k + 1 by omega]; exact p3, HO3.out, r3, hA3⟩
            case measure => simp [intOf]; omega
      · obtain ⟨s, rfl⟩ : ∃ s, k = s + 1 := ⟨k - 1, by omega⟩
        rw [show s + 1 - 1 = s by omega, show min (s + 1) 1 = 1 by omega] at p
        have t1 : decide (1 ≤ s + 1) = true := decide_eq_true (by omega)
        have hcs := HC.out s (by omega)
        go_wp2_with fail
        refine (pushI_all wr r 1 s v own L p (by omega) (by omega)).mono ?_
        rintro e w3 ⟨v3, o3, rfl, p3, f3, h3⟩
        have ho3 := own_next HO.out r0.size h3
        have hA3 := hA.fr f3 r0.size (cons_all hrb HO.out)
        have r3 := r0.step f3 (fun g hg => .inr (cons_all hrb HO.out g hg))
        have HO3 := Lib.hid ho3
        have hcs3 := IntsAt.at3 hA3 (show s < len by omega)
        clear ho3 h3 p hcs hck
        go_wp2_with fail
        refine (RI.len_any w3 r _ v3 _ o3 p3 1 (win_length _ _ _)).mono ?_
        rintro e w' ⟨rfl, rfl⟩
        go_wp2_with fail
        clear t1 hcs3
        go_loop [12] (fun j => ∃ m : Nat, m ≤ 1 ∧ j = .int .i64 m) (fun j => 1 - (intOf j).toNat)
        case atStart => exact ⟨0, by omega, rfl⟩
        case round =>
          obtain ⟨m, hm, rfl⟩ := hrel
          by_cases hmk : m < 1
          · have hcm := IntsAt.at3 hA3 (show s + 1 + m < len by omega)
            go_wp2_with fail
            refine (RI.at_in w3 r _ v3 _ o3 m (L (s + 1 + m)) p3 (win_get L hmk)).mono ?_
            rintro e w' ⟨rfl, rfl⟩
            go_wp2_with fail
            go_round
            case rel => exact ⟨m + 1, by omega, by go_num⟩
            case measure => simp [intOf]; omega
          · obtain rfl : 1 = m := by omega
            go_wp2_with fail
            refine (RI.at_out w3 r _ v3 _ o3 _ p3 (.inr (by rw [win_length]; omega))).mono ?_
            rintro e w' ⟨rfl, rfl⟩
            go_wp2_with fail
            go_roundw
            case rel => exact ⟨s + 1 + 1, v3, o3, by omega, by go_num, by rw [show s + 1 + 1 - 1 = s + 1 by omega, show min (s + 1 + 1) 1 = 1 by omega]; exact p3, HO3.out, r3, hA3⟩
            case measure => simp [intOf]; omega
    · obtain rfl : k = len := by omega
      by_cases hlM : k < 1
      · rw [show k - 1 = 0 by omega, show min k 1 = k by omega] at p
        by_cases hat : at_ < 0
        · go_wp2_with fail
          refine (RI.at_out wr r _ v _ own _ p (.inl hat)).mono ?_
          rintro e w' ⟨rfl, rfl⟩
          go_wp2_with fail
          go_ret
          exact ⟨rfl, r0⟩
        · obtain ⟨q, rfl⟩ := Int.eq_ofNat_of_zero_le (by omega : 0 ≤ at_)
          by_cases hq : q < k
          · obtain ⟨b, off, rfl, hb, _⟩ := hA (by omega)
            have hcq := IntsAt.at3 hA hq
            go_wp2_with fail
            refine (RI.at_in wr r _ v _ own q (L q) p (by rw [win_get L hq, Nat.zero_add])).mono ?_
            rintro e w' ⟨rfl, rfl⟩
            go_wp2_with fail
            all_goals (go_ret; exact ⟨rfl, r0⟩)
          · go_wp2_with fail
            refine (RI.at_out wr r _ v _ own _ p (.inr (by rw [win_length]; omega))).mono ?_
            rintro e w' ⟨rfl, rfl⟩
            go_wp2_with fail
            go_ret
            exact ⟨rfl, r0⟩
      · obtain ⟨s, rfl⟩ : ∃ s, k = s + 1 := ⟨k - 1, by omega⟩
        rw [show s + 1 - 1 = s by omega, show min (s + 1) 1 = 1 by omega] at p
        rcases Nat.eq_zero_or_pos s with rfl | hs
        · by_cases hat : at_ < 0
          · go_wp2_with fail
            refine (RI.at_out wr r _ v _ own _ p (.inl hat)).mono ?_
            rintro e w' ⟨rfl, rfl⟩
            go_wp2_with fail
            go_ret
            exact ⟨rfl, r0⟩
          · obtain ⟨q, rfl⟩ := Int.eq_ofNat_of_zero_le (by omega : 0 ≤ at_)
            by_cases hq : q < 1
            · obtain ⟨b, off, rfl, hb, _⟩ := hA (by omega)
              have hcq := IntsAt.at3 hA (show q < 0 + 1 by omega)
              go_wp2_with fail
              refine (RI.at_in wr r _ v _ own q (L q) p (by rw [win_get L hq, Nat.zero_add])).mono ?_
              rintro e w' ⟨rfl, rfl⟩
              go_wp2_with fail
              go_ret
              exact ⟨rfl, r0⟩
            · go_wp2_with fail
              refine (RI.at_out wr r _ v _ own _ p (.inr (by rw [win_length]; omega))).mono ?_
              rintro e w' ⟨rfl, rfl⟩
              go_wp2_with fail
              go_ret
              exact ⟨rfl, r0⟩
        · have t2 : decide (1 < s + 1) = true := decide_eq_true (by omega)
          by_cases hat : at_ < 0
          · go_wp2_with fail
            refine (RI.at_out wr r _ v _ own _ p (.inl hat)).mono ?_
            rintro e w' ⟨rfl, rfl⟩
            go_wp2_with fail
            go_ret
            exact ⟨rfl, r0⟩
          · obtain ⟨q, rfl⟩ := Int.eq_ofNat_of_zero_le (by omega : 0 ≤ at_)
            by_cases hq : q < 1
            · obtain ⟨b, off, rfl, hb, _⟩ := hA (by omega)
              have hcq := IntsAt.at3 hA (show s + q < s + 1 by omega)
              go_wp2_with fail
              refine (RI.at_in wr r _ v _ own q (L (s + q)) p (win_get L hq)).mono ?_
              rintro e w' ⟨rfl, rfl⟩
              go_wp2_with fail
              go_ret
              exact ⟨rfl, r0⟩
            · go_wp2_with fail
              refine (RI.at_out wr r _ v _ own _ p (.inr (by rw [win_length]; omega))).mono ?_
              rintro e w' ⟨rfl, rfl⟩
              go_wp2_with fail
              go_ret
              exact ⟨rfl, r0⟩
/-- RingPlays, whatever comes in. -/
theorem plays_any (w : World) (most at_ : Int) (a : Option Addr) (len cap : Nat) (L : Nat → Int) (hm : most ≤ 9223372036854775807) (hA : IntsAt w w.heap.size a len L) :
    Calls Try.prog 3 #[.int .i64 most, .slice a len cap, .int .i64 at_] w fun e w' => e = .returned (.bool true) ∧ Fr [] w w' := by
  by_cases hl : len ≤ 80
  · by_cases h1 : most < 1
    · exact plays_one w most h1 at_ a len cap L hA hl
    · obtain ⟨M, rfl⟩ := Int.eq_ofNat_of_zero_le (by omega : 0 ≤ most)
      exact plays_more w M (by omega) hm at_ a len cap L hA hl
  · go_enter Try.func3, Try.ntmps3
    go_wp2_with fail
    refine (first_true _).mono ?_
    rintro e w1 ⟨rfl, r1⟩
    go_wp2_with fail
    refine (first_true _).mono ?_
    rintro e w2 ⟨rfl, r2⟩
    go_wp2_with fail
    go_ret
    exact ⟨rfl, r1.trans r2⟩
end Go.Proofs.Ytmljpajegjioeaa
