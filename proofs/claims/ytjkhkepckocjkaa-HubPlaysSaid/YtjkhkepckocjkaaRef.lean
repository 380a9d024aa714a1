/- The contracts of the reference's hub. -/
import Derived.Test.YtjkhkepckocjkaaInts
import Derived.IntWalk
namespace Go.Proofs.Ytjkhkepckocjkaa
open Go.RowKit

theorem rnew (w : World) : HubAt 29 50 (w.alloc (.cells #[.slice none 0 0] 29)) w.heap.size (.slice none 0 0) [] none := ⟨Holds.new _ _ _, Sl.nil _ _ _, by simp⟩

set_option maxHeartbeats 1000000 in
theorem rfind_same (w : World) (r : Nat) (v : Value) (l : List Wt) (own : Option Nat) (who : Int) (h : HubAt 29 50 w r v l own) (hl : l.length ≤ 1000) :
    Calls Try.prog 24 #[.pointer (some ⟨r, 0, none⟩), .int .i64 who] w fun e w' => e = .returned (.int .i64 (place who l)) ∧ w = w' := by
  obtain ⟨a, c, rfl⟩ := h.2.1.form
  have c0 := h.1.cell 0
  go_enter Try.func24, Try.ntmps24
  go_wp2
  go_loop [5] (fun i => ∃ k : Nat, k ≤ l.length ∧ i = .int .i64 k ∧ Not who l k) (fun i => l.length - (intOf i).toNat)
  case atStart => exact ⟨0, Nat.zero_le _, rfl, not_zero _ _⟩
  case round =>
    obtain ⟨k, hk, rfl, hno⟩ := hrel
    by_cases hlt : k < l.length
    · have hx : l[k]? = some l[k] := List.getElem?_eq_getElem hlt
      obtain ⟨x, hx'⟩ : ∃ x, l[k] = x := ⟨_, rfl⟩
      rw [hx'] at hx
      clear hx'
      have hk1 : (k : Int) < (l.length : Int) := by omega
      obtain ⟨g, c2, hv, rfl, hr, q0, q1, q2⟩ := h.elem hx
      have HX := Lib.hid hx
      clear hx h
      cases hv
      by_cases he : x.who = who
      · have hp : place who l = (k : Int) := by rw [place, at_some hno HX.out he]
        have HP := Lib.hid hp
        have hb : (x.who == who) = true := by simpa using he
        clear he hp hno
        go_wp2
        go_ret
        exact ⟨ret_int HP.out.symm, rfl⟩
      · have hn2 := not_succ hno HX.out he
        have hb : (x.who == who) = false := by simpa using he
        clear he hno
        go_wp2
        go_round
        case rel => exact ⟨k + 1, by omega, by go_num, hn2⟩
        case measure => simp [intOf]; omega
    · obtain rfl : k = l.length := by omega
      have hp : place who l = -1 := by rw [place, at_none hno]
      have HP := Lib.hid hp
      clear hp hno
      go_wp2
      go_ret
      exact ⟨ret_int HP.out.symm, rfl⟩
theorem rfind_any (w : World) (r : Nat) (v : Value) (l : List Wt) (own : Option Nat) (who : Int) (h : HubAt 29 50 w r v l own) (hl : l.length ≤ 1000) :
    Calls Try.prog 24 #[.pointer (some ⟨r, 0, none⟩), .int .i64 who] w fun e w' => e = .returned (.int .i64 (place who l)) ∧ Fr [] w w' :=
  (rfind_same w r v l own who h hl).mono fun _ _ ⟨he, hw⟩ => ⟨he, hw ▸ Fr.refl _ _⟩

set_option maxRecDepth 100000 in
set_option maxHeartbeats 1000000 in
theorem radd_any (w : World) (r : Nat) (v : Value) (l : List Wt) (own : Option Nat) (who pl : Int) (h : HubAt 29 50 w r v l own) (hl : l.length ≤ 900) :
    Calls Try.prog 10 #[.pointer (some ⟨r, 0, none⟩), .int .i64 who, .int .i64 pl] w fun e w' => ∃ v' own', e = .returned (.bool (!has who l)) ∧ HubAt 29 50 w' r v' (addL l who pl) own' ∧ Fr (r :: own.toList) w w' ∧ (own' = own ∨ ∃ g, own' = some g ∧ w.heap.size ≤ g) := by
  obtain ⟨i2, hi, hz0, hz1, hz2⟩ := info_parts info50
  cases hh : has who l
  · have hpl := place_no hh
    have hal : addL l who pl = l ++ [⟨who, pl, false⟩] := by simp [addL, hh]
    have HH := Lib.hid hpl
    have HA := Lib.hid hal
    clear hh hpl hal
    have hrn := h.own_ne (by decide)
    go_enter Try.func10, Try.ntmps10
    go_wp2_with fail
    refine (rfind_any w r v l own who h (by omega)).mono ?_
    rintro e w1 ⟨rfl, f1⟩
    rw [HH.out]
    have h1 := h.fr0 f1
    obtain ⟨hp, hs, hm⟩ := h1
    obtain ⟨a, c, rfl⟩ := hs.form
    have c0 := hp.cell 0
    clear h
    go_wp2_with (at_builtin; refine wpList_append_sl rfl (.tmp 15) (.tmp 19) 27 rfl i2 _ 24 Try.underlying27 hi hz0 hz1 hz2 rfl (by decide) _ own rfl (hs.fr0 ((Fr.refl [] w1).alloc _)) _ 1 1 (wc ⟨who, pl, false⟩) rfl rfl (cells_of (Holds.new w1 50 #[.int .i64 who, .int .i64 pl, .bool false])) (by simp [wc, Value.oneCell']) (by unfold maxLen; omega) (by omega) ?_; intro v' w2 own' hs1 hf1 ho1 hm1; obtain ⟨g', rfl⟩ := hm1 (by omega); obtain ⟨c', rfl, hr1⟩ := hs1.own_row; have fr1 : Fr own.toList w1 w2 := ((Fr.refl _ w1).alloc _).trans hf1; have hp1 := hp.fr fr1 hrn; have d1 := hp1.cell 0; have f1' := hp1.frozen 0; clear hf1 c0 hm1)
    go_ret
    obtain ⟨k1, k2⟩ := add_end (x := ⟨who, pl, false⟩) (by decide) rfl hp1 (Sl.row hr1) ⟨_, rfl⟩ ((f1.nil.trans fr1).mono (T := r :: own.toList) (fun k hk => List.mem_cons_of_mem _ hk)) (List.mem_cons_self ..)
    refine ⟨_, some g', rfl, HA.out ▸ k1, k2, ?_⟩
    · have := f1.size
      rcases ho1 with ho1 | ⟨g2, ho1, hg2⟩
      · exact .inl ho1
      · exact .inr ⟨g2, ho1, by simp at hg2; omega⟩
  · have hpl := place_yes hh
    have hal : addL l who pl = l := by simp [addL, hh]
    clear hh
    rw [hal]
    clear hal
    go_enter Try.func10, Try.ntmps10
    go_wp2_with fail
    refine (rfind_any w r v l own who h (by omega)).mono ?_
    rintro e w1 ⟨rfl, f1⟩
    go_wp2_with fail
    go_ret
    exact ⟨v, own, rfl, h.fr0 f1, f1.nil, .inl rfl⟩

set_option maxHeartbeats 1000000 in
theorem rwoken_any (w : World) (r : Nat) (v : Value) (l : List Wt) (own : Option Nat) (who : Int) (h : HubAt 29 50 w r v l own) (hl : l.length ≤ 1000) :
    Calls Try.prog 17 #[.pointer (some ⟨r, 0, none⟩), .int .i64 who] w fun e w' => e = .returned (.bool (isWoken l who)) ∧ Fr [] w w' := by
  cases hh : at? who l with
  | none =>
    have hpl : place who l = -1 := by simp [place, hh]
    have hhs : isWoken l who = false := by simp [isWoken, hh]
    rw [hhs]
    have HH := Lib.hid hpl
    clear hh hpl hhs
    go_enter Try.func17, Try.ntmps17
    go_wp2_with fail
    refine (rfind_any w r v l own who h (by omega)).mono ?_
    rintro e w1 ⟨rfl, f1⟩
    rw [HH.out]
    go_wp2_with fail
    go_ret
    exact ⟨rfl, f1⟩
  | some k =>
    have hpl : place who l = k := by simp [place, hh]
    have hk := at_lt hh
    have hx : l[k]? = some l[k] := List.getElem?_eq_getElem hk
    obtain ⟨x, hx'⟩ : ∃ x, l[k] = x := ⟨_, rfl⟩
    rw [hx'] at hx
    rw [woken_at hh hx]
    have HH := Lib.hid hpl
    clear hh hpl hx'
    have hk1 : (k : Int) < (l.length : Int) := by omega
    go_enter Try.func17, Try.ntmps17
    go_wp2_with fail
    refine (rfind_any w r v l own who h (by omega)).mono ?_
    rintro e w1 ⟨rfl, f1⟩
    rw [HH.out]
    have h1 := h.fr0 f1
    obtain ⟨g, c2, rfl, rfl, hr, q0, q1, q2⟩ := h1.elem hx
    have c0 := h1.1.cell 0
    clear hx h
    go_wp2_with fail
    go_ret
    exact ⟨rfl, f1⟩


set_option maxHeartbeats 1000000 in
theorem rlen_any (w : World) (r : Nat) (v : Value) (l : List Wt) (own : Option Nat) (h : HubAt 29 50 w r v l own) :
    Calls Try.prog 21 #[.pointer (some ⟨r, 0, none⟩)] w fun e w' => e = .returned (.int .i64 l.length) ∧ w = w' := by
  obtain ⟨a, c, rfl⟩ := h.2.1.form
  have c0 := h.1.cell 0
  go_enter Try.func21, Try.ntmps21
  go_wp2
  go_ret
  exact ⟨rfl, rfl⟩

theorem own_new {own : Option Nat} {B r : Nat} (h : own = none ∨ ∃ g, own = some g ∧ B ≤ g) (hr : r < B) : r ∉ own.toList := by
  rcases h with rfl | ⟨g, rfl, hg⟩
  · simp
  · simp; omega

set_option maxRecDepth 100000 in
set_option maxHeartbeats 2000000 in
theorem rremove_any (w : World) (r : Nat) (v : Value) (l : List Wt) (own : Option Nat) (who : Int) (h : HubAt 29 50 w r v l own) (hl : l.length ≤ 1000) :
    Calls Try.prog 15 #[.pointer (some ⟨r, 0, none⟩), .int .i64 who] w fun e w' => ∃ v' own', e = .returned (.bool (has who l)) ∧ HubAt 29 50 w' r v' (remL l who) own' ∧ Fr (r :: own.toList) w w' ∧ (own' = own ∨ ∀ g, own' = some g → w.heap.size ≤ g) := by
  cases hh : at? who l with
  | none =>
    have hpl : place who l = -1 := by simp [place, hh]
    have hrl : remL l who = l := by simp [remL, hh]
    have hhs : has who l = false := by simp [has, hh]
    rw [hrl, hhs]
    have HH := Lib.hid hpl
    clear hh hpl hrl hhs
    go_enter Try.func15, Try.ntmps15
    go_wp2_with fail
    refine (rfind_any w r v l own who h (by omega)).mono ?_
    rintro e w1 ⟨rfl, f1⟩
    rw [HH.out]
    go_wp2_with fail
    go_ret
    exact ⟨v, own, rfl, h.fr0 f1, f1.nil, .inl rfl⟩
  | some k =>
    have hpl : place who l = k := by simp [place, hh]
    have hrl : remL l who = l.take k ++ l.drop (k + 1) := by simp [remL, hh]
    have hhs : has who l = true := by simp [has, hh]
    have hk := at_lt hh
    rw [hrl, hhs]
    have HH := Lib.hid hpl
    clear hh hpl hrl hhs
    have hrn := h.own_ne (by decide)
    obtain ⟨i2, hi, hz0, hz1, hz2⟩ := info_parts info50
    go_enter Try.func15, Try.ntmps15
    go_wp2_with fail
    refine (rfind_any w r v l own who h (by omega)).mono ?_
    rintro e w1 ⟨rfl, f1⟩
    rw [HH.out]
    obtain ⟨hp, hs, hm⟩ := h.fr0 f1
    obtain ⟨g, rfl⟩ := hm (by omega)
    obtain ⟨c, rfl, hr⟩ := hs.own_row
    have c0 := hp.cell 0
    clear h
    have hle := hr.le
    have hcm := hr.cap_le
    unfold maxLen at hcm
    have hlt1 : Cells w1 (some ⟨g, 0, none⟩) (fl (l.take k)) := by rw [fl_take]; exact hr.cells.take _
    have hlen1 : (fl (l.take k)).length = k * 3 := by rw [fl_length, List.length_take, Nat.min_eq_left (by omega)]
    have hone1 := fl_one (l.take k)
    have hnews : Cells w1 (some ⟨g, (k + 1) * 3, none⟩) (fl (l.drop (k + 1))) := by
      have := hr.cells.drop ((k + 1) * 3)
      rw [fl_drop]
      simpa using this
    have hlen : (fl (l.drop (k + 1))).length = (l.length - (k + 1)) * 3 := by rw [fl_length, List.length_drop]
    have hone := fl_one (l.drop (k + 1))
    obtain ⟨A, hA, hsrc⟩ : ∃ A : Addr, (if c = k + 1 then some (⟨g, 0, none⟩ : Addr) else some ⟨g, (k + 1) * 3, none⟩) = some A ∧ Cells w1 (some A) (fl (l.drop (k + 1))) := by
      by_cases h : c = k + 1
      · refine ⟨⟨g, 0, none⟩, by simp [h], ?_⟩
        have e0 : fl (l.drop (k + 1)) = [] := List.eq_nil_of_length_eq_zero (by omega)
        rw [e0]
        exact Cells.nil _
      · exact ⟨_, by simp [h], hnews⟩
    have hgl : g < w1.heap.size := hr.lt
    have hrg : r ∉ ([] : List Nat) := by simp
    have hkc : k ≤ c := by omega
    have hkc1 : k + 1 ≤ c := by omega
    have hi0 : (0 : Int) ≤ (k : Int) + 1 := by omega
    have hi1 : (k : Int) + 1 ≤ (l.length : Int) := by omega
    have hx1 : 0 + k ≤ maxLen := by unfold maxLen; omega
    have hx2 : (0 + k) * 24 ≤ 140737488355328 := by omega
    have hx3 : k + (l.length - (k + 1)) ≤ maxLen := by unfold maxLen; omega
    have hx4 : (k + (l.length - (k + 1))) * 24 ≤ 140737488355328 := by omega
    have hw1 : IntKind.i64.wrap ((k : Int) + 1) = (k : Int) + 1 := IntWalk.i64_in _ (by omega)
    have hw2 : ((k : Int) + 1).toNat = k + 1 := by omega
    have c1 : (w1.alloc (.cells #[] 50)).cell? ⟨r, 0, none⟩ = some (.slice (some ⟨g, 0, none⟩) l.length c) := (hp.alloc _).cell 0
    have hrs : r < (w1.alloc (.cells #[] 50)).drew.heap.size := by have := hp.lt; simp; omega
    have H1 := Lib.hid hlen1
    have H2 := Lib.hid hlen
    have H3 := Lib.hid hone
    have H4 := Lib.hid hone1
    clear hlen hlen1 hone hone1 hnews
    go_wp2_with fail
    go_region_law (first
      | (refine step_append_sl rfl (.tmp 12) (.tmp 18) 27 rfl i2 _ 24 Try.underlying27 hi hz0 hz1 hz2 rfl (by decide) _ none rfl (Sl.tight _ _ _ _) _ k c (fl (l.take k)) rfl H1.out (hlt1.fr0 (((Fr.refl [] w1).alloc _).drew)) H4.out hx1 hx2 ?_; intro v2 w2 own2 hs2 hf2 ho2 hm2; simp only [Nat.zero_add, List.nil_append] at hs2; have hrn2 := own_new ho2 hrs; obtain ⟨a2, c2, rfl⟩ := hs2.form; have fr2 : Fr [] w1 w2 := (((Fr.refl _ w1).alloc _).drew).trans hf2; have hp2 := hp.fr fr2 hrg; have d2 := hp2.cell 0)
      | (refine step_append_sl rfl (.tmp 19) (.tmp 26) 27 rfl i2 _ 24 Try.underlying27 hi hz0 hz1 hz2 rfl (by decide) _ own2 rfl hs2 _ (l.length - (k + 1)) (c - (k + 1)) (fl (l.drop (k + 1))) rfl H2.out (hsrc.fr0 fr2) H3.out hx3 hx4 ?_; intro v3 w3 own3 hs3 hf3 ho3 hm3; obtain ⟨a3, c3, rfl⟩ := hs3.form; have hp3 := hp2.fr hf3 hrn2; have d3 := hp3.cell 0; have e3 := hp3.frozen 0))
    all_goals
      go_wp2
      go_ret
      have hsz := f1.size
      have e : k + (l.length - (k + 1)) = (l.take k ++ l.drop (k + 1)).length := by simp; omega
      have hm4 : 0 < k + (l.length - (k + 1)) → ∃ g, own3 = some g := by
        intro hpos
        rcases Nat.eq_zero_or_pos (l.length - (k + 1)) with h | h
        · rcases ho3 with rfl | ⟨g3, h3, _⟩
          · exact hm2 (by omega)
          · exact ⟨g3, h3⟩
        · exact hm3 h
      have hn2 : ∀ g', own2 = some g' → w.heap.size ≤ g' := by
        intro g' hg'
        rcases ho2 with h | ⟨g2, h, hg2⟩
        · rw [h] at hg'; cases hg'
        · rw [h] at hg'; cases hg'; simp at hg2; omega
      have hn3 : ∀ g', own3 = some g' → w.heap.size ≤ g' := by
        intro g' hg'
        rcases ho3 with h | ⟨g2, h, hg2⟩
        · exact hn2 g' (h ▸ hg')
        · rw [h] at hg'; cases hg'; have := fr2.size; omega
      rw [← fl_append] at hs3
      obtain ⟨k1, k2⟩ := rem_end (S := [r, g]) (by decide) e hp3 hs3 hm4 (((f1.nil).trans fr2.nil).step hf3 (fun q hq => .inr (hn2 q (by simpa using hq)))) (List.mem_cons_self ..)
      exact ⟨_, own3, rfl, k1, k2, .inr hn3⟩
end Go.Proofs.Ytjkhkepckocjkaa
