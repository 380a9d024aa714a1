/- The contracts of the hub's functions. -/
import Derived.Test.YtjkhkepckocjkaaRows
import Derived.Test.YtjkhkepckocjkaaHubN
import Derived.Test.YtjkhkepckocjkaaRowL
namespace Go.Proofs.Ytjkhkepckocjkaa
open Go.RowKit

/-- A hub behind pointer r (of type T, its waiters of type E): the slice value v holds l; a call writes no block but r and 'own'. -/
def HubAt (T E : TypeId) (w : World) (r : Nat) (v : Value) (l : List Wt) (own : Option Nat) : Prop :=
  Holds w r T #[v] ∧ Sl w E 3 v l.length (fl l) own ∧ (0 < l.length → ∃ g, own = some g)

theorem info48 : (Try.prog.info? 48).map (fun i => (i.zero, i.size, i.bytes)) = some (some (.agg #[.int .i64 0, .int .i64 0, .bool false]), 3, 24) := by kernel_rfl
theorem info50 : (Try.prog.info? 50).map (fun i => (i.zero, i.size, i.bytes)) = some (some (.agg #[.int .i64 0, .int .i64 0, .bool false]), 3, 24) := by kernel_rfl
theorem info3 : (Try.prog.info? 3).map (fun i => (i.zero, i.size, i.bytes)) = some (some (.int .i64 0), 1, 8) := by kernel_rfl

section
variable {T E : TypeId} {w w' : World} {r : Nat} {v : Value} {l : List Wt} {own : Option Nat} {S : List Nat}
theorem Sl.fr {e : TypeId} {sz n : Nat} {xs : List Value} (h : Sl w e sz v n xs own) (hf : Fr S w w') (ho : ∀ k, k ∈ own.toList → k ∉ S) (hm : 0 < n → ∃ g, own = some g) : Sl w' e sz v n xs own := by
  rcases h with ⟨h0, a, hv, h1, h2, h3, h4⟩ | ⟨g, c, h0, hv, hr⟩
  · have hn : n = 0 := by
      rcases Nat.eq_zero_or_pos n with h | h
      · exact h
      · obtain ⟨g, hg⟩ := hm h
        rw [h0] at hg
        cases hg
    subst hn
    obtain rfl : xs = [] := List.eq_nil_of_length_eq_zero (by simpa using h4)
    exact .inl ⟨h0, a, hv, h1, h2, Cells.nil _, h4⟩
  · subst h0
    exact .inr ⟨g, c, rfl, hv, hr.fr hf (ho g (by simp))⟩
theorem HubAt.fr (h : HubAt T E w r v l own) (hf : Fr S w w') (hr : r ∉ S) (ho : ∀ k, k ∈ own.toList → k ∉ S) : HubAt T E w' r v l own :=
  ⟨h.1.fr hf hr, h.2.1.fr hf ho h.2.2, h.2.2⟩
theorem HubAt.fr0 (h : HubAt T E w r v l own) (hf : Fr [] w w') : HubAt T E w' r v l own := h.fr hf (by simp) (by simp)
theorem HubAt.own_ne (h : HubAt T E w r v l own) (hne : E ≠ T) : r ∉ own.toList := by
  obtain ⟨hp, hs, _⟩ := h
  rcases hs with ⟨rfl, _⟩ | ⟨g, cap, rfl, _, hr⟩
  · simp
  · simpa using (hr.ne hp hne).symm
/-- What an element reads as. -/
theorem HubAt.elem (h : HubAt T E w r v l own) {k : Nat} {x : Wt} (hx : l[k]? = some x) :
    ∃ g c, v = .slice (some ⟨g, 0, none⟩) l.length c ∧ own = some g ∧ Row w E 3 g l.length c (fl l) ∧ w.cell? ⟨g, k * 3, none⟩ = some (.int .i64 x.who) ∧ w.cell? ⟨g, k * 3 + 1, none⟩ = some (.int .i64 x.place) ∧ w.cell? ⟨g, k * 3 + 2, none⟩ = some (.bool x.wok) := by
  obtain ⟨hp, hs, hm⟩ := h
  have hk : k < l.length := (List.getElem?_eq_some_iff.1 hx).1
  obtain ⟨g, rfl⟩ := hm (by omega)
  obtain ⟨c, rfl, hr⟩ := hs.own_row
  exact ⟨g, c, rfl, rfl, hr, hr.cell (by have := fl_get l k 0 x hx (by omega); simpa [wc] using this), hr.cell (by have := fl_get l k 1 x hx (by omega); simpa [wc] using this), hr.cell (by have := fl_get l k 2 x hx (by omega); simpa [wc] using this)⟩
end

set_option maxHeartbeats 400000 in
theorem new_any (w : World) : Calls Try.prog 8 #[] w fun e w' => ∃ r, e = .returned (.pointer (some ⟨r, 0, none⟩)) ∧ w.heap.size ≤ r ∧ HubAt 45 48 w' r (.slice none 0 0) [] none ∧ Fr [] w w' := by
  go_enter Try.func8, Try.ntmps8
  go_wp2
  go_ret
  exact ⟨_, rfl, Nat.le_refl _, ⟨Holds.new _ _ _, Sl.nil _ _ _, by simp⟩, (Fr.refl _ _).alloc _⟩

set_option maxHeartbeats 400000 in
theorem is_any (w : World) (B : Nat) (who x y : Int) (b : Bool) (hc : w.cell? ⟨B, 0, none⟩ = some (.int .i64 who)) :
    Calls Try.prog 27 #[.agg #[.int .i64 x, .int .i64 y, .bool b], .pointer (some ⟨B, 0, none⟩)] w fun e w' => e = .returned (.bool (x == who)) ∧ Fr [] w w' := by
  have hB := block_lt_of_cell hc
  go_enter Try.func27, Try.ntmps27
  go_wp2
  go_ret
  exact ⟨rfl, (Fr.refl _ _).alloc _⟩

set_option maxHeartbeats 1000000 in
theorem index_any (w : World) (r : Nat) (v : Value) (l : List Wt) (own : Option Nat) (B : Nat) (who : Int) (h : HubAt 45 48 w r v l own) (hc : w.cell? ⟨B, 0, none⟩ = some (.int .i64 who)) (hl : l.length ≤ 1000) :
    Calls Try.prog 26 #[v, .func (.func 27) #[] #[.pointer (some ⟨B, 0, none⟩)]] w fun e w' => e = .returned (.int .i64 (place who l)) ∧ Fr [] w w' := by
  have hB := block_lt_of_cell hc
  obtain ⟨a, c, rfl⟩ := h.2.1.form
  go_enter Try.func26, Try.ntmps26
  go_wp2
  go_loopw [5, 8] (fun _ i wr => ∃ k : Nat, k ≤ l.length ∧ i = .int .i64 k ∧ Not who l k ∧ Fr [] w wr) (fun _ i _ => l.length - (intOf i).toNat)
  case atStart => exact ⟨0, Nat.zero_le _, rfl, not_zero _ _, Fr.refl _ _⟩
  case round =>
    obtain ⟨k, hk, rfl, hno, fr⟩ := hrel
    have h1 := h.fr0 fr
    have c1 := fr.cell hc hB (by simp)
    clear hc h
    by_cases hlt : k < l.length
    · have hx : l[k]? = some l[k] := List.getElem?_eq_getElem hlt
      obtain ⟨x, hx'⟩ : ∃ x, l[k] = x := ⟨_, rfl⟩
      rw [hx'] at hx
      clear hx'
      have hk1 : (k : Int) < (l.length : Int) := by omega
      obtain ⟨g, c2, hv, rfl, hr, q0, q1, q2⟩ := h1.elem hx
      have HX := Lib.hid hx
      clear hx
      cases hv
      by_cases he : x.who = who
      · have hp : place who l = (k : Int) := by rw [place, at_some hno HX.out he]
        have HP := Lib.hid hp
        have hb : (x.who == who) = true := by simpa using he
        clear he hp hno
        go_wp2_with fail
        refine (is_any wr B who x.who x.place x.wok c1).mono ?_
        rintro e w' ⟨rfl, f2⟩
        rw [hb]
        go_wp2_with fail
        go_ret
        exact ⟨ret_int HP.out.symm, fr.trans f2⟩
      · have hn2 := not_succ hno HX.out he
        have hb : (x.who == who) = false := by simpa using he
        clear he hno
        go_wp2_with fail
        refine (is_any wr B who x.who x.place x.wok c1).mono ?_
        rintro e w' ⟨rfl, f2⟩
        rw [hb]
        go_wp2_with fail
        go_roundw
        case rel => exact ⟨k + 1, by omega, by go_num, hn2, fr.trans f2⟩
        case measure => simp [intOf]; omega
    · obtain rfl : k = l.length := by omega
      have hp : place who l = -1 := by rw [place, at_none hno]
      have HP := Lib.hid hp
      clear hp hno
      go_wp2
      go_ret
      exact ⟨ret_int HP.out.symm, fr⟩

set_option maxHeartbeats 1000000 in
theorem find_any (w : World) (r : Nat) (v : Value) (l : List Wt) (own : Option Nat) (who : Int) (h : HubAt 45 48 w r v l own) (hl : l.length ≤ 1000) :
    Calls Try.prog 23 #[.pointer (some ⟨r, 0, none⟩), .int .i64 who] w fun e w' => e = .returned (.int .i64 (place who l)) ∧ Fr [] w w' := by
  have f1 : Fr [] w (w.alloc (.cells #[.int .i64 who] 3)) := (Fr.refl _ _).alloc _
  have h1 := h.fr0 f1
  have b1 := Holds.new w 3 #[.int .i64 who]
  have c1 : (w.alloc (.cells #[.int .i64 who] 3)).cell? ⟨w.heap.size, 0, none⟩ = some (.int .i64 who) := b1.cell 0
  have r1 := h1.1.cell 0
  go_enter Try.func23, Try.ntmps23
  go_wp2_with fail
  refine (index_any _ r v l own _ who h1 c1 hl).mono ?_
  rintro e w' ⟨rfl, f2⟩
  go_wp2_with fail
  go_ret
  exact ⟨rfl, f1.trans f2⟩

theorem cells_of {w : World} {p t : Nat} {cs : Array Value} (h : Holds w p t cs) : Cells w (some ⟨p, 0, none⟩) cs.toList := fun j x hx => ⟨_, rfl, by rw [at_add, Nat.zero_add, h.cell j]; simpa using hx⟩
/-- The end of an Add: the new slice is in the hub. -/
theorem add_end {T E : TypeId} {w w1 : World} {r n : Nat} {v0 v1 : Value} {l : List Wt} {x : Wt} {own : Option Nat} {S : List Nat} (hET : E ≠ T) (hn : n = l.length + 1) (hp : Holds w1 r T #[v0]) (hs : Sl w1 E 3 v1 n (fl l ++ wc x) own) (hm : ∃ g, own = some g) (hf : Fr S w w1) (hS : r ∈ S) :
    HubAt T E (w1.setCell ⟨r, 0, none⟩ v1) r v1 (l ++ [x]) own ∧ Fr S w (w1.setCell ⟨r, 0, none⟩ v1) := by
  subst hn
  have e : fl l ++ wc x = fl (l ++ [x]) := by simp [fl]
  rw [e] at hs
  refine ⟨⟨hp.set 0 _, ?_, fun _ => hm⟩, hf.setCell hS _⟩
  rw [List.length_append]
  exact hs.far (fun _ => hm) hp hET 0 v1

theorem place_yes {who : Int} {l : List Wt} (h : has who l = true) : 0 ≤ place who l := by
  unfold has at h
  unfold place
  cases e : at? who l with
  | none => simp [e] at h
  | some k => exact Int.natCast_nonneg k
theorem place_no {who : Int} {l : List Wt} (h : has who l = false) : place who l = -1 := by
  unfold has at h
  unfold place
  cases e : at? who l with
  | none => rfl
  | some k => simp [e] at h

set_option maxRecDepth 100000 in
set_option maxHeartbeats 1000000 in
theorem add_any (w : World) (r : Nat) (v : Value) (l : List Wt) (own : Option Nat) (who pl : Int) (h : HubAt 45 48 w r v l own) (hl : l.length ≤ 900) :
    Calls Try.prog 9 #[.pointer (some ⟨r, 0, none⟩), .int .i64 who, .int .i64 pl] w fun e w' => ∃ v' own', e = .returned (.bool (!has who l)) ∧ HubAt 45 48 w' r v' (addL l who pl) own' ∧ Fr (r :: own.toList) w w' ∧ (own' = own ∨ ∃ g, own' = some g ∧ w.heap.size ≤ g) := by
  obtain ⟨i2, hi, hz0, hz1, hz2⟩ := info_parts info48
  cases hh : has who l
  · have hpl := place_no hh
    have hal : addL l who pl = l ++ [⟨who, pl, false⟩] := by simp [addL, hh]
    have HH := Lib.hid hpl
    have HA := Lib.hid hal
    clear hh hpl hal
    have hrn := h.own_ne (by decide)
    go_enter Try.func9, Try.ntmps9
    go_wp2_with fail
    refine (find_any w r v l own who h (by omega)).mono ?_
    rintro e w1 ⟨rfl, f1⟩
    rw [HH.out]
    have h1 := h.fr0 f1
    obtain ⟨hp, hs, hm⟩ := h1
    obtain ⟨a, c, rfl⟩ := hs.form
    have c0 := hp.cell 0
    clear h
    go_wp2_with (at_builtin; refine wpList_append_sl rfl (.tmp 15) (.tmp 19) 43 rfl i2 _ 24 Try.underlying43 hi hz0 hz1 hz2 rfl (by decide) _ own rfl (hs.fr0 ((Fr.refl [] w1).alloc _)) _ 1 1 (wc ⟨who, pl, false⟩) rfl rfl (cells_of (Holds.new w1 48 #[.int .i64 who, .int .i64 pl, .bool false])) (by simp [wc, Value.oneCell']) (by unfold maxLen; omega) (by omega) ?_; intro v' w2 own' hs1 hf1 ho1 hm1; obtain ⟨g', rfl⟩ := hm1 (by omega); obtain ⟨c', rfl, hr1⟩ := hs1.own_row; have fr1 : Fr own.toList w1 w2 := ((Fr.refl _ w1).alloc _).trans hf1; have hp1 := hp.fr fr1 hrn; have d1 := hp1.cell 0; have f1' := hp1.frozen 0; clear hf1 c0 hm1)
    go_ret
    obtain ⟨k1, k2⟩ := add_end (x := ⟨who, pl, false⟩) (by decide) rfl hp1 (Sl.row hr1) ⟨_, rfl⟩ ((f1.nil.trans fr1).mono (T := r :: own.toList) (fun k hk => List.mem_cons_of_mem _ hk)) (List.mem_cons_self ..)
    refine ⟨_, some g', rfl, HA.out ▸ k1, k2, ?_⟩
    · have := f1.size
      rcases ho1 with ho1 | ⟨g2, ho1, hg2⟩
      · exact .inl ho1
      · exact .inr ⟨g2, ho1, by simp at hg2; omega⟩
  · have hpl := place_yes hh
    have hal : addL l who pl = l := by simp [addL, hh]
    clear hh
    rw [hal]
    clear hal
    go_enter Try.func9, Try.ntmps9
    go_wp2_with fail
    refine (find_any w r v l own who h (by omega)).mono ?_
    rintro e w1 ⟨rfl, f1⟩
    go_wp2_with fail
    go_ret
    exact ⟨v, own, rfl, h.fr0 f1, f1.nil, .inl rfl⟩

theorem zero48 (w : World) : (zeroValue 48).run Try.prog w = .ok (.agg #[.int .i64 0, .int .i64 0, .bool false]) w := by kernel_rfl

set_option maxRecDepth 100000 in
set_option maxHeartbeats 1000000 in
theorem delete_any (w : World) (g cap k : Nat) (l : List Wt) (hr : Row w 48 3 g l.length cap (fl l)) (hk : k < l.length) (hl : l.length ≤ 1000) :
    Calls Try.prog 25 #[.slice (some ⟨g, 0, none⟩) l.length cap, .int .i64 k, .int .i64 ((k : Int) + 1)] w fun e w' => e = .returned (.slice (some ⟨g, 0, none⟩) (l.length - 1) cap) ∧ Row w' 48 3 g (l.length - 1) cap (fl (l.take k ++ l.drop (k + 1))) ∧ Fr [g] w w' := by
  obtain ⟨i2, hi, hz0, hz1, hz2⟩ := info_parts info48
  obtain ⟨n, hn⟩ : ∃ n, n = l.length := ⟨_, rfl⟩
  have hle := hr.le
  have hcm := hr.cap_le
  unfold maxLen at hcm
  rw [← hn] at hle hr hk hl ⊢
  have hnews : Cells w (some ⟨g, (k + 1) * 3, none⟩) (fl (l.drop (k + 1))) := by
    have := hr.cells.drop ((k + 1) * 3)
    rw [fl_drop]
    simpa using this
  have hlen : (fl (l.drop (k + 1))).length = (n - (k + 1)) * 3 := by rw [fl_length, List.length_drop, ← hn]
  have hone := fl_one (l.drop (k + 1))
  obtain ⟨A, hA, hsrc⟩ : ∃ A : Addr, (if cap = k + 1 then some (⟨g, 0, none⟩ : Addr) else some ⟨g, (k + 1) * 3, none⟩) = some A ∧ Cells w (some A) (fl (l.drop (k + 1))) := by
    by_cases h : cap = k + 1
    · refine ⟨⟨g, 0, none⟩, by simp [h], ?_⟩
      have e0 : fl (l.drop (k + 1)) = [] := List.eq_nil_of_length_eq_zero (by omega)
      rw [e0]
      exact Cells.nil _
    · exact ⟨_, by simp [h], hnews⟩
  have hkc : k ≤ cap := by omega
  have hkc1 : k + 1 ≤ cap := by omega
  have hi0 : (0 : Int) ≤ (k : Int) + 1 := by omega
  have hi1 : (k : Int) + 1 ≤ (n : Int) := by omega
  have H1 := Lib.hid hn
  have H2 := Lib.hid hlen
  have H3 := Lib.hid hone
  clear hn hlen hone hnews
  go_enter Try.func25, Try.ntmps25
  go_wp2_with fail
  go_region_law ((refine step_append_in rfl (.tmp 22) (.tmp 25) 43 rfl i2 Try.underlying43 hi hz1 hr.drew k (by omega) (by simp [Act.eval, Act.put]) A (n - (k + 1)) (cap - (k + 1)) (fl (l.drop (k + 1))) (by simp [Act.eval, Act.put]) H2.out (hsrc.fr0 ((Fr.refl [] w).drew)) H3.out (by omega) ?_; intro w1 hr1 f1))
  have e1 : k + (n - (k + 1)) = n - 1 := by omega
  have e2 : (fl l).take (k * 3) ++ fl (l.drop (k + 1)) = fl (l.take k ++ l.drop (k + 1)) := by rw [fl_append, fl_take]
  rw [e1, e2] at hr1
  rw [e1]
  clear e1 e2 hA hsrc hkc hkc1 hi0 hi1
  obtain ⟨m, hm⟩ : ∃ m, m = n - 1 := ⟨_, rfl⟩
  have e3 : n = m + 1 := by omega
  rw [← hm] at hr1 ⊢
  have HM := Lib.hid hm
  subst e3
  clear hm
  have hA2 : (if cap = m then some (⟨g, 0, none⟩ : Addr) else some ⟨g, m * 3, none⟩) = some ⟨g, m * 3, none⟩ := by rw [if_neg (by omega)]
  have hj0 : (m : Int) ≤ (m : Int) + 1 := by omega
  have hj1 : m + 1 ≤ cap := hle
  have hj2 : m ≤ m + 1 := by omega
  obtain ⟨w2, hrun, hr2, f2⟩ := run_clear_row (sz := 3) 43 0 (.agg #[.int .i64 0, .int .i64 0, .bool false]) Try.underlying43 zero48 (by kernel_rfl) (by kernel_rfl) hr1 (m * 3) 1 (cap - m) (by omega) (by omega)
  go_wp2
  go_ret
  exact ⟨rfl, hr2, ((Fr.refl [g] w).drew).trans (f1.trans f2)⟩

/-- What a Remove leaves: the new slice is in the hub. -/
theorem rem_end {T E : TypeId} {w w1 : World} {r n : Nat} {v0 v1 : Value} {l : List Wt} {own : Option Nat} {S : List Nat} (hET : E ≠ T) (hn : n = l.length) (hp : Holds w1 r T #[v0]) (hs : Sl w1 E 3 v1 n (fl l) own) (hm : 0 < n → ∃ g, own = some g) (hf : Fr S w w1) (hS : r ∈ S) :
    HubAt T E (w1.setCell ⟨r, 0, none⟩ v1) r v1 l own ∧ Fr S w (w1.setCell ⟨r, 0, none⟩ v1) := by
  subst hn
  exact ⟨⟨hp.set 0 _, hs.far hm hp hET 0 v1, hm⟩, hf.setCell hS _⟩
theorem at_lt {who : Int} {l : List Wt} {k : Nat} (h : at? who l = some k) : k < l.length := by
  unfold at? at h
  exact (List.findIdx?_eq_some_iff_getElem.1 h).1

set_option maxRecDepth 100000 in
set_option maxHeartbeats 1000000 in
theorem remove_any (w : World) (r : Nat) (v : Value) (l : List Wt) (own : Option Nat) (who : Int) (h : HubAt 45 48 w r v l own) (hl : l.length ≤ 1000) :
    Calls Try.prog 14 #[.pointer (some ⟨r, 0, none⟩), .int .i64 who] w fun e w' => ∃ v' own', e = .returned (.bool (has who l)) ∧ HubAt 45 48 w' r v' (remL l who) own' ∧ Fr (r :: own.toList) w w' ∧ (own' = own ∨ ∃ g, own' = some g ∧ w.heap.size ≤ g) := by
  cases hh : at? who l with
  | none =>
    have hpl : place who l = -1 := by simp [place, hh]
    have hrl : remL l who = l := by simp [remL, hh]
    have hhs : has who l = false := by simp [has, hh]
    rw [hrl, hhs]
    have HH := Lib.hid hpl
    clear hh hpl hrl hhs
    go_enter Try.func14, Try.ntmps14
    go_wp2_with fail
    refine (find_any w r v l own who h (by omega)).mono ?_
    rintro e w1 ⟨rfl, f1⟩
    rw [HH.out]
    go_wp2_with fail
    go_ret
    exact ⟨v, own, rfl, h.fr0 f1, f1.nil, .inl rfl⟩
  | some k =>
    have hpl : place who l = k := by simp [place, hh]
    have hrl : remL l who = l.take k ++ l.drop (k + 1) := by simp [remL, hh]
    have hhs : has who l = true := by simp [has, hh]
    have hk := at_lt hh
    rw [hrl, hhs]
    have HH := Lib.hid hpl
    clear hh hpl hrl hhs
    have hrn := h.own_ne (by decide)
    go_enter Try.func14, Try.ntmps14
    go_wp2_with fail
    refine (find_any w r v l own who h (by omega)).mono ?_
    rintro e w1 ⟨rfl, f1⟩
    rw [HH.out]
    obtain ⟨hp, hs, hm⟩ := h.fr0 f1
    obtain ⟨g, rfl⟩ := hm (by omega)
    obtain ⟨c, rfl, hr⟩ := hs.own_row
    have c0 := hp.cell 0
    clear h
    go_wp2_with fail
    refine (delete_any w1 g c k l hr hk hl).mono ?_
    rintro e w2 ⟨rfl, hr2, f2⟩
    have hgr : g ≠ r := hr.ne hp (by decide)
    have hp2 := hp.fr f2 (by simpa using Ne.symm hgr)
    have d0 := hp2.cell 0
    have e0 := hp2.frozen 0
    clear c0
    go_wp2_with fail
    go_ret
    obtain ⟨k1, k2⟩ := rem_end (S := [r, g]) (by decide) (by simp; omega) hp2 (Sl.row hr2) (fun _ => ⟨_, rfl⟩) ((f1.nil).trans (f2.mono (by simp))) (List.mem_cons_self ..)
    exact ⟨_, some g, rfl, k1, k2, .inl rfl⟩

set_option maxHeartbeats 1000000 in
theorem len_any (w : World) (r : Nat) (v : Value) (l : List Wt) (own : Option Nat) (h : HubAt 45 48 w r v l own) :
    Calls Try.prog 20 #[.pointer (some ⟨r, 0, none⟩)] w fun e w' => e = .returned (.int .i64 l.length) ∧ w = w' := by
  obtain ⟨a, c, rfl⟩ := h.2.1.form
  have c0 := h.1.cell 0
  go_enter Try.func20, Try.ntmps20
  go_wp2
  go_ret
  exact ⟨rfl, rfl⟩

theorem woken_at {l : List Wt} {who : Int} {k : Nat} {x : Wt} (h : at? who l = some k) (hx : l[k]? = some x) : isWoken l who = x.wok := by simp [isWoken, h, hx]
set_option maxHeartbeats 1000000 in
theorem woken_any (w : World) (r : Nat) (v : Value) (l : List Wt) (own : Option Nat) (who : Int) (h : HubAt 45 48 w r v l own) (hl : l.length ≤ 1000) :
    Calls Try.prog 16 #[.pointer (some ⟨r, 0, none⟩), .int .i64 who] w fun e w' => e = .returned (.bool (isWoken l who)) ∧ Fr [] w w' := by
  cases hh : at? who l with
  | none =>
    have hpl : place who l = -1 := by simp [place, hh]
    have hhs : isWoken l who = false := by simp [isWoken, hh]
    rw [hhs]
    have HH := Lib.hid hpl
    clear hh hpl hhs
    go_enter Try.func16, Try.ntmps16
    go_wp2_with fail
    refine (find_any w r v l own who h (by omega)).mono ?_
    rintro e w1 ⟨rfl, f1⟩
    rw [HH.out]
    go_wp2_with fail
    go_ret
    exact ⟨rfl, f1⟩
  | some k =>
    have hpl : place who l = k := by simp [place, hh]
    have hk := at_lt hh
    have hx : l[k]? = some l[k] := List.getElem?_eq_getElem hk
    obtain ⟨x, hx'⟩ : ∃ x, l[k] = x := ⟨_, rfl⟩
    rw [hx'] at hx
    rw [woken_at hh hx]
    have HH := Lib.hid hpl
    clear hh hpl hx'
    have hk1 : (k : Int) < (l.length : Int) := by omega
    go_enter Try.func16, Try.ntmps16
    go_wp2_with fail
    refine (find_any w r v l own who h (by omega)).mono ?_
    rintro e w1 ⟨rfl, f1⟩
    rw [HH.out]
    have h1 := h.fr0 f1
    obtain ⟨g, c2, rfl, rfl, hr, q0, q1, q2⟩ := h1.elem hx
    have c0 := h1.1.cell 0
    clear hx h
    go_wp2_with fail
    go_ret
    exact ⟨rfl, f1⟩
end Go.Proofs.Ytjkhkepckocjkaa
