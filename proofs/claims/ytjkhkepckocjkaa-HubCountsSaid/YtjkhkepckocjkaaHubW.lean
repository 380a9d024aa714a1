/- The contracts of the hub's Wake and At, and of henkeep.Ints. -/
import Derived.Test.YtjkhkepckocjkaaHub
namespace Go.Proofs.Ytjkhkepckocjkaa
open Go.RowKit

theorem new_at {w : World} {n : Nat} {t : TypeId} {cs : Array Value} (h : w.heap.size = n) : Holds (w.alloc (.cells cs t)) n t cs := by subst h; exact Holds.new _ _ _
theorem atL_succ {l : List Wt} {k : Nat} {x : Wt} (hx : l[k]? = some x) (pl : Int) : atL (l.take (k + 1)) pl = atL (l.take k) pl ++ if x.place == pl then [x.who] else [] := by
  have hk := List.getElem?_eq_some_iff.1 hx
  rw [atL, List.take_add_one, hx]
  simp only [atL, Option.toList_some, List.filter_append, List.map_append]
  cases h : x.place == pl <;> simp [h]
theorem atL_len (l : List Wt) (pl : Int) : (atL l pl).length ≤ l.length := by
  rw [atL, List.length_map]
  exact List.length_filter_le _ _

set_option maxRecDepth 100000 in
set_option maxHeartbeats 2000000 in
theorem at_any (w : World) (r : Nat) (v : Value) (l : List Wt) (own : Option Nat) (pl : Int) (h : HubAt 45 48 w r v l own) (hl : l.length ≤ 1000) :
    Calls Try.prog 18 #[.pointer (some ⟨r, 0, none⟩), .int .i64 pl] w fun e w' => ∃ v' own', e = .returned v' ∧ Sl w' 3 1 v' (atL l pl).length ((atL l pl).map ci) own' ∧ Fr [] w w' ∧ (∀ g, own' = some g → w.heap.size ≤ g) ∧ (0 < (atL l pl).length → ∃ g, own' = some g) := by
  obtain ⟨i3, hi, hz0, hz1, hz2⟩ := info_parts info3
  obtain ⟨a, c, rfl⟩ := h.2.1.form
  have c0 := h.1.cell 0
  go_enter Try.func18, Try.ntmps18
  go_wp2
  clear c0
  go_loopw [5, 7, 13] (fun v' _ i wr => ∃ (k : Nat) (own' : Option Nat), k ≤ l.length ∧ i = .int .i64 k ∧ Sl wr 3 1 v' (atL (l.take k) pl).length ((atL (l.take k) pl).map ci) own' ∧ Fr [] w wr ∧ (∀ g, own' = some g → w.heap.size ≤ g) ∧ (0 < (atL (l.take k) pl).length → ∃ g, own' = some g)) (fun _ _ i _ => l.length - (intOf i).toNat)
  case atStart => exact ⟨0, none, Nat.zero_le _, rfl, Sl.nil _ _ _, Fr.refl _ _, (by simp), (by simp [atL])⟩
  case round =>
    obtain ⟨k, own', hk, rfl, hs, fr, ho, hm⟩ := hrel
    have h1 := h.fr0 fr
    clear h
    by_cases hlt : k < l.length
    · have hx : l[k]? = some l[k] := List.getElem?_eq_getElem hlt
      obtain ⟨x, hx'⟩ : ∃ x, l[k] = x := ⟨_, rfl⟩
      rw [hx'] at hx
      clear hx'
      have hk1 : (k : Int) < (l.length : Int) := by omega
      obtain ⟨g, c2, hv, rfl, hr, q0, q1, q2⟩ := h1.elem hx
      have hsucc := atL_succ hx pl
      have hlen := atL_len (l.take k) pl
      have hlk : (l.take k).length ≤ k := List.length_take_le _ _
      generalize hA : atL (l.take k) pl = A at hs hm hsucc hlen
      generalize hB : atL (l.take (k + 1)) pl = B at hsucc
      have HA := Lib.hid hA
      have HB := Lib.hid hB
      clear hx hA hB
      cases hv
      obtain ⟨a', c', rfl⟩ := hs.form
      cases hpe : x.place == pl
      · rw [hpe] at hsucc
        simp at hsucc
        have HS := Lib.hid hsucc
        clear hsucc
        go_wp2
        go_roundw
        case rel => exact ⟨k + 1, own', by omega, by go_num, by rw [HB.out, HS.out]; exact hs.fr0 ((Fr.refl [] wr).alloc _), fr.alloc _, ho, by rw [HB.out, HS.out]; exact hm⟩
        case measure => simp [intOf]; omega
      · rw [hpe] at hsucc
        simp at hsucc
        have HS := Lib.hid hsucc
        clear hsucc
        have hn0 : A.length + 1 ≤ maxLen := by unfold maxLen; omega
        go_wp2_with (at_builtin; (refine wpList_append_sl rfl (.tmp 21) (.tmp 24) 34 rfl i3 _ 8 Try.underlying34 hi hz0 hz1 hz2 rfl (by decide) _ own' rfl (hs.fr0 (((Fr.refl [] wr).alloc _).alloc _)) _ 1 1 [ci x.who] rfl rfl (Cells.one (new_at (t := 3) (cs := #[ci x.who]) (by simp))) (by simp [ci, Value.oneCell']) hn0 (by omega) ?_; intro v' w2 own2 hs1 hf1 ho1 hm1); have fr1 : Fr own'.toList wr w2 := (((Fr.refl _ wr).alloc _).alloc _).trans hf1; clear hf1)
        go_roundw
        case rel =>
          have ho2 : ∀ g, own2 = some g → w.heap.size ≤ g := by
            intro g2 hg2
            rcases ho1 with ho1 | ⟨g3, ho1, hg3⟩
            · exact ho g2 (ho1 ▸ hg2)
            · rw [ho1] at hg2
              cases hg2
              have := fr.size
              simp at hg3
              omega
          refine ⟨k + 1, own2, by omega, by go_num, ?_, fr.step fr1 (fun q hq => .inr (ho q (by simpa using hq))), ho2, fun _ => hm1 (by omega)⟩
          rw [HB.out, HS.out]
          simpa [ci] using hs1
        case measure => simp [intOf]; omega
    · obtain rfl : k = l.length := by omega
      rw [List.take_length] at hs hm
      go_wp2
      go_ret
      exact ⟨_, own', rfl, hs, fr, ho, hm⟩

/-- Those who wait, when the first k have been asked. -/
def part (l : List Wt) (pl : Int) (k : Nat) : List Wt := wakeL (l.take k) pl ++ l.drop k
theorem part_length (l : List Wt) (pl : Int) (k : Nat) : (part l pl k).length = l.length := by
  simp [part, wakeL]; omega
theorem part_zero (l : List Wt) (pl : Int) : part l pl 0 = l := by simp [part, wakeL]
theorem part_all (l : List Wt) (pl : Int) : part l pl l.length = wakeL l pl := by simp [part]
theorem part_get {l : List Wt} {pl : Int} {k : Nat} {x : Wt} (hx : l[k]? = some x) : (part l pl k)[k]? = some x := by
  have hk := (List.getElem?_eq_some_iff.1 hx).1
  rw [part, List.getElem?_append_right (by simp [wakeL]; omega)]
  simp [wakeL, Nat.min_eq_left (Nat.le_of_lt hk), hx]
theorem part_succ {l : List Wt} {pl : Int} {k : Nat} {x : Wt} (hx : l[k]? = some x) : part l pl (k + 1) = (part l pl k).set k (if x.place == pl then ⟨x.who, x.place, true⟩ else x) := by
  have hk := (List.getElem?_eq_some_iff.1 hx).1
  have hd : l.drop k = x :: l.drop (k + 1) := by
    rw [List.drop_eq_getElem_cons hk]
    congr 1
    exact (List.getElem?_eq_some_iff.1 hx).2
  rw [part, part, hd, List.take_add_one, hx, List.set_append_right _ _ (by simp [wakeL]; omega)]
  simp [wakeL, Nat.min_eq_left (Nat.le_of_lt hk)]
theorem part_same {l : List Wt} {pl : Int} {k : Nat} {x : Wt} (hx : l[k]? = some x) (h : (if x.place == pl then (⟨x.who, x.place, true⟩ : Wt) else x) = x) : part l pl (k + 1) = part l pl k := by
  rw [part_succ hx, h]
  have hg := List.getElem?_eq_some_iff.1 (part_get (pl := pl) hx)
  have := List.set_getElem_self hg.1
  rw [hg.2] at this
  exact this
theorem woken_succ {l : List Wt} {k : Nat} {x : Wt} (hx : l[k]? = some x) (pl : Int) : wokenL (l.take (k + 1)) pl = wokenL (l.take k) pl ++ if x.place == pl && !x.wok then [x.who] else [] := by
  rw [wokenL, List.take_add_one, hx]
  simp only [wokenL, Option.toList_some, List.filter_append, List.map_append]
  cases h : (x.place == pl && !x.wok) <;> simp [h]
theorem woken_len (l : List Wt) (pl : Int) : (wokenL l pl).length ≤ l.length := by
  rw [wokenL, List.length_map]
  exact List.length_filter_le _ _
/-- A mark in a hub's row. -/
theorem mark {T E : TypeId} {w : World} {r g k : Nat} {v : Value} {l : List Wt} {x : Wt} (h : HubAt T E w r v l (some g)) (hET : E ≠ T) (hx : l[k]? = some x) :
    HubAt T E (w.setCell ⟨g, k * 3 + 2, none⟩ (.bool true)) r v (l.set k ⟨x.who, x.place, true⟩) (some g) := by
  obtain ⟨hp, hs, hm⟩ := h
  obtain ⟨c, rfl, hr⟩ := hs.own_row
  have hgr := hr.ne hp hET
  refine ⟨hp.far (p := ⟨g, k * 3 + 2, none⟩) hgr.symm _, ?_, fun _ => ⟨_, rfl⟩⟩
  rw [List.length_set, fl_set l k x hx]
  exact Sl.row (hr.set _ _)

set_option maxRecDepth 100000 in
set_option maxHeartbeats 2000000 in
theorem wake_any (w : World) (r : Nat) (v : Value) (l : List Wt) (own : Option Nat) (pl : Int) (h : HubAt 45 48 w r v l own) (hl : l.length ≤ 1000) :
    Calls Try.prog 12 #[.pointer (some ⟨r, 0, none⟩), .int .i64 pl] w fun e w' => ∃ v' own', e = .returned v' ∧ Sl w' 3 1 v' (wokenL l pl).length ((wokenL l pl).map ci) own' ∧ HubAt 45 48 w' r v (wakeL l pl) own ∧ Fr own.toList w w' ∧ (∀ g, own' = some g → w.heap.size ≤ g) ∧ (0 < (wokenL l pl).length → ∃ g, own' = some g) := by
  obtain ⟨i3, hi, hz0, hz1, hz2⟩ := info_parts info3
  have hrn := h.own_ne (by decide)
  have hrl := h.1.lt
  obtain ⟨a, c, rfl⟩ := h.2.1.form
  have c0 := h.1.cell 0
  have hown : ∀ g, own = some g → g < w.heap.size := by
    intro g hg
    subst hg
    obtain ⟨c', _, hr⟩ := h.2.1.own_row
    exact hr.lt
  have HO := Lib.hid hown
  clear hown
  have h0 : HubAt 45 48 w r (.slice a l.length c) (part l pl 0) own := by rw [part_zero]; exact h
  go_enter Try.func12, Try.ntmps12
  go_wp2
  clear c0 h
  go_loopw [5, 6, 7, 13] (fun v' _ _ i wr => ∃ (k : Nat) (own' : Option Nat), k ≤ l.length ∧ i = .int .i64 k ∧ Sl wr 3 1 v' (wokenL (l.take k) pl).length ((wokenL (l.take k) pl).map ci) own' ∧ HubAt 45 48 wr r (.slice a l.length c) (part l pl k) own ∧ Fr own.toList w wr ∧ (∀ g, own' = some g → w.heap.size ≤ g) ∧ (0 < (wokenL (l.take k) pl).length → ∃ g, own' = some g)) (fun _ _ _ i _ => l.length - (intOf i).toNat)
  case atStart => exact ⟨0, none, Nat.zero_le _, rfl, Sl.nil _ _ _, h0, Fr.refl _ _, (by simp), (by simp [wokenL])⟩
  case round =>
    obtain ⟨k, own', hk, rfl, hs, h1, fr, ho, hm⟩ := hrel
    clear h0
    by_cases hlt : k < l.length
    · have hx : l[k]? = some l[k] := List.getElem?_eq_getElem hlt
      obtain ⟨x, hx'⟩ : ∃ x, l[k] = x := ⟨_, rfl⟩
      rw [hx'] at hx
      clear hx'
      have hk1 : (k : Int) < (l.length : Int) := by omega
      obtain ⟨g, c2, hv, rfl, hr, q0, q1, q2⟩ := h1.elem (part_get hx)
      have c0 := h1.1.cell 0
      have hsucc := woken_succ hx pl
      have hps := part_succ (pl := pl) hx
      have hpg := part_get (pl := pl) hx
      have hpm := part_same (pl := pl) hx
      have hlen := woken_len (l.take k) pl
      have hlk : (l.take k).length ≤ k := List.length_take_le _ _
      rw [part_length] at hv hr
      generalize hA : wokenL (l.take k) pl = A at hs hm hsucc hlen
      generalize hB : wokenL (l.take (k + 1)) pl = B at hsucc
      generalize hM : part l pl k = M at h1 hr hps hpg hpm
      generalize hN : part l pl (k + 1) = N at hps hpm
      have HA := Lib.hid hA
      have HB := Lib.hid hB
      have HM := Lib.hid hM
      have HN := Lib.hid hN
      clear hx hA hB hM hN
      cases hv
      obtain ⟨a', c', rfl⟩ := hs.form
      cases hpe : x.place == pl
      · rw [hpe] at hsucc hpm
        simp at hsucc hpm
        have HS := Lib.hid hsucc
        have HP := Lib.hid hpm
        clear hsucc hpm hps hpg
        go_wp2
        go_roundw
        case rel => exact ⟨k + 1, own', by omega, by go_num, by rw [HB.out, HS.out]; exact hs, by rw [HN.out, HP.out]; exact h1, fr, ho, by rw [HB.out, HS.out]; exact hm⟩
        case measure => simp [intOf]; omega
      · obtain ⟨xw, xp, xb⟩ := x
        cases xb
        · rw [hpe] at hsucc hps
          simp at hsucc hps
          have HS := Lib.hid hsucc
          have HP := Lib.hid hps
          have hmk := mark h1 (by decide) hpg
          have f2 := hr.frozen (k * 3 + 2)
          have fr2 : Fr [g] wr (wr.setCell ⟨g, k * 3 + 2, none⟩ (.bool true)) := (Fr.refl [g] wr).setCell (by simp) _
          have hgl : g < w.heap.size := HO.out g rfl
          have hs2 := hs.fr fr2 (fun q hq => by have := ho q (by simpa using hq); simp; omega) hm
          have hn0 : A.length + 1 ≤ maxLen := by unfold maxLen; omega
          clear hsucc hpm hps hpg
          go_wp2_with (at_builtin; (refine wpList_append_sl rfl (.tmp 38) (.tmp 43) 34 rfl i3 _ 8 Try.underlying34 hi hz0 hz1 hz2 rfl (by decide) _ own' rfl (hs2.fr0 ((Fr.refl [] _).alloc _)) _ 1 1 [ci xw] rfl rfl (Cells.one (new_at (t := 3) (cs := #[ci xw]) (by simp))) (by simp [ci, Value.oneCell']) hn0 (by omega) ?_; intro v' w2 own2 hs1 hf1 ho1 hm1); have fr1 : Fr own'.toList (wr.setCell ⟨g, k * 3 + 2, none⟩ (.bool true)) w2 := ((Fr.refl _ _).alloc _).trans hf1; clear hf1)
          go_roundw
          case rel =>
            have ho2 : ∀ g, own2 = some g → w.heap.size ≤ g := by
              intro g2 hg2
              rcases ho1 with ho1 | ⟨g3, ho1, hg3⟩
              · exact ho g2 (ho1 ▸ hg2)
              · rw [ho1] at hg2
                cases hg2
                have := fr.size
                simp at hg3
                omega
            refine ⟨k + 1, own2, by omega, by go_num, ?_, ?_, (fr.trans fr2).step fr1 (fun q hq => .inr (ho q (by simpa using hq))), ho2, fun _ => hm1 (by omega)⟩
            · rw [HB.out, HS.out]
              simpa [ci] using hs1
            · rw [HN.out, HP.out]
              exact hmk.fr fr1 (fun hq => by have := ho r (by simpa using hq); omega) (fun q hq hq' => by have := ho q (by simpa using hq'); simp at hq; omega)
          case measure => simp [intOf]; omega
        · rw [hpe] at hsucc hpm
          simp at hsucc hpm
          have HS := Lib.hid hsucc
          have HP := Lib.hid hpm
          clear hsucc hpm hps hpg
          go_wp2
          go_roundw
          case rel => exact ⟨k + 1, own', by omega, by go_num, by rw [HB.out, HS.out]; exact hs, by rw [HN.out, HP.out]; exact h1, fr, ho, by rw [HB.out, HS.out]; exact hm⟩
          case measure => simp [intOf]; omega
    · obtain rfl : k = l.length := by omega
      rw [List.take_length] at hs hm
      rw [part_all] at h1
      go_wp2
      go_ret
      exact ⟨_, own', rfl, hs, h1, fr, ho, hm⟩
end Go.Proofs.Ytjkhkepckocjkaa
