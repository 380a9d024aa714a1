/- Plain facts of who waits: nobody twice; what each call turns. No program in sight. -/
import Derived.Test.YtjkhkepckocjkaaHubN
namespace Go.Proofs.Ytjkhkepckocjkaa
open Go.RowKit

/-- Nobody waits twice. -/
def Nd (l : List Wt) : Prop := (l.map (·.who)).Nodup
theorem has_iff (l : List Wt) (who : Int) : has who l = true ↔ ∃ x ∈ l, x.who = who := by
  unfold has at?
  rw [List.findIdx?_isSome]
  simp
theorem has_no (l : List Wt) (who : Int) : has who l = false ↔ ∀ x ∈ l, x.who ≠ who := by
  have := has_iff l who
  cases h : has who l <;> simp [h] at this ⊢
  · exact this
  · exact this
theorem nd_one {l : List Wt} (h : Nd l) {x y : Wt} (hx : x ∈ l) (hy : y ∈ l) (e : x.who = y.who) : x = y := by
  induction l with
  | nil => simp at hx
  | cons z l ih =>
    simp only [Nd, List.map_cons, List.nodup_cons] at h
    have hz : ∀ q, q ∈ l → q.who ≠ z.who := fun q hq e => h.1 (by rw [← e]; exact List.mem_map_of_mem hq)
    rcases List.mem_cons.1 hx with rfl | hx <;> rcases List.mem_cons.1 hy with rfl | hy
    · rfl
    · exact absurd e.symm (hz y hy)
    · exact absurd e (hz x (by assumption))
    · exact ih h.2 hx hy
theorem at_elem {l : List Wt} {who : Int} {k : Nat} (h : at? who l = some k) : ∃ x, l[k]? = some x ∧ x.who = who := by
  unfold at? at h
  obtain ⟨hk, hp, _⟩ := List.findIdx?_eq_some_iff_getElem.1 h
  exact ⟨l[k], List.getElem?_eq_getElem hk, by simpa using hp⟩
theorem isWoken_of {l : List Wt} (h : Nd l) {x : Wt} (hx : x ∈ l) : isWoken l x.who = x.wok := by
  have hh := (has_iff l x.who).2 ⟨x, hx, rfl⟩
  unfold has at hh
  unfold isWoken
  cases e : at? x.who l with
  | none => simp [e] at hh
  | some k =>
    obtain ⟨y, hy, hw⟩ := at_elem e
    have := nd_one h (List.mem_of_getElem? hy) hx hw
    subst this
    simp [hy]
theorem isWoken_no {l : List Wt} {who : Int} (h : has who l = false) : isWoken l who = false := by
  unfold has at h
  unfold isWoken
  cases e : at? who l with
  | none => rfl
  | some k => simp [e] at h
/-- A Remove strikes one, and nobody else. -/
theorem rem_eq {l : List Wt} (h : Nd l) (who : Int) : remL l who = l.filter fun x => !(x.who == who) := by
  unfold remL
  cases e : at? who l with
  | none =>
    have : has who l = false := by simp [has, e]
    rw [has_no] at this
    exact (List.filter_eq_self.2 (fun x hx => by simpa using this x hx)).symm
  | some k =>
    obtain ⟨x, hx, hw⟩ := at_elem e
    have hk := List.getElem?_eq_some_iff.1 hx
    have hl : l = l.take k ++ x :: l.drop (k + 1) := by
      conv => lhs; rw [← List.take_append_drop k l]
      rw [List.drop_eq_getElem_cons hk.1, hk.2]
    have hn := h
    rw [hl] at hn
    simp only [Nd, List.map_append, List.map_cons, List.nodup_append, List.nodup_cons] at hn
    obtain ⟨_, ⟨h3, _⟩, h4⟩ := hn
    conv => rhs; rw [hl]
    rw [List.filter_append, List.filter_cons]
    have t1 : (l.take k).filter (fun x => !(x.who == who)) = l.take k := List.filter_eq_self.2 fun y hy => by
      have := h4 y.who (List.mem_map_of_mem hy) x.who (List.mem_cons_self ..)
      simp [← hw, this]
    have t2 : (l.drop (k + 1)).filter (fun x => !(x.who == who)) = l.drop (k + 1) := List.filter_eq_self.2 fun y hy => by
      have : y.who ≠ x.who := fun q => h3 (by rw [← q]; exact List.mem_map_of_mem hy)
      simp [← hw, this]
    rw [t1, t2]
    simp [hw]
theorem nd_rem {l : List Wt} (h : Nd l) (who : Int) : Nd (remL l who) := by
  rw [rem_eq h]
  exact List.Nodup.sublist ((List.filter_sublist).map _) h
theorem nd_wake {l : List Wt} (h : Nd l) (pl : Int) : Nd (wakeL l pl) := by
  have : (wakeL l pl).map (·.who) = l.map (·.who) := by
    simp only [wakeL, List.map_map]
    apply List.map_congr_left
    intro x _
    simp only [Function.comp]
    split <;> rfl
  unfold Nd
  rw [this]
  exact h
theorem nd_add {l : List Wt} (h : Nd l) (who pl : Int) : Nd (addL l who pl) := by
  unfold addL
  cases e : has who l
  · have e' := (has_no l who).1 e
    simp only [Nd, Bool.false_eq_true, if_false, List.map_append, List.map_cons, List.map_nil, List.nodup_append]
    refine ⟨h, by simp, fun a ha b hb => ?_⟩
    obtain ⟨x, hx, rfl⟩ := List.mem_map.1 ha
    simp at hb
    subst hb
    exact e' x hx
  · simpa using h
theorem has_rem {l : List Wt} (h : Nd l) (who : Int) : has who (remL l who) = false := by
  rw [rem_eq h, has_no]
  intro x hx
  simpa using (List.mem_filter.1 hx).2
theorem rem_none {l : List Wt} {who : Int} (h : has who l = false) : remL l who = l := by
  unfold has at h
  unfold remL
  cases e : at? who l with
  | none => rfl
  | some k => simp [e] at h
theorem rem_len {l : List Wt} {who : Int} (h : has who l = true) : (remL l who).length + 1 = l.length := by
  unfold has at h
  unfold remL
  cases e : at? who l with
  | none => simp [e] at h
  | some k =>
    have hk := (List.getElem?_eq_some_iff.1 (at_elem e).choose_spec.1).1
    simp
    omega
theorem add_new {l : List Wt} {who : Int} (h : has who l = false) (pl : Int) : addL l who pl = l ++ [⟨who, pl, false⟩] := by simp [addL, h]
theorem add_old {l : List Wt} {who : Int} (h : has who l = true) (pl : Int) : addL l who pl = l := by simp [addL, h]
theorem has_wake (l : List Wt) (who pl : Int) : has who (wakeL l pl) = has who l := by
  have e : has who (wakeL l pl) = true ↔ has who l = true := by
    rw [has_iff, has_iff]
    constructor
    · rintro ⟨x, hx, rfl⟩
      obtain ⟨y, hy, rfl⟩ := List.mem_map.1 hx
      exact ⟨y, hy, by split <;> rfl⟩
    · rintro ⟨x, hx, rfl⟩
      exact ⟨_, List.mem_map_of_mem hx, by split <;> rfl⟩
  cases h : has who l <;> cases h' : has who (wakeL l pl) <;> simp [h, h'] at e ⊢
theorem wake_wake (l : List Wt) (pl : Int) : wakeL (wakeL l pl) pl = wakeL l pl := by
  simp only [wakeL, List.map_map]
  apply List.map_congr_left
  intro x _
  simp only [Function.comp]
  cases h : x.place == pl <;> simp [h]
theorem woken_wake (l : List Wt) (pl : Int) : wokenL (wakeL l pl) pl = [] := by
  simp only [wokenL, wakeL, List.map_eq_nil_iff, List.filter_eq_nil_iff, List.mem_map]
  rintro x ⟨y, _, rfl⟩
  cases h : y.place == pl <;> simp [h]
theorem at_wake (l : List Wt) (pl : Int) : atL (wakeL l pl) pl = atL l pl := by
  induction l with
  | nil => rfl
  | cons x l ih =>
    simp only [atL, wakeL, List.map_cons] at ih ⊢
    cases h : x.place == pl <;> simp [h] at ih ⊢ <;> exact ih
theorem woken_eq {l : List Wt} (h : Nd l) (pl : Int) : (atL l pl).filter (fun w => !isWoken l w) = wokenL l pl := by
  have g : ∀ m : List Wt, (∀ x ∈ m, x ∈ l) → (atL m pl).filter (fun w => !isWoken l w) = wokenL m pl := by
    intro m
    induction m with
    | nil => intro _; rfl
    | cons x m ih =>
      intro hm
      have hx := isWoken_of h (hm x (List.mem_cons_self ..))
      have := ih fun y hy => hm y (List.mem_cons_of_mem _ hy)
      simp only [atL, wokenL] at this ⊢
      cases e : x.place == pl <;> cases e' : x.wok <;> simp [e, e', hx] at this ⊢ <;> exact this
  exact g l fun _ h => h
theorem mem_at {l : List Wt} {pl w : Int} : w ∈ atL l pl ↔ ∃ x ∈ l, x.place = pl ∧ x.who = w := by
  simp only [atL, List.mem_map, List.mem_filter, beq_iff_eq]
  constructor
  · rintro ⟨x, ⟨h1, h2⟩, h3⟩; exact ⟨x, h1, h2, h3⟩
  · rintro ⟨x, h1, h2, h3⟩; exact ⟨x, ⟨h1, h2⟩, h3⟩
theorem isWoken_wake {l : List Wt} (h : Nd l) (pl w : Int) : isWoken (wakeL l pl) w = (decide (w ∈ atL l pl) || isWoken l w) := by
  cases hh : has w l
  · have e1 : isWoken (wakeL l pl) w = false := isWoken_no (by rw [has_wake]; exact hh)
    have e2 := isWoken_no hh
    have e3 : ¬ w ∈ atL l pl := by
      rw [mem_at]
      rintro ⟨x, hx, _, hw⟩
      exact (has_no l w).1 hh x hx hw
    simp [e1, e2, e3]
  · obtain ⟨x, hx, rfl⟩ := (has_iff l w).1 hh
    rw [isWoken_of h hx]
    have hm : (if x.place == pl then (⟨x.who, x.place, true⟩ : Wt) else x) ∈ wakeL l pl := List.mem_map_of_mem hx
    have e := isWoken_of (nd_wake h pl) hm
    have ew : (if x.place == pl then (⟨x.who, x.place, true⟩ : Wt) else x).who = x.who := by split <;> rfl
    rw [ew] at e
    rw [e]
    have e3 : x.who ∈ atL l pl ↔ x.place = pl := by
      rw [mem_at]
      constructor
      · rintro ⟨y, hy, hp, hw⟩
        rw [← nd_one h hy hx hw]
        exact hp
      · intro hp; exact ⟨x, hx, hp, rfl⟩
    cases hp : x.place == pl
    · have : ¬ x.place = pl := by simpa using hp
      simp [e3, this]
    · have : x.place = pl := by simpa using hp
      simp [e3, this]
theorem atL_add (l : List Wt) (who pl : Int) : atL (l ++ [⟨who, pl, false⟩]) pl = atL l pl ++ [who] := by simp [atL]
theorem has_last (l : List Wt) (x : Wt) : has x.who (l ++ [x]) = true := (has_iff _ _).2 ⟨x, by simp, rfl⟩
end Go.Proofs.Ytjkhkepckocjkaa
