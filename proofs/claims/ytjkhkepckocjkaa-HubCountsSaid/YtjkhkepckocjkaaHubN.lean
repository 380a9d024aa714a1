/- Who waits, as a plain list: what each call does to it. No program in sight. -/
import Derived.Test.YtjkhkepckocjkaaSlices
namespace Go.Proofs.Ytjkhkepckocjkaa
open Go.RowKit

structure Wt where
  who : Int
  place : Int
  wok : Bool
def ci (x : Int) : Value := .int .i64 x
def wc (x : Wt) : List Value := [.int .i64 x.who, .int .i64 x.place, .bool x.wok]
def fl (l : List Wt) : List Value := l.flatMap wc

theorem fl_length (l : List Wt) : (fl l).length = l.length * 3 := by
  induction l with
  | nil => rfl
  | cons x l ih => simp only [fl, List.flatMap_cons, List.length_append, List.length_cons] at *; rw [ih]; simp only [wc, List.length_cons, List.length_nil]; omega
theorem fl_append (a b : List Wt) : fl (a ++ b) = fl a ++ fl b := by simp [fl]
theorem fl_get (l : List Wt) (k j : Nat) (x : Wt) (h : l[k]? = some x) (hj : j < 3) : (fl l)[k * 3 + j]? = (wc x)[j]? := by
  induction l generalizing k with
  | nil => simp at h
  | cons y l ih =>
    cases k with
    | zero =>
      simp at h
      subst h
      simp only [fl, List.flatMap_cons, Nat.zero_mul, Nat.zero_add]
      exact List.getElem?_append_left (by simpa [wc] using hj)
    | succ k =>
      have := ih k (by simpa using h)
      simp only [fl, List.flatMap_cons] at *
      rw [List.getElem?_append_right (by simp [wc]; omega)]
      rw [← this]
      congr 1
      simp [wc]
      omega
theorem fl_take (l : List Wt) (k : Nat) : fl (l.take k) = (fl l).take (k * 3) := by
  induction l generalizing k with
  | nil => simp [fl]
  | cons y l ih =>
    cases k with
    | zero => simp [fl]
    | succ k =>
      have := ih k
      simp only [fl, List.flatMap_cons, List.take_succ_cons] at *
      rw [this, List.take_append, List.take_of_length_le (l := wc y) (by simp [wc]; omega)]
      congr 2
      simp [wc]
      omega
theorem fl_drop (l : List Wt) (k : Nat) : fl (l.drop k) = (fl l).drop (k * 3) := by
  induction l generalizing k with
  | nil => simp [fl]
  | cons y l ih =>
    cases k with
    | zero => simp [fl]
    | succ k =>
      have := ih k
      simp only [fl, List.flatMap_cons, List.drop_succ_cons] at *
      rw [this, List.drop_append, List.drop_of_length_le (l := wc y) (by simp [wc]; omega)]
      simp only [List.nil_append]
      congr 1
      simp [wc]
      omega
theorem fl_set (l : List Wt) (k : Nat) (x : Wt) (h : l[k]? = some x) (b : Bool) : fl (l.set k ⟨x.who, x.place, b⟩) = (fl l).set (k * 3 + 2) (.bool b) := by
  induction l generalizing k with
  | nil => simp at h
  | cons y l ih =>
    cases k with
    | zero =>
      simp at h
      subst h
      simp [fl, wc]
    | succ k =>
      have := ih k (by simpa using h)
      simp only [fl, List.flatMap_cons, List.set_cons_succ] at *
      rw [this, List.set_append_right _ _ (by simp [wc]; omega)]
      congr 2
      simp [wc]
      omega
theorem fl_one (l : List Wt) : ∀ u ∈ fl l, u.oneCell' = true := by
  intro u hu
  simp only [fl, List.mem_flatMap] at hu
  obtain ⟨x, _, hx⟩ := hu
  simp only [wc, List.mem_cons, List.not_mem_nil, or_false] at hx
  rcases hx with rfl | rfl | rfl <;> rfl

/-- One's place among them. -/
def at? (who : Int) (l : List Wt) : Option Nat := l.findIdx? fun x => x.who == who
def has (who : Int) (l : List Wt) : Bool := (at? who l).isSome
def addL (l : List Wt) (who place : Int) : List Wt := if has who l then l else l ++ [⟨who, place, false⟩]
def remL (l : List Wt) (who : Int) : List Wt := match at? who l with | some k => l.take k ++ l.drop (k + 1) | none => l
def wakeL (l : List Wt) (place : Int) : List Wt := l.map fun x => if x.place == place then ⟨x.who, x.place, true⟩ else x
def wokenL (l : List Wt) (place : Int) : List Int := (l.filter fun x => x.place == place && !x.wok).map (·.who)
def isWoken (l : List Wt) (who : Int) : Bool := match at? who l with | some k => (l[k]?.map (·.wok)).getD false | none => false
def atL (l : List Wt) (place : Int) : List Int := (l.filter fun x => x.place == place).map (·.who)

/-- None of the first k is it. -/
def Not (who : Int) (l : List Wt) (k : Nat) : Prop := ∀ j x, j < k → l[j]? = some x → x.who ≠ who
theorem not_zero (who : Int) (l : List Wt) : Not who l 0 := fun _ _ h => by omega
theorem not_succ {who : Int} {l : List Wt} {k : Nat} {x : Wt} (h : Not who l k) (hx : l[k]? = some x) (hne : x.who ≠ who) : Not who l (k + 1) := by
  intro j y hj hy
  by_cases e : j = k
  · subst e
    rw [hx] at hy
    cases hy
    exact hne
  · exact h j y (by omega) hy
theorem at_none {who : Int} {l : List Wt} (h : Not who l l.length) : at? who l = none := by
  unfold at?
  rw [List.findIdx?_eq_none_iff]
  intro x hx
  obtain ⟨j, hj⟩ := List.getElem?_of_mem hx
  have := h j x (List.getElem?_eq_some_iff.1 hj).1 hj
  simpa using this
theorem at_some {who : Int} {l : List Wt} {k : Nat} {x : Wt} (h : Not who l k) (hx : l[k]? = some x) (he : x.who = who) : at? who l = some k := by
  unfold at?
  rw [List.findIdx?_eq_some_iff_getElem]
  have hk := (List.getElem?_eq_some_iff.1 hx)
  refine ⟨hk.1, by rw [hk.2]; simpa using he, fun j hj => ?_⟩
  have := h j (l[j]'(Nat.lt_trans hj hk.1)) hj (List.getElem?_eq_getElem _)
  simpa using this
/-- What find returns. -/
def place (who : Int) (l : List Wt) : Int := match at? who l with | some k => k | none => -1
end Go.Proofs.Ytjkhkepckocjkaa
