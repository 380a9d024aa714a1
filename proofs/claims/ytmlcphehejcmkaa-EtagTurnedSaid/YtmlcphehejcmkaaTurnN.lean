/- A tag with one of its digits another one is no tag. No program in sight. -/
import Derived.Test.YtmlcphehejcmkaaFst
namespace Go.Proofs.Ytmlcphehejcmkaa
open Go.RowKit

theorem fold_inj : ∀ (l : List Nat) (a b : Nat), l.foldl (fun n d => (3 * n + d) % 31) a % 31 = l.foldl (fun n d => (3 * n + d) % 31) b % 31 → a % 31 = b % 31
  | [], _, _, h => h
  | d :: l, a, b, h => by
    have := fold_inj l ((3 * a + d) % 31) ((3 * b + d) % 31) h
    omega
theorem chk_set (ds : List Nat) (j q x : Nat) (hx : ds[j]? = some x) (h : chk (ds.set j q) = chk ds) : q % 31 = x % 31 := by
  have hj := List.getElem?_eq_some_iff.1 hx
  have e : ds = ds.take j ++ x :: ds.drop (j + 1) := by
    conv => lhs; rw [← List.take_append_drop j ds]
    rw [List.drop_eq_getElem_cons hj.1, hj.2]
  have e2 : ds.set j q = ds.take j ++ q :: ds.drop (j + 1) := by
    rw [List.set_eq_take_append_cons_drop, if_pos hj.1]
  rw [e2] at h
  conv at h => rhs; rw [e]
  simp only [chk, List.foldl_append, List.foldl_cons] at h
  have := fold_inj (ds.drop (j + 1)) _ _ (congrArg (· % 31) h)
  omega
/-- A version's digits, and the check digit behind them. -/
def full (v : Int) : List Nat := enc v.toNat ++ [chk (enc v.toNat)]
theorem full_lt (v : Int) : ∀ d ∈ full v, d < 32 := by
  intro d hd
  rcases List.mem_append.1 hd with hd | hd
  · exact enc_lt _ d hd
  · simp at hd
    have := chk_lt (enc v.toNat)
    omega
theorem showL_full {v : Int} (h : 1 ≤ v) : showL v = 34 :: ((full v).map dg ++ [34]) := by
  rw [showL_pos h, tag, full]
  simp
theorem turned_no {v : Int} {j x q : Nat} (hx : (full v)[j]? = some x) (hq : q < 32) (hne : x % 31 ≠ q % 31) : ¬ Good (34 :: (((full v).set j q).map dg ++ [34])) := by
  rintro ⟨u, u1, u2, hu⟩
  rw [showL_full u1] at hu
  simp only [List.cons.injEq, true_and, List.append_cancel_right_eq] at hu
  have hset : ∀ d ∈ (full v).set j q, d < 32 := by
    intro d hd
    rcases List.mem_or_eq_of_mem_set hd with h | h
    · exact full_lt v d h
    · omega
  have he := map_inj _ _ (full_lt u) hset hu
  have hj := (List.getElem?_eq_some_iff.1 hx).1
  have hlen : (full v).length = (enc v.toNat).length + 1 := by simp [full]
  by_cases hl : j < (enc v.toNat).length
  · have e2 : (full v).set j q = (enc v.toNat).set j q ++ [chk (enc v.toNat)] := by rw [full, List.set_append_left _ _ hl]
    rw [e2] at he
    have hln : (enc u.toNat).length = ((enc v.toNat).set j q).length := by
      have := congrArg List.length he
      simp [full] at this
      simpa using this
    have h3 := List.append_inj_left he hln
    have h4 := List.append_inj_right he hln
    simp only [List.cons.injEq, and_true] at h4
    rw [h3] at h4
    have hx2 : (enc v.toNat)[j]? = some x := by rw [full, List.getElem?_append_left hl] at hx; exact hx
    exact hne (chk_set _ j q x hx2 h4).symm
  · have hjn : j = (enc v.toNat).length := by omega
    subst hjn
    have e2 : (full v).set (enc v.toNat).length q = enc v.toNat ++ [q] := by rw [full, List.set_append_right _ _ (Nat.le_refl _)]; simp
    rw [e2] at he
    have hln : (enc u.toNat).length = (enc v.toNat).length := by
      have := congrArg List.length he
      simp [full] at this
      exact this
    have h3 := List.append_inj_left he hln
    have h4 := List.append_inj_right he hln
    simp only [List.cons.injEq, and_true] at h4
    rw [h3] at h4
    have hx2 : x = chk (enc v.toNat) := by
      rw [full, List.getElem?_append_right (Nat.le_refl _)] at hx
      simp at hx
      exact hx.symm
    exact hne (by rw [hx2, h4])
end Go.Proofs.Ytmlcphehejcmkaa
