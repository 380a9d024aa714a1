/- What Next tells of what Put gave: whole, cut, turned. Plain laws. -/
import Derived.Test.YtgihjbmmggkepaaLongW
namespace Go.Proofs.Ytgihjbmmggkepaa
open Go.RowKit

theorem next_frame (c0 c1 c2 kk d0 d1 : UInt8) (body more : List UInt8) (hz : sizeOf3 c0 c1 c2 = body.length) (hsm : body.length ≤ 20000) :
    nextL (c0 :: c1 :: c2 :: kk :: (body ++ d0 :: d1 :: more)) = if sumL (kk.toNat : Int) body = (d0.toNat : Int) * 256 + (d1.toNat : Int) then ((kk.toNat : Int), ⟨body.toArray⟩, (body.length : Int) + 6, 0) else (0, ByteArray.empty, 0, 1) := by
  have h2 : ¬ ((kk :: (body ++ d0 :: d1 :: more)).length + 3 < body.length + 6) := by simp
  have hd : ((kk :: (body ++ d0 :: d1 :: more)).drop 1).take body.length = body := by simp
  have g1 : (kk :: (body ++ d0 :: d1 :: more)).getD (body.length + 1) 0 = d0 := by simp [List.getD]
  have g2 : (kk :: (body ++ d0 :: d1 :: more)).getD (body.length + 2) 0 = d1 := by simp [List.getD, List.getElem?_append_right]
  simp only [nextL, hz, show ¬ 20000 < body.length by omega, h2, if_false, hd, g1, g2]
  rfl
theorem size_p (n : Nat) (h : n ≤ 20000) : sizeOf3 (u8 ((n : Int) / 65536)) (u8 ((n : Int) / 256)) (u8 ((n : Int) % 256)) = n := by
  unfold sizeOf3
  rw [u8_nat _ (by omega) (by omega), u8_nat _ (by omega) (by omega), u8_nat _ (by omega) (by omega)]
  omega
/-- What Put gives, behind nothing. -/
theorem putL_nil (k : Int) (s : ByteArray) (more : List UInt8) : putL [] k s ++ more = u8 ((s.size : Int) / 65536) :: u8 ((s.size : Int) / 256) :: u8 ((s.size : Int) % 256) :: u8 k :: (s.data.toList ++ u8 (sumL k s.data.toList / 256) :: u8 (sumL k s.data.toList % 256) :: more) := by
  simp [putL]
theorem sum_bytes (k : Int) (l : List UInt8) : sumL k l = ((u8 (sumL k l / 256)).toNat : Int) * 256 + ((u8 (sumL k l % 256)).toNat : Int) := by
  have := sumL_range k l
  rw [u8_nat _ (by omega) (by omega), u8_nat _ (by omega) (by omega)]
  omega
theorem size_list (s : ByteArray) : s.data.toList.length = s.size := by simp
theorem back_1 (k : Int) (s : ByteArray) (more : List UInt8) (h0 : 0 ≤ k) (h1 : k ≤ 255) (hs : s.size ≤ 20000) : nextL (putL [] k s ++ more) = (k, s, (s.size : Int) + 6, 0) := by
  have hk : ((u8 k).toNat : Int) = k := by rw [u8_nat k h0 (by omega)]; omega
  rw [putL_nil, next_frame _ _ _ _ _ _ _ _ (by rw [size_p _ hs, size_list]) (by rw [size_list]; exact hs), hk, if_pos (sum_bytes _ _), size_list]
theorem back_2 (k : Int) (s : ByteArray) (m : Nat) (hs : s.size ≤ 20000) (hm : m < s.size + 6) : nextL ((putL [] k s).take m) = (0, ByteArray.empty, 0, 14) := by
  have e := putL_nil k s []
  rw [List.append_nil] at e
  rw [e]
  match m, hm with
  | 0, _ => rfl
  | 1, _ => rfl
  | 2, _ => rfl
  | m + 3, hm =>
    simp only [List.take_succ_cons, nextL, size_p _ hs, show ¬ 20000 < s.size by omega, if_false]
    rw [if_pos]
    rw [List.length_take]
    omega

def asum (l : List UInt8) : Int := (l.map fun c => (c.toNat : Int)).sum
theorem fold_fst : ∀ (l : List UInt8) (p : Int × Int), (l.foldl stp p).1 % 256 = (p.1 + asum l) % 256
  | [], p => by simp [asum]
  | c :: l, p => by
    rw [List.foldl_cons, fold_fst l]
    simp only [stp, asum, List.map_cons, List.sum_cons]
    omega
theorem sum_mod (k : Int) (l : List UInt8) : sumL k l % 256 = (1 + k + asum l) % 256 := by
  have := fold_fst l ((1 + k) % 256, (1 + k) % 256)
  simp only [sumL, stL]
  simp only at this
  omega
theorem asum_set : ∀ (l : List UInt8) (j : Nat) (x y : UInt8), l[j]? = some x → asum (l.set j y) + x.toNat = asum l + y.toNat
  | [], j, x, y, h => by simp at h
  | c :: l, 0, x, y, h => by
    simp at h; subst h
    simp only [List.set_cons_zero, asum, List.map_cons, List.sum_cons]; omega
  | c :: l, j + 1, x, y, h => by
    have := asum_set l j x y (by simpa using h)
    simp only [List.set_cons_succ, asum, List.map_cons, List.sum_cons] at this ⊢
    omega
theorem toNat_ne {x y : UInt8} (h : x ≠ y) : (x.toNat : Int) ≠ y.toNat := fun e => h (UInt8.toNat_inj.1 (by omega))
theorem turned (k : Int) (s : ByteArray) (p : Nat) (x y : UInt8) (h0 : 0 ≤ k) (h1 : k ≤ 255) (hs : s.size ≤ 20000) (hp : 3 ≤ p) (hx : (putL [] k s)[p]? = some x) (hy : x ≠ y) : nextL ((putL [] k s).set p y) = (0, ByteArray.empty, 0, 1) := by
  have hk : ((u8 k).toNat : Int) = k := by rw [u8_nat k h0 (by omega)]; omega
  have e := putL_nil k s []
  rw [List.append_nil] at e
  have hsb := sum_bytes k s.data.toList
  have hne := toNat_ne hy
  have by_ := byte_lt y
  have bx_ := byte_lt x
  have hm := sum_mod k s.data.toList
  rw [e] at hx ⊢
  generalize hd0 : u8 (sumL k s.data.toList / 256) = d0 at *
  generalize hd1 : u8 (sumL k s.data.toList % 256) = d1 at *
  have b0 := byte_lt d0
  have b1 := byte_lt d1
  obtain ⟨q, rfl⟩ : ∃ q, p = q + 3 := ⟨p - 3, by omega⟩
  match q, hx with
  | 0, hx =>
    simp at hx
    subst hx
    simp only [List.set_cons_succ, List.set_cons_zero]
    rw [next_frame _ _ _ _ _ _ _ _ (by rw [size_p _ hs, size_list]) (by rw [size_list]; exact hs), if_neg]
    have := sum_mod (y.toNat : Int) s.data.toList
    omega
  | j + 1, hx =>
    simp only [List.set_cons_succ, List.getElem?_cons_succ] at hx ⊢
    by_cases hj : j < s.data.toList.length
    · rw [List.getElem?_append_left hj] at hx
      rw [List.set_append_left _ _ hj, next_frame _ _ _ _ _ _ _ _ (by rw [size_p _ hs, List.length_set, size_list]) (by rw [List.length_set, size_list]; exact hs), if_neg]
      have h1 := asum_set _ j x y hx
      have h2 := sum_mod ((u8 k).toNat : Int) (s.data.toList.set j y)
      omega
    · rw [List.getElem?_append_right (by omega)] at hx
      rw [List.set_append_right _ _ (by omega)]
      obtain ⟨i, hi⟩ : ∃ i, j - s.data.toList.length = i := ⟨_, rfl⟩
      rw [hi] at hx ⊢
      match i, hx with
      | 0, hx =>
        simp at hx
        subst hx
        simp only [List.set_cons_zero]
        rw [next_frame _ _ _ _ _ _ _ _ (by rw [size_p _ hs, size_list]) (by rw [size_list]; exact hs), if_neg]
        rw [hk]; omega
      | 1, hx =>
        simp at hx
        subst hx
        simp only [List.set_cons_succ, List.set_cons_zero]
        rw [next_frame _ _ _ _ _ _ _ _ (by rw [size_p _ hs, size_list]) (by rw [size_list]; exact hs), if_neg]
        rw [hk]; omega
      | i + 2, hx => simp at hx
end Go.Proofs.Ytgihjbmmggkepaa
