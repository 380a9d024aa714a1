/- Tags as lists of bytes: the digits of a version, the check digit, what a tag is. No program in sight. -/
import Derived.Lib.Bytealg
namespace Go.Proofs.Ytmlcphehejcmkaa

/-- The 32 digits. -/
def dgs : List UInt8 := [48, 49, 50, 51, 52, 53, 54, 55, 56, 57, 97, 98, 99, 100, 101, 102, 103, 104, 106, 107, 109, 110, 112, 113, 114, 115, 116, 118, 119, 120, 121, 122]
def dg (d : Nat) : UInt8 := dgs.getD d 0
/-- A digit's place; -1. -/
def pl (c : UInt8) : Int := Lib.indexByte dgs c
theorem pl_dg (d : Nat) (h : d < 32) : pl (dg d) = d := by
  have H : ∀ d : Nat, d < 32 → pl (dg d) = d := by decide +kernel
  exact H d h
theorem pl_all (c : UInt8) : pl c = -1 ∨ ∃ d : Nat, d < 32 ∧ c = dg d := by
  have H : ∀ n : Nat, n < 256 → pl (UInt8.ofNat n) = -1 ∨ ∃ d : Nat, d < 32 ∧ UInt8.ofNat n = dg d := by decide +kernel
  have := H c.toNat c.toNat_lt
  simpa using this
theorem dg_inj {a b : Nat} (ha : a < 32) (hb : b < 32) (h : dg a = dg b) : a = b := by
  have h1 := pl_dg a ha
  rw [h, pl_dg b hb] at h1
  omega
theorem dg_ne (d : Nat) (h : d < 32) : dg d ≠ 34 := by
  have H : ∀ d : Nat, d < 32 → dg d ≠ 34 := by decide +kernel
  exact H d h

/-- The digits of a number, the greatest first. -/
def enc (v : Nat) : List Nat := if _h : v = 0 then [] else enc (v / 32) ++ [v % 32]
  termination_by v
  decreasing_by omega
theorem enc_zero : enc 0 = [] := by rw [enc]; simp
theorem enc_pos {v : Nat} (h : 0 < v) : enc v = enc (v / 32) ++ [v % 32] := by
  rw [enc, dif_neg (by omega)]
theorem enc_lt (v : Nat) : ∀ d ∈ enc v, d < 32 := by
  induction v using Nat.strongRecOn with
  | _ v ih =>
    rcases Nat.eq_zero_or_pos v with rfl | h
    · simp [enc_zero]
    · rw [enc_pos h]
      intro d hd
      rcases List.mem_append.1 hd with hd | hd
      · exact ih (v / 32) (by omega) d hd
      · simp at hd
        omega
/-- The number of some digits. -/
def num (l : List Nat) : Nat := l.foldl (fun n d => 32 * n + d) 0
theorem num_snoc (l : List Nat) (d : Nat) : num (l ++ [d]) = 32 * num l + d := by simp [num]
theorem num_enc (v : Nat) : num (enc v) = v := by
  induction v using Nat.strongRecOn with
  | _ v ih =>
    rcases Nat.eq_zero_or_pos v with rfl | h
    · rw [enc_zero]; rfl
    · rw [enc_pos h, num_snoc, ih (v / 32) (by omega)]
      omega
theorem num_mono (b : List Nat) : ∀ a : List Nat, num a ≤ num (a ++ b) := by
  induction b with
  | nil => intro a; simp
  | cons d b ih =>
    intro a
    have h1 := ih (a ++ [d])
    rw [num_snoc] at h1
    have e : a ++ d :: b = a ++ [d] ++ b := by simp
    rw [e]
    omega
/-- The check digit's place. -/
def chk (l : List Nat) : Nat := l.foldl (fun n d => (3 * n + d) % 31) 7
theorem chk_snoc (l : List Nat) (d : Nat) : chk (l ++ [d]) = (3 * chk l + d) % 31 := by simp [chk]
theorem chk_lt (l : List Nat) : chk l < 31 := by
  suffices H : ∀ (l : List Nat) (n : Nat), n < 31 → l.foldl (fun n d => (3 * n + d) % 31) n < 31 from H l 7 (by omega)
  intro l
  induction l with
  | nil => intro n h; exact h
  | cons d l ih => intro n _; exact ih _ (Nat.mod_lt _ (by omega))
/-- The tag of some digits; of a version. -/
def tag (l : List Nat) : List UInt8 := 34 :: (l.map dg ++ [dg (chk l), 34])
def showL (v : Int) : List UInt8 := if v < 1 then [] else tag (enc v.toNat)
theorem map_inj : ∀ (a b : List Nat), (∀ d ∈ a, d < 32) → (∀ d ∈ b, d < 32) → a.map dg = b.map dg → a = b
  | [], [], _, _, _ => rfl
  | [], _ :: _, _, _, h => by simp at h
  | _ :: _, [], _, _, h => by simp at h
  | x :: a, y :: b, ha, hb, h => by
    simp only [List.map_cons, List.cons.injEq] at h
    rw [dg_inj (ha x (List.mem_cons_self ..)) (hb y (List.mem_cons_self ..)) h.1, map_inj a b (fun d hd => ha d (List.mem_cons_of_mem _ hd)) (fun d hd => hb d (List.mem_cons_of_mem _ hd)) h.2]
theorem tag_len (l : List Nat) : (tag l).length = l.length + 3 := by simp [tag]
/-- A tag's digits and its check digit are in it. -/
theorem tag_parts {a b : List Nat} (ha : ∀ d ∈ a, d < 32) (hb : ∀ d ∈ b, d < 32) (h : tag a = tag b) : a = b := by
  simp only [tag, List.cons.injEq, true_and] at h
  have hl : (a.map dg).length = (b.map dg).length := by
    have := congrArg List.length h
    simp at this
    simpa using this
  exact map_inj a b ha hb (List.append_inj_left h hl)
theorem enc_inj {v w : Nat} (h : enc v = enc w) : v = w := by rw [← num_enc v, h, num_enc]
theorem enc_ne {v : Nat} (h : 0 < v) : 0 < (enc v).length := by rw [enc_pos h]; simp
theorem showL_pos {v : Int} (h : 1 ≤ v) : showL v = tag (enc v.toNat) := by rw [showL, if_neg (by omega)]
theorem showL_zero {v : Int} (h : v < 1) : showL v = [] := by rw [showL, if_pos h]
theorem showL_inj {v w : Int} (hv : 1 ≤ v) (h : showL v = showL w) : v = w := by
  rw [showL_pos hv] at h
  by_cases hw : w < 1
  · rw [showL_zero hw] at h
    simp [tag] at h
  · rw [showL_pos (by omega)] at h
    have := enc_inj (tag_parts (enc_lt _) (enc_lt _) h)
    omega
/-- Is a text the tag of a version? -/
def Good (l : List UInt8) : Prop := ∃ v : Int, 1 ≤ v ∧ v ≤ 9223372036854775807 ∧ showL v = l
theorem good_of {v : Int} {l : List UInt8} (h : showL v = l) (hl : l ≠ []) (hv : v ≤ 9223372036854775807) : Good l := by
  refine ⟨v, ?_, hv, h⟩
  rcases Int.lt_or_le v 1 with h1 | h1
  · rw [showL_zero h1] at h
    exact absurd h.symm hl
  · exact h1
/-- A number of k digits (the first not 0) is at least 32 to the k - 1. -/
theorem enc_len (k : Nat) : ∀ v : Nat, v < 32 ^ k → (enc v).length ≤ k := by
  induction k with
  | zero => intro v h; simp at h; subst h; rw [enc_zero]; simp
  | succ k ih =>
    intro v h
    rcases Nat.eq_zero_or_pos v with rfl | hp
    · rw [enc_zero]; simp
    · rw [enc_pos hp, List.length_append]
      have : v / 32 < 32 ^ k := by
        rw [Nat.div_lt_iff_lt_mul (by omega)]
        rw [Nat.pow_succ] at h
        exact h
      have := ih (v / 32) this
      simp
      exact this
theorem showL_len (v : Int) (h : v ≤ 9223372036854775807) : (showL v).length ≤ 16 := by
  rcases Int.lt_or_le v 1 with h1 | h1
  · rw [showL_zero h1]; simp
  · rw [showL_pos h1, tag_len]
    have := enc_len 13 v.toNat (by omega)
    omega
end Go.Proofs.Ytmlcphehejcmkaa
