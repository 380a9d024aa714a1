/- Windows of a list (what a ring holds); what the two push contracts make of them; first(). -/
import Derived.Test.YtmljpajegjioeaaRingI
import Derived.Test.YtmljpajegjioeaaRingS
import Derived.Test.YtmljpajegjioeaaOpen
namespace Go.Proofs.Ytmljpajegjioeaa
open Go.RowKit

/-- The n elements of L from s on. -/
def win {α : Type} (L : Nat → α) (s n : Nat) : List α := (List.range n).map fun j => L (s + j)
section
variable {α : Type} (L : Nat → α)
theorem win_length (s n : Nat) : (win L s n).length = n := by simp [win]
theorem win_get {s n k : Nat} (h : k < n) : (win L s n)[k]? = some (L (s + k)) := by simp [win, h]
theorem win_zero (s : Nat) : win L s 0 = [] := rfl
theorem win_snoc (s n : Nat) : win L s n ++ [L (s + n)] = win L s (n + 1) := by simp [win, List.range_succ]
theorem win_cons (s n : Nat) : win L s (n + 1) = L s :: win L (s + 1) n := by
  unfold win
  rw [List.range_succ_eq_map, List.map_cons, List.map_map]
  congr 1
  exact List.map_congr_left fun j _ => by simp only [Function.comp]; congr 1; omega
end

/-- A ring of numbers that is not full: one more. -/
theorem pushI_room (w : World) (r M i : Nat) (v : Value) (own : Option Nat) (L : Nat → Int) (h : RI.RingAt w r (M : Int) v (win L 0 i) own) (hm : i < M) (hl : i ≤ 1000) :
    Calls Try.prog 9 #[.pointer (some ⟨r, 0, none⟩), .int .i64 (L i)] w fun e w' => ∃ v' own', e = .returned (.tuple #[.int .i64 0, .bool false]) ∧ RI.RingAt w' r (M : Int) v' (win L 0 (i + 1)) own' ∧ Fr (r :: own.toList) w w' ∧ (own' = own ∨ ∃ g, own' = some g ∧ w.heap.size ≤ g) := by
  have := RI.push_room w r M v (win L 0 i) own (L i) h (by rw [win_length]; omega) (by rw [win_length]; omega)
  have e := win_snoc L 0 i
  rw [Nat.zero_add] at e
  rw [← e]
  exact this
/-- A ring of numbers that is full: the first one goes. -/
theorem pushI_full (w : World) (r M s : Nat) (v : Value) (own : Option Nat) (L : Nat → Int) (h : RI.RingAt w r ((M + 1 : Nat) : Int) v (win L s (M + 1)) own) (hl : M ≤ 1000) :
    Calls Try.prog 9 #[.pointer (some ⟨r, 0, none⟩), .int .i64 (L (s + (M + 1)))] w fun e w' => ∃ v' own', e = .returned (.tuple #[.int .i64 (L s), .bool true]) ∧ RI.RingAt w' r ((M + 1 : Nat) : Int) v' (win L (s + 1) (M + 1)) own' ∧ Fr (r :: own.toList) w w' ∧ (own' = own ∨ ∃ g, own' = some g ∧ w.heap.size ≤ g) := by
  have e := win_cons L s M
  have e2 := win_snoc L (s + 1) M
  have hlen : ((L s :: win L (s + 1) M).length : Nat) = M + 1 := by simp [win_length]
  have := RI.push_full w r (L s) v (win L (s + 1) M) own (L (s + (M + 1))) (by rw [hlen, ← e]; exact h) (by rw [win_length]; exact hl)
  rw [hlen, show s + (M + 1) = s + 1 + M by omega, e2] at this
  rw [show s + (M + 1) = s + 1 + M by omega]
  exact this
theorem pushS_room (w : World) (r M i : Nat) (v : Value) (own : Option Nat) (L : Nat → ByteArray) (h : RS.RingAt w r (M : Int) v (win L 0 i) own) (hm : i < M) (hl : i ≤ 1000) :
    Calls Try.prog 13 #[.pointer (some ⟨r, 0, none⟩), .string (L i)] w fun e w' => ∃ v' own', e = .returned (.tuple #[.string ByteArray.empty, .bool false]) ∧ RS.RingAt w' r (M : Int) v' (win L 0 (i + 1)) own' ∧ Fr (r :: own.toList) w w' ∧ (own' = own ∨ ∃ g, own' = some g ∧ w.heap.size ≤ g) := by
  have := RS.push_room w r M v (win L 0 i) own (L i) h (by rw [win_length]; omega) (by rw [win_length]; omega)
  have e := win_snoc L 0 i
  rw [Nat.zero_add] at e
  rw [← e]
  exact this
theorem pushS_full (w : World) (r M s : Nat) (v : Value) (own : Option Nat) (L : Nat → ByteArray) (h : RS.RingAt w r ((M + 1 : Nat) : Int) v (win L s (M + 1)) own) (hl : M ≤ 1000) :
    Calls Try.prog 13 #[.pointer (some ⟨r, 0, none⟩), .string (L (s + (M + 1)))] w fun e w' => ∃ v' own', e = .returned (.tuple #[.string (L s), .bool true]) ∧ RS.RingAt w' r ((M + 1 : Nat) : Int) v' (win L (s + 1) (M + 1)) own' ∧ Fr (r :: own.toList) w w' ∧ (own' = own ∨ ∃ g, own' = some g ∧ w.heap.size ≤ g) := by
  have e := win_cons L s M
  have e2 := win_snoc L (s + 1) M
  have hlen : ((L s :: win L (s + 1) M).length : Nat) = M + 1 := by simp [win_length]
  have := RS.push_full w r (L s) v (win L (s + 1) M) own (L (s + (M + 1))) (by rw [hlen, ← e]; exact h) (by rw [win_length]; exact hl)
  rw [hlen, show s + (M + 1) = s + 1 + M by omega, e2] at this
  rw [show s + (M + 1) = s + 1 + M by omega]
  exact this

theorem pushI_all (w : World) (r M s : Nat) (v : Value) (own : Option Nat) (L : Nat → Int) (h : RI.RingAt w r (M : Int) v (win L s M) own) (hM : 1 ≤ M) (hl : M ≤ 1000) :
    Calls Try.prog 9 #[.pointer (some ⟨r, 0, none⟩), .int .i64 (L (s + M))] w fun e w' => ∃ v' own', e = .returned (.tuple #[.int .i64 (L s), .bool true]) ∧ RI.RingAt w' r (M : Int) v' (win L (s + 1) M) own' ∧ Fr (r :: own.toList) w w' ∧ (own' = own ∨ ∃ g, own' = some g ∧ w.heap.size ≤ g) := by
  obtain ⟨m, rfl⟩ : ∃ m, M = m + 1 := ⟨M - 1, by omega⟩
  exact pushI_full w r m s v own L h (by omega)
theorem pushS_all (w : World) (r M s : Nat) (v : Value) (own : Option Nat) (L : Nat → ByteArray) (h : RS.RingAt w r (M : Int) v (win L s M) own) (hM : 1 ≤ M) (hl : M ≤ 1000) :
    Calls Try.prog 13 #[.pointer (some ⟨r, 0, none⟩), .string (L (s + M))] w fun e w' => ∃ v' own', e = .returned (.tuple #[.string (L s), .bool true]) ∧ RS.RingAt w' r (M : Int) v' (win L (s + 1) M) own' ∧ Fr (r :: own.toList) w w' ∧ (own' = own ∨ ∃ g, own' = some g ∧ w.heap.size ≤ g) := by
  obtain ⟨m, rfl⟩ : ∃ m, M = m + 1 := ⟨M - 1, by omega⟩
  exact pushS_full w r m s v own L h (by omega)
set_option maxHeartbeats 1000000 in
theorem first_true (w : World) : Calls Try.prog 7 #[] w fun e w' => e = .returned (.bool true) ∧ Fr [] w w' := by
  go_enter Try.func7, Try.ntmps7
  go_wp2_with fail
  refine (RI.new_any 2 w).mono ?_
  rintro e w1 ⟨r, rfl, hr, p1, f1⟩
  go_wp2_with fail
  refine (RI.push_room w1 r 2 _ [] _ 1 p1 (by decide) (by decide)).mono ?_
  rintro e w2 ⟨v2, o2, rfl, p2, f2, h2⟩
  go_wp2_with fail
  refine (RI.push_room w2 r 2 _ [1] _ 2 p2 (by decide) (by decide)).mono ?_
  rintro e w3 ⟨v3, o3, rfl, p3, f3, h3⟩
  go_wp2_with fail
  refine (RI.push_full w3 r 1 _ [2] _ 3 p3 (by decide)).mono ?_
  rintro e w4 ⟨v4, o4, rfl, p4, f4, h4⟩
  go_wp2_with fail
  refine (RI.at_in w4 r _ _ [2, 3] _ 0 2 p4 rfl).mono ?_
  rintro e w' ⟨rfl, rfl⟩
  go_wp2_with fail
  refine (RI.len_any w4 r _ _ [2, 3] _ p4 2 rfl).mono ?_
  rintro e w' ⟨rfl, rfl⟩
  go_wp2_with fail
  go_ret
  have k2 : ∀ k, k ∈ o2.toList → w.heap.size ≤ k := by
    rcases h2 with rfl | ⟨g, rfl, hg⟩
    · simp
    · have := f1.size; simp; omega
  have s2 : w.heap.size ≤ w2.heap.size := Nat.le_trans f1.size f2.size
  have k3 : ∀ k, k ∈ o3.toList → w.heap.size ≤ k := by
    rcases h3 with rfl | ⟨g, rfl, hg⟩
    · exact k2
    · simp; omega
  refine ⟨rfl, ((f1.step f2 ?_).step f3 ?_).step f4 ?_⟩
  · simpa using hr
  · intro k hk
    rcases List.mem_cons.1 hk with rfl | hk
    · exact .inr hr
    · exact .inr (k2 k hk)
  · intro k hk
    rcases List.mem_cons.1 hk with rfl | hk
    · exact .inr hr
    · exact .inr (k3 k hk)
end Go.Proofs.Ytmljpajegjioeaa
