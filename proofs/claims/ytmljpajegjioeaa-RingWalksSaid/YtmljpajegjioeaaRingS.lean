/- The contracts of a ring of texts. -/
import Derived.Test.YtmljpajegjioeaaRows
import Derived.Test.YtmljpajegjioeaaSlices
import Derived.Deep.RegionLaw
namespace Go.Proofs.Ytmljpajegjioeaa.RS
open Go.RowKit

def cs (x : ByteArray) : Value := .string x
/-- A ring behind pointer r: at most 'most', the slice value v holds xs; a push writes no block but r and 'own'. -/
def RingAt (w : World) (r : Nat) (most : Int) (v : Value) (xs : List ByteArray) (own : Option Nat) : Prop :=
  Holds w r 48 #[.int .i64 most, v] ∧ ((own = none ∧ v = .slice none 0 0 ∧ xs = []) ∨ ∃ g cap, own = some g ∧ v = .slice (some ⟨g, 0, none⟩) xs.length cap ∧ Row w 9 1 g xs.length cap (xs.map cs))

theorem info : (Try.prog.info? 9).map (fun i => (i.zero, i.size, i.bytes)) = some (some (.string ⟨#[]⟩), 1, 16) := by kernel_rfl

theorem RingAt.fr {w w' : World} {r : Nat} {most : Int} {v : Value} {xs : List ByteArray} {own : Option Nat} {S : List Nat} (h : RingAt w r most v xs own) (hf : Fr S w w') (hr : r ∉ S) (ho : ∀ k, k ∈ own.toList → k ∉ S) : RingAt w' r most v xs own := by
  obtain ⟨hp, hv⟩ := h
  refine ⟨hp.fr hf hr, ?_⟩
  rcases hv with hv | ⟨g, cap, rfl, hv, hrow⟩
  · exact .inl hv
  · exact .inr ⟨g, cap, rfl, hv, hrow.fr hf (ho g (by simp))⟩
theorem RingAt.own_ne {w : World} {r : Nat} {most : Int} {v : Value} {xs : List ByteArray} {own : Option Nat} (h : RingAt w r most v xs own) : r ∉ own.toList := by
  obtain ⟨hp, ⟨rfl, _⟩ | ⟨g, cap, rfl, _, hr⟩⟩ := h
  · simp
  · simpa using (hr.ne hp (by decide)).symm
theorem RingAt.sl {w : World} {r : Nat} {most : Int} {v : Value} {xs : List ByteArray} {own : Option Nat} (h : RingAt w r most v xs own) : Sl w 9 1 v xs.length (xs.map cs) own := by
  obtain ⟨_, ⟨rfl, rfl, rfl⟩ | ⟨g, cap, rfl, rfl, hr⟩⟩ := h
  · exact Sl.nil _ _ _
  · exact Sl.row hr

set_option maxHeartbeats 400000 in
theorem new_any (most : Int) (w : World) :
    Calls Try.prog 12 #[.int .i64 most] w fun e w' => ∃ r, e = .returned (.pointer (some ⟨r, 0, none⟩)) ∧ w.heap.size ≤ r ∧ RingAt w' r (max most 1) (.slice none 0 0) [] none ∧ Fr [] w w' := by
  by_cases hr : most < 1
  · go_enter Try.func12, Try.ntmps12
    go_wp2
    go_ret
    refine ⟨_, rfl, Nat.le_refl _, ⟨?_, .inl ⟨rfl, rfl, rfl⟩⟩, (Fr.refl _ _).alloc _⟩
    rw [Int.max_eq_right (by omega)]
    exact Holds.new _ _ _
  · go_enter Try.func12, Try.ntmps12
    go_wp2
    go_ret
    refine ⟨_, rfl, Nat.le_refl _, ⟨?_, .inl ⟨rfl, rfl, rfl⟩⟩, (Fr.refl _ _).alloc _⟩
    rw [Int.max_eq_left (by omega)]
    exact Holds.new _ _ _

set_option maxHeartbeats 400000 in
theorem len_any (w : World) (r : Nat) (most : Int) (v : Value) (xs : List ByteArray) (own : Option Nat) (h : RingAt w r most v xs own) (n : Nat) (hn : xs.length = n) :
    Calls Try.prog 14 #[.pointer (some ⟨r, 0, none⟩)] w fun e w' => e = .returned (.int .i64 n) ∧ w = w' := by
  subst hn
  obtain ⟨hp, ⟨_, rfl, rfl⟩ | ⟨g, cap, _, rfl, hr⟩⟩ := h
  all_goals
    have c1 := hp.cell 1
    go_enter Try.func14, Try.ntmps14
    go_wp2
    go_ret
    exact ⟨rfl, rfl⟩

set_option maxHeartbeats 400000 in
theorem at_in (w : World) (r : Nat) (most : Int) (v : Value) (xs : List ByteArray) (own : Option Nat) (k : Nat) (y : ByteArray) (h : RingAt w r most v xs own) (hk : xs[k]? = some y) :
    Calls Try.prog 15 #[.pointer (some ⟨r, 0, none⟩), .int .i64 k] w fun e w' => e = .returned (.tuple #[.string y, .bool true]) ∧ w = w' := by
  have hlt : k < xs.length := (List.getElem?_eq_some_iff.1 hk).1
  obtain ⟨hp, ⟨_, rfl, rfl⟩ | ⟨g, cap, _, rfl, hr⟩⟩ := h
  · simp at hlt
  · have c1 := hp.cell 1
    have c2 : w.cell? ⟨g, k, none⟩ = some (.string y) := hr.cell (by simp [hk, cs])
    have hk1 : (k : Int) < (xs.length : Int) := by omega
    have HK := Lib.hid hk
    clear hk
    go_enter Try.func15, Try.ntmps15
    go_wp2
    go_ret2
    exact ⟨rfl, rfl⟩
set_option maxHeartbeats 400000 in
theorem at_out (w : World) (r : Nat) (most : Int) (v : Value) (xs : List ByteArray) (own : Option Nat) (k : Int) (h : RingAt w r most v xs own) (hk : k < 0 ∨ (xs.length : Int) ≤ k) :
    Calls Try.prog 15 #[.pointer (some ⟨r, 0, none⟩), .int .i64 k] w fun e w' => e = .returned (.tuple #[.string ⟨#[]⟩, .bool false]) ∧ w = w' := by
  by_cases h0 : k < 0
  · go_enter Try.func15, Try.ntmps15
    go_wp2
    go_ret2
    exact ⟨rfl, rfl⟩
  · have hk1 : (xs.length : Int) ≤ k := by omega
    clear hk
    obtain ⟨hp, ⟨_, rfl, rfl⟩ | ⟨g, cap, _, rfl, hr⟩⟩ := h
    all_goals
      have c1 := hp.cell 1
      go_enter Try.func15, Try.ntmps15
      go_wp2
      go_ret2
      exact ⟨rfl, rfl⟩

/-- The end of a push: the new slice is in the ring. -/
theorem push_end {w w1 : World} {r g c n : Nat} {most : Int} {v0 : Value} {xs : List ByteArray} {x : ByteArray} (hn : n = xs.length + 1) (hp : Holds w1 r 48 #[.int .i64 most, v0]) (hr : Row w1 9 1 g n c (xs.map cs ++ [cs x])) {S : List Nat} (hf : Fr S w w1) (hS : r ∈ S) :
    RingAt (w1.setCell ⟨r, 1, none⟩ (.slice (some ⟨g, 0, none⟩) n c)) r most (.slice (some ⟨g, 0, none⟩) n c) (xs ++ [x]) (some g) ∧ Fr S w (w1.setCell ⟨r, 1, none⟩ (.slice (some ⟨g, 0, none⟩) n c)) := by
  subst hn
  have hne := hr.ne hp (by decide)
  refine ⟨⟨hp.set 1 _, .inr ⟨g, c, rfl, by simp, ?_⟩⟩, hf.setCell hS _⟩
  have := hr.far (p := ⟨r, 1, none⟩) hne (.slice (some ⟨g, 0, none⟩) (xs.length + 1) c)
  simpa using this

set_option maxRecDepth 100000 in
set_option maxHeartbeats 1000000 in
theorem push_room (w : World) (r : Nat) (most : Int) (v : Value) (xs : List ByteArray) (own : Option Nat) (x : ByteArray) (h : RingAt w r most v xs own) (hm : (xs.length : Int) < most) (hl : xs.length ≤ 1000) :
    Calls Try.prog 13 #[.pointer (some ⟨r, 0, none⟩), .string x] w fun e w' => ∃ v' own', e = .returned (.tuple #[.string ⟨#[]⟩, .bool false]) ∧ RingAt w' r most v' (xs ++ [x]) own' ∧ Fr (r :: own.toList) w w' ∧ (own' = own ∨ ∃ g, own' = some g ∧ w.heap.size ≤ g) := by
  obtain ⟨i2, hi, hz0, hz1, hz2⟩ := info_parts info
  have hs := h.sl
  have hrn := h.own_ne
  obtain ⟨hp, _⟩ := h
  obtain ⟨a, c, rfl⟩ := hs.form
  have c0 := hp.cell 0
  have c1 := hp.cell 1
  have hne : ((xs.length : Int) == most) = false := by simp; omega
  go_enter Try.func13, Try.ntmps13
  go_wp2
  go_quiet (fail)
  go_wp2_with (at_builtin; refine wpList_append_sl rfl (.tmp 40) (.tmp 42) 32 rfl i2 _ 16 Try.underlying32 hi hz0 hz1 hz2 rfl (by decide) _ own rfl (hs.fr0 (((Fr.refl [] w).drewN nq).alloc _)) _ 1 1 [cs x] rfl rfl (Cells.one (Holds.new (w.drewN nq) 9 #[cs x])) (by simp [cs, Value.oneCell']) (by unfold maxLen; omega) (by omega) ?_; intro v' w1 own' hs1 hf1 ho1 hm1; obtain ⟨g', rfl⟩ := hm1 (by omega); obtain ⟨c', rfl, hr1⟩ := hs1.own_row; have fr1 : Fr own.toList w w1 := (((Fr.refl _ w).drewN nq).alloc _).trans hf1; have hp1 := hp.fr fr1 hrn; have d1 := hp1.cell 1; have f1 := hp1.frozen 1; clear hf1 c0 c1 hm1 hs1)
  go_ret2
  obtain ⟨k1, k2⟩ := push_end rfl hp1 hr1 (fr1.mono (T := r :: own.toList) (fun k hk => List.mem_cons_of_mem _ hk)) (List.mem_cons_self ..)
  refine ⟨_, some g', rfl, k1, k2, ?_⟩
  rcases ho1 with ho1 | ⟨g2, ho1, hg2⟩
  · exact .inl ho1
  · exact .inr ⟨g2, ho1, by simp at hg2; omega⟩

set_option maxRecDepth 100000 in
set_option maxHeartbeats 1000000 in
theorem push_full (w : World) (r : Nat) (y : ByteArray) (v : Value) (xs : List ByteArray) (own : Option Nat) (x : ByteArray) (h : RingAt w r ((y :: xs).length : Nat) v (y :: xs) own) (hl : xs.length ≤ 1000) :
    Calls Try.prog 13 #[.pointer (some ⟨r, 0, none⟩), .string x] w fun e w' => ∃ v' own', e = .returned (.tuple #[.string y, .bool true]) ∧ RingAt w' r ((y :: xs).length : Nat) v' (xs ++ [x]) own' ∧ Fr (r :: own.toList) w w' ∧ (own' = own ∨ ∃ g, own' = some g ∧ w.heap.size ≤ g) := by
  obtain ⟨i2, hi, hz0, hz1, hz2⟩ := info_parts info
  have hrn := h.own_ne
  obtain ⟨hp, ⟨_, _, h0⟩ | ⟨g, cap, rfl, rfl, hr⟩⟩ := h
  · cases h0
  · have hcap : xs.length + 1 ≤ cap := by simpa using hr.le
    obtain ⟨n, hn⟩ : ∃ n, n = xs.length := ⟨_, rfl⟩
    rw [show (y :: xs).length = n + 1 by simp [hn]] at hp hr ⊢
    have c0 := hp.cell 0
    have c1 := hp.cell 1
    have c2 : w.cell? ⟨g, 0, none⟩ = some (.string y) := hr.cell (by simp [cs])
    have f1 := hp.frozen 1
    have hn0 : (0 : Int) < ((n + 1 : Nat) : Int) := by omega
    have hsrc : Cells w (some ⟨g, 1, none⟩) (xs.map cs) := by have := hr.cells.drop 1; simpa using this
    have h10 : (1 : Int) ≤ (n : Int) + 1 := by omega
    have hnl : n ≤ 1000 := by omega
    have HN := Lib.hid hn
    clear hn hn0 hl
    by_cases hc1 : cap = 1
    · subst hc1
      have hsrc1 : Cells w (some ⟨g, 0, none⟩) (xs.map cs) := by
        obtain rfl : xs = [] := List.eq_nil_of_length_eq_zero (by omega)
        exact Cells.nil _
      go_enter Try.func13, Try.ntmps13
      go_wp2
      go_quiet (fail)
      go_wp2_with fail
      go_region_law ((refine step_append_sl rfl (.tmp 27) (.tmp 32) 32 rfl i2 _ 16 Try.underlying32 hi hz0 hz1 hz2 rfl (by decide) _ none rfl (Sl.tight _ _ _ _) _ n _ (xs.map cs) rfl (by simp [HN.out]) hsrc1 (by simp [cs, Value.oneCell']) (by unfold maxLen; omega) (by omega) ?_; intro v1 w1 own1 hs1 hf1 ho1 hm1; obtain ⟨a1, c1', rfl⟩ := hs1.form; have fr1 : Fr [] w w1 := ((Fr.refl _ w).drewN _).trans hf1; have hp1 := hp.fr fr1 (by simp); have d1 := hp1.cell 1; have e1 := hp1.frozen 1))
      all_goals
        simp only [Nat.zero_add, List.nil_append] at hs1
        obtain ⟨w2, hw2⟩ : ∃ w2, w2 = w1.setCell ⟨r, 1, none⟩ (.slice a1 n c1') := ⟨_, rfl⟩
        have hs2 := hs1.far hm1 hp1 (by decide) 1 (.slice a1 n c1')
        have hp2 := hp1.set 1 (.slice a1 n c1')
        have fr2 := (fr1.nil (T := [r])).setCell (p := ⟨r, 1, none⟩) (by simp) (.slice a1 n c1')
        rw [← hw2] at hs2 hp2 fr2
        first | rw [← hw2] | (simp only [Nat.zero_add]; rw [← hw2])
        clear hw2 hs1 hp1 fr1 d1 e1 hf1 c0 c1 f1 c2
        simp at hp2
        have ho2 : ∀ k, own1 = some k → w.heap.size ≤ k := by
          intro k hk
          rcases ho1 with h | ⟨g2, h, hg2⟩
          · rw [h] at hk; cases hk
          · rw [h] at hk; cases hk; simpa using hg2
        have hr2 : r ∉ own1.toList := by
          intro hk
          have := ho2 r (by simpa using hk)
          have := hp.lt
          omega
        have HO2 := Lib.hid ho2
        clear ho2 ho1 hm1
        have c1 := hp2.cell 1
        go_wp2_with (at_builtin; refine wpList_append_sl rfl (.tmp 40) (.tmp 42) 32 rfl i2 _ 16 Try.underlying32 hi hz0 hz1 hz2 rfl (by decide) _ own1 rfl (hs2.fr0 ((Fr.refl [] w2).alloc _)) _ 1 1 [cs x] rfl rfl (Cells.one (Holds.new w2 9 #[cs x])) (by simp [cs, Value.oneCell']) (by unfold maxLen; omega) (by omega) ?_; intro v' w3 own' hs3 hf3 ho3 hm3; obtain ⟨g', rfl⟩ := hm3 (by omega); obtain ⟨c', rfl, hr3⟩ := hs3.own_row; have fr3 : Fr own1.toList w2 w3 := ((Fr.refl _ w2).alloc _).trans hf3; have hp3 := hp2.fr fr3 hr2; have d1 := hp3.cell 1; have e1 := hp3.frozen 1; clear hf3 c1 hm3 hs3)
        go_ret2
        obtain ⟨k1, k2⟩ := push_end (by rw [HN.out]) hp3 hr3 ((fr2.mono (T := r :: (some g).toList) (by simp)).step fr3 (fun k hk => .inr (HO2.out k (by simpa using hk)))) (List.mem_cons_self ..)
        refine ⟨_, some g', rfl, k1, k2, .inr ⟨g', rfl, ?_⟩⟩
        rcases ho3 with ho3 | ⟨g2, ho3, hg2⟩
        · exact HO2.out g' ho3.symm
        · cases ho3
          have := fr2.size
          simp at hg2
          omega
    · go_enter Try.func13, Try.ntmps13
      go_wp2
      go_quiet (fail)
      go_wp2_with fail
      go_region_law ((refine step_append_sl rfl (.tmp 27) (.tmp 32) 32 rfl i2 _ 16 Try.underlying32 hi hz0 hz1 hz2 rfl (by decide) _ none rfl (Sl.tight _ _ _ _) _ n _ (xs.map cs) rfl (by simp [HN.out]) hsrc (by simp [cs, Value.oneCell']) (by unfold maxLen; omega) (by omega) ?_; intro v1 w1 own1 hs1 hf1 ho1 hm1; obtain ⟨a1, c1', rfl⟩ := hs1.form; have fr1 : Fr [] w w1 := ((Fr.refl _ w).drewN _).trans hf1; have hp1 := hp.fr fr1 (by simp); have d1 := hp1.cell 1; have e1 := hp1.frozen 1))
      all_goals
        simp only [Nat.zero_add, List.nil_append] at hs1
        obtain ⟨w2, hw2⟩ : ∃ w2, w2 = w1.setCell ⟨r, 1, none⟩ (.slice a1 n c1') := ⟨_, rfl⟩
        have hs2 := hs1.far hm1 hp1 (by decide) 1 (.slice a1 n c1')
        have hp2 := hp1.set 1 (.slice a1 n c1')
        have fr2 := (fr1.nil (T := [r])).setCell (p := ⟨r, 1, none⟩) (by simp) (.slice a1 n c1')
        rw [← hw2] at hs2 hp2 fr2
        first | rw [← hw2] | (simp only [Nat.zero_add]; rw [← hw2])
        clear hw2 hs1 hp1 fr1 d1 e1 hf1 c0 c1 f1 c2
        simp at hp2
        have ho2 : ∀ k, own1 = some k → w.heap.size ≤ k := by
          intro k hk
          rcases ho1 with h | ⟨g2, h, hg2⟩
          · rw [h] at hk; cases hk
          · rw [h] at hk; cases hk; simpa using hg2
        have hr2 : r ∉ own1.toList := by
          intro hk
          have := ho2 r (by simpa using hk)
          have := hp.lt
          omega
        have HO2 := Lib.hid ho2
        clear ho2 ho1 hm1
        have c1 := hp2.cell 1
        go_wp2_with (at_builtin; refine wpList_append_sl rfl (.tmp 40) (.tmp 42) 32 rfl i2 _ 16 Try.underlying32 hi hz0 hz1 hz2 rfl (by decide) _ own1 rfl (hs2.fr0 ((Fr.refl [] w2).alloc _)) _ 1 1 [cs x] rfl rfl (Cells.one (Holds.new w2 9 #[cs x])) (by simp [cs, Value.oneCell']) (by unfold maxLen; omega) (by omega) ?_; intro v' w3 own' hs3 hf3 ho3 hm3; obtain ⟨g', rfl⟩ := hm3 (by omega); obtain ⟨c', rfl, hr3⟩ := hs3.own_row; have fr3 : Fr own1.toList w2 w3 := ((Fr.refl _ w2).alloc _).trans hf3; have hp3 := hp2.fr fr3 hr2; have d1 := hp3.cell 1; have e1 := hp3.frozen 1; clear hf3 c1 hm3 hs3)
        go_ret2
        obtain ⟨k1, k2⟩ := push_end (by rw [HN.out]) hp3 hr3 ((fr2.mono (T := r :: (some g).toList) (by simp)).step fr3 (fun k hk => .inr (HO2.out k (by simpa using hk)))) (List.mem_cons_self ..)
        refine ⟨_, some g', rfl, k1, k2, .inr ⟨g', rfl, ?_⟩⟩
        rcases ho3 with ho3 | ⟨g2, ho3, hg2⟩
        · exact HO2.out g' ho3.symm
        · cases ho3
          have := fr2.size
          simp at hg2
          omega

end Go.Proofs.Ytmljpajegjioeaa.RS
