/- Slices.Delete's two laws on a row of one's own: an append that stays in the row, and clear behind it. Plain lemmas, over any program. -/
import Derived.Test.YtjkhkepckocjkaaSlices
import Derived.Deep.RegionLaw
import Derived.Lib.SliceRun
namespace Go.Proofs.Ytjkhkepckocjkaa
open Go.RowKit
section
variable {P : Program} {w : World} {e : TypeId} {sz g n cap : Nat} {xs : List Value}

theorem run_append_in (t ty : TypeId) (i : TypeInfo) (ht : P.underlying t = some (.slice e)) (hi : P.info? e = some i) (hsize : i.size = sz) (h : Row w e sz g n cap xs) (k : Nat) (hk : k ≤ n)
    (a : Addr) (m c : Nat) (news : List Value) (hl : news.length = m * sz) (hnews : Cells w (some a) news) (h1 : ∀ u ∈ news, u.oneCell' = true) (hroom : k + m ≤ cap) :
    ∃ w', (Builtin.append_ #[t, t] ty #[.slice (some ⟨g, 0, none⟩) k cap, .slice (some a) m c]).run P w = .ok (.slice (some ⟨g, 0, none⟩) (k + m) cap) w' ∧ Row w' e sz g (k + m) cap (xs.take (k * sz) ++ news) ∧ Fr [g] w w' := by
  subst hsize
  obtain ⟨cur, hg, hnc, hcm, hcs, htake, hxl⟩ := h
  have hfit : k * i.size + news.length ≤ cur.size := by rw [hl, hcs, ← Nat.add_mul]; exact Nat.mul_le_mul_right _ hroom
  have hnews' : ∀ j u, news[j]? = some u → w.cell? (a.add j) = some u := fun j u hu => by
    obtain ⟨c, hc, hv⟩ := hnews j u hu
    cases hc
    exact hv
  have hrun := run_append_room (P := P) w t ty e i ht hi g k cap cur hg a m c news hl hnews' h1 hroom hfit
  have hkn : k * i.size ≤ n * i.size := Nat.mul_le_mul_right _ hk
  have hcl : cur.toList.length = cap * i.size := by simpa using hcs
  have htk : cur.toList.take (k * i.size) = xs.take (k * i.size) := by rw [← htake, List.take_take, Nat.min_eq_left hkn]
  refine ⟨_, hrun, ⟨_, setRow_heap w g cur _ e _ hg, hroom, hcm, ?_, ?_, ?_⟩, ⟨rfl, rfl, rfl, by simp, fun j _ hj => setRow_other w g j _ (by simpa using hj)⟩⟩
  · simp only [List.size_toArray, List.length_append, List.length_take, List.length_drop, Array.length_toList]
    omega
  · rw [htk]
    have hl2 : (xs.take (k * i.size) ++ news).length = (k + m) * i.size := by rw [List.length_append, List.length_take, hxl, hl, Nat.min_eq_left hkn, Nat.add_mul]
    rw [← hl2]
    exact List.take_left
  · rw [List.length_append, List.length_take, hxl, hl, Nat.min_eq_left hkn, Nat.add_mul]

theorem step_append_in {ops : Array Oper} {o : Oper} {A : Act} {K : Act → World → Prop} {Q : Exit → Act → World → Prop} {E : Prop} (hgd : o.guard = none) (s x : Operand) (t : TypeId)
    (ho : o.op = .call { callee := .builtin .append, args := #[s, x], argTypes := #[t, t] }) (i : TypeInfo) (ht : P.underlying t = some (.slice e)) (hi : P.info? e = some i) (hsize : i.size = sz) (h : Row w e sz g n cap xs) (k : Nat) (hk : k ≤ n)
    (hs : A.eval s = .slice (some ⟨g, 0, none⟩) k cap) (a : Addr) (m c : Nat) (news : List Value) (hx : A.eval x = .slice (some a) m c) (hl : news.length = m * sz) (hnews : Cells w (some a) news) (h1 : ∀ u ∈ news, u.oneCell' = true) (hroom : k + m ≤ cap)
    (hkk : ∀ w', Row w' e sz g (k + m) cap (xs.take (k * sz) ++ news) → Fr [g] w w' → K (A.put o.dst (.slice (some ⟨g, 0, none⟩) (k + m) cap)) w') :
    if Region.wanted o (yielded ops A.tmps) = true then Oper.wp P o A w K Q else E := by
  have hw : Region.wanted o (yielded ops A.tmps) = true := by simp [Region.wanted, hgd]
  rw [if_pos hw]
  obtain ⟨w', hr, h2, h3⟩ := run_append_in (P := P) t o.type i ht hi hsize h k hk a m c news hl hnews h1 hroom
  unfold Oper.wp execOp
  simp only [ho, resolve, invoke, builtin, Sem.run_bind, Sem.run_pure, Result.andThen_ok, List.map_toArray, List.map_cons, List.map_nil, hs, hx, hr]
  exact hkk _ h2 h3

theorem run_clear_row (t ty : TypeId) (z : Value) (ht : P.underlying t = some (.slice e)) (hv : ∀ w, (zeroValue e).run P w = .ok z w) (hz : z.cells.size = sz) (h1 : z.cells.all (·.oneCell') = true) (h : Row w e sz g n cap xs) (o m c : Nat) (ho : n * sz ≤ o) (hm : o + m * sz ≤ cap * sz) :
    ∃ w', (Builtin.clear_ #[t] ty #[.slice (some ⟨g, o, none⟩) m c]).run P w = .ok (.tuple #[]) w' ∧ Row w' e sz g n cap xs ∧ Fr [g] w w' := by
  rcases Nat.eq_zero_or_pos m with rfl | hpos
  · refine ⟨w, ?_, h, Fr.refl _ _⟩
    simp [Builtin.clear_, run_underlying ht]
  · obtain ⟨cur, hg, hnc, hcm, hcs, htake, hxl⟩ := h
    have hzl : (Builtin.zeroCells z.cells m).toList.length = m * sz := by simp [Builtin.zeroCells, hz]
    have hone : ∀ u ∈ (Builtin.zeroCells z.cells m).toList, u.oneCell' = true := by
      intro u hu
      simp [Builtin.zeroCells] at hu
      obtain ⟨j, hj, rfl⟩ := hu
      have hp : 0 < z.cells.size := by
        rcases Nat.eq_zero_or_pos z.cells.size with h | h
        · rw [h] at hj; omega
        · exact h
      have hlt := Nat.mod_lt j hp
      rw [getElem!_pos z.cells (j % z.cells.size) hlt]
      rw [Array.all_eq_true] at h1
      exact h1 _ hlt
    have hst := run_storeCells_at P g o e (Builtin.zeroCells z.cells m).toList 0 cur w hg (by rw [hzl]; omega) hone
    simp only [Nat.add_zero] at hst
    have hrun : (Builtin.clear_ #[t] ty #[.slice (some ⟨g, o, none⟩) m c]).run P w = .ok (.tuple #[]) (w.setRow g (cur.toList.take o ++ (Builtin.zeroCells z.cells m).toList ++ cur.toList.drop (o + (Builtin.zeroCells z.cells m).toList.length)).toArray) := by
      obtain ⟨q, rfl⟩ : ∃ q, m = q + 1 := ⟨m - 1, by omega⟩
      simp [Builtin.clear_, run_underlying ht, hv, hst]
    have hcl : cur.toList.length = cap * sz := by simpa using hcs
    refine ⟨_, hrun, ⟨_, setRow_heap w g cur _ e _ hg, hnc, hcm, ?_, ?_, hxl⟩, ⟨rfl, rfl, rfl, by simp, fun j _ hj => setRow_other w g j _ (by simpa using hj)⟩⟩
    · simp only [List.size_toArray, List.length_append, List.length_take, List.length_drop, hcl, hzl]
      omega
    · simp only [List.append_assoc]
      rw [List.take_append_of_le_length (by simp [hcl]; omega), List.take_take, Nat.min_eq_left ho, htake]

theorem wpList_clear_row {ops : Array Oper} {rest : List Oper} {o : Oper} {A : Act} {Q : Exit → Act → World → Prop} (hgd : o.guard = none) (x : Operand) (t : TypeId)
    (hop : o.op = .call { callee := .builtin .clear, args := #[x], argTypes := #[t] }) (z : Value) (ht : P.underlying t = some (.slice e)) (hv : ∀ w, (zeroValue e).run P w = .ok z w) (hz : z.cells.size = sz) (h1 : z.cells.all (·.oneCell') = true) (h : Row w e sz g n cap xs)
    (off m c : Nat) (hx : A.eval x = .slice (some ⟨g, off, none⟩) m c) (ho : n * sz ≤ off) (hm : off + m * sz ≤ cap * sz)
    (hk : ∀ w', Row w' e sz g n cap xs → Fr [g] w w' → wpList P ops Q rest (A.put o.dst (.tuple #[])) w') :
    wpList P ops Q (o :: rest) A w :=
  wpList_plain hgd fun K hK => by
    obtain ⟨w', hr, h2, h3⟩ := run_clear_row (P := P) t o.type z ht hv hz h1 h off m c ho hm
    unfold Oper.wp execOp
    simp only [hop, resolve, invoke, builtin, Sem.run_bind, Sem.run_pure, Result.andThen_ok, List.map_toArray, List.map_cons, List.map_nil, hx, hr]
    exact hK _ _ (hk w' h2 h3)
end
end Go.Proofs.Ytjkhkepckocjkaa
