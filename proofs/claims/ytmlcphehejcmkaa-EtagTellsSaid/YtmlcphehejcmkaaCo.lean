/- A condition that came in, opened to its two numbers. -/
import Derived.Test.YtmlcphehejcmkaaRows
import Derived.Test.YtmlcphehejcmkaaOpen
namespace Go.Proofs.Ytmlcphehejcmkaa
open Go.RowKit Go.ChangeShapes Go.WideShapes Go.ChangeAt

theorem co_open {H : Type} {enc : TypeId × Value → H} {w : World} {sp : Nat → Bool} {held : Bool} {cs : Array Value} {dd : DataW H} {p : List MemPlace}
    (hz : cs.size = Try.prog.cellsOf 29) (h : DataW.Trod enc Try.prog w 0 sp held 29 (.agg cs) dd p) :
    ∃ k v : Int, cs = #[.int .i64 k, .int .i64 v] ∧ v ≤ 9223372036854775807 := by
  have hz4 : cs.size = 2 := hz.trans (by kernel_rfl)
  obtain ⟨m, hm⟩ := h
  have hf := struct_fields Try.underlying29 (by kernel_rfl) hm
  obtain ⟨l⟩ := cs
  simp only [Value.cells] at hf
  have hl : l.length = 2 := by simpa using hz4
  match l, hl with
  | [x0, x1], _ =>
    obtain ⟨v0, m0, z0, e0, t0⟩ := hf 0 _ rfl (by simp)
    obtain ⟨v1, m1, z1, e1, t1⟩ := hf 1 _ rfl (by simp)
    obtain ⟨n0, rfl, _⟩ := int_cell Try.underlying3 t0
    obtain ⟨n1, rfl, w1⟩ := int_cell Try.underlying2 t1
    simp at e0 e1
    subst e0 e1
    exact ⟨n0, n1, rfl, (i64_bounds w1).2⟩
end Go.Proofs.Ytmlcphehejcmkaa
