/- A quota that came in, opened to its four numbers; the walks of chapter 16 for every input. -/
import Derived.Test.YtkomadieeldihaaPlaysW
import Derived.Test.YtkomadieeldihaaNeverW
import Derived.Test.YtkomadieeldihaaBackW
import Derived.Test.YtkomadieeldihaaNot
namespace Go.Proofs.Ytkomadieeldihaa
open Go.RowKit

theorem quota_open {H : Type} {enc : TypeId × Value → H} {w : World} {sp : Nat → Bool} {held : Bool} {cs : Array Value} {dd : DataW H} {p : List MemPlace}
    (hz : cs.size = Try.prog.cellsOf 23) (h : DataW.Trod enc Try.prog w 0 sp held 23 (.agg cs) dd p) :
    ∃ c d b l : Int, cs = #[.int .i64 c, .int .i64 d, .int .i64 b, .int .i64 l] := by
  have hz4 : cs.size = 4 := hz.trans (by kernel_rfl)
  obtain ⟨m, hm⟩ := h
  have hf := struct_fields Try.underlying23 (by kernel_rfl) hm
  obtain ⟨l⟩ := cs
  simp only [Value.cells] at hf
  have hl : l.length = 4 := by simpa using hz4
  match l, hl with
  | [x0, x1, x2, x3], _ =>
    obtain ⟨v0, m0, z0, e0, t0⟩ := hf 0 _ rfl (by simp)
    obtain ⟨v1, m1, z1, e1, t1⟩ := hf 1 _ rfl (by simp)
    obtain ⟨v2, m2, z2, e2, t2⟩ := hf 2 _ rfl (by simp)
    obtain ⟨v3, m3, z3, e3, t3⟩ := hf 3 _ rfl (by simp)
    obtain ⟨n0, rfl, _⟩ := int_cell Try.underlying3 t0
    obtain ⟨n1, rfl, _⟩ := int_cell Try.underlying3 t1
    obtain ⟨n2, rfl, _⟩ := int_cell Try.underlying3 t2
    obtain ⟨n3, rfl, _⟩ := int_cell Try.underlying3 t3
    simp at e0 e1 e2 e3
    subst e0 e1 e2 e3
    exact ⟨n0, n1, n2, n3, rfl⟩

theorem plays_all (w : World) (c d b l : Int) (a : Option Addr) (len cap : Nat) (L : Nat → Act) (hA : ActsAt w w.heap.size a len L) :
    Calls Try.prog 4 #[.agg #[.int .i64 c, .int .i64 d, .int .i64 b, .int .i64 l], .slice a len cap] w fun e w' => e = .returned (.bool true) ∧ Fr [] w w' := by
  by_cases h : qOk c d b l = true ∧ ¬ 100 < len
  · exact plays_walk w c d b l a len cap L hA (by omega) h.1
  · exact plays_not w c d b l a len cap h
theorem never_all (w : World) (c d b l : Int) (a : Option Addr) (len cap : Nat) (L : Nat → Act) (hA : ActsAt w w.heap.size a len L) :
    Calls Try.prog 5 #[.agg #[.int .i64 c, .int .i64 d, .int .i64 b, .int .i64 l], .slice a len cap] w fun e w' => e = .returned (.bool true) ∧ Fr [] w w' := by
  by_cases h : qOk c d b l = true ∧ ¬ 100 < len
  · exact never_walk w c d b l a len cap L hA (by omega) h.1
  · exact never_not w c d b l a len cap h
theorem opens_all (w : World) (c d b l k : Int) :
    Calls Try.prog 6 #[.agg #[.int .i64 c, .int .i64 d, .int .i64 b, .int .i64 l], .int .i64 k] w fun e w' => e = .returned (.bool true) ∧ Fr [] w w' := by
  by_cases h : qOk c d b l = true ∧ ¬ k < 0 ∧ ¬ 8 < k
  · rcases Int.lt_trichotomy k c with hk | rfl | hk
    · exact opens_lt w c d b l k (by omega) (by omega) hk h.1
    · exact opens_eq w k d b l (by omega) (by omega) h.1
    · exact opens_gt w c d b l k (by omega) (by omega) hk h.1
  · exact opens_not w c d b l k h
theorem back_all (w : World) (c d b l a n : Int) :
    Calls Try.prog 7 #[.agg #[.int .i64 c, .int .i64 d, .int .i64 b, .int .i64 l], .int .i64 a, .int .i64 n] w fun e w' => e = .returned (.bool true) ∧ Fr [] w w' := by
  by_cases h : qOk c d b l = true ∧ ¬ a < 0 ∧ ¬ n < 0 ∧ ¬ 2097152 < n
  · by_cases ha : a ≤ b
    · by_cases hn : n ≤ b - a
      · exact back_ay w c d b l a n (by omega) (by omega) (by omega) ha hn h.1
      · exact back_an w c d b l a n (by omega) (by omega) (by omega) ha (by omega) h.1
    · by_cases hn : n ≤ b
      · exact back_ny w c d b l a n (by omega) (by omega) (by omega) (by omega) hn h.1
      · exact back_nn w c d b l a n (by omega) (by omega) (by omega) (by omega) (by omega) h.1
  · exact back_not w c d b l a n h
end Go.Proofs.Ytkomadieeldihaa
