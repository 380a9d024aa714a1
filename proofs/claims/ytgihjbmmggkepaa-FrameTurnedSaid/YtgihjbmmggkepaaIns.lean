/- Bytes that came in. -/
import Derived.Test.YtgihjbmmggkepaaNext
import Derived.Test.YtgihjbmmggkepaaOpen
namespace Go.Proofs.Ytgihjbmmggkepaa
open Go.RowKit

def bytesIn (w : World) (a : Option Addr) (len : Nat) : List UInt8 := (List.range len).map fun k => UInt8.ofNat (cellInt w ⟨blockOf a, offOf a + k, none⟩).toNat
theorem bytesIn_length (w : World) (a : Option Addr) (len : Nat) : (bytesIn w a len).length = len := by simp [bytesIn]
theorem u8_bounds {n : Int} (h : (Lit.int .u8 n).wf = true) : 0 ≤ n ∧ n ≤ 255 := by
  simp only [Lit.wf, Bool.and_eq_true, decide_eq_true_eq] at h
  exact h
section
variable {H : Type} {enc : TypeId × Value → H} {w : World} {sp : Nat → Bool} {held : Bool} {a : Option Addr} {len : Nat}
theorem bytes_open (s : 0 < len → ∃ b off, a = some ⟨b, off, none⟩ ∧ b < w.heap.size ∧
      ∀ k, k < len → ∃ (cs : List Value) (m : Nat) (y : DataW H × List MemPlace), cs.length = 1 ∧ (∀ j, j < 1 → w.cell? ⟨b, off + k * 1 + j, none⟩ = cs[j]?) ∧ DataW.trod enc Try.prog w 0 sp held m 5 cs = some y) :
    BytesAt w w.heap.size a (bytesIn w a len) := by
  intro hl
  rw [bytesIn_length] at hl
  obtain ⟨b, off, rfl, hb, hk⟩ := s hl
  refine ⟨b, off, rfl, hb, fun k c hc => ?_⟩
  have hlt : k < len := by
    have := (List.getElem?_eq_some_iff.1 hc).1
    rwa [bytesIn_length] at this
  obtain ⟨cs, m, y, hcl, hcell, ht⟩ := hk k hlt
  obtain ⟨v, rfl⟩ := List.length_eq_one_iff.1 hcl
  obtain ⟨n0, rfl, hw⟩ := int_cell Try.underlying5 ht
  have hn := u8_bounds hw
  have c0 := hcell 0 (by omega)
  simp at c0
  simp [bytesIn, hlt, blockOf, offOf, cellInt, c0] at hc
  rw [c0, ← hc, UInt8.toNat_ofNat']
  congr 2
  omega
end
end Go.Proofs.Ytgihjbmmggkepaa
