/- Lists of numbers and of texts that came in. -/
import Derived.Test.YtmljpajegjioeaaWin
namespace Go.Proofs.Ytmljpajegjioeaa
open Go.RowKit

def IntsAt (w : World) (B : Nat) (a : Option Addr) (len : Nat) (L : Nat → Int) : Prop :=
  0 < len → ∃ b off, a = some ⟨b, off, none⟩ ∧ b < B ∧ ∀ k, k < len → w.cell? ⟨b, off + k, none⟩ = some (.int .i64 (L k))
def StrsAt (w : World) (B : Nat) (a : Option Addr) (len : Nat) (L : Nat → ByteArray) : Prop :=
  0 < len → ∃ b off, a = some ⟨b, off, none⟩ ∧ b < B ∧ ∀ k, k < len → w.cell? ⟨b, off + k, none⟩ = some (.string (L k))
theorem IntsAt.fr {w w' : World} {B : Nat} {a : Option Addr} {len : Nat} {L : Nat → Int} {S : List Nat} (h : IntsAt w B a len L) (hf : Fr S w w') (hB : B ≤ w.heap.size) (hS : ∀ k, k ∈ S → B ≤ k) : IntsAt w' B a len L := by
  intro hl
  obtain ⟨b, off, ha, hb, hc⟩ := h hl
  have hn : ∀ o, w'.cell? ⟨b, o, none⟩ = w.cell? ⟨b, o, none⟩ := fun o => World.cell?_of_block (w := w) (hf.block b (by omega) (fun hs => absurd (hS b hs) (by omega)))
  exact ⟨b, off, ha, hb, fun k hk => by rw [hn]; exact hc k hk⟩
theorem StrsAt.fr {w w' : World} {B : Nat} {a : Option Addr} {len : Nat} {L : Nat → ByteArray} {S : List Nat} (h : StrsAt w B a len L) (hf : Fr S w w') (hB : B ≤ w.heap.size) (hS : ∀ k, k ∈ S → B ≤ k) : StrsAt w' B a len L := by
  intro hl
  obtain ⟨b, off, ha, hb, hc⟩ := h hl
  have hn : ∀ o, w'.cell? ⟨b, o, none⟩ = w.cell? ⟨b, o, none⟩ := fun o => World.cell?_of_block (w := w) (hf.block b (by omega) (fun hs => absurd (hS b hs) (by omega)))
  exact ⟨b, off, ha, hb, fun k hk => by rw [hn]; exact hc k hk⟩
theorem IntsAt.at3 {w : World} {B b off len : Nat} {L : Nat → Int} (h : IntsAt w B (some ⟨b, off, none⟩) len L) {k : Nat} (hk : k < len) : w.cell? ⟨b, off + k, none⟩ = some (.int .i64 (L k)) := by
  obtain ⟨b', o', e, _, hc⟩ := h (by omega)
  cases e
  exact hc k hk
theorem StrsAt.at3 {w : World} {B b off len : Nat} {L : Nat → ByteArray} (h : StrsAt w B (some ⟨b, off, none⟩) len L) {k : Nat} (hk : k < len) : w.cell? ⟨b, off + k, none⟩ = some (.string (L k)) := by
  obtain ⟨b', o', e, _, hc⟩ := h (by omega)
  cases e
  exact hc k hk
def intsIn (w : World) (a : Option Addr) (k : Nat) : Int := cellInt w ⟨blockOf a, offOf a + k, none⟩
def strsIn (w : World) (a : Option Addr) (k : Nat) : ByteArray := cellStr w ⟨blockOf a, offOf a + k, none⟩
section
variable {H : Type} {enc : TypeId × Value → H} {w : World} {sp : Nat → Bool} {held : Bool} {a : Option Addr} {len : Nat}
theorem ints_open (s : 0 < len → ∃ b off, a = some ⟨b, off, none⟩ ∧ b < w.heap.size ∧
      ∀ k, k < len → ∃ (cs : List Value) (m : Nat) (y : DataW H × List MemPlace), cs.length = 1 ∧ (∀ j, j < 1 → w.cell? ⟨b, off + k * 1 + j, none⟩ = cs[j]?) ∧ DataW.trod enc Try.prog w 0 sp held m 2 cs = some y) :
    IntsAt w w.heap.size a len (intsIn w a) := by
  intro hl
  obtain ⟨b, off, rfl, hb, hk⟩ := s hl
  refine ⟨b, off, rfl, hb, fun k hlt => ?_⟩
  obtain ⟨cs, m, y, hcl, hcell, ht⟩ := hk k hlt
  obtain ⟨c, rfl⟩ := List.length_eq_one_iff.1 hcl
  obtain ⟨n0, rfl, _⟩ := int_cell Try.underlying2 ht
  have c0 := hcell 0 (by omega)
  simp at c0
  simp [intsIn, blockOf, offOf, cellInt, c0]
theorem strs_open (s : 0 < len → ∃ b off, a = some ⟨b, off, none⟩ ∧ b < w.heap.size ∧
      ∀ k, k < len → ∃ (cs : List Value) (m : Nat) (y : DataW H × List MemPlace), cs.length = 1 ∧ (∀ j, j < 1 → w.cell? ⟨b, off + k * 1 + j, none⟩ = cs[j]?) ∧ DataW.trod enc Try.prog w 0 sp held m 9 cs = some y) :
    StrsAt w w.heap.size a len (strsIn w a) := by
  intro hl
  obtain ⟨b, off, rfl, hb, hk⟩ := s hl
  refine ⟨b, off, rfl, hb, fun k hlt => ?_⟩
  obtain ⟨cs, m, y, hcl, hcell, ht⟩ := hk k hlt
  obtain ⟨c, rfl⟩ := List.length_eq_one_iff.1 hcl
  obtain ⟨n0, rfl, _⟩ := str_cell Try.underlying9 ht
  have c0 := hcell 0 (by omega)
  simp at c0
  simp [strsIn, blockOf, offOf, cellStr, c0]
end
/-- The own block of a ring lies beyond B, however it was made. -/
theorem own_next {B sz : Nat} {own own' : Option Nat} (h : ∀ g, g ∈ own.toList → B ≤ g) (hB : B ≤ sz) (h' : own' = own ∨ ∃ g, own' = some g ∧ sz ≤ g) : ∀ g, g ∈ own'.toList → B ≤ g := by
  rcases h' with rfl | ⟨g, rfl, hg⟩
  · exact h
  · simp; omega
theorem cons_all {B r : Nat} {l : List Nat} (hr : B ≤ r) (h : ∀ g, g ∈ l → B ≤ g) : ∀ g, g ∈ r :: l → B ≤ g := by
  intro g hg
  rcases List.mem_cons.1 hg with rfl | hg
  · exact hr
  · exact h g hg
end Go.Proofs.Ytmljpajegjioeaa
