/- The acts of a script, as they lie in memory; the contract of same(). -/
import Derived.Test.YtkomadieeldihaaTellsW
import Derived.Test.YtkomadieeldihaaOpen
namespace Go.Proofs.Ytkomadieeldihaa
open Go.RowKit

structure Act where
  op : Int
  n : Int
def ActsAt (w : World) (B : Nat) (a : Option Addr) (len : Nat) (L : Nat → Act) : Prop :=
  0 < len → ∃ b off, a = some ⟨b, off, none⟩ ∧ b < B ∧ ∀ k, k < len →
    w.cell? ⟨b, off + k * 2, none⟩ = some (.int .i64 (L k).op) ∧ w.cell? ⟨b, off + k * 2 + 1, none⟩ = some (.int .i64 (L k).n) ∧ -9223372036854775808 ≤ (L k).n
theorem ActsAt.fr {w w' : World} {B : Nat} {a : Option Addr} {len : Nat} {L : Nat → Act} {S : List Nat} (h : ActsAt w B a len L) (hf : Fr S w w') (hB : B ≤ w.heap.size) (hS : ∀ k, k ∈ S → B ≤ k) : ActsAt w' B a len L := by
  intro hl
  obtain ⟨b, off, ha, hb, hc⟩ := h hl
  have hn : ∀ o, w'.cell? ⟨b, o, none⟩ = w.cell? ⟨b, o, none⟩ := fun o => World.cell?_of_block (w := w) (hf.block b (by omega) (fun hs => absurd (hS b hs) (by omega)))
  exact ⟨b, off, ha, hb, fun k hk => by rw [hn, hn]; exact hc k hk⟩
def actsIn (w : World) (a : Option Addr) (k : Nat) : Act :=
  ⟨cellInt w ⟨blockOf a, offOf a + k * 2, none⟩, cellInt w ⟨blockOf a, offOf a + k * 2 + 1, none⟩⟩
theorem acts_open {H : Type} {enc : TypeId × Value → H} {w : World} {sp : Nat → Bool} {held : Bool} {a : Option Addr} {len : Nat}
    (s : 0 < len → ∃ b off, a = some ⟨b, off, none⟩ ∧ b < w.heap.size ∧
      ∀ k, k < len → ∃ (cs : List Value) (m : Nat) (y : DataW H × List MemPlace), cs.length = 2 ∧ (∀ j, j < 2 → w.cell? ⟨b, off + k * 2 + j, none⟩ = cs[j]?) ∧ DataW.trod enc Try.prog w 0 sp held m 37 cs = some y) :
    ActsAt w w.heap.size a len (actsIn w a) := by
  intro hl
  obtain ⟨b, off, rfl, hb, hk⟩ := s hl
  refine ⟨b, off, rfl, hb, fun k hlt => ?_⟩
  obtain ⟨cs, m, y, hcl, hcell, ht⟩ := hk k hlt
  have hf := struct_fields Try.underlying37 (by kernel_rfl) ht
  obtain ⟨v0, m0, z0, e0, t0⟩ := hf 0 _ rfl (by omega)
  obtain ⟨v1, m1, z1, e1, t1⟩ := hf 1 _ rfl (by omega)
  obtain ⟨n0, rfl, _⟩ := int_cell Try.underlying3 t0
  obtain ⟨n1, rfl, w1⟩ := int_cell Try.underlying3 t1
  have c0 := (hcell 0 (by omega)).trans e0
  have c1 := (hcell 1 (by omega)).trans e1
  simp only [Nat.add_zero] at c0
  have b1 := (i64_bounds w1).1
  refine ⟨?_, ?_, ?_⟩ <;> simp [actsIn, blockOf, offOf, cellInt, c0, c1, b1]

set_option maxHeartbeats 800000 in
theorem same_true (w : World) (g g' : Nat) (c d b l cols bytes : Int) (hp : BudAt w g c d b l cols bytes) (hr : RefAt w g' c d b l cols bytes) (h0 : 0 ≤ bytes) (h1 : bytes ≤ b) (h2 : b ≤ 1048576) :
    Calls Try.prog 21 #[.pointer (some ⟨g, 0, none⟩), .pointer (some ⟨g', 0, none⟩)] w fun e w' => e = .returned (.bool true) ∧ ∃ n, w' = w.drewN n := by
  have d4 := hr.cell 4
  have d5 := hr.cell 5
  go_enter Try.func21, Try.ntmps21
  go_wp2
  go_quiet ((first
      | (go_at_call 12; exact quiet_same (cols_any _ g c d b l cols bytes (hp.drewN _)))
      | (go_at_call 13; exact quiet_same (bytes_any _ g c d b l cols bytes (hp.drewN _)))
      | (go_at_call 14; exact quiet_draw (room_any _ g c d b l cols bytes (hp.drewN _) h0 h1 h2))
      | (go_at_call 23; exact quiet_draw (rroom_any _ g' c d b l cols bytes (hr.drewN _) h0 h1 h2))))
  go_wp2
  go_ret
  exact ⟨ret_bool (by simp), _, rfl⟩
end Go.Proofs.Ytkomadieeldihaa
