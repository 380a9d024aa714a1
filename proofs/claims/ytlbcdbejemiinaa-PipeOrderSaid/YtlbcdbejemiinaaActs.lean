/- The acts of a script, as they lie in memory, and the contract of light(). -/
import Derived.Test.YtlbcdbejemiinaaPipe
import Derived.Test.YtlbcdbejemiinaaOpen
namespace Go.Proofs.Ytlbcdbejemiinaa
open Go.RowKit

structure Act where
  op : Int
  n : Int
  s : ByteArray

/-- The slice a of len acts lies below block B and reads as L. -/
def ActsAt (w : World) (B : Nat) (a : Option Addr) (len : Nat) (L : Nat → Act) : Prop :=
  0 < len → ∃ b off, a = some ⟨b, off, none⟩ ∧ b < B ∧ ∀ k, k < len →
    w.cell? ⟨b, off + k * 3, none⟩ = some (.int .i64 (L k).op) ∧ w.cell? ⟨b, off + k * 3 + 1, none⟩ = some (.int .i64 (L k).n) ∧ w.cell? ⟨b, off + k * 3 + 2, none⟩ = some (.string (L k).s)

def okAct (x : Act) : Bool := decide (x.s.size ≤ 200)
def okActs (len : Nat) (L : Nat → Act) : Bool := decide (len ≤ 80) && (List.range len).all fun k => okAct (L k)

theorem okActs_bad {len k : Nat} {L : Nat → Act} (hk : k < len) (h : okAct (L k) = false) : okActs len L = false := by
  unfold okActs
  rw [Bool.and_eq_false_iff]
  right
  rw [List.all_eq_false]
  exact ⟨k, by simpa using hk, by simp [h]⟩
theorem okActs_good {len : Nat} {L : Nat → Act} (hl : len ≤ 80) (h : ∀ j, j < len → okAct (L j) = true) : okActs len L = true := by
  unfold okActs
  simp only [Bool.and_eq_true, decide_eq_true_eq, List.all_eq_true, List.mem_range]
  exact ⟨hl, h⟩
theorem okActs_len {len : Nat} {L : Nat → Act} (h : okActs len L = true) : len ≤ 80 := by
  simp only [okActs, Bool.and_eq_true, decide_eq_true_eq] at h
  exact h.1
theorem okActs_size {len : Nat} {L : Nat → Act} (h : okActs len L = true) (k : Nat) (hk : k < len) : (L k).s.size ≤ 200 := by
  simp only [okActs, Bool.and_eq_true, decide_eq_true_eq, List.all_eq_true, List.mem_range] at h
  simpa [okAct] using h.2 k hk
theorem ActsAt.fr {w w' : World} {B : Nat} {a : Option Addr} {len : Nat} {L : Nat → Act} {S : List Nat} (h : ActsAt w B a len L) (hf : Fr S w w') (hB : B ≤ w.heap.size) (hS : ∀ k, k ∈ S → B ≤ k) : ActsAt w' B a len L := by
  intro hl
  obtain ⟨b, off, ha, hb, hc⟩ := h hl
  have hn : ∀ o, w'.cell? ⟨b, o, none⟩ = w.cell? ⟨b, o, none⟩ := fun o => World.cell?_of_block (w := w) (hf.block b (by omega) (fun hs => absurd (hS b hs) (by omega)))
  exact ⟨b, off, ha, hb, fun k hk => by rw [hn, hn, hn]; exact hc k hk⟩

/-- The acts that lie in memory from an address on. -/
def actsIn (w : World) (a : Option Addr) (k : Nat) : Act :=
  ⟨cellInt w ⟨blockOf a, offOf a + k * 3, none⟩, cellInt w ⟨blockOf a, offOf a + k * 3 + 1, none⟩, cellStr w ⟨blockOf a, offOf a + k * 3 + 2, none⟩⟩
theorem acts_open {H : Type} {enc : TypeId × Value → H} {w : World} {sp : Nat → Bool} {held : Bool} {a : Option Addr} {len : Nat}
    (s : 0 < len → ∃ b off, a = some ⟨b, off, none⟩ ∧ b < w.heap.size ∧
      ∀ k, k < len → ∃ (cs : List Value) (m : Nat) (y : DataW H × List MemPlace), cs.length = 3 ∧ (∀ j, j < 3 → w.cell? ⟨b, off + k * 3 + j, none⟩ = cs[j]?) ∧ DataW.trod enc Try.prog w 0 sp held m 35 cs = some y) :
    ActsAt w w.heap.size a len (actsIn w a) := by
  intro hl
  obtain ⟨b, off, rfl, hb, hk⟩ := s hl
  refine ⟨b, off, rfl, hb, fun k hlt => ?_⟩
  obtain ⟨cs, m, y, hcl, hcell, ht⟩ := hk k hlt
  have hf := struct_fields Try.underlying35 (by kernel_rfl) ht
  obtain ⟨v0, m0, z0, e0, t0⟩ := hf 0 _ rfl (by omega)
  obtain ⟨v1, m1, z1, e1, t1⟩ := hf 1 _ rfl (by omega)
  obtain ⟨v2, m2, z2, e2, t2⟩ := hf 2 _ rfl (by omega)
  obtain ⟨n0, rfl, _⟩ := int_cell Try.underlying3 t0
  obtain ⟨n1, rfl, _⟩ := int_cell Try.underlying3 t1
  obtain ⟨n2, rfl, _⟩ := str_cell Try.underlying9 t2
  have c0 := (hcell 0 (by omega)).trans e0
  have c1 := (hcell 1 (by omega)).trans e1
  have c2 := (hcell 2 (by omega)).trans e2
  simp only [Nat.add_zero] at c0
  refine ⟨?_, ?_, ?_⟩ <;> simp [actsIn, blockOf, offOf, cellInt, cellStr, c0, c1, c2]

set_option maxHeartbeats 400000 in
theorem light_any (w : World) (B : Nat) (a : Option Addr) (len cap : Nat) (L : Nat → Act) (h : ActsAt w B a len L) (hl : len ≤ maxLen) :
    Calls Try.prog 13 #[.slice a len cap] w fun e w' => e = .returned (.bool (okActs len L)) ∧ w = w' := by
  unfold maxLen at hl
  by_cases h80 : 80 < len
  · go_enter Try.func13, Try.ntmps13
    go_wp2
    go_ret
    exact ⟨ret_bool (by simp [okActs]; omega), rfl⟩
  · go_enter Try.func13, Try.ntmps13
    go_wp2
    go_loop [3] (fun i => ∃ k : Nat, k ≤ len ∧ i = .int .i64 k ∧ ∀ j, j < k → okAct (L j) = true) (fun i => len - (intOf i).toNat)
    case atStart => exact ⟨0, Nat.zero_le _, rfl, fun j hj => by omega⟩
    case round =>
      obtain ⟨k, hk, rfl, hok⟩ := hrel
      by_cases hlt : k < len
      · obtain ⟨b, off, rfl, hb, hc⟩ := h (by omega)
        obtain ⟨c0, c1, c2⟩ := hc k hlt
        clear hc h
        go_wp2
        · have hbad : (200 : Int) < ((L k).s.size : Int) := by assumption
          go_ret
          exact ⟨ret_bool (by rw [okActs_bad hlt (by simp [okAct]; omega)]), rfl⟩
        · have hgood : ((L k).s.size : Int) ≤ 200 := by assumption
          go_round
          case rel => exact ⟨k + 1, by omega, by go_num, fun j hj => by
            rcases Nat.lt_succ_iff_lt_or_eq.1 hj with h1 | rfl
            · exact hok j h1
            · simp [okAct]; omega⟩
          case measure => simp [intOf]; omega
      · go_wp2
        go_ret
        exact ⟨ret_bool (by rw [okActs_good (by omega) fun j hj => hok j (by omega)]), rfl⟩
end Go.Proofs.Ytlbcdbejemiinaa
