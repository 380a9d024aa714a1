/- The acts of a script, as they lie in memory; the chapter's example; the contract of made(). -/
import Derived.Test.YtjkhkepckocjkaaInts
import Derived.Test.YtjkhkepckocjkaaOpen
import Derived.StillTailTactics
namespace Go.Proofs.Ytjkhkepckocjkaa
open Go.RowKit

structure Act where
  op : Int
  who : Int
  pl : Int
/-- Acts that lie in a block below B. -/
def ActsAt (w : World) (B : Nat) (a : Option Addr) (len : Nat) (L : Nat → Act) : Prop :=
  0 < len → ∃ b off, a = some ⟨b, off, none⟩ ∧ b < B ∧ ∀ k, k < len →
    w.cell? ⟨b, off + k * 3, none⟩ = some (.int .i64 (L k).op) ∧ w.cell? ⟨b, off + k * 3 + 1, none⟩ = some (.int .i64 (L k).who) ∧ w.cell? ⟨b, off + k * 3 + 2, none⟩ = some (.int .i64 (L k).pl)
theorem ActsAt.fr {w w' : World} {B : Nat} {a : Option Addr} {len : Nat} {L : Nat → Act} {S : List Nat} (h : ActsAt w B a len L) (hf : Fr S w w') (hB : B ≤ w.heap.size) (hS : ∀ k, k ∈ S → B ≤ k) : ActsAt w' B a len L := by
  intro hl
  obtain ⟨b, off, ha, hb, hc⟩ := h hl
  have hn : ∀ o, w'.cell? ⟨b, o, none⟩ = w.cell? ⟨b, o, none⟩ := fun o => World.cell?_of_block (w := w) (hf.block b (by omega) (fun hs => absurd (hS b hs) (by omega)))
  exact ⟨b, off, ha, hb, fun k hk => by rw [hn, hn, hn]; exact hc k hk⟩
def actsIn (w : World) (a : Option Addr) (k : Nat) : Act :=
  ⟨cellInt w ⟨blockOf a, offOf a + k * 3, none⟩, cellInt w ⟨blockOf a, offOf a + k * 3 + 1, none⟩, cellInt w ⟨blockOf a, offOf a + k * 3 + 2, none⟩⟩
theorem acts_open {H : Type} {enc : TypeId × Value → H} {w : World} {sp : Nat → Bool} {held : Bool} {a : Option Addr} {len : Nat}
    (s : 0 < len → ∃ b off, a = some ⟨b, off, none⟩ ∧ b < w.heap.size ∧
      ∀ k, k < len → ∃ (cs : List Value) (m : Nat) (y : DataW H × List MemPlace), cs.length = 3 ∧ (∀ j, j < 3 → w.cell? ⟨b, off + k * 3 + j, none⟩ = cs[j]?) ∧ DataW.trod enc Try.prog w 0 sp held m 31 cs = some y) :
    ActsAt w w.heap.size a len (actsIn w a) := by
  intro hl
  obtain ⟨b, off, rfl, hb, hk⟩ := s hl
  refine ⟨b, off, rfl, hb, fun k hlt => ?_⟩
  obtain ⟨cs, m, y, hcl, hcell, ht⟩ := hk k hlt
  have hf := struct_fields Try.underlying31 (by kernel_rfl) ht
  obtain ⟨v0, m0, z0, e0, t0⟩ := hf 0 _ rfl (by omega)
  obtain ⟨v1, m1, z1, e1, t1⟩ := hf 1 _ rfl (by omega)
  obtain ⟨v2, m2, z2, e2, t2⟩ := hf 2 _ rfl (by omega)
  obtain ⟨n0, rfl, _⟩ := int_cell Try.underlying3 t0
  obtain ⟨n1, rfl, _⟩ := int_cell Try.underlying3 t1
  obtain ⟨n2, rfl, _⟩ := int_cell Try.underlying3 t2
  have c0 := (hcell 0 (by omega)).trans e0
  have c1 := (hcell 1 (by omega)).trans e1
  have c2 := (hcell 2 (by omega)).trans e2
  simp only [Nat.add_zero] at c0
  refine ⟨?_, ?_, ?_⟩ <;> simp [actsIn, blockOf, offOf, cellInt, c0, c1, c2]

def stepL (l : List Wt) (A : Act) : List Wt := if A.op = 0 then addL l A.who A.pl else if A.op = 1 then wakeL l A.pl else remL l A.who
def runL (L : Nat → Act) : Nat → List Wt
  | 0 => []
  | k + 1 => stepL (runL L k) (L k)
theorem addL_length (l : List Wt) (who pl : Int) : (addL l who pl).length ≤ l.length + 1 := by unfold addL; split <;> simp
theorem remL_length (l : List Wt) (who : Int) : (remL l who).length ≤ l.length := by unfold remL; split <;> simp; omega
theorem wakeL_length (l : List Wt) (pl : Int) : (wakeL l pl).length = l.length := by simp [wakeL]
theorem stepL_length (l : List Wt) (A : Act) : (stepL l A).length ≤ l.length + 1 := by
  unfold stepL
  split
  · exact addL_length _ _ _
  · split
    · rw [wakeL_length]; omega
    · have := remL_length l A.who; omega
theorem runL_length (L : Nat → Act) (k : Nat) : (runL L k).length ≤ k := by
  induction k with
  | zero => simp [runL]
  | succ k ih => have := stepL_length (runL L k) (L k); simp only [runL]; omega

/-- What a hub owns is new. -/
def New (B : Nat) (own : Option Nat) : Prop := ∀ g, own = some g → B ≤ g
theorem new_none (B : Nat) : New B none := by intro g h; cases h
theorem New.next {B : Nat} {own own' : Option Nat} {w : World} (h : New B own) (ho : own' = own ∨ ∃ g, own' = some g ∧ w.heap.size ≤ g) (hw : B ≤ w.heap.size) : New B own' := by
  intro g hg
  rcases ho with ho | ⟨g2, ho, h2⟩
  · exact h g (ho ▸ hg)
  · rw [ho] at hg
    cases hg
    omega
theorem New.fr {B r : Nat} {own : Option Nat} {w w1 w2 : World} (h : New B own) (hr : B ≤ r) (f : Fr [] w w1) (hB : w.heap.size = B) (k : Fr (r :: own.toList) w1 w2) : Fr [] w w2 :=
  f.step k fun x hx => by
    simp at hx
    rcases hx with rfl | hx
    · exact .inr (by omega)
    · exact .inr (by have := h x hx; omega)

set_option maxRecDepth 100000 in
set_option maxHeartbeats 2000000 in
theorem first_true (w : World) : Calls Try.prog 7 #[] w fun e w' => e = .returned (.bool true) ∧ Fr [] w w' := by
  obtain ⟨B, hB⟩ : ∃ B, w.heap.size = B := ⟨_, rfl⟩
  go_enter Try.func7, Try.ntmps7
  go_wp2_with fail
  refine (new_any _).mono ?_
  rintro e w1 ⟨r, rfl, hr, h1, f1⟩
  rw [hB] at hr
  have HB := Lib.hid hB
  clear hB
  go_wp2_with fail
  refine (add_any w1 r _ _ _ 3 7 h1 (by simp)).mono ?_
  rintro e w2 ⟨v2, own2, rfl, h2, f2, o2⟩
  rw [show addL [] 3 7 = [⟨3, 7, false⟩] by simp [addL, has, at?]] at h2
  rw [show (!has 3 []) = true by simp [has, at?]]
  have f02 := (new_none B).fr hr f1 HB.out f2
  have n2 := (new_none B).next o2 (by have := HB.out; have := f1.size; omega)
  clear f1 f2 o2 h1
  go_wp2_with fail
  refine (add_any w2 r _ _ _ 1 7 h2 (by simp)).mono ?_
  rintro e w3 ⟨v3, own3, rfl, h3, f3, o3⟩
  rw [show addL [⟨3, 7, false⟩] 1 7 = [⟨3, 7, false⟩, ⟨1, 7, false⟩] by simp [addL, has, at?]] at h3
  rw [show (!has 1 [⟨3, 7, false⟩]) = true by simp [has, at?]]
  have f03 := n2.fr hr f02 HB.out f3
  have n3 := n2.next o3 (by have := HB.out; have := f02.size; omega)
  clear f02 f3 o3 h2 n2
  go_wp2_with fail
  refine (wake_any w3 r _ _ _ 7 h3 (by simp)).mono ?_
  rintro e w4 ⟨v4, own4, rfl, s4, h4, f4, o4, m4⟩
  rw [show wokenL [⟨3, 7, false⟩, ⟨1, 7, false⟩] 7 = [3, 1] by simp [wokenL]] at s4 m4
  rw [show wakeL [⟨3, 7, false⟩, ⟨1, 7, false⟩] 7 = [⟨3, 7, true⟩, ⟨1, 7, true⟩] by simp [wakeL]] at h4
  have f04 := n3.fr hr f03 HB.out (f4.mono (fun k hk => List.mem_cons_of_mem _ hk))
  have i4 := s4.ints m4
  clear f03 f4 h3 o4 m4 s4
  have i4' : IntsAt (w4.alloc (.cells #[.int .i64 3, .int .i64 1] 3)) (.slice (some ⟨w4.heap.size, 0, none⟩) 2 2) [3, 1] := ⟨_, _, rfl, fun _ => ⟨_, _, rfl⟩, cells_of (Holds.new w4 3 #[.int .i64 3, .int .i64 1])⟩
  go_wp2_with fail
  refine (ints_true _ _ _ [3, 1] (i4.fr0 ((Fr.refl [] w4).alloc _)) i4' (by simp)).mono ?_
  rintro e w5 ⟨rfl, n5, rfl⟩
  have f45 := ((Fr.refl [] w4).alloc (.cells #[.int .i64 3, .int .i64 1] 3)).drewN n5
  have h5 := h4.fr0 f45
  have f05 := f04.trans f45
  clear f04 f45 h4 i4 i4'
  go_wp2_with fail
  refine (wake_any _ r _ _ _ 7 h5 (by simp)).mono ?_
  rintro e w6 ⟨v6, own6, rfl, s6, h6, f6, o6, m6⟩
  rw [show wokenL [⟨3, 7, true⟩, ⟨1, 7, true⟩] 7 = [] by simp [wokenL]] at s6
  rw [show wakeL [⟨3, 7, true⟩, ⟨1, 7, true⟩] 7 = [⟨3, 7, true⟩, ⟨1, 7, true⟩] by simp [wakeL]] at h6
  have f06 := n3.fr hr f05 HB.out (f6.mono (fun k hk => List.mem_cons_of_mem _ hk))
  obtain ⟨a6, c6, rfl⟩ := s6.form
  clear f05 f6 h5 o6 m6 s6
  go_wp2_with fail
  refine (woken_any _ r _ _ _ 3 h6 (by simp)).mono ?_
  rintro e w7 ⟨rfl, f7⟩
  rw [show isWoken [⟨3, 7, true⟩, ⟨1, 7, true⟩] 3 = true by simp [isWoken, at?, List.findIdx?_cons]]
  have h7 := h6.fr0 f7
  go_wp2_with fail
  refine (len_any _ r _ _ _ h7).mono ?_
  rintro e w8 ⟨rfl, rfl⟩
  go_wp2_with fail
  go_ret
  exact ⟨rfl, f06.trans f7⟩

set_option maxRecDepth 100000 in
set_option maxHeartbeats 2000000 in
theorem made_any (w : World) (a : Option Addr) (len cap : Nat) (L : Nat → Act) (hA : ActsAt w w.heap.size a len L) (hl : len ≤ 100) :
    Calls Try.prog 22 #[.slice a len cap] w fun e w' => ∃ r v own, e = .returned (.pointer (some ⟨r, 0, none⟩)) ∧ w.heap.size ≤ r ∧ HubAt 45 48 w' r v (runL L len) own ∧ New w.heap.size own ∧ Fr [] w w' := by
  obtain ⟨B, hB⟩ : ∃ B, w.heap.size = B := ⟨_, rfl⟩
  rw [hB] at hA ⊢
  go_enter Try.func22, Try.ntmps22
  go_wp2_with fail
  refine (new_any _).mono ?_
  rintro e w1 ⟨r, rfl, hr, h1, f1⟩
  rw [hB] at hr
  have hA1 := hA.fr f1 (by omega) (by simp)
  have HB := Lib.hid hB
  clear hB hA
  go_wp2_with fail
  go_loopw [4] (fun i wr => ∃ (k : Nat) (v : Value) (own : Option Nat), k ≤ len ∧ i = .int .i64 k ∧ HubAt 45 48 wr r v (runL L k) own ∧ New B own ∧ Fr [] w wr ∧ ActsAt wr B a len L) (fun i _ => len - (intOf i).toNat)
  case atStart => exact ⟨0, _, _, Nat.zero_le _, rfl, h1, new_none _, f1, hA1⟩
  case round =>
    obtain ⟨k, v, own, hk, rfl, h, nw, fr, hA⟩ := hrel
    clear h1 f1 hA1
    by_cases hlt : k < len
    · obtain ⟨b, off, rfl, hb, hc⟩ := hA (by omega)
      obtain ⟨e0, e1, e2⟩ := hc k hlt
      clear hc
      have hll := runL_length L k
      have hstep : runL L (k + 1) = stepL (runL L k) (L k) := rfl
      generalize hM : runL L k = M at h hll hstep
      have hszB : B ≤ wr.heap.size := by have := fr.size; have := HB.out; omega
      have hk0 : (0 : Int) ≤ (k : Int) := by omega
      have hk1 : (k : Int) < (len : Int) := by omega
      have HM := Lib.hid hM
      clear hM
      by_cases h0 : (L k).op = 0
      · rw [h0] at e0
        have hs : runL L (k + 1) = addL M (L k).who (L k).pl := by rw [hstep]; simp [stepL, h0]
        have HS := Lib.hid hs
        clear hs hstep h0
        go_wp2
        go_still_tail 11, (by kernel_rfl)
        have hd := h.fr0 ((Fr.refl [] wr).drew)
        have frd := fr.drew
        go_wp2_with fail
        refine (add_any wr.drew r v M own (L k).who (L k).pl hd (by omega)).mono ?_
        rintro e w2 ⟨v2, own2, rfl, h2, f2, o2⟩
        have f02 := nw.fr hr frd HB.out f2
        have n2 := nw.next o2 hszB
        have hA2 := hA.fr (((Fr.refl (r :: own.toList) wr).drew).trans f2) hszB (by intro q hq; simp at hq; rcases hq with rfl | hq; exact hr; exact nw q hq)
        clear f2 o2 hd
        go_wp2_with fail
        go_roundw
        case rel => exact ⟨k + 1, v2, own2, by omega, by go_num, HS.out ▸ h2, n2, f02, hA2⟩
        case measure => simp [intOf]; omega
      by_cases h1 : (L k).op = 1
      · rw [h1] at e0
        have hs : runL L (k + 1) = wakeL M (L k).pl := by rw [hstep]; simp [stepL, h1]
        have HS := Lib.hid hs
        clear hs hstep h0 h1
        go_wp2_with fail
        refine (wake_any wr r v M own (L k).pl h (by omega)).mono ?_
        rintro e w2 ⟨v', own', rfl, _, h2, f2, _, _⟩
        have f02 := nw.fr hr fr HB.out (f2.mono (fun k hk => List.mem_cons_of_mem _ hk))
        have hA2 := hA.fr f2 hszB (by intro q hq; exact nw q (by simpa using hq))
        go_wp2_with fail
        go_roundw
        case rel => exact ⟨k + 1, v, own, by omega, by go_num, HS.out ▸ h2, nw, f02, hA2⟩
        case measure => simp [intOf]; omega
      · have hs : runL L (k + 1) = remL M (L k).who := by rw [hstep]; simp [stepL, h0, h1]
        have HS := Lib.hid hs
        have g0 : ((L k).op == 0) = false := by simpa using h0
        have g1 : ((L k).op == 1) = false := by simpa using h1
        clear hs hstep h0 h1
        go_wp2_with fail
        refine (remove_any wr r v M own (L k).who h (by omega)).mono ?_
        rintro e w2 ⟨v2, own2, rfl, h2, f2, o2⟩
        have f02 := nw.fr hr fr HB.out f2
        have n2 := nw.next o2 hszB
        have hA2 := hA.fr f2 hszB (by intro q hq; simp at hq; rcases hq with rfl | hq; exact hr; exact nw q hq)
        clear f2 o2
        go_wp2_with fail
        go_roundw
        case rel => exact ⟨k + 1, v2, own2, by omega, by go_num, HS.out ▸ h2, n2, f02, hA2⟩
        case measure => simp [intOf]; omega
    · obtain rfl : k = len := by omega
      go_wp2
      go_ret
      exact ⟨r, v, own, rfl, hr, h, nw, fr⟩
end Go.Proofs.Ytjkhkepckocjkaa
