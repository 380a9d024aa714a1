/- The contracts of the pipe's methods (package pipe) and of the reference's. -/
import Derived.Test.YtlbcdbejemiinaaRows
import Derived.Test.YtlbcdbejemiinaaWords
namespace Go.Proofs.Ytlbcdbejemiinaa
open Go.RowKit

def PipeAt (w : World) (g : Nat) (room : Int) (s : ByteArray) (c : Bool) : Prop := Holds w g 40 #[.int .i64 room, .string s, .bool c]

set_option maxHeartbeats 400000 in
theorem new_any (room : Int) (w : World) :
    Calls Try.prog 7 #[.int .i64 room] w fun e w' => ∃ g, e = .returned (.pointer (some ⟨g, 0, none⟩)) ∧ w.heap.size ≤ g ∧ PipeAt w' g (max room 0) ByteArray.empty false ∧ Fr [] w w' := by
  by_cases hr : room < 0
  · go_enter Try.func7, Try.ntmps7
    go_wp2
    go_ret
    refine ⟨_, rfl, Nat.le_refl _, ?_, (Fr.refl _ _).alloc _⟩
    rw [Int.max_eq_right (by omega)]
    exact Holds.new _ _ _
  · go_enter Try.func7, Try.ntmps7
    go_wp2
    go_ret
    refine ⟨_, rfl, Nat.le_refl _, ?_, (Fr.refl _ _).alloc _⟩
    rw [Int.max_eq_left (by omega)]
    exact Holds.new _ _ _

set_option maxHeartbeats 400000 in
theorem look_any (w : World) (g : Nat) (room : Int) (s : ByteArray) (c : Bool) (h : PipeAt w g room s c) :
    Calls Try.prog 9 #[.pointer (some ⟨g, 0, none⟩)] w fun e w' => e = .returned (.string s) ∧ w = w' := by
  have c1 := h.cell 1
  go_enter Try.func9, Try.ntmps9
  go_wp2
  go_ret
  exact ⟨rfl, rfl⟩

set_option maxHeartbeats 400000 in
theorem len_any (w : World) (g : Nat) (room : Int) (s : ByteArray) (c : Bool) (h : PipeAt w g room s c) :
    Calls Try.prog 12 #[.pointer (some ⟨g, 0, none⟩)] w fun e w' => e = .returned (.int .i64 s.size) ∧ w = w' := by
  have c1 := h.cell 1
  go_enter Try.func12, Try.ntmps12
  go_wp2
  go_ret
  exact ⟨rfl, rfl⟩

set_option maxHeartbeats 400000 in
theorem closed_any (w : World) (g : Nat) (room : Int) (s : ByteArray) (c : Bool) (h : PipeAt w g room s c) :
    Calls Try.prog 18 #[.pointer (some ⟨g, 0, none⟩)] w fun e w' => e = .returned (.bool c) ∧ w = w' := by
  have c1 := h.cell 2
  go_enter Try.func18, Try.ntmps18
  go_wp2
  go_ret
  exact ⟨rfl, rfl⟩

set_option maxHeartbeats 400000 in
theorem close_any (w : World) (g : Nat) (room : Int) (s : ByteArray) (c : Bool) (h : PipeAt w g room s c) :
    Calls Try.prog 17 #[.pointer (some ⟨g, 0, none⟩)] w fun e w' => e = .returned (.tuple #[]) ∧ PipeAt w' g room s true ∧ Fr [g] w w' := by
  have c1 := h.cell 2
  have f1 := h.frozen 2
  go_enter Try.func17, Try.ntmps17
  go_wp2
  go_end0
  exact ⟨rfl, h.set 2 _, (Fr.refl _ _).setCell (by simp) _⟩

set_option maxHeartbeats 400000 in
theorem room_any (w : World) (g : Nat) (room : Int) (s : ByteArray) (c : Bool) (h : PipeAt w g room s c) (h0 : 0 ≤ room) (h1 : room ≤ 9223372036854775807) (hs : (s.size : Int) ≤ room) :
    Calls Try.prog 10 #[.pointer (some ⟨g, 0, none⟩)] w fun e w' => e = .returned (.int .i64 (room - s.size)) ∧ ∃ n, w' = w.drewN n := by
  have c0 := h.cell 0
  have c1 := h.cell 1
  go_enter Try.func10, Try.ntmps10
  go_wp2
  go_quiet (fail)
  go_wp2
  go_ret
  exact ⟨rfl, _, rfl⟩

/-- Is there room for s behind b? -/
def fits (room : Int) (b : ByteArray) (c : Bool) (s : ByteArray) : Bool := !c && decide ((s.size : Int) ≤ room - b.size)

set_option maxHeartbeats 400000 in
theorem put_yes (w : World) (g : Nat) (room : Int) (b : ByteArray) (c : Bool) (s : ByteArray) (h : PipeAt w g room b c) (h0 : 0 ≤ room) (h1 : room ≤ 9223372036854775807) (hs : (b.size : Int) ≤ room)
    (hf : fits room b c s = true) :
    Calls Try.prog 8 #[.pointer (some ⟨g, 0, none⟩), .string s] w fun e w' => e = .returned (.bool true) ∧ PipeAt w' g room (b ++ s) c ∧ Fr [g] w w' := by
  simp [fits] at hf
  obtain ⟨rfl, hf⟩ := hf
  have c1 := h.cell 1
  have c2 := h.cell 2
  have f1 := h.frozen 1
  go_enter Try.func8, Try.ntmps8
  go_wp2_with fail
  refine (room_any w g room b false h h0 h1 hs).mono ?_
  rintro e w' ⟨rfl, n, rfl⟩
  go_wp2
  go_ret
  exact ⟨rfl, (h.drewN n).set 1 _, ((Fr.refl _ _).drewN n).setCell (by simp) _⟩

set_option maxHeartbeats 400000 in
theorem put_no (w : World) (g : Nat) (room : Int) (b : ByteArray) (c : Bool) (s : ByteArray) (h : PipeAt w g room b c) (h0 : 0 ≤ room) (h1 : room ≤ 9223372036854775807) (hs : (b.size : Int) ≤ room)
    (hf : fits room b c s = false) :
    Calls Try.prog 8 #[.pointer (some ⟨g, 0, none⟩), .string s] w fun e w' => e = .returned (.bool false) ∧ PipeAt w' g room b c ∧ Fr [g] w w' := by
  have c1 := h.cell 1
  have c2 := h.cell 2
  cases c
  · have hf' : room - b.size < s.size := by simp [fits] at hf; omega
    go_enter Try.func8, Try.ntmps8
    go_wp2_with fail
    refine (room_any w g room b false h h0 h1 hs).mono ?_
    rintro e w' ⟨rfl, n, rfl⟩
    go_wp2
    go_ret
    exact ⟨rfl, h.drewN n, (Fr.refl _ _).drewN n⟩
  · go_enter Try.func8, Try.ntmps8
    go_wp2
    go_ret
    exact ⟨rfl, h, Fr.refl _ _⟩

theorem put_any (w : World) (g : Nat) (room : Int) (b : ByteArray) (c : Bool) (s : ByteArray) (h : PipeAt w g room b c) (h0 : 0 ≤ room) (h1 : room ≤ 9223372036854775807) (hs : (b.size : Int) ≤ room) :
    Calls Try.prog 8 #[.pointer (some ⟨g, 0, none⟩), .string s] w fun e w' => e = .returned (.bool (fits room b c s)) ∧ PipeAt w' g room (if fits room b c s then b ++ s else b) c ∧ Fr [g] w w' := by
  by_cases hf : fits room b c s = true
  · rw [hf]; exact put_yes w g room b c s h h0 h1 hs hf
  · rw [Bool.eq_false_iff.2 hf]; exact put_no w g room b c s h h0 h1 hs (Bool.eq_false_iff.2 hf)

/-- How many bytes a Take of n takes. -/
def takes (n : Int) (b : ByteArray) : Nat := (min (max n 0) b.size).toNat
theorem takes_le (n : Int) (b : ByteArray) : takes n b ≤ b.size := by unfold takes; omega


set_option maxHeartbeats 400000 in
theorem take_any (w : World) (g : Nat) (room : Int) (b : ByteArray) (c : Bool) (n : Int) (h : PipeAt w g room b c) (h1 : b.size ≤ 9223372036854775807) :
    Calls Try.prog 11 #[.pointer (some ⟨g, 0, none⟩), .int .i64 n] w fun e w' => e = .returned (.string (b.extract 0 (takes n b))) ∧ PipeAt w' g room (b.extract (takes n b) b.size) c ∧ Fr [g] w w' := by
  have c1 := h.cell 1
  have f1 := h.frozen 1
  by_cases hn : n < 0
  · rw [show takes n b = 0 by unfold takes; omega, show b.extract 0 0 = ByteArray.empty by simp, show b.extract 0 b.size = b by simp]
    go_enter Try.func11, Try.ntmps11
    go_wp2
    go_ret
    exact ⟨rfl, h.set 1 _, (Fr.refl _ _).setCell (by simp) _⟩
  · obtain ⟨m, rfl⟩ := Int.eq_ofNat_of_zero_le (by omega : 0 ≤ n)
    by_cases hm : m ≤ b.size
    · rw [show takes (m : Int) b = m by unfold takes; omega]
      go_enter Try.func11, Try.ntmps11
      go_wp2
      go_ret
      exact ⟨rfl, h.set 1 _, (Fr.refl _ _).setCell (by simp) _⟩
    · rw [show takes (m : Int) b = b.size by unfold takes; omega, show b.extract 0 b.size = b by simp, show b.extract b.size b.size = ByteArray.empty by simp]
      go_enter Try.func11, Try.ntmps11
      go_wp2
      go_ret
      exact ⟨rfl, h.set 1 _, (Fr.refl _ _).setCell (by simp) _⟩

def RefAt (w : World) (g : Nat) (room : Int) (s : ByteArray) (c : Bool) : Prop := Holds w g 37 #[.int .i64 room, .string s, .bool c]

set_option maxHeartbeats 400000 in
theorem rnew_any (room : Int) (w : World) :
    Calls Try.prog 14 #[.int .i64 room] w fun e w' => ∃ g, e = .returned (.pointer (some ⟨g, 0, none⟩)) ∧ w.heap.size ≤ g ∧ RefAt w' g (max room 0) ByteArray.empty false ∧ Fr [] w w' := by
  by_cases hr : room < 0
  · go_enter Try.func14, Try.ntmps14
    go_wp2
    go_ret
    refine ⟨_, rfl, Nat.le_refl _, ?_, (Fr.refl _ _).alloc _⟩
    rw [Int.max_eq_right (by omega)]
    exact Holds.new _ _ _
  · go_enter Try.func14, Try.ntmps14
    go_wp2
    go_ret
    refine ⟨_, rfl, Nat.le_refl _, ?_, (Fr.refl _ _).alloc _⟩
    rw [Int.max_eq_left (by omega)]
    exact Holds.new _ _ _

set_option maxHeartbeats 400000 in
theorem rtake_any (w : World) (g : Nat) (room : Int) (b : ByteArray) (c : Bool) (n : Int) (h : RefAt w g room b c) (h1 : b.size ≤ 9223372036854775807) :
    Calls Try.prog 16 #[.pointer (some ⟨g, 0, none⟩), .int .i64 n] w fun e w' => e = .returned (.string (b.extract 0 (takes n b))) ∧ RefAt w' g room (b.extract (takes n b) b.size) c ∧ Fr [g] w w' := by
  have c1 := h.cell 1
  have f1 := h.frozen 1
  by_cases hn : n < 0
  · rw [show takes n b = 0 by unfold takes; omega, show b.extract 0 0 = ByteArray.empty by simp, show b.extract 0 b.size = b by simp]
    go_enter Try.func16, Try.ntmps16
    go_wp2
    go_ret
    exact ⟨rfl, h.set 1 _, (Fr.refl _ _).setCell (by simp) _⟩
  · obtain ⟨m, rfl⟩ := Int.eq_ofNat_of_zero_le (by omega : 0 ≤ n)
    by_cases hm : m ≤ b.size
    · rw [show takes (m : Int) b = m by unfold takes; omega]
      go_enter Try.func16, Try.ntmps16
      go_wp2
      go_ret
      exact ⟨rfl, h.set 1 _, (Fr.refl _ _).setCell (by simp) _⟩
    · rw [show takes (m : Int) b = b.size by unfold takes; omega, show b.extract 0 b.size = b by simp, show b.extract b.size b.size = ByteArray.empty by simp]
      go_enter Try.func16, Try.ntmps16
      go_wp2
      go_ret
      exact ⟨rfl, h.set 1 _, (Fr.refl _ _).setCell (by simp) _⟩

set_option maxHeartbeats 400000 in
theorem rput_any (w : World) (g : Nat) (room : Int) (b : ByteArray) (c : Bool) (s : ByteArray) (hp : RefAt w g room b c) (h0 : 0 ≤ room) (h1 : room ≤ 9223372036854775807) (hs : (b.size : Int) ≤ room) :
    Calls Try.prog 15 #[.pointer (some ⟨g, 0, none⟩), .string s] w fun e w' => e = .returned (.bool (fits room b c s)) ∧ RefAt w' g room (if fits room b c s then b ++ s else b) c ∧ Fr [g] w w' := by
  have c0 := hp.cell 0
  have c1 := hp.cell 1
  have c2 := hp.cell 2
  have f1 := hp.frozen 1
  cases c
  · by_cases hf : (s.size : Int) ≤ room - b.size
    · rw [show fits room b false s = true by simp [fits]; omega]
      go_enter Try.func15, Try.ntmps15
      go_wp2
      go_quiet (fail)
      go_wp2
      go_ret
      exact ⟨rfl, (hp.drewN _).set 1 _, ((Fr.refl _ _).drewN _).setCell (by simp) _⟩
    · rw [show fits room b false s = false by simp [fits]; omega]
      go_enter Try.func15, Try.ntmps15
      go_wp2
      go_quiet (fail)
      go_wp2
      go_ret
      exact ⟨rfl, hp.drewN _, (Fr.refl _ _).drewN _⟩
  · rw [show fits room b true s = false by simp [fits]]
    go_enter Try.func15, Try.ntmps15
    go_wp2
    go_quiet (fail)
    go_wp2
    go_ret
    exact ⟨rfl, hp.drewN _, (Fr.refl _ _).drewN _⟩

theorem take_lit (w : World) (g : Nat) (room : Int) (b : ByteArray) (c : Bool) (n : Int) (h : PipeAt w g room b c) (h1 : b.size ≤ 9223372036854775807) (a r : ByteArray)
    (ha : b.extract 0 (takes n b) = a) (hr : b.extract (takes n b) b.size = r) :
    Calls Try.prog 11 #[.pointer (some ⟨g, 0, none⟩), .int .i64 n] w fun e w' => e = .returned (.string a) ∧ PipeAt w' g room r c ∧ Fr [g] w w' := by
  subst ha
  subst hr
  exact take_any w g room b c n h h1
theorem room_lit (w : World) (g : Nat) (room : Int) (s : ByteArray) (c : Bool) (h : PipeAt w g room s c) (h0 : 0 ≤ room) (h1 : room ≤ 9223372036854775807) (hs : (s.size : Int) ≤ room) (v : Int) (hv : room - s.size = v) :
    Calls Try.prog 10 #[.pointer (some ⟨g, 0, none⟩)] w fun e w' => e = .returned (.int .i64 v) ∧ ∃ n, w' = w.drewN n := by
  subst hv
  exact room_any w g room s c h h0 h1 hs

set_option maxHeartbeats 400000 in
/-- What first() fixes: the chapter's example. -/
theorem first_true (w : World) : Calls Try.prog 6 #[] w fun e w' => e = .returned (.bool true) ∧ Fr [] w w' := by
  go_enter Try.func6, Try.ntmps6
  go_wp2_with fail
  refine (new_any 3 _).mono ?_
  rintro e w1 ⟨g, rfl, hg, p1, r1⟩
  go_wp2_with fail
  refine (put_yes w1 _ 3 ⟨#[]⟩ _ _ p1 (by decide) (by decide) (by decide) (by decide)).mono ?_
  rintro e w2 ⟨rfl, p2, r2⟩
  go_wp2_with fail
  refine (put_no w2 _ 3 ⟨#[97, 98]⟩ _ _ p2 (by decide) (by decide) (by decide) (by decide)).mono ?_
  rintro e w3 ⟨rfl, p3, r3⟩
  go_wp2_with fail
  refine (take_lit w3 _ 3 ⟨#[97, 98]⟩ _ _ p3 (by decide) ⟨#[97]⟩ ⟨#[98]⟩ (by decide) (by decide)).mono ?_
  rintro e w4 ⟨rfl, p4, r4⟩
  go_wp2_with fail
  refine (look_any w4 _ 3 ⟨#[98]⟩ _ p4).mono ?_
  rintro e w5 ⟨rfl, rfl⟩
  go_wp2_with fail
  refine (room_lit w4 _ 3 ⟨#[98]⟩ _ p4 (by decide) (by decide) (by decide) 2 (by decide)).mono ?_
  rintro e w5 ⟨rfl, nq, rfl⟩
  go_wp2_with fail
  refine (closed_any _ _ 3 ⟨#[98]⟩ _ (p4.drewN nq)).mono ?_
  rintro e w5 ⟨rfl, rfl⟩
  go_wp2_with fail
  go_ret
  exact ⟨rfl, (((r1.step r2 (by simpa using hg)).step r3 (by simpa using hg)).step r4 (by simpa using hg)).drewN nq⟩
end Go.Proofs.Ytlbcdbejemiinaa
