/- The contracts of package quota and of the reference's budget. -/
import Derived.Test.YtkomadieeldihaaRows
import Derived.Test.YtkomadieeldihaaWords
namespace Go.Proofs.Ytkomadieeldihaa
open Go.RowKit

/-- May a quota be? -/
def qOk (c d b l : Int) : Bool := decide (1 ≤ c ∧ c ≤ 8 ∧ 1 ≤ d ∧ d ≤ 16 ∧ 1 ≤ b ∧ b ≤ 1048576 ∧ 1 ≤ l ∧ l ≤ 64)
def qErr (c d b l : Int) : Int := if qOk c d b l then 0 else 12

def BudAt (w : World) (g : Nat) (c d b l cols bytes : Int) : Prop := Holds w g 45 #[.int .i64 c, .int .i64 d, .int .i64 b, .int .i64 l, .int .i64 cols, .int .i64 bytes]
def RefAt (w : World) (g : Nat) (c d b l cols bytes : Int) : Prop := Holds w g 35 #[.int .i64 c, .int .i64 d, .int .i64 b, .int .i64 l, .int .i64 cols, .int .i64 bytes]

def inB (n m : Int) : Bool := decide (1 ≤ n ∧ n ≤ m)
theorem in_any (n m : Int) (w : World) (b : Bool) (hb : inB n m = b) : Calls Try.prog 22 #[.int .i64 n, .int .i64 m] w fun e w' => e = .returned (.bool b) ∧ w = w' := by
  subst hb
  by_cases h1 : n < 1
  · rw [show inB n m = false by simp [inB]; omega]
    go_enter Try.func22, Try.ntmps22
    go_wp2
    go_ret
    exact ⟨rfl, rfl⟩
  · by_cases h2 : n ≤ m
    · rw [show inB n m = true by simp [inB]; omega]
      go_enter Try.func22, Try.ntmps22
      go_wp2
      go_ret
      exact ⟨rfl, rfl⟩
    · rw [show inB n m = false by simp [inB]; omega]
      go_enter Try.func22, Try.ntmps22
      go_wp2
      go_ret
      exact ⟨ret_bool (by simp), rfl⟩

set_option maxHeartbeats 800000 in
theorem check_any (c d b l : Int) (w : World) : Calls Try.prog 11 #[.agg #[.int .i64 c, .int .i64 d, .int .i64 b, .int .i64 l]] w fun e w' => e = .returned (.int .i64 (qErr c d b l)) ∧ Fr [] w w' := by
  rcases Bool.eq_false_or_eq_true (inB c 8) with h0 | h0
  · rcases Bool.eq_false_or_eq_true (inB d 16) with h1 | h1
    · rcases Bool.eq_false_or_eq_true (inB b 1048576) with h2 | h2
      · rcases Bool.eq_false_or_eq_true (inB l 64) with h3 | h3
        · go_enter Try.func11, Try.ntmps11
          go_wp2_with fail
          refine (in_any _ _ _ true h0).mono ?_
          rintro e w' ⟨rfl, rfl⟩
          go_wp2_with fail
          refine (in_any _ _ _ true h1).mono ?_
          rintro e w' ⟨rfl, rfl⟩
          go_wp2_with fail
          refine (in_any _ _ _ true h2).mono ?_
          rintro e w' ⟨rfl, rfl⟩
          go_wp2_with fail
          refine (in_any _ _ _ true h3).mono ?_
          rintro e w' ⟨rfl, rfl⟩
          go_wp2_with fail
          go_ret
          exact ⟨ret_int (by simp [inB] at h0 h1 h2 h3; simp [qErr, qOk]; omega), (Fr.refl _ _).alloc _⟩
        · go_enter Try.func11, Try.ntmps11
          go_wp2_with fail
          refine (in_any _ _ _ true h0).mono ?_
          rintro e w' ⟨rfl, rfl⟩
          go_wp2_with fail
          refine (in_any _ _ _ true h1).mono ?_
          rintro e w' ⟨rfl, rfl⟩
          go_wp2_with fail
          refine (in_any _ _ _ true h2).mono ?_
          rintro e w' ⟨rfl, rfl⟩
          go_wp2_with fail
          refine (in_any _ _ _ false h3).mono ?_
          rintro e w' ⟨rfl, rfl⟩
          go_wp2_with fail
          go_ret
          exact ⟨ret_int (by simp [inB] at h0 h1 h2 h3; simp [qErr, qOk]; omega), (Fr.refl _ _).alloc _⟩
      · go_enter Try.func11, Try.ntmps11
        go_wp2_with fail
        refine (in_any _ _ _ true h0).mono ?_
        rintro e w' ⟨rfl, rfl⟩
        go_wp2_with fail
        refine (in_any _ _ _ true h1).mono ?_
        rintro e w' ⟨rfl, rfl⟩
        go_wp2_with fail
        refine (in_any _ _ _ false h2).mono ?_
        rintro e w' ⟨rfl, rfl⟩
        go_wp2_with fail
        go_ret
        exact ⟨ret_int (by simp [inB] at h0 h1 h2; simp [qErr, qOk]; omega), (Fr.refl _ _).alloc _⟩
    · go_enter Try.func11, Try.ntmps11
      go_wp2_with fail
      refine (in_any _ _ _ true h0).mono ?_
      rintro e w' ⟨rfl, rfl⟩
      go_wp2_with fail
      refine (in_any _ _ _ false h1).mono ?_
      rintro e w' ⟨rfl, rfl⟩
      go_wp2_with fail
      go_ret
      exact ⟨ret_int (by simp [inB] at h0 h1; simp [qErr, qOk]; omega), (Fr.refl _ _).alloc _⟩
  · go_enter Try.func11, Try.ntmps11
    go_wp2_with fail
    refine (in_any _ _ _ false h0).mono ?_
    rintro e w' ⟨rfl, rfl⟩
    go_wp2_with fail
    go_ret
    exact ⟨ret_int (by simp [inB] at h0; simp [qErr, qOk]; omega), (Fr.refl _ _).alloc _⟩

set_option maxHeartbeats 1600000 in
theorem checkRef_any (c d b l : Int) (w : World) : Calls Try.prog 9 #[.agg #[.int .i64 c, .int .i64 d, .int .i64 b, .int .i64 l]] w fun e w' => e = .returned (.int .i64 (qErr c d b l)) ∧ Fr [] w w' := by
  by_cases h0 : c < 1
  · go_enter Try.func9, Try.ntmps9
    go_wp2
    go_ret
    exact ⟨ret_int (by simp [qErr, qOk]; omega), (Fr.refl _ _).alloc _⟩
  by_cases h1 : 8 < c
  · go_enter Try.func9, Try.ntmps9
    go_wp2
    go_ret
    exact ⟨ret_int (by simp [qErr, qOk]; omega), (Fr.refl _ _).alloc _⟩
  by_cases h2 : d < 1
  · go_enter Try.func9, Try.ntmps9
    go_wp2
    go_ret
    exact ⟨ret_int (by simp [qErr, qOk]; omega), (Fr.refl _ _).alloc _⟩
  by_cases h3 : 16 < d
  · go_enter Try.func9, Try.ntmps9
    go_wp2
    go_ret
    exact ⟨ret_int (by simp [qErr, qOk]; omega), (Fr.refl _ _).alloc _⟩
  by_cases h4 : b < 1
  · go_enter Try.func9, Try.ntmps9
    go_wp2
    go_ret
    exact ⟨ret_int (by simp [qErr, qOk]; omega), (Fr.refl _ _).alloc _⟩
  by_cases h5 : 1048576 < b
  · go_enter Try.func9, Try.ntmps9
    go_wp2
    go_ret
    exact ⟨ret_int (by simp [qErr, qOk]; omega), (Fr.refl _ _).alloc _⟩
  by_cases h6 : l < 1
  · go_enter Try.func9, Try.ntmps9
    go_wp2
    go_ret
    exact ⟨ret_int (by simp [qErr, qOk]; omega), (Fr.refl _ _).alloc _⟩
  by_cases h7 : 64 < l
  · go_enter Try.func9, Try.ntmps9
    go_wp2
    go_ret
    exact ⟨ret_int (by simp [qErr, qOk]; omega), (Fr.refl _ _).alloc _⟩
  go_enter Try.func9, Try.ntmps9
  go_wp2
  go_ret
  exact ⟨ret_int (by simp [qErr, qOk]; omega), (Fr.refl _ _).alloc _⟩

theorem cols_any (w : World) (g : Nat) (c d b l cols bytes : Int) (hp : BudAt w g c d b l cols bytes) : Calls Try.prog 12 #[.pointer (some ⟨g, 0, none⟩)] w fun e w' => e = .returned (.int .i64 cols) ∧ w = w' := by
  have c1 := hp.cell 4
  go_enter Try.func12, Try.ntmps12
  go_wp2
  go_ret
  exact ⟨rfl, rfl⟩
theorem bytes_any (w : World) (g : Nat) (c d b l cols bytes : Int) (hp : BudAt w g c d b l cols bytes) : Calls Try.prog 13 #[.pointer (some ⟨g, 0, none⟩)] w fun e w' => e = .returned (.int .i64 bytes) ∧ w = w' := by
  have c1 := hp.cell 5
  go_enter Try.func13, Try.ntmps13
  go_wp2
  go_ret
  exact ⟨rfl, rfl⟩
theorem room_any (w : World) (g : Nat) (c d b l cols bytes : Int) (hp : BudAt w g c d b l cols bytes) (h0 : 0 ≤ bytes) (h1 : bytes ≤ b) (h2 : b ≤ 1048576) : Calls Try.prog 14 #[.pointer (some ⟨g, 0, none⟩)] w fun e w' => e = .returned (.int .i64 (b - bytes)) ∧ ∃ n, w' = w.drewN n := by
  have c1 := hp.cell 2
  have c2 := hp.cell 5
  go_enter Try.func14, Try.ntmps14
  go_wp2
  go_quiet (fail)
  go_wp2
  go_ret
  exact ⟨rfl, _, rfl⟩
theorem rroom_any (w : World) (g : Nat) (c d b l cols bytes : Int) (hp : RefAt w g c d b l cols bytes) (h0 : 0 ≤ bytes) (h1 : bytes ≤ b) (h2 : b ≤ 1048576) : Calls Try.prog 23 #[.pointer (some ⟨g, 0, none⟩)] w fun e w' => e = .returned (.int .i64 (b - bytes)) ∧ ∃ n, w' = w.drewN n := by
  have c1 := hp.cell 2
  have c2 := hp.cell 5
  go_enter Try.func23, Try.ntmps23
  go_wp2
  go_quiet (fail)
  go_wp2
  go_ret
  exact ⟨rfl, _, rfl⟩
set_option maxHeartbeats 400000 in
theorem open_any (w : World) (g : Nat) (c d b l cols bytes : Int) (hp : BudAt w g c d b l cols bytes) (h2 : 0 ≤ cols) (h3 : cols ≤ 8) (y : Bool) (hy : decide (cols < c) = y) :
    Calls Try.prog 15 #[.pointer (some ⟨g, 0, none⟩)] w fun e w' => e = .returned (.bool y) ∧ BudAt w' g c d b l (if y then cols + 1 else cols) bytes ∧ Fr [g] w w' := by
  have c1 := hp.cell 0
  have c2 := hp.cell 4
  have f2 := hp.frozen 4
  by_cases h1 : cols < c
  · obtain rfl : true = y := by rw [← hy]; simp [h1]
    clear hy
    go_enter Try.func15, Try.ntmps15
    go_wp2
    go_quiet (fail)
    go_wp2
    go_ret
    exact ⟨rfl, (hp.drewN _).set 4 _, ((Fr.refl _ _).drewN _).setCell (by simp) _⟩
  · obtain rfl : false = y := by rw [← hy]; simp [h1]
    clear hy
    go_enter Try.func15, Try.ntmps15
    go_wp2
    go_quiet (fail)
    go_wp2
    go_ret
    exact ⟨rfl, hp.drewN _, (Fr.refl _ _).drewN _⟩
set_option maxHeartbeats 400000 in
theorem ropen_any (w : World) (g : Nat) (c d b l cols bytes : Int) (hp : RefAt w g c d b l cols bytes) (h2 : 0 ≤ cols) (h3 : cols ≤ 8) (y : Bool) (hy : decide (cols < c) = y) :
    Calls Try.prog 16 #[.pointer (some ⟨g, 0, none⟩)] w fun e w' => e = .returned (.bool y) ∧ RefAt w' g c d b l (if y then cols + 1 else cols) bytes ∧ Fr [g] w w' := by
  have c1 := hp.cell 0
  have c2 := hp.cell 4
  have f2 := hp.frozen 4
  by_cases h1 : cols < c
  · obtain rfl : true = y := by rw [← hy]; simp [h1]
    clear hy
    go_enter Try.func16, Try.ntmps16
    go_wp2
    go_quiet (fail)
    go_wp2
    go_ret
    exact ⟨rfl, (hp.drewN _).set 4 _, ((Fr.refl _ _).drewN _).setCell (by simp) _⟩
  · obtain rfl : false = y := by rw [← hy]; simp [h1]
    clear hy
    go_enter Try.func16, Try.ntmps16
    go_wp2
    go_quiet (fail)
    go_wp2
    go_ret
    exact ⟨rfl, hp.drewN _, (Fr.refl _ _).drewN _⟩
theorem set5 {w w' : World} {g t k : Nat} {c d b l cols bytes x : Int} (hp : Holds w g t #[.int .i64 c, .int .i64 d, .int .i64 b, .int .i64 l, .int .i64 cols, .int .i64 bytes]) {v : Int}
    (hw : w' = (w.drewN k).setCell ⟨g, 5, none⟩ (.int .i64 v)) (hv : v = x) : Holds w' g t #[.int .i64 c, .int .i64 d, .int .i64 b, .int .i64 l, .int .i64 cols, .int .i64 x] ∧ Fr [g] w w' := by
  subst hw
  subst hv
  exact ⟨(hp.drewN _).set 5 _, ((Fr.refl _ _).drewN _).setCell (by simp) _⟩
theorem set45 {w w' : World} {g t : Nat} {c d b l cols bytes x y : Int} (hp : Holds w g t #[.int .i64 c, .int .i64 d, .int .i64 b, .int .i64 l, .int .i64 cols, .int .i64 bytes]) {u v : Int}
    (hw : w' = ((w.setCell ⟨g, 4, none⟩ (.int .i64 u)).setCell ⟨g, 5, none⟩ (.int .i64 v)).drew) (hu : u = x) (hv : v = y) : Holds w' g t #[.int .i64 c, .int .i64 d, .int .i64 b, .int .i64 l, .int .i64 x, .int .i64 y] ∧ Fr [g] w w' := by
  subst hw
  subst hu
  subst hv
  exact ⟨((hp.set 4 _).set 5 _).drew, (((Fr.refl _ _).setCell (by simp) _).setCell (by simp) _).drew⟩
/-- What is left of the collections, of the bytes, behind a Close. -/
def cl1 (cols : Int) : Int := max (cols - 1) 0
def cl2 (bytes n : Int) : Int := bytes - min (max n 0) bytes
set_option maxHeartbeats 1600000 in
theorem close_any (w : World) (g : Nat) (c d b l cols bytes n : Int) (hp : BudAt w g c d b l cols bytes) (h0 : 0 ≤ bytes) (h1 : bytes ≤ 1048576) (h3 : 0 ≤ cols) (h4 : cols ≤ 8) :
    Calls Try.prog 17 #[.pointer (some ⟨g, 0, none⟩), .int .i64 n] w fun e w' => e = .returned (.tuple #[]) ∧ BudAt w' g c d b l (cl1 cols) (cl2 bytes n) ∧ Fr [g] w w' := by
  have c1 := hp.cell 4
  have c2 := hp.cell 5
  have f1 := hp.frozen 4
  have f2 := hp.frozen 5
  by_cases k0 : cols < 1
  · by_cases k1 : n < 0
    · rw [show cl1 cols = 0 by unfold cl1; omega, show cl2 bytes n = bytes by unfold cl2; omega]
      go_enter Try.func17, Try.ntmps17
      go_wp2
      go_region
      go_end0
      exact ⟨rfl, set45 hp rfl (by first | rfl | omega) (by first | rfl | omega | (split <;> omega))⟩
    by_cases k2 : n < bytes
    · rw [show cl1 cols = 0 by unfold cl1; omega, show cl2 bytes n = bytes - n by unfold cl2; omega]
      go_enter Try.func17, Try.ntmps17
      go_wp2
      go_region
      go_end0
      exact ⟨rfl, set45 hp rfl (by first | rfl | omega) (by first | rfl | omega | (split <;> omega))⟩
    rw [show cl1 cols = 0 by unfold cl1; omega, show cl2 bytes n = 0 by unfold cl2; omega]
    go_enter Try.func17, Try.ntmps17
    go_wp2
    go_region
    go_end0
    exact ⟨rfl, set45 hp rfl (by first | rfl | omega) (by first | rfl | omega | (split <;> omega))⟩
  by_cases k1 : n < 0
  · rw [show cl1 cols = cols - 1 by unfold cl1; omega, show cl2 bytes n = bytes by unfold cl2; omega]
    go_enter Try.func17, Try.ntmps17
    go_wp2
    go_region
    go_end0
    exact ⟨rfl, set45 hp rfl (by first | rfl | omega) (by first | rfl | omega | (split <;> omega))⟩
  by_cases k2 : n < bytes
  · rw [show cl1 cols = cols - 1 by unfold cl1; omega, show cl2 bytes n = bytes - n by unfold cl2; omega]
    go_enter Try.func17, Try.ntmps17
    go_wp2
    go_region
    go_end0
    exact ⟨rfl, set45 hp rfl (by first | rfl | omega) (by first | rfl | omega | (split <;> omega))⟩
  rw [show cl1 cols = cols - 1 by unfold cl1; omega, show cl2 bytes n = 0 by unfold cl2; omega]
  go_enter Try.func17, Try.ntmps17
  go_wp2
  go_region
  go_end0
  exact ⟨rfl, set45 hp rfl (by first | rfl | omega) (by first | rfl | omega | (split <;> omega))⟩

set_option maxHeartbeats 1600000 in
theorem rclose_any (w : World) (g : Nat) (c d b l cols bytes n : Int) (hp : RefAt w g c d b l cols bytes) (h0 : 0 ≤ bytes) (h1 : bytes ≤ b) (h2 : b ≤ 1048576) (h3 : 0 ≤ cols) (h4 : cols ≤ 8) :
    Calls Try.prog 18 #[.pointer (some ⟨g, 0, none⟩), .int .i64 n] w fun e w' => e = .returned (.tuple #[]) ∧ RefAt w' g c d b l (cl1 cols) (cl2 bytes n) ∧ Fr [g] w w' := by
  have c0 := hp.cell 2
  have c1 := hp.cell 4
  have c2 := hp.cell 5
  have f1 := hp.frozen 4
  have f2 := hp.frozen 5
  by_cases k0 : cols < 1
  · by_cases k1 : n ≤ 0
    · rw [show cl1 cols = 0 by unfold cl1; omega, show cl2 bytes n = bytes by unfold cl2; omega]
      go_enter Try.func18, Try.ntmps18
      go_wp2
      go_end0
      exact ⟨rfl, hp.set 4 _, (Fr.refl _ _).setCell (by simp) _⟩
    by_cases k2 : n < bytes
    · rw [show cl1 cols = 0 by unfold cl1; omega, show cl2 bytes n = bytes - n by unfold cl2; omega]
      go_enter Try.func18, Try.ntmps18
      go_wp2
      go_region
      go_end0
      exact ⟨rfl, set45 hp rfl (by first | rfl | omega) (by first | rfl | omega | (split <;> omega))⟩
    by_cases k3 : n < b
    · rw [show cl1 cols = 0 by unfold cl1; omega, show cl2 bytes n = 0 by unfold cl2; omega]
      go_enter Try.func18, Try.ntmps18
      go_wp2
      go_region
      go_end0
      exact ⟨rfl, set45 hp rfl (by first | rfl | omega) (by first | rfl | omega | (split <;> omega))⟩
    rw [show cl1 cols = 0 by unfold cl1; omega, show cl2 bytes n = 0 by unfold cl2; omega]
    go_enter Try.func18, Try.ntmps18
    go_wp2
    go_region
    go_end0
    exact ⟨rfl, set45 hp rfl (by first | rfl | omega) (by first | rfl | omega | (split <;> omega))⟩
  by_cases k1 : n ≤ 0
  · rw [show cl1 cols = cols - 1 by unfold cl1; omega, show cl2 bytes n = bytes by unfold cl2; omega]
    go_enter Try.func18, Try.ntmps18
    go_wp2
    go_end0
    exact ⟨rfl, hp.set 4 _, (Fr.refl _ _).setCell (by simp) _⟩
  by_cases k2 : n < bytes
  · rw [show cl1 cols = cols - 1 by unfold cl1; omega, show cl2 bytes n = bytes - n by unfold cl2; omega]
    go_enter Try.func18, Try.ntmps18
    go_wp2
    go_region
    go_end0
    exact ⟨rfl, set45 hp rfl (by first | rfl | omega) (by first | rfl | omega | (split <;> omega))⟩
  by_cases k3 : n < b
  · rw [show cl1 cols = cols - 1 by unfold cl1; omega, show cl2 bytes n = 0 by unfold cl2; omega]
    go_enter Try.func18, Try.ntmps18
    go_wp2
    go_region
    go_end0
    exact ⟨rfl, set45 hp rfl (by first | rfl | omega) (by first | rfl | omega | (split <;> omega))⟩
  rw [show cl1 cols = cols - 1 by unfold cl1; omega, show cl2 bytes n = 0 by unfold cl2; omega]
  go_enter Try.func18, Try.ntmps18
  go_wp2
  go_region
  go_end0
  exact ⟨rfl, set45 hp rfl (by first | rfl | omega) (by first | rfl | omega | (split <;> omega))⟩

/-- Is a Move by n let in; how many bytes there are behind one that is. -/
def mv (bytes n : Int) : Int := max (bytes + n) 0
set_option maxHeartbeats 1600000 in
theorem move_any (w : World) (g : Nat) (c d b l cols bytes n : Int) (hp : BudAt w g c d b l cols bytes) (h0 : 0 ≤ bytes) (h1 : bytes ≤ b) (h2 : b ≤ 1048576) (h3 : -9223372036854775808 ≤ n) (y : Bool) (hy : decide (n ≤ b - bytes) = y) :
    Calls Try.prog 19 #[.pointer (some ⟨g, 0, none⟩), .int .i64 n] w fun e w' => e = .returned (.bool y) ∧ BudAt w' g c d b l cols (if y then mv bytes n else bytes) ∧ Fr [g] w w' := by
  have c0 := hp.cell 2
  have c2 := hp.cell 5
  have f2 := hp.frozen 5
  by_cases k0 : n ≤ b - bytes
  · obtain rfl : true = y := by rw [← hy]; simp [k0]
    clear hy
    rw [if_pos rfl]
    by_cases k2 : bytes + n < 0
    · rw [show mv bytes n = 0 by unfold mv; omega]
      go_enter Try.func19, Try.ntmps19
      go_wp2
      go_quiet (fail)
      go_wp2
      go_ret
      exact ⟨rfl, (hp.drewN _).set 5 _, ((Fr.refl _ _).drewN _).setCell (by simp) _⟩
    rw [show mv bytes n = bytes + n by unfold mv; omega]
    go_enter Try.func19, Try.ntmps19
    go_wp2
    go_quiet (fail)
    go_wp2
    go_ret
    exact ⟨rfl, (hp.drewN _).set 5 _, ((Fr.refl _ _).drewN _).setCell (by simp) _⟩
  obtain rfl : false = y := by rw [← hy]; simp; omega
  clear hy
  go_enter Try.func19, Try.ntmps19
  go_wp2
  go_quiet (fail)
  go_wp2
  go_ret
  exact ⟨rfl, hp.drewN _, (Fr.refl _ _).drewN _⟩

set_option maxHeartbeats 1600000 in
theorem rmove_any (w : World) (g : Nat) (c d b l cols bytes n : Int) (hp : RefAt w g c d b l cols bytes) (h0 : 0 ≤ bytes) (h1 : bytes ≤ b) (h2 : b ≤ 1048576) (h3 : -9223372036854775808 ≤ n) (y : Bool) (hy : decide (n ≤ b - bytes) = y) :
    Calls Try.prog 20 #[.pointer (some ⟨g, 0, none⟩), .int .i64 n] w fun e w' => e = .returned (.bool y) ∧ RefAt w' g c d b l cols (if y then mv bytes n else bytes) ∧ Fr [g] w w' := by
  have c0 := hp.cell 2
  have c2 := hp.cell 5
  have f2 := hp.frozen 5
  by_cases k0 : n ≤ b - bytes
  · obtain rfl : true = y := by rw [← hy]; simp [k0]
    clear hy
    rw [if_pos rfl]
    by_cases k1 : n < -b
    · rw [show mv bytes n = 0 by unfold mv; omega]
      go_enter Try.func20, Try.ntmps20
      go_wp2
      go_quiet (fail)
      go_wp2
      go_region
      go_wp2
      all_goals
        go_ret
        exact ⟨rfl, set5 hp rfl (by first | rfl | omega | (split <;> omega))⟩
    by_cases k2 : bytes + n < 0
    · rw [show mv bytes n = 0 by unfold mv; omega]
      go_enter Try.func20, Try.ntmps20
      go_wp2
      go_quiet (fail)
      go_wp2
      go_region
      go_wp2
      all_goals
        go_ret
        exact ⟨rfl, set5 hp rfl (by first | rfl | omega | (split <;> omega))⟩
    rw [show mv bytes n = bytes + n by unfold mv; omega]
    go_enter Try.func20, Try.ntmps20
    go_wp2
    go_quiet (fail)
    go_wp2
    go_region
    go_wp2
    all_goals
      go_ret
      exact ⟨rfl, set5 hp rfl (by first | rfl | omega | (split <;> omega))⟩
  obtain rfl : false = y := by rw [← hy]; simp; omega
  clear hy
  go_enter Try.func20, Try.ntmps20
  go_wp2
  go_quiet (fail)
  go_wp2
  go_ret
  exact ⟨rfl, hp.drewN _, (Fr.refl _ _).drewN _⟩

set_option maxHeartbeats 400000 in
theorem new_yes (c d b l : Int) (w : World) (hq : qOk c d b l = true) :
    Calls Try.prog 10 #[.agg #[.int .i64 c, .int .i64 d, .int .i64 b, .int .i64 l]] w fun e w' => ∃ g, e = .returned (.tuple #[.pointer (some ⟨g, 0, none⟩), .int .i64 0]) ∧ w.heap.size ≤ g ∧ BudAt w' g c d b l 0 0 ∧ Fr [] w w' := by
  go_enter Try.func10, Try.ntmps10
  go_wp2_with fail
  refine (check_any c d b l _).mono ?_
  rintro e w1 ⟨rfl, r1⟩
  rw [show qErr c d b l = 0 by simp [qErr, hq]]
  have hb := Holds.fr (Holds.new w 23 #[.int .i64 c, .int .i64 d, .int .i64 b, .int .i64 l]) r1 (by simp)
  have b0 := hb.cell 0
  have b1 := hb.cell 1
  have b2 := hb.cell 2
  have b3 := hb.cell 3
  go_wp2_with fail
  go_ret2
  exact ⟨_, rfl, by have := r1.size; simp at this; omega, Holds.new _ _ _, ((((Fr.refl [] w).alloc _).trans r1).alloc _)⟩
set_option maxHeartbeats 400000 in
theorem new_no (c d b l : Int) (w : World) (hq : qOk c d b l = false) :
    Calls Try.prog 10 #[.agg #[.int .i64 c, .int .i64 d, .int .i64 b, .int .i64 l]] w fun e w' => e = .returned (.tuple #[.pointer none, .int .i64 12]) ∧ Fr [] w w' := by
  go_enter Try.func10, Try.ntmps10
  go_wp2_with fail
  refine (check_any c d b l _).mono ?_
  rintro e w1 ⟨rfl, r1⟩
  rw [show qErr c d b l = 12 by simp [qErr, hq]]
  have hb := Holds.fr (Holds.new w 23 #[.int .i64 c, .int .i64 d, .int .i64 b, .int .i64 l]) r1 (by simp)
  have b0 := hb.cell 0
  have b1 := hb.cell 1
  have b2 := hb.cell 2
  have b3 := hb.cell 3
  go_wp2_with fail
  go_ret2
  exact ⟨rfl, (((Fr.refl [] w).alloc _).trans r1)⟩

theorem move_lit (w : World) (g : Nat) (c d b l cols bytes n : Int) (hp : BudAt w g c d b l cols bytes) (h0 : 0 ≤ bytes) (h1 : bytes ≤ b) (h2 : b ≤ 1048576) (h3 : -9223372036854775808 ≤ n) (y : Bool) (hy : decide (n ≤ b - bytes) = y)
    (v : Int) (hv : (if y then mv bytes n else bytes) = v) :
    Calls Try.prog 19 #[.pointer (some ⟨g, 0, none⟩), .int .i64 n] w fun e w' => e = .returned (.bool y) ∧ BudAt w' g c d b l cols v ∧ Fr [g] w w' := by
  subst hv
  exact move_any w g c d b l cols bytes n hp h0 h1 h2 h3 y hy
theorem room_lit (w : World) (g : Nat) (c d b l cols bytes : Int) (hp : BudAt w g c d b l cols bytes) (h0 : 0 ≤ bytes) (h1 : bytes ≤ b) (h2 : b ≤ 1048576) (v : Int) (hv : b - bytes = v) :
    Calls Try.prog 14 #[.pointer (some ⟨g, 0, none⟩)] w fun e w' => e = .returned (.int .i64 v) ∧ ∃ n, w' = w.drewN n := by
  subst hv
  exact room_any w g c d b l cols bytes hp h0 h1 h2
end Go.Proofs.Ytkomadieeldihaa
