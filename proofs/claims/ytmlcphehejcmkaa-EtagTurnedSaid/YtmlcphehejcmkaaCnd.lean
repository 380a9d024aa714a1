/- The contracts of May, Holds, Texts, Cond and of the reference's. -/
import Derived.Test.YtmlcphehejcmkaaPar
namespace Go.Proofs.Ytmlcphehejcmkaa
open Go.RowKit

def condOk (k v : Int) : Bool := if k = 0 ∨ k = 1 ∨ k = 2 then v == 0 else if k = 3 then decide (1 ≤ v) else false
def holdsB (k v : Int) (there : Bool) (ver : Int) : Bool := condOk k v && (if k = 1 then !there else if k = 2 then there else if k = 3 then there && ver == v else true)

set_option maxHeartbeats 800000 in
theorem may_any (k v : Int) (w : World) : Calls Try.prog 16 #[.agg #[.int .i64 k, .int .i64 v]] w fun e w' => e = .returned (.bool (condOk k v)) ∧ Fr [] w w' := by
  by_cases h0 : k = 0
  · subst h0
    rw [show condOk 0 v = (v == 0) by simp [condOk]]
    go_enter Try.func16, Try.ntmps16
    go_wp2
    go_ret
    exact ⟨rfl, (Fr.refl _ _).alloc _⟩
  by_cases h1 : k = 1
  · subst h1
    rw [show condOk 1 v = (v == 0) by simp [condOk]]
    go_enter Try.func16, Try.ntmps16
    go_wp2
    go_ret
    exact ⟨rfl, (Fr.refl _ _).alloc _⟩
  by_cases h2 : k = 2
  · subst h2
    rw [show condOk 2 v = (v == 0) by simp [condOk]]
    go_enter Try.func16, Try.ntmps16
    go_wp2
    go_ret
    exact ⟨rfl, (Fr.refl _ _).alloc _⟩
  have e0 : (k == 0) = false := by simpa using h0
  have e1 : (k == 1) = false := by simpa using h1
  have e2 : (k == 2) = false := by simpa using h2
  by_cases h3 : k = 3
  · subst h3
    rw [show condOk 3 v = decide (1 ≤ v) by simp [condOk]]
    clear h0 h1 h2
    go_enter Try.func16, Try.ntmps16
    go_wp2
    go_ret
    exact ⟨rfl, (Fr.refl _ _).alloc _⟩
  · have e3 : (k == 3) = false := by simpa using h3
    rw [show condOk k v = false by simp [condOk, h0, h1, h2, h3]]
    clear h0 h1 h2 h3
    go_enter Try.func16, Try.ntmps16
    go_wp2
    go_ret
    exact ⟨rfl, (Fr.refl _ _).alloc _⟩

set_option maxHeartbeats 800000 in
theorem rmay_any (k v : Int) (w : World) : Calls Try.prog 17 #[.agg #[.int .i64 k, .int .i64 v]] w fun e w' => e = .returned (.bool (condOk k v)) ∧ Fr [] w w' := by
  by_cases h0 : k = 0
  · subst h0
    rw [show condOk 0 v = (v == 0) by simp [condOk]]
    go_enter Try.func17, Try.ntmps17
    go_wp2
    go_ret
    exact ⟨rfl, (Fr.refl _ _).alloc _⟩
  by_cases h1 : k = 1
  · subst h1
    rw [show condOk 1 v = (v == 0) by simp [condOk]]
    go_enter Try.func17, Try.ntmps17
    go_wp2
    go_ret
    exact ⟨rfl, (Fr.refl _ _).alloc _⟩
  by_cases h2 : k = 2
  · subst h2
    rw [show condOk 2 v = (v == 0) by simp [condOk]]
    go_enter Try.func17, Try.ntmps17
    go_wp2
    go_ret
    exact ⟨rfl, (Fr.refl _ _).alloc _⟩
  have e0 : (k == 0) = false := by simpa using h0
  have e1 : (k == 1) = false := by simpa using h1
  have e2 : (k == 2) = false := by simpa using h2
  by_cases h3 : k = 3
  · subst h3
    rw [show condOk 3 v = decide (1 ≤ v) by simp [condOk]]
    clear h0 h1 h2
    go_enter Try.func17, Try.ntmps17
    go_wp2
    go_ret
    exact ⟨rfl, (Fr.refl _ _).alloc _⟩
  · have e3 : (k == 3) = false := by simpa using h3
    rw [show condOk k v = false by simp [condOk, h0, h1, h2, h3]]
    clear h0 h1 h2 h3
    go_enter Try.func17, Try.ntmps17
    go_wp2
    go_ret
    exact ⟨rfl, (Fr.refl _ _).alloc _⟩

set_option maxHeartbeats 800000 in
theorem holds_any (k v : Int) (there : Bool) (ver : Int) (w : World) : Calls Try.prog 18 #[.agg #[.int .i64 k, .int .i64 v], .bool there, .int .i64 ver] w fun e w' => e = .returned (.bool (holdsB k v there ver)) ∧ Fr [] w w' := by
  have q0 := Holds.new w 29 #[.int .i64 k, .int .i64 v]
  have f0 : Fr [] w (w.alloc (.cells #[.int .i64 k, .int .i64 v] 29)) := (Fr.refl _ _).alloc _
  cases hm : condOk k v
  · rw [show holdsB k v there ver = false by simp [holdsB, hm]]
    have HM := Lib.hid hm
    clear hm
    go_enter Try.func18, Try.ntmps18
    go_wp2_with fail
    refine (may_any k v _).mono ?_
    rintro e w1 ⟨rfl, f1⟩
    rw [HM.out]
    go_wp2_with fail
    go_ret
    exact ⟨rfl, f0.trans f1⟩
  · have HM := Lib.hid hm
    clear hm
    go_enter Try.func18, Try.ntmps18
    go_wp2_with fail
    refine (may_any k v _).mono ?_
    rintro e w1 ⟨rfl, f1⟩
    rw [HM.out]
    have q1 := q0.fr f1 (by simp)
    have c0 : w1.cell? ⟨w.heap.size, 0, none⟩ = some (.int .i64 k) := q1.cell 0
    have c1 : w1.cell? ⟨w.heap.size, 1, none⟩ = some (.int .i64 v) := q1.cell 1
    have f01 := f0.trans f1
    clear q0 f0 f1 q1
    by_cases h1 : k = 1
    · subst h1
      have HB : Hid (holdsB 1 v there ver = !there) := Lib.hid (by simp [holdsB, HM.out])
      go_wp2_with fail
      go_ret
      exact ⟨ret_bool HB.out.symm, f01⟩
    by_cases h2 : k = 2
    · subst h2
      have HB : Hid (holdsB 2 v there ver = there) := Lib.hid (by simp [holdsB, HM.out])
      go_wp2_with fail
      go_ret
      exact ⟨ret_bool HB.out.symm, f01⟩
    have e1 : (k == 1) = false := by simpa using h1
    have e2 : (k == 2) = false := by simpa using h2
    by_cases h3 : k = 3
    · subst h3
      clear h1 h2
      have HB : Hid (holdsB 3 v there ver = (there && ver == v)) := Lib.hid (by simp [holdsB, HM.out])
      cases there
      all_goals
        go_wp2_with fail
        go_ret
        exact ⟨ret_bool HB.out.symm, f01⟩
    · have e3 : (k == 3) = false := by simpa using h3
      have HB : Hid (holdsB k v there ver = true) := Lib.hid (by simp [holdsB, HM.out, h1, h2, h3])
      clear h1 h2 h3
      go_wp2_with fail
      go_ret
      exact ⟨ret_bool HB.out.symm, f01⟩

set_option maxHeartbeats 800000 in
theorem rholds_any (k v : Int) (there : Bool) (ver : Int) (w : World) : Calls Try.prog 19 #[.agg #[.int .i64 k, .int .i64 v], .bool there, .int .i64 ver] w fun e w' => e = .returned (.bool (holdsB k v there ver)) ∧ Fr [] w w' := by
  have q0 := Holds.new w 29 #[.int .i64 k, .int .i64 v]
  have f0 : Fr [] w (w.alloc (.cells #[.int .i64 k, .int .i64 v] 29)) := (Fr.refl _ _).alloc _
  cases hm : condOk k v
  · rw [show holdsB k v there ver = false by simp [holdsB, hm]]
    have HM := Lib.hid hm
    clear hm
    go_enter Try.func19, Try.ntmps19
    go_wp2_with fail
    refine (rmay_any k v _).mono ?_
    rintro e w1 ⟨rfl, f1⟩
    rw [HM.out]
    go_wp2_with fail
    go_ret
    exact ⟨rfl, f0.trans f1⟩
  · have HM := Lib.hid hm
    clear hm
    go_enter Try.func19, Try.ntmps19
    go_wp2_with fail
    refine (rmay_any k v _).mono ?_
    rintro e w1 ⟨rfl, f1⟩
    rw [HM.out]
    have q1 := q0.fr f1 (by simp)
    have c0 : w1.cell? ⟨w.heap.size, 0, none⟩ = some (.int .i64 k) := q1.cell 0
    have c1 : w1.cell? ⟨w.heap.size, 1, none⟩ = some (.int .i64 v) := q1.cell 1
    have f01 := f0.trans f1
    clear q0 f0 f1 q1
    by_cases h1 : k = 1
    · subst h1
      have HB : Hid (holdsB 1 v there ver = !there) := Lib.hid (by simp [holdsB, HM.out])
      go_wp2_with fail
      go_ret
      exact ⟨ret_bool HB.out.symm, f01⟩
    by_cases h2 : k = 2
    · subst h2
      have HB : Hid (holdsB 2 v there ver = there) := Lib.hid (by simp [holdsB, HM.out])
      go_wp2_with fail
      go_ret
      exact ⟨ret_bool HB.out.symm, f01⟩
    have e1 : (k == 1) = false := by simpa using h1
    have e2 : (k == 2) = false := by simpa using h2
    by_cases h3 : k = 3
    · subst h3
      clear h1 h2
      have HB : Hid (holdsB 3 v there ver = (there && ver == v)) := Lib.hid (by simp [holdsB, HM.out])
      cases there
      all_goals
        go_wp2_with fail
        go_ret
        exact ⟨ret_bool HB.out.symm, f01⟩
    · have e3 : (k == 3) = false := by simpa using h3
      have HB : Hid (holdsB k v there ver = true) := Lib.hid (by simp [holdsB, HM.out, h1, h2, h3])
      clear h1 h2 h3
      go_wp2_with fail
      go_ret
      exact ⟨ret_bool HB.out.symm, f01⟩

def text1 (k v : Int) : ByteArray := if condOk k v = false then bs [] else if k = 1 then bs [] else if k = 2 then bs [42] else bs (showL v)
def text2 (k v : Int) : ByteArray := if condOk k v = false then bs [] else if k = 1 then bs [42] else bs []
theorem ret_str2 {a b c d : ByteArray} (h : a = c) (h' : b = d) : Ending.returned (.tuple #[.string a, .string b]) = .returned (.tuple #[.string c, .string d]) := by rw [h, h']

set_option maxHeartbeats 800000 in
theorem texts_any (k v : Int) (w : World) (hv : v ≤ 9223372036854775807) : Calls Try.prog 13 #[.agg #[.int .i64 k, .int .i64 v]] w fun e w' => e = .returned (.tuple #[.string (text1 k v), .string (text2 k v)]) ∧ Fr [] w w' := by
  have q0 := Holds.new w 29 #[.int .i64 k, .int .i64 v]
  have f0 : Fr [] w (w.alloc (.cells #[.int .i64 k, .int .i64 v] 29)) := (Fr.refl _ _).alloc _
  cases hm : condOk k v
  · rw [show text1 k v = bs [] by simp [text1, hm], show text2 k v = bs [] by simp [text2, hm]]
    have HM := Lib.hid hm
    clear hm
    go_enter Try.func13, Try.ntmps13
    go_wp2_with fail
    refine (may_any k v _).mono ?_
    rintro e w1 ⟨rfl, f1⟩
    rw [HM.out]
    go_wp2_with fail
    go_ret2
    exact ⟨rfl, f0.trans f1⟩
  · have HM := Lib.hid hm
    clear hm
    go_enter Try.func13, Try.ntmps13
    go_wp2_with fail
    refine (may_any k v _).mono ?_
    rintro e w1 ⟨rfl, f1⟩
    rw [HM.out]
    have q1 := q0.fr f1 (by simp)
    have c0 : w1.cell? ⟨w.heap.size, 0, none⟩ = some (.int .i64 k) := q1.cell 0
    have c1 : w1.cell? ⟨w.heap.size, 1, none⟩ = some (.int .i64 v) := q1.cell 1
    have f01 := f0.trans f1
    clear q0 f0 f1 q1
    by_cases h1 : k = 1
    · subst h1
      have HT : Hid (text1 1 v = bs [] ∧ text2 1 v = bs [42]) := Lib.hid (by simp [text1, text2, HM.out])
      go_wp2_with fail
      go_ret2
      exact ⟨ret_str2 HT.out.1.symm HT.out.2.symm, f01⟩
    by_cases h2 : k = 2
    · subst h2
      have HT : Hid (text1 2 v = bs [42] ∧ text2 2 v = bs []) := Lib.hid (by simp [text1, text2, HM.out])
      go_wp2_with fail
      go_ret2
      exact ⟨ret_str2 HT.out.1.symm HT.out.2.symm, f01⟩
    have e1 : (k == 1) = false := by simpa using h1
    have e2 : (k == 2) = false := by simpa using h2
    have HT : Hid (text1 k v = bs (showL v) ∧ text2 k v = bs []) := Lib.hid (by simp [text1, text2, HM.out, h1, h2])
    clear h1 h2
    go_wp2_with fail
    refine (show_any v _ hv).mono ?_
    rintro e w' ⟨rfl, rfl⟩
    go_wp2_with fail
    go_ret2
    exact ⟨ret_str2 HT.out.1.symm HT.out.2.symm, f01⟩

set_option maxHeartbeats 800000 in
theorem rtexts_any (k v : Int) (w : World) (hv : v ≤ 9223372036854775807) : Calls Try.prog 14 #[.agg #[.int .i64 k, .int .i64 v]] w fun e w' => e = .returned (.tuple #[.string (text1 k v), .string (text2 k v)]) ∧ Fr [] w w' := by
  have q0 := Holds.new w 29 #[.int .i64 k, .int .i64 v]
  have f0 : Fr [] w (w.alloc (.cells #[.int .i64 k, .int .i64 v] 29)) := (Fr.refl _ _).alloc _
  cases hm : condOk k v
  · rw [show text1 k v = bs [] by simp [text1, hm], show text2 k v = bs [] by simp [text2, hm]]
    have HM := Lib.hid hm
    clear hm
    go_enter Try.func14, Try.ntmps14
    go_wp2_with fail
    refine (rmay_any k v _).mono ?_
    rintro e w1 ⟨rfl, f1⟩
    rw [HM.out]
    go_wp2_with fail
    go_ret2
    exact ⟨rfl, f0.trans f1⟩
  · have HM := Lib.hid hm
    clear hm
    go_enter Try.func14, Try.ntmps14
    go_wp2_with fail
    refine (rmay_any k v _).mono ?_
    rintro e w1 ⟨rfl, f1⟩
    rw [HM.out]
    have q1 := q0.fr f1 (by simp)
    have c0 : w1.cell? ⟨w.heap.size, 0, none⟩ = some (.int .i64 k) := q1.cell 0
    have c1 : w1.cell? ⟨w.heap.size, 1, none⟩ = some (.int .i64 v) := q1.cell 1
    have f01 := f0.trans f1
    clear q0 f0 f1 q1
    by_cases h1 : k = 1
    · subst h1
      have HT : Hid (text1 1 v = bs [] ∧ text2 1 v = bs [42]) := Lib.hid (by simp [text1, text2, HM.out])
      go_wp2_with fail
      go_ret2
      exact ⟨ret_str2 HT.out.1.symm HT.out.2.symm, f01⟩
    by_cases h2 : k = 2
    · subst h2
      have HT : Hid (text1 2 v = bs [42] ∧ text2 2 v = bs []) := Lib.hid (by simp [text1, text2, HM.out])
      go_wp2_with fail
      go_ret2
      exact ⟨ret_str2 HT.out.1.symm HT.out.2.symm, f01⟩
    have e1 : (k == 1) = false := by simpa using h1
    have e2 : (k == 2) = false := by simpa using h2
    have HT : Hid (text1 k v = bs (showL v) ∧ text2 k v = bs []) := Lib.hid (by simp [text1, text2, HM.out, h1, h2])
    by_cases h3 : k = 3
    · subst h3
      clear h1 h2
      go_wp2_with fail
      refine (tag_any v _ hv).mono ?_
      rintro e w' ⟨rfl, rfl⟩
      go_wp2_with fail
      go_ret2
      exact ⟨ret_str2 HT.out.1.symm HT.out.2.symm, f01⟩
    · have e3 : (k == 3) = false := by simpa using h3
      have hv0 : showL v = [] := by
        have := HM.out
        apply showL_zero
        simp [condOk, h1, h2, h3] at this
        omega
      have HV := Lib.hid hv0
      clear h1 h2 h3 hv0
      go_wp2_with fail
      go_ret2
      exact ⟨ret_str2 (HT.out.1.trans (by rw [HV.out]; rfl)).symm HT.out.2.symm, f01⟩
end Go.Proofs.Ytmlcphehejcmkaa
