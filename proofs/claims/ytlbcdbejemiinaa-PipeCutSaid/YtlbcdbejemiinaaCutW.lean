/- The walk of PipeCut. -/
import Derived.Test.YtlbcdbejemiinaaPipe
namespace Go.Proofs.Ytlbcdbejemiinaa
open Go.RowKit

theorem parts_of (s : ByteArray) (t : Nat) (h : t ≤ s.size) : s.extract 0 t ++ s.extract t s.size = s := by
  rw [ByteArray.extract_append_extract]
  simp [h]
theorem take_two (w : World) (g : Nat) (room : Int) (s : ByteArray) (c : Bool) (n : Int) (h : PipeAt w g room s c) (h1 : s.size ≤ 9223372036854775807) :
    Calls Try.prog 11 #[.pointer (some ⟨g, 0, none⟩), .int .i64 n] w fun e w' => ∃ x y : ByteArray, e = .returned (.string x) ∧ x.size = takes n s ∧ x ++ y = s ∧ PipeAt w' g room y c ∧ Fr [g] w w' :=
  (take_any w g room s c n h h1).mono fun e w' ⟨he, hp, hf⟩ => ⟨_, _, he, by rw [ByteArray.size_extract]; have := takes_le n s; omega, parts_of s _ (takes_le n s), hp, hf⟩
theorem bytes_inj {a b c d : ByteArray} (h : a ++ b = c ++ d) (hs : a.size = c.size) : a = c ∧ b = d := by
  have h1 : a.data.toList ++ b.data.toList = c.data.toList ++ d.data.toList := by
    have := congrArg (fun x => x.data.toList) h
    simpa using this
  have h2 : a.data.toList.length = c.data.toList.length := by simpa using hs
  obtain ⟨e1, e2⟩ := List.append_inj h1 h2
  exact ⟨by cases a; cases c; simp_all [Array.toList_inj], by cases b; cases d; simp_all [Array.toList_inj]⟩
theorem cut_same {s x1 y x2 z x3 z3 : ByteArray} {a b : Int} (ha : 0 ≤ a) (hb : 0 ≤ b) (h1 : x1.size = takes a s) (e1 : x1 ++ y = s) (h2 : x2.size = takes b y) (e2 : x2 ++ z = y)
    (h3 : x3.size = takes (a + b) s) (e3 : x3 ++ z3 = s) : x1 ++ x2 = x3 ∧ z = z3 := by
  have hs : s.size = x1.size + y.size := by rw [← e1, ByteArray.size_append]
  have hy : y.size = x2.size + z.size := by rw [← e2, ByteArray.size_append]
  refine bytes_inj ?_ ?_
  · rw [ByteArray.append_assoc, e2, e1, e3]
  · rw [ByteArray.size_append]
    unfold takes at h1 h2 h3
    omega
theorem same_list {a b : ByteArray} (h : a = b) : (a.toList == b.toList) = true := by rw [h]; simp

set_option maxRecDepth 100000 in
set_option maxHeartbeats 1000000 in
theorem cut_walk (w : World) (s t : ByteArray) (a b : Int) (h1 : s.size ≤ 200) (h2 : t.size ≤ 200) (h3 : 0 ≤ a) (h4 : 0 ≤ b) (h5 : a ≤ 500) (h6 : b ≤ 500) :
    Calls Try.prog 3 #[.string s, .string t, .int .i64 a, .int .i64 b] w fun e w' => e = .returned (.bool true) ∧ Fr [] w w' := by
  obtain ⟨R, hR⟩ : ∃ R : Int, R = (s.size : Int) + (t.size : Int) := ⟨_, rfl⟩
  have hR0 : 0 ≤ R := by omega
  have hR1 : R ≤ 9223372036854775807 := by omega
  have hRm : max R 0 = R := by omega
  go_enter Try.func3, Try.ntmps3
  go_wp2_with fail
  refine (first_true _).mono ?_
  rintro e w0 ⟨rfl, r0⟩
  go_wp2_with fail
  rw [← hR]
  refine (new_any R w0).mono ?_
  rintro e w1 ⟨g1, rfl, hg1, p1, r1⟩
  rw [hRm] at p1
  have HR := Lib.hid hR
  have HRm := Lib.hid hRm
  clear hR hRm
  go_wp2_with fail
  rw [← HR.out]
  refine (new_any R w1).mono ?_
  rintro e w2 ⟨g2, rfl, hg2, q2, r2⟩
  rw [HRm.out] at q2
  have p2 := p1.fr r2 (by simp)
  have r := (r0.step r1 (by simp)).step r2 (by simp)
  have hne : g1 ≠ g2 := by have := p1.lt; omega
  have hb1 : w.heap.size ≤ g1 := Nat.le_trans r0.size hg1
  have hb2 : w.heap.size ≤ g2 := Nat.le_trans (Nat.le_trans r0.size r1.size) hg2
  clear p1 r0 r1 r2 hg1 hg2
  go_wp2_with fail
  refine (put_yes w2 g1 R ByteArray.empty false s p2 hR0 hR1 (by simpa using hR0) (by have := HR.out; simp [fits]; omega)).mono ?_
  rintro e w3 ⟨rfl, p3, r3⟩
  have q3 := q2.fr r3 (by simpa using Ne.symm hne)
  replace r := r.step r3 (by simpa using hb1)
  go_wp2_with fail
  refine (put_yes w3 g1 R s false t (by simpa using p3) hR0 hR1 (by have := HR.out; omega) (by have := HR.out; simp [fits]; omega)).mono ?_
  rintro e w4 ⟨rfl, p4, r4⟩
  have q4 := q3.fr r4 (by simpa using Ne.symm hne)
  replace r := r.step r4 (by simpa using hb1)
  go_wp2_with fail
  refine (put_yes w4 g2 R ByteArray.empty false (s ++ t) q4 hR0 hR1 (by simpa using hR0) (by have := HR.out; simp [fits, ByteArray.size_append]; omega)).mono ?_
  rintro e w5 ⟨rfl, q5, r5⟩
  have p5 := p4.fr r5 (by simpa using hne)
  replace r := r.step r5 (by simpa using hb2)
  clear p2 p3 p4 q2 q3 q4 r3 r4 r5
  obtain ⟨u, hu⟩ : ∃ u, u = s ++ t := ⟨_, rfl⟩
  rw [← hu] at p5
  have q5' : PipeAt w5 g2 R u false := by rw [hu]; simpa using q5
  have hur : (u.size : Int) = R := by rw [hu, ByteArray.size_append]; have := HR.out; omega
  have hr0 : R - (u.size : Int) = 0 := by omega
  have hul : (u.size : Int) ≤ R := by omega
  have hub : u.size ≤ 400 := by have := HR.out; omega
  have hU := Lib.hid hu
  have hUR := Lib.hid hur
  have hR00 := Lib.hid hr0
  clear q5 hu hur hr0
  go_wp2_with fail
  refine (look_any w5 g1 R u false p5).mono ?_
  rintro e w' ⟨rfl, rfl⟩
  go_wp2_with fail
  refine (look_any w5 g2 R u false q5').mono ?_
  rintro e w' ⟨rfl, rfl⟩
  go_wp2_with fail
  refine (room_lit w5 g1 R u false p5 hR0 hR1 hul 0 hR00.out).mono ?_
  rintro e w' ⟨rfl, n1, rfl⟩
  go_wp2_with fail
  refine (room_lit _ g2 R u false (q5'.drewN n1) hR0 hR1 hul 0 hR00.out).mono ?_
  rintro e w' ⟨rfl, n2, rfl⟩
  go_wp2_with fail
  refine (take_two _ g1 R u false a (p5.drewN (n1 + n2)) (by omega)).mono ?_
  rintro e w6 ⟨x1, y, rfl, hx1, he1, p6, r6⟩
  have q6 := Holds.fr (q5'.drewN (n1 + n2)) r6 (by simpa using Ne.symm hne)
  replace r := (r.drewN (n1 + n2)).step r6 (by simpa using hb1)
  have hx1s : x1.size ≤ 400 := by rw [hx1]; have := takes_le a u; omega
  have hys : y.size ≤ 400 := by have : u.size = x1.size + y.size := by rw [← he1, ByteArray.size_append]
                                omega
  have HX1 := Lib.hid hx1
  have HE1 := Lib.hid he1
  clear hx1 he1
  go_wp2_with fail
  refine (take_two _ g1 R y false b p6 (by omega)).mono ?_
  rintro e w7 ⟨x2, z, rfl, hx2, he2, p7, r7⟩
  have q7 := Holds.fr q6 r7 (by simpa using Ne.symm hne)
  replace r := r.step r7 (by simpa using hb1)
  have hx2s : x2.size ≤ 400 := by rw [hx2]; have := takes_le b y; omega
  have HX2 := Lib.hid hx2
  have HE2 := Lib.hid he2
  clear hx2 he2
  go_wp2_with fail
  refine (take_two _ g2 R u false (a + b) q7 (by omega)).mono ?_
  rintro e w8 ⟨x3, z3, rfl, hx3, he3, q8, r8⟩
  have p8 := Holds.fr p7 r8 (by simpa using hne)
  replace r := r.step r8 (by simpa using hb2)
  obtain ⟨E1, E2⟩ := cut_same h3 h4 HX1.out HE1.out HX2.out HE2.out hx3 he3
  have hT1 := same_list E1
  have HE := Lib.hid E1
  subst E2
  clear hx3 he3 E1
  go_wp2_with fail
  refine (look_any w8 g1 R z false p8).mono ?_
  rintro e w' ⟨rfl, rfl⟩
  go_wp2_with fail
  refine (look_any w8 g2 R z false q8).mono ?_
  rintro e w' ⟨rfl, rfl⟩
  go_wp2_with fail
  refine (len_any w8 g1 R z false p8).mono ?_
  rintro e w' ⟨rfl, rfl⟩
  go_wp2_with fail
  refine (len_any w8 g2 R z false q8).mono ?_
  rintro e w' ⟨rfl, rfl⟩
  go_wp2_with fail
  go_ret
  exact ⟨rfl, r⟩
set_option maxRecDepth 100000 in
set_option maxHeartbeats 1000000 in
theorem cut_all (w : World) (s t : ByteArray) (a b : Int) : Calls Try.prog 3 #[.string s, .string t, .int .i64 a, .int .i64 b] w fun e w' => e = .returned (.bool true) ∧ Fr [] w w' := by
  by_cases h0 : 200 < s.size
  · go_enter Try.func3, Try.ntmps3
    go_wp2_with fail
    refine (first_true _).mono ?_
    rintro e w1 ⟨rfl, r1⟩
    go_wp2_with fail
    refine (first_true _).mono ?_
    rintro e w2 ⟨rfl, r2⟩
    go_wp2_with fail
    go_ret
    exact ⟨rfl, r1.trans r2⟩
  by_cases h1 : 200 < t.size
  · go_enter Try.func3, Try.ntmps3
    go_wp2_with fail
    refine (first_true _).mono ?_
    rintro e w1 ⟨rfl, r1⟩
    go_wp2_with fail
    refine (first_true _).mono ?_
    rintro e w2 ⟨rfl, r2⟩
    go_wp2_with fail
    go_ret
    exact ⟨rfl, r1.trans r2⟩
  by_cases h2 : a < 0
  · go_enter Try.func3, Try.ntmps3
    go_wp2_with fail
    refine (first_true _).mono ?_
    rintro e w1 ⟨rfl, r1⟩
    go_wp2_with fail
    refine (first_true _).mono ?_
    rintro e w2 ⟨rfl, r2⟩
    go_wp2_with fail
    go_ret
    exact ⟨rfl, r1.trans r2⟩
  by_cases h3 : b < 0
  · go_enter Try.func3, Try.ntmps3
    go_wp2_with fail
    refine (first_true _).mono ?_
    rintro e w1 ⟨rfl, r1⟩
    go_wp2_with fail
    refine (first_true _).mono ?_
    rintro e w2 ⟨rfl, r2⟩
    go_wp2_with fail
    go_ret
    exact ⟨rfl, r1.trans r2⟩
  by_cases h4 : 500 < a
  · go_enter Try.func3, Try.ntmps3
    go_wp2_with fail
    refine (first_true _).mono ?_
    rintro e w1 ⟨rfl, r1⟩
    go_wp2_with fail
    refine (first_true _).mono ?_
    rintro e w2 ⟨rfl, r2⟩
    go_wp2_with fail
    go_ret
    exact ⟨rfl, r1.trans r2⟩
  by_cases h5 : 500 < b
  · go_enter Try.func3, Try.ntmps3
    go_wp2_with fail
    refine (first_true _).mono ?_
    rintro e w1 ⟨rfl, r1⟩
    go_wp2_with fail
    refine (first_true _).mono ?_
    rintro e w2 ⟨rfl, r2⟩
    go_wp2_with fail
    go_ret
    exact ⟨rfl, r1.trans r2⟩
  exact cut_walk w s t a b (by omega) (by omega) (by omega) (by omega) (by omega) (by omega)
end Go.Proofs.Ytlbcdbejemiinaa
