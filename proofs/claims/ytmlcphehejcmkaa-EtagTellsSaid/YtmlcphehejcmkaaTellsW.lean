/- The walk of EtagTells. -/
import Derived.Test.YtmlcphehejcmkaaFst
import Derived.Deep.RegionHeld3
namespace Go.Proofs.Ytmlcphehejcmkaa
open Go.RowKit

theorem held {w w' : World} {g p u : Nat} {a b c d e f : Value} (hq : Holds w g 29 #[a, b]) (hp : Holds w p 29 #[c, d]) (hu : Holds w u 29 #[e, f]) (h : Fr [] w w') :
    w'.cell? ⟨g, 0, none⟩ = some a ∧ w'.cell? ⟨g, 1, none⟩ = some b ∧ w'.cell? ⟨p, 0, none⟩ = some c ∧ w'.cell? ⟨p, 1, none⟩ = some d ∧ w'.cell? ⟨u, 0, none⟩ = some e ∧ w'.cell? ⟨u, 1, none⟩ = some f :=
  ⟨(hq.fr h (by simp)).cell 0, (hq.fr h (by simp)).cell 1, (hp.fr h (by simp)).cell 0, (hp.fr h (by simp)).cell 1, (hu.fr h (by simp)).cell 0, (hu.fr h (by simp)).cell 1⟩

set_option maxRecDepth 100000 in
set_option maxHeartbeats 4000000 in
theorem tells_walk (v : Int) (a b : ByteArray) (ck cv : Int) (there : Bool) (w : World) (hv : v ≤ 9223372036854775807) (hcv : cv ≤ 9223372036854775807) (ha : a.size ≤ 100) (hb : b.size ≤ 100) :
    Calls Try.prog 5 #[.int .i64 v, .string a, .string b, .agg #[.int .i64 ck, .int .i64 cv], .bool there] w fun e w' => e = .returned (.bool true) ∧ Fr [] w w' := by
  have hsm : a.size ≤ maxLen := by unfold maxLen; omega
  have hpa := Lib.hid (fun w => parse_any a w hsm)
  have hva := Lib.hid (fun w => version_any a w hsm)
  obtain ⟨x, hxx⟩ : ∃ x, x = verOf a := ⟨_, rfl⟩
  rw [← hxx] at hpa hva
  clear hxx
  have hc := Lib.hid (fun w => cond_any a b w (by omega) (by omega))
  have hrc := Lib.hid (fun w => rcond_any a b w (by omega) (by omega))
  unfold tupOf at hc hrc
  generalize (condOf a b).1 = k1 at hc hrc
  generalize (condOf a b).2.1 = v1 at hc hrc
  generalize (condOf a b).2.2 = e1 at hc hrc
  have q0 := Holds.new w 29 #[.int .i64 ck, .int .i64 cv]
  have f0 : Fr [] w (w.alloc (.cells #[.int .i64 ck, .int .i64 cv] 29)) := (Fr.refl _ _).alloc _
  go_enter Try.func5, Try.ntmps5
  go_wp2_with fail
  refine (first_true _).mono ?_
  rintro e w1 ⟨rfl, f1⟩
  have q1 := q0.fr f1 (by simp)
  have r1 := f0.trans f1
  have hlt := q0.lt
  obtain ⟨g, hg⟩ : ∃ g, g = w.heap.size := ⟨_, rfl⟩
  rw [← hg] at q1 ⊢
  clear q0 f0 f1 hlt hg
  go_wp2_with fail
  refine (hpa.out _).mono ?_
  rintro e w' ⟨rfl, rfl⟩
  go_wp2_with fail
  refine (hva.out _).mono ?_
  rintro e w' ⟨rfl, rfl⟩
  generalize (x != 0) = y
  go_wp2_with fail
  refine (hc.out _).mono ?_
  rintro e w2 ⟨rfl, f2⟩
  have q2 := q1.fr f2 (by simp)
  have r2 := r1.trans f2
  clear q1 r1 f2
  have s2 : Fr [] w2 (w2.alloc (.cells #[.int .i64 k1, .int .i64 v1] 29)) := (Fr.refl _ _).alloc _
  have p3 := Holds.new w2 29 #[.int .i64 k1, .int .i64 v1]
  have q3 := q2.fr s2 (by simp)
  have r3 := r2.trans s2
  clear q2 r2 s2
  go_wp2_with fail
  refine (hrc.out _).mono ?_
  rintro e w4 ⟨rfl, f4⟩
  have q4 := q3.fr f4 (by simp)
  have p4 := p3.fr f4 (by simp)
  have r4 := r3.trans f4
  clear q3 p3 r3 f4
  have s4 : Fr [] w4 (w4.alloc (.cells #[.int .i64 k1, .int .i64 v1] 29)) := (Fr.refl _ _).alloc _
  have u5 := Holds.new w4 29 #[.int .i64 k1, .int .i64 v1]
  have q5 := q4.fr s4 (by simp)
  have p5 := p4.fr s4 (by simp)
  have r5 := r4.trans s4
  clear q4 p4 r4 s4
  have q_0 := q5.cell 0
  have q_1 := q5.cell 1
  have p_0 := p5.cell 0
  have p_1 := p5.cell 1
  have u_0 := u5.cell 0
  have u_1 := u5.cell 1
  have hpg : Hid True := Lib.hid trivial
  go_wp2_with fail
  refine (texts_any ck cv _ hcv).mono ?_
  rintro e w6 ⟨rfl, f6⟩
  clear q_0 q_1 p_0 p_1 u_0 u_1
  have q6 := q5.fr f6 (by simp)
  have p6 := p5.fr f6 (by simp)
  have u6 := u5.fr f6 (by simp)
  have r6 := r5.trans f6
  clear q5 p5 u5 r5 f6
  have q_0 := q6.cell 0
  have q_1 := q6.cell 1
  have p_0 := p6.cell 0
  have p_1 := p6.cell 1
  have u_0 := u6.cell 0
  have u_1 := u6.cell 1
  go_wp2_with fail
  refine (rtexts_any ck cv _ hcv).mono ?_
  rintro e w7 ⟨rfl, f7⟩
  clear q_0 q_1 p_0 p_1 u_0 u_1
  have q7 := q6.fr f7 (by simp)
  have p7 := p6.fr f7 (by simp)
  have u7 := u6.fr f7 (by simp)
  have r7 := r6.trans f7
  clear q6 p6 u6 r6 f7
  generalize text1 ck cv = T1
  generalize text2 ck cv = T2
  obtain ⟨gp, hgp⟩ : ∃ gp, gp = w2.heap.size := ⟨_, rfl⟩
  obtain ⟨gu, hgu⟩ : ∃ gu, gu = w4.heap.size := ⟨_, rfl⟩
  rw [← hgp] at p7 ⊢
  rw [← hgu] at u7 ⊢
  clear hgp hgu
  generalize bs (showL v) = T0
  go_wp2
  go_region_held3 (fun w' => w'.cell? ⟨g, 0, none⟩ = some (.int .i64 ck) ∧ w'.cell? ⟨g, 1, none⟩ = some (.int .i64 cv) ∧ w'.cell? ⟨gp, 0, none⟩ = some (.int .i64 k1) ∧ w'.cell? ⟨gp, 1, none⟩ = some (.int .i64 v1) ∧ w'.cell? ⟨gu, 0, none⟩ = some (.int .i64 k1) ∧ w'.cell? ⟨gu, 1, none⟩ = some (.int .i64 v1))
    (first | exact held q7 p7 u7 ((Fr.refl [] w7).drew) | exact held q7 p7 u7 (((Fr.refl [] w7).drew).trans f8) | exact held q7 p7 u7 ((((Fr.refl [] w7).drew).trans f8).trans f9) | exact held q7 p7 u7 (((((Fr.refl [] w7).drew).trans f8).trans f9).trans f10) | exact held q7 p7 u7 ((((((Fr.refl [] w7).drew).trans f8).trans f9).trans f10).trans f11))
    (first
      | (go_at_call 9; refine (show_any v _ hv).mono ?_; rintro e w' ⟨rfl, rfl⟩)
      | (go_at_call 15; refine (tag_any v _ hv).mono ?_; rintro e w' ⟨rfl, rfl⟩)
      | (go_at_call 16; refine (may_any ck cv _).mono ?_; rintro e w8 ⟨rfl, f8⟩)
      | (go_at_call 17; refine (rmay_any ck cv _).mono ?_; rintro e w9 ⟨rfl, f9⟩)
      | (go_at_call 18; refine (holds_any ck cv there v _).mono ?_; rintro e w10 ⟨rfl, f10⟩)
      | (go_at_call 19; refine (rholds_any ck cv there v _).mono ?_; rintro e w11 ⟨rfl, f11⟩))
  go_wp2
  go_ret
  exact ⟨ret_bool (by simp), r7.trans ((((((Fr.refl [] w7).drew).trans f8).trans f9).trans f10).trans f11)⟩
end Go.Proofs.Ytmlcphehejcmkaa
