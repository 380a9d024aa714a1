/- The walk of HubOnce. -/
import Derived.Test.YtjkhkepckocjkaaActs
import Derived.Test.YtjkhkepckocjkaaHubP
namespace Go.Proofs.Ytjkhkepckocjkaa
open Go.RowKit

theorem nd_run (L : Nat → Act) (k : Nat) : Nd (runL L k) := by
  induction k with
  | zero => simp [runL, Nd]
  | succ k ih =>
    simp only [runL, stepL]
    split
    · exact nd_add ih _ _
    · split
      · exact nd_wake ih _
      · exact nd_rem ih _

/-- What is left of a script when one has been taken out; how one comes in again, is woken, goes, and comes again. -/
structure Again (l1 l2 l3 l4 : List Wt) (who pl : Int) : Prop where
  no : has who l1 = false
  rem1 : remL l1 who = l1
  w1 : isWoken l1 who = false
  add1 : addL l1 who pl = l2
  len2 : l2.length = l1.length + 1
  w2 : isWoken l2 who = false
  yes2 : has who l2 = true
  add2 : addL l2 who pl = l2
  at2 : atL l2 pl = atL l1 pl ++ [who]
  wk2 : wakeL l2 pl = l3
  w3 : isWoken l3 who = true
  len3 : l3.length ≤ l1.length + 1
  yes3 : has who l3 = true
  add3 : addL l3 who pl = l3
  rem3 : remL l3 who = l4
  no4 : has who l4 = false
  add4 : addL l4 who pl = l4 ++ [⟨who, pl, false⟩]
  len4 : l4.length = l1.length
  w5 : isWoken (l4 ++ [⟨who, pl, false⟩]) who = false
theorem again {l1 : List Wt} {who : Int} (h : Nd l1) (hno : has who l1 = false) (pl : Int) : ∃ l2 l3 l4, Again l1 l2 l3 l4 who pl := by
  have n2 : Nd (l1 ++ [⟨who, pl, false⟩]) := by have := nd_add h who pl; rwa [add_new hno] at this
  have n3 := nd_wake n2 pl
  have y2 := has_last l1 ⟨who, pl, false⟩
  have y3 : has who (wakeL (l1 ++ [⟨who, pl, false⟩]) pl) = true := by rw [has_wake]; exact y2
  have n4 := nd_rem n3 who
  have no4 := has_rem n3 who
  have len3 := rem_len y3
  rw [wakeL_length, List.length_append] at len3
  have n5 : Nd (remL (wakeL (l1 ++ [⟨who, pl, false⟩]) pl) who ++ [⟨who, pl, false⟩]) := by have := nd_add n4 who pl; rwa [add_new no4] at this
  refine ⟨l1 ++ [⟨who, pl, false⟩], wakeL (l1 ++ [⟨who, pl, false⟩]) pl, remL (wakeL (l1 ++ [⟨who, pl, false⟩]) pl) who, hno, rem_none hno, isWoken_no hno, add_new hno pl, by simp, ?_, y2, add_old y2 pl, atL_add _ _ _, rfl, ?_, by rw [wakeL_length]; simp, y3, add_old y3 pl, rfl, no4, add_new no4 pl, by simp at len3; exact len3, ?_⟩
  · exact isWoken_of n2 (x := ⟨who, pl, false⟩) (by simp)
  · rw [isWoken_wake n2, atL_add]; simp
  · exact isWoken_of n5 (x := ⟨who, pl, false⟩) (by simp)

theorem ActsAt.mono {w : World} {B B' : Nat} {a : Option Addr} {len : Nat} {L : Nat → Act} (h : ActsAt w B a len L) (hB : B ≤ B') : ActsAt w B' a len L := by
  intro hl
  obtain ⟨b, off, ha, hb, hc⟩ := h hl
  exact ⟨b, off, ha, by omega, hc⟩
theorem last_of {w : World} {v : Value} {l1 l2 : List Wt} {who pl : Int} {own : Option Nat} (hat : atL l2 pl = atL l1 pl ++ [who]) (h : Sl w 3 1 v (atL l2 pl).length ((atL l2 pl).map ci) own) (hm : 0 < (atL l2 pl).length → ∃ g, own = some g) :
    ∃ g c n, v = .slice (some ⟨g, 0, none⟩) (n + 1) c ∧ (atL l2 pl).length = n + 1 ∧ w.cell? ⟨g, n, none⟩ = some (.int .i64 who) := by
  have e : (atL l2 pl).length = (atL l1 pl).length + 1 := by rw [hat]; simp
  obtain ⟨g, rfl⟩ := hm (by omega)
  obtain ⟨c, rfl, hr⟩ := h.own_row
  refine ⟨g, c, (atL l1 pl).length, by rw [e], e, hr.cell ?_⟩
  rw [hat]
  simp [ci]
theorem runs {l0 : List Wt} {who : Int} (h : Nd l0) : Nd (remL l0 who) ∧ has who (remL l0 who) = false ∧ (has who l0 = true → l0.length = (remL l0 who).length + 1) ∧ (has who l0 = false → l0.length = (remL l0 who).length) :=
  ⟨nd_rem h who, has_rem h who, fun e => (rem_len e).symm, fun e => by rw [rem_none e]⟩
set_option maxRecDepth 100000 in
set_option maxHeartbeats 4000000 in
theorem once_walk (w : World) (a : Option Addr) (len cap : Nat) (who pl : Int) (L : Nat → Act) (hA : ActsAt w w.heap.size a len L) (hl : len ≤ 100) :
    Calls Try.prog 5 #[.slice a len cap, .int .i64 who, .int .i64 pl] w fun e w' => e = .returned (.bool true) ∧ Fr [] w w' := by
  obtain ⟨B, hB⟩ : ∃ B, w.heap.size = B := ⟨_, rfl⟩
  rw [hB] at hA
  obtain ⟨nd1, no1, ly, ln⟩ := runs (who := who) (nd_run L len)
  obtain ⟨l2, l3, l4, hag⟩ := again nd1 no1 pl
  have hlen := runL_length L len
  have HAG := Lib.hid hag
  go_enter Try.func5, Try.ntmps5
  go_wp2_with fail
  refine (first_true _).mono ?_
  rintro e wa ⟨rfl, fa⟩
  go_wp2_with fail
  refine (made_any wa a len cap L (by have := fa.size; exact (hA.fr fa (by omega) (by simp)).mono (by omega)) hl).mono ?_
  rintro e w0 ⟨r, v, own, rfl, hr0, h0, nw0, fb⟩
  have f0 := fa.trans fb
  have hr : B ≤ r := by have := fa.size; omega
  have nw : New B own := by intro g hg; have := nw0 g hg; have := fa.size; omega
  have HB := Lib.hid hB
  clear hB hA nd1 no1 hag fa fb hr0 nw0
  generalize hl1 : remL (runL L len) who = l1 at HAG ly ln
  generalize runL L len = l0 at h0 hl1 ly ln hlen
  have HL1 := Lib.hid hl1
  clear hl1
  cases hhad : has who l0
  · have hlen1 := ln hhad
    have hle1 : l1.length ≤ 100 := by omega
    have HHAD := Lib.hid hhad
    have HLEN := Lib.hid hlen1
    clear hhad hlen1 ly ln
    go_wp2_with fail
    refine (len_any w0 r v l0 own h0).mono ?_
    rintro e wz ⟨rfl, rfl⟩
    rw [HLEN.out]
    go_wp2_with fail
    refine (remove_any w0 r v l0 own who h0 (by omega)).mono ?_
    rintro e w1 ⟨v1, own1, rfl, h1, q1, o1⟩
    rw [HL1.out] at h1
    rw [HHAD.out]
    have f1 := nw.fr hr f0 HB.out q1
    have n1 := nw.next o1 (by have := f0.size; have := HB.out; omega)
    clear h0 f0 q1 o1 nw
    go_wp2_with fail
    refine (remove_any w1 r v1 l1 own1 who h1 (by omega)).mono ?_
    rintro e w2 ⟨v2, own2, rfl, h2, q2, o2⟩
    rw [HAG.out.rem1] at h2
    rw [HAG.out.no]
    have f2 := n1.fr hr f1 HB.out q2
    have n2 := n1.next o2 (by have := f1.size; have := HB.out; omega)
    clear h1 f1 q2 o2 n1
    go_wp2_with fail
    refine (woken_any w2 r v2 l1 own2 who h2 (by omega)).mono ?_
    rintro e w3 ⟨rfl, q3⟩
    rw [HAG.out.w1]
    have h3 := h2.fr0 q3
    have f3 := f2.trans q3
    clear h2 f2 q3
    go_wp2_with fail
    refine (len_any w3 r v2 l1 own2 h3).mono ?_
    rintro e wz ⟨rfl, rfl⟩
    go_wp2_with fail
    refine (add_any w3 r v2 l1 own2 who pl h3 (by omega)).mono ?_
    rintro e w4 ⟨v4, own4, rfl, h4, q4, o4⟩
    rw [HAG.out.add1] at h4
    rw [HAG.out.no]
    have f4 := n2.fr hr f3 HB.out q4
    have n4 := n2.next o4 (by have := f3.size; have := HB.out; omega)
    clear h3 f3 q4 o4 n2
    have hle2 := Nat.le_of_eq HAG.out.len2
    go_wp2_with fail
    refine (woken_any w4 r v4 l2 own4 who h4 (by omega)).mono ?_
    rintro e w5 ⟨rfl, q5⟩
    rw [HAG.out.w2]
    have h5 := h4.fr0 q5
    have f5 := f4.trans q5
    clear h4 f4 q5
    go_wp2_with fail
    refine (add_any w5 r v4 l2 own4 who pl h5 (by omega)).mono ?_
    rintro e w6 ⟨v6, own6, rfl, h6, q6, o6⟩
    rw [HAG.out.add2] at h6
    rw [HAG.out.yes2]
    have f6 := n4.fr hr f5 HB.out q6
    have n6 := n4.next o6 (by have := f5.size; have := HB.out; omega)
    clear h5 f5 q6 o6 n4
    go_wp2_with fail
    refine (len_any w6 r v6 l2 own6 h6).mono ?_
    rintro e wz ⟨rfl, rfl⟩
    rw [HAG.out.len2]
    go_wp2_with fail
    refine (at_any w6 r v6 l2 own6 pl h6 (by omega)).mono ?_
    rintro e wc ⟨vc, oc, rfl, sc, qc, _, mc⟩
    obtain ⟨gc, cc, nc, hvc, hnc, hcc⟩ := last_of HAG.out.at2 sc mc
    subst hvc
    have hnb : nc ≤ 200 := by have := atL_len l2 pl; omega
    have h7 := h6.fr0 qc
    have f7 := f6.trans qc
    clear h6 f6 qc sc mc hnc
    go_wp2_with fail
    refine (wake_any wc r v6 l2 own6 pl h7 (by omega)).mono ?_
    rintro e w8 ⟨vd, od, rfl, _, h8, qd, _, _⟩
    rw [HAG.out.wk2] at h8
    have f8 := n6.fr hr f7 HB.out (qd.mono (fun k hk => List.mem_cons_of_mem _ hk))
    clear h7 f7 qd hcc
    have hle3 := HAG.out.len3
    go_wp2_with fail
    refine (woken_any w8 r v6 l3 own6 who h8 (by omega)).mono ?_
    rintro e w9 ⟨rfl, q9⟩
    rw [HAG.out.w3]
    have h9 := h8.fr0 q9
    have f9 := f8.trans q9
    clear h8 f8 q9
    go_wp2_with fail
    refine (add_any w9 r v6 l3 own6 who pl h9 (by omega)).mono ?_
    rintro e w10 ⟨v10, own10, rfl, h10, q10, o10⟩
    rw [HAG.out.add3] at h10
    rw [HAG.out.yes3]
    have f10 := n6.fr hr f9 HB.out q10
    have n10 := n6.next o10 (by have := f9.size; have := HB.out; omega)
    clear h9 f9 q10 o10 n6
    go_wp2_with fail
    refine (remove_any w10 r v10 l3 own10 who h10 (by omega)).mono ?_
    rintro e w11 ⟨v11, own11, rfl, h11, q11, o11⟩
    rw [HAG.out.rem3] at h11
    rw [HAG.out.yes3]
    have f11 := n10.fr hr f10 HB.out q11
    have n11 := n10.next o11 (by have := f10.size; have := HB.out; omega)
    clear h10 f10 q11 o11 n10
    have hle4 := Nat.le_of_eq HAG.out.len4
    go_wp2_with fail
    refine (add_any w11 r v11 l4 own11 who pl h11 (by omega)).mono ?_
    rintro e w12 ⟨v12, own12, rfl, h12, q12, o12⟩
    rw [HAG.out.add4] at h12
    rw [HAG.out.no4]
    have f12 := n11.fr hr f11 HB.out q12
    have n12 := n11.next o12 (by have := f11.size; have := HB.out; omega)
    clear h11 f11 q12 o12 n11
    go_wp2_with fail
    refine (woken_any w12 r v12 _ own12 who h12 (by simp; omega)).mono ?_
    rintro e w13 ⟨rfl, q13⟩
    rw [HAG.out.w5]
    have h13 := h12.fr0 q13
    have f13 := f12.trans q13
    clear h12 f12 q13
    go_wp2_with fail
    refine (len_any w13 r v12 _ own12 h13).mono ?_
    rintro e wz ⟨rfl, rfl⟩
    rw [show (l4 ++ [(⟨who, pl, false⟩ : Wt)]).length = l1.length + 1 by rw [List.length_append, HAG.out.len4]; rfl]
    go_wp2_with fail
    go_ret
    exact ⟨ret_bool (by simp), f13⟩
  · have hlen1 := ly hhad
    have hle1 : l1.length ≤ 100 := by omega
    have HHAD := Lib.hid hhad
    have HLEN := Lib.hid hlen1
    clear hhad hlen1 ly ln
    go_wp2_with fail
    refine (len_any w0 r v l0 own h0).mono ?_
    rintro e wz ⟨rfl, rfl⟩
    rw [HLEN.out]
    go_wp2_with fail
    refine (remove_any w0 r v l0 own who h0 (by omega)).mono ?_
    rintro e w1 ⟨v1, own1, rfl, h1, q1, o1⟩
    rw [HL1.out] at h1
    rw [HHAD.out]
    have f1 := nw.fr hr f0 HB.out q1
    have n1 := nw.next o1 (by have := f0.size; have := HB.out; omega)
    clear h0 f0 q1 o1 nw
    go_wp2_with fail
    refine (remove_any w1 r v1 l1 own1 who h1 (by omega)).mono ?_
    rintro e w2 ⟨v2, own2, rfl, h2, q2, o2⟩
    rw [HAG.out.rem1] at h2
    rw [HAG.out.no]
    have f2 := n1.fr hr f1 HB.out q2
    have n2 := n1.next o2 (by have := f1.size; have := HB.out; omega)
    clear h1 f1 q2 o2 n1
    go_wp2_with fail
    refine (woken_any w2 r v2 l1 own2 who h2 (by omega)).mono ?_
    rintro e w3 ⟨rfl, q3⟩
    rw [HAG.out.w1]
    have h3 := h2.fr0 q3
    have f3 := f2.trans q3
    clear h2 f2 q3
    go_wp2_with fail
    refine (len_any w3 r v2 l1 own2 h3).mono ?_
    rintro e wz ⟨rfl, rfl⟩
    go_wp2_with fail
    refine (add_any w3 r v2 l1 own2 who pl h3 (by omega)).mono ?_
    rintro e w4 ⟨v4, own4, rfl, h4, q4, o4⟩
    rw [HAG.out.add1] at h4
    rw [HAG.out.no]
    have f4 := n2.fr hr f3 HB.out q4
    have n4 := n2.next o4 (by have := f3.size; have := HB.out; omega)
    clear h3 f3 q4 o4 n2
    have hle2 := Nat.le_of_eq HAG.out.len2
    go_wp2_with fail
    refine (woken_any w4 r v4 l2 own4 who h4 (by omega)).mono ?_
    rintro e w5 ⟨rfl, q5⟩
    rw [HAG.out.w2]
    have h5 := h4.fr0 q5
    have f5 := f4.trans q5
    clear h4 f4 q5
    go_wp2_with fail
    refine (add_any w5 r v4 l2 own4 who pl h5 (by omega)).mono ?_
    rintro e w6 ⟨v6, own6, rfl, h6, q6, o6⟩
    rw [HAG.out.add2] at h6
    rw [HAG.out.yes2]
    have f6 := n4.fr hr f5 HB.out q6
    have n6 := n4.next o6 (by have := f5.size; have := HB.out; omega)
    clear h5 f5 q6 o6 n4
    go_wp2_with fail
    refine (len_any w6 r v6 l2 own6 h6).mono ?_
    rintro e wz ⟨rfl, rfl⟩
    rw [HAG.out.len2]
    go_wp2_with fail
    refine (at_any w6 r v6 l2 own6 pl h6 (by omega)).mono ?_
    rintro e wc ⟨vc, oc, rfl, sc, qc, _, mc⟩
    obtain ⟨gc, cc, nc, hvc, hnc, hcc⟩ := last_of HAG.out.at2 sc mc
    subst hvc
    have hnb : nc ≤ 200 := by have := atL_len l2 pl; omega
    have h7 := h6.fr0 qc
    have f7 := f6.trans qc
    clear h6 f6 qc sc mc hnc
    go_wp2_with fail
    refine (wake_any wc r v6 l2 own6 pl h7 (by omega)).mono ?_
    rintro e w8 ⟨vd, od, rfl, _, h8, qd, _, _⟩
    rw [HAG.out.wk2] at h8
    have f8 := n6.fr hr f7 HB.out (qd.mono (fun k hk => List.mem_cons_of_mem _ hk))
    clear h7 f7 qd hcc
    have hle3 := HAG.out.len3
    go_wp2_with fail
    refine (woken_any w8 r v6 l3 own6 who h8 (by omega)).mono ?_
    rintro e w9 ⟨rfl, q9⟩
    rw [HAG.out.w3]
    have h9 := h8.fr0 q9
    have f9 := f8.trans q9
    clear h8 f8 q9
    go_wp2_with fail
    refine (add_any w9 r v6 l3 own6 who pl h9 (by omega)).mono ?_
    rintro e w10 ⟨v10, own10, rfl, h10, q10, o10⟩
    rw [HAG.out.add3] at h10
    rw [HAG.out.yes3]
    have f10 := n6.fr hr f9 HB.out q10
    have n10 := n6.next o10 (by have := f9.size; have := HB.out; omega)
    clear h9 f9 q10 o10 n6
    go_wp2_with fail
    refine (remove_any w10 r v10 l3 own10 who h10 (by omega)).mono ?_
    rintro e w11 ⟨v11, own11, rfl, h11, q11, o11⟩
    rw [HAG.out.rem3] at h11
    rw [HAG.out.yes3]
    have f11 := n10.fr hr f10 HB.out q11
    have n11 := n10.next o11 (by have := f10.size; have := HB.out; omega)
    clear h10 f10 q11 o11 n10
    have hle4 := Nat.le_of_eq HAG.out.len4
    go_wp2_with fail
    refine (add_any w11 r v11 l4 own11 who pl h11 (by omega)).mono ?_
    rintro e w12 ⟨v12, own12, rfl, h12, q12, o12⟩
    rw [HAG.out.add4] at h12
    rw [HAG.out.no4]
    have f12 := n11.fr hr f11 HB.out q12
    have n12 := n11.next o12 (by have := f11.size; have := HB.out; omega)
    clear h11 f11 q12 o12 n11
    go_wp2_with fail
    refine (woken_any w12 r v12 _ own12 who h12 (by simp; omega)).mono ?_
    rintro e w13 ⟨rfl, q13⟩
    rw [HAG.out.w5]
    have h13 := h12.fr0 q13
    have f13 := f12.trans q13
    clear h12 f12 q13
    go_wp2_with fail
    refine (len_any w13 r v12 _ own12 h13).mono ?_
    rintro e wz ⟨rfl, rfl⟩
    rw [show (l4 ++ [(⟨who, pl, false⟩ : Wt)]).length = l1.length + 1 by rw [List.length_append, HAG.out.len4]; rfl]
    go_wp2_with fail
    go_ret
    exact ⟨ret_bool (by simp), f13⟩

set_option maxHeartbeats 400000 in
theorem once_all (w : World) (a : Option Addr) (len cap : Nat) (who pl : Int) (L : Nat → Act) (hA : ActsAt w w.heap.size a len L) :
    Calls Try.prog 5 #[.slice a len cap, .int .i64 who, .int .i64 pl] w fun e w' => e = .returned (.bool true) ∧ Fr [] w w' := by
  by_cases hl : len ≤ 100
  · exact once_walk w a len cap who pl L hA hl
  · clear hA
    go_enter Try.func5, Try.ntmps5
    go_wp2_with fail
    refine (first_true _).mono ?_
    rintro e w1 ⟨rfl, f1⟩
    go_wp2_with fail
    refine (first_true _).mono ?_
    rintro e w2 ⟨rfl, f2⟩
    go_wp2_with fail
    go_ret
    exact ⟨rfl, f1.trans f2⟩
end Go.Proofs.Ytjkhkepckocjkaa
