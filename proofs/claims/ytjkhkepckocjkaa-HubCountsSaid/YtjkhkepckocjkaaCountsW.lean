/- The walk of HubCounts. -/
import Derived.Test.YtjkhkepckocjkaaOnceW
import Derived.StillTailTactics
namespace Go.Proofs.Ytjkhkepckocjkaa
open Go.RowKit

/-- Is the place of act i among those of the first j acts? -/
def seenTo (L : Nat → Act) (i j : Nat) : Bool := (List.range j).any fun q => (L q).pl == (L i).pl
theorem seen_succ (L : Nat → Act) (i j : Nat) : seenTo L i (j + 1) = (seenTo L i j || (L j).pl == (L i).pl) := by simp [seenTo, List.range_succ, List.any_append]
/-- So many wait at the places of the first k acts. -/
def cntL (l : List Wt) (L : Nat → Act) : Nat → Nat
  | 0 => 0
  | k + 1 => cntL l L k + if seenTo L k k then 0 else (atL l (L k).pl).length
theorem cnt_le (l : List Wt) (L : Nat → Act) (k : Nat) : cntL l L k ≤ l.length * k := by
  induction k with
  | zero => simp [cntL]
  | succ k ih =>
    have := atL_len l (L k).pl
    simp only [cntL, Nat.mul_succ]
    split <;> omega
theorem cnt_nil (L : Nat → Act) (k : Nat) : cntL [] L k = 0 := by
  induction k with
  | zero => rfl
  | succ k ih => simp [cntL, ih, atL]
/-- One who waits is counted once, at the first act of his place. -/
theorem cnt_cons (x : Wt) (l : List Wt) (L : Nat → Act) (k : Nat) : cntL (x :: l) L k = cntL l L k + if (List.range k).any (fun q => (L q).pl == x.place) then 1 else 0 := by
  induction k with
  | zero => simp [cntL]
  | succ k ih =>
    have ha : (atL (x :: l) (L k).pl).length = (atL l (L k).pl).length + if x.place == (L k).pl then 1 else 0 := by
      cases h : x.place == (L k).pl <;> simp [atL, h]
    simp only [cntL, ih, ha, List.range_succ, List.any_append, List.any_cons, List.any_nil, Bool.or_false]
    by_cases he : x.place = (L k).pl
    · rw [he]
      simp only [beq_self_eq_true, Bool.or_true, if_true]
      cases hs : seenTo L k k
      · have : (List.range k).any (fun q => (L q).pl == (L k).pl) = false := hs
        rw [this]
        simp
        omega
      · have : (List.range k).any (fun q => (L q).pl == (L k).pl) = true := hs
        rw [this]
        simp
    · have h1 : (x.place == (L k).pl) = false := by simpa using he
      have h2 : ((L k).pl == x.place) = false := by simpa using Ne.symm he
      rw [h1, h2]
      simp only [Bool.or_false]
      split <;> simp <;> omega
theorem cnt_all (l : List Wt) (L : Nat → Act) (k : Nat) (h : ∀ x ∈ l, ∃ i, i < k ∧ (L i).pl = x.place) : cntL l L k = l.length := by
  induction l with
  | nil => exact cnt_nil L k
  | cons x l ih =>
    rw [cnt_cons, ih fun y hy => h y (List.mem_cons_of_mem _ hy)]
    obtain ⟨i, hi, hp⟩ := h x (List.mem_cons_self ..)
    have : (List.range k).any (fun q => (L q).pl == x.place) = true := by
      simp
      exact ⟨i, hi, hp⟩
    simp [this]
/-- Whoever waits, waits at the place of an act. -/
theorem places (L : Nat → Act) (k : Nat) : ∀ x ∈ runL L k, ∃ i, i < k ∧ (L i).pl = x.place := by
  induction k with
  | zero => intro x hx; simp [runL] at hx
  | succ k ih =>
    have up : ∀ x, x ∈ runL L k → ∃ i, i < k + 1 ∧ (L i).pl = x.place := fun x hx => by
      obtain ⟨i, hi, hp⟩ := ih x hx
      exact ⟨i, by omega, hp⟩
    intro x hx
    simp only [runL, stepL] at hx
    split at hx
    · unfold addL at hx
      split at hx
      · exact up x hx
      · rcases List.mem_append.1 hx with hx | hx
        · exact up x hx
        · simp at hx
          subst hx
          exact ⟨k, by omega, rfl⟩
    · split at hx
      · obtain ⟨y, hy, rfl⟩ := List.mem_map.1 hx
        obtain ⟨i, hi, hp⟩ := up y hy
        exact ⟨i, hi, by split <;> exact hp⟩
      · rw [rem_eq (nd_run L k)] at hx
        exact up x (List.mem_filter.1 hx).1

set_option maxRecDepth 100000 in
set_option maxHeartbeats 1000000 in
theorem add_has (w : World) (r : Nat) (v : Value) (l : List Wt) (own : Option Nat) (who pl : Int) (h : HubAt 45 48 w r v l own) (hl : l.length ≤ 900) (hh : has who l = true) :
    Calls Try.prog 9 #[.pointer (some ⟨r, 0, none⟩), .int .i64 who, .int .i64 pl] w fun e w' => e = .returned (.bool false) ∧ Fr [] w w' := by
  have hpl := place_yes hh
  clear hh
  go_enter Try.func9, Try.ntmps9
  go_wp2_with fail
  refine (find_any w r v l own who h (by omega)).mono ?_
  rintro e w1 ⟨rfl, f1⟩
  go_wp2_with fail
  go_ret
  exact ⟨rfl, f1⟩

set_option maxRecDepth 100000 in
set_option maxHeartbeats 4000000 in
theorem counts_walk (w : World) (a : Option Addr) (len cap : Nat) (L : Nat → Act) (hA : ActsAt w w.heap.size a len L) (hl : len ≤ 100) :
    Calls Try.prog 6 #[.slice a len cap] w fun e w' => e = .returned (.bool true) ∧ Fr [] w w' := by
  obtain ⟨B, hB⟩ : ∃ B, w.heap.size = B := ⟨_, rfl⟩
  rw [hB] at hA
  have hlen := runL_length L len
  have hcnt := cnt_all (runL L len) L len (places L len)
  go_enter Try.func6, Try.ntmps6
  go_wp2_with fail
  refine (first_true _).mono ?_
  rintro e wa ⟨rfl, fa⟩
  go_wp2_with fail
  refine (made_any wa a len cap L (by have := fa.size; exact (hA.fr fa (by omega) (by simp)).mono (by omega)) hl).mono ?_
  rintro e w0 ⟨r, v, own, rfl, hr0, h0, nw0, fb⟩
  have f0 := fa.trans fb
  have hA0 := hA.fr f0 (by omega) (by simp)
  generalize runL L len = l0 at h0 hcnt hlen
  have HN := Lib.hid hcnt
  clear hcnt fa fb hr0 nw0 hA
  have HB := Lib.hid hB
  clear hB
  go_wp2_with fail
  go_loopw [4, 5, 6, 7, 8, 9] (fun n i _ _ _ _ wr => ∃ k : Nat, k ≤ len ∧ n = .int .i64 (cntL l0 L k : Nat) ∧ i = .int .i64 k ∧ HubAt 45 48 wr r v l0 own ∧ Fr [] w wr ∧ ActsAt wr B a len L) (fun _ i _ _ _ _ _ => len - (intOf i).toNat)
  case atStart => exact ⟨0, Nat.zero_le _, rfl, rfl, h0, f0, hA0⟩
  case round =>
    obtain ⟨k, hk, rfl, rfl, h, fr, acts⟩ := hrel
    clear h0 f0 hA0
    by_cases hlt : k < len
    · obtain ⟨b, off, rfl, hb, hc⟩ := acts (by omega)
      have hk1 : (k : Int) < (len : Int) := by omega
      have hk0 : (0 : Int) ≤ (k : Int) := by omega
      have e2 := (hc k hlt).2.2
      have HC := Lib.hid hc
      clear hc
      have hbz : b < wr.heap.size := by have := fr.size; have := HB.out; omega
      have hcl := cnt_le l0 L k
      have hcl2 : cntL l0 L k ≤ 10000 := Nat.le_trans hcl (Nat.le_trans (Nat.mul_le_mul (m₂ := 100) (n₂ := 100) (by omega) (by omega)) (by omega))
      have hcs : cntL l0 L (k + 1) = cntL l0 L k + if seenTo L k k then 0 else (atL l0 (L k).pl).length := rfl
      generalize hcc : cntL l0 L (k + 1) = c2 at hcs
      have HCC := Lib.hid hcc
      clear hcc
      generalize cntL l0 L k = c1 at hcs hcl2
      clear hcl
      have HCS := Lib.hid hcs
      clear hcs
      generalize hPl : (L k).pl = pl at e2 HCS
      have HPL := Lib.hid hPl
      clear hPl
      obtain ⟨wo, rfl⟩ : ∃ wo : World, wo = wr := ⟨_, rfl⟩
      go_wp2_with fail
      go_loopw [6, 7] (fun y j wr => ∃ m n : Nat, m ≤ k ∧ j = .int .i64 m ∧ y = .bool (seenTo L k m) ∧ wr = wo.drewN n) (fun _ j _ => k - (intOf j).toNat)
      case atStart => exact ⟨0, 0, Nat.zero_le _, rfl, by simp [seenTo], rfl⟩
      case round =>
        obtain ⟨m, n, hm, rfl, rfl, rfl⟩ := hrel
        by_cases hlm : m < k
        · have q := (HC.out m (by omega)).2.2
          have hsucc := seen_succ L k m
          rw [HPL.out] at hsucc
          generalize (L m).pl = pm at q hsucc
          have hm1 : (m : Int) < (k : Int) := by omega
          have hm2 : (m : Int) < (len : Int) := by omega
          have hm0 : (0 : Int) ≤ (m : Int) := by omega
          cases hH : seenTo L k m
          all_goals
            rw [hH] at hsucc
            simp only [Bool.false_or, Bool.true_or] at hsucc
            have HS := Lib.hid hsucc
            clear hsucc hH
            go_wp2
            go_quiet (fail)
            go_wp2
            go_roundw
            case rel => exact ⟨m + 1, n + nq, by omega, by go_num, by rw [HS.out], rfl⟩
            case measure => simp [intOf]; omega
        · obtain rfl : k = m := by omega
          have hd := h.fr0 ((Fr.refl [] wo).drewN n)
          have frd := fr.drewN n
          have actsd := acts.fr ((Fr.refl [] wo).drewN n) (by have := fr.size; have := HB.out; omega) (by simp)
          have e2d := Fr.cell ((Fr.refl [] wo).drewN n) e2 hbz (by simp)
          clear h fr acts e2
          cases hS : seenTo L k k
          · have hc2 : c2 = c1 + (atL l0 pl).length := by rw [HCS.out, hS]; simp
            have hall := atL_len l0 pl
            have HC2 := Lib.hid hc2
            clear hc2 hS HCS
            go_wp2_with fail
            refine (at_any _ r v l0 own pl hd (by omega)).mono ?_
            rintro e w1 ⟨va, oa, rfl, sa, fq, _, ma⟩
            have h1 := hd.fr0 fq
            have fr1 := frd.trans fq
            have acts1 := actsd.fr fq (by have := fr1.size; have := fq.size; have := HB.out; have := frd.size; simp at this ⊢; omega) (by simp)
            have hmem : Hid (∀ x ∈ atL l0 pl, has x l0 = true) := Lib.hid (by intro x hx; obtain ⟨y, hy, _, hw⟩ := mem_at.1 hx; exact (has_iff _ _).2 ⟨y, hy, hw⟩)
            obtain ⟨aa, ca, rfl⟩ := sa.form
            clear hd frd actsd fq e2d
            generalize atL l0 pl = A at sa ma hmem HC2 hall
            go_wp2_with fail
            go_loopw [9] (fun j wr => ∃ m : Nat, m ≤ A.length ∧ j = .int .i64 m ∧ Sl wr 3 1 (.slice aa A.length ca) A.length (A.map ci) oa ∧ HubAt 45 48 wr r v l0 own ∧ Fr [] w wr ∧ ActsAt wr B (some ⟨b, off, none⟩) len L) (fun j _ => A.length - (intOf j).toNat)
            case atStart => exact ⟨0, Nat.zero_le _, rfl, sa, h1, fr1, acts1⟩
            case round =>
              obtain ⟨m, hm, rfl, s, h, fr, acts⟩ := hrel
              clear sa h1 fr1 acts1
              by_cases hlm : m < A.length
              · have hx : A[m]? = some A[m] := List.getElem?_eq_getElem hlm
                obtain ⟨x, hx'⟩ : ∃ x, A[m] = x := ⟨_, rfl⟩
                rw [hx'] at hx
                have hin := hmem.out x (List.mem_of_getElem? hx)
                have HIN := Lib.hid hin
                clear hx' hin
                obtain ⟨g, rfl⟩ := ma (by omega)
                obtain ⟨c', hv, hr⟩ := s.own_row
                cases hv
                have q : wr.cell? ⟨g, m, none⟩ = some (.int .i64 x) := hr.cell (by simp [hx, ci])
                obtain ⟨b', off', hbo, _, hc'⟩ := acts (by omega)
                cases hbo
                have e2 := (hc' k hlt).2.2
                rw [HPL.out] at e2
                clear hc' hx hr
                have hm1 : (m : Int) < (A.length : Int) := by omega
                have hm0 : (0 : Int) ≤ (m : Int) := by omega
                go_wp2
                go_still_tail 10, (by kernel_rfl)
                have hd := h.fr0 ((Fr.refl [] wr).drew)
                go_wp2_with fail
                refine (add_has wr.drew r v l0 own x pl hd (by omega) HIN.out).mono ?_
                rintro e w2 ⟨rfl, f2⟩
                have f3 := ((Fr.refl [] wr).drew).trans f2
                have s3 := s.fr0 f3
                have h3 := h.fr0 f3
                have fr3 := fr.trans f3
                have acts3 := acts.fr f3 (by have := fr.size; have := HB.out; omega) (by simp)
                clear s h fr acts hd f2 f3 q e2
                go_wp2_with fail
                go_roundw
                case rel => exact ⟨m + 1, by omega, by go_num, s3, h3, fr3, acts3⟩
                case measure => simp [intOf]; omega
              · go_wp2
                go_roundw
                case rel => exact ⟨k + 1, by omega, by rw [HCC.out, HC2.out]; go_num, by go_num, h, fr, acts⟩
                case measure => simp [intOf]; omega
          · have hc2 : c2 = c1 := by rw [HCS.out, hS]; simp
            have HC2 := Lib.hid hc2
            clear hc2 hS HCS
            go_wp2
            go_roundw
            case rel => exact ⟨k + 1, by omega, by rw [HCC.out, HC2.out], by go_num, hd, frd, actsd⟩
            case measure => simp [intOf]; omega
    · obtain rfl : len = k := by omega
      rw [HN.out]
      go_wp2_with fail
      refine (len_any _ r v l0 own h).mono ?_
      rintro e w2 ⟨rfl, rfl⟩
      go_wp2_with fail
      go_ret
      exact ⟨ret_bool (by simp), fr⟩

set_option maxHeartbeats 400000 in
theorem counts_all (w : World) (a : Option Addr) (len cap : Nat) (L : Nat → Act) (hA : ActsAt w w.heap.size a len L) :
    Calls Try.prog 6 #[.slice a len cap] w fun e w' => e = .returned (.bool true) ∧ Fr [] w w' := by
  by_cases hl : len ≤ 100
  · exact counts_walk w a len cap L hA hl
  · clear hA
    go_enter Try.func6, Try.ntmps6
    go_wp2_with fail
    refine (first_true _).mono ?_
    rintro e w1 ⟨rfl, f1⟩
    go_wp2_with fail
    refine (first_true _).mono ?_
    rintro e w2 ⟨rfl, f2⟩
    go_wp2_with fail
    go_ret
    exact ⟨rfl, f1.trans f2⟩
end Go.Proofs.Ytjkhkepckocjkaa
