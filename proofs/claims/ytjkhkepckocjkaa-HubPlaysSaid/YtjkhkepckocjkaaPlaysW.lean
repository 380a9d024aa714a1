/- The walk of HubPlays. -/
import Derived.Test.YtjkhkepckocjkaaActs
import Derived.Test.YtjkhkepckocjkaaRefW
namespace Go.Proofs.Ytjkhkepckocjkaa
open Go.RowKit

theorem apart {w : World} {r r' : Nat} {v v' : Value} {l l' : List Wt} {own own' : Option Nat} (h : HubAt 45 48 w r v l own) (h' : HubAt 29 50 w r' v' l' own') : ∀ k, k ∈ r :: own.toList → k ∉ r' :: own'.toList := by
  obtain ⟨hp, hs, _⟩ := h
  obtain ⟨hp', hs', _⟩ := h'
  have e1 : r ≠ r' := hp.ne hp' (by decide)
  have e2 : ∀ g, own = some g → g ≠ r' := by
    intro g hg
    subst hg
    obtain ⟨c, _, hr⟩ := hs.own_row
    exact hr.ne hp' (by decide)
  have e3 : ∀ g, own' = some g → g ≠ r := by
    intro g hg
    subst hg
    obtain ⟨c, _, hr⟩ := hs'.own_row
    exact hr.ne hp (by decide)
  have e4 : ∀ g g', own = some g → own' = some g' → g ≠ g' := by
    intro g g' hg hg'
    subst hg hg'
    obtain ⟨c, _, hr⟩ := hs.own_row
    obtain ⟨c', _, cur, h0, _⟩ := hs'.own_row
    exact hr.ne (t' := 50) (cs' := cur) h0 (by decide)
  intro k hk hk'
  simp at hk hk'
  rcases hk with rfl | hk <;> rcases hk' with rfl | hk'
  · exact e1 rfl
  · exact e3 _ hk' rfl
  · exact e2 _ hk rfl
  · exact e4 _ _ hk hk' rfl
theorem keepH {w w' : World} {r r' : Nat} {v v' : Value} {l l' : List Wt} {own own' : Option Nat} (h : HubAt 45 48 w r v l own) (h' : HubAt 29 50 w r' v' l' own') (f : Fr (r' :: own'.toList) w w') : HubAt 45 48 w' r v l own :=
  h.fr f (apart h h' r (List.mem_cons_self ..)) fun k hk => apart h h' k (List.mem_cons_of_mem _ hk)
theorem keepR {w w' : World} {r r' : Nat} {v v' : Value} {l l' : List Wt} {own own' : Option Nat} (h : HubAt 45 48 w r v l own) (h' : HubAt 29 50 w r' v' l' own') (f : Fr (r :: own.toList) w w') : HubAt 29 50 w' r' v' l' own' :=
  h'.fr f (fun hk => apart h h' r' hk (List.mem_cons_self ..)) fun k hk hk' => apart h h' k hk' (List.mem_cons_of_mem _ hk)

set_option maxRecDepth 100000 in
set_option maxHeartbeats 4000000 in
theorem plays_walk (w : World) (a : Option Addr) (len cap : Nat) (other : Int) (L : Nat → Act) (hA : ActsAt w w.heap.size a len L) (hl : len ≤ 100) :
    Calls Try.prog 3 #[.slice a len cap, .int .i64 other] w fun e w' => e = .returned (.bool true) ∧ Fr [] w w' := by
  obtain ⟨B, hB⟩ : ∃ B, w.heap.size = B := ⟨_, rfl⟩
  rw [hB] at hA
  go_enter Try.func3, Try.ntmps3
  go_wp2_with fail
  refine (first_true _).mono ?_
  rintro e w1 ⟨rfl, f1⟩
  go_wp2_with fail
  refine (new_any _).mono ?_
  rintro e w2 ⟨r, rfl, hr, h2, f2⟩
  have f02 := f1.trans f2
  have hrB : B ≤ r := by have := f1.size; omega
  have hA2 := hA.fr f02 (by omega) (by simp)
  have rr := rnew w2
  have f3 : Fr [] w2 (w2.alloc (.cells #[.slice none 0 0] 29)) := (Fr.refl _ _).alloc _
  have h3 := h2.fr0 f3
  have hA3 := hA2.fr f3 (by have := f02.size; omega) (by simp)
  have f03 := f02.trans f3
  have hr' : B ≤ w2.heap.size := by have := f02.size; omega
  have HB := Lib.hid hB
  clear hB hA hr f1 f2 f02 hA2 h2 f3
  go_wp2_with fail
  obtain ⟨r', hr''⟩ : ∃ r', r' = w2.heap.size := ⟨_, rfl⟩
  rw [← hr''] at hr' rr ⊢
  clear hr''
  go_loopw [7, 8, 9] (fun i _ _ wr => ∃ (k : Nat) (v v' : Value) (own own' : Option Nat), k ≤ len ∧ i = .int .i64 k ∧ HubAt 45 48 wr r v (runL L k) own ∧ HubAt 29 50 wr r' v' (runL L k) own' ∧ New B own ∧ New B own' ∧ Fr [] w wr ∧ ActsAt wr B a len L) (fun i _ _ _ => len - (intOf i).toNat)
  case atStart => exact ⟨0, _, _, _, _, Nat.zero_le _, rfl, h3, rr, new_none _, new_none _, f03, hA3⟩
  case round =>
    obtain ⟨k, v, v', own, own', hk, rfl, h, hh, nw, nw', fr, hA⟩ := hrel
    clear h3 rr f03 hA3
    by_cases hlt : k < len
    · obtain ⟨b, off, rfl, hb, hc⟩ := hA (by omega)
      obtain ⟨e0, e1, e2⟩ := hc k hlt
      clear hc
      have hll := runL_length L k
      have hstep : runL L (k + 1) = stepL (runL L k) (L k) := rfl
      generalize hM : runL L k = M at h hh hll hstep
      have hszB : B ≤ wr.heap.size := by have := fr.size; have := HB.out; omega
      have hk0 : (0 : Int) ≤ (k : Int) := by omega
      have hk1 : (k : Int) < (len : Int) := by omega
      have hSr : ∀ q, q ∈ r :: own.toList → B ≤ q := by intro q hq; simp at hq; rcases hq with rfl | hq; exact hrB; exact nw q hq
      have hSr' : ∀ q, q ∈ r' :: own'.toList → B ≤ q := by intro q hq; simp at hq; rcases hq with rfl | hq; exact hr'; exact nw' q hq
      have HM := Lib.hid hM
      have HSr := Lib.hid hSr
      have HSr' := Lib.hid hSr'
      clear hM hSr hSr'
      by_cases h0 : (L k).op = 0
      · rw [h0] at e0
        have hs : runL L (k + 1) = addL M (L k).who (L k).pl := by rw [hstep]; simp [stepL, h0]
        have hN := addL_length M (L k).who (L k).pl
        obtain ⟨N, hNk⟩ : ∃ N, N = runL L (k + 1) := ⟨_, rfl⟩
        rw [← hNk] at hs
        rw [← hs] at hN
        have HNK := Lib.hid hNk
        have HS := Lib.hid hs
        clear hs hstep hNk h0
        go_wp2
        go_quiet (fail)
        have hd := h.fr0 ((Fr.refl [] wr).drewN nq)
        have hhd := hh.fr0 ((Fr.refl [] wr).drewN nq)
        have frd := fr.drewN nq
        have hAd := hA.fr ((Fr.refl [] wr).drewN nq) hszB (by simp)
        have e0 := Fr.cell ((Fr.refl [] wr).drewN nq) e0 (Nat.lt_of_lt_of_le hb hszB) (by simp)
        go_wp2_with fail
        refine (add_any _ r v M own (L k).who (L k).pl hd (by omega)).mono ?_
        rintro e wa ⟨va, owna, rfl, ha, fa, oa⟩
        rw [← HS.out] at ha
        have hha := keepR hd hhd fa
        have fra := nw.fr hrB frd HB.out fa
        have nwa := nw.next oa hszB
        have hAa := hAd.fr fa hszB HSr.out
        clear hd hhd frd hAd oa
        go_wp2_with fail
        refine (radd_any wa r' v' M own' (L k).who (L k).pl hha (by omega)).mono ?_
        rintro e wb ⟨vb, ownb, rfl, ref, fb, ob⟩
        rw [← HS.out] at ref
        have hub := keepH ha hha fb
        have frb := nw'.fr hr' fra HB.out fb
        have nwb : New B ownb := nw'.next ob (by have := fra.size; have := HB.out; omega)
        have hAb := hAa.fr fb (by have := fra.size; have := HB.out; omega) HSr'.out
        clear ha hha fra hAa ob fa fb
        generalize has (L k).who M = y0
        have hN1 : N.length ≤ 1000 := by omega
        clear e0 e1 e2
        generalize hWho : (L k).who = who
        generalize hPl : (L k).pl = pl
        clear hWho hPl HS
        go_wp2_with fail
        refine (woken_any wb r va N owna who hub hN1).mono ?_
        rintro e wc ⟨rfl, fc⟩
        go_wp2_with fail
        refine (rwoken_any wc r' vb N ownb who (ref.fr0 fc) hN1).mono ?_
        rintro e wd ⟨rfl, fd⟩
        have fbd := fc.trans fd
        clear fc fd
        generalize isWoken N who = y1
        go_wp2_with fail
        refine (woken_any wd r va N owna other (hub.fr0 fbd) hN1).mono ?_
        rintro e we ⟨rfl, fe⟩
        have fbe := fbd.trans fe
        clear fbd fe
        go_wp2_with fail
        refine (rwoken_any we r' vb N ownb other (ref.fr0 fbe) hN1).mono ?_
        rintro e wf ⟨rfl, ff⟩
        have fbf := fbe.trans ff
        clear fbe ff
        generalize isWoken N other = y2
        go_wp2_with fail
        refine (at_any wf r va N owna pl (hub.fr0 fbf) hN1).mono ?_
        rintro e wg ⟨vg, og, rfl, sg, fg, _, mg⟩
        have ig := sg.ints mg
        have fbg := fbf.trans fg
        clear fbf fg sg mg
        go_wp2_with fail
        refine (rat_any wg r' vb N ownb pl (ref.fr0 fbg) hN1).mono ?_
        rintro e wh ⟨vh, oh, rfl, sh, fh, _, mh⟩
        have ih := sh.ints mh
        have igh := ig.fr0 fh
        have fbh := fbg.trans fh
        clear fbg fh sh mh ig
        have hatl := atL_len N pl
        go_wp2_with fail
        refine (ints_true wh vg vh (atL N pl) igh ih (by omega)).mono ?_
        rintro e wi ⟨rfl, nh, rfl⟩
        have fbi := fbh.drewN nh
        clear fbh igh ih hatl
        go_wp2_with fail
        refine (len_any _ r va N owna (hub.fr0 fbi)).mono ?_
        rintro e wj ⟨rfl, rfl⟩
        go_wp2_with fail
        refine (rlen_any _ r' vb N ownb (ref.fr0 fbi)).mono ?_
        rintro e wk ⟨rfl, rfl⟩
        have hubi := hub.fr0 fbi
        have refi := ref.fr0 fbi
        have fri := frb.trans fbi
        have hAi := hAb.fr fbi (by have := frb.size; have := HB.out; omega) (by simp)
        clear hub ref frb hAb fbi
        rw [HNK.out] at hubi refi
        clear hN hN1 HNK
        go_wp2_with fail
        go_roundw
        case rel => exact ⟨k + 1, va, vb, owna, ownb, by omega, by go_num, hubi, refi, nwa, nwb, fri, hAi⟩
        case measure => simp [intOf]; omega
      by_cases h1 : (L k).op = 1
      · rw [h1] at e0
        have hs : runL L (k + 1) = wakeL M (L k).pl := by rw [hstep]; simp [stepL, h1]
        have hN := Nat.le_of_eq (wakeL_length M (L k).pl)
        obtain ⟨N, hNk⟩ : ∃ N, N = runL L (k + 1) := ⟨_, rfl⟩
        rw [← hNk] at hs
        rw [← hs] at hN
        have HNK := Lib.hid hNk
        have HS := Lib.hid hs
        clear hs hstep hNk h0 h1
        go_wp2
        go_quiet (fail)
        have hd := h.fr0 ((Fr.refl [] wr).drewN nq)
        have hhd := hh.fr0 ((Fr.refl [] wr).drewN nq)
        have frd := fr.drewN nq
        have hAd := hA.fr ((Fr.refl [] wr).drewN nq) hszB (by simp)
        have e0 := Fr.cell ((Fr.refl [] wr).drewN nq) e0 (Nat.lt_of_lt_of_le hb hszB) (by simp)
        go_wp2_with fail
        refine (wake_any _ r v M own (L k).pl hd (by omega)).mono ?_
        rintro e wa ⟨ua, oua, rfl, sa, ha, fa0, na, ma⟩
        rw [← HS.out] at ha
        have fa := fa0.mono (T := r :: own.toList) (fun k hk => List.mem_cons_of_mem _ hk)
        have hha := keepR hd hhd fa
        have fra := nw.fr hrB frd HB.out fa
        have hAa := hAd.fr fa hszB HSr.out
        have hlt' : ∀ q, q ∈ own'.toList → q < (wr.drewN nq).heap.size := by
          intro q hq
          obtain ⟨g, rfl⟩ : ∃ g, own' = some g := by cases own' with | none => simp at hq | some g => exact ⟨g, rfl⟩
          simp at hq
          subst hq
          obtain ⟨c, _, hr⟩ := hhd.2.1.own_row
          exact hr.lt
        have hap : ∀ q, q ∈ oua.toList → q ∉ own'.toList := by
          intro q hq hq'
          have := na q (by simpa using hq)
          have := hlt' q hq'
          omega
        have HAP := Lib.hid hap
        clear hap hlt' hd hhd frd hAd na
        go_wp2_with fail
        refine (rwake_any wa r' v' M own' (L k).pl hha (by omega)).mono ?_
        rintro e wb ⟨ub, oub, rfl, sb, ref0, fb0, _, mb⟩
        rw [← HS.out] at ref0
        have fb := fb0.mono (T := r' :: own'.toList) (fun k hk => List.mem_cons_of_mem _ hk)
        have hub0 := keepH ha hha fb
        have frb0 := nw'.fr hr' fra HB.out fb
        have hAb0 := hAa.fr fb (by have := fra.size; have := HB.out; omega) HSr'.out
        have ia := (sa.fr fb0 HAP.out ma).ints ma
        have ib := sb.ints mb
        have hwl := woken_len M (L k).pl
        clear ha hha fra hAa fa fb fa0 fb0 sa sb ma mb
        go_wp2_with fail
        refine (ints_true wb ua ub (wokenL M (L k).pl) ia ib (by omega)).mono ?_
        rintro e wi ⟨rfl, nb, rfl⟩
        have hub := hub0.fr0 ((Fr.refl [] wb).drewN nb)
        have ref := ref0.fr0 ((Fr.refl [] wb).drewN nb)
        have frb := frb0.drewN nb
        have hAb := hAb0.fr ((Fr.refl [] wb).drewN nb) (by have := frb0.size; have := HB.out; omega) (by simp)
        obtain ⟨nwa, nwb⟩ : New B own ∧ New B own' := ⟨nw, nw'⟩
        obtain ⟨wb', hwb'⟩ : ∃ wb', wb' = wb.drewN nb := ⟨_, rfl⟩
        rw [← hwb'] at hub ref frb hAb ⊢
        clear hwb' ia ib hwl hub0 ref0 frb0 hAb0 wb
        have hN1 : N.length ≤ 1000 := by omega
        clear e0 e1 e2
        generalize hWho : (L k).who = who
        generalize hPl : (L k).pl = pl
        clear hWho hPl HS
        go_wp2_with fail
        refine (woken_any wb' r v N own who hub hN1).mono ?_
        rintro e wc ⟨rfl, fc⟩
        go_wp2_with fail
        refine (rwoken_any wc r' v' N own' who (ref.fr0 fc) hN1).mono ?_
        rintro e wd ⟨rfl, fd⟩
        have fbd := fc.trans fd
        clear fc fd
        generalize isWoken N who = y1
        go_wp2_with fail
        refine (woken_any wd r v N own other (hub.fr0 fbd) hN1).mono ?_
        rintro e we ⟨rfl, fe⟩
        have fbe := fbd.trans fe
        clear fbd fe
        go_wp2_with fail
        refine (rwoken_any we r' v' N own' other (ref.fr0 fbe) hN1).mono ?_
        rintro e wf ⟨rfl, ff⟩
        have fbf := fbe.trans ff
        clear fbe ff
        generalize isWoken N other = y2
        go_wp2_with fail
        refine (at_any wf r v N own pl (hub.fr0 fbf) hN1).mono ?_
        rintro e wg ⟨vg, og, rfl, sg, fg, _, mg⟩
        have ig := sg.ints mg
        have fbg := fbf.trans fg
        clear fbf fg sg mg
        go_wp2_with fail
        refine (rat_any wg r' v' N own' pl (ref.fr0 fbg) hN1).mono ?_
        rintro e wh ⟨vh, oh, rfl, sh, fh, _, mh⟩
        have ih := sh.ints mh
        have igh := ig.fr0 fh
        have fbh := fbg.trans fh
        clear fbg fh sh mh ig
        have hatl := atL_len N pl
        go_wp2_with fail
        refine (ints_true wh vg vh (atL N pl) igh ih (by omega)).mono ?_
        rintro e wi ⟨rfl, nh, rfl⟩
        have fbi := fbh.drewN nh
        clear fbh igh ih hatl
        go_wp2_with fail
        refine (len_any _ r v N own (hub.fr0 fbi)).mono ?_
        rintro e wj ⟨rfl, rfl⟩
        go_wp2_with fail
        refine (rlen_any _ r' v' N own' (ref.fr0 fbi)).mono ?_
        rintro e wk ⟨rfl, rfl⟩
        have hubi := hub.fr0 fbi
        have refi := ref.fr0 fbi
        have fri := frb.trans fbi
        have hAi := hAb.fr fbi (by have := frb.size; have := HB.out; omega) (by simp)
        clear hub ref frb hAb fbi
        rw [HNK.out] at hubi refi
        clear hN hN1 HNK
        go_wp2_with fail
        go_roundw
        case rel => exact ⟨k + 1, v, v', own, own', by omega, by go_num, hubi, refi, nw, nw', fri, hAi⟩
        case measure => simp [intOf]; omega
      · have g0 : ((L k).op == 0) = false := by simpa using h0
        have g1 : ((L k).op == 1) = false := by simpa using h1
        have hs : runL L (k + 1) = remL M (L k).who := by rw [hstep]; simp [stepL, h0, h1]
        have hN := remL_length M (L k).who
        obtain ⟨N, hNk⟩ : ∃ N, N = runL L (k + 1) := ⟨_, rfl⟩
        rw [← hNk] at hs
        rw [← hs] at hN
        have HNK := Lib.hid hNk
        have HS := Lib.hid hs
        clear hs hstep hNk h0 h1
        go_wp2
        go_quiet (fail)
        have hd := h.fr0 ((Fr.refl [] wr).drewN nq)
        have hhd := hh.fr0 ((Fr.refl [] wr).drewN nq)
        have frd := fr.drewN nq
        have hAd := hA.fr ((Fr.refl [] wr).drewN nq) hszB (by simp)
        have e0 := Fr.cell ((Fr.refl [] wr).drewN nq) e0 (Nat.lt_of_lt_of_le hb hszB) (by simp)
        go_wp2_with fail
        refine (remove_any _ r v M own (L k).who hd (by omega)).mono ?_
        rintro e wa ⟨va, owna, rfl, ha, fa, oa⟩
        rw [← HS.out] at ha
        have hha := keepR hd hhd fa
        have fra := nw.fr hrB frd HB.out fa
        have nwa := nw.next oa hszB
        have hAa := hAd.fr fa hszB HSr.out
        clear hd hhd frd hAd oa
        go_wp2_with fail
        refine (rremove_any wa r' v' M own' (L k).who hha (by omega)).mono ?_
        rintro e wb ⟨vb, ownb, rfl, ref, fb, ob⟩
        rw [← HS.out] at ref
        have hub := keepH ha hha fb
        have frb := nw'.fr hr' fra HB.out fb
        have nwb : New B ownb := (by
          intro q hq
          rcases ob with ob | ob
          · exact nw' q (ob ▸ hq)
          · have := ob q hq; have := fra.size; have := HB.out; omega)
        have hAb := hAa.fr fb (by have := fra.size; have := HB.out; omega) HSr'.out
        clear ha hha fra hAa ob fa fb
        generalize has (L k).who M = y0
        have hN1 : N.length ≤ 1000 := by omega
        clear e0 e1 e2
        generalize hWho : (L k).who = who
        generalize hPl : (L k).pl = pl
        clear hWho hPl HS
        go_wp2_with fail
        refine (woken_any wb r va N owna who hub hN1).mono ?_
        rintro e wc ⟨rfl, fc⟩
        go_wp2_with fail
        refine (rwoken_any wc r' vb N ownb who (ref.fr0 fc) hN1).mono ?_
        rintro e wd ⟨rfl, fd⟩
        have fbd := fc.trans fd
        clear fc fd
        generalize isWoken N who = y1
        go_wp2_with fail
        refine (woken_any wd r va N owna other (hub.fr0 fbd) hN1).mono ?_
        rintro e we ⟨rfl, fe⟩
        have fbe := fbd.trans fe
        clear fbd fe
        go_wp2_with fail
        refine (rwoken_any we r' vb N ownb other (ref.fr0 fbe) hN1).mono ?_
        rintro e wf ⟨rfl, ff⟩
        have fbf := fbe.trans ff
        clear fbe ff
        generalize isWoken N other = y2
        go_wp2_with fail
        refine (at_any wf r va N owna pl (hub.fr0 fbf) hN1).mono ?_
        rintro e wg ⟨vg, og, rfl, sg, fg, _, mg⟩
        have ig := sg.ints mg
        have fbg := fbf.trans fg
        clear fbf fg sg mg
        go_wp2_with fail
        refine (rat_any wg r' vb N ownb pl (ref.fr0 fbg) hN1).mono ?_
        rintro e wh ⟨vh, oh, rfl, sh, fh, _, mh⟩
        have ih := sh.ints mh
        have igh := ig.fr0 fh
        have fbh := fbg.trans fh
        clear fbg fh sh mh ig
        have hatl := atL_len N pl
        go_wp2_with fail
        refine (ints_true wh vg vh (atL N pl) igh ih (by omega)).mono ?_
        rintro e wi ⟨rfl, nh, rfl⟩
        have fbi := fbh.drewN nh
        clear fbh igh ih hatl
        go_wp2_with fail
        refine (len_any _ r va N owna (hub.fr0 fbi)).mono ?_
        rintro e wj ⟨rfl, rfl⟩
        go_wp2_with fail
        refine (rlen_any _ r' vb N ownb (ref.fr0 fbi)).mono ?_
        rintro e wk ⟨rfl, rfl⟩
        have hubi := hub.fr0 fbi
        have refi := ref.fr0 fbi
        have fri := frb.trans fbi
        have hAi := hAb.fr fbi (by have := frb.size; have := HB.out; omega) (by simp)
        clear hub ref frb hAb fbi
        rw [HNK.out] at hubi refi
        clear hN hN1 HNK
        go_wp2_with fail
        go_roundw
        case rel => exact ⟨k + 1, va, vb, owna, ownb, by omega, by go_num, hubi, refi, nwa, nwb, fri, hAi⟩
        case measure => simp [intOf]; omega
    · go_wp2
      go_ret
      exact ⟨rfl, fr⟩

set_option maxHeartbeats 400000 in
theorem plays_all (w : World) (a : Option Addr) (len cap : Nat) (other : Int) (L : Nat → Act) (hA : ActsAt w w.heap.size a len L) :
    Calls Try.prog 3 #[.slice a len cap, .int .i64 other] w fun e w' => e = .returned (.bool true) ∧ Fr [] w w' := by
  by_cases hl : len ≤ 100
  · exact plays_walk w a len cap other L hA hl
  · clear hA
    go_enter Try.func3, Try.ntmps3
    go_wp2_with fail
    refine (first_true _).mono ?_
    rintro e w1 ⟨rfl, f1⟩
    go_wp2_with fail
    refine (first_true _).mono ?_
    rintro e w2 ⟨rfl, f2⟩
    go_wp2_with fail
    go_ret
    exact ⟨rfl, f1.trans f2⟩
end Go.Proofs.Ytjkhkepckocjkaa
