/- The walk of HubWakes. -/
import Derived.Test.YtjkhkepckocjkaaOnceW
namespace Go.Proofs.Ytjkhkepckocjkaa
open Go.RowKit

theorem info4 : (Try.prog.info? 4).map (fun i => (i.zero, i.size, i.bytes)) = some (some (.bool false), 1, 1) := by kernel_rfl
/-- What is owned lies below C. -/
def Blt (own : Option Nat) (C : Nat) : Prop := ∀ g, own = some g → g < C
theorem Blt.mono {own : Option Nat} {C C' : Nat} (h : Blt own C) (hC : C ≤ C') : Blt own C' := fun g hg => Nat.lt_of_lt_of_le (h g hg) hC
theorem sl_blt {w : World} {e : TypeId} {sz n : Nat} {v : Value} {xs : List Value} {own : Option Nat} (h : Sl w e sz v n xs own) : Blt own w.heap.size := by
  intro g hg
  subst hg
  obtain ⟨c, _, hr⟩ := h.own_row
  exact hr.lt
theorem Sl.keep {w w' : World} {e : TypeId} {sz n C : Nat} {v : Value} {xs : List Value} {own : Option Nat} {S : List Nat} (h : Sl w e sz v n xs own) (hm : 0 < n → ∃ g, own = some g) (ho : Blt own C) (hf : Fr S w w') (hS : ∀ k, k ∈ S → C ≤ k) : Sl w' e sz v n xs own :=
  h.fr hf (fun k hk hk' => by have := ho k (by simpa using hk); have := hS k hk'; omega) hm
theorem HubAt.keep {T E : TypeId} {w w' : World} {r C : Nat} {v : Value} {l : List Wt} {own : Option Nat} {S : List Nat} (h : HubAt T E w r v l own) (hr : r < C) (ho : Blt own C) (hf : Fr S w w') (hS : ∀ k, k ∈ S → C ≤ k) : HubAt T E w' r v l own :=
  h.fr hf (fun hk => by have := hS r hk; omega) (fun k hk hk' => by have := ho k (by simpa using hk); have := hS k hk'; omega)

/-- What lies, all below C: the hub, the script, those who wait at the place. -/
structure Env (B C : Nat) (w0 w : World) (r : Nat) (v : Value) (l : List Wt) (own : Option Nat) (a : Option Addr) (len : Nat) (L : Nat → Act) (va : Value) (oa : Option Nat) (A : List Int) : Prop where
  hub : HubAt 45 48 w r v l own
  nw : New B own
  rB : B ≤ r
  rC : r < C
  oC : Blt own C
  fr : Fr [] w0 w
  acts : ActsAt w B a len L
  at_ : Sl w 3 1 va A.length (A.map ci) oa
  am : 0 < A.length → ∃ g, oa = some g
  aC : Blt oa C
  big : C ≤ w.heap.size
section
variable {B C C' : Nat} {w0 w w' : World} {r : Nat} {v : Value} {l : List Wt} {own : Option Nat} {a : Option Addr} {len : Nat} {L : Nat → Act} {va : Value} {oa : Option Nat} {A : List Int} {S : List Nat}
theorem Env.keep (h : Env B C w0 w r v l own a len L va oa A) (hB : w0.heap.size = B) (hf : Fr S w w') (hS : ∀ k, k ∈ S → C ≤ k) : Env B C w0 w' r v l own a len L va oa A :=
  have hBC : B ≤ C := by have := h.rB; have := h.rC; omega
  { hub := h.hub.keep h.rC h.oC hf hS, nw := h.nw, rB := h.rB, rC := h.rC, oC := h.oC, fr := h.fr.step hf (fun x hx => .inr (by have := hS x hx; omega)), acts := h.acts.fr hf (by have := h.fr.size; omega) (fun k hk => by have := hS k hk; omega), at_ := h.at_.keep h.am h.aC hf hS, am := h.am, aC := h.aC, big := Nat.le_trans h.big hf.size }
theorem Env.keep0 (h : Env B C w0 w r v l own a len L va oa A) (hB : w0.heap.size = B) (hf : Fr [] w w') : Env B C w0 w' r v l own a len L va oa A := h.keep hB hf (by simp)
theorem Env.mono (h : Env B C w0 w r v l own a len L va oa A) (hC : C ≤ C') (hb : C' ≤ w.heap.size) : Env B C' w0 w r v l own a len L va oa A :=
  { h with big := hb, rC := Nat.lt_of_lt_of_le h.rC hC, oC := h.oC.mono hC, aC := h.aC.mono hC }
theorem apart_of {o o' : Option Nat} {C : Nat} (h : New C o) (h' : Blt o' C) : ∀ k, k ∈ o.toList → k ∉ o'.toList := by
  intro k hk hk'
  have := h k (by simpa using hk)
  have := h' k (by simpa using hk')
  omega
theorem New.le {o : Option Nat} {C C' : Nat} (h : New C o) (hC : C' ≤ C) : New C' o := fun g hg => Nat.le_trans hC (h g hg)
/-- Behind a Wake. -/
theorem Env.wake {l' : List Wt} (h : Env B C w0 w r v l own a len L va oa A) (hB : w0.heap.size = B) (hub' : HubAt 45 48 w' r v l' own) (f : Fr own.toList w w') (hap : ∀ k, k ∈ oa.toList → k ∉ own.toList) : Env B C w0 w' r v l' own a len L va oa A :=
  { hub := hub', nw := h.nw, rB := h.rB, rC := h.rC, oC := h.oC, fr := h.nw.fr h.rB h.fr hB (f.mono (fun k hk => List.mem_cons_of_mem _ hk)), acts := h.acts.fr f (by have := h.fr.size; omega) (fun k hk => h.nw k (by simpa using hk)), at_ := h.at_.fr f hap h.am, am := h.am, aC := h.aC, big := Nat.le_trans h.big f.size }
/-- One of those who wait at the place. -/
theorem Env.get (h : Env B C w0 w r v l own a len L va oa A) {k : Nat} {x : Int} (hx : A[k]? = some x) : ∃ g c, va = .slice (some ⟨g, 0, none⟩) A.length c ∧ w.cell? ⟨g, k, none⟩ = some (.int .i64 x) := by
  have hk := (List.getElem?_eq_some_iff.1 hx).1
  obtain ⟨g, rfl⟩ := h.am (by omega)
  obtain ⟨c, rfl, hr⟩ := h.at_.own_row
  exact ⟨g, c, rfl, hr.cell (by simp [hx, ci])⟩
end
/-- Those of the first k who are not woken. -/
def freshL (l : List Wt) (A : List Int) (k : Nat) : List Int := (A.take k).filter fun w => !isWoken l w
theorem fresh_succ {l : List Wt} {A : List Int} {k : Nat} {x : Int} (hx : A[k]? = some x) : freshL l A (k + 1) = freshL l A k ++ if isWoken l x then [] else [x] := by
  rw [freshL, List.take_add_one, hx]
  simp only [freshL, Option.toList_some, List.filter_append]
  cases h : isWoken l x <;> simp [h]
theorem fresh_len (l : List Wt) (A : List Int) (k : Nat) : (freshL l A k).length ≤ A.length := Nat.le_trans (List.length_filter_le _ _) (by simp; omega)
/-- Is one among the first k? -/
def hereL (A : List Int) (x : Int) (k : Nat) : Bool := (A.take k).any fun y => y == x
theorem here_succ {A : List Int} {k : Nat} {y : Int} (hy : A[k]? = some y) (x : Int) : hereL A x (k + 1) = (hereL A x k || y == x) := by
  rw [hereL, List.take_add_one, hy]
  simp [hereL, List.any_append]
theorem here_all (A : List Int) (x : Int) : hereL A x A.length = decide (x ∈ A) := by
  rw [hereL, List.take_length]
  rw [Bool.eq_iff_iff]
  simp
/-- What was, of the first k of the script. -/
def wasL (l : List Wt) (L : Nat → Act) (k : Nat) : List Value := (List.range k).map fun i => .bool (isWoken l (L i).who)
theorem was_succ (l : List Wt) (L : Nat → Act) (k : Nat) : wasL l L (k + 1) = wasL l L k ++ [.bool (isWoken l (L k).who)] := by simp [wasL, List.range_succ]
theorem was_get {l : List Wt} {L : Nat → Act} {k n : Nat} (h : k < n) : (wasL l L n)[k]? = some (.bool (isWoken l (L k).who)) := by simp [wasL, h]

theorem was_cell {w : World} {a : Option Addr} {len c : Nat} {l : List Wt} {L : Nat → Act} {o : Option Nat} (h : Sl w 4 1 (.slice a len c) len (wasL l L len) o) (hm : 0 < len → ∃ g, o = some g) {k : Nat} (hk : k < len) : ∃ g, a = some ⟨g, 0, none⟩ ∧ w.cell? ⟨g, k, none⟩ = some (.bool (isWoken l (L k).who)) := by
  obtain ⟨g, rfl⟩ := hm (by omega)
  obtain ⟨c', hv, hr⟩ := h.own_row
  cases hv
  exact ⟨g, rfl, hr.cell (was_get hk)⟩

set_option maxRecDepth 100000 in
set_option maxHeartbeats 4000000 in
theorem wakes_walk (w : World) (a : Option Addr) (len cap : Nat) (pl : Int) (L : Nat → Act) (hA : ActsAt w w.heap.size a len L) (hl : len ≤ 100) :
    Calls Try.prog 4 #[.slice a len cap, .int .i64 pl] w fun e w' => e = .returned (.bool true) ∧ Fr [] w w' := by
  obtain ⟨i3, hi, hz0, hz1, hz2⟩ := info_parts info3
  obtain ⟨i4, hi4, hy0, hy1, hy2⟩ := info_parts info4
  obtain ⟨B, hB⟩ : ∃ B, w.heap.size = B := ⟨_, rfl⟩
  rw [hB] at hA
  have hnd := nd_run L len
  have hlen := runL_length L len
  go_enter Try.func4, Try.ntmps4
  go_wp2_with fail
  refine (first_true _).mono ?_
  rintro e wa ⟨rfl, fa⟩
  go_wp2_with fail
  refine (made_any wa a len cap L (by have := fa.size; exact (hA.fr fa (by omega) (by simp)).mono (by omega)) hl).mono ?_
  rintro e w0 ⟨r, v, own, rfl, hr0, h0, nw0, fb⟩
  have f0 := fa.trans fb
  have hr : B ≤ r := by have := fa.size; omega
  have nw : New B own := by intro g hg; have := nw0 g hg; have := fa.size; omega
  have hA0 := hA.fr f0 (by omega) (by simp)
  generalize runL L len = l0 at h0 hnd hlen
  have HN := Lib.hid hnd
  clear hnd fa fb hr0 nw0 hA
  have HB := Lib.hid hB
  clear hB
  go_wp2_with fail
  refine (at_any w0 r v l0 own pl h0 (by omega)).mono ?_
  rintro e w1 ⟨va, oa, rfl, sa, qa, na, ma⟩
  have hal := atL_len l0 pl
  have hwk := Lib.hid (woken_eq HN.out pl)
  have hiw := Lib.hid (isWoken_wake HN.out pl)
  have hat2 := Lib.hid (at_wake l0 pl)
  generalize hAA : atL l0 pl = A at sa ma hal hwk hiw hat2
  have HA := Lib.hid hAA
  clear hAA
  have env : Env B w1.heap.size w w1 r v l0 own a len L va oa A :=
    { hub := h0.fr0 qa, nw := nw, rB := hr, rC := (h0.fr0 qa).1.lt, oC := sl_blt (h0.fr0 qa).2.1, fr := f0.trans qa, acts := hA0.fr qa (by have := f0.size; have := HB.out; omega) (by simp), at_ := sa, am := ma, aC := sl_blt sa, big := Nat.le_refl _ }
  obtain ⟨C, hC⟩ : ∃ C, w1.heap.size = C := ⟨_, rfl⟩
  have hC0 : w0.heap.size ≤ C := by have := qa.size; omega
  have n1 : New w0.heap.size oa := na
  have b0 : Blt own w0.heap.size := sl_blt h0.2.1
  have r0 : r < w0.heap.size := h0.1.lt
  obtain ⟨C0, hC0'⟩ : ∃ C0, w0.heap.size = C0 := ⟨_, rfl⟩
  rw [hC] at env
  rw [hC0'] at n1 b0 r0 hC0
  have HC := Lib.hid hC
  clear hC hC0' sa ma qa na h0 f0 hA0 nw
  obtain ⟨aa, ca, hva⟩ := env.at_.form
  subst hva
  go_wp2_with fail
  go_loopw [7, 8] (fun f i wr => ∃ (k : Nat) (o7 : Option Nat), k ≤ A.length ∧ i = .int .i64 k ∧ Sl wr 3 1 f (freshL l0 A k).length ((freshL l0 A k).map ci) o7 ∧ New C o7 ∧ (0 < (freshL l0 A k).length → ∃ g, o7 = some g) ∧ Env B C w wr r v l0 own a len L (.slice aa A.length ca) oa A) (fun _ i _ => A.length - (intOf i).toNat)
  case atStart => exact ⟨0, none, Nat.zero_le _, rfl, Sl.nil _ _ _, new_none _, by simp [freshL], env⟩
  case round =>
    obtain ⟨k, o7, hk, rfl, s7, n7, m7, env7⟩ := hrel
    clear env
    by_cases hlt : k < A.length
    · have hx : A[k]? = some A[k] := List.getElem?_eq_getElem hlt
      obtain ⟨x, hx'⟩ : ∃ x, A[k] = x := ⟨_, rfl⟩
      rw [hx'] at hx
      clear hx'
      have hk1 : (k : Int) < (A.length : Int) := by omega
      have hsucc := fresh_succ (l := l0) hx
      have hfl := fresh_len l0 A k
      obtain ⟨g, c, hv, q⟩ := env7.get hx
      cases hv
      generalize hF : freshL l0 A k = F at s7 m7 hsucc hfl
      generalize hG : freshL l0 A (k + 1) = G at hsucc
      have HF := Lib.hid hF
      have HG := Lib.hid hG
      have HX := Lib.hid hx
      clear hF hG hx
      obtain ⟨a7, c7, rfl⟩ := s7.form
      cases hw : isWoken l0 x
      · rw [hw] at hsucc
        simp at hsucc
        have HS := Lib.hid hsucc
        have HW := Lib.hid hw
        clear hsucc hw
        have hn0 : F.length + 1 ≤ maxLen := by unfold maxLen; omega
        go_wp2_with fail
        refine (woken_any wr r v l0 own x env7.hub (by omega)).mono ?_
        rintro e w2 ⟨rfl, q2⟩
        rw [HW.out]
        have env2 := env7.keep0 HB.out q2
        have s2 := s7.fr0 q2
        obtain ⟨g', c', hv', q'⟩ := env2.get HX.out
        cases hv'
        clear q env7 s7
        go_wp2_with (at_builtin; (refine wpList_append_sl rfl (.tmp 40) (.tmp 45) 34 rfl i3 _ 8 Try.underlying34 hi hz0 hz1 hz2 rfl (by decide) _ o7 rfl (s2.fr0 ((Fr.refl [] w2).alloc _)) _ 1 1 [ci x] rfl rfl (Cells.one (new_at (t := 3) (cs := #[ci x]) (by simp))) (by simp [ci, Value.oneCell']) hn0 (by omega) ?_; intro v' w3 o3 hs1 hf1 ho1 hm1; have fr1 : Fr o7.toList w2 w3 := ((Fr.refl _ w2).alloc _).trans hf1; clear hf1))
        go_roundw
        case rel =>
          have n3 := n7.next ho1 (by have := env2.big; simp; omega)
          refine ⟨k + 1, o3, by omega, by go_num, ?_, n3, fun _ => hm1 (by omega), env2.keep HB.out fr1 (fun q hq => n7 q (by simpa using hq))⟩
          rw [HG.out, HS.out]
          simpa [ci] using hs1
        case measure => simp [intOf]; omega
      · rw [hw] at hsucc
        simp at hsucc
        have HS := Lib.hid hsucc
        have HW := Lib.hid hw
        clear hsucc hw
        go_wp2_with fail
        refine (woken_any wr r v l0 own x env7.hub (by omega)).mono ?_
        rintro e w2 ⟨rfl, q2⟩
        rw [HW.out]
        have env2 := env7.keep0 HB.out q2
        have s2 := s7.fr0 q2
        clear env7 s7
        go_wp2_with fail
        go_roundw
        case rel => exact ⟨k + 1, o7, by omega, by go_num, by rw [HG.out, HS.out]; exact s2, n7, by rw [HG.out, HS.out]; exact m7, env2⟩
        case measure => simp [intOf]; omega
    · obtain rfl : k = A.length := by omega
      have hfr : freshL l0 A A.length = wokenL l0 pl := by rw [freshL, List.take_length]; exact hwk.out
      have hwl := woken_len l0 pl
      rw [hfr] at s7 m7
      clear hfr
      obtain ⟨D, hD⟩ : ∃ D, wr.heap.size = D := ⟨_, rfl⟩
      have envD := env7.mono (C' := D) (by have := env7.big; omega) (by omega)
      have b7 : Blt o7 D := hD ▸ sl_blt s7
      have hCD : C ≤ D := by have := env7.big; omega
      clear hD env7
      obtain ⟨af, cf, rfl⟩ := s7.form
      have SF := s7
      clear s7
      obtain ⟨wo, rfl⟩ : ∃ wo : World, wo = wr := ⟨_, rfl⟩
      go_wp2_with fail
      go_loopw [9, 10] (fun z i wr => ∃ (k : Nat) (o9 : Option Nat), k ≤ len ∧ i = .int .i64 k ∧ Sl wr 4 1 z k (wasL l0 L k) o9 ∧ New D o9 ∧ (0 < k → ∃ g, o9 = some g) ∧ Sl wr 3 1 (.slice af (wokenL l0 pl).length cf) (wokenL l0 pl).length ((wokenL l0 pl).map ci) o7 ∧ Env B D w wr r v l0 own a len L (.slice aa A.length ca) oa A) (fun _ i _ => len - (intOf i).toNat)
      case atStart => exact ⟨0, none, Nat.zero_le _, rfl, Sl.nil _ _ _, new_none _, by simp, SF, envD⟩
      case round =>
        obtain ⟨k, o9, hk, rfl, s9, n9, m9, sf, envz⟩ := hrel
        clear SF envD
        by_cases hlt : k < len
        · obtain ⟨b, off, rfl, hb, hc⟩ := envz.acts (by omega)
          obtain ⟨e0, e1, e2⟩ := hc k hlt
          clear hc e0 e2
          have hsucc := was_succ l0 L k
          have hk1 : (k : Int) < (len : Int) := by omega
          have hk0 : (0 : Int) ≤ (k : Int) := by omega
          generalize hF : wasL l0 L k = F at s9 hsucc
          have HF := Lib.hid hF
          have HS := Lib.hid hsucc
          clear hF hsucc
          obtain ⟨a9, c9, rfl⟩ := s9.form
          have hn0 : k + 1 ≤ maxLen := by unfold maxLen; omega
          go_wp2_with fail
          refine (woken_any wr r v l0 own (L k).who envz.hub (by omega)).mono ?_
          rintro e w2 ⟨rfl, q2⟩
          have env2 := envz.keep0 HB.out q2
          have s2 := s9.fr0 q2
          have sf2 := sf.fr0 q2
          clear envz s9 sf
          generalize hY : isWoken l0 (L k).who = y at HS
          have HY := Lib.hid hY
          clear hY
          go_wp2_with (at_builtin; (refine wpList_append_sl rfl (.tmp 53) (.tmp 61) 40 rfl i4 _ 1 Try.underlying40 hi4 hy0 hy1 hy2 rfl (by decide) _ o9 rfl (s2.fr0 ((Fr.refl [] w2).alloc _)) _ 1 1 [.bool y] rfl rfl (Cells.one (new_at (t := 4) (cs := #[.bool y]) (by simp))) (by simp [Value.oneCell']) hn0 (by omega) ?_; intro v' w3 o3 hs1 hf1 ho1 hm1; have fr1 : Fr o9.toList w2 w3 := ((Fr.refl _ w2).alloc _).trans hf1; clear hf1))
          go_roundw
          case rel =>
            have n3 := n9.next ho1 (by have := env2.big; simp; omega)
            refine ⟨k + 1, o3, by omega, by go_num, ?_, n3, fun _ => hm1 (by omega), sf2.keep m7 b7 fr1 (fun q hq => n9 q (by simpa using hq)), env2.keep HB.out fr1 (fun q hq => n9 q (by simpa using hq))⟩
            rw [HS.out]
            exact hs1
          case measure => simp [intOf]; omega
        · obtain rfl : len = k := by omega
          have l9 : len ≤ 1000 := by omega
          obtain ⟨wo, rfl⟩ : ∃ wo : World, wo = wr := ⟨_, rfl⟩
          obtain ⟨a9, c9, rfl⟩ := s9.form
          have hapA := apart_of n1 b0
          have hap7 := apart_of (n7.le hC0) b0
          have hap9 := apart_of (n9.le (Nat.le_trans hC0 hCD)) b0
          have H1 := Lib.hid hapA
          have H7 := Lib.hid hap7
          have H9 := Lib.hid hap9
          clear hapA hap7 hap9
          go_wp2_with fail
          refine (wake_any wo r v l0 own pl envz.hub (by omega)).mono ?_
          rintro e w1' ⟨vw, ow, rfl, sw, hub1, fw, _, mw⟩
          have env1 := envz.wake HB.out hub1 fw H1.out
          have sf1 := sf.fr fw H7.out m7
          have s91 := s9.fr fw H9.out m9
          have iw := sw.ints mw
          have if1 := sf1.ints m7
          clear envz sf s9 hub1 fw sw mw
          go_wp2_with fail
          refine (ints_true w1' vw _ (wokenL l0 pl) iw if1 (by omega)).mono ?_
          rintro e w2' ⟨rfl, n2', rfl⟩
          have env2 := env1.keep0 HB.out ((Fr.refl [] w1').drewN n2')
          have s92 := s91.fr0 ((Fr.refl [] w1').drewN n2')
          clear env1 s91 iw if1 sf1
          have hwl0 := wakeL_length l0 pl
          go_wp2_with fail
          refine (wake_any _ r v (wakeL l0 pl) own pl env2.hub (by omega)).mono ?_
          rintro e w3 ⟨vx, ox, rfl, sx, hub3, fx, _, _⟩
          rw [woken_wake] at sx
          rw [wake_wake] at hub3
          obtain ⟨ax, cx, rfl⟩ := sx.form
          have env3 := env2.wake HB.out hub3 fx H1.out
          have s93 := s92.fr fx H9.out m9
          clear env2 s92 hub3 fx sx
          go_wp2_with fail
          refine (at_any w3 r v (wakeL l0 pl) own pl env3.hub (by omega)).mono ?_
          rintro e w4 ⟨vy, oy, rfl, sy, fy, _, my⟩
          rw [hat2.out] at sy my
          have env4 := env3.keep0 HB.out fy
          have s94 := s93.fr0 fy
          have iy := sy.ints my
          have ia := env4.at_.ints env4.am
          clear env3 s93 fy sy my
          go_wp2_with fail
          refine (ints_true w4 vy _ A iy ia (by omega)).mono ?_
          rintro e w5 ⟨rfl, n5, rfl⟩
          have env5 := env4.keep0 HB.out ((Fr.refl [] w4).drewN n5)
          have s95 := s94.fr0 ((Fr.refl [] w4).drewN n5)
          clear env4 s94 iy ia
          go_wp2_with fail
          go_loopw [11, 12, 13] (fun i _ _ wr => ∃ k : Nat, k ≤ len ∧ i = .int .i64 k ∧ Sl wr 4 1 (.slice a9 len c9) len (wasL l0 L len) o9 ∧ Env B D w wr r v (wakeL l0 pl) own a len L (.slice aa A.length ca) oa A) (fun i _ _ _ => len - (intOf i).toNat)
          case atStart => exact ⟨0, Nat.zero_le _, rfl, s95, env5⟩
          case round =>
            obtain ⟨k, hk, rfl, s9, envz⟩ := hrel
            clear s95 env5
            by_cases hlt : k < len
            · obtain ⟨b, off, rfl, hb, hc⟩ := envz.acts (by omega)
              obtain ⟨e0, e1, e2⟩ := hc k hlt
              clear hc e0 e2
              have hbz : b < wr.heap.size := by have := envz.fr.size; have := HB.out; omega
              generalize hX : (L k).who = x at e1
              have HX := Lib.hid hX
              clear hX
              have hk1 : (k : Int) < (len : Int) := by omega
              have hk0 : (0 : Int) ≤ (k : Int) := by omega
              obtain ⟨wo, rfl⟩ : ∃ wo : World, wo = wr := ⟨_, rfl⟩
              go_wp2_with fail
              go_loopw [12, 13] (fun y j wr => ∃ m n : Nat, m ≤ A.length ∧ j = .int .i64 m ∧ y = .bool (hereL A x m) ∧ wr = wo.drewN n) (fun _ j _ => A.length - (intOf j).toNat)
              case atStart => exact ⟨0, 0, Nat.zero_le _, rfl, by simp [hereL], rfl⟩
              case round =>
                obtain ⟨m, n, hm, rfl, rfl, rfl⟩ := hrel
                by_cases hlm : m < A.length
                · have hy : A[m]? = some A[m] := List.getElem?_eq_getElem hlm
                  obtain ⟨y, hy'⟩ : ∃ y, A[m] = y := ⟨_, rfl⟩
                  rw [hy'] at hy
                  clear hy'
                  have hm1 : (m : Int) < (A.length : Int) := by omega
                  have hm0 : (0 : Int) ≤ (m : Int) := by omega
                  have hsucc := here_succ hy x
                  obtain ⟨g, c, hv, q⟩ := envz.get hy
                  cases hv
                  have HY := Lib.hid hy
                  clear hy
                  cases hH : hereL A x m
                  · rw [hH] at hsucc
                    simp only [Bool.false_or] at hsucc
                    have HS := Lib.hid hsucc
                    clear hsucc hH
                    go_wp2
                    go_quiet (fail)
                    go_wp2
                    go_roundw
                    case rel => exact ⟨m + 1, n + nq, by omega, by go_num, by rw [HS.out], rfl⟩
                    case measure => simp [intOf]; omega
                  · rw [hH] at hsucc
                    simp only [Bool.true_or] at hsucc
                    have HS := Lib.hid hsucc
                    clear hsucc hH
                    go_wp2
                    go_quiet (fail)
                    go_wp2
                    go_roundw
                    case rel => exact ⟨m + 1, n + nq, by omega, by go_num, by rw [HS.out], rfl⟩
                    case measure => simp [intOf]; omega
                · obtain rfl : A.length = m := by omega
                  have hh := here_all A x
                  have hw2 := hiw.out x
                  rw [← hh] at hw2
                  have HW2 := Lib.hid hw2
                  clear hh hw2
                  obtain ⟨g9, rfl, q9⟩ := was_cell s9 m9 hlt
                  rw [HX.out] at q9
                  have envd := envz.keep0 HB.out ((Fr.refl [] wo).drewN n)
                  have s9d := s9.fr0 ((Fr.refl [] wo).drewN n)
                  have q9d := Fr.cell ((Fr.refl [] wo).drewN n) q9 (block_lt_of_cell q9) (by simp)
                  have e1d := Fr.cell ((Fr.refl [] wo).drewN n) e1 hbz (by simp)
                  clear envz s9 q9 e1
                  generalize hereL A x A.length = y at HW2
                  go_wp2_with fail
                  refine (woken_any _ r v (wakeL l0 pl) own x envd.hub (by omega)).mono ?_
                  rintro e w6 ⟨rfl, f6⟩
                  rw [HW2.out]
                  have env6 := envd.keep0 HB.out f6
                  have s96 := s9d.fr0 f6
                  have q96 := Fr.cell f6 q9d (block_lt_of_cell q9d) (by simp)
                  clear envd s9d q9d e1d
                  generalize isWoken l0 x = z at q96
                  cases y <;> cases z
                  all_goals
                    go_wp2_with fail
                    go_roundw
                    case rel => exact ⟨k + 1, by omega, by go_num, s96, env6⟩
                    case measure => simp [intOf]; omega
            · go_wp2
              go_ret
              exact ⟨rfl, envz.fr⟩

set_option maxHeartbeats 400000 in
theorem wakes_all (w : World) (a : Option Addr) (len cap : Nat) (pl : Int) (L : Nat → Act) (hA : ActsAt w w.heap.size a len L) :
    Calls Try.prog 4 #[.slice a len cap, .int .i64 pl] w fun e w' => e = .returned (.bool true) ∧ Fr [] w w' := by
  by_cases hl : len ≤ 100
  · exact wakes_walk w a len cap pl L hA hl
  · clear hA
    go_enter Try.func4, Try.ntmps4
    go_wp2_with fail
    refine (first_true _).mono ?_
    rintro e w1 ⟨rfl, f1⟩
    go_wp2_with fail
    refine (first_true _).mono ?_
    rintro e w2 ⟨rfl, f2⟩
    go_wp2_with fail
    go_ret
    exact ⟨rfl, f1.trans f2⟩
end Go.Proofs.Ytjkhkepckocjkaa
