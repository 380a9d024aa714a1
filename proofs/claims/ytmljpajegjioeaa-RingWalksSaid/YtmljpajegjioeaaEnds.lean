/- What holds behind each of RingWalks' two loops over an iterator, whichever way they were left. -/
import Derived.Test.YtmljpajegjioeaaStt
namespace Go.Proofs.Ytmljpajegjioeaa
open Go.RowKit Go.Shelf
attribute [local go_sem] Oper.semAt_some

theorem two_ends {Q : Exit → Act → World → Prop} {Q1 : Act → World → Prop} {id : Nat} (hsame : ∀ a W, Q .normal a W → Q (.exit id) a W) (h : ∀ a W, Q1 a W → Q .normal a W) : ∀ e a W, ((e = .normal ∨ e = .exit id) ∧ Q1 a W) → Q e a W := by
  rintro e a W ⟨rfl | rfl, h1⟩
  · exact h a W h1
  · exact hsame a W (h a W h1)
theorem kq_putObj {n₀ b l : Nat} {W : World} {o : Obj} (o' : Obj) (h1 : n₀ ≤ l) (h2 : b < l) (hl : W.heap[l]? = some o) : Kq n₀ b W (W.putObj l o') := by
  have hg := grownBy_putObj' W l o'
  have hlt := (Array.getElem?_eq_some_iff.1 hl).1
  exact ⟨⟨hg.os, hg.tape, hg.output, hg.size, fun k hk => hg.block k (by omega) (fun e => by cases e; omega)⟩, fun hb => hg.block b hb (fun e => by cases e; omega)⟩
theorem fr_putObj {w0 W : World} {l : Nat} (o' : Obj) (h : Fr [] w0 W) (hl : w0.heap.size ≤ l) : Fr [] w0 (W.putObj l o') := by
  have hg := grownBy_putObj' W l o'
  have f : Fr [l] W (W.putObj l o') := ⟨hg.os, hg.tape, hg.output, hg.size, fun k hk hn => hg.block k hk (fun e => hn (by cases e; simp))⟩
  exact h.step f (fun k hk => .inr (by have : k = l := by simpa using hk
                                       omega))
/-- What a list of numbers reads. -/
theorem sl_reads {W : World} {u : Value} {zs : List Int} {n : Nat} {o : Option Nat} (h : Sl W 2 1 u zs.length (zs.map RI.ci) o) (hm : 0 < zs.length → ∃ g, o = some g) (hn : zs.length = n) :
    ∃ p c, u = .slice p n c ∧ ∀ j, j < n → ∃ g, p = some ⟨g, 0, none⟩ ∧ W.cell? ⟨g, j, none⟩ = some (.int .i64 (zs[j]?.getD 0)) := by
  subst hn
  rcases h with ⟨h0, x, hv, h1, h2, h3, h4⟩ | ⟨g, c, h0, hv, hr⟩
  · refine ⟨x, _, hv, fun j hj => ?_⟩
    obtain ⟨g, hg⟩ := hm (by omega)
    rw [h0] at hg
    cases hg
  · refine ⟨_, c, hv, fun j hj => ⟨g, rfl, hr.cell ?_⟩⟩
    simp [hj, RI.ci]
theorem prs_at (xs : List Int) (k j : Nat) (h : j < k) : ((prs xs k).map (·.2))[j]?.getD 0 = xs[j]?.getD 0 := by simp [prs, h]
theorem bks_at (xs : List Int) (k j : Nat) (h : j < k) : (bks xs k)[j]?.getD 0 = xs[xs.length - 1 - j]?.getD 0 := by simp [bks, h]
section
variable {w0 : World} {B C D r Bd : Nat} {M : Int} {v : Value} {xs : List Int} {own : Option Nat} {stop : Int} {a : Option Addr} {len : Nat} {L : Nat → Int} {va : Value} {la : List Int} {oa : Option Nat} {Dm : Nat} {id : Nat}
theorem I1_own (hB : C + 1 + 1 + 1 + 1 < Bd) : OwnFrom Bd (I1 w0 B C r M v xs own stop a len L) := by
  rintro s X Y row ⟨va, oa, hS, hX, hp⟩ hg hr
  exact ⟨va, oa, hS.grown hg (fun k e => ⟨by have := (hr k e).1; omega, (hr k e).2⟩), (hg.block _ hX.lt (fun e => by have := (hr _ e.symm).1; omega)).trans hX, hp⟩
theorem X1_own (hB : C + 1 + 1 + 1 + 1 < Bd) (c : Code) : OwnFrom Bd (X1 w0 B C r M v xs own stop a len L c) := by
  rintro s X Y row ⟨hc, pre, x, hs, h, hI⟩ hg hr
  exact ⟨hc, pre, x, hs, h, I1_own hB _ _ _ _ hI hg hr⟩
theorem I2_own (hB : C + 1 + 1 + 1 < Bd) (hD : D < Bd) (hDm : Dm < Bd) : OwnFrom Bd (I2 w0 B C D r M v xs own stop a len L va la oa Dm) := by
  rintro s X Y row ⟨vb, ob, hS, hX, hm, hp⟩ hg hr
  exact ⟨vb, ob, hS.grown hg (fun k e => ⟨by have := (hr k e).1; omega, (hr k e).2⟩), (hg.block _ hX.lt (fun e => by have := (hr _ e.symm).1; omega)).trans hX, (hg.block _ (Array.getElem?_eq_some_iff.1 hm).1 (fun e => by have := (hr _ e.symm).1; omega)).trans hm, hp⟩
theorem X2_own (hB : C + 1 + 1 + 1 < Bd) (hD : D < Bd) (hDm : Dm < Bd) (c : Code) : OwnFrom Bd (X2 w0 B C D r M v xs own stop a len L va la oa Dm id c) := by
  rintro s X Y row ⟨hc, pre, x, hs, h, hI⟩ hg hr
  exact ⟨hc, pre, x, hs, h, I2_own hB hD hDm _ _ _ _ hI hg hr⟩

theorem done1 {ps : List (Nat × Int)} {W : World} (hps : ps = prs xs xs.length) (h : I1 w0 B C r M v xs own stop a len L ps W) : ∃ (va : Value) (oa : Option Nat) (k : Nat), (k : Int) = max (min (xs.length : Int) stop) 0 ∧ St w0 W B C r M v xs own stop a len L va (.slice none 0 0) ((prs xs k).map (·.2)) [] oa none := by
  subst hps
  obtain ⟨va, oa, hS, _, hp⟩ := h
  refine ⟨va, oa, xs.length, ?_, hS⟩
  rw [prs_length] at hp
  rcases hp with hp | hp
  · have : xs.length = 0 := by rw [← prs_length xs xs.length, hp]; rfl
    omega
  · omega
theorem stop1 {ps : List (Nat × Int)} {W : World} {c : Code} (hps : ∃ k, k ≤ xs.length ∧ ps = prs xs k) (h : X1 w0 B C r M v xs own stop a len L c ps W) : c = .exit 2 ∧ ∃ (va : Value) (oa : Option Nat) (k : Nat), (k : Int) = max (min (xs.length : Int) stop) 0 ∧ St w0 W B C r M v xs own stop a len L va (.slice none 0 0) ((prs xs k).map (·.2)) [] oa none := by
  obtain ⟨rfl, pre, x, rfl, hx, va, oa, hS, _, hp⟩ := h
  obtain ⟨k, hk, hps⟩ := hps
  have hl := congrArg List.length hps
  rw [prs_length] at hl
  simp only [List.length_append, List.length_cons, List.length_nil] at hl
  obtain rfl : k = pre.length + 1 := by omega
  rw [prs_succ] at hps
  obtain ⟨h1, h2⟩ := List.append_inj' hps rfl
  have h3 : x.1 = pre.length := by simp only [List.cons.injEq, and_true] at h2; rw [h2]
  refine ⟨rfl, va, oa, pre.length, ?_, by rw [← h1]; exact hS⟩
  have hp' : pre.length = 0 ∨ (pre.length : Int) ≤ stop := hp.imp (fun h => by rw [h]; rfl) (fun h => h)
  rw [h3] at hx
  omega
theorem done2 {ps : List Int} {W : World} (hps : ps = bks xs xs.length) (h : I2 w0 B C D r M v xs own stop a len L va la oa Dm ps W) : ∃ (vb : Value) (ob : Option Nat) (k : Nat), (k : Int) = max (min (xs.length : Int) stop) 0 ∧ St w0 W B C r M v xs own stop a len L va vb la (bks xs k) oa ob ∧ W.heap[Dm]? = some (.deferred (some [])) := by
  subst hps
  obtain ⟨vb, ob, hS, _, hm, hp⟩ := h
  refine ⟨vb, ob, xs.length, ?_, hS, hm⟩
  rw [bks_length] at hp
  rcases hp with hp | hp
  · have : xs.length = 0 := by rw [← bks_length xs xs.length, hp]; rfl
    omega
  · omega
theorem stop2 {ps : List Int} {W : World} {c : Code} (hps : ∃ k, k ≤ xs.length ∧ ps = bks xs k) (h : X2 w0 B C D r M v xs own stop a len L va la oa Dm id c ps W) : c = .exit id ∧ ∃ (vb : Value) (ob : Option Nat) (k : Nat), (k : Int) = max (min (xs.length : Int) stop) 0 ∧ St w0 W B C r M v xs own stop a len L va vb la (bks xs k) oa ob ∧ W.heap[Dm]? = some (.deferred (some [])) := by
  obtain ⟨rfl, pre, x, rfl, hx, vb, ob, hS, _, hm, hp⟩ := h
  obtain ⟨k, hk, hps⟩ := hps
  have hl := congrArg List.length hps
  rw [bks_length] at hl
  simp only [List.length_append, List.length_cons, List.length_nil] at hl
  obtain rfl : k = pre.length + 1 := by omega
  rw [bks_succ] at hps
  obtain ⟨h1, h2⟩ := List.append_inj' hps rfl
  refine ⟨rfl, vb, ob, pre.length, ?_, by rw [← h1]; exact hS, hm⟩
  have hp' : pre.length = 0 ∨ (pre.length : Int) ≤ stop := hp.imp (fun h => by rw [h]; rfl) (fun h => h)
  omega
end
end Go.Proofs.Ytmljpajegjioeaa
