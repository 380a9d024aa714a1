/- A region that draws its order, in a round of a range over a function: what is shown of it elsewhere holds there, too. Plain lemmas, over any program. -/
import Derived.Test.YtmljpajegjioeaaIns
import Derived.RangeFuncNested
import Derived.RangeFuncBound
import Derived.RangeFuncCalls
import Derived.RangeFuncLeaves
import Derived.RangeFuncBox
import Derived.Shelf.Abstract
import Derived.Shelf.RegionOpen
import Derived.WalkKit
import Derived.OwnWalkIn
import Derived.TacticsInMore
import Derived.LoopNIn
import Derived.LoopIn
namespace Go.Proofs.Ytmljpajegjioeaa
open Go.RowKit Go.Shelf

variable {P : Program} {Q : Exit → Act → World → Prop}

/-- An operation that defers nothing: in a round, too. -/
theorem oper_in {l n : Nat} {o : Oper} {a : Act} {w : World} {K K' : Act → World → Prop} (hd : ∀ c, o.op ≠ .defer c) (hK : ∀ a w, K a w → K' a w) (h : Oper.wp P o a w K Q) : Oper.wpIn (Fence.wide.inRound l) n P o a w K' Q := by
  refine ⟨fun _ _ => trivial, ?_⟩
  unfold Oper.wp at h
  rw [Oper.semAt_eq _ _ _ hd]
  generalize (execOp a.eval o).run P w = r at h ⊢
  match r, h with
  | .ok (.value v) w', h => exact hK _ _ h
  | .ok .skip w', h => exact hK _ _ h
  | .ok (.defer d) w', h => exact hK _ _ h
  | .ok (.enter f args) w', h =>
    refine ⟨fun e => (by cases e), CallsIn.inRound l (callsIn_wide.2 (Calls.mono h ?_))⟩
    intro e w'' he
    cases e with
    | returned v => exact hK _ _ he
    | panicked c => exact he
    | outgrown => exact he
  | .ok (.row row args) w', h =>
    refine ⟨fun e => (by cases e), fun c cs _ => ?_⟩
    obtain ⟨v, w'', r, s⟩ := h c cs
    exact ⟨v, w'', hK _ _ r, stepsIn_wide.2 s⟩
  | .halt (.panic v) w', h => exact h

/-- No operation of the region defers. -/
def noDefer (ops : Array Oper) : Bool := ops.all fun o => match o.op with | .defer _ => false | _ => true
theorem noDefer_at {ops : Array Oper} (h : noDefer ops = true) {i : Nat} {o : Oper} (ho : ops[i]? = some o) : ∀ c, o.op ≠ .defer c := by
  intro c hc
  obtain ⟨hi, rfl⟩ := Array.getElem?_eq_some_iff.1 ho
  have := (Array.all_eq_true.1 h) i hi
  rw [hc] at this
  cases this
theorem any_in {l n : Nat} {md : Region.Mode} {ops : Array Oper} (hd : noDefer ops = true) (hq : ¬ LetsOut Q) : ∀ (fuel : Nat) (listed : Array Bool) (a : Act) (w : World),
    wpAny P md ops Q fuel listed a w → wpAnyIn (Fence.wide.inRound l) n P md ops Q fuel listed a w
  | 0, _, _, _, h => h
  | fuel + 1, listed, a, w, h => by
    refine ⟨h.1, fun i hi => ?_⟩
    have h2 := h.2 i hi
    unfold wpOp at h2
    unfold wpOpIn
    cases ho : ops[i]? with
    | none =>
      simp only [ho] at h2 ⊢
      exact any_in hd hq fuel _ _ _ h2
    | some o =>
      simp only [ho] at h2 ⊢
      split
      · rename_i hw
        rw [if_pos hw] at h2
        rcases h2 with h2 | ⟨_, h2⟩
        · exact oper_in (noDefer_at hd ho) (fun a w h => any_in hd hq fuel _ a w h) h2
        · exact absurd h2 hq
      · rename_i hw
        rw [if_neg hw] at h2
        exact ⟨fun _ _ => trivial, any_in hd hq fuel _ _ _ h2⟩
/-- A region that draws its order, in a round. -/
theorem region_in {l n id : Nat} {ops : Array Oper} {a : Act} {w : World} (hm : P.follows .mixedOrders = true) (hd : noDefer ops = true) (hq : ¬ LetsOut Q)
    (h : wpAny P .any ops Q ops.size (Array.replicate ops.size false) a w.drew) : (Code.region id ops true).wpIn (Fence.wide.inRound l) n P Q a w :=
  wpIn_region_any hm (any_in hd hq _ _ _ _ h)
end Go.Proofs.Ytmljpajegjioeaa
