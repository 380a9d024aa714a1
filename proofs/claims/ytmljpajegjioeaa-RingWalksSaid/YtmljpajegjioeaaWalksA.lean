/- RingWalks at every input. -/
import Derived.Test.YtmljpajegjioeaaWalksW
namespace Go.Proofs.Ytmljpajegjioeaa
open Go.RowKit Go.Shelf
attribute [local go_sem] Oper.semAt_some

set_option maxRecDepth 100000 in
set_option maxHeartbeats 4000000 in
theorem walks_any (w : World) (most stop : Int) (hm2 : most ≤ 9223372036854775807) (a : Option Addr) (len cap : Nat) (L : Nat → Int) (hA : IntsAt w w.heap.size a len L) :
    Calls Try.prog 6 #[.int .i64 most, .slice a len cap, .int .i64 stop] w fun e w' => e = .returned (.bool true) ∧ Fr [] w w' := by
  by_cases hl : len ≤ 80
  · exact walks_walk w most stop a len cap L hA hl hm2
  · have f0 : Fr [] w (w.alloc (.cells #[.int .i64 stop] 3)) := (Fr.refl _ _).alloc _
    go_enter Try.func6, Try.ntmps6
    go_wp2_with fail
    refine (first_true _).mono ?_
    rintro e w1 ⟨rfl, r1⟩
    go_wp2_with fail
    refine (first_true _).mono ?_
    rintro e w2 ⟨rfl, r2⟩
    go_wp2_with fail
    go_ret
    exact ⟨rfl, f0.trans (r1.trans r2)⟩
end Go.Proofs.Ytmljpajegjioeaa
