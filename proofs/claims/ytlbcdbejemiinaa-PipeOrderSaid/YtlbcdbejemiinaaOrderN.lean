/- PipeOrder's walk, whatever the acts. -/
import Derived.Test.YtlbcdbejemiinaaOrderW
namespace Go.Proofs.Ytlbcdbejemiinaa
open Go.RowKit

set_option maxRecDepth 100000 in
set_option maxHeartbeats 1000000 in
theorem order_all (w : World) (room : Int) (a : Option Addr) (len cap : Nat) (L : Nat → Act) (hr : room ≤ 9223372036854775807) (hA : ActsAt w w.heap.size a len L) (hl : len ≤ maxLen) :
    Calls Try.prog 5 #[.int .i64 room, .slice a len cap] w fun e w' => e = .returned (.bool true) ∧ Fr [] w w' := by
  by_cases hok : okActs len L = true
  · exact order_walk w room (max room 0) (by omega) a len cap L hr hA hl hok
  · have hok' : okActs len L = false := Bool.eq_false_iff.2 hok
    go_enter Try.func5, Try.ntmps5
    go_wp2_with fail
    refine (first_true _).mono ?_
    rintro e w1 ⟨rfl, r1⟩
    go_wp2_with fail
    refine (light_any w1 w.heap.size a len cap L (hA.fr r1 (Nat.le_refl _) (by simp)) hl).mono ?_
    rintro e w' ⟨rfl, rfl⟩
    rw [hok']
    go_wp2_with fail
    refine (first_true _).mono ?_
    rintro e w2 ⟨rfl, r2⟩
    go_wp2
    go_ret
    exact ⟨rfl, r1.trans r2⟩
end Go.Proofs.Ytlbcdbejemiinaa
