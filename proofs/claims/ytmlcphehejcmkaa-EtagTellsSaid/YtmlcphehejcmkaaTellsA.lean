/- EtagTells for texts of every length. -/
import Derived.Test.YtmlcphehejcmkaaTellsW
namespace Go.Proofs.Ytmlcphehejcmkaa
open Go.RowKit

set_option maxHeartbeats 800000 in
theorem tells_all (v : Int) (a b : ByteArray) (ck cv : Int) (there : Bool) (w : World) (hv : v ≤ 9223372036854775807) (hcv : cv ≤ 9223372036854775807) :
    Calls Try.prog 5 #[.int .i64 v, .string a, .string b, .agg #[.int .i64 ck, .int .i64 cv], .bool there] w fun e w' => e = .returned (.bool true) ∧ Fr [] w w' := by
  by_cases ha : a.size ≤ 100
  · by_cases hb : b.size ≤ 100
    · exact tells_walk v a b ck cv there w hv hcv ha hb
    · have f0 : Fr [] w (w.alloc (.cells #[.int .i64 ck, .int .i64 cv] 29)) := (Fr.refl _ _).alloc _
      go_enter Try.func5, Try.ntmps5
      go_wp2_with fail
      refine (first_true _).mono ?_
      rintro e w1 ⟨rfl, f1⟩
      go_wp2_with fail
      refine (first_true _).mono ?_
      rintro e w2 ⟨rfl, f2⟩
      go_wp2_with fail
      go_ret
      exact ⟨rfl, (f0.trans f1).trans f2⟩
  · have f0 : Fr [] w (w.alloc (.cells #[.int .i64 ck, .int .i64 cv] 29)) := (Fr.refl _ _).alloc _
    go_enter Try.func5, Try.ntmps5
    go_wp2_with fail
    refine (first_true _).mono ?_
    rintro e w1 ⟨rfl, f1⟩
    go_wp2_with fail
    refine (first_true _).mono ?_
    rintro e w2 ⟨rfl, f2⟩
    go_wp2_with fail
    go_ret
    exact ⟨rfl, (f0.trans f1).trans f2⟩
end Go.Proofs.Ytmlcphehejcmkaa
