/- FnvShard holds of every text and every number of shards: the shard is one of those that there are, and the sum's rest; of none it is 0; no condition. -/
import Derived.Test.YtifahgjjjfmpbaaRows
import Derived.Test.YtifahgjjjfmpbaaSum
import Derived.WalkKit
import Derived.ProofKit
import Derived.OpenShut
import Derived.ShutString
namespace Go.Proofs.Ytifahgjjjfmpbaa.fnvShard
open Go.ChangeShapes Go.WideShapes Go.ChangeAt Go.RowKit
open Go.ChangeMaps (open_string shut_string)
set_option linter.unusedVariables false      -- a walk need not use every 'w<i>' (that an integer argument fits its kind)

theorem own : ownKnob Try.prog.godebug = none := by kernel_rfl

theorem shard_rest {S n : Int} (hr : 0 ≤ S ∧ S < 18446744073709551616) (hn : 1 ≤ n) : ((IntKind.u64.wrap (S - S % n)).tmod n == 0) = true := by
  have h1 := Int.emod_nonneg S (show n ≠ 0 by omega)
  have h4 : S % n ≤ S := by
    have h5 := Int.mul_nonneg (show (0 : Int) ≤ n by omega) (Int.ediv_nonneg hr.1 (show (0 : Int) ≤ n by omega))
    have h6 := Int.emod_def S n
    omega
  have h3 : IntKind.u64.wrap (S - S % n) = S - S % n := IntWalk.u64_in _ (by omega)
  rw [h3, Int.tmod_eq_emod_of_nonneg (by omega), beq_iff_eq]
  exact Int.emod_eq_zero_of_dvd (Int.dvd_self_sub_emod)

set_option maxHeartbeats 400000 in
theorem walk (a0 : ByteArray) (a1 : Int) (w0 : a0.size ≤ maxLen) (w1 : (Lit.int .i64 a1).wf = true) (w : World) :
    Calls Try.prog 5 #[.string a0, .int .i64 a1] w fun e w' => e = .returned (.bool true) ∧ Grown w w' := by
  have hb : a1 ≤ 9223372036854775807 := by
    have h := w1; simp only [Lit.wf, Bool.and_eq_true, decide_eq_true_eq] at h; exact h.2
  clear w1
  by_cases h : 4000 < a0.size
  · go_enter Try.func5, Try.ntmps5
    go_wp2_with (go_at_call 6; refine (first_true _).mono ?_; rintro e w' ⟨rfl, rfl⟩)
    go_ret
    exact ⟨rfl, Grown.refl _⟩
  · by_cases hn : a1 < 1
    · go_enter Try.func5, Try.ntmps5
      go_wp2_with (first | (go_at_call 6; refine (first_true _).mono ?_; rintro e w' ⟨rfl, rfl⟩) | (go_at_call 9; refine (shard_zero _ _ _ hn).mono ?_; rintro e w' ⟨rfl, rfl⟩))
      go_ret
      exact ⟨rfl, Grown.refl _⟩
    · have hr := sumL_range a0.data.toList
      have h1 := Int.emod_nonneg (sumL a0.data.toList) (show a1 ≠ 0 by omega)
      have h2 := Int.emod_lt_of_pos (sumL a0.data.toList) (show 0 < a1 by omega)
      go_enter Try.func5, Try.ntmps5
      go_wp2_with (first | (go_at_call 6; refine (first_true _).mono ?_; rintro e w' ⟨rfl, rfl⟩) | (go_at_call 9; refine (shard_any _ _ _ w0 (by omega) hb).mono ?_; rintro e w' ⟨rfl, rfl⟩) | (go_at_call 7; refine (sum_any _ _ w0).mono ?_; rintro e w' ⟨rfl, rfl⟩))
      go_ret
      refine ⟨ret_bool ?_, Grown.refl _⟩
      exact shard_rest hr hn

/-! ### THE ROW's STEP: WRITTEN OUT: LEAVE IT -/
set_option maxRecDepth 100000 in
theorem lifted (os : Os) (started : os.Started) (H : Type) (enc : TypeId × Value → H) :
    ReturnsInHanded {} Try.checked os 5 .any (Rows.fnvShardSpec.pre6 enc Try.prog Try.f5 Rows.fnvShardRow.domain false) (Rows.fnvShardSpec.post enc Try.prog Try.f5 false true false false) := by
  refine returnsInHanded_of_change (C := Try.checked) own started (by kernel_rfl) Try.func5
    (ChangeSpec.witness6 (enc := enc) (C := Try.checked) false ⟨#[], #[.string ByteArray.empty, .int .i64 0], []⟩ 8 (by kernel_rfl) (by kernel_rfl) (by kernel_rfl) (by kernel_rfl)) ?_
  intro W base args ds gs before hval0 hW hcnd _
  have hval : ∀ (j : Nat) t v, Try.f5.params[j]? = some t → args[j]? = some v → Value.okWide Try.prog W .any base t v := hval0
  have hW' := hW
  obtain ⟨p, q, hA0, hV, rfl, hfz, hnd⟩ := hW
  have hA : DataW.TrodAll enc Try.prog W 0 (fun _ => true) true Try.f5.params.toList args.toList ds p := hA0
  rw [Try.params5] at hA hval
  obtain ⟨v0, vs0, d0, ds0, p0, q0, hargs, rfl, rfl, h0, r0⟩ := trodAll_cons hA
  obtain ⟨v1, vs1, d1, ds1, p1, q1, rfl, rfl, rfl, h1, r1⟩ := trodAll_cons r0
  obtain ⟨rfl, rfl, rfl⟩ := trodAll_nil r1
  obtain rfl : args = #[v0, v1] := by cases args; simp_all
  obtain ⟨rfl, rfl⟩ := trodVars_none hV
  obtain ⟨a0, rfl, rfl, rfl, w0⟩ := open_string Try.underlying9 (hval 0 9 v0 rfl rfl) h0
  obtain ⟨a1, rfl, rfl, rfl, w1⟩ := open_int Try.underlying3 (hval 1 3 v1 rfl rfl) h1
  clear hA0 hval0
  simp only [List.append_nil] at hW'
  refine (walk a0 a1 w0 w1 W).mono fun e W' ⟨he, hg⟩ => ?_
  subst he
  exact ⟨_, rfl, post_of_same (pa := []) (pv := []) hW' (fun _ _ _ => (trodAll_cons_mk (shut_bool Try.underlying4 _) trodAll_mk0)) (fun sp _ => (trodAll_cons_mk (shut_string Try.underlying9 w0) (trodAll_cons_mk (shut_int Try.underlying3 w1) trodAll_mk0))) (fun _ _ => rfl) rfl
    (hg.frame _) hg.2.1 (ok_one (by kernel_rfl) rfl (okWide_bool_mk Try.underlying4 _))⟩

theorem over : Rows.fnvShardRow.holds Try.pinned (OpenSpec.ofChange Rows.fnvShardSpec) :=
  OpenClaim.holds_of_wide 5 Try.f5 rfl rfl rfl rfl rfl rfl rfl ⟨rfl, rfl, rfl, rfl, rfl⟩ rfl rfl rfl rfl rfl (by kernel_rfl) Try.func5 (by kernel_rfl)
    (of_decide_eq_true (by kernel_rfl)) (by unfold Func.isWrapper; first | (rw [if_pos (by decide +kernel)]; kernel_rfl) | (rw [if_neg (by decide +kernel)]; exact ⟨rfl, rfl⟩))
    (fun os started H enc _ => lifted os started H enc)

/-- The statement. -/
theorem proved : Rows.FnvShardSaid :=
  over
#print axioms proved
end Go.Proofs.Ytifahgjjjfmpbaa.fnvShard
