/- FnvNext holds of every text and byte: the sum of the text with one byte more is the document's step from the text's sum; no condition. -/
import Derived.Test.YtifahgjjjfmpbaaRows
import Derived.Test.YtifahgjjjfmpbaaSum
import Derived.WalkKit
import Derived.ProofKit
import Derived.OpenShut
import Derived.Handy
import Derived.ShutString
namespace Go.Proofs.Ytifahgjjjfmpbaa.fnvNext
open Go.ChangeShapes Go.WideShapes Go.ChangeAt Go.RowKit
open Go.ChangeMaps (open_string shut_string)
set_option linter.unusedVariables false      -- a walk need not use every 'w<i>' (that an integer argument fits its kind)

theorem own : ownKnob Try.prog.godebug = none := by kernel_rfl

theorem byte_of (a1 : Int) (w1 : (Lit.int .u8 a1).wf = true) : ∃ u : UInt8, a1 = (u.toNat : Int) := by
  have h := w1
  simp only [Lit.wf, Bool.and_eq_true, decide_eq_true_eq] at h
  have h0 : (0 : Int) ≤ a1 := h.1
  have h1 : a1 ≤ 255 := h.2
  refine ⟨UInt8.ofNat a1.toNat, ?_⟩
  rw [UInt8.toNat_ofNat']
  omega

theorem conv_one (u : UInt8) (w : World) :
    (convert 26 9 (.slice (some ⟨w.heap.size, 0, none⟩) 1 1)).run Try.prog (w.alloc (.cells #[.int .u8 (u.toNat : Int)] 5)) = .ok (.string ⟨#[u]⟩) (w.alloc (.cells #[.int .u8 (u.toNat : Int)] 5)) := by
  have hl : (loadCells ⟨w.heap.size, 0, none⟩ 1).run Try.prog (w.alloc (.cells #[.int .u8 (u.toNat : Int)] 5)) = .ok ([(u.toNat : Int)].map (Value.int .u8)).toArray (w.alloc (.cells #[.int .u8 (u.toNat : Int)] 5)) := by
    refine run_loadCells_list _ _ [.int .u8 (u.toNat : Int)] (fun j v hj => ?_)
    match j, hj with
    | 0, hj => simp at hj; subst hj; simp [Addr.add]
  rw [run_convert_bytes_string _ 26 9 5 _ 1 1 Try.underlying26 Try.underlying5 Try.underlying9, run_bytesToString _ _ _ _ _ hl]
  simp
  rfl

theorem sum_snoc (s : ByteArray) (u : UInt8) (w : World) (hs : (s ++ ⟨#[u]⟩).size ≤ maxLen) :
    Calls Try.prog 7 #[.string (s ++ ⟨#[u]⟩)] w fun e w' => e = .returned (.int .u64 (step (sumL s.data.toList) u)) ∧ w = w' :=
  (sum_any _ w hs).mono fun e w' ⟨he, hw⟩ => ⟨he.trans (ret_int (by
    have : (s ++ ⟨#[u]⟩).data.toList = s.data.toList ++ [u] := by simp
    rw [this, sumL_snoc])), hw⟩

set_option maxHeartbeats 400000 in
theorem walk (a0 : ByteArray) (a1 : Int) (w0 : a0.size ≤ maxLen) (w1 : (Lit.int .u8 a1).wf = true) (w : World) :
    Calls Try.prog 4 #[.string a0, .int .u8 a1] w fun e w' => e = .returned (.bool true) ∧ Grown w w' := by
  obtain ⟨u, rfl⟩ := byte_of a1 w1
  clear w1
  by_cases h : 4000 < a0.size
  · go_enter Try.func4, Try.ntmps4
    go_wp2_with (go_at_call 6; refine (first_true _).mono ?_; rintro e w' ⟨rfl, rfl⟩)
    go_ret
    exact ⟨rfl, Grown.refl _⟩
  · have hcv := conv_one u
    go_enter Try.func4, Try.ntmps4
    go_wp2_with (go_at_call 6; refine (first_true _).mono ?_; rintro e w' ⟨rfl, rfl⟩)
    refine (sum_snoc a0 u _ (by unfold maxLen; rw [ByteArray.size_append]; show a0.size + 1 ≤ _; omega)).mono ?_
    rintro e w' ⟨rfl, rfl⟩
    go_wp2_with fail
    refine (sum_any _ _ w0).mono ?_
    rintro e w' ⟨rfl, rfl⟩
    go_wp2_with fail
    go_ret
    exact ⟨ret_bool (by simp [step]), by go_grown⟩

/-! ### THE ROW's STEP: WRITTEN OUT: LEAVE IT -/
set_option maxRecDepth 100000 in
theorem lifted (os : Os) (started : os.Started) (H : Type) (enc : TypeId × Value → H) :
    ReturnsInHanded {} Try.checked os 4 .any (Rows.fnvNextSpec.pre6 enc Try.prog Try.f4 Rows.fnvNextRow.domain false) (Rows.fnvNextSpec.post enc Try.prog Try.f4 false true false false) := by
  refine returnsInHanded_of_change (C := Try.checked) own started (by kernel_rfl) Try.func4
    (ChangeSpec.witness6 (enc := enc) (C := Try.checked) false ⟨#[], #[.string ByteArray.empty, .int .u8 0], []⟩ 8 (by kernel_rfl) (by kernel_rfl) (by kernel_rfl) (by kernel_rfl)) ?_
  intro W base args ds gs before hval0 hW hcnd _
  have hval : ∀ (j : Nat) t v, Try.f4.params[j]? = some t → args[j]? = some v → Value.okWide Try.prog W .any base t v := hval0
  have hW' := hW
  obtain ⟨p, q, hA0, hV, rfl, hfz, hnd⟩ := hW
  have hA : DataW.TrodAll enc Try.prog W 0 (fun _ => true) true Try.f4.params.toList args.toList ds p := hA0
  rw [Try.params4] at hA hval
  obtain ⟨v0, vs0, d0, ds0, p0, q0, hargs, rfl, rfl, h0, r0⟩ := trodAll_cons hA
  obtain ⟨v1, vs1, d1, ds1, p1, q1, rfl, rfl, rfl, h1, r1⟩ := trodAll_cons r0
  obtain ⟨rfl, rfl, rfl⟩ := trodAll_nil r1
  obtain rfl : args = #[v0, v1] := by cases args; simp_all
  obtain ⟨rfl, rfl⟩ := trodVars_none hV
  obtain ⟨a0, rfl, rfl, rfl, w0⟩ := open_string Try.underlying9 (hval 0 9 v0 rfl rfl) h0
  obtain ⟨a1, rfl, rfl, rfl, w1⟩ := open_int Try.underlying5 (hval 1 5 v1 rfl rfl) h1
  clear hA0 hval0
  simp only [List.append_nil] at hW'
  refine (walk a0 a1 w0 w1 W).mono fun e W' ⟨he, hg⟩ => ?_
  subst he
  exact ⟨_, rfl, post_of_same (pa := []) (pv := []) hW' (fun _ _ _ => (trodAll_cons_mk (shut_bool Try.underlying4 _) trodAll_mk0)) (fun sp _ => (trodAll_cons_mk (shut_string Try.underlying9 w0) (trodAll_cons_mk (shut_int Try.underlying5 w1) trodAll_mk0))) (fun _ _ => rfl) rfl
    (hg.frame _) hg.2.1 (ok_one (by kernel_rfl) rfl (okWide_bool_mk Try.underlying4 _))⟩

theorem over : Rows.fnvNextRow.holds Try.pinned (OpenSpec.ofChange Rows.fnvNextSpec) :=
  OpenClaim.holds_of_wide 4 Try.f4 rfl rfl rfl rfl rfl rfl rfl ⟨rfl, rfl, rfl, rfl, rfl⟩ rfl rfl rfl rfl rfl (by kernel_rfl) Try.func4 (by kernel_rfl)
    (of_decide_eq_true (by kernel_rfl)) (by unfold Func.isWrapper; first | (rw [if_pos (by decide +kernel)]; kernel_rfl) | (rw [if_neg (by decide +kernel)]; exact ⟨rfl, rfl⟩))
    (fun os started H enc _ => lifted os started H enc)

/-- The statement. -/
theorem proved : Rows.FnvNextSaid :=
  over
#print axioms proved
end Go.Proofs.Ytifahgjjjfmpbaa.fnvNext
