/- The walk of EtagTurned. -/
import Derived.Test.YtmlcphehejcmkaaTurnN
import Derived.IntWalk
namespace Go.Proofs.Ytmlcphehejcmkaa
open Go.RowKit

theorem and16 (n : Int) : bits .and .i64 n 65535 = n % 65536 := by
  have h255 : (BitVec.ofInt 64 65535).toNat = 2 ^ 16 - 1 := by decide
  have key : (BitVec.ofInt 64 n &&& BitVec.ofInt 64 65535).toNat = (n % ((2 ^ 64 : Nat) : Int)).toNat % 2 ^ 16 := by
    rw [BitVec.toNat_and, BitVec.toNat_ofInt, h255, Nat.and_two_pow_sub_one_eq_mod]
  show IntKind.i64.wrap ((BitVec.ofInt 64 n &&& BitVec.ofInt 64 65535).toNat : Nat) = n % 65536
  rw [key, IntKind.wrap_i64]
  omega
theorem and31 (n : Int) : bits .and .i64 n 31 = n % 32 := by
  have h31 : (BitVec.ofInt 64 31).toNat = 2 ^ 5 - 1 := by decide
  have key : (BitVec.ofInt 64 n &&& BitVec.ofInt 64 31).toNat = (n % ((2 ^ 64 : Nat) : Int)).toNat % 2 ^ 5 := by
    rw [BitVec.toNat_and, BitVec.toNat_ofInt, h31, Nat.and_two_pow_sub_one_eq_mod]
  show IntKind.i64.wrap ((BitVec.ofInt 64 n &&& BitVec.ofInt 64 31).toNat : Nat) = n % 32
  rw [key, IntKind.wrap_i64]
  omega

set_option maxHeartbeats 400000 in
theorem turn_none (v at_ by_ : Int) (w : World) (hv : v < 1) :
    Calls Try.prog 4 #[.int .i64 v, .int .i64 at_, .int .i64 by_] w fun e w' => e = .returned (.bool true) ∧ Fr [] w w' := by
  have hz : bs (showL v) = ⟨#[]⟩ := by rw [showL_zero hv]; rfl
  have HZ := Lib.hid hz
  clear hz
  go_enter Try.func4, Try.ntmps4
  go_wp2_with fail
  refine (first_true w).mono ?_
  rintro e w1 ⟨rfl, f1⟩
  go_wp2_with fail
  refine (show_any v w1 (by omega)).mono ?_
  rintro e w' ⟨rfl, rfl⟩
  rw [HZ.out]
  go_wp2_with fail
  go_ret
  exact ⟨rfl, f1⟩

theorem bs_cut (l : List UInt8) (a b : Nat) : (bs l).extract a b = bs ((l.take b).drop a) := by
  have h : ((bs l).extract a b).data.toList = ((l.take b).drop a) := by
    rw [Lib.extract_data, List.drop_take]
    simp [bs]
  generalize (bs l).extract a b = x at h
  obtain ⟨⟨x⟩⟩ := x
  simp [bs] at h ⊢
  exact h
/-- What stands ahead of a digit, and behind it. -/
theorem pieces {v : Int} (h1 : 1 ≤ v) {j q : Nat} (hj : j < (full v).length) :
    ∃ P1 P2 : ByteArray, (∀ w, (Instr.slice 9 (.string (bs (showL v))) none (some (.int .i64 (1 + (j : Int)))) none).run Try.prog w = .ok (.string P1) w) ∧
      (∀ w, (Instr.slice 9 (.string (bs (showL v))) (some (.int .i64 (1 + (j : Int) + 1))) none none).run Try.prog w = .ok (.string P2) w) ∧ P1.size ≤ (full v).length + 2 ∧ P2.size ≤ (full v).length + 2 ∧
      P1 ++ bs [dg q] ++ P2 = bs (34 :: (((full v).set j q).map dg ++ [34])) := by
  have hsz : (bs (showL v)).size = (full v).length + 2 := by rw [bs_size, showL_full h1]; simp
  refine ⟨(bs (showL v)).extract 0 (j + 1), (bs (showL v)).extract (j + 2) (bs (showL v)).size, fun w => ?_, fun w => ?_, ?_, ?_, ?_⟩
  · rw [run_slice_string_h w 9 _ Try.underlying9 .i64 _ (by omega) (by omega), show (1 + (j : Int)).toNat = j + 1 by omega]
  · rw [run_slice_string_l w 9 _ Try.underlying9 .i64 _ (by omega) (by omega), show (1 + (j : Int) + 1).toNat = j + 2 by omega]
  · rw [bs_cut, bs_size]; simp; omega
  · rw [bs_cut, bs_size]; simp; omega
  · rw [bs_cut, bs_cut, bs_app, bs_app, hsz, showL_full h1]
    congr 1
    have hml : ((full v).map dg).length = (full v).length := List.length_map ..
    rw [List.map_set]
    generalize (full v).map dg = M at hml
    rw [← hml] at hj ⊢
    have a1 : List.take (j + 1) (34 :: (M ++ [34])) = 34 :: M.take j := by rw [List.take_succ_cons, List.take_append_of_le_length (by omega)]
    have a2 : List.take (M.length + 2) (34 :: (M ++ [34])) = 34 :: (M ++ [34]) := List.take_of_length_le (by simp)
    have a3 : List.drop (j + 2) (34 :: (M ++ [34])) = M.drop (j + 1) ++ [34] := by rw [List.drop_succ_cons, List.drop_append_of_le_length (by omega)]
    rw [List.drop_zero, a1, a2, a3, List.set_eq_take_append_cons_drop, if_pos hj]
    simp

set_option maxRecDepth 100000 in
set_option maxHeartbeats 4000000 in
theorem turn_in (v at_ by_ : Int) (w : World) (h1 : 1 ≤ v) (hv : v ≤ 9223372036854775807) (C q j x : Nat) (hC : bits .and .i64 at_ 65535 = (C : Int)) (hq : bits .and .i64 by_ 31 = (q : Int)) (hq2 : q < 32)
    (hm : (C : Int) % (((full v).length : Nat) : Int) = (j : Int)) (hx : (full v)[j]? = some x) :
    Calls Try.prog 4 #[.int .i64 v, .int .i64 at_, .int .i64 by_] w fun e w' => e = .returned (.bool true) ∧ Fr [] w w' := by
  have hsz : (bs (showL v)).size = (full v).length + 2 := by rw [bs_size, showL_full h1]; simp
  have hjl := (List.getElem?_eq_some_iff.1 hx).1
  have hx32 : x < 32 := full_lt v x (List.mem_of_getElem? hx)
  have z4 := (show_at h1).1
  have zs := show_size hv
  have hxt : ∀ h, (bs (showL v))[j + 1]'h = dg x := by
    intro h
    refine bs_at _ (j + 1) _ ?_ h
    rw [showL_full h1, List.getElem?_cons_succ, List.getElem?_append_left (by simpa using hjl)]
    simp [hx]
  have rk := run_at (bs (showL v)) (j + 1) (by omega) (1 + (j : Int)) (by omega)
  rw [hxt] at rk
  obtain ⟨P1, P2, p1, p2, l1, l2, hcat⟩ := pieces (q := q) h1 hjl
  have hno : Hid ((x : Int) % 31 ≠ (q : Int) % 31 → verOf (P1 ++ bs [dg q] ++ P2) = 0) := Lib.hid (by
    intro hne
    rw [hcat]
    exact verOf_no (turned_no hx hq2 (by omega)))
  clear hcat
  generalize hT : bs (showL v) = T at hsz z4 zs rk p1 p2
  generalize hn : (full v).length = n at hsz hm hjl
  have HT := Lib.hid hT
  have hc0 : 0 ≤ (C : Int) := by omega
  have HN := Lib.hid hn
  have hts : (T.size : Int) - 2 = (n : Int) := by omega
  clear hT hn hxt
  go_enter Try.func4, Try.ntmps4
  go_wp2_with fail
  refine (first_true w).mono ?_
  rintro e w1 ⟨rfl, f1⟩
  go_wp2_with fail
  refine (show_any v w1 (by omega)).mono ?_
  rintro e w' ⟨rfl, rfl⟩
  rw [HT.out]
  go_wp2_with fail
  have hnb : n ≤ 16 := by omega
  have hjb : (j : Int) < 16 := by omega
  clear hsz hm hC hts z4
  go_loopw [10, 11] (fun p i wr => ∃ k m : Nat, k ≤ 32 ∧ i = .int .i64 k ∧ p = .int .i64 (if x < k then (x : Int) else -1) ∧ wr = w1.drewN m) (fun _ i _ => 32 - (intOf i).toNat)
  case atStart => exact ⟨0, 0, by omega, rfl, by simp, rfl⟩
  case round =>
    obtain ⟨k, m, hk, rfl, rfl, rfl⟩ := hrel
    by_cases hlt : k < 32
    · have ri := run_at ⟨#[48, 49, 50, 51, 52, 53, 54, 55, 56, 57, 97, 98, 99, 100, 101, 102, 103, 104, 106, 107, 109, 110, 112, 113, 114, 115, 116, 118, 119, 120, 121, 122]⟩ k (show k < 32 from hlt) (k : Int) rfl
      have hd := D_at k hlt hlt
      rw [show (⟨#[48, 49, 50, 51, 52, 53, 54, 55, 56, 57, 97, 98, 99, 100, 101, 102, 103, 104, 106, 107, 109, 110, 112, 113, 114, 115, 116, 118, 119, 120, 121, 122]⟩ : ByteArray)[k]'hlt = dg k from hd] at ri
      have hk1 : (k : Int) < 32 := by omega
      clear hd
      by_cases he : x = k
      · subst he
        have hp : Hid ((if x < x + 1 then (x : Int) else -1) = x) := Lib.hid (by simp)
        go_wp2
        go_quiet (fail)
        go_wp2
        go_roundw
        case rel => exact ⟨x + 1, m + nq, by omega, by go_num, by rw [hp.out], rfl⟩
        case measure => simp [intOf]; omega
      · have hne : (((dg k).toNat : Int) == ((dg x).toNat : Int)) = false := by
          simp only [beq_eq_false_iff_ne, ne_eq]
          intro h
          exact he (dg_inj hx32 hlt (UInt8.toNat_inj.1 (by omega)))
        have hp : Hid ((if x < k + 1 then (x : Int) else -1) = if x < k then (x : Int) else -1) := Lib.hid (by
          by_cases hxk : x < k
          · rw [if_pos hxk, if_pos (by omega)]
          · rw [if_neg hxk, if_neg (by omega)])
        generalize (if x < k then (x : Int) else -1) = P at hp
        clear he
        go_wp2
        go_quiet (fail)
        go_wp2
        go_roundw
        case rel => exact ⟨k + 1, m + nq, by omega, by go_num, by rw [hp.out], rfl⟩
        case measure => simp [intOf]; omega
    · obtain rfl : 32 = k := by omega
      rw [if_pos hx32]
      have f2 := f1.drewN m
      obtain ⟨W, hW⟩ : ∃ W, W = w1.drewN m := ⟨_, rfl⟩
      rw [← hW] at f2 ⊢
      clear hW
      by_cases hqx : (x : Int) % 31 = (q : Int) % 31
      · have e1 : ((x : Int) % 31 == (q : Int) % 31) = true := by simpa using hqx
        clear hqx hno
        go_wp2
        go_ret
        exact ⟨rfl, f2⟩
      · have e1 : ((x : Int) % 31 == (q : Int) % 31) = false := by simpa using hqx
        have hv0 := hno.out hqx
        have HV := Lib.hid hv0
        clear hqx hno hv0
        have rd := run_digit q hq2 (q : Int) ((q : Int) + 1) rfl rfl
        have w1' : IntKind.i64.wrap ((q : Int) + 1) = (q : Int) + 1 := IntWalk.i64_in _ (by omega)
        have w2' : IntKind.i64.wrap (1 + (j : Int) + 1) = 1 + (j : Int) + 1 := IntWalk.i64_in _ (by omega)
        have hsd : (bs [dg q]).size ≤ 1 := by rw [bs_size]; simp
        generalize bs [dg q] = Q at rd hsd HV
        have hfl : P1.size ≤ 18 := by have := HN.out; omega
        have hfl2 : P2.size ≤ 18 := by have := HN.out; omega
        have c1 : ∀ w, (Op.stringOp .add P1 Q).run Try.prog w = .ok (.string (P1 ++ Q)) w := fun w => run_string_add_sum w P1 Q (by omega)
        have c2 : ∀ w, (Op.stringOp .add (P1 ++ Q) P2).run Try.prog w = .ok (.string (P1 ++ Q ++ P2)) w := fun w => run_string_add_sum w (P1 ++ Q) P2 (by simp; omega)
        have hpar := Lib.hid (fun w => parse_any (P1 ++ Q ++ P2) w (by unfold maxLen; simp; omega))
        rw [HV.out, show ((0 : Int) != 0) = false from rfl] at hpar
        go_wp2
        go_quiet ((go_at_call 8; exact quiet_same (hpar.out _)))
        go_wp2
        go_ret
        exact ⟨rfl, f2.drewN _⟩

theorem turn_all (v at_ by_ : Int) (w : World) (hv : v ≤ 9223372036854775807) :
    Calls Try.prog 4 #[.int .i64 v, .int .i64 at_, .int .i64 by_] w fun e w' => e = .returned (.bool true) ∧ Fr [] w w' := by
  by_cases h1 : v < 1
  · exact turn_none v at_ by_ w h1
  · have hn : 0 < (full v).length := by simp [full]
    obtain ⟨C, hC⟩ : ∃ C : Nat, bits .and .i64 at_ 65535 = (C : Int) := ⟨(at_ % 65536).toNat, by rw [and16]; omega⟩
    obtain ⟨q, hq, hq2⟩ : ∃ q : Nat, bits .and .i64 by_ 31 = (q : Int) ∧ q < 32 := ⟨(by_ % 32).toNat, by rw [and31]; omega, by omega⟩
    have hj : C % (full v).length < (full v).length := Nat.mod_lt _ hn
    exact turn_in v at_ by_ w (by omega) hv C q (C % (full v).length) _ hC hq hq2 (by simp) (List.getElem?_eq_getElem hj)
end Go.Proofs.Ytmlcphehejcmkaa
