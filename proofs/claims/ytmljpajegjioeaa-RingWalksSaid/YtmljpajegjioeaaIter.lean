/- The two iterators of a ring, as contracts of a range over a function. -/
import Derived.Test.YtmljpajegjioeaaRound
namespace Go.Proofs.Ytmljpajegjioeaa
open Go.RowKit Go.Shelf
attribute [local go_sem] Oper.semAt_some

/-- What a round must keep: all below n₀, and block b. -/
def Kq (n₀ b : Nat) (W W' : World) : Prop := Below n₀ W W' ∧ (b < W.heap.size → W'.heap[b]? = W.heap[b]?)
theorem Kq.trans {n₀ b : Nat} {A B C : World} (h : Kq n₀ b A B) (k : Kq n₀ b B C) : Kq n₀ b A C :=
  ⟨h.1.trans k.1, fun hb => (k.2 (Nat.lt_of_lt_of_le hb h.1.size)).trans (h.2 hb)⟩
theorem Kq.refl (n₀ b : Nat) (W : World) : Kq n₀ b W W := ⟨Below.refl _ _, fun _ => rfl⟩
theorem Kq.cell {n₀ b : Nat} {W W' : World} (h : Kq n₀ b W W') {o : Nat} {v : Value} (hc : W.cell? ⟨b, o, none⟩ = some v) : W'.cell? ⟨b, o, none⟩ = some v :=
  (World.cell?_of_block (w := W) (h.2 (block_lt_of_cell hc))).trans hc

/-- The first k of the pairs (0, zs[0]), (1, zs[1]), .. -/
def prs (zs : List Int) (k : Nat) : List (Nat × Int) := (List.range k).map fun j => (j, zs[j]?.getD 0)
theorem prs_succ (zs : List Int) (k : Nat) : prs zs (k + 1) = prs zs k ++ [(k, zs[k]?.getD 0)] := by simp [prs, List.range_succ]
theorem prs_length (zs : List Int) (k : Nat) : (prs zs k).length = k := by simp [prs]
/-- The last k, the last one first. -/
def bks (zs : List Int) (k : Nat) : List Int := (List.range k).map fun j => zs[zs.length - 1 - j]?.getD 0
theorem bks_succ (zs : List Int) (k : Nat) : bks zs (k + 1) = bks zs k ++ [zs[zs.length - 1 - k]?.getD 0] := by simp [bks, List.range_succ]
theorem bks_length (zs : List Int) (k : Nat) : (bks zs k).length = k := by simp [bks]

set_option maxRecDepth 100000 in
set_option maxHeartbeats 2000000 in
theorem all1_in (F : Fence) (n : Nat) (h18 : F.fn 18) (hro : F.round = none) (hn : 1 ≤ n) (l Bs r n₀ g cap : Nat) (zs : List Int) (hlen : zs.length ≤ 1000) (hg : g < n₀) (J Jx : List (Nat × Int) → World → Prop)
    (hY : ∀ pre x W, J pre W → pre.length < zs.length → YieldAt F (n - 1) Try.prog l #[.int .i64 (x.1 : Int), .int .i64 x.2] W fun e W' =>
      (e = .returned (.bool true) ∧ J (pre ++ [x]) W' ∧ Kq n₀ Bs W W') ∨ (e = .returned (.bool false) ∧ Jx (pre ++ [x]) W'))
    (W : World) (hBs : W.cell? ⟨Bs, 0, none⟩ = some (.pointer (some ⟨r, 0, none⟩))) (hr : W.cell? ⟨r, 1, none⟩ = some (.slice (some ⟨g, 0, none⟩) zs.length cap)) (hc : ∀ j, j < zs.length → W.cell? ⟨g, j, none⟩ = some (.int .i64 (zs[j]?.getD 0))) (h0 : J [] W) :
    CallsIn F n Try.prog 18 #[.func (.yield l) #[] #[], .pointer (some ⟨Bs, 0, none⟩)] W fun e W' => (∃ v, e = .returned v) ∧
      ((∃ ys, ys = prs zs zs.length ∧ J ys W') ∨ (∃ pre, (∃ k, k ≤ zs.length ∧ pre = prs zs k) ∧ Jx pre W')) := by
  refine callsIn_of_wp Try.func18 rfl h18 ?_ hro
  simp only [Try.ntmps18, List.size_toArray, List.length_cons, List.length_nil, Nat.reduceAdd, Nat.reduceSub, Array.replicate_succ, Array.replicate_zero, List.push_toArray, List.append_toArray, List.nil_append, List.cons_append]
  gi_wp2
  gi_loopw [3, 4, 10] (fun _ _ i wr => ∃ k : Nat, k ≤ zs.length ∧ i = .int .i64 k ∧ J (prs zs k) wr ∧ Kq n₀ Bs W wr)
    (fun _ _ i _ => zs.length - (intOf i).toNat)
  case atStart => exact ⟨0, Nat.zero_le _, rfl, h0, Kq.refl _ _ _⟩
  case round =>
    obtain ⟨k, hk, rfl, hJs, hnx⟩ := hrel
    have hcx : k < zs.length → wr.cell? ⟨g, k, none⟩ = some (.int .i64 (zs[k]?.getD 0)) := fun h => (hnx.1.cell (p := ⟨g, k, none⟩) hg).trans (hc k h)
    by_cases hlt : k < zs.length
    · have hcx' := hcx hlt
      obtain ⟨x, hx⟩ : ∃ x, x = zs[k]?.getD 0 := ⟨_, rfl⟩
      rw [← hx] at hcx'
      have hs : Hid (prs zs (k + 1) = prs zs k ++ [(k, x)]) := Lib.hid (by rw [prs_succ, hx])
      obtain ⟨fn, tmps, assign, body, hy, hR⟩ := hY _ (k, x) wr hJs (by rw [prs_length]; exact hlt)
      dsimp only at hy
      clear hx hcx
      gi_wp2
      refine hR.mono ?_
      rintro e W3 (⟨rfl, hJ3, hk3⟩ | ⟨rfl, hJx3⟩)
      · gi_wp2
        go_roundw
        case rel => exact ⟨k + 1, by omega, by simp, by rw [hs.out]; exact hJ3, hnx.trans hk3⟩
        case measure => simp [intOf]; omega
      · gi_wp2
        refine bodyPost_ret (results_none rfl _ _ _) rfl ?_
        exact ⟨⟨_, rfl⟩, .inr ⟨_, ⟨k + 1, by omega, hs.out.symm⟩, hJx3⟩⟩
    · obtain rfl : k = zs.length := by omega
      gi_wp2
      go_end0
      exact ⟨⟨_, rfl⟩, .inl ⟨_, rfl, hJs⟩⟩

set_option maxRecDepth 100000 in
set_option maxHeartbeats 1000000 in
/-- .. of a ring of nothing: no round. -/
theorem all1_nil_in (F : Fence) (n : Nat) (h18 : F.fn 18) (hro : F.round = none) (l Bs r : Nat) (J : List (Nat × Int) → World → Prop) (W : World) (hBs : W.cell? ⟨Bs, 0, none⟩ = some (.pointer (some ⟨r, 0, none⟩))) (hr : W.cell? ⟨r, 1, none⟩ = some (.slice none 0 0)) (h0 : J [] W) :
    CallsIn F n Try.prog 18 #[.func (.yield l) #[] #[], .pointer (some ⟨Bs, 0, none⟩)] W fun e W' => (∃ v, e = .returned v) ∧ J [] W' := by
  refine callsIn_of_wp Try.func18 rfl h18 ?_ hro
  simp only [Try.ntmps18, List.size_toArray, List.length_cons, List.length_nil, Nat.reduceAdd, Nat.reduceSub, Array.replicate_succ, Array.replicate_zero, List.push_toArray, List.append_toArray, List.nil_append, List.cons_append]
  gi_wp2
  gi_loopw [3, 4, 10] (fun _ _ i wr => i = .int .i64 0 ∧ J [] wr) (fun _ _ _ _ => 0)
  case atStart => exact ⟨rfl, h0⟩
  case round =>
    obtain ⟨rfl, hJs⟩ := hrel
    gi_wp2
    go_end0
    exact ⟨⟨_, rfl⟩, hJs⟩

set_option maxRecDepth 100000 in
set_option maxHeartbeats 2000000 in
theorem back1_in (F : Fence) (n : Nat) (h19 : F.fn 19) (hro : F.round = none) (hn : 1 ≤ n) (l Bs r n₀ g cap : Nat) (zs : List Int) (hlen : zs.length ≤ 1000) (hg : g < n₀) (hrn : r < n₀) (J Jx : List Int → World → Prop)
    (hY : ∀ pre x W, J pre W → pre.length < zs.length → YieldAt F (n - 1) Try.prog l #[.int .i64 x] W fun e W' =>
      (e = .returned (.bool true) ∧ J (pre ++ [x]) W' ∧ Kq n₀ Bs W W') ∨ (e = .returned (.bool false) ∧ Jx (pre ++ [x]) W'))
    (W : World) (hBs : W.cell? ⟨Bs, 0, none⟩ = some (.pointer (some ⟨r, 0, none⟩))) (hr : W.cell? ⟨r, 1, none⟩ = some (.slice (some ⟨g, 0, none⟩) zs.length cap)) (hc : ∀ j, j < zs.length → W.cell? ⟨g, j, none⟩ = some (.int .i64 (zs[j]?.getD 0))) (h0 : J [] W) :
    CallsIn F n Try.prog 19 #[.func (.yield l) #[] #[], .pointer (some ⟨Bs, 0, none⟩)] W fun e W' => (∃ v, e = .returned v) ∧
      ((∃ ys, ys = bks zs zs.length ∧ J ys W') ∨ (∃ pre, (∃ k, k ≤ zs.length ∧ pre = bks zs k) ∧ Jx pre W')) := by
  refine callsIn_of_wp Try.func19 rfl h19 ?_ hro
  simp only [Try.ntmps19, List.size_toArray, List.length_cons, List.length_nil, Nat.reduceAdd, Nat.reduceSub, Array.replicate_succ, Array.replicate_zero, List.push_toArray, List.append_toArray, List.nil_append, List.cons_append]
  gi_wp2
  gi_loopw [3] (fun i wr => ∃ k : Nat, k ≤ zs.length ∧ i = .int .i64 ((zs.length : Int) - 1 - k) ∧ J (bks zs k) wr ∧ Kq n₀ Bs W wr)
    (fun i _ => (intOf i + 1).toNat)
  case atStart => exact ⟨0, Nat.zero_le _, by simp, h0, Kq.refl _ _ _⟩
  case round =>
    obtain ⟨k, hk, rfl, hJs, hnx⟩ := hrel
    by_cases hlt : k < zs.length
    · obtain ⟨i, hi⟩ : ∃ i : Nat, i = zs.length - 1 - k := ⟨_, rfl⟩
      have hi2 : (zs.length : Int) - 1 - k = (i : Int) := by omega
      rw [hi2]
      have hcx : wr.cell? ⟨g, i, none⟩ = some (.int .i64 (zs[i]?.getD 0)) := (hnx.1.cell (p := ⟨g, i, none⟩) hg).trans (hc i (by omega))
      have hBx := hnx.cell hBs
      have hrx : wr.cell? ⟨r, 1, none⟩ = some (.slice (some ⟨g, 0, none⟩) zs.length cap) := (hnx.1.cell (p := ⟨r, 1, none⟩) hrn).trans hr
      obtain ⟨x, hx⟩ : ∃ x, x = zs[i]?.getD 0 := ⟨_, rfl⟩
      rw [← hx] at hcx
      obtain ⟨fn, tmps, assign, body, hy, hR⟩ := hY _ x wr hJs (by rw [bks_length]; exact hlt)
      have hil : (i : Int) < (zs.length : Int) := by omega
      have hs : Hid (bks zs (k + 1) = bks zs k ++ [x]) := Lib.hid (by rw [bks_succ, hx, hi])
      clear hx
      have HI := Lib.hid hi
      clear hi hi2
      gi_wp2
      refine hR.mono ?_
      rintro e W3 (⟨rfl, hJ3, hk3⟩ | ⟨rfl, hJx3⟩)
      · gi_wp2
        go_roundw
        case rel => exact ⟨k + 1, by omega, by have := HI.out; apply int_eq; omega, by rw [hs.out]; exact hJ3, hnx.trans hk3⟩
        case measure => simp [intOf]
      · gi_wp2
        refine bodyPost_ret (results_none rfl _ _ _) rfl ?_
        exact ⟨⟨_, rfl⟩, .inr ⟨_, ⟨k + 1, by omega, hs.out.symm⟩, hJx3⟩⟩
    · obtain rfl : k = zs.length := by omega
      rw [show (zs.length : Int) - 1 - zs.length = -1 by omega]
      gi_wp2
      go_end0
      exact ⟨⟨_, rfl⟩, .inl ⟨_, rfl, hJs⟩⟩

set_option maxRecDepth 100000 in
set_option maxHeartbeats 1000000 in
/-- .. of a ring of nothing: no round. -/
theorem back1_nil_in (F : Fence) (n : Nat) (h19 : F.fn 19) (hro : F.round = none) (l Bs r : Nat) (J : List Int → World → Prop) (W : World) (hBs : W.cell? ⟨Bs, 0, none⟩ = some (.pointer (some ⟨r, 0, none⟩))) (hr : W.cell? ⟨r, 1, none⟩ = some (.slice none 0 0)) (h0 : J [] W) :
    CallsIn F n Try.prog 19 #[.func (.yield l) #[] #[], .pointer (some ⟨Bs, 0, none⟩)] W fun e W' => (∃ v, e = .returned v) ∧ J [] W' := by
  refine callsIn_of_wp Try.func19 rfl h19 ?_ hro
  simp only [Try.ntmps19, List.size_toArray, List.length_cons, List.length_nil, Nat.reduceAdd, Nat.reduceSub, Array.replicate_succ, Array.replicate_zero, List.push_toArray, List.append_toArray, List.nil_append, List.cons_append]
  gi_wp2
  gi_loopw [3] (fun i wr => i = .int .i64 (-1) ∧ J [] wr) (fun _ _ => 0)
  case atStart => exact ⟨rfl, h0⟩
  case round =>
    obtain ⟨rfl, hJs⟩ := hrel
    gi_wp2
    go_end0
    exact ⟨⟨_, rfl⟩, hJs⟩

set_option maxHeartbeats 1000000 in
theorem all_any (w : World) (r : Nat) : Calls Try.prog 16 #[.pointer (some ⟨r, 0, none⟩)] w fun e w' => e = .returned (.func (.func 18) #[] #[.pointer (some ⟨w.heap.size, 0, none⟩)]) ∧ w' = w.alloc (.cells #[.pointer (some ⟨r, 0, none⟩)] 24) := by
  go_enter Try.func16, Try.ntmps16
  go_wp2
  go_ret
  exact ⟨rfl, rfl⟩
set_option maxHeartbeats 1000000 in
theorem backs_any (w : World) (r : Nat) : Calls Try.prog 17 #[.pointer (some ⟨r, 0, none⟩)] w fun e w' => e = .returned (.func (.func 19) #[] #[.pointer (some ⟨w.heap.size, 0, none⟩)]) ∧ w' = w.alloc (.cells #[.pointer (some ⟨r, 0, none⟩)] 24) := by
  go_enter Try.func17, Try.ntmps17
  go_wp2
  go_ret
  exact ⟨rfl, rfl⟩

/-- What an iterator of the ring reads, all below n₀, in every later world. -/
theorem ring_reads {w W : World} {r n₀ : Nat} {most : Int} {v : Value} {xs : List Int} {own : Option Nat} (h : RI.RingAt w r most v xs own) (hr : r < n₀) (ho : ∀ g, own = some g → g < n₀) (hW : Below n₀ w W) :
    (v = .slice none 0 0 ∧ xs = [] ∧ W.cell? ⟨r, 1, none⟩ = some (.slice none 0 0)) ∨
    ∃ g cap, g < n₀ ∧ W.cell? ⟨r, 1, none⟩ = some (.slice (some ⟨g, 0, none⟩) xs.length cap) ∧ ∀ j, j < xs.length → W.cell? ⟨g, j, none⟩ = some (.int .i64 (xs[j]?.getD 0)) := by
  obtain ⟨hp, ⟨_, rfl, rfl⟩ | ⟨g, cap, rfl, rfl, hrow⟩⟩ := h
  · exact .inl ⟨rfl, rfl, (hW.cell (p := ⟨r, 1, none⟩) hr).trans (hp.cell 1)⟩
  · refine .inr ⟨g, cap, ho g rfl, (hW.cell (p := ⟨r, 1, none⟩) hr).trans (hp.cell 1), fun j hj => ?_⟩
    refine (hW.cell (p := ⟨g, j, none⟩) (ho g rfl)).trans (hrow.cell ?_)
    simp [hj, RI.ci]
theorem all_stops (F : Fence) (n : Nat) (h18 : F.fn 18) (hro : F.round = none) (hn : 1 ≤ n) (Bs r n₀ : Nat) (most : Int) (v : Value) (xs : List Int) (own : Option Nat) (hlen : xs.length ≤ 1000) (w : World) (hB : w.cell? ⟨Bs, 0, none⟩ = some (.pointer (some ⟨r, 0, none⟩))) (hn₀ : n₀ ≤ w.heap.size)
    (h : RI.RingAt w r most v xs own) (hr : r < n₀) (ho : ∀ g, own = some g → g < n₀) :
    SeqStopsK F n Try.prog 18 #[.pointer (some ⟨Bs, 0, none⟩)] (fun x : Nat × Int => #[Value.int .i64 (x.1 : Int), Value.int .i64 x.2]) (Kq n₀ Bs) (fun ys => ys = prs xs xs.length) (fun pre => ∃ k, k ≤ xs.length ∧ pre = prs xs k) xs.length w := fun l J Jx W hW _ _ hY h0 => by
  have hBx : W.cell? ⟨Bs, 0, none⟩ = some (.pointer (some ⟨r, 0, none⟩)) := (hW.cell (p := ⟨Bs, 0, none⟩) (block_lt_of_cell hB)).trans hB
  rcases ring_reads h hr ho (hW.mono hn₀) with ⟨_, rfl, hr1⟩ | ⟨g, cap, hg, hr1, hc⟩
  · exact (all1_nil_in F n h18 hro l Bs r J W hBx hr1 h0).mono fun e W' ⟨he, hj⟩ => ⟨he, .inl ⟨_, rfl, hj⟩⟩
  · exact all1_in F n h18 hro hn l Bs r n₀ g cap xs hlen hg J Jx hY W hBx hr1 hc h0
theorem back_stops (F : Fence) (n : Nat) (h19 : F.fn 19) (hro : F.round = none) (hn : 1 ≤ n) (Bs r n₀ : Nat) (most : Int) (v : Value) (xs : List Int) (own : Option Nat) (hlen : xs.length ≤ 1000) (w : World) (hB : w.cell? ⟨Bs, 0, none⟩ = some (.pointer (some ⟨r, 0, none⟩))) (hn₀ : n₀ ≤ w.heap.size)
    (h : RI.RingAt w r most v xs own) (hr : r < n₀) (ho : ∀ g, own = some g → g < n₀) :
    SeqStopsK F n Try.prog 19 #[.pointer (some ⟨Bs, 0, none⟩)] (fun x : Int => #[Value.int .i64 x]) (Kq n₀ Bs) (fun ys => ys = bks xs xs.length) (fun pre => ∃ k, k ≤ xs.length ∧ pre = bks xs k) xs.length w := fun l J Jx W hW _ _ hY h0 => by
  have hBx : W.cell? ⟨Bs, 0, none⟩ = some (.pointer (some ⟨r, 0, none⟩)) := (hW.cell (p := ⟨Bs, 0, none⟩) (block_lt_of_cell hB)).trans hB
  rcases ring_reads h hr ho (hW.mono hn₀) with ⟨_, rfl, hr1⟩ | ⟨g, cap, hg, hr1, hc⟩
  · exact (back1_nil_in F n h19 hro l Bs r J W hBx hr1 h0).mono fun e W' ⟨he, hj⟩ => ⟨he, .inl ⟨_, rfl, hj⟩⟩
  · exact back1_in F n h19 hro hn l Bs r n₀ g cap xs hlen hg hr J Jx hY W hBx hr1 hc h0
end Go.Proofs.Ytmljpajegjioeaa
