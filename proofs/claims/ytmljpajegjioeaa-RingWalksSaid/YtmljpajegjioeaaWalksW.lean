/- The walk of RingWalks. -/
import Derived.Test.YtmljpajegjioeaaEnds
import Derived.Outline
import Derived.Lib.MinMax
import Derived.Deep.QuietTactic
import Derived.BigQuiet
namespace Go.Proofs.Ytmljpajegjioeaa
open Go.RowKit Go.Shelf
attribute [local go_sem] Oper.semAt_some

set_option maxRecDepth 100000 in
set_option maxHeartbeats 4000000 in
theorem walks_walk (w : World) (most stop : Int) (a : Option Addr) (len cap : Nat) (L : Nat → Int) (hA : IntsAt w w.heap.size a len L) (hl : len ≤ 80) (hm2 : most ≤ 9223372036854775807) :
    Calls Try.prog 6 #[.int .i64 most, .slice a len cap, .int .i64 stop] w fun e w' => e = .returned (.bool true) ∧ Fr [] w w' := by
  obtain ⟨i2, hi, hz0, hz1, hz2⟩ := info_parts RI.info
  obtain ⟨B, hB⟩ : ∃ B, w.heap.size = B := ⟨_, rfl⟩
  rw [hB] at hA
  have q0 := Holds.new w 3 #[.int .i64 stop]
  have f0 : Fr [] w (w.alloc (.cells #[.int .i64 stop] 3)) := (Fr.refl _ _).alloc _
  obtain ⟨M, hM⟩ : ∃ M : Nat, (M : Int) = max most 1 := ⟨(max most 1).toNat, by omega⟩
  have hM1 : 1 ≤ M := by omega
  refine (callsIn_wide (n := 8)).1 ?_
  refine callsIn_of_wp_marks Try.func6 rfl trivial ?_ rfl
  simp only [Try.ntmps6, List.size_toArray, List.length_cons, List.length_nil, Nat.reduceAdd, Nat.reduceSub, Array.replicate_succ, Array.replicate_zero, List.push_toArray, List.append_toArray, List.nil_append, List.cons_append]
  refine wpIn_wide.2 ?_
  go_wp2_with fail
  refine (first_true _).mono ?_
  rintro e w1 ⟨rfl, f1⟩
  have q1 := q0.fr f1 (by simp)
  have r1 := f0.trans f1
  rw [hB] at q1
  have hA1 := hA.fr r1 (by omega) (by simp)
  clear q0 f0 f1 hA
  go_wp2_with fail
  refine (RI.new_any most w1).mono ?_
  rintro e w2 ⟨r, rfl, hr, p2, f2⟩
  rw [← hM] at p2
  have q2 := q1.fr f2 (by simp)
  have r2 := r1.trans f2
  have hA2 := hA1.fr f2 (by have := r1.size; omega) (by simp)
  have hbr : B < r := Nat.lt_of_lt_of_le q1.lt hr
  have HB := Lib.hid hB
  have HM := Lib.hid hM
  clear hB hM q1 r1 f2 hA1 hr
  go_wp2_with fail
  go_loopw [8] (fun i wr => ∃ (k : Nat) (v : Value) (own : Option Nat), k ≤ len ∧ i = .int .i64 k ∧ RI.RingAt wr r (M : Int) v (win L (k - M) (min k M)) own ∧ (∀ g, g ∈ own.toList → r ≤ g) ∧ Holds wr B 3 #[.int .i64 stop] ∧ Fr [] w wr ∧ IntsAt wr B a len L) (fun i _ => len - (intOf i).toNat)
  case atStart => exact ⟨0, _, none, Nat.zero_le _, rfl, by simpa [win_zero] using p2, by simp, q2, r2, hA2⟩
  case round =>
    obtain ⟨k, v, own, hk, rfl, p, ho, q, r0, hA⟩ := hrel
    clear p2 q2 r2 hA2
    have HO := Lib.hid ho
    clear ho
    by_cases hlt : k < len
    · obtain ⟨b, off, rfl, hb, hc⟩ := hA (by omega)
      have hck := hc k hlt
      clear hc
      go_wp2_with fail
      refine (pushI_next wr r M k v own L p hM1 (.inr (by omega)) (by omega)).mono ?_
      rintro e w4 ⟨_, _, v4, o4, rfl, p4, f4, h4⟩
      have ho4 := own_next HO.out (Nat.le_of_lt p.1.lt) h4
      have q4 := q.fr f4 (by intro hx; have := cons_all (Nat.le_refl r) HO.out B hx; omega)
      have hszB : B ≤ wr.heap.size := by have := r0.size; have := HB.out; omega
      have hrB : ∀ g, g ∈ r :: own.toList → B ≤ g := fun g hg => by have := cons_all (Nat.le_refl r) HO.out g hg; omega
      have hA4 := hA.fr f4 hszB hrB
      have r4 := r0.step f4 (fun g hg => .inr (by have := hrB g hg; have := HB.out; omega))
      have HO4 := Lib.hid ho4
      clear ho4 h4 p q hck HO r0 hA f4 hrB
      go_wp2_with fail
      go_roundw
      case rel => exact ⟨k + 1, v4, o4, by omega, by go_num, p4, HO4.out, q4, r4, hA4⟩
      case measure => simp [intOf]; omega
    · obtain rfl : len = k := by omega
      obtain ⟨xs, hxs⟩ : ∃ xs, xs = win L (len - M) (min len M) := ⟨_, rfl⟩
      rw [← hxs] at p
      have hxl : xs.length ≤ 80 := by rw [hxs, win_length]; omega
      have HXS := Lib.hid hxs
      clear hxs
      obtain ⟨wo, rfl⟩ : ∃ wo : World, wo = wr := ⟨_, rfl⟩
      obtain ⟨C, hC⟩ : ∃ C, C = wo.heap.size := ⟨_, rfl⟩
      have s0 : St w ((((wo.alloc (.cells #[.slice none 0 0] 22)).alloc (.cells #[.slice none 0 0] 22)).alloc (.cells #[.int .i64 0] 3)).alloc (.cells #[.int .i64 0] 3)) B C r M v xs own stop a len L (.slice none 0 0) (.slice none 0 0) [] [] none none := by
        have f : Fr [] wo ((((wo.alloc (.cells #[.slice none 0 0] 22)).alloc (.cells #[.slice none 0 0] 22)).alloc (.cells #[.int .i64 0] 3)).alloc (.cells #[.int .i64 0] 3)) := ((((Fr.refl _ _).alloc _).alloc _).alloc _).alloc _
        have b1 := Holds.new wo 22 #[.slice none 0 0]
        have b2 := Holds.new (wo.alloc (.cells #[.slice none 0 0] 22)) 22 #[.slice none 0 0]
        have b3 := Holds.new ((wo.alloc (.cells #[.slice none 0 0] 22)).alloc (.cells #[.slice none 0 0] 22)) 3 #[.int .i64 0]
        have b4 := Holds.new (((wo.alloc (.cells #[.slice none 0 0] 22)).alloc (.cells #[.slice none 0 0] 22)).alloc (.cells #[.int .i64 0] 3)) 3 #[.int .i64 0]
        simp only [World.size_alloc, ← hC] at b1 b2 b3 b4
        exact { ring := p.fr f (by simp) (by simp), stp := q.fr f (by simp), ins := hA.fr f (by have := r0.size; have := HB.out; omega) (by simp), ba := ((b1.alloc _).alloc _).alloc _, bb := (b2.alloc _).alloc _, bn := b3.alloc _, bf := b4, sa := Sl.nil _ _ _, sb := Sl.nil _ _ _, ma := by simp, mb := by simp, na := by simp, nb := by simp, nab := by simp, fr := r0.trans f, wB := HB.out, Br := hbr, rC := by rw [hC]; exact p.1.lt, oC := fun g hg => by rw [hC]; exact p.own_lt g (by simp [hg]), oB := fun g hg => HO.out g (by simp [hg]) }
      go_wp2_with fail
      refine (all_any _ r).mono ?_
      rintro e w6 ⟨rfl, rfl⟩
      go_wp2_with fail
      rw [← hC]
      obtain ⟨W0, hW0⟩ : ∃ W0, W0 = ((((wo.alloc (.cells #[.slice none 0 0] 22)).alloc (.cells #[.slice none 0 0] 22)).alloc (.cells #[.int .i64 0] 3)).alloc (.cells #[.int .i64 0] 3)) := ⟨_, rfl⟩
      have hsz0 : W0.heap.size = C + 1 + 1 + 1 + 1 := by rw [hW0]; simp [hC]
      rw [← hW0] at s0 ⊢
      have bx := Holds.new W0 24 #[.pointer (some ⟨r, 0, none⟩)]
      rw [hsz0] at bx
      have s1 := s0.keep0 ((Fr.refl [] W0).alloc (.cells #[.pointer (some ⟨r, 0, none⟩)] 24))
      have hsz1 : (W0.alloc (.cells #[.pointer (some ⟨r, 0, none⟩)] 24)).heap.size = C + 1 + 1 + 1 + 1 + 1 := by simp [hsz0]
      obtain ⟨W1, hW1⟩ : ∃ W1, W1 = W0.alloc (.cells #[.pointer (some ⟨r, 0, none⟩)] 24) := ⟨_, rfl⟩
      rw [← hW1] at s1 bx hsz1 ⊢
      clear hW1 hW0 hsz0 s0 p q hA r0 hC
      refine (wpIn_wide (n := 8)).1 ?_
      refine wpIn_mono (Q := fun e a' W => (e = .normal ∨ e = .exit 2) ∧ ∃ (D : Nat) (va : Value) (oa : Option Nat) (k : Nat), a' = { tmps := #[.int .i64 most, .slice a len cap, .int .i64 stop, undef, undef, .pointer (some ⟨B, 0, none⟩), .bool false, .pointer (some ⟨r, 0, none⟩), .int .i64 (len : Int), .pointer (some ⟨C, 0, none⟩), .pointer (some ⟨C + 1, 0, none⟩), .pointer (some ⟨C + 1 + 1, 0, none⟩), .pointer (some ⟨C + 1 + 1 + 1, 0, none⟩), undef, undef, undef, undef, undef, undef, .bool true, .bool false, .slice a len cap, .int .i64 (len : Int), .bool (decide (80 < (len : Int))), undef, .int .i64 most, .pointer (some ⟨r, 0, none⟩), .pointer (some ⟨r, 0, none⟩), .bool false, .int .i64 (len : Int), .slice a len cap, .int .i64 (len : Int), .bool false, u33, u34, u35, u36, u37, u38, u39, u40, .pointer (some ⟨r, 0, none⟩), .func (.func 18) #[] #[.pointer (some ⟨C + 1 + 1 + 1 + 1, 0, none⟩)], undef, undef, undef, undef, undef, undef, undef, undef, undef, undef, undef, undef, undef, undef, undef, undef, undef, undef, undef, undef, undef, undef, undef, undef, undef, undef, undef, undef, undef, undef, undef, undef, undef, undef, undef, undef, undef, undef, undef, undef, undef, undef, undef, undef, undef, undef, undef, undef, undef, undef, undef, undef, undef, undef, undef, undef, undef, undef, undef, undef, undef, undef, undef, undef, undef, undef, undef, undef, undef, undef, undef, undef, undef, undef, undef, undef, undef, undef, undef, undef, undef, undef, undef, undef, undef], defers := [{ target := .collected D, args := #[] }] } ∧ (k : Int) = max (min (xs.length : Int) stop) 0 ∧ St w W B C r M v xs own stop a len L va (.slice none 0 0) ((prs xs k).map (·.2)) [] oa none ∧ C + 1 + 1 + 1 < D ∧ W.heap[D]? = some (.deferred (some []))) ?walk1 (two_ends (fun _ _ h => h) ?rest1)
      case' walk1 =>
       refine wpIn_rangeFunc_ownG (F := Fence.wide) rfl (by omega) (gf := 18) (lb := #[.pointer (some ⟨C + 1 + 1 + 1 + 1, 0, none⟩)]) rfl trivial (enters_of Try.func18 (by kernel_rfl) rfl)
        (all_stops Fence.wide (8 - 1) trivial rfl (by omega) (C + 1 + 1 + 1 + 1) r C M v xs own (by omega) W1 (bx.cell 0) (by omega) s1.ring s1.rC s1.oC) (fun h k => h.trans k) ?keepb (Below.refl _ _) (fun _ => rfl)
        (I1 w B C r M v xs own stop a len L) (X1 w B C r M v xs own stop a len L)
        ?own1 ?own2 ⟨_, _, s1, bx, .inl rfl⟩
        (fun x => { tmps := #[.int .i64 most, .slice a len cap, .int .i64 stop, undef, undef, .pointer (some ⟨B, 0, none⟩), .bool false, .pointer (some ⟨r, 0, none⟩), .int .i64 (len : Int), .pointer (some ⟨C, 0, none⟩), .pointer (some ⟨C + 1, 0, none⟩), .pointer (some ⟨C + 1 + 1, 0, none⟩), .pointer (some ⟨C + 1 + 1 + 1, 0, none⟩), .int .i64 (x.1 : Int), .int .i64 x.2, undef, undef, undef, undef, .bool true, .bool false, .slice a len cap, .int .i64 (len : Int), .bool (decide (80 < (len : Int))), undef, .int .i64 most, .pointer (some ⟨r, 0, none⟩), .pointer (some ⟨r, 0, none⟩), .bool false, .int .i64 (len : Int), .slice a len cap, .int .i64 (len : Int), .bool false, u33, u34, u35, u36, u37, u38, u39, u40, .pointer (some ⟨r, 0, none⟩), .func (.func 18) #[] #[.pointer (some ⟨C + 1 + 1 + 1 + 1, 0, none⟩)], .int .i64 (x.1 : Int), .int .i64 x.2, undef, undef, undef, undef, undef, undef, undef, undef, undef, undef, undef, undef, undef, undef, undef, undef, undef, undef, undef, undef, undef, undef, undef, undef, undef, undef, undef, undef, undef, undef, undef, undef, undef, undef, undef, undef, undef, undef, undef, undef, undef, undef, undef, undef, undef, undef, undef, undef, undef, undef, undef, undef, undef, undef, undef, undef, undef, undef, undef, undef, undef, undef, undef, undef, undef, undef, undef, undef, undef, undef, undef, undef, undef, undef, undef, undef, undef, undef, undef, undef, undef, undef, undef], defers := [] }) ?assign ?body ?done ?stop
      case keepb => exact fun W l o o' h1 h2 _ _ => kq_putObj o' (by omega) (by omega) h2
      case own1 => exact I1_own (by omega)
      case own2 => exact X1_own (by omega)
      case assign =>
        intro l x W K hK
        gi_wp2
        exact hK
      case body =>
        rintro l pre ⟨y, z⟩ W hI hlen
        have hI' := Lib.hid hI
        obtain ⟨va, oa, hS, hX, hp⟩ := hI
        dsimp only
        have cn : W.cell? ⟨C + 1 + 1, 0, none⟩ = some (.int .i64 (pre.length : Int)) := by have := hS.bn.cell 0; simpa using this
        have cs : W.cell? ⟨B, 0, none⟩ = some (.int .i64 stop) := hS.stp.cell 0
        have ca : W.cell? ⟨C, 0, none⟩ = some va := hS.ba.cell 0
        have hp80 : pre.length < 80 := by omega
        by_cases h1 : (y : Int) = (pre.length : Int)
        · obtain rfl : y = pre.length := by omega
          have e1 : ((pre.length : Int) != (pre.length : Int)) = false := by simp
          by_cases h2 : stop ≤ (pre.length : Int)
          · gi_wp2
            exact ⟨KeepsFrom.refl _ _, rfl, pre, _, rfl, .inr h2, hI'.out⟩
          · have h2' : (pre.length : Int) < stop := by omega
            clear h2 h1
            gi_wp2
            have ca2 : (W.alloc (.cells #[.int .i64 z] 2)).cell? ⟨C, 0, none⟩ = some va := (hS.ba.alloc _).cell 0
            have cn2 : (W.alloc (.cells #[.int .i64 z] 2)).cell? ⟨C + 1 + 1, 0, none⟩ = some (.int .i64 (pre.length : Int)) := by have := (hS.bn.alloc (.cells #[.int .i64 z] 2)).cell 0; simpa using this
            have hba : C ∉ oa.toList := fun h => by have := hS.na C (by simpa using h); omega
            have hbn : C + 1 + 1 ∉ oa.toList := fun h => by have := hS.na _ (by simpa using h : oa = some (C + 1 + 1)); omega
            have hsl := hS.sa
            rw [List.length_map] at hsl
            have hw : IntKind.i64.wrap ((pre.length : Int) + 1) = (pre.length : Int) + 1 := IntWalk.i64_in _ (by omega)
            have hmx : pre.length + 1 ≤ maxLen := by unfold maxLen; omega
            have hby : (pre.length + 1) * 8 ≤ 140737488355328 := by omega
            refine region_in (by kernel_rfl) (by kernel_rfl) (by rintro ⟨_, _, h⟩; exact h) ?_
            refine wpAny_take (i := 1) (v := ?_) rfl (by kernel_rfl) (by kernel_rfl) (by kernel_rfl) (fun _ _ _ h => h) (Or.inl ⟨by rfl, ?_⟩) ?_
            rotate_left
            · (intro w; go_simp; try with_reducible rfl)
            refine wpAny_ready (rs := [0, 2, 4]) (by kernel_rfl) (by simp) ?_
            refine AllReady.cons rfl (fun K hK => ?_) ?_
            · go_simp
              refine hK _ _ ?_
              clear hK K
              refine wpAny_ready (rs := [2, 4]) (by kernel_rfl) (by simp) ?_
              refine AllReady.cons rfl (fun K hK => ?_) ?_
              · go_simp
                refine hK _ _ ?_
                clear hK K
                refine wpAny_ready (rs := [3, 4]) (by kernel_rfl) (by simp) ?_
                refine AllReady.cons rfl (fun K hK => ?_) ?_
                · refine step_append_sl rfl (.tmp 53) (.tmp 55) 22 rfl i2 _ 8 Try.underlying22 hi hz0 hz1 hz2 rfl (by decide) _ oa rfl (hsl.fr0 (((Fr.refl [] W).alloc _).drew)) _ 1 1 [RI.ci z] rfl rfl (Cells.one (Holds.new W 2 #[RI.ci z])) (by simp [RI.ci, Value.oneCell']) hmx hby ?_; intro v' w1 o1 hs1 hf1 ho1 hm1; obtain ⟨g', rfl⟩ := hm1 (by omega); obtain ⟨c', rfl, hr1⟩ := hs1.own_row; have fr1 : Fr oa.toList W w1 := (((Fr.refl _ W).alloc _).drew).trans hf1; have b1 := (hS.ba.fr fr1 hba).cell 0; have b2 := (hS.ba.fr fr1 hba).frozen 0; have n1 : w1.cell? ⟨C + 1 + 1, 0, none⟩ = some (.int .i64 (pre.length : Int)) := (by have := (hS.bn.fr fr1 hbn).cell 0; simpa using this); have n2 := (hS.bn.fr fr1 hbn).frozen 0
                  try go_simp
                  refine hK _ _ ?_
                  clear hK K
                  refine wpAny_ready (rs := [4, 6]) (by kernel_rfl) (by simp) ?_
                  refine AllReady.cons rfl (fun K hK => ?_) ?_
                  · go_simp
                    refine hK _ _ ?_
                    clear hK K
                    refine wpAny_take (i := 5) (v := ?_) rfl (by kernel_rfl) (by kernel_rfl) (by kernel_rfl) (fun _ _ _ h => h) (Or.inl ⟨by rfl, ?_⟩) ?_
                    rotate_left
                    · (intro w; go_simp; try with_reducible rfl)
                    refine wpAny_ready (rs := [6]) (by kernel_rfl) (by simp) ?_
                    refine AllReady.cons rfl (fun K hK => ?_) ?_
                    · go_simp
                      refine hK _ _ ?_
                      clear hK K
                      refine wpAny_ready (rs := [7]) (by kernel_rfl) (by simp) ?_
                      refine AllReady.cons rfl (fun K hK => ?_) ?_
                      · go_simp
                        refine hK _ _ ?_
                        clear hK K
                        refine wpAny_done (by kernel_rfl) ?_ _
                        go_wp2
                        exact close_a hS hX hr1 fr1 ho1 h2'
                      exact AllReady.nil
                    exact AllReady.nil
                  refine AllReady.cons rfl (fun K hK => ?_) ?_
                  · go_simp
                    refine hK _ _ ?_
                    clear hK K
                    refine wpAny_ready (rs := [4]) (by kernel_rfl) (by simp) ?_
                    refine AllReady.cons rfl (fun K hK => ?_) ?_
                    · go_simp
                      refine hK _ _ ?_
                      clear hK K
                      refine wpAny_take (i := 5) (v := ?_) rfl (by kernel_rfl) (by kernel_rfl) (by kernel_rfl) (fun _ _ _ h => h) (Or.inl ⟨by rfl, ?_⟩) ?_
                      rotate_left
                      · (intro w; go_simp; try with_reducible rfl)
                      refine wpAny_ready (rs := [7]) (by kernel_rfl) (by simp) ?_
                      refine AllReady.cons rfl (fun K hK => ?_) ?_
                      · go_simp
                        refine hK _ _ ?_
                        clear hK K
                        refine wpAny_done (by kernel_rfl) ?_ _
                        go_wp2
                        exact close_a hS hX hr1 fr1 ho1 h2'
                      exact AllReady.nil
                    exact AllReady.nil
                  exact AllReady.nil
                refine AllReady.cons rfl (fun K hK => ?_) ?_
                · go_simp
                  refine hK _ _ ?_
                  clear hK K
                  refine wpAny_take (i := 5) (v := ?_) rfl (by kernel_rfl) (by kernel_rfl) (by kernel_rfl) (fun _ _ _ h => h) (Or.inl ⟨by rfl, ?_⟩) ?_
                  rotate_left
                  · (intro w; go_simp; try with_reducible rfl)
                  refine wpAny_ready (rs := [3]) (by kernel_rfl) (by simp) ?_
                  refine AllReady.cons rfl (fun K hK => ?_) ?_
                  · refine step_append_sl rfl (.tmp 53) (.tmp 55) 22 rfl i2 _ 8 Try.underlying22 hi hz0 hz1 hz2 rfl (by decide) _ oa rfl (hsl.fr0 (((Fr.refl [] W).alloc _).drew)) _ 1 1 [RI.ci z] rfl rfl (Cells.one (Holds.new W 2 #[RI.ci z])) (by simp [RI.ci, Value.oneCell']) hmx hby ?_; intro v' w1 o1 hs1 hf1 ho1 hm1; obtain ⟨g', rfl⟩ := hm1 (by omega); obtain ⟨c', rfl, hr1⟩ := hs1.own_row; have fr1 : Fr oa.toList W w1 := (((Fr.refl _ W).alloc _).drew).trans hf1; have b1 := (hS.ba.fr fr1 hba).cell 0; have b2 := (hS.ba.fr fr1 hba).frozen 0; have n1 : w1.cell? ⟨C + 1 + 1, 0, none⟩ = some (.int .i64 (pre.length : Int)) := (by have := (hS.bn.fr fr1 hbn).cell 0; simpa using this); have n2 := (hS.bn.fr fr1 hbn).frozen 0
                    try go_simp
                    refine hK _ _ ?_
                    clear hK K
                    refine wpAny_ready (rs := [6]) (by kernel_rfl) (by simp) ?_
                    refine AllReady.cons rfl (fun K hK => ?_) ?_
                    · go_simp
                      refine hK _ _ ?_
                      clear hK K
                      refine wpAny_ready (rs := [7]) (by kernel_rfl) (by simp) ?_
                      refine AllReady.cons rfl (fun K hK => ?_) ?_
                      · go_simp
                        refine hK _ _ ?_
                        clear hK K
                        refine wpAny_done (by kernel_rfl) ?_ _
                        go_wp2
                        exact close_a hS hX hr1 fr1 ho1 h2'
                      exact AllReady.nil
                    exact AllReady.nil
                  exact AllReady.nil
                exact AllReady.nil
              refine AllReady.cons rfl (fun K hK => ?_) ?_
              · go_simp
                refine hK _ _ ?_
                clear hK K
                refine wpAny_take (i := 5) (v := ?_) rfl (by kernel_rfl) (by kernel_rfl) (by kernel_rfl) (fun _ _ _ h => h) (Or.inl ⟨by rfl, ?_⟩) ?_
                rotate_left
                · (intro w; go_simp; try with_reducible rfl)
                refine wpAny_ready (rs := [2]) (by kernel_rfl) (by simp) ?_
                refine AllReady.cons rfl (fun K hK => ?_) ?_
                · go_simp
                  refine hK _ _ ?_
                  clear hK K
                  refine wpAny_ready (rs := [3]) (by kernel_rfl) (by simp) ?_
                  refine AllReady.cons rfl (fun K hK => ?_) ?_
                  · refine step_append_sl rfl (.tmp 53) (.tmp 55) 22 rfl i2 _ 8 Try.underlying22 hi hz0 hz1 hz2 rfl (by decide) _ oa rfl (hsl.fr0 (((Fr.refl [] W).alloc _).drew)) _ 1 1 [RI.ci z] rfl rfl (Cells.one (Holds.new W 2 #[RI.ci z])) (by simp [RI.ci, Value.oneCell']) hmx hby ?_; intro v' w1 o1 hs1 hf1 ho1 hm1; obtain ⟨g', rfl⟩ := hm1 (by omega); obtain ⟨c', rfl, hr1⟩ := hs1.own_row; have fr1 : Fr oa.toList W w1 := (((Fr.refl _ W).alloc _).drew).trans hf1; have b1 := (hS.ba.fr fr1 hba).cell 0; have b2 := (hS.ba.fr fr1 hba).frozen 0; have n1 : w1.cell? ⟨C + 1 + 1, 0, none⟩ = some (.int .i64 (pre.length : Int)) := (by have := (hS.bn.fr fr1 hbn).cell 0; simpa using this); have n2 := (hS.bn.fr fr1 hbn).frozen 0
                    try go_simp
                    refine hK _ _ ?_
                    clear hK K
                    refine wpAny_ready (rs := [6]) (by kernel_rfl) (by simp) ?_
                    refine AllReady.cons rfl (fun K hK => ?_) ?_
                    · go_simp
                      refine hK _ _ ?_
                      clear hK K
                      refine wpAny_ready (rs := [7]) (by kernel_rfl) (by simp) ?_
                      refine AllReady.cons rfl (fun K hK => ?_) ?_
                      · go_simp
                        refine hK _ _ ?_
                        clear hK K
                        refine wpAny_done (by kernel_rfl) ?_ _
                        go_wp2
                        exact close_a hS hX hr1 fr1 ho1 h2'
                      exact AllReady.nil
                    exact AllReady.nil
                  exact AllReady.nil
                exact AllReady.nil
              exact AllReady.nil
            refine AllReady.cons rfl (fun K hK => ?_) ?_
            · go_simp
              refine hK _ _ ?_
              clear hK K
              refine wpAny_ready (rs := [0, 4]) (by kernel_rfl) (by simp) ?_
              refine AllReady.cons rfl (fun K hK => ?_) ?_
              · go_simp
                refine hK _ _ ?_
                clear hK K
                refine wpAny_ready (rs := [3, 4]) (by kernel_rfl) (by simp) ?_
                refine AllReady.cons rfl (fun K hK => ?_) ?_
                · refine step_append_sl rfl (.tmp 53) (.tmp 55) 22 rfl i2 _ 8 Try.underlying22 hi hz0 hz1 hz2 rfl (by decide) _ oa rfl (hsl.fr0 (((Fr.refl [] W).alloc _).drew)) _ 1 1 [RI.ci z] rfl rfl (Cells.one (Holds.new W 2 #[RI.ci z])) (by simp [RI.ci, Value.oneCell']) hmx hby ?_; intro v' w1 o1 hs1 hf1 ho1 hm1; obtain ⟨g', rfl⟩ := hm1 (by omega); obtain ⟨c', rfl, hr1⟩ := hs1.own_row; have fr1 : Fr oa.toList W w1 := (((Fr.refl _ W).alloc _).drew).trans hf1; have b1 := (hS.ba.fr fr1 hba).cell 0; have b2 := (hS.ba.fr fr1 hba).frozen 0; have n1 : w1.cell? ⟨C + 1 + 1, 0, none⟩ = some (.int .i64 (pre.length : Int)) := (by have := (hS.bn.fr fr1 hbn).cell 0; simpa using this); have n2 := (hS.bn.fr fr1 hbn).frozen 0
                  try go_simp
                  refine hK _ _ ?_
                  clear hK K
                  refine wpAny_ready (rs := [4, 6]) (by kernel_rfl) (by simp) ?_
                  refine AllReady.cons rfl (fun K hK => ?_) ?_
                  · go_simp
                    refine hK _ _ ?_
                    clear hK K
                    refine wpAny_take (i := 5) (v := ?_) rfl (by kernel_rfl) (by kernel_rfl) (by kernel_rfl) (fun _ _ _ h => h) (Or.inl ⟨by rfl, ?_⟩) ?_
                    rotate_left
                    · (intro w; go_simp; try with_reducible rfl)
                    refine wpAny_ready (rs := [6]) (by kernel_rfl) (by simp) ?_
                    refine AllReady.cons rfl (fun K hK => ?_) ?_
                    · go_simp
                      refine hK _ _ ?_
                      clear hK K
                      refine wpAny_ready (rs := [7]) (by kernel_rfl) (by simp) ?_
                      refine AllReady.cons rfl (fun K hK => ?_) ?_
                      · go_simp
                        refine hK _ _ ?_
                        clear hK K
                        refine wpAny_done (by kernel_rfl) ?_ _
                        go_wp2
                        exact close_a hS hX hr1 fr1 ho1 h2'
                      exact AllReady.nil
                    exact AllReady.nil
                  refine AllReady.cons rfl (fun K hK => ?_) ?_
                  · go_simp
                    refine hK _ _ ?_
                    clear hK K
                    refine wpAny_ready (rs := [4]) (by kernel_rfl) (by simp) ?_
                    refine AllReady.cons rfl (fun K hK => ?_) ?_
                    · go_simp
                      refine hK _ _ ?_
                      clear hK K
                      refine wpAny_take (i := 5) (v := ?_) rfl (by kernel_rfl) (by kernel_rfl) (by kernel_rfl) (fun _ _ _ h => h) (Or.inl ⟨by rfl, ?_⟩) ?_
                      rotate_left
                      · (intro w; go_simp; try with_reducible rfl)
                      refine wpAny_ready (rs := [7]) (by kernel_rfl) (by simp) ?_
                      refine AllReady.cons rfl (fun K hK => ?_) ?_
                      · go_simp
                        refine hK _ _ ?_
                        clear hK K
                        refine wpAny_done (by kernel_rfl) ?_ _
                        go_wp2
                        exact close_a hS hX hr1 fr1 ho1 h2'
                      exact AllReady.nil
                    exact AllReady.nil
                  exact AllReady.nil
                refine AllReady.cons rfl (fun K hK => ?_) ?_
                · go_simp
                  refine hK _ _ ?_
                  clear hK K
                  refine wpAny_take (i := 5) (v := ?_) rfl (by kernel_rfl) (by kernel_rfl) (by kernel_rfl) (fun _ _ _ h => h) (Or.inl ⟨by rfl, ?_⟩) ?_
                  rotate_left
                  · (intro w; go_simp; try with_reducible rfl)
                  refine wpAny_ready (rs := [3]) (by kernel_rfl) (by simp) ?_
                  refine AllReady.cons rfl (fun K hK => ?_) ?_
                  · refine step_append_sl rfl (.tmp 53) (.tmp 55) 22 rfl i2 _ 8 Try.underlying22 hi hz0 hz1 hz2 rfl (by decide) _ oa rfl (hsl.fr0 (((Fr.refl [] W).alloc _).drew)) _ 1 1 [RI.ci z] rfl rfl (Cells.one (Holds.new W 2 #[RI.ci z])) (by simp [RI.ci, Value.oneCell']) hmx hby ?_; intro v' w1 o1 hs1 hf1 ho1 hm1; obtain ⟨g', rfl⟩ := hm1 (by omega); obtain ⟨c', rfl, hr1⟩ := hs1.own_row; have fr1 : Fr oa.toList W w1 := (((Fr.refl _ W).alloc _).drew).trans hf1; have b1 := (hS.ba.fr fr1 hba).cell 0; have b2 := (hS.ba.fr fr1 hba).frozen 0; have n1 : w1.cell? ⟨C + 1 + 1, 0, none⟩ = some (.int .i64 (pre.length : Int)) := (by have := (hS.bn.fr fr1 hbn).cell 0; simpa using this); have n2 := (hS.bn.fr fr1 hbn).frozen 0
                    try go_simp
                    refine hK _ _ ?_
                    clear hK K
                    refine wpAny_ready (rs := [6]) (by kernel_rfl) (by simp) ?_
                    refine AllReady.cons rfl (fun K hK => ?_) ?_
                    · go_simp
                      refine hK _ _ ?_
                      clear hK K
                      refine wpAny_ready (rs := [7]) (by kernel_rfl) (by simp) ?_
                      refine AllReady.cons rfl (fun K hK => ?_) ?_
                      · go_simp
                        refine hK _ _ ?_
                        clear hK K
                        refine wpAny_done (by kernel_rfl) ?_ _
                        go_wp2
                        exact close_a hS hX hr1 fr1 ho1 h2'
                      exact AllReady.nil
                    exact AllReady.nil
                  exact AllReady.nil
                exact AllReady.nil
              refine AllReady.cons rfl (fun K hK => ?_) ?_
              · go_simp
                refine hK _ _ ?_
                clear hK K
                refine wpAny_take (i := 5) (v := ?_) rfl (by kernel_rfl) (by kernel_rfl) (by kernel_rfl) (fun _ _ _ h => h) (Or.inl ⟨by rfl, ?_⟩) ?_
                rotate_left
                · (intro w; go_simp; try with_reducible rfl)
                refine wpAny_ready (rs := [0]) (by kernel_rfl) (by simp) ?_
                refine AllReady.cons rfl (fun K hK => ?_) ?_
                · go_simp
                  refine hK _ _ ?_
                  clear hK K
                  refine wpAny_ready (rs := [3]) (by kernel_rfl) (by simp) ?_
                  refine AllReady.cons rfl (fun K hK => ?_) ?_
                  · refine step_append_sl rfl (.tmp 53) (.tmp 55) 22 rfl i2 _ 8 Try.underlying22 hi hz0 hz1 hz2 rfl (by decide) _ oa rfl (hsl.fr0 (((Fr.refl [] W).alloc _).drew)) _ 1 1 [RI.ci z] rfl rfl (Cells.one (Holds.new W 2 #[RI.ci z])) (by simp [RI.ci, Value.oneCell']) hmx hby ?_; intro v' w1 o1 hs1 hf1 ho1 hm1; obtain ⟨g', rfl⟩ := hm1 (by omega); obtain ⟨c', rfl, hr1⟩ := hs1.own_row; have fr1 : Fr oa.toList W w1 := (((Fr.refl _ W).alloc _).drew).trans hf1; have b1 := (hS.ba.fr fr1 hba).cell 0; have b2 := (hS.ba.fr fr1 hba).frozen 0; have n1 : w1.cell? ⟨C + 1 + 1, 0, none⟩ = some (.int .i64 (pre.length : Int)) := (by have := (hS.bn.fr fr1 hbn).cell 0; simpa using this); have n2 := (hS.bn.fr fr1 hbn).frozen 0
                    try go_simp
                    refine hK _ _ ?_
                    clear hK K
                    refine wpAny_ready (rs := [6]) (by kernel_rfl) (by simp) ?_
                    refine AllReady.cons rfl (fun K hK => ?_) ?_
                    · go_simp
                      refine hK _ _ ?_
                      clear hK K
                      refine wpAny_ready (rs := [7]) (by kernel_rfl) (by simp) ?_
                      refine AllReady.cons rfl (fun K hK => ?_) ?_
                      · go_simp
                        refine hK _ _ ?_
                        clear hK K
                        refine wpAny_done (by kernel_rfl) ?_ _
                        go_wp2
                        exact close_a hS hX hr1 fr1 ho1 h2'
                      exact AllReady.nil
                    exact AllReady.nil
                  exact AllReady.nil
                exact AllReady.nil
              exact AllReady.nil
            refine AllReady.cons rfl (fun K hK => ?_) ?_
            · go_simp
              refine hK _ _ ?_
              clear hK K
              refine wpAny_take (i := 5) (v := ?_) rfl (by kernel_rfl) (by kernel_rfl) (by kernel_rfl) (fun _ _ _ h => h) (Or.inl ⟨by rfl, ?_⟩) ?_
              rotate_left
              · (intro w; go_simp; try with_reducible rfl)
              refine wpAny_ready (rs := [0, 2]) (by kernel_rfl) (by simp) ?_
              refine AllReady.cons rfl (fun K hK => ?_) ?_
              · go_simp
                refine hK _ _ ?_
                clear hK K
                refine wpAny_ready (rs := [2]) (by kernel_rfl) (by simp) ?_
                refine AllReady.cons rfl (fun K hK => ?_) ?_
                · go_simp
                  refine hK _ _ ?_
                  clear hK K
                  refine wpAny_ready (rs := [3]) (by kernel_rfl) (by simp) ?_
                  refine AllReady.cons rfl (fun K hK => ?_) ?_
                  · refine step_append_sl rfl (.tmp 53) (.tmp 55) 22 rfl i2 _ 8 Try.underlying22 hi hz0 hz1 hz2 rfl (by decide) _ oa rfl (hsl.fr0 (((Fr.refl [] W).alloc _).drew)) _ 1 1 [RI.ci z] rfl rfl (Cells.one (Holds.new W 2 #[RI.ci z])) (by simp [RI.ci, Value.oneCell']) hmx hby ?_; intro v' w1 o1 hs1 hf1 ho1 hm1; obtain ⟨g', rfl⟩ := hm1 (by omega); obtain ⟨c', rfl, hr1⟩ := hs1.own_row; have fr1 : Fr oa.toList W w1 := (((Fr.refl _ W).alloc _).drew).trans hf1; have b1 := (hS.ba.fr fr1 hba).cell 0; have b2 := (hS.ba.fr fr1 hba).frozen 0; have n1 : w1.cell? ⟨C + 1 + 1, 0, none⟩ = some (.int .i64 (pre.length : Int)) := (by have := (hS.bn.fr fr1 hbn).cell 0; simpa using this); have n2 := (hS.bn.fr fr1 hbn).frozen 0
                    try go_simp
                    refine hK _ _ ?_
                    clear hK K
                    refine wpAny_ready (rs := [6]) (by kernel_rfl) (by simp) ?_
                    refine AllReady.cons rfl (fun K hK => ?_) ?_
                    · go_simp
                      refine hK _ _ ?_
                      clear hK K
                      refine wpAny_ready (rs := [7]) (by kernel_rfl) (by simp) ?_
                      refine AllReady.cons rfl (fun K hK => ?_) ?_
                      · go_simp
                        refine hK _ _ ?_
                        clear hK K
                        refine wpAny_done (by kernel_rfl) ?_ _
                        go_wp2
                        exact close_a hS hX hr1 fr1 ho1 h2'
                      exact AllReady.nil
                    exact AllReady.nil
                  exact AllReady.nil
                exact AllReady.nil
              refine AllReady.cons rfl (fun K hK => ?_) ?_
              · go_simp
                refine hK _ _ ?_
                clear hK K
                refine wpAny_ready (rs := [0]) (by kernel_rfl) (by simp) ?_
                refine AllReady.cons rfl (fun K hK => ?_) ?_
                · go_simp
                  refine hK _ _ ?_
                  clear hK K
                  refine wpAny_ready (rs := [3]) (by kernel_rfl) (by simp) ?_
                  refine AllReady.cons rfl (fun K hK => ?_) ?_
                  · refine step_append_sl rfl (.tmp 53) (.tmp 55) 22 rfl i2 _ 8 Try.underlying22 hi hz0 hz1 hz2 rfl (by decide) _ oa rfl (hsl.fr0 (((Fr.refl [] W).alloc _).drew)) _ 1 1 [RI.ci z] rfl rfl (Cells.one (Holds.new W 2 #[RI.ci z])) (by simp [RI.ci, Value.oneCell']) hmx hby ?_; intro v' w1 o1 hs1 hf1 ho1 hm1; obtain ⟨g', rfl⟩ := hm1 (by omega); obtain ⟨c', rfl, hr1⟩ := hs1.own_row; have fr1 : Fr oa.toList W w1 := (((Fr.refl _ W).alloc _).drew).trans hf1; have b1 := (hS.ba.fr fr1 hba).cell 0; have b2 := (hS.ba.fr fr1 hba).frozen 0; have n1 : w1.cell? ⟨C + 1 + 1, 0, none⟩ = some (.int .i64 (pre.length : Int)) := (by have := (hS.bn.fr fr1 hbn).cell 0; simpa using this); have n2 := (hS.bn.fr fr1 hbn).frozen 0
                    try go_simp
                    refine hK _ _ ?_
                    clear hK K
                    refine wpAny_ready (rs := [6]) (by kernel_rfl) (by simp) ?_
                    refine AllReady.cons rfl (fun K hK => ?_) ?_
                    · go_simp
                      refine hK _ _ ?_
                      clear hK K
                      refine wpAny_ready (rs := [7]) (by kernel_rfl) (by simp) ?_
                      refine AllReady.cons rfl (fun K hK => ?_) ?_
                      · go_simp
                        refine hK _ _ ?_
                        clear hK K
                        refine wpAny_done (by kernel_rfl) ?_ _
                        go_wp2
                        exact close_a hS hX hr1 fr1 ho1 h2'
                      exact AllReady.nil
                    exact AllReady.nil
                  exact AllReady.nil
                exact AllReady.nil
              exact AllReady.nil
            exact AllReady.nil
        · have e1 : ((y : Int) != (pre.length : Int)) = true := by simpa using h1
          gi_wp2
          exact ⟨KeepsFrom.refl _ _, rfl, pre, _, rfl, .inl h1, hI'.out⟩
      case done =>
        rintro D ps W hD hps hI hm
        obtain ⟨va, oa, k, hk, hS⟩ := done1 hps hI
        exact ⟨.inl rfl, D, va, oa, k, rfl, hk, hS, by omega, hm⟩
      case stop =>
        rintro D c ps W hD hps hI hm
        obtain ⟨rfl, va, oa, k, hk, hS⟩ := stop1 hps hI
        exact wpIn_exit ⟨.inr rfl, D, va, oa, k, rfl, hk, hS, by omega, hm⟩
      case rest1 =>
        clear s1 bx hsz1
        rintro a' W2 ⟨D, va, oa, k1, rfl, hk1, s2, hD, hm⟩
        go_wp2_with fail
        refine (backs_any _ r).mono ?_
        rintro e w7 ⟨rfl, rfl⟩
        go_wp2_with fail
        obtain ⟨D0, hD0⟩ : ∃ D0, D0 = W2.heap.size := ⟨_, rfl⟩
        have hszW : C + 1 + 1 + 1 < D0 := by rw [hD0]; exact s2.bf.lt
        have hDl : D < D0 := by rw [hD0]; exact (Array.getElem?_eq_some_iff.1 hm).1
        have bx := Holds.new W2 24 #[.pointer (some ⟨r, 0, none⟩)]
        have f3 : Fr [] W2 (W2.alloc (.cells #[.pointer (some ⟨r, 0, none⟩)] 24)) := (Fr.refl [] W2).alloc _
        have s3 := s2.keep0 f3
        have hm3 := (f3.block D (by omega) (by simp)).trans hm
        have hsz3 : (W2.alloc (.cells #[.pointer (some ⟨r, 0, none⟩)] 24)).heap.size = D0 + 1 := by simp [hD0]
        rw [← hD0] at bx ⊢
        obtain ⟨W3, hW3⟩ : ∃ W3, W3 = W2.alloc (.cells #[.pointer (some ⟨r, 0, none⟩)] 24) := ⟨_, rfl⟩
        rw [← hW3] at s3 bx hsz3 hm3 ⊢
        clear hW3 s2 hm f3 hD0
        refine (wpIn_wide (n := 8)).1 ?_
        refine wpIn_mono (Q := fun e a' W => (e = .normal ∨ e = .exit 4) ∧ ∃ (E : Nat) (vb : Value) (ob : Option Nat) (k : Nat), a' = { tmps := #[.int .i64 most, .slice a len cap, .int .i64 stop, undef, undef, .pointer (some ⟨B, 0, none⟩), .bool false, .pointer (some ⟨r, 0, none⟩), .int .i64 (len : Int), .pointer (some ⟨C, 0, none⟩), .pointer (some ⟨C + 1, 0, none⟩), .pointer (some ⟨C + 1 + 1, 0, none⟩), .pointer (some ⟨C + 1 + 1 + 1, 0, none⟩), undef, undef, undef, undef, undef, undef, .bool true, .bool false, .slice a len cap, .int .i64 (len : Int), .bool (decide (80 < (len : Int))), undef, .int .i64 most, .pointer (some ⟨r, 0, none⟩), .pointer (some ⟨r, 0, none⟩), .bool false, .int .i64 (len : Int), .slice a len cap, .int .i64 (len : Int), .bool false, u33, u34, u35, u36, u37, u38, u39, u40, .pointer (some ⟨r, 0, none⟩), .func (.func 18) #[] #[.pointer (some ⟨C + 1 + 1 + 1 + 1, 0, none⟩)], undef, undef, undef, undef, undef, undef, undef, undef, undef, undef, undef, undef, undef, undef, undef, undef, .pointer (some ⟨r, 0, none⟩), .func (.func 19) #[] #[.pointer (some ⟨D0, 0, none⟩)], undef, undef, undef, undef, undef, undef, undef, undef, undef, undef, undef, undef, undef, undef, undef, undef, undef, undef, undef, undef, undef, undef, undef, undef, undef, undef, undef, undef, undef, undef, undef, undef, undef, undef, undef, undef, undef, undef, undef, undef, undef, undef, undef, undef, undef, undef, undef, undef, undef, undef, undef, undef, undef, undef, undef, undef, undef, undef, undef, undef, undef, undef, undef, undef, undef, undef, undef], defers := [{ target := .collected E, args := #[] }, { target := .collected D, args := #[] }] } ∧ (k : Int) = max (min (xs.length : Int) stop) 0 ∧ St w W B C r M v xs own stop a len L va vb ((prs xs k1).map (·.2)) (bks xs k) oa ob ∧ W.heap[D]? = some (.deferred (some [])) ∧ D0 < E ∧ W.heap[E]? = some (.deferred (some []))) ?walk2 (two_ends (fun _ _ h => h) ?rest2)
        case' walk2 =>
         refine wpIn_rangeFunc_ownG (F := Fence.wide) rfl (by omega) (gf := 19) (lb := #[.pointer (some ⟨D0, 0, none⟩)]) rfl trivial (enters_of Try.func19 (by kernel_rfl) rfl)
          (back_stops Fence.wide (8 - 1) trivial rfl (by omega) D0 r C M v xs own (by omega) W3 (bx.cell 0) (by omega) s3.ring s3.rC s3.oC) (fun h k => h.trans k) ?keepb (Below.refl _ _) (fun _ => rfl)
          (I2 w B C D0 r M v xs own stop a len L va ((prs xs k1).map (·.2)) oa D) (X2 w B C D0 r M v xs own stop a len L va ((prs xs k1).map (·.2)) oa D 4)
          ?own1 ?own2 ⟨_, _, s3, bx, hm3, .inl rfl⟩
          (fun x => { tmps := #[.int .i64 most, .slice a len cap, .int .i64 stop, undef, undef, .pointer (some ⟨B, 0, none⟩), .bool false, .pointer (some ⟨r, 0, none⟩), .int .i64 (len : Int), .pointer (some ⟨C, 0, none⟩), .pointer (some ⟨C + 1, 0, none⟩), .pointer (some ⟨C + 1 + 1, 0, none⟩), .pointer (some ⟨C + 1 + 1 + 1, 0, none⟩), undef, undef, .int .i64 x, undef, undef, undef, .bool true, .bool false, .slice a len cap, .int .i64 (len : Int), .bool (decide (80 < (len : Int))), undef, .int .i64 most, .pointer (some ⟨r, 0, none⟩), .pointer (some ⟨r, 0, none⟩), .bool false, .int .i64 (len : Int), .slice a len cap, .int .i64 (len : Int), .bool false, u33, u34, u35, u36, u37, u38, u39, u40, .pointer (some ⟨r, 0, none⟩), .func (.func 18) #[] #[.pointer (some ⟨C + 1 + 1 + 1 + 1, 0, none⟩)], undef, undef, undef, undef, undef, undef, undef, undef, undef, undef, undef, undef, undef, undef, undef, undef, .pointer (some ⟨r, 0, none⟩), .func (.func 19) #[] #[.pointer (some ⟨D0, 0, none⟩)], .int .i64 x, undef, undef, undef, undef, undef, undef, undef, undef, undef, undef, undef, undef, undef, undef, undef, undef, undef, undef, undef, undef, undef, undef, undef, undef, undef, undef, undef, undef, undef, undef, undef, undef, undef, undef, undef, undef, undef, undef, undef, undef, undef, undef, undef, undef, undef, undef, undef, undef, undef, undef, undef, undef, undef, undef, undef, undef, undef, undef, undef, undef, undef, undef, undef, undef, undef, undef], defers := [] }) ?assign ?body ?done ?stop
        case keepb => exact fun W l o o' h1 h2 _ _ => kq_putObj o' (by omega) (by omega) h2
        case own1 => exact I2_own (by omega) (by omega) (by omega)
        case own2 => exact X2_own (by omega) (by omega) (by omega)
        case assign =>
          intro l x W K hK
          gi_wp2
          exact hK
        case body =>
          rintro l pre z W hI hlen
          have hI' := Lib.hid hI
          obtain ⟨vb, ob, hS, hX, hmm, hp⟩ := hI
          dsimp only
          have cf : W.cell? ⟨C + 1 + 1 + 1, 0, none⟩ = some (.int .i64 (pre.length : Int)) := by have := hS.bf.cell 0; simpa using this
          have cs : W.cell? ⟨B, 0, none⟩ = some (.int .i64 stop) := hS.stp.cell 0
          have cb : W.cell? ⟨C + 1, 0, none⟩ = some vb := hS.bb.cell 0
          have hp80 : pre.length < 80 := by omega
          by_cases h2 : stop ≤ (pre.length : Int)
          · gi_wp2
            exact ⟨KeepsFrom.refl _ _, rfl, pre, _, rfl, h2, hI'.out⟩
          · have h2' : (pre.length : Int) < stop := by omega
            clear h2
            gi_wp2
            have cb2 : (W.alloc (.cells #[.int .i64 z] 2)).cell? ⟨C + 1, 0, none⟩ = some vb := (hS.bb.alloc _).cell 0
            have cf2 : (W.alloc (.cells #[.int .i64 z] 2)).cell? ⟨C + 1 + 1 + 1, 0, none⟩ = some (.int .i64 (pre.length : Int)) := by have := (hS.bf.alloc (.cells #[.int .i64 z] 2)).cell 0; simpa using this
            have hba : C + 1 ∉ ob.toList := fun h => by have := hS.nb _ (by simpa using h : ob = some (C + 1)); omega
            have hbn : C + 1 + 1 + 1 ∉ ob.toList := fun h => by have := hS.nb _ (by simpa using h : ob = some (C + 1 + 1 + 1)); omega
            have hsl := hS.sb
            have hw : IntKind.i64.wrap ((pre.length : Int) + 1) = (pre.length : Int) + 1 := IntWalk.i64_in _ (by omega)
            have hmx : pre.length + 1 ≤ maxLen := by unfold maxLen; omega
            have hby : (pre.length + 1) * 8 ≤ 140737488355328 := by omega
            refine region_in (by kernel_rfl) (by kernel_rfl) (by rintro ⟨_, _, h⟩; exact h) ?_
            refine wpAny_take (i := 1) (v := ?_) rfl (by kernel_rfl) (by kernel_rfl) (by kernel_rfl) (fun _ _ _ h => h) (Or.inl ⟨by rfl, ?_⟩) ?_
            rotate_left
            · (intro w; go_simp; try with_reducible rfl)
            refine wpAny_ready (rs := [0, 2, 4]) (by kernel_rfl) (by simp) ?_
            refine AllReady.cons rfl (fun K hK => ?_) ?_
            · go_simp
              refine hK _ _ ?_
              clear hK K
              refine wpAny_ready (rs := [2, 4]) (by kernel_rfl) (by simp) ?_
              refine AllReady.cons rfl (fun K hK => ?_) ?_
              · go_simp
                refine hK _ _ ?_
                clear hK K
                refine wpAny_ready (rs := [3, 4]) (by kernel_rfl) (by simp) ?_
                refine AllReady.cons rfl (fun K hK => ?_) ?_
                · refine step_append_sl rfl (.tmp 65) (.tmp 67) 22 rfl i2 _ 8 Try.underlying22 hi hz0 hz1 hz2 rfl (by decide) _ ob rfl (hsl.fr0 (((Fr.refl [] W).alloc _).drew)) _ 1 1 [RI.ci z] rfl rfl (Cells.one (Holds.new W 2 #[RI.ci z])) (by simp [RI.ci, Value.oneCell']) hmx hby ?_; intro v' w1 o1 hs1 hf1 ho1 hm1; obtain ⟨g', rfl⟩ := hm1 (by omega); obtain ⟨c', rfl, hr1⟩ := hs1.own_row; have fr1 : Fr ob.toList W w1 := (((Fr.refl _ W).alloc _).drew).trans hf1; have b1 := (hS.bb.fr fr1 hba).cell 0; have b2 := (hS.bb.fr fr1 hba).frozen 0; have n1 : w1.cell? ⟨C + 1 + 1 + 1, 0, none⟩ = some (.int .i64 (pre.length : Int)) := (by have := (hS.bf.fr fr1 hbn).cell 0; simpa using this); have n2 := (hS.bf.fr fr1 hbn).frozen 0
                  try go_simp
                  refine hK _ _ ?_
                  clear hK K
                  refine wpAny_ready (rs := [4, 6]) (by kernel_rfl) (by simp) ?_
                  refine AllReady.cons rfl (fun K hK => ?_) ?_
                  · go_simp
                    refine hK _ _ ?_
                    clear hK K
                    refine wpAny_take (i := 5) (v := ?_) rfl (by kernel_rfl) (by kernel_rfl) (by kernel_rfl) (fun _ _ _ h => h) (Or.inl ⟨by rfl, ?_⟩) ?_
                    rotate_left
                    · (intro w; go_simp; try with_reducible rfl)
                    refine wpAny_ready (rs := [6]) (by kernel_rfl) (by simp) ?_
                    refine AllReady.cons rfl (fun K hK => ?_) ?_
                    · go_simp
                      refine hK _ _ ?_
                      clear hK K
                      refine wpAny_ready (rs := [7]) (by kernel_rfl) (by simp) ?_
                      refine AllReady.cons rfl (fun K hK => ?_) ?_
                      · go_simp
                        refine hK _ _ ?_
                        clear hK K
                        refine wpAny_done (by kernel_rfl) ?_ _
                        go_wp2
                        exact close_b hS hX hszW hmm hr1 fr1 ho1 h2'
                      exact AllReady.nil
                    exact AllReady.nil
                  refine AllReady.cons rfl (fun K hK => ?_) ?_
                  · go_simp
                    refine hK _ _ ?_
                    clear hK K
                    refine wpAny_ready (rs := [4]) (by kernel_rfl) (by simp) ?_
                    refine AllReady.cons rfl (fun K hK => ?_) ?_
                    · go_simp
                      refine hK _ _ ?_
                      clear hK K
                      refine wpAny_take (i := 5) (v := ?_) rfl (by kernel_rfl) (by kernel_rfl) (by kernel_rfl) (fun _ _ _ h => h) (Or.inl ⟨by rfl, ?_⟩) ?_
                      rotate_left
                      · (intro w; go_simp; try with_reducible rfl)
                      refine wpAny_ready (rs := [7]) (by kernel_rfl) (by simp) ?_
                      refine AllReady.cons rfl (fun K hK => ?_) ?_
                      · go_simp
                        refine hK _ _ ?_
                        clear hK K
                        refine wpAny_done (by kernel_rfl) ?_ _
                        go_wp2
                        exact close_b hS hX hszW hmm hr1 fr1 ho1 h2'
                      exact AllReady.nil
                    exact AllReady.nil
                  exact AllReady.nil
                refine AllReady.cons rfl (fun K hK => ?_) ?_
                · go_simp
                  refine hK _ _ ?_
                  clear hK K
                  refine wpAny_take (i := 5) (v := ?_) rfl (by kernel_rfl) (by kernel_rfl) (by kernel_rfl) (fun _ _ _ h => h) (Or.inl ⟨by rfl, ?_⟩) ?_
                  rotate_left
                  · (intro w; go_simp; try with_reducible rfl)
                  refine wpAny_ready (rs := [3]) (by kernel_rfl) (by simp) ?_
                  refine AllReady.cons rfl (fun K hK => ?_) ?_
                  · refine step_append_sl rfl (.tmp 65) (.tmp 67) 22 rfl i2 _ 8 Try.underlying22 hi hz0 hz1 hz2 rfl (by decide) _ ob rfl (hsl.fr0 (((Fr.refl [] W).alloc _).drew)) _ 1 1 [RI.ci z] rfl rfl (Cells.one (Holds.new W 2 #[RI.ci z])) (by simp [RI.ci, Value.oneCell']) hmx hby ?_; intro v' w1 o1 hs1 hf1 ho1 hm1; obtain ⟨g', rfl⟩ := hm1 (by omega); obtain ⟨c', rfl, hr1⟩ := hs1.own_row; have fr1 : Fr ob.toList W w1 := (((Fr.refl _ W).alloc _).drew).trans hf1; have b1 := (hS.bb.fr fr1 hba).cell 0; have b2 := (hS.bb.fr fr1 hba).frozen 0; have n1 : w1.cell? ⟨C + 1 + 1 + 1, 0, none⟩ = some (.int .i64 (pre.length : Int)) := (by have := (hS.bf.fr fr1 hbn).cell 0; simpa using this); have n2 := (hS.bf.fr fr1 hbn).frozen 0
                    try go_simp
                    refine hK _ _ ?_
                    clear hK K
                    refine wpAny_ready (rs := [6]) (by kernel_rfl) (by simp) ?_
                    refine AllReady.cons rfl (fun K hK => ?_) ?_
                    · go_simp
                      refine hK _ _ ?_
                      clear hK K
                      refine wpAny_ready (rs := [7]) (by kernel_rfl) (by simp) ?_
                      refine AllReady.cons rfl (fun K hK => ?_) ?_
                      · go_simp
                        refine hK _ _ ?_
                        clear hK K
                        refine wpAny_done (by kernel_rfl) ?_ _
                        go_wp2
                        exact close_b hS hX hszW hmm hr1 fr1 ho1 h2'
                      exact AllReady.nil
                    exact AllReady.nil
                  exact AllReady.nil
                exact AllReady.nil
              refine AllReady.cons rfl (fun K hK => ?_) ?_
              · go_simp
                refine hK _ _ ?_
                clear hK K
                refine wpAny_take (i := 5) (v := ?_) rfl (by kernel_rfl) (by kernel_rfl) (by kernel_rfl) (fun _ _ _ h => h) (Or.inl ⟨by rfl, ?_⟩) ?_
                rotate_left
                · (intro w; go_simp; try with_reducible rfl)
                refine wpAny_ready (rs := [2]) (by kernel_rfl) (by simp) ?_
                refine AllReady.cons rfl (fun K hK => ?_) ?_
                · go_simp
                  refine hK _ _ ?_
                  clear hK K
                  refine wpAny_ready (rs := [3]) (by kernel_rfl) (by simp) ?_
                  refine AllReady.cons rfl (fun K hK => ?_) ?_
                  · refine step_append_sl rfl (.tmp 65) (.tmp 67) 22 rfl i2 _ 8 Try.underlying22 hi hz0 hz1 hz2 rfl (by decide) _ ob rfl (hsl.fr0 (((Fr.refl [] W).alloc _).drew)) _ 1 1 [RI.ci z] rfl rfl (Cells.one (Holds.new W 2 #[RI.ci z])) (by simp [RI.ci, Value.oneCell']) hmx hby ?_; intro v' w1 o1 hs1 hf1 ho1 hm1; obtain ⟨g', rfl⟩ := hm1 (by omega); obtain ⟨c', rfl, hr1⟩ := hs1.own_row; have fr1 : Fr ob.toList W w1 := (((Fr.refl _ W).alloc _).drew).trans hf1; have b1 := (hS.bb.fr fr1 hba).cell 0; have b2 := (hS.bb.fr fr1 hba).frozen 0; have n1 : w1.cell? ⟨C + 1 + 1 + 1, 0, none⟩ = some (.int .i64 (pre.length : Int)) := (by have := (hS.bf.fr fr1 hbn).cell 0; simpa using this); have n2 := (hS.bf.fr fr1 hbn).frozen 0
                    try go_simp
                    refine hK _ _ ?_
                    clear hK K
                    refine wpAny_ready (rs := [6]) (by kernel_rfl) (by simp) ?_
                    refine AllReady.cons rfl (fun K hK => ?_) ?_
                    · go_simp
                      refine hK _ _ ?_
                      clear hK K
                      refine wpAny_ready (rs := [7]) (by kernel_rfl) (by simp) ?_
                      refine AllReady.cons rfl (fun K hK => ?_) ?_
                      · go_simp
                        refine hK _ _ ?_
                        clear hK K
                        refine wpAny_done (by kernel_rfl) ?_ _
                        go_wp2
                        exact close_b hS hX hszW hmm hr1 fr1 ho1 h2'
                      exact AllReady.nil
                    exact AllReady.nil
                  exact AllReady.nil
                exact AllReady.nil
              exact AllReady.nil
            refine AllReady.cons rfl (fun K hK => ?_) ?_
            · go_simp
              refine hK _ _ ?_
              clear hK K
              refine wpAny_ready (rs := [0, 4]) (by kernel_rfl) (by simp) ?_
              refine AllReady.cons rfl (fun K hK => ?_) ?_
              · go_simp
                refine hK _ _ ?_
                clear hK K
                refine wpAny_ready (rs := [3, 4]) (by kernel_rfl) (by simp) ?_
                refine AllReady.cons rfl (fun K hK => ?_) ?_
                · refine step_append_sl rfl (.tmp 65) (.tmp 67) 22 rfl i2 _ 8 Try.underlying22 hi hz0 hz1 hz2 rfl (by decide) _ ob rfl (hsl.fr0 (((Fr.refl [] W).alloc _).drew)) _ 1 1 [RI.ci z] rfl rfl (Cells.one (Holds.new W 2 #[RI.ci z])) (by simp [RI.ci, Value.oneCell']) hmx hby ?_; intro v' w1 o1 hs1 hf1 ho1 hm1; obtain ⟨g', rfl⟩ := hm1 (by omega); obtain ⟨c', rfl, hr1⟩ := hs1.own_row; have fr1 : Fr ob.toList W w1 := (((Fr.refl _ W).alloc _).drew).trans hf1; have b1 := (hS.bb.fr fr1 hba).cell 0; have b2 := (hS.bb.fr fr1 hba).frozen 0; have n1 : w1.cell? ⟨C + 1 + 1 + 1, 0, none⟩ = some (.int .i64 (pre.length : Int)) := (by have := (hS.bf.fr fr1 hbn).cell 0; simpa using this); have n2 := (hS.bf.fr fr1 hbn).frozen 0
                  try go_simp
                  refine hK _ _ ?_
                  clear hK K
                  refine wpAny_ready (rs := [4, 6]) (by kernel_rfl) (by simp) ?_
                  refine AllReady.cons rfl (fun K hK => ?_) ?_
                  · go_simp
                    refine hK _ _ ?_
                    clear hK K
                    refine wpAny_take (i := 5) (v := ?_) rfl (by kernel_rfl) (by kernel_rfl) (by kernel_rfl) (fun _ _ _ h => h) (Or.inl ⟨by rfl, ?_⟩) ?_
                    rotate_left
                    · (intro w; go_simp; try with_reducible rfl)
                    refine wpAny_ready (rs := [6]) (by kernel_rfl) (by simp) ?_
                    refine AllReady.cons rfl (fun K hK => ?_) ?_
                    · go_simp
                      refine hK _ _ ?_
                      clear hK K
                      refine wpAny_ready (rs := [7]) (by kernel_rfl) (by simp) ?_
                      refine AllReady.cons rfl (fun K hK => ?_) ?_
                      · go_simp
                        refine hK _ _ ?_
                        clear hK K
                        refine wpAny_done (by kernel_rfl) ?_ _
                        go_wp2
                        exact close_b hS hX hszW hmm hr1 fr1 ho1 h2'
                      exact AllReady.nil
                    exact AllReady.nil
                  refine AllReady.cons rfl (fun K hK => ?_) ?_
                  · go_simp
                    refine hK _ _ ?_
                    clear hK K
                    refine wpAny_ready (rs := [4]) (by kernel_rfl) (by simp) ?_
                    refine AllReady.cons rfl (fun K hK => ?_) ?_
                    · go_simp
                      refine hK _ _ ?_
                      clear hK K
                      refine wpAny_take (i := 5) (v := ?_) rfl (by kernel_rfl) (by kernel_rfl) (by kernel_rfl) (fun _ _ _ h => h) (Or.inl ⟨by rfl, ?_⟩) ?_
                      rotate_left
                      · (intro w; go_simp; try with_reducible rfl)
                      refine wpAny_ready (rs := [7]) (by kernel_rfl) (by simp) ?_
                      refine AllReady.cons rfl (fun K hK => ?_) ?_
                      · go_simp
                        refine hK _ _ ?_
                        clear hK K
                        refine wpAny_done (by kernel_rfl) ?_ _
                        go_wp2
                        exact close_b hS hX hszW hmm hr1 fr1 ho1 h2'
                      exact AllReady.nil
                    exact AllReady.nil
                  exact AllReady.nil
                refine AllReady.cons rfl (fun K hK => ?_) ?_
                · go_simp
                  refine hK _ _ ?_
                  clear hK K
                  refine wpAny_take (i := 5) (v := ?_) rfl (by kernel_rfl) (by kernel_rfl) (by kernel_rfl) (fun _ _ _ h => h) (Or.inl ⟨by rfl, ?_⟩) ?_
                  rotate_left
                  · (intro w; go_simp; try with_reducible rfl)
                  refine wpAny_ready (rs := [3]) (by kernel_rfl) (by simp) ?_
                  refine AllReady.cons rfl (fun K hK => ?_) ?_
                  · refine step_append_sl rfl (.tmp 65) (.tmp 67) 22 rfl i2 _ 8 Try.underlying22 hi hz0 hz1 hz2 rfl (by decide) _ ob rfl (hsl.fr0 (((Fr.refl [] W).alloc _).drew)) _ 1 1 [RI.ci z] rfl rfl (Cells.one (Holds.new W 2 #[RI.ci z])) (by simp [RI.ci, Value.oneCell']) hmx hby ?_; intro v' w1 o1 hs1 hf1 ho1 hm1; obtain ⟨g', rfl⟩ := hm1 (by omega); obtain ⟨c', rfl, hr1⟩ := hs1.own_row; have fr1 : Fr ob.toList W w1 := (((Fr.refl _ W).alloc _).drew).trans hf1; have b1 := (hS.bb.fr fr1 hba).cell 0; have b2 := (hS.bb.fr fr1 hba).frozen 0; have n1 : w1.cell? ⟨C + 1 + 1 + 1, 0, none⟩ = some (.int .i64 (pre.length : Int)) := (by have := (hS.bf.fr fr1 hbn).cell 0; simpa using this); have n2 := (hS.bf.fr fr1 hbn).frozen 0
                    try go_simp
                    refine hK _ _ ?_
                    clear hK K
                    refine wpAny_ready (rs := [6]) (by kernel_rfl) (by simp) ?_
                    refine AllReady.cons rfl (fun K hK => ?_) ?_
                    · go_simp
                      refine hK _ _ ?_
                      clear hK K
                      refine wpAny_ready (rs := [7]) (by kernel_rfl) (by simp) ?_
                      refine AllReady.cons rfl (fun K hK => ?_) ?_
                      · go_simp
                        refine hK _ _ ?_
                        clear hK K
                        refine wpAny_done (by kernel_rfl) ?_ _
                        go_wp2
                        exact close_b hS hX hszW hmm hr1 fr1 ho1 h2'
                      exact AllReady.nil
                    exact AllReady.nil
                  exact AllReady.nil
                exact AllReady.nil
              refine AllReady.cons rfl (fun K hK => ?_) ?_
              · go_simp
                refine hK _ _ ?_
                clear hK K
                refine wpAny_take (i := 5) (v := ?_) rfl (by kernel_rfl) (by kernel_rfl) (by kernel_rfl) (fun _ _ _ h => h) (Or.inl ⟨by rfl, ?_⟩) ?_
                rotate_left
                · (intro w; go_simp; try with_reducible rfl)
                refine wpAny_ready (rs := [0]) (by kernel_rfl) (by simp) ?_
                refine AllReady.cons rfl (fun K hK => ?_) ?_
                · go_simp
                  refine hK _ _ ?_
                  clear hK K
                  refine wpAny_ready (rs := [3]) (by kernel_rfl) (by simp) ?_
                  refine AllReady.cons rfl (fun K hK => ?_) ?_
                  · refine step_append_sl rfl (.tmp 65) (.tmp 67) 22 rfl i2 _ 8 Try.underlying22 hi hz0 hz1 hz2 rfl (by decide) _ ob rfl (hsl.fr0 (((Fr.refl [] W).alloc _).drew)) _ 1 1 [RI.ci z] rfl rfl (Cells.one (Holds.new W 2 #[RI.ci z])) (by simp [RI.ci, Value.oneCell']) hmx hby ?_; intro v' w1 o1 hs1 hf1 ho1 hm1; obtain ⟨g', rfl⟩ := hm1 (by omega); obtain ⟨c', rfl, hr1⟩ := hs1.own_row; have fr1 : Fr ob.toList W w1 := (((Fr.refl _ W).alloc _).drew).trans hf1; have b1 := (hS.bb.fr fr1 hba).cell 0; have b2 := (hS.bb.fr fr1 hba).frozen 0; have n1 : w1.cell? ⟨C + 1 + 1 + 1, 0, none⟩ = some (.int .i64 (pre.length : Int)) := (by have := (hS.bf.fr fr1 hbn).cell 0; simpa using this); have n2 := (hS.bf.fr fr1 hbn).frozen 0
                    try go_simp
                    refine hK _ _ ?_
                    clear hK K
                    refine wpAny_ready (rs := [6]) (by kernel_rfl) (by simp) ?_
                    refine AllReady.cons rfl (fun K hK => ?_) ?_
                    · go_simp
                      refine hK _ _ ?_
                      clear hK K
                      refine wpAny_ready (rs := [7]) (by kernel_rfl) (by simp) ?_
                      refine AllReady.cons rfl (fun K hK => ?_) ?_
                      · go_simp
                        refine hK _ _ ?_
                        clear hK K
                        refine wpAny_done (by kernel_rfl) ?_ _
                        go_wp2
                        exact close_b hS hX hszW hmm hr1 fr1 ho1 h2'
                      exact AllReady.nil
                    exact AllReady.nil
                  exact AllReady.nil
                exact AllReady.nil
              exact AllReady.nil
            refine AllReady.cons rfl (fun K hK => ?_) ?_
            · go_simp
              refine hK _ _ ?_
              clear hK K
              refine wpAny_take (i := 5) (v := ?_) rfl (by kernel_rfl) (by kernel_rfl) (by kernel_rfl) (fun _ _ _ h => h) (Or.inl ⟨by rfl, ?_⟩) ?_
              rotate_left
              · (intro w; go_simp; try with_reducible rfl)
              refine wpAny_ready (rs := [0, 2]) (by kernel_rfl) (by simp) ?_
              refine AllReady.cons rfl (fun K hK => ?_) ?_
              · go_simp
                refine hK _ _ ?_
                clear hK K
                refine wpAny_ready (rs := [2]) (by kernel_rfl) (by simp) ?_
                refine AllReady.cons rfl (fun K hK => ?_) ?_
                · go_simp
                  refine hK _ _ ?_
                  clear hK K
                  refine wpAny_ready (rs := [3]) (by kernel_rfl) (by simp) ?_
                  refine AllReady.cons rfl (fun K hK => ?_) ?_
                  · refine step_append_sl rfl (.tmp 65) (.tmp 67) 22 rfl i2 _ 8 Try.underlying22 hi hz0 hz1 hz2 rfl (by decide) _ ob rfl (hsl.fr0 (((Fr.refl [] W).alloc _).drew)) _ 1 1 [RI.ci z] rfl rfl (Cells.one (Holds.new W 2 #[RI.ci z])) (by simp [RI.ci, Value.oneCell']) hmx hby ?_; intro v' w1 o1 hs1 hf1 ho1 hm1; obtain ⟨g', rfl⟩ := hm1 (by omega); obtain ⟨c', rfl, hr1⟩ := hs1.own_row; have fr1 : Fr ob.toList W w1 := (((Fr.refl _ W).alloc _).drew).trans hf1; have b1 := (hS.bb.fr fr1 hba).cell 0; have b2 := (hS.bb.fr fr1 hba).frozen 0; have n1 : w1.cell? ⟨C + 1 + 1 + 1, 0, none⟩ = some (.int .i64 (pre.length : Int)) := (by have := (hS.bf.fr fr1 hbn).cell 0; simpa using this); have n2 := (hS.bf.fr fr1 hbn).frozen 0
                    try go_simp
                    refine hK _ _ ?_
                    clear hK K
                    refine wpAny_ready (rs := [6]) (by kernel_rfl) (by simp) ?_
                    refine AllReady.cons rfl (fun K hK => ?_) ?_
                    · go_simp
                      refine hK _ _ ?_
                      clear hK K
                      refine wpAny_ready (rs := [7]) (by kernel_rfl) (by simp) ?_
                      refine AllReady.cons rfl (fun K hK => ?_) ?_
                      · go_simp
                        refine hK _ _ ?_
                        clear hK K
                        refine wpAny_done (by kernel_rfl) ?_ _
                        go_wp2
                        exact close_b hS hX hszW hmm hr1 fr1 ho1 h2'
                      exact AllReady.nil
                    exact AllReady.nil
                  exact AllReady.nil
                exact AllReady.nil
              refine AllReady.cons rfl (fun K hK => ?_) ?_
              · go_simp
                refine hK _ _ ?_
                clear hK K
                refine wpAny_ready (rs := [0]) (by kernel_rfl) (by simp) ?_
                refine AllReady.cons rfl (fun K hK => ?_) ?_
                · go_simp
                  refine hK _ _ ?_
                  clear hK K
                  refine wpAny_ready (rs := [3]) (by kernel_rfl) (by simp) ?_
                  refine AllReady.cons rfl (fun K hK => ?_) ?_
                  · refine step_append_sl rfl (.tmp 65) (.tmp 67) 22 rfl i2 _ 8 Try.underlying22 hi hz0 hz1 hz2 rfl (by decide) _ ob rfl (hsl.fr0 (((Fr.refl [] W).alloc _).drew)) _ 1 1 [RI.ci z] rfl rfl (Cells.one (Holds.new W 2 #[RI.ci z])) (by simp [RI.ci, Value.oneCell']) hmx hby ?_; intro v' w1 o1 hs1 hf1 ho1 hm1; obtain ⟨g', rfl⟩ := hm1 (by omega); obtain ⟨c', rfl, hr1⟩ := hs1.own_row; have fr1 : Fr ob.toList W w1 := (((Fr.refl _ W).alloc _).drew).trans hf1; have b1 := (hS.bb.fr fr1 hba).cell 0; have b2 := (hS.bb.fr fr1 hba).frozen 0; have n1 : w1.cell? ⟨C + 1 + 1 + 1, 0, none⟩ = some (.int .i64 (pre.length : Int)) := (by have := (hS.bf.fr fr1 hbn).cell 0; simpa using this); have n2 := (hS.bf.fr fr1 hbn).frozen 0
                    try go_simp
                    refine hK _ _ ?_
                    clear hK K
                    refine wpAny_ready (rs := [6]) (by kernel_rfl) (by simp) ?_
                    refine AllReady.cons rfl (fun K hK => ?_) ?_
                    · go_simp
                      refine hK _ _ ?_
                      clear hK K
                      refine wpAny_ready (rs := [7]) (by kernel_rfl) (by simp) ?_
                      refine AllReady.cons rfl (fun K hK => ?_) ?_
                      · go_simp
                        refine hK _ _ ?_
                        clear hK K
                        refine wpAny_done (by kernel_rfl) ?_ _
                        go_wp2
                        exact close_b hS hX hszW hmm hr1 fr1 ho1 h2'
                      exact AllReady.nil
                    exact AllReady.nil
                  exact AllReady.nil
                exact AllReady.nil
              exact AllReady.nil
            exact AllReady.nil
        case done =>
          rintro E ps W hE hps hI hmE
          obtain ⟨vb, ob, k, hk, hS, hm⟩ := done2 hps hI
          exact ⟨.inl rfl, E, vb, ob, k, rfl, hk, hS, hm, by omega, hmE⟩
        case stop =>
          rintro E c ps W hE hps hI hmE
          obtain ⟨rfl, vb, ob, k, hk, hS, hm⟩ := stop2 hps hI
          exact wpIn_exit ⟨.inr rfl, E, vb, ob, k, rfl, hk, hS, hm, by omega, hmE⟩
        case rest2 =>
          clear s3 bx hsz3 hm3
          rintro a' W4 ⟨E, vb, ob, k2, rfl, hk2, s4, hm4, hE, hmE⟩
          obtain rfl : k2 = k1 := by omega
          obtain ⟨pa, ca, rfl, hpa⟩ := sl_reads (n := k2) s4.sa s4.ma (by simp [prs_length])
          obtain ⟨pb, cb, rfl, hpb⟩ := sl_reads (n := k2) s4.sb s4.mb (bks_length xs k2)
          have ha0 : W4.cell? ⟨C, 0, none⟩ = some (.slice pa k2 ca) := s4.ba.cell 0
          have hb0 : W4.cell? ⟨C + 1, 0, none⟩ = some (.slice pb k2 cb) := s4.bb.cell 0
          have cs : W4.cell? ⟨B, 0, none⟩ = some (.int .i64 stop) := s4.stp.cell 0
          have hxn : xs.length = min len M := by rw [HXS.out, win_length]
          have HPA := Lib.hid hpa
          have HPB := Lib.hid hpb
          clear hpa hpb
          have h1 : max most 1 = (M : Int) := HM.out.symm
          have h2 : min (len : Int) (M : Int) = (xs.length : Int) := by omega
          obtain ⟨m1, h3⟩ : ∃ m1, min (xs.length : Int) stop = m1 := ⟨_, rfl⟩
          have h4 : max m1 0 = (k2 : Int) := by omega
          have HXN := Lib.hid hxn
          clear hk1 hk2 hxn
          go_wp2_with fail
          clear ha0 hb0 cs
          go_loopw [18] (fun i wr => ∃ j : Nat, j ≤ k2 ∧ i = .int .i64 j ∧ Fr [] W4 wr) (fun i _ => k2 - (intOf i).toNat)
          case atStart => exact ⟨0, Nat.zero_le _, rfl, Fr.refl _ _⟩
          case round =>
            obtain ⟨j, hj, rfl, hf⟩ := hrel
            have s5 := s4.keep0 hf
            have ha0 : wr.cell? ⟨C, 0, none⟩ = some (.slice pa k2 ca) := s5.ba.cell 0
            have hb0 : wr.cell? ⟨C + 1, 0, none⟩ = some (.slice pb k2 cb) := s5.bb.cell 0
            by_cases hlt : j < k2
            · have hxn := HXN.out
              obtain ⟨ga, rfl, hca⟩ := HPA.out j hlt
              obtain ⟨gb, rfl, hcb⟩ := HPB.out j hlt
              rw [prs_at _ _ _ hlt] at hca
              rw [bks_at _ _ _ hlt] at hcb
              obtain ⟨b, off, rfl, hb, hc⟩ := s5.ins (by omega)
              obtain ⟨q, hq⟩ : ∃ q : Nat, q = len - xs.length := ⟨_, rfl⟩
              obtain ⟨p1, hp1⟩ : ∃ p1 : Nat, p1 = q + j := ⟨_, rfl⟩
              obtain ⟨l1, hl1⟩ : ∃ l1 : Nat, l1 = len - 1 := ⟨_, rfl⟩
              obtain ⟨p2, hp2⟩ : ∃ p2 : Nat, p2 = l1 - j := ⟨_, rfl⟩
              have hx1 : xs[j]?.getD 0 = L p1 := by rw [HXS.out, win_get L (by omega), Option.getD_some]; congr 1; omega
              have hx2 : xs[xs.length - 1 - j]?.getD 0 = L p2 := by
                obtain ⟨t, ht⟩ : ∃ t, t = xs.length - 1 - j := ⟨_, rfl⟩
                rw [← ht, HXS.out, win_get L (by omega), Option.getD_some]; congr 1; omega
              rw [hx1] at hca
              rw [hx2] at hcb
              have w1 : IntKind.i64.wrap ((len : Int) - (xs.length : Int)) = (q : Int) := (IntWalk.i64_in _ (by omega)).trans (by omega)
              have w2 : IntKind.i64.wrap ((q : Int) + (j : Int)) = (p1 : Int) := (IntWalk.i64_in _ (by omega)).trans (by omega)
              have w3 : IntKind.i64.wrap ((len : Int) - 1) = (l1 : Int) := (IntWalk.i64_in _ (by omega)).trans (by omega)
              have w4 : IntKind.i64.wrap ((l1 : Int) - (j : Int)) = (p2 : Int) := (IntWalk.i64_in _ (by omega)).trans (by omega)
              have w5 : IntKind.i64.wrap ((j : Int) + 1) = (j : Int) + 1 := IntWalk.i64_in _ (by omega)
              have c1 := hc p1 (by omega)
              have c2 := hc p2 (by omega)
              have c3 : wr.cell? ⟨ga, j, none⟩ = some (.int .i64 (L p1)) := (World.cell?_of_block (w := W4) (hf.block ga (block_lt_of_cell hca) (by simp))).trans hca
              have c4 : wr.cell? ⟨gb, j, none⟩ = some (.int .i64 (L p2)) := (World.cell?_of_block (w := W4) (hf.block gb (block_lt_of_cell hcb) (by simp))).trans hcb
              have b1 : (p1 : Int) < (len : Int) := by omega
              have b2 : (p2 : Int) < (len : Int) := by omega
              have b3 : (j : Int) < (k2 : Int) := by omega
              clear hxn hc hq hp1 hl1 hp2 hx1 hx2 hca hcb
              go_wp2_with fail
              go_quiet (fail)
              go_wp2_with fail
              go_roundw
              case rel => exact ⟨j + 1, by omega, by simp, by first | exact hf | exact hf.drew | exact hf.drewN _⟩
              case measure => simp [intOf]; omega
            · obtain rfl : j = k2 := by omega
              go_wp2_with fail
              refine (RI.len_any _ r M v xs own s5.ring xs.length rfl).mono ?_
              rintro e W6 ⟨rfl, rfl⟩
              go_wp2_with fail
              have hmD : wr.heap[D]? = some (.deferred (some [])) := (hf.block D (Array.getElem?_eq_some_iff.1 hm4).1 (by simp)).trans hm4
              have hmE' : wr.heap[E]? = some (.deferred (some [])) := (hf.block E (Array.getElem?_eq_some_iff.1 hmE).1 (by simp)).trans hmE
              have hmD' : (wr.putObj E (.deferred none)).heap[D]? = some (.deferred (some [])) := (World.putObj_heap_other (by omega)).trans hmD
              refine ⟨by simp, .inl ⟨_, _, rfl, run_takeDeferred hmE', ⟨by simp, .inl ⟨_, _, rfl, run_takeDeferred hmD', ?_⟩⟩⟩⟩
              exact ⟨_, results_tmp rfl _ _ _, by simp, fr_putObj _ (fr_putObj _ s5.fr (by have := s5.wB; have := s5.Br; have := s5.rC; omega)) (by have := s5.wB; have := s5.Br; have := s5.rC; omega)⟩
end Go.Proofs.Ytmljpajegjioeaa
