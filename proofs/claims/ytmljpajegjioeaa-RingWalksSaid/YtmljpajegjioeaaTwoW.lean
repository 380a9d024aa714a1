/- The walk of RingTwo. -/
import Derived.Test.YtmljpajegjioeaaIns
import Derived.Laws.Bits128
namespace Go.Proofs.Ytmljpajegjioeaa
open Go.RowKit
theorem and31 (n : Int) : bits .and .i64 n 31 = n % 32 := by
  have h31 : (BitVec.ofInt 64 31).toNat = 2 ^ 5 - 1 := by decide
  have key : (BitVec.ofInt 64 n &&& BitVec.ofInt 64 31).toNat = (n % ((2 ^ 64 : Nat) : Int)).toNat % 2 ^ 5 := by
    rw [BitVec.toNat_and, BitVec.toNat_ofInt, h31, Nat.and_two_pow_sub_one_eq_mod]
  show IntKind.i64.wrap ((BitVec.ofInt 64 n &&& BitVec.ofInt 64 31).toNat : Nat) = n % 32
  rw [key, IntKind.wrap_i64]
  omega
/-- Two rings that share no block. -/
def Sep (x : Nat) (ox : Option Nat) (y : Nat) (oy : Option Nat) : Prop := ∀ g, g ∈ x :: ox.toList → g ∉ y :: oy.toList
theorem Sep.symm {x y : Nat} {ox oy : Option Nat} (h : Sep x ox y oy) : Sep y oy x ox := fun g hg hg' => h g hg' hg
theorem Sep.left {x y : Nat} {ox oy : Option Nat} (h : Sep x ox y oy) : y ∉ x :: ox.toList := fun hy => h y hy (by simp)
theorem Sep.right {x y : Nat} {ox oy : Option Nat} (h : Sep x ox y oy) : ∀ g, g ∈ oy.toList → g ∉ x :: ox.toList := fun g hg hx => h g hx (List.mem_cons_of_mem _ hg)
theorem Sep.new {x y sz : Nat} (h : x < sz) (hy : sz ≤ y) : Sep x none y none := by
  intro g hg; simp at hg ⊢; omega
theorem Sep.next {x y sz : Nat} {ox ox' oy : Option Nat} (h : Sep x ox y oy) (hn : ox' = ox ∨ ∃ g, ox' = some g ∧ sz ≤ g) (hy : y < sz) (hoy : ∀ g, g ∈ oy.toList → g < sz) : Sep x ox' y oy := by
  rcases hn with rfl | ⟨g, rfl, hg⟩
  · exact h
  · intro z hz hz'
    simp only [Option.toList_some, List.mem_cons, List.not_mem_nil, or_false] at hz
    rcases hz with rfl | rfl
    · exact h z (by simp) hz'
    · rcases List.mem_cons.1 hz' with rfl | hz'
      · omega
      · have := hoy z hz'; omega
theorem RI.RingAt.lt {w : World} {r : Nat} {most : Int} {v : Value} {xs : List Int} {own : Option Nat} (h : RI.RingAt w r most v xs own) : r < w.heap.size := h.1.lt
theorem RI.RingAt.own_lt {w : World} {r : Nat} {most : Int} {v : Value} {xs : List Int} {own : Option Nat} (h : RI.RingAt w r most v xs own) : ∀ g, g ∈ own.toList → g < w.heap.size := by
  obtain ⟨_, ⟨rfl, _⟩ | ⟨g, cap, rfl, _, hr⟩⟩ := h
  · simp
  · simpa using hr.lt
/-- One more, whether full or not. -/
theorem pushI_next (w : World) (r M i : Nat) (v : Value) (own : Option Nat) (L : Nat → Int) (h : RI.RingAt w r (M : Int) v (win L (i - M) (min i M)) own) (hM : 1 ≤ M) (hM2 : M ≤ 1000 ∨ i ≤ 1000) (hl : i ≤ 1000) :
    Calls Try.prog 9 #[.pointer (some ⟨r, 0, none⟩), .int .i64 (L i)] w fun e w' => ∃ x b v' own', e = .returned (.tuple #[.int .i64 x, .bool b]) ∧ RI.RingAt w' r (M : Int) v' (win L (i + 1 - M) (min (i + 1) M)) own' ∧ Fr (r :: own.toList) w w' ∧ (own' = own ∨ ∃ g, own' = some g ∧ w.heap.size ≤ g) := by
  by_cases hi : i < M
  · rw [show i - M = 0 by omega, show min i M = i by omega] at h
    rw [show i + 1 - M = 0 by omega, show min (i + 1) M = i + 1 by omega]
    refine (pushI_room w r M i v own L h hi hl).mono ?_
    rintro e w' ⟨v', o', rfl, hr⟩
    exact ⟨_, _, v', o', rfl, hr⟩
  · obtain ⟨s, rfl⟩ : ∃ s, i = s + M := ⟨i - M, by omega⟩
    rw [show s + M - M = s by omega, show min (s + M) M = M by omega] at h
    rw [show s + M + 1 - M = s + 1 by omega, show min (s + M + 1) M = M by omega]
    refine (pushI_all w r M s v own L h hM (by omega)).mono ?_
    rintro e w' ⟨v', o', rfl, hr⟩
    exact ⟨_, _, v', o', rfl, hr⟩
set_option maxRecDepth 100000 in
set_option maxHeartbeats 2000000 in
theorem two_le (w : World) (p q : Int) (m n : Nat) (hp : bits .and .i64 p 31 = ((m : Nat) : Int)) (hq : bits .and .i64 q 31 = ((n : Nat) : Int)) (hmn : m ≤ n) (hn : n < 32) (a : Option Addr) (len cap : Nat) (L : Nat → Int) (hA : IntsAt w w.heap.size a len L) (hl : len ≤ 80) :
    Calls Try.prog 4 #[.int .i64 p, .int .i64 q, .slice a len cap] w fun e w' => e = .returned (.bool true) ∧ Fr [] w w' := by
  have g1 : decide (n < m) = false := by simpa using hmn
  go_enter Try.func4, Try.ntmps4
  go_wp2_with fail
  refine (first_true _).mono ?_
  rintro e w1 ⟨rfl, r1⟩
  have hA1 := hA.fr r1 (Nat.le_refl _) (by simp)
  go_wp2_with fail
  refine (RI.new_any _ w1).mono ?_
  rintro e w2 ⟨x, rfl, hx, p2, r2⟩
  have hA2 := hA1.fr r2 r1.size (by simp)
  have r02 := r1.trans r2
  have hxb : w.heap.size ≤ x := Nat.le_trans r1.size hx
  rw [show max (1 + (m : Int)) 1 = ((m + 1 : Nat) : Int) by omega] at p2
  go_wp2_with fail
  refine (RI.new_any _ w2).mono ?_
  rintro e w3 ⟨y, rfl, hy, q3, r3⟩
  have hA3 := hA2.fr r3 r02.size (by simp)
  have r03 := r02.trans r3
  have hyb : w.heap.size ≤ y := Nat.le_trans r02.size hy
  rw [show max (1 + (n : Int)) 1 = ((n + 1 : Nat) : Int) by omega] at q3
  have p3 := p2.fr r3 (by simp) (by simp)
  have hxy : Sep x none y none := Sep.new p2.lt hy
  clear hA hA1 hA2 r1 r2 r02 r3 hx hy p2
  go_wp2_with fail
  go_loopw [9] (fun i wr => ∃ (k : Nat) (v : Value) (own : Option Nat) (u : Value) (own2 : Option Nat), k ≤ len ∧ i = .int .i64 k ∧ RI.RingAt wr x ((m + 1 : Nat) : Int) v (win L (k - (m + 1)) (min k (m + 1))) own ∧ RI.RingAt wr y ((n + 1 : Nat) : Int) u (win L (k - (n + 1)) (min k (n + 1))) own2 ∧ Sep x own y own2 ∧ (∀ g, g ∈ own.toList → w.heap.size ≤ g) ∧ (∀ g, g ∈ own2.toList → w.heap.size ≤ g) ∧ Fr [] w wr ∧ IntsAt wr w.heap.size a len L) (fun i _ => len - (intOf i).toNat)
  case atStart => exact ⟨0, _, none, _, none, Nat.zero_le _, rfl, by simpa [win_zero] using p3, by simpa [win_zero] using q3, hxy, by simp, by simp, r03, hA3⟩
  case round =>
    obtain ⟨k, v, own, u, ow2, hk, rfl, p, q, sp, ho, hu, r0, hA⟩ := hrel
    clear p3 q3 hxy r03 hA3
    have HO := Lib.hid ho
    have HU := Lib.hid hu
    clear ho hu
    by_cases hlt : k < len
    · obtain ⟨b, off, rfl, hb, hc⟩ := hA (by omega)
      have hck := hc k hlt
      clear hc
      go_wp2_with fail
      refine (pushI_next wr x (m + 1) k v own L p (by omega) (.inr (by omega)) (by omega)).mono ?_
      rintro e w4 ⟨_, _, v4, o4, rfl, p4, f4, h4⟩
      have ho4 := own_next HO.out r0.size h4
      have sp4 := sp.next h4 q.lt q.own_lt
      have q4 := q.fr f4 sp.left sp.right
      have hA4 := hA.fr f4 r0.size (cons_all hxb HO.out)
      have r4 := r0.step f4 (fun g hg => .inr (cons_all hxb HO.out g hg))
      have hck4 := IntsAt.at3 hA4 hlt
      have HO4 := Lib.hid ho4
      clear ho4 h4 p q sp hck HO r0 hA
      go_wp2_with fail
      refine (pushI_next w4 y (n + 1) k u ow2 L q4 (by omega) (.inr (by omega)) (by omega)).mono ?_
      rintro e w5 ⟨_, _, u5, o5, rfl, q5, f5, h5⟩
      have ho5 := own_next HU.out r4.size h5
      have sp5 := (sp4.symm.next h5 p4.lt p4.own_lt).symm
      have p5 := p4.fr f5 sp4.symm.left sp4.symm.right
      have hA5 := hA4.fr f5 r4.size (cons_all hyb HU.out)
      have r5 := r4.step f5 (fun g hg => .inr (cons_all hyb HU.out g hg))
      have HO5 := Lib.hid ho5
      clear ho5 h5 p4 q4 sp4 hck4 r4 hA4
      go_wp2_with fail
      go_roundw
      case rel => exact ⟨k + 1, v4, o4, u5, o5, by omega, by go_num, p5, q5, sp5, HO4.out, HO5.out, r5, hA5⟩
      case measure => simp [intOf]; omega
    · obtain rfl : k = len := by omega
      obtain ⟨s, d, c, hs1, hs2, hc1, hc2, rfl⟩ : ∃ s d c : Nat, k - (n + 1) = s ∧ k - (m + 1) = s + d ∧ min k (n + 1) = c + d ∧ min k (m + 1) = c ∧ k = s + d + c := ⟨k - (n + 1), min k (n + 1) - min k (m + 1), min k (m + 1), by omega, by omega, by omega, by omega, by omega⟩
      rw [hs2, hc2] at p
      rw [hs1, hc1] at q
      have hcm : c ≤ m + 1 := by omega
      have hcn : c + d ≤ n + 1 := by omega
      have hmin : ((c : Int) != if 1 + (m : Int) < (s : Int) + d + c then 1 + (m : Int) else (s : Int) + d + c) = false := by
        rw [show (if 1 + (m : Int) < (s : Int) + d + c then 1 + (m : Int) else (s : Int) + d + c) = c by split <;> omega]; simp
      have hd : (c : Int) + d - c = d := by omega
      have t1 : decide (1 + (m : Int) < c) = false := decide_eq_false (by omega)
      have t2 : decide (1 + (n : Int) < c + d) = false := decide_eq_false (by omega)
      clear hs1 hs2 hc1 hc2
      go_wp2_with fail
      refine (RI.len_any wr y _ u _ ow2 q (c + d) (win_length _ _ _)).mono ?_
      rintro e w' ⟨rfl, rfl⟩
      go_wp2_with fail
      refine (RI.len_any wr x _ v _ own p c (win_length _ _ _)).mono ?_
      rintro e w' ⟨rfl, rfl⟩
      go_wp2_with fail
      refine (RI.len_any wr x _ v _ own p c (win_length _ _ _)).mono ?_
      rintro e w' ⟨rfl, rfl⟩
      go_wp2_with fail
      refine (RI.len_any wr y _ u _ ow2 q (c + d) (win_length _ _ _)).mono ?_
      rintro e w' ⟨rfl, rfl⟩
      go_wp2_with fail
      refine (RI.len_any wr x _ v _ own p c (win_length _ _ _)).mono ?_
      rintro e w' ⟨rfl, rfl⟩
      go_wp2_with fail
      all_goals
        clear hmin hd t1 t2
        go_loop [11] (fun v => ∃ j : Nat, j ≤ c ∧ v = .int .i64 j) (fun v => c - (intOf v).toNat)
      case atStart => exact ⟨0, by omega, rfl⟩
      case atStart => exact ⟨0, by omega, rfl⟩
      all_goals
        obtain ⟨j, hj, rfl⟩ := hrel
        by_cases hjc : j < c
        · have e1 : (win L s (c + d))[j + d]? = some (L (s + d + j)) := by rw [win_get L (by omega), show s + (j + d) = s + d + j by omega]
          go_wp2_with fail
          refine (RI.len_any wr x _ v _ own p c (win_length _ _ _)).mono ?_
          rintro e w' ⟨rfl, rfl⟩
          go_wp2_with fail
          refine (RI.at_in wr x _ v _ own j (L (s + d + j)) p (win_get L hjc)).mono ?_
          rintro e w' ⟨rfl, rfl⟩
          go_wp2_with fail
          refine (RI.at_in wr y _ u _ ow2 (j + d) _ q e1).mono ?_
          rintro e w' ⟨rfl, rfl⟩
          go_wp2_with fail
          go_round
          case rel => exact ⟨j + 1, by omega, by go_num⟩
          case measure => simp [intOf]; omega
        · obtain rfl : c = j := by omega
          go_wp2_with fail
          refine (RI.len_any wr x _ v _ own p c (win_length _ _ _)).mono ?_
          rintro e w' ⟨rfl, rfl⟩
          go_wp2_with fail
          go_ret
          exact ⟨rfl, r0⟩
set_option maxRecDepth 100000 in
set_option maxHeartbeats 2000000 in
theorem two_gt (w : World) (p q : Int) (m n : Nat) (hp : bits .and .i64 p 31 = ((n : Nat) : Int)) (hq : bits .and .i64 q 31 = ((m : Nat) : Int)) (hmn : m < n) (hn : n < 32) (a : Option Addr) (len cap : Nat) (L : Nat → Int) (hA : IntsAt w w.heap.size a len L) (hl : len ≤ 80) :
    Calls Try.prog 4 #[.int .i64 p, .int .i64 q, .slice a len cap] w fun e w' => e = .returned (.bool true) ∧ Fr [] w w' := by
  have g1 : decide (m < n) = true := by simpa using hmn
  go_enter Try.func4, Try.ntmps4
  go_wp2_with fail
  refine (first_true _).mono ?_
  rintro e w1 ⟨rfl, r1⟩
  have hA1 := hA.fr r1 (Nat.le_refl _) (by simp)
  go_wp2_with fail
  refine (RI.new_any _ w1).mono ?_
  rintro e w2 ⟨x, rfl, hx, p2, r2⟩
  have hA2 := hA1.fr r2 r1.size (by simp)
  have r02 := r1.trans r2
  have hxb : w.heap.size ≤ x := Nat.le_trans r1.size hx
  rw [show max (1 + (m : Int)) 1 = ((m + 1 : Nat) : Int) by omega] at p2
  go_wp2_with fail
  refine (RI.new_any _ w2).mono ?_
  rintro e w3 ⟨y, rfl, hy, q3, r3⟩
  have hA3 := hA2.fr r3 r02.size (by simp)
  have r03 := r02.trans r3
  have hyb : w.heap.size ≤ y := Nat.le_trans r02.size hy
  rw [show max (1 + (n : Int)) 1 = ((n + 1 : Nat) : Int) by omega] at q3
  have p3 := p2.fr r3 (by simp) (by simp)
  have hxy : Sep x none y none := Sep.new p2.lt hy
  clear hA hA1 hA2 r1 r2 r02 r3 hx hy p2
  go_wp2_with fail
  go_loopw [9] (fun i wr => ∃ (k : Nat) (v : Value) (own : Option Nat) (u : Value) (own2 : Option Nat), k ≤ len ∧ i = .int .i64 k ∧ RI.RingAt wr x ((m + 1 : Nat) : Int) v (win L (k - (m + 1)) (min k (m + 1))) own ∧ RI.RingAt wr y ((n + 1 : Nat) : Int) u (win L (k - (n + 1)) (min k (n + 1))) own2 ∧ Sep x own y own2 ∧ (∀ g, g ∈ own.toList → w.heap.size ≤ g) ∧ (∀ g, g ∈ own2.toList → w.heap.size ≤ g) ∧ Fr [] w wr ∧ IntsAt wr w.heap.size a len L) (fun i _ => len - (intOf i).toNat)
  case atStart => exact ⟨0, _, none, _, none, Nat.zero_le _, rfl, by simpa [win_zero] using p3, by simpa [win_zero] using q3, hxy, by simp, by simp, r03, hA3⟩
  case round =>
    obtain ⟨k, v, own, u, ow2, hk, rfl, p, q, sp, ho, hu, r0, hA⟩ := hrel
    clear p3 q3 hxy r03 hA3
    have HO := Lib.hid ho
    have HU := Lib.hid hu
    clear ho hu
    by_cases hlt : k < len
    · obtain ⟨b, off, rfl, hb, hc⟩ := hA (by omega)
      have hck := hc k hlt
      clear hc
      go_wp2_with fail
      refine (pushI_next wr x (m + 1) k v own L p (by omega) (.inr (by omega)) (by omega)).mono ?_
      rintro e w4 ⟨_, _, v4, o4, rfl, p4, f4, h4⟩
      have ho4 := own_next HO.out r0.size h4
      have sp4 := sp.next h4 q.lt q.own_lt
      have q4 := q.fr f4 sp.left sp.right
      have hA4 := hA.fr f4 r0.size (cons_all hxb HO.out)
      have r4 := r0.step f4 (fun g hg => .inr (cons_all hxb HO.out g hg))
      have hck4 := IntsAt.at3 hA4 hlt
      have HO4 := Lib.hid ho4
      clear ho4 h4 p q sp hck HO r0 hA
      go_wp2_with fail
      refine (pushI_next w4 y (n + 1) k u ow2 L q4 (by omega) (.inr (by omega)) (by omega)).mono ?_
      rintro e w5 ⟨_, _, u5, o5, rfl, q5, f5, h5⟩
      have ho5 := own_next HU.out r4.size h5
      have sp5 := (sp4.symm.next h5 p4.lt p4.own_lt).symm
      have p5 := p4.fr f5 sp4.symm.left sp4.symm.right
      have hA5 := hA4.fr f5 r4.size (cons_all hyb HU.out)
      have r5 := r4.step f5 (fun g hg => .inr (cons_all hyb HU.out g hg))
      have HO5 := Lib.hid ho5
      clear ho5 h5 p4 q4 sp4 hck4 r4 hA4
      go_wp2_with fail
      go_roundw
      case rel => exact ⟨k + 1, v4, o4, u5, o5, by omega, by go_num, p5, q5, sp5, HO4.out, HO5.out, r5, hA5⟩
      case measure => simp [intOf]; omega
    · obtain rfl : k = len := by omega
      obtain ⟨s, d, c, hs1, hs2, hc1, hc2, rfl⟩ : ∃ s d c : Nat, k - (n + 1) = s ∧ k - (m + 1) = s + d ∧ min k (n + 1) = c + d ∧ min k (m + 1) = c ∧ k = s + d + c := ⟨k - (n + 1), min k (n + 1) - min k (m + 1), min k (m + 1), by omega, by omega, by omega, by omega, by omega⟩
      rw [hs2, hc2] at p
      rw [hs1, hc1] at q
      have hcm : c ≤ m + 1 := by omega
      have hcn : c + d ≤ n + 1 := by omega
      have hmin : ((c : Int) != if 1 + (m : Int) < (s : Int) + d + c then 1 + (m : Int) else (s : Int) + d + c) = false := by
        rw [show (if 1 + (m : Int) < (s : Int) + d + c then 1 + (m : Int) else (s : Int) + d + c) = c by split <;> omega]; simp
      have hd : (c : Int) + d - c = d := by omega
      have t1 : decide (1 + (m : Int) < c) = false := decide_eq_false (by omega)
      have t2 : decide (1 + (n : Int) < c + d) = false := decide_eq_false (by omega)
      clear hs1 hs2 hc1 hc2
      go_wp2_with fail
      refine (RI.len_any wr y _ u _ ow2 q (c + d) (win_length _ _ _)).mono ?_
      rintro e w' ⟨rfl, rfl⟩
      go_wp2_with fail
      refine (RI.len_any wr x _ v _ own p c (win_length _ _ _)).mono ?_
      rintro e w' ⟨rfl, rfl⟩
      go_wp2_with fail
      refine (RI.len_any wr x _ v _ own p c (win_length _ _ _)).mono ?_
      rintro e w' ⟨rfl, rfl⟩
      go_wp2_with fail
      refine (RI.len_any wr y _ u _ ow2 q (c + d) (win_length _ _ _)).mono ?_
      rintro e w' ⟨rfl, rfl⟩
      go_wp2_with fail
      refine (RI.len_any wr x _ v _ own p c (win_length _ _ _)).mono ?_
      rintro e w' ⟨rfl, rfl⟩
      go_wp2_with fail
      all_goals
        clear hmin hd t1 t2
        go_loop [11] (fun v => ∃ j : Nat, j ≤ c ∧ v = .int .i64 j) (fun v => c - (intOf v).toNat)
      case atStart => exact ⟨0, by omega, rfl⟩
      case atStart => exact ⟨0, by omega, rfl⟩
      all_goals
        obtain ⟨j, hj, rfl⟩ := hrel
        by_cases hjc : j < c
        · have e1 : (win L s (c + d))[j + d]? = some (L (s + d + j)) := by rw [win_get L (by omega), show s + (j + d) = s + d + j by omega]
          go_wp2_with fail
          refine (RI.len_any wr x _ v _ own p c (win_length _ _ _)).mono ?_
          rintro e w' ⟨rfl, rfl⟩
          go_wp2_with fail
          refine (RI.at_in wr x _ v _ own j (L (s + d + j)) p (win_get L hjc)).mono ?_
          rintro e w' ⟨rfl, rfl⟩
          go_wp2_with fail
          refine (RI.at_in wr y _ u _ ow2 (j + d) _ q e1).mono ?_
          rintro e w' ⟨rfl, rfl⟩
          go_wp2_with fail
          go_round
          case rel => exact ⟨j + 1, by omega, by go_num⟩
          case measure => simp [intOf]; omega
        · obtain rfl : c = j := by omega
          go_wp2_with fail
          refine (RI.len_any wr x _ v _ own p c (win_length _ _ _)).mono ?_
          rintro e w' ⟨rfl, rfl⟩
          go_wp2_with fail
          go_ret
          exact ⟨rfl, r0⟩
/-- RingTwo, whatever comes in. -/
theorem two_any (w : World) (p q : Int) (a : Option Addr) (len cap : Nat) (L : Nat → Int) (hA : IntsAt w w.heap.size a len L) :
    Calls Try.prog 4 #[.int .i64 p, .int .i64 q, .slice a len cap] w fun e w' => e = .returned (.bool true) ∧ Fr [] w w' := by
  by_cases hl : len ≤ 80
  · obtain ⟨m, hm, hm2⟩ : ∃ m : Nat, bits .and .i64 p 31 = (m : Int) ∧ m < 32 := ⟨(p % 32).toNat, by rw [and31]; omega, by omega⟩
    obtain ⟨n, hn, hn2⟩ : ∃ n : Nat, bits .and .i64 q 31 = (n : Int) ∧ n < 32 := ⟨(q % 32).toNat, by rw [and31]; omega, by omega⟩
    by_cases hmn : m ≤ n
    · exact two_le w p q m n hm hn hmn hn2 a len cap L hA hl
    · exact two_gt w p q n m hm hn (by omega) hm2 a len cap L hA hl
  · go_enter Try.func4, Try.ntmps4
    go_wp2_with fail
    refine (first_true _).mono ?_
    rintro e w1 ⟨rfl, r1⟩
    go_wp2_with fail
    refine (first_true _).mono ?_
    rintro e w2 ⟨rfl, r2⟩
    go_wp2_with fail
    go_ret
    exact ⟨rfl, r1.trans r2⟩
end Go.Proofs.Ytmljpajegjioeaa
