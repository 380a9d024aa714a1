/- The contracts of frame.Put and of the reference's Put. -/
import Derived.Test.YtgihjbmmggkepaaNext
import Derived.Lib.AppendStr
namespace Go.Proofs.Ytgihjbmmggkepaa
open Go.RowKit

theorem info5 : (Try.prog.info? 5).map (fun i => (i.zero, i.size, i.bytes)) = some (some (.int .u8 0), 1, 1) := by kernel_rfl
/-- The bytes as cells. -/
def bc (l : List UInt8) : List Value := l.map fun c => Value.int .u8 c.toNat
theorem bc_append (l m : List UInt8) : bc (l ++ m) = bc l ++ bc m := by simp [bc]
theorem bc_length (l : List UInt8) : (bc l).length = l.length := by simp [bc]
theorem bc_one (l : List UInt8) : ∀ u ∈ bc l, u.oneCell' = true := by
  intro u hu
  simp only [bc, List.mem_map] at hu
  obtain ⟨c, _, rfl⟩ := hu
  rfl
theorem BytesAt.cells {w : World} {B : Nat} {a : Option Addr} {l : List UInt8} (h : BytesAt w B a l) : Cells w a (bc l) := fun j u hu => by
  simp only [bc, List.getElem?_map, Option.map_eq_some_iff] at hu
  obtain ⟨c, hc, rfl⟩ := hu
  have hj : j < l.length := (List.getElem?_eq_some_iff.1 hc).1
  obtain ⟨b, off, rfl, _, hk⟩ := h (by omega)
  exact ⟨_, rfl, by rw [at_add]; exact hk j c hc⟩
/-- Since w: a slice value v that holds xs, its own block new; the frame that came in still lies in its box. -/
structure Got (w W : World) (T : TypeId) (k : Int) (s : ByteArray) (v : Value) (n : Nat) (xs : List Value) (own : Option Nat) : Prop where
  fr : Fr [] w W
  sl : Sl W 5 1 v n xs own
  new : ∀ g, g ∈ own.toList → w.heap.size < g
  box : Holds W w.heap.size T #[.int .i64 k, .string s]
section
variable {w W W' : World} {T : TypeId} {k : Int} {s : ByteArray} {v v' : Value} {n m : Nat} {xs ys : List Value} {own own' : Option Nat}
theorem Got.c0 (h : Got w W T k s v n xs own) : W.cell? ⟨w.heap.size, 0, none⟩ = some (.int .i64 k) := h.box.cell 0
theorem Got.c1 (h : Got w W T k s v n xs own) : W.cell? ⟨w.heap.size, 1, none⟩ = some (.string s) := h.box.cell 1
theorem Got.same (h : Got w W T k s v n xs own) (hf : Fr [] W W') : Got w W' T k s v n xs own := ⟨h.fr.trans hf, h.sl.fr0 hf, h.new, h.box.fr hf (by simp)⟩
theorem Got.next (h : Got w W T k s v n xs own) (hs : Sl W' 5 1 v' m ys own') (hf : Fr own.toList W W') (ho : own' = own ∨ ∃ g, own' = some g ∧ W.heap.size ≤ g) : Got w W' T k s v' m ys own' := by
  refine ⟨h.fr.step hf (fun x hx => .inr (Nat.le_of_lt (h.new x hx))), hs, ?_, h.box.fr hf (fun hx => absurd (h.new _ hx) (by omega))⟩
  rcases ho with rfl | ⟨g, rfl, hg⟩
  · exact h.new
  · have := h.box.lt
    simp; omega
theorem Cells.of_holds {g t : Nat} {cs : Array Value} (h : Holds w g t cs) : Cells w (some ⟨g, 0, none⟩) cs.toList := fun j u hu => ⟨_, rfl, by
  rw [at_add, Nat.zero_add, h.cell j]
  simpa using hu⟩
theorem Got.owns {g : Nat} (h : Got w W T k s v n xs (some g)) : W.ownsRow (w.heap.size + 1) 5 1 v n xs := by
  obtain ⟨c, rfl, cur, h1, h2, h3, h4, h5, h6⟩ := h.sl.own_row
  exact ⟨h6, .inr ⟨g, c, cur, rfl, h.new g (by simp), h1, h2, h3, h4, h5⟩⟩
theorem Got.of_owns {g : Nat} (h : Got w W T k s v n xs (some g)) (ho : W'.ownsRow (w.heap.size + 1) 5 1 v' m ys) (hg : W.grownBy W' v.ownBlock) (hn : v' ≠ .slice none 0 0) : ∃ g' c', v' = .slice (some ⟨g', 0, none⟩) m c' ∧ Got w W' T k s v' m ys (some g') := by
  obtain ⟨c, rfl, hr⟩ := h.sl.own_row
  have hf : Fr [g] W W' := Fr.of_grown hg (fun x hx => by simp [Value.ownBlock] at hx; simp [hx])
  obtain ⟨hl, ⟨rfl, _⟩ | ⟨g', c', cur, rfl, hb, h1, h2, h3, h4, h5⟩⟩ := ho
  · exact absurd rfl hn
  · refine ⟨g', c', rfl, h.fr.step hf (fun x hx => .inr ?_), Sl.row ⟨cur, h1, h2, h3, h4, h5, hl⟩, fun x hx => by simp at hx; omega, h.box.fr hf (fun hx => ?_)⟩
    · simp at hx; subst hx; exact Nat.le_of_lt (h.new x (by simp))
    · simp at hx; have := h.new g (by simp); omega
end
set_option maxHeartbeats 1000000 in
theorem put_range (w : World) (v : Value) (k : Int) (s : ByteArray) (hk : k < 0 ∨ 255 < k) :
    Calls Try.prog 10 #[v, .agg #[.int .i64 k, .string s]] w fun e w' => e = .returned (.tuple #[.slice none 0 0, .int .i64 12]) ∧ Fr [] w w' := by
  rcases hk with hk | hk
  all_goals
    go_enter Try.func10, Try.ntmps10
    go_wp2
    go_ret2
    exact ⟨rfl, (Fr.refl [] w).alloc _⟩
set_option maxHeartbeats 1000000 in
theorem put_long (w : World) (v : Value) (k : Int) (s : ByteArray) (h0 : 0 ≤ k) (h1 : k ≤ 255) (hs : 20000 < s.size) :
    Calls Try.prog 10 #[v, .agg #[.int .i64 k, .string s]] w fun e w' => e = .returned (.tuple #[.slice none 0 0, .int .i64 2]) ∧ Fr [] w w' := by
  go_enter Try.func10, Try.ntmps10
  go_wp2
  go_ret2
  exact ⟨rfl, (Fr.refl [] w).alloc _⟩
set_option maxHeartbeats 1000000 in
theorem rput_range (w : World) (v : Value) (k : Int) (s : ByteArray) (hk : k < 0 ∨ 255 < k) :
    Calls Try.prog 11 #[v, .agg #[.int .i64 k, .string s]] w fun e w' => e = .returned (.tuple #[.slice none 0 0, .int .i64 12]) ∧ Fr [] w w' := by
  rcases hk with hk | hk
  all_goals
    go_enter Try.func11, Try.ntmps11
    go_wp2
    go_ret2
    exact ⟨rfl, (Fr.refl [] w).alloc _⟩
set_option maxHeartbeats 1000000 in
theorem rput_long (w : World) (v : Value) (k : Int) (s : ByteArray) (h0 : 0 ≤ k) (h1 : k ≤ 255) (hs : 20000 < s.size) :
    Calls Try.prog 11 #[v, .agg #[.int .i64 k, .string s]] w fun e w' => e = .returned (.tuple #[.slice none 0 0, .int .i64 2]) ∧ Fr [] w w' := by
  go_enter Try.func11, Try.ntmps11
  go_wp2
  go_ret2
  exact ⟨rfl, (Fr.refl [] w).alloc _⟩
theorem put_made (w : World) (k : Int) (s : ByteArray) (len : Nat) (hl : len ≤ 100000) (hs : s.size ≤ 20000) :
    ∃ w1, (Instr.makeSlice 22 (.int .i64 0) (.int .i64 ((len : Int) + s.size + 6))).run Try.prog (w.alloc (.cells #[.int .i64 k, .string s] 25)) = .ok (.slice (some ⟨w.heap.size + 1, 0, none⟩) 0 (len + s.size + 6)) w1 ∧
      Got w w1 25 k s (.slice (some ⟨w.heap.size + 1, 0, none⟩) 0 (len + s.size + 6)) 0 [] (some (w.heap.size + 1)) := by
  obtain ⟨i5, hi, hz0, hz1, hz2⟩ := info_parts info5
  have fb := (Fr.refl [] w).alloc (.cells #[.int .i64 k, .string s] 25)
  obtain ⟨w1, hmk, hown, hgr⟩ := run_makeSlice_owned (P := Try.prog) (w.alloc (.cells #[.int .i64 k, .string s] 25)) 0 22 5 i5 (.int .u8 0) 1 Try.underlying22 hi hz0 hz1 .i64 .i64 (len + s.size + 6) (by omega) (by rw [hz2]; omega) (by unfold maxLen; omega) (Nat.zero_le _)
  rw [show (((len + s.size + 6 : Nat)) : Int) = (len : Int) + s.size + 6 by omega] at hmk
  have f1 : Fr [] w w1 := fb.trans (Fr.of_grown hgr (fun k hk => by cases hk))
  have hsz : (w.alloc (.cells #[.int .i64 k, .string s] 25)).heap.size = w.heap.size + 1 := by simp
  rw [hsz] at hmk hown
  refine ⟨w1, hmk, f1, ?_, by simp, (Holds.new w 25 _).fr (Fr.of_grown (S := []) hgr (fun k hk => by cases hk)) (by simp)⟩
  obtain ⟨hx, ⟨h0, _⟩ | ⟨g, c, cur, hv, hb, h1, h2, h3, h4, h5⟩⟩ := hown
  · cases h0
  · cases hv
    exact Sl.row ⟨cur, h1, h2, h3, h4, h5, hx⟩
/-- The bytes that Put lays behind l. -/
def putCells (l : List UInt8) (k : Int) (s : ByteArray) : List Value :=
  bc l ++ [.int .u8 ((s.size : Int) / 65536), .int .u8 ((s.size : Int) / 256), .int .u8 ((s.size : Int) % 256), .int .u8 k] ++ Lib.strCells s ++ [.int .u8 (sumL k s.data.toList / 256), .int .u8 (sumL k s.data.toList % 256)]
set_option maxHeartbeats 2000000 in
theorem put_ok (w : World) (a : Option Addr) (len cap : Nat) (l : List UInt8) (hb : BytesAt w w.heap.size a l) (hlen : l.length = len) (hl : len ≤ 100000) (k : Int) (s : ByteArray) (h0 : 0 ≤ k) (h1 : k ≤ 255) (hs : s.size ≤ 20000) :
    Calls Try.prog 10 #[.slice a len cap, .agg #[.int .i64 k, .string s]] w fun e w' => ∃ g c, e = .returned (.tuple #[.slice (some ⟨g, 0, none⟩) (len + s.size + 6) c, .int .i64 0]) ∧ w.heap.size < g ∧ Row w' 5 1 g (len + s.size + 6) c (putCells l k s) ∧ Fr [] w w' := by
  obtain ⟨i5, hi, hz0, hz1, hz2⟩ := info_parts info5
  obtain ⟨w1, hmk1, G0⟩ := put_made w k s len hl hs
  have hb1 := hb.fr G0.fr (Nat.le_refl _) (by simp)
  have q0 := G0.c0
  have q1 := G0.c1
  have hss : s.size ≤ maxLen := by unfold maxLen; omega
  obtain ⟨S, hS, hS0, hS1⟩ : ∃ S, sumL k s.data.toList = S ∧ 0 ≤ S ∧ S < 65536 := ⟨_, rfl, sumL_range _ _⟩
  have HS := Lib.hid hS
  have hsum := fun W => sum_any k s W hss
  simp only [hS] at hsum
  clear hS
  go_enter Try.func10, Try.ntmps10
  go_wp2_with (first
    | (at_builtin; first
      | (refine wpList_append_sl rfl (.tmp 27) (.tmp 28) 22 rfl i5 _ 1 Try.underlying22 hi hz0 hz1 hz2 rfl (by decide) _ _ rfl G0.sl a len cap (bc l) rfl (by simpa [bc_length] using hlen) hb1.cells (bc_one l) (by unfold maxLen; omega) (by omega) ?_; intro v1 w2 own1 hs1 hf1 ho1 hm1; have G1 := G0.next hs1 hf1 ho1; simp only [Nat.zero_add, List.nil_append] at G1; have d0 := G1.c0; have d1 := G1.c1; obtain ⟨a1, cap1, rfl⟩ := G1.sl.form; clear hs1 hf1 ho1 hm1 G0 q0 q1 hb1)
      | (refine wpList_append_sl rfl (.tmp 30) (.tmp 42) 22 rfl i5 _ 1 Try.underlying22 hi hz0 hz1 hz2 rfl (by decide) _ _ rfl (G1.same ((Fr.refl [] w2).alloc _)).sl _ 4 4 _ rfl rfl (Cells.of_holds (Holds.new w2 5 #[.int .u8 ((s.size : Int) / 65536), .int .u8 ((s.size : Int) / 256), .int .u8 ((s.size : Int) % 256), .int .u8 k])) (by simp [Value.oneCell']) (by unfold maxLen; omega) (by omega) ?_; intro v2 w3 own2 hs2 hf2 ho2 hm2; obtain ⟨g2, rfl⟩ := hm2 (by omega); have G2 := (G1.same ((Fr.refl [] w2).alloc _)).next hs2 hf2 ho2; have e0 := G2.c0; have e1 := G2.c1; obtain ⟨a2, cap2, rfl⟩ := G2.sl.form; clear hs2 hf2 ho2 hm2 G1 d0 d1)
      | (refine Lib.wpList_append_own_string w3 rfl (.tmp 44) (.tmp 46) 22 9 rfl (w.heap.size + 1) 5 i5 Try.underlying22 Try.underlying9 hi hz0 hz1 hz2 (.slice a2 (len + 4) cap2) (len + 4) _ rfl G2.owns s rfl (by unfold maxLen; omega) (by omega) G2.box.lt ?_; intro v3 w4 ho3 hg3 hn3; obtain ⟨g3, c3, rfl, G3⟩ := G2.of_owns ho3 hg3 (fun h => by simpa using hn3.1 h); have e0' := G3.c0; have e1' := G3.c1; clear ho3 hg3 hn3 G2 e0 e1)
      | (refine wpList_append_sl rfl (.tmp 53) (.tmp 59) 22 rfl i5 _ 1 Try.underlying22 hi hz0 hz1 hz2 rfl (by decide) _ _ rfl (G3.same ((Fr.refl [] w4).alloc _)).sl _ 2 2 _ rfl rfl (Cells.of_holds (Holds.new w4 5 #[.int .u8 (S / 256), .int .u8 (S % 256)])) (by simp [Value.oneCell']) (by unfold maxLen; omega) (by omega) ?_; intro v4 w5 own4 hs4 hf4 ho4 hm4; obtain ⟨g4, rfl⟩ := hm4 (by omega); have G4 := (G3.same ((Fr.refl [] w4).alloc _)).next hs4 hf4 ho4; obtain ⟨c4, rfl, hr4⟩ := G4.sl.own_row; clear hs4 hf4 ho4 hm4 G3))
    | (go_at_call 12; refine (hsum _).mono ?_; rintro e w' ⟨rfl, rfl⟩))
  go_ret2
  have e4 : len + 4 + s.size + 2 = len + s.size + 6 := by omega
  rw [e4] at hr4
  refine ⟨g4, c4, by rw [← e4]; rfl, G4.new g4 (by simp), ?_, G4.fr⟩
  unfold putCells
  rw [HS.out]
  exact hr4
set_option maxHeartbeats 2000000 in
theorem rput_ok (w : World) (a : Option Addr) (len cap : Nat) (l : List UInt8) (hb : BytesAt w w.heap.size a l) (hlen : l.length = len) (hl : len ≤ 100000) (k : Int) (s : ByteArray) (h0 : 0 ≤ k) (h1 : k ≤ 255) (hs : s.size ≤ 20000) :
    Calls Try.prog 11 #[.slice a len cap, .agg #[.int .i64 k, .string s]] w fun e w' => ∃ g c, e = .returned (.tuple #[.slice (some ⟨g, 0, none⟩) (len + s.size + 6) c, .int .i64 0]) ∧ w.heap.size < g ∧ Row w' 5 1 g (len + s.size + 6) c (putCells l k s) ∧ Fr [] w w' := by
  obtain ⟨i5, hi, hz0, hz1, hz2⟩ := info_parts info5
  have G0 : Got w ((w.alloc (.cells #[.int .i64 k, .string s] 29)).alloc (.cells #[] 5)) 29 k s (.slice (some ⟨w.heap.size + 1, 0, none⟩) 0 0) 0 [] none := ⟨((Fr.refl [] w).alloc _).alloc _, Sl.tight _ _ _ _, by simp, (Holds.new w 29 _).alloc _⟩
  have ha := and255
  have hb1 := hb.fr G0.fr (Nat.le_refl _) (by simp)
  have q0 := G0.c0
  have q1 := G0.c1
  have hss : s.size ≤ maxLen := by unfold maxLen; omega
  obtain ⟨S, hS, hS0, hS1⟩ : ∃ S, sumL k s.data.toList = S ∧ 0 ≤ S ∧ S < 65536 := ⟨_, rfl, sumL_range _ _⟩
  have HS := Lib.hid hS
  have hsum := fun W => rsum_any k s W hss
  simp only [hS] at hsum
  clear hS
  go_enter Try.func11, Try.ntmps11
  go_wp2_with (first
    | (at_builtin; first
      | (refine wpList_append_sl rfl (.tmp 22) (.tmp 23) 22 rfl i5 _ 1 Try.underlying22 hi hz0 hz1 hz2 rfl (by decide) _ _ rfl G0.sl a len cap (bc l) rfl (by simpa [bc_length] using hlen) hb1.cells (bc_one l) (by unfold maxLen; omega) (by omega) ?_; intro v1 w2 own1 hs1 hf1 ho1 hm1; have G1 := G0.next hs1 hf1 ho1; simp only [Nat.zero_add, List.nil_append] at G1; have d0 := G1.c0; have d1 := G1.c1; obtain ⟨a1, cap1, rfl⟩ := G1.sl.form; clear hs1 hf1 ho1 hm1 G0 q0 q1 hb1)
      | (refine wpList_append_sl rfl (.tmp 25) (.tmp 39) 22 rfl i5 _ 1 Try.underlying22 hi hz0 hz1 hz2 rfl (by decide) _ _ rfl (G1.same ((Fr.refl [] w2).alloc _)).sl _ 4 4 _ rfl rfl (Cells.of_holds (Holds.new w2 5 #[.int .u8 ((s.size : Int) / 65536), .int .u8 ((s.size : Int) / 256 % 256), .int .u8 ((s.size : Int) % 256), .int .u8 k])) (by simp [Value.oneCell']) (by unfold maxLen; omega) (by omega) ?_; intro v2 w3 own2 hs2 hf2 ho2 hm2; obtain ⟨g2, rfl⟩ := hm2 (by omega); have G2 := (G1.same ((Fr.refl [] w2).alloc _)).next hs2 hf2 ho2; have e0 := G2.c0; have e1 := G2.c1; obtain ⟨a2, cap2, rfl⟩ := G2.sl.form; clear hs2 hf2 ho2 hm2 G1 d0 d1)
      | (refine Lib.wpList_append_own_string w3 rfl (.tmp 41) (.tmp 43) 22 9 rfl (w.heap.size + 1) 5 i5 Try.underlying22 Try.underlying9 hi hz0 hz1 hz2 (.slice a2 (len + 4) cap2) (len + 4) _ rfl G2.owns s rfl (by unfold maxLen; omega) (by omega) G2.box.lt ?_; intro v3 w4 ho3 hg3 hn3; obtain ⟨g3, c3, rfl, G3⟩ := G2.of_owns ho3 hg3 (fun h => by simpa using hn3.1 h); have e0' := G3.c0; have e1' := G3.c1; clear ho3 hg3 hn3 G2 e0 e1)
      | (refine wpList_append_sl rfl (.tmp 50) (.tmp 57) 22 rfl i5 _ 1 Try.underlying22 hi hz0 hz1 hz2 rfl (by decide) _ _ rfl (G3.same ((Fr.refl [] w4).alloc _)).sl _ 2 2 _ rfl rfl (Cells.of_holds (Holds.new w4 5 #[.int .u8 (S / 256), .int .u8 (S % 256)])) (by simp [Value.oneCell']) (by unfold maxLen; omega) (by omega) ?_; intro v4 w5 own4 hs4 hf4 ho4 hm4; obtain ⟨g4, rfl⟩ := hm4 (by omega); have G4 := (G3.same ((Fr.refl [] w4).alloc _)).next hs4 hf4 ho4; obtain ⟨c4, rfl, hr4⟩ := G4.sl.own_row; clear hs4 hf4 ho4 hm4 G3))
    | (go_at_call 13; refine (hsum _).mono ?_; rintro e w' ⟨rfl, rfl⟩))
  go_ret2
  have e4 : len + 4 + s.size + 2 = len + s.size + 6 := by omega
  rw [e4] at hr4
  refine ⟨g4, c4, by rw [← e4]; rfl, G4.new g4 (by simp), ?_, G4.fr⟩
  have e5 : (s.size : Int) / 256 % 256 = s.size / 256 := by omega
  rw [e5] at hr4
  unfold putCells
  rw [HS.out]
  exact hr4
end Go.Proofs.Ytgihjbmmggkepaa
