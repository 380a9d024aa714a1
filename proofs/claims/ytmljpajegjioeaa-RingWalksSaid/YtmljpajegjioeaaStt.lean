/- What lies in memory while RingWalks goes through a ring; the walk of its first loop's body. -/
import Derived.Test.YtmljpajegjioeaaIter
import Derived.Test.YtmljpajegjioeaaTwoW
namespace Go.Proofs.Ytmljpajegjioeaa
open Go.RowKit Go.Shelf
attribute [local go_sem] Oper.semAt_some

/-- All that lies: the ring at r, the number at B, the numbers that came in, the two lists (their boxes C and C + 1), the two counters (C + 1 + 1 and C + 1 + 1 + 1). -/
structure St (w0 W : World) (B C r : Nat) (M : Int) (v : Value) (xs : List Int) (own : Option Nat) (stop : Int) (a : Option Addr) (len : Nat) (L : Nat → Int) (va vb : Value) (la lb : List Int) (oa ob : Option Nat) : Prop where
  ring : RI.RingAt W r M v xs own
  stp : Holds W B 3 #[.int .i64 stop]
  ins : IntsAt W B a len L
  ba : Holds W C 22 #[va]
  bb : Holds W (C + 1) 22 #[vb]
  bn : Holds W (C + 1 + 1) 3 #[.int .i64 la.length]
  bf : Holds W (C + 1 + 1 + 1) 3 #[.int .i64 lb.length]
  sa : Sl W 2 1 va la.length (la.map RI.ci) oa
  sb : Sl W 2 1 vb lb.length (lb.map RI.ci) ob
  ma : 0 < la.length → ∃ g, oa = some g
  mb : 0 < lb.length → ∃ g, ob = some g
  na : ∀ g, oa = some g → C + 1 + 1 + 1 < g
  nb : ∀ g, ob = some g → C + 1 + 1 + 1 < g
  nab : ∀ g, oa = some g → ob = some g → False
  fr : Fr [] w0 W
  wB : w0.heap.size = B
  Br : B < r
  rC : r < C
  oC : ∀ g, own = some g → g < C
  oB : ∀ g, own = some g → r ≤ g

section
variable {w0 W W' : World} {B C r : Nat} {M : Int} {v : Value} {xs : List Int} {own : Option Nat} {stop : Int} {a : Option Addr} {len : Nat} {L : Nat → Int} {va vb : Value} {la lb : List Int} {oa ob : Option Nat} {S : List Nat}
theorem slfr {e : TypeId} {sz n : Nat} {u : Value} {ys : List Value} {o : Option Nat} (h : Sl W e sz u n ys o) (hf : Fr S W W') (ho : ∀ k, o = some k → k ∉ S) (hm : 0 < n → ∃ g, o = some g) : Sl W' e sz u n ys o := by
  rcases h with ⟨h0, x, hv, h1, h2, h3, h4⟩ | ⟨g, c, h0, hv, hr⟩
  · have hn : n = 0 := by
      rcases Nat.eq_zero_or_pos n with h | h
      · exact h
      · obtain ⟨g, hg⟩ := hm h
        rw [h0] at hg
        cases hg
    subst hn
    obtain rfl : ys = [] := List.eq_nil_of_length_eq_zero (by simpa using h4)
    exact .inl ⟨h0, x, hv, h1, h2, Cells.nil _, h4⟩
  · subst h0
    exact .inr ⟨g, c, rfl, hv, hr.fr hf (ho g rfl)⟩
/-- Blocks that are none of these turn: all is as it was. -/
theorem St.keep (h : St w0 W B C r M v xs own stop a len L va vb la lb oa ob) (hf : Fr S W W') (hS : ∀ k, k ∈ S → C + 1 + 1 + 1 < k ∧ oa ≠ some k ∧ ob ≠ some k) : St w0 W' B C r M v xs own stop a len L va vb la lb oa ob := by
  have hB := h.Br
  have hC := h.rC
  have k1 : ∀ g, g ≤ C + 1 + 1 + 1 → g ∉ S := fun g hg hs => by have := (hS g hs).1; omega
  exact { h with
    ring := h.ring.fr hf (k1 _ (by omega)) (fun k hk => k1 k (by have := h.oC k (by simpa using hk); omega))
    stp := h.stp.fr hf (k1 _ (by omega))
    ins := h.ins.fr hf (by have := h.fr.size; have := h.wB; omega) (fun k hk => by have := (hS k hk).1; omega)
    ba := h.ba.fr hf (k1 _ (by omega))
    bb := h.bb.fr hf (k1 _ (by omega))
    bn := h.bn.fr hf (k1 _ (by omega))
    bf := h.bf.fr hf (k1 _ (by omega))
    sa := slfr h.sa hf (fun k hk hs => (hS k hs).2.1 hk) h.ma
    sb := slfr h.sb hf (fun k hk hs => (hS k hs).2.2 hk) h.mb
    fr := h.fr.step hf (fun k hk => .inr (by have := (hS k hk).1; have := h.wB; omega)) }
theorem St.keep0 (h : St w0 W B C r M v xs own stop a len L va vb la lb oa ob) (hf : Fr [] W W') : St w0 W' B C r M v xs own stop a len L va vb la lb oa ob := h.keep hf (by simp)
/-- A block that is no cells turns: all is as it was. -/
theorem St.grown {row : Option Nat} (h : St w0 W B C r M v xs own stop a len L va vb la lb oa ob) (hg : W.grownBy W' row) (hr : ∀ k, row = some k → C + 1 + 1 + 1 < k ∧ ∃ o : Obj, W.heap[k]? = some o ∧ o.isCells = false) : St w0 W' B C r M v xs own stop a len L va vb la lb oa ob := by
  refine h.keep (S := row.toList) ⟨hg.os, hg.tape, hg.output, hg.size, fun k hk hn => hg.block k hk (fun e => hn (by simp [← e]))⟩ fun k hk => ?_
  obtain ⟨hk1, o, ho, hc⟩ := hr k (by simpa using hk)
  have no : ∀ {u : Value} {n : Nat} {ys : List Value}, Sl W 2 1 u n ys (some k) → False := fun hs => by
    obtain ⟨c, _, cur, hrow, _⟩ := hs.own_row
    rw [hrow] at ho
    cases ho
    cases hc
  refine ⟨hk1, fun e => ?_, fun e => ?_⟩
  · have := h.sa; rw [e] at this; exact no this
  · have := h.sb; rw [e] at this; exact no this

/-- One more in the first list: behind the append and the two stores. -/
theorem St.push_a {W1 : World} {x : Int} {n c g' : Nat} (h : St w0 W B C r M v xs own stop a len L va vb la lb oa ob) (hn : n = la.length + 1) (hs : Sl W1 2 1 (.slice (some ⟨g', 0, none⟩) n c) n (la.map RI.ci ++ [RI.ci x]) (some g')) (hf : Fr oa.toList W W1) (ho : some g' = oa ∨ W.heap.size ≤ g') (z : Int) (hz : z = (la.length : Int) + 1) :
    St w0 ((W1.setCell ⟨C, 0, none⟩ (.slice (some ⟨g', 0, none⟩) n c)).setCell ⟨C + 1 + 1, 0, none⟩ (.int .i64 z)) B C r M v xs own stop a len L (.slice (some ⟨g', 0, none⟩) n c) vb (la ++ [x]) lb (some g') ob ∧
    Fr ((C) :: (C + 1 + 1) :: oa.toList) W ((W1.setCell ⟨C, 0, none⟩ (.slice (some ⟨g', 0, none⟩) n c)).setCell ⟨C + 1 + 1, 0, none⟩ (.int .i64 z)) := by
  subst hn
  have hB := h.Br
  have hC := h.rC
  have hlt := h.bf.lt
  have hg : C + 1 + 1 + 1 < g' := by
    rcases ho with ho | ho
    · exact h.na g' ho.symm
    · omega
  have hoo : ob = some g' → False := by
    intro e
    rcases ho with ho | ho
    · exact h.nab g' ho.symm e
    · have := h.sb
      rw [e] at this
      obtain ⟨c', _, hr'⟩ := this.own_row
      have := hr'.lt
      omega
  have ko : ∀ k, k ≤ C + 1 + 1 + 1 → k ∉ oa.toList := fun k hk hk' => by have := h.na k (by simpa using hk'); omega
  have hbox1 := h.ba.fr hf (ko _ (by omega))
  have hcnt1 := h.bn.fr hf (ko _ (by omega))
  have f2 : Fr ((C) :: (C + 1 + 1) :: oa.toList) W ((W1.setCell ⟨C, 0, none⟩ (.slice (some ⟨g', 0, none⟩) (la.length + 1) c)).setCell ⟨C + 1 + 1, 0, none⟩ (.int .i64 z)) :=
    ((hf.mono (T := (C) :: (C + 1 + 1) :: oa.toList) (fun k hk => List.mem_cons_of_mem _ (List.mem_cons_of_mem _ hk))).setCell (p := ⟨C, 0, none⟩) (List.mem_cons_self ..) _).setCell (p := ⟨C + 1 + 1, 0, none⟩) (List.mem_cons_of_mem _ (List.mem_cons_self ..)) _
  have k1 : ∀ k, k < C → k ∉ (C) :: (C + 1 + 1) :: oa.toList := by
    intro k hk hs'
    rcases List.mem_cons.1 hs' with e | hs'
    · omega
    · rcases List.mem_cons.1 hs' with e | hs'
      · omega
      · exact ko k (by omega) hs'
  have k2 : ∀ k, k ≤ C + 1 + 1 + 1 → k ≠ C → k ≠ C + 1 + 1 → k ∉ (C) :: (C + 1 + 1) :: oa.toList := by
    intro k hk e1 e2 hs'
    rcases List.mem_cons.1 hs' with e | hs'
    · exact e1 e
    · rcases List.mem_cons.1 hs' with e | hs'
      · exact e2 e
      · exact ko k hk hs'
  have hset1 := hbox1.set 0 (.slice (some ⟨g', 0, none⟩) (la.length + 1) c)
  have hfar1 := hcnt1.far (p := ⟨C, 0, none⟩) (by show C + 1 + 1 ≠ C; omega) (.slice (some ⟨g', 0, none⟩) (la.length + 1) c)
  have hset2 := hfar1.set 0 (.int .i64 z)
  have hfar2 := hset1.far (p := ⟨C + 1 + 1, 0, none⟩) (by show C ≠ C + 1 + 1; omega) (.int .i64 z)
  have hsl := (hs.far (fun _ => ⟨_, rfl⟩) hbox1 (by decide) 0 (.slice (some ⟨g', 0, none⟩) (la.length + 1) c)).far (fun _ => ⟨_, rfl⟩) hfar1 (by decide) 0 (.int .i64 z)
  have hlen : Value.int .i64 z = .int .i64 ((la ++ [x]).length : Nat) := int_eq (by simp [hz])
  have hmap : la.map RI.ci ++ [RI.ci x] = (la ++ [x]).map RI.ci := by simp
  have hl2 : la.length + 1 = (la ++ [x]).length := by simp
  refine ⟨{ h with
    ring := h.ring.fr f2 (k1 _ hC) (fun k hk => k1 k (h.oC k (by simpa using hk)))
    stp := h.stp.fr f2 (k1 _ (by omega))
    ins := h.ins.fr f2 (by have := h.fr.size; have := h.wB; omega) (fun k hk => by
      rcases Nat.lt_or_ge k B with h' | h'
      · exact absurd hk (k1 k (by omega))
      · exact h')
    bb := h.bb.fr f2 (k2 _ (by omega) (by omega) (by omega))
    bf := h.bf.fr f2 (k2 _ (by omega) (by omega) (by omega))
    ba := hfar2
    bn := by rw [← hlen]; exact hset2
    sa := by rw [← hmap, ← hl2]; exact hsl
    sb := slfr h.sb f2 (fun k hk hk' => by
      rcases List.mem_cons.1 hk' with e | hk'
      · have := h.nb k hk; omega
      · rcases List.mem_cons.1 hk' with e | hk'
        · have := h.nb k hk; omega
        · exact h.nab k (by simpa using hk') hk) h.mb
    ma := fun _ => ⟨_, rfl⟩
    na := fun k hk => by cases hk; exact hg
    nab := fun k hk hk' => by cases hk; exact hoo hk'
    fr := h.fr.step f2 (fun k hk => by
      rcases Nat.lt_or_ge k B with h' | h'
      · exact absurd hk (k1 k (by omega))
      · exact .inr (by have := h.wB; omega)) }, f2⟩

/-- One more in the second list: behind the append and the two stores. -/
theorem St.push_b {W1 : World} {x : Int} {n c g' : Nat} (h : St w0 W B C r M v xs own stop a len L va vb la lb oa ob) (hn : n = lb.length + 1) (hs : Sl W1 2 1 (.slice (some ⟨g', 0, none⟩) n c) n (lb.map RI.ci ++ [RI.ci x]) (some g')) (hf : Fr ob.toList W W1) (ho : some g' = ob ∨ W.heap.size ≤ g') (z : Int) (hz : z = (lb.length : Int) + 1) :
    St w0 ((W1.setCell ⟨C + 1, 0, none⟩ (.slice (some ⟨g', 0, none⟩) n c)).setCell ⟨C + 1 + 1 + 1, 0, none⟩ (.int .i64 z)) B C r M v xs own stop a len L va (.slice (some ⟨g', 0, none⟩) n c) la (lb ++ [x]) oa (some g') ∧
    Fr ((C + 1) :: (C + 1 + 1 + 1) :: ob.toList) W ((W1.setCell ⟨C + 1, 0, none⟩ (.slice (some ⟨g', 0, none⟩) n c)).setCell ⟨C + 1 + 1 + 1, 0, none⟩ (.int .i64 z)) := by
  subst hn
  have hB := h.Br
  have hC := h.rC
  have hlt := h.bf.lt
  have hg : C + 1 + 1 + 1 < g' := by
    rcases ho with ho | ho
    · exact h.nb g' ho.symm
    · omega
  have hoo : oa = some g' → False := by
    intro e
    rcases ho with ho | ho
    · exact h.nab g' e ho.symm
    · have := h.sa
      rw [e] at this
      obtain ⟨c', _, hr'⟩ := this.own_row
      have := hr'.lt
      omega
  have ko : ∀ k, k ≤ C + 1 + 1 + 1 → k ∉ ob.toList := fun k hk hk' => by have := h.nb k (by simpa using hk'); omega
  have hbox1 := h.bb.fr hf (ko _ (by omega))
  have hcnt1 := h.bf.fr hf (ko _ (by omega))
  have f2 : Fr ((C + 1) :: (C + 1 + 1 + 1) :: ob.toList) W ((W1.setCell ⟨C + 1, 0, none⟩ (.slice (some ⟨g', 0, none⟩) (lb.length + 1) c)).setCell ⟨C + 1 + 1 + 1, 0, none⟩ (.int .i64 z)) :=
    ((hf.mono (T := (C + 1) :: (C + 1 + 1 + 1) :: ob.toList) (fun k hk => List.mem_cons_of_mem _ (List.mem_cons_of_mem _ hk))).setCell (p := ⟨C + 1, 0, none⟩) (List.mem_cons_self ..) _).setCell (p := ⟨C + 1 + 1 + 1, 0, none⟩) (List.mem_cons_of_mem _ (List.mem_cons_self ..)) _
  have k1 : ∀ k, k < C → k ∉ (C + 1) :: (C + 1 + 1 + 1) :: ob.toList := by
    intro k hk hs'
    rcases List.mem_cons.1 hs' with e | hs'
    · omega
    · rcases List.mem_cons.1 hs' with e | hs'
      · omega
      · exact ko k (by omega) hs'
  have k2 : ∀ k, k ≤ C + 1 + 1 + 1 → k ≠ C + 1 → k ≠ C + 1 + 1 + 1 → k ∉ (C + 1) :: (C + 1 + 1 + 1) :: ob.toList := by
    intro k hk e1 e2 hs'
    rcases List.mem_cons.1 hs' with e | hs'
    · exact e1 e
    · rcases List.mem_cons.1 hs' with e | hs'
      · exact e2 e
      · exact ko k hk hs'
  have hset1 := hbox1.set 0 (.slice (some ⟨g', 0, none⟩) (lb.length + 1) c)
  have hfar1 := hcnt1.far (p := ⟨C + 1, 0, none⟩) (by show C + 1 + 1 + 1 ≠ C + 1; omega) (.slice (some ⟨g', 0, none⟩) (lb.length + 1) c)
  have hset2 := hfar1.set 0 (.int .i64 z)
  have hfar2 := hset1.far (p := ⟨C + 1 + 1 + 1, 0, none⟩) (by show C + 1 ≠ C + 1 + 1 + 1; omega) (.int .i64 z)
  have hsl := (hs.far (fun _ => ⟨_, rfl⟩) hbox1 (by decide) 0 (.slice (some ⟨g', 0, none⟩) (lb.length + 1) c)).far (fun _ => ⟨_, rfl⟩) hfar1 (by decide) 0 (.int .i64 z)
  have hlen : Value.int .i64 z = .int .i64 ((lb ++ [x]).length : Nat) := int_eq (by simp [hz])
  have hmap : lb.map RI.ci ++ [RI.ci x] = (lb ++ [x]).map RI.ci := by simp
  have hl2 : lb.length + 1 = (lb ++ [x]).length := by simp
  refine ⟨{ h with
    ring := h.ring.fr f2 (k1 _ hC) (fun k hk => k1 k (h.oC k (by simpa using hk)))
    stp := h.stp.fr f2 (k1 _ (by omega))
    ins := h.ins.fr f2 (by have := h.fr.size; have := h.wB; omega) (fun k hk => by
      rcases Nat.lt_or_ge k B with h' | h'
      · exact absurd hk (k1 k (by omega))
      · exact h')
    ba := h.ba.fr f2 (k2 _ (by omega) (by omega) (by omega))
    bn := h.bn.fr f2 (k2 _ (by omega) (by omega) (by omega))
    bb := hfar2
    bf := by rw [← hlen]; exact hset2
    sb := by rw [← hmap, ← hl2]; exact hsl
    sa := slfr h.sa f2 (fun k hk hk' => by
      rcases List.mem_cons.1 hk' with e | hk'
      · have := h.na k hk; omega
      · rcases List.mem_cons.1 hk' with e | hk'
        · have := h.na k hk; omega
        · exact h.nab k hk (by simpa using hk')) h.ma
    mb := fun _ => ⟨_, rfl⟩
    nb := fun k hk => by cases hk; exact hg
    nab := fun k hk hk' => by cases hk'; exact hoo hk
    fr := h.fr.step f2 (fun k hk => by
      rcases Nat.lt_or_ge k B with h' | h'
      · exact absurd hk (k1 k (by omega))
      · exact .inr (by have := h.wB; omega)) }, f2⟩
end
/-- Between two rounds of the first loop; when one has left it. -/
def I1 (w0 : World) (B C r : Nat) (M : Int) (v : Value) (xs : List Int) (own : Option Nat) (stop : Int) (a : Option Addr) (len : Nat) (L : Nat → Int) (pre : List (Nat × Int)) (W : World) : Prop :=
  ∃ va oa, St w0 W B C r M v xs own stop a len L va (.slice none 0 0) (pre.map (·.2)) [] oa none ∧ Holds W (C + 1 + 1 + 1 + 1) 24 #[.pointer (some ⟨r, 0, none⟩)] ∧ (pre = [] ∨ (pre.length : Int) ≤ stop)
def X1 (w0 : World) (B C r : Nat) (M : Int) (v : Value) (xs : List Int) (own : Option Nat) (stop : Int) (a : Option Addr) (len : Nat) (L : Nat → Int) (c : Code) (ps : List (Nat × Int)) (W : World) : Prop :=
  c = .exit 2 ∧ ∃ pre x, ps = pre ++ [x] ∧ (((x.1 : Nat) : Int) ≠ (pre.length : Int) ∨ stop ≤ (x.1 : Int)) ∧ I1 w0 B C r M v xs own stop a len L pre W
/-- Likewise the second, whose box is D. -/
def I2 (w0 : World) (B C D r : Nat) (M : Int) (v : Value) (xs : List Int) (own : Option Nat) (stop : Int) (a : Option Addr) (len : Nat) (L : Nat → Int) (va : Value) (la : List Int) (oa : Option Nat) (Dm : Nat) (pre : List Int) (W : World) : Prop :=
  ∃ vb ob, St w0 W B C r M v xs own stop a len L va vb la pre oa ob ∧ Holds W D 24 #[.pointer (some ⟨r, 0, none⟩)] ∧ W.heap[Dm]? = some (.deferred (some [])) ∧ (pre = [] ∨ (pre.length : Int) ≤ stop)
def X2 (w0 : World) (B C D r : Nat) (M : Int) (v : Value) (xs : List Int) (own : Option Nat) (stop : Int) (a : Option Addr) (len : Nat) (L : Nat → Int) (va : Value) (la : List Int) (oa : Option Nat) (Dm : Nat) (id : Nat) (c : Code) (ps : List Int) (W : World) : Prop :=
  c = .exit id ∧ ∃ pre x, ps = pre ++ [x] ∧ stop ≤ (pre.length : Int) ∧ I2 w0 B C D r M v xs own stop a len L va la oa Dm pre W

theorem keepsFrom_of_fr {W W' : World} {D : Nat} {S : List Nat} (h : Fr S W W') (hS : ∀ k, k ∈ S → ∃ o : Obj, W.heap[k]? = some o ∧ o.isCells = true) : KeepsFrom D W W' :=
  ⟨h.size, fun k o _ hk ho => (h.block k (Array.getElem?_eq_some_iff.1 hk).1 (fun hs => by obtain ⟨o', h1, h2⟩ := hS k hs; rw [h1] at hk; cases hk; rw [h2] at ho; cases ho)).trans hk⟩
theorem holds_cells {W : World} {g t : Nat} {cs : Array Value} (h : Holds W g t cs) : ∃ o : Obj, W.heap[g]? = some o ∧ o.isCells = true := ⟨_, h, rfl⟩
theorem sl_cells {W : World} {e : TypeId} {sz n k : Nat} {u : Value} {ys : List Value} (h : Sl W e sz u n ys (some k)) : ∃ o : Obj, W.heap[k]? = some o ∧ o.isCells = true := by
  obtain ⟨c, _, cur, hrow, _⟩ := h.own_row
  exact ⟨_, hrow, rfl⟩
theorem kq_of_fr {W W' : World} {n₀ b : Nat} {S : List Nat} (h : Fr S W W') (hn : n₀ ≤ W.heap.size) (hS : ∀ k, k ∈ S → n₀ ≤ k) (hb : b ∉ S) : Kq n₀ b W W' :=
  ⟨⟨h.os, h.tape, h.output, h.size, fun k hk => h.block k (by omega) (fun hs => by have := hS k hs; omega)⟩, fun hlt => h.block b hlt hb⟩
/-- The end of a round of the first loop. -/
theorem close_a {w0 W w1 : World} {B C D r : Nat} {M : Int} {v : Value} {xs : List Int} {own : Option Nat} {stop : Int} {a : Option Addr} {len : Nat} {L : Nat → Int} {va : Value} {oa : Option Nat} {pre : List (Nat × Int)} {z : Int} {g' c' : Nat} {A : Act} {X : Code → List (Nat × Int) → World → Prop}
    (hS : St w0 W B C r M v xs own stop a len L va (.slice none 0 0) (pre.map (·.2)) [] oa none) (hX : Holds W (C + 1 + 1 + 1 + 1) 24 #[.pointer (some ⟨r, 0, none⟩)])
    (hr : Row w1 2 1 g' (pre.length + 1) c' ((pre.map (·.2)).map RI.ci ++ [RI.ci z])) (hf : Fr oa.toList W w1) (ho : some g' = oa ∨ ∃ g, some g' = some g ∧ (W.alloc (.cells #[RI.ci z] 2)).drew.heap.size ≤ g) (hp : (pre.length : Int) < stop) :
    ownPostG D (Kq C (C + 1 + 1 + 1 + 1)) (I1 w0 B C r M v xs own stop a len L) X (pre ++ [(pre.length, z)]) W .normal A ((w1.setCell ⟨C, 0, none⟩ (.slice (some ⟨g', 0, none⟩) (pre.length + 1) c')).setCell ⟨C + 1 + 1, 0, none⟩ (.int .i64 ((pre.length : Int) + 1))) := by
  obtain ⟨s2, f2⟩ := hS.push_a (n := pre.length + 1) (x := z) (by simp) (Sl.row hr) hf (by
    rcases ho with h | ⟨g, h, hg⟩
    · exact .inl h
    · cases h; refine .inr ?_; simp at hg; omega) ((pre.length : Int) + 1) (by simp)
  have hlt := hS.bf.lt
  have hx : (C + 1 + 1 + 1 + 1) ∉ C :: (C + 1 + 1) :: oa.toList := by
    intro h
    rcases List.mem_cons.1 h with h | h
    · omega
    · rcases List.mem_cons.1 h with h | h
      · omega
      · have hoa : oa = some (C + 1 + 1 + 1 + 1) := by simpa using h
        have := hS.sa
        rw [hoa] at this
        obtain ⟨c, _, hr'⟩ := this.own_row
        exact hr'.ne hX (by decide) rfl
  have hge : ∀ k, k ∈ C :: (C + 1 + 1) :: oa.toList → C ≤ k := by
    intro k h
    rcases List.mem_cons.1 h with h | h
    · omega
    · rcases List.mem_cons.1 h with h | h
      · omega
      · have := hS.na k (by simpa using h); omega
  refine ⟨keepsFrom_of_fr f2 ?_, kq_of_fr f2 (by omega) hge hx, ⟨_, _, by rw [List.map_append]; exact s2, hX.fr f2 hx, .inr (by simp; omega)⟩⟩
  intro k h
  rcases List.mem_cons.1 h with rfl | h
  · exact holds_cells hS.ba
  · rcases List.mem_cons.1 h with rfl | h
    · exact holds_cells hS.bn
    · have hoa : oa = some k := by simpa using h
      have := hS.sa
      rw [hoa] at this
      exact sl_cells this
/-- The end of a round of the second loop. -/
theorem close_b {w0 W w1 : World} {B C D0 D r : Nat} {M : Int} {v : Value} {xs : List Int} {own : Option Nat} {stop : Int} {a : Option Addr} {len : Nat} {L : Nat → Int} {va vb : Value} {la : List Int} {oa ob : Option Nat} {pre : List Int} {z : Int} {g' c' Dm : Nat} {A : Act} {X : Code → List Int → World → Prop}
    (hS : St w0 W B C r M v xs own stop a len L va vb la pre oa ob) (hX : Holds W D0 24 #[.pointer (some ⟨r, 0, none⟩)]) (hD0 : C + 1 + 1 + 1 < D0) (hm : W.heap[Dm]? = some (.deferred (some [])))
    (hr : Row w1 2 1 g' (pre.length + 1) c' (pre.map RI.ci ++ [RI.ci z])) (hf : Fr ob.toList W w1) (ho : some g' = ob ∨ ∃ g, some g' = some g ∧ (W.alloc (.cells #[RI.ci z] 2)).drew.heap.size ≤ g) (hp : (pre.length : Int) < stop) :
    ownPostG D (Kq C D0) (I2 w0 B C D0 r M v xs own stop a len L va la oa Dm) X (pre ++ [z]) W .normal A ((w1.setCell ⟨C + 1, 0, none⟩ (.slice (some ⟨g', 0, none⟩) (pre.length + 1) c')).setCell ⟨C + 1 + 1 + 1, 0, none⟩ (.int .i64 ((pre.length : Int) + 1))) := by
  obtain ⟨s2, f2⟩ := hS.push_b (n := pre.length + 1) (x := z) rfl (Sl.row hr) hf (by
    rcases ho with h | ⟨g, h, hg⟩
    · exact .inl h
    · cases h; refine .inr ?_; simp at hg; omega) ((pre.length : Int) + 1) rfl
  have hlt := hS.bf.lt
  have hx : D0 ∉ (C + 1) :: (C + 1 + 1 + 1) :: ob.toList := by
    intro h
    rcases List.mem_cons.1 h with h | h
    · omega
    · rcases List.mem_cons.1 h with h | h
      · omega
      · have hoa : ob = some D0 := by simpa using h
        have := hS.sb
        rw [hoa] at this
        obtain ⟨c, _, hr'⟩ := this.own_row
        exact hr'.ne hX (by decide) rfl
  have hge : ∀ k, k ∈ (C + 1) :: (C + 1 + 1 + 1) :: ob.toList → C ≤ k := by
    intro k h
    rcases List.mem_cons.1 h with h | h
    · omega
    · rcases List.mem_cons.1 h with h | h
      · omega
      · have := hS.nb k (by simpa using h); omega
  have hcl : ∀ k, k ∈ (C + 1) :: (C + 1 + 1 + 1) :: ob.toList → ∃ o : Obj, W.heap[k]? = some o ∧ o.isCells = true := by
    intro k h
    rcases List.mem_cons.1 h with rfl | h
    · exact holds_cells hS.bb
    · rcases List.mem_cons.1 h with rfl | h
      · exact holds_cells hS.bf
      · have hoa : ob = some k := by simpa using h
        have := hS.sb
        rw [hoa] at this
        exact sl_cells this
  exact ⟨keepsFrom_of_fr f2 hcl, kq_of_fr f2 (by omega) hge hx, ⟨_, _, s2, hX.fr f2 hx, (keepsFrom_of_fr (D := 0) f2 hcl).same Dm _ (by omega) hm rfl, .inr (by simp; omega)⟩⟩
end Go.Proofs.Ytmljpajegjioeaa
