/- The walk of PipeOrder. -/
import Derived.Test.YtlbcdbejemiinaaActs
namespace Go.Proofs.Ytlbcdbejemiinaa
open Go.RowKit
theorem extract_parts (s : ByteArray) (t : Nat) (h : t ≤ s.size) : s.extract 0 t ++ s.extract t s.size = s := by
  rw [ByteArray.extract_append_extract]
  simp [h]
theorem take_parts (w : World) (g : Nat) (room : Int) (s : ByteArray) (c : Bool) (n : Int) (h : PipeAt w g room s c) (h1 : s.size ≤ 9223372036854775807) :
    Calls Try.prog 11 #[.pointer (some ⟨g, 0, none⟩), .int .i64 n] w fun e w' => ∃ x y : ByteArray, e = .returned (.string x) ∧ x.size = takes n s ∧ x ++ y = s ∧ PipeAt w' g room y c ∧ Fr [g] w w' :=
  (take_any w g room s c n h h1).mono fun e w' ⟨he, hp, hf⟩ => ⟨_, _, he, by rw [ByteArray.size_extract]; have := takes_le n s; omega, extract_parts s _ (takes_le n s), hp, hf⟩
theorem act_keep {w' w'' : World} {S : List Nat} {B : Nat} {a : Option Addr} {len : Nat} {L : Nat → Act} (h : ActsAt w' B a len L) (hf : Fr S w' w'') (hB : B ≤ w'.heap.size) (hS : ∀ k, k ∈ S → B ≤ k) : ActsAt w'' B a len L := h.fr hf hB hS
theorem len_lit (w : World) (g : Nat) (room : Int) (s : ByteArray) (c : Bool) (h : PipeAt w g room s c) (v : Int) (hv : (s.size : Int) = v) :
    Calls Try.prog 12 #[.pointer (some ⟨g, 0, none⟩)] w fun e w' => e = .returned (.int .i64 v) ∧ w = w' := by
  subst hv
  exact len_any w g room s c h
theorem same_list {a b : ByteArray} (h : a = b) : (a.toList == b.toList) = true := by rw [h]; simp
theorem ne_int {a b : Int} (h : a = b) : (a != b) = false := by rw [h]; simp
set_option maxRecDepth 100000 in
set_option maxHeartbeats 2000000 in
theorem order_walk (w : World) (room : Int) (R : Int) (hR : room < 0 ∧ R = 0 ∨ 0 ≤ room ∧ R = room) (a : Option Addr) (len cap : Nat) (L : Nat → Act) (hr : room ≤ 9223372036854775807) (hA : ActsAt w w.heap.size a len L) (hl : len ≤ maxLen) (hok : okActs len L = true) :
    Calls Try.prog 5 #[.int .i64 room, .slice a len cap] w fun e w' => e = .returned (.bool true) ∧ Fr [] w w' := by
  have hRm : R = max room 0 := by omega
  have hlen := okActs_len hok
  have hsz := Lib.hid (okActs_size hok)
  have hR0 : 0 ≤ R := by omega
  have hR1 : R ≤ 9223372036854775807 := by omega
  go_enter Try.func5, Try.ntmps5
  go_wp2_with fail
  refine (first_true _).mono ?_
  rintro e w1 ⟨rfl, r1⟩
  go_wp2_with fail
  have hA1 := hA.fr r1 (Nat.le_refl _) (by simp)
  refine (light_any w1 w.heap.size a len cap L hA1 hl).mono ?_
  rintro e w' ⟨rfl, rfl⟩
  rw [hok]
  go_wp2_with fail
  refine (new_any room w1).mono ?_
  rintro e w2 ⟨g1, rfl, hg1, p2, r2⟩
  rw [← hRm] at p2
  have hA3 := hA1.fr r2 r1.size (by simp)
  have r03 := r1.step r2 (by simp)
  have hgb1 : w.heap.size ≤ g1 := Nat.le_trans r1.size hg1
  have hA0 := Lib.hid hA3
  clear hA1 hA r1 r2 hg1 hRm
  go_wp2_with fail
  go_loopw [6, 7, 8, 9] (fun vi vo vc i wr => ∃ (k : Nat) (o s : ByteArray) (c : Bool), k ≤ len ∧ i = .int .i64 k ∧ o.size + s.size ≤ 200 * k ∧ vi = .string (o ++ s) ∧ vo = .string o ∧ vc = .bool c ∧ PipeAt wr g1 R s c ∧ (s.size : Int) ≤ R ∧ Fr [] w wr ∧ ActsAt wr w.heap.size a len L) (fun _ _ _ i _ => len - (intOf i).toNat)
  case atStart => exact ⟨0, ByteArray.empty, ByteArray.empty, false, Nat.zero_le _, rfl, by simp, rfl, rfl, rfl, p2, by simpa using hR0, r03, hA3⟩
  case round =>
    obtain ⟨k, o, s, c, hk, rfl, hos, rfl, rfl, rfl, p, hs, r, hA⟩ := hrel
    clear p2 r03 hA3
    by_cases hlt : k < len
    · obtain ⟨b, off, rfl, hb, hc⟩ := hA (by omega)
      obtain ⟨c0, c1, c2⟩ := hc k hlt
      clear hc
      have hos1 : (o ++ s).size ≤ 16000 := by rw [ByteArray.size_append]; omega
      have hSk := hsz.out k hlt
      obtain ⟨v, hv⟩ : ∃ v : Int, (s.size : Int) = v := ⟨_, rfl⟩
      have hv0 : 0 ≤ v := by omega
      have hvR : v ≤ R := by omega
      have hov : o.size ≤ 16000 := by omega
      have hV := Lib.hid hv
      have hbw : b < wr.heap.size := Nat.lt_of_lt_of_le hb r.size
      have hbg1 : b ≠ g1 := by omega
      rcases hR with ⟨hR2, rfl⟩ | ⟨hR2, rfl⟩
      · by_cases h0 : (L k).op = 0
        · rw [h0] at c0
          clear h0
          cases c
          · by_cases hf : ((L k).s.size : Int) ≤ 0 - s.size
            · have hf' : ((L k).s.size : Int) ≤ -v := by omega
              have hS := Lib.hid hs
              clear hs hv
              go_wp2_with fail
              refine (len_lit _ g1 _ s _ p v hV.out).mono ?_
              rintro e w' ⟨rfl, rfl⟩
              have hs := hS.out
              have hv := hV.out
              clear hS
              go_wp2_with fail
              refine (put_yes _ g1 _ s _ _ p hR0 hR1 hs (by simp [fits]; omega)).mono ?_
              rintro e w1' ⟨rfl, P, fr1⟩
              have fr' := r.step fr1 (by simpa using hgb1)
              have c2' := cell_fr c2 fr1 hbw (by simpa using hbg1)
              have hS := Lib.hid hs
              have hF := Lib.hid hf
              clear hs hv hf
              go_wp2_with fail
              have hs := hS.out
              have hv := hV.out
              have hf := hF.out
              obtain ⟨s', hs1⟩ : ∃ s', s' = s ++ (L k).s := ⟨_, rfl⟩
              obtain ⟨i, hi2⟩ : ∃ i, i = o ++ s ++ (L k).s := ⟨_, rfl⟩
              have hs' : (s'.size : Int) ≤ 0 := by rw [hs1, ByteArray.size_append]; omega
              have hos' : o.size + s'.size ≤ 200 * (k + 1) := by rw [hs1, ByteArray.size_append]; omega
              have hi : i = o ++ s' := by rw [hi2, hs1, ByteArray.append_assoc]
              rw [← hs1] at P
              rw [← hi2]
              clear hs1 hf hf' hF hS hi2
              obtain ⟨u, hu⟩ : ∃ u : Int, (s'.size : Int) = u := ⟨_, rfl⟩
              have hT1 := same_list hi.symm
              have hT3 : (u != (i.size : Int) - (o.size : Int)) = false := ne_int (by rw [hi, ByteArray.size_append]; omega)
              have hu0 : 0 ≤ u := by omega
              have huR : u ≤ 0 := by omega
              have hi0 : i.size ≤ 16000 := by rw [hi, ByteArray.size_append]; omega
              have ho0 : o.size + s'.size ≤ 16000 := by omega
              have hI := Lib.hid hi
              have hU := Lib.hid hu
              have hS' := Lib.hid hs'
              clear hi hu hs' hs hv
              go_wp2_with fail
              refine (look_any _ g1 _ _ _ P).mono ?_
              rintro e w' ⟨rfl, rfl⟩
              go_wp2_with fail
              refine (len_lit _ g1 _ _ _ P u hU.out).mono ?_
              rintro e w' ⟨rfl, rfl⟩
              go_wp2_with fail
              refine (len_lit _ g1 _ _ _ P u hU.out).mono ?_
              rintro e w' ⟨rfl, rfl⟩
              go_wp2_with fail
              refine (closed_any _ g1 _ _ _ P).mono ?_
              rintro e w' ⟨rfl, rfl⟩
              go_wp2_with fail
              go_roundw
              case rel => exact ⟨k + 1, _, _, _, by omega, by go_num, hos', congrArg Value.string hI.out, rfl, rfl, P, hS'.out, fr', act_keep hA fr1 r.size (by simpa using hgb1)⟩
              case measure => simp [intOf]; omega
            · have hf' : decide (((L k).s.size : Int) ≤ -v) = false := decide_eq_false (by omega)
              have hS := Lib.hid hs
              clear hs hv
              go_wp2_with fail
              refine (len_lit _ g1 _ s _ p v hV.out).mono ?_
              rintro e w' ⟨rfl, rfl⟩
              have hs := hS.out
              have hv := hV.out
              clear hS
              go_wp2_with fail
              refine (put_no _ g1 _ s _ _ p hR0 hR1 hs (by simp [fits]; omega)).mono ?_
              rintro e w1' ⟨rfl, P, fr1⟩
              have fr' := r.step fr1 (by simpa using hgb1)
              clear hf hf'
              obtain ⟨i, hi⟩ : ∃ i, i = o ++ s := ⟨_, rfl⟩
              rw [← hi]
              have hs' := hs
              have hos' : o.size + s.size ≤ 200 * (k + 1) := by omega
              obtain ⟨u, hu⟩ : ∃ u : Int, (s.size : Int) = u := ⟨_, rfl⟩
              have hT1 := same_list hi.symm
              have hT3 : (u != (i.size : Int) - (o.size : Int)) = false := ne_int (by rw [hi, ByteArray.size_append]; omega)
              have hu0 : 0 ≤ u := by omega
              have huR : u ≤ 0 := by omega
              have hi0 : i.size ≤ 16000 := by rw [hi, ByteArray.size_append]; omega
              have ho0 : o.size + s.size ≤ 16000 := by omega
              have hI := Lib.hid hi
              have hU := Lib.hid hu
              have hS' := Lib.hid hs'
              clear hi hu hs' hs hv
              go_wp2_with fail
              refine (look_any _ g1 _ _ _ P).mono ?_
              rintro e w' ⟨rfl, rfl⟩
              go_wp2_with fail
              refine (len_lit _ g1 _ _ _ P u hU.out).mono ?_
              rintro e w' ⟨rfl, rfl⟩
              go_wp2_with fail
              refine (len_lit _ g1 _ _ _ P u hU.out).mono ?_
              rintro e w' ⟨rfl, rfl⟩
              go_wp2_with fail
              refine (closed_any _ g1 _ _ _ P).mono ?_
              rintro e w' ⟨rfl, rfl⟩
              go_wp2_with fail
              go_roundw
              case rel => exact ⟨k + 1, _, _, _, by omega, by go_num, hos', congrArg Value.string hI.out, rfl, rfl, P, hS'.out, fr', act_keep hA fr1 r.size (by simpa using hgb1)⟩
              case measure => simp [intOf]; omega
          · have hS := Lib.hid hs
            clear hs hv
            go_wp2_with fail
            refine (len_lit _ g1 _ s _ p v hV.out).mono ?_
            rintro e w' ⟨rfl, rfl⟩
            have hs := hS.out
            have hv := hV.out
            clear hS
            go_wp2_with fail
            refine (put_no _ g1 _ s _ _ p hR0 hR1 hs (by simp [fits])).mono ?_
            rintro e w1' ⟨rfl, P, fr1⟩
            have fr' := r.step fr1 (by simpa using hgb1)
            obtain ⟨i, hi⟩ : ∃ i, i = o ++ s := ⟨_, rfl⟩
            rw [← hi]
            have hs' := hs
            have hos' : o.size + s.size ≤ 200 * (k + 1) := by omega
            obtain ⟨u, hu⟩ : ∃ u : Int, (s.size : Int) = u := ⟨_, rfl⟩
            have hT1 := same_list hi.symm
            have hT3 : (u != (i.size : Int) - (o.size : Int)) = false := ne_int (by rw [hi, ByteArray.size_append]; omega)
            have hu0 : 0 ≤ u := by omega
            have huR : u ≤ 0 := by omega
            have hi0 : i.size ≤ 16000 := by rw [hi, ByteArray.size_append]; omega
            have ho0 : o.size + s.size ≤ 16000 := by omega
            have hI := Lib.hid hi
            have hU := Lib.hid hu
            have hS' := Lib.hid hs'
            clear hi hu hs' hs hv
            go_wp2_with fail
            refine (look_any _ g1 _ _ _ P).mono ?_
            rintro e w' ⟨rfl, rfl⟩
            go_wp2_with fail
            refine (len_lit _ g1 _ _ _ P u hU.out).mono ?_
            rintro e w' ⟨rfl, rfl⟩
            go_wp2_with fail
            refine (len_lit _ g1 _ _ _ P u hU.out).mono ?_
            rintro e w' ⟨rfl, rfl⟩
            go_wp2_with fail
            refine (closed_any _ g1 _ _ _ P).mono ?_
            rintro e w' ⟨rfl, rfl⟩
            go_wp2_with fail
            go_roundw
            case rel => exact ⟨k + 1, _, _, _, by omega, by go_num, hos', congrArg Value.string hI.out, rfl, rfl, P, hS'.out, fr', act_keep hA fr1 r.size (by simpa using hgb1)⟩
            case measure => simp [intOf]; omega
        by_cases h1 : (L k).op = 1
        · rw [h1] at c0
          clear h0 h1
          by_cases hn : (L k).n < 0
          · have hS := Lib.hid hs
            clear hs hv
            go_wp2_with fail
            refine (len_lit _ g1 _ s _ p v hV.out).mono ?_
            rintro e w' ⟨rfl, rfl⟩
            have hs := hS.out
            have hv := hV.out
            clear hS
            go_wp2_with fail
            refine (take_parts _ g1 _ s _ _ p (by omega)).mono ?_
            rintro e w1' ⟨x, y, rfl, hx, hxy, P, fr1⟩
            have fr' := r.step fr1 (by simpa using hgb1)
            have c1' := cell_fr c1 fr1 hbw (by simpa using hbg1)
            have hsx : s.size = x.size + y.size := by rw [← hxy, ByteArray.size_append]
            have hs' : (y.size : Int) ≤ 0 := by omega
            have hos' : (o ++ x).size + y.size ≤ 200 * (k + 1) := by rw [ByteArray.size_append]; omega
            have hox : o.size + x.size ≤ 16000 := by omega
            obtain ⟨i, hi2⟩ : ∃ i, i = o ++ s := ⟨_, rfl⟩
            have hi1 : i = o ++ x ++ y := by rw [hi2, ← hxy, ByteArray.append_assoc]
            rw [← hi2]
            have hq : ((x.size : Int) != 0) = false := ne_int (by rw [hx]; unfold takes; omega)
            have H1 := Lib.hid hi1
            have HS' := Lib.hid hs'
            have HS := Lib.hid hs
            have HO := Lib.hid hos'
            clear hx hxy hsx hi1 hi2 hs' hs hv hos'
            go_wp2_with fail
            obtain ⟨o', ho'⟩ : ∃ o', o' = o ++ x := ⟨_, rfl⟩
            have hi := H1.out
            have hos' := HO.out
            have hs' := HS'.out
            have hs := HS.out
            have hv := hV.out
            rw [← ho'] at hi hos'
            rw [← ho']
            clear ho' H1 HO HS' HS hq
            obtain ⟨u, hu⟩ : ∃ u : Int, (y.size : Int) = u := ⟨_, rfl⟩
            have hT1 := same_list hi.symm
            have hT3 : (u != (i.size : Int) - (o'.size : Int)) = false := ne_int (by rw [hi, ByteArray.size_append]; omega)
            have hu0 : 0 ≤ u := by omega
            have huR : u ≤ 0 := by omega
            have hi0 : i.size ≤ 16000 := by rw [hi, ByteArray.size_append]; omega
            have ho0 : o'.size + y.size ≤ 16000 := by omega
            have hI := Lib.hid hi
            have hU := Lib.hid hu
            have hS' := Lib.hid hs'
            clear hi hu hs' hs hv
            go_wp2_with fail
            refine (look_any _ g1 _ _ _ P).mono ?_
            rintro e w' ⟨rfl, rfl⟩
            go_wp2_with fail
            refine (len_lit _ g1 _ _ _ P u hU.out).mono ?_
            rintro e w' ⟨rfl, rfl⟩
            go_wp2_with fail
            refine (len_lit _ g1 _ _ _ P u hU.out).mono ?_
            rintro e w' ⟨rfl, rfl⟩
            go_wp2_with fail
            refine (closed_any _ g1 _ _ _ P).mono ?_
            rintro e w' ⟨rfl, rfl⟩
            go_wp2_with fail
            go_roundw
            case rel => exact ⟨k + 1, _, _, _, by omega, by go_num, hos', congrArg Value.string hI.out, rfl, rfl, P, hS'.out, fr', act_keep hA fr1 r.size (by simpa using hgb1)⟩
            case measure => simp [intOf]; omega
          · by_cases hn2 : (L k).n < v
            · exfalso; omega
            · have hS := Lib.hid hs
              clear hs hv
              go_wp2_with fail
              refine (len_lit _ g1 _ s _ p v hV.out).mono ?_
              rintro e w' ⟨rfl, rfl⟩
              have hs := hS.out
              have hv := hV.out
              clear hS
              go_wp2_with fail
              refine (take_parts _ g1 _ s _ _ p (by omega)).mono ?_
              rintro e w1' ⟨x, y, rfl, hx, hxy, P, fr1⟩
              have fr' := r.step fr1 (by simpa using hgb1)
              have c1' := cell_fr c1 fr1 hbw (by simpa using hbg1)
              have hsx : s.size = x.size + y.size := by rw [← hxy, ByteArray.size_append]
              have hs' : (y.size : Int) ≤ 0 := by omega
              have hos' : (o ++ x).size + y.size ≤ 200 * (k + 1) := by rw [ByteArray.size_append]; omega
              have hox : o.size + x.size ≤ 16000 := by omega
              obtain ⟨i, hi2⟩ : ∃ i, i = o ++ s := ⟨_, rfl⟩
              have hi1 : i = o ++ x ++ y := by rw [hi2, ← hxy, ByteArray.append_assoc]
              rw [← hi2]
              have hq : ((x.size : Int) != v) = false := ne_int (by rw [hx]; unfold takes; omega)
              have H1 := Lib.hid hi1
              have HS' := Lib.hid hs'
              have HS := Lib.hid hs
              have HO := Lib.hid hos'
              clear hx hxy hsx hi1 hi2 hs' hs hv hos'
              go_wp2_with fail
              obtain ⟨o', ho'⟩ : ∃ o', o' = o ++ x := ⟨_, rfl⟩
              have hi := H1.out
              have hos' := HO.out
              have hs' := HS'.out
              have hs := HS.out
              have hv := hV.out
              rw [← ho'] at hi hos'
              rw [← ho']
              clear ho' H1 HO HS' HS hq
              obtain ⟨u, hu⟩ : ∃ u : Int, (y.size : Int) = u := ⟨_, rfl⟩
              have hT1 := same_list hi.symm
              have hT3 : (u != (i.size : Int) - (o'.size : Int)) = false := ne_int (by rw [hi, ByteArray.size_append]; omega)
              have hu0 : 0 ≤ u := by omega
              have huR : u ≤ 0 := by omega
              have hi0 : i.size ≤ 16000 := by rw [hi, ByteArray.size_append]; omega
              have ho0 : o'.size + y.size ≤ 16000 := by omega
              have hI := Lib.hid hi
              have hU := Lib.hid hu
              have hS' := Lib.hid hs'
              clear hi hu hs' hs hv
              go_wp2_with fail
              refine (look_any _ g1 _ _ _ P).mono ?_
              rintro e w' ⟨rfl, rfl⟩
              go_wp2_with fail
              refine (len_lit _ g1 _ _ _ P u hU.out).mono ?_
              rintro e w' ⟨rfl, rfl⟩
              go_wp2_with fail
              refine (len_lit _ g1 _ _ _ P u hU.out).mono ?_
              rintro e w' ⟨rfl, rfl⟩
              go_wp2_with fail
              refine (closed_any _ g1 _ _ _ P).mono ?_
              rintro e w' ⟨rfl, rfl⟩
              go_wp2_with fail
              go_roundw
              case rel => exact ⟨k + 1, _, _, _, by omega, by go_num, hos', congrArg Value.string hI.out, rfl, rfl, P, hS'.out, fr', act_keep hA fr1 r.size (by simpa using hgb1)⟩
              case measure => simp [intOf]; omega
        by_cases h2 : (L k).op = 2
        · rw [h2] at c0
          clear h0 h1 h2
          have hS := Lib.hid hs
          clear hs hv
          go_wp2_with fail
          refine (len_lit _ g1 _ s _ p v hV.out).mono ?_
          rintro e w' ⟨rfl, rfl⟩
          have hs := hS.out
          have hv := hV.out
          clear hS
          go_wp2_with fail
          refine (close_any _ g1 _ s _ p).mono ?_
          rintro e w1' ⟨rfl, P, fr1⟩
          have fr' := r.step fr1 (by simpa using hgb1)
          obtain ⟨i, hi⟩ : ∃ i, i = o ++ s := ⟨_, rfl⟩
          rw [← hi]
          have hs' := hs
          have hos' : o.size + s.size ≤ 200 * (k + 1) := by omega
          obtain ⟨u, hu⟩ : ∃ u : Int, (s.size : Int) = u := ⟨_, rfl⟩
          have hT1 := same_list hi.symm
          have hT3 : (u != (i.size : Int) - (o.size : Int)) = false := ne_int (by rw [hi, ByteArray.size_append]; omega)
          have hu0 : 0 ≤ u := by omega
          have huR : u ≤ 0 := by omega
          have hi0 : i.size ≤ 16000 := by rw [hi, ByteArray.size_append]; omega
          have ho0 : o.size + s.size ≤ 16000 := by omega
          have hI := Lib.hid hi
          have hU := Lib.hid hu
          have hS' := Lib.hid hs'
          clear hi hu hs' hs hv
          go_wp2_with fail
          refine (look_any _ g1 _ _ _ P).mono ?_
          rintro e w' ⟨rfl, rfl⟩
          go_wp2_with fail
          refine (len_lit _ g1 _ _ _ P u hU.out).mono ?_
          rintro e w' ⟨rfl, rfl⟩
          go_wp2_with fail
          refine (len_lit _ g1 _ _ _ P u hU.out).mono ?_
          rintro e w' ⟨rfl, rfl⟩
          go_wp2_with fail
          refine (closed_any _ g1 _ _ _ P).mono ?_
          rintro e w' ⟨rfl, rfl⟩
          go_wp2_with fail
          go_roundw
          case rel => exact ⟨k + 1, _, _, _, by omega, by go_num, hos', congrArg Value.string hI.out, rfl, rfl, P, hS'.out, fr', act_keep hA fr1 r.size (by simpa using hgb1)⟩
          case measure => simp [intOf]; omega
        have e0 : ((L k).op == 0) = false := by simpa using h0
        have e1 : ((L k).op == 1) = false := by simpa using h1
        have e2 : ((L k).op == 2) = false := by simpa using h2
        clear h0 h1 h2
        have hS := Lib.hid hs
        clear hs hv
        go_wp2_with fail
        refine (len_lit _ g1 _ s _ p v hV.out).mono ?_
        rintro e w' ⟨rfl, rfl⟩
        have hs := hS.out
        have hv := hV.out
        clear hS
        have P := p
        have fr1 := Fr.refl [g1] wr
        have fr' := r
        obtain ⟨i, hi⟩ : ∃ i, i = o ++ s := ⟨_, rfl⟩
        rw [← hi]
        have hs' := hs
        have hos' : o.size + s.size ≤ 200 * (k + 1) := by omega
        obtain ⟨u, hu⟩ : ∃ u : Int, (s.size : Int) = u := ⟨_, rfl⟩
        have hT1 := same_list hi.symm
        have hT3 : (u != (i.size : Int) - (o.size : Int)) = false := ne_int (by rw [hi, ByteArray.size_append]; omega)
        have hu0 : 0 ≤ u := by omega
        have huR : u ≤ 0 := by omega
        have hi0 : i.size ≤ 16000 := by rw [hi, ByteArray.size_append]; omega
        have ho0 : o.size + s.size ≤ 16000 := by omega
        have hI := Lib.hid hi
        have hU := Lib.hid hu
        have hS' := Lib.hid hs'
        clear hi hu hs' hs hv
        go_wp2_with fail
        refine (look_any _ g1 _ _ _ P).mono ?_
        rintro e w' ⟨rfl, rfl⟩
        go_wp2_with fail
        refine (len_lit _ g1 _ _ _ P u hU.out).mono ?_
        rintro e w' ⟨rfl, rfl⟩
        go_wp2_with fail
        refine (len_lit _ g1 _ _ _ P u hU.out).mono ?_
        rintro e w' ⟨rfl, rfl⟩
        go_wp2_with fail
        refine (closed_any _ g1 _ _ _ P).mono ?_
        rintro e w' ⟨rfl, rfl⟩
        go_wp2_with fail
        go_roundw
        case rel => exact ⟨k + 1, _, _, _, by omega, by go_num, hos', congrArg Value.string hI.out, rfl, rfl, P, hS'.out, fr', act_keep hA fr1 r.size (by simpa using hgb1)⟩
        case measure => simp [intOf]; omega
      · by_cases h0 : (L k).op = 0
        · rw [h0] at c0
          clear h0
          cases c
          · by_cases hf : ((L k).s.size : Int) ≤ R - s.size
            · have hf' : ((L k).s.size : Int) ≤ R - v := by omega
              have hS := Lib.hid hs
              clear hs hv
              go_wp2_with fail
              refine (len_lit _ g1 _ s _ p v hV.out).mono ?_
              rintro e w' ⟨rfl, rfl⟩
              have hs := hS.out
              have hv := hV.out
              clear hS
              go_wp2_with fail
              refine (put_yes _ g1 _ s _ _ p hR0 hR1 hs (by simp [fits]; omega)).mono ?_
              rintro e w1' ⟨rfl, P, fr1⟩
              have fr' := r.step fr1 (by simpa using hgb1)
              have c2' := cell_fr c2 fr1 hbw (by simpa using hbg1)
              have hS := Lib.hid hs
              have hF := Lib.hid hf
              clear hs hv hf
              go_wp2_with fail
              have hs := hS.out
              have hv := hV.out
              have hf := hF.out
              obtain ⟨s', hs1⟩ : ∃ s', s' = s ++ (L k).s := ⟨_, rfl⟩
              obtain ⟨i, hi2⟩ : ∃ i, i = o ++ s ++ (L k).s := ⟨_, rfl⟩
              have hs' : (s'.size : Int) ≤ R := by rw [hs1, ByteArray.size_append]; omega
              have hos' : o.size + s'.size ≤ 200 * (k + 1) := by rw [hs1, ByteArray.size_append]; omega
              have hi : i = o ++ s' := by rw [hi2, hs1, ByteArray.append_assoc]
              rw [← hs1] at P
              rw [← hi2]
              clear hs1 hf hf' hF hS hi2
              obtain ⟨u, hu⟩ : ∃ u : Int, (s'.size : Int) = u := ⟨_, rfl⟩
              have hT1 := same_list hi.symm
              have hT3 : (u != (i.size : Int) - (o.size : Int)) = false := ne_int (by rw [hi, ByteArray.size_append]; omega)
              have hu0 : 0 ≤ u := by omega
              have huR : u ≤ R := by omega
              have hi0 : i.size ≤ 16000 := by rw [hi, ByteArray.size_append]; omega
              have ho0 : o.size + s'.size ≤ 16000 := by omega
              have hI := Lib.hid hi
              have hU := Lib.hid hu
              have hS' := Lib.hid hs'
              clear hi hu hs' hs hv
              go_wp2_with fail
              refine (look_any _ g1 _ _ _ P).mono ?_
              rintro e w' ⟨rfl, rfl⟩
              go_wp2_with fail
              refine (len_lit _ g1 _ _ _ P u hU.out).mono ?_
              rintro e w' ⟨rfl, rfl⟩
              go_wp2_with fail
              refine (len_lit _ g1 _ _ _ P u hU.out).mono ?_
              rintro e w' ⟨rfl, rfl⟩
              go_wp2_with fail
              refine (closed_any _ g1 _ _ _ P).mono ?_
              rintro e w' ⟨rfl, rfl⟩
              go_wp2_with fail
              go_roundw
              case rel => exact ⟨k + 1, _, _, _, by omega, by go_num, hos', congrArg Value.string hI.out, rfl, rfl, P, hS'.out, fr', act_keep hA fr1 r.size (by simpa using hgb1)⟩
              case measure => simp [intOf]; omega
            · have hf' : decide (((L k).s.size : Int) ≤ R - v) = false := decide_eq_false (by omega)
              have hS := Lib.hid hs
              clear hs hv
              go_wp2_with fail
              refine (len_lit _ g1 _ s _ p v hV.out).mono ?_
              rintro e w' ⟨rfl, rfl⟩
              have hs := hS.out
              have hv := hV.out
              clear hS
              go_wp2_with fail
              refine (put_no _ g1 _ s _ _ p hR0 hR1 hs (by simp [fits]; omega)).mono ?_
              rintro e w1' ⟨rfl, P, fr1⟩
              have fr' := r.step fr1 (by simpa using hgb1)
              clear hf hf'
              obtain ⟨i, hi⟩ : ∃ i, i = o ++ s := ⟨_, rfl⟩
              rw [← hi]
              have hs' := hs
              have hos' : o.size + s.size ≤ 200 * (k + 1) := by omega
              obtain ⟨u, hu⟩ : ∃ u : Int, (s.size : Int) = u := ⟨_, rfl⟩
              have hT1 := same_list hi.symm
              have hT3 : (u != (i.size : Int) - (o.size : Int)) = false := ne_int (by rw [hi, ByteArray.size_append]; omega)
              have hu0 : 0 ≤ u := by omega
              have huR : u ≤ R := by omega
              have hi0 : i.size ≤ 16000 := by rw [hi, ByteArray.size_append]; omega
              have ho0 : o.size + s.size ≤ 16000 := by omega
              have hI := Lib.hid hi
              have hU := Lib.hid hu
              have hS' := Lib.hid hs'
              clear hi hu hs' hs hv
              go_wp2_with fail
              refine (look_any _ g1 _ _ _ P).mono ?_
              rintro e w' ⟨rfl, rfl⟩
              go_wp2_with fail
              refine (len_lit _ g1 _ _ _ P u hU.out).mono ?_
              rintro e w' ⟨rfl, rfl⟩
              go_wp2_with fail
              refine (len_lit _ g1 _ _ _ P u hU.out).mono ?_
              rintro e w' ⟨rfl, rfl⟩
              go_wp2_with fail
              refine (closed_any _ g1 _ _ _ P).mono ?_
              rintro e w' ⟨rfl, rfl⟩
              go_wp2_with fail
              go_roundw
              case rel => exact ⟨k + 1, _, _, _, by omega, by go_num, hos', congrArg Value.string hI.out, rfl, rfl, P, hS'.out, fr', act_keep hA fr1 r.size (by simpa using hgb1)⟩
              case measure => simp [intOf]; omega
          · have hS := Lib.hid hs
            clear hs hv
            go_wp2_with fail
            refine (len_lit _ g1 _ s _ p v hV.out).mono ?_
            rintro e w' ⟨rfl, rfl⟩
            have hs := hS.out
            have hv := hV.out
            clear hS
            go_wp2_with fail
            refine (put_no _ g1 _ s _ _ p hR0 hR1 hs (by simp [fits])).mono ?_
            rintro e w1' ⟨rfl, P, fr1⟩
            have fr' := r.step fr1 (by simpa using hgb1)
            obtain ⟨i, hi⟩ : ∃ i, i = o ++ s := ⟨_, rfl⟩
            rw [← hi]
            have hs' := hs
            have hos' : o.size + s.size ≤ 200 * (k + 1) := by omega
            obtain ⟨u, hu⟩ : ∃ u : Int, (s.size : Int) = u := ⟨_, rfl⟩
            have hT1 := same_list hi.symm
            have hT3 : (u != (i.size : Int) - (o.size : Int)) = false := ne_int (by rw [hi, ByteArray.size_append]; omega)
            have hu0 : 0 ≤ u := by omega
            have huR : u ≤ R := by omega
            have hi0 : i.size ≤ 16000 := by rw [hi, ByteArray.size_append]; omega
            have ho0 : o.size + s.size ≤ 16000 := by omega
            have hI := Lib.hid hi
            have hU := Lib.hid hu
            have hS' := Lib.hid hs'
            clear hi hu hs' hs hv
            go_wp2_with fail
            refine (look_any _ g1 _ _ _ P).mono ?_
            rintro e w' ⟨rfl, rfl⟩
            go_wp2_with fail
            refine (len_lit _ g1 _ _ _ P u hU.out).mono ?_
            rintro e w' ⟨rfl, rfl⟩
            go_wp2_with fail
            refine (len_lit _ g1 _ _ _ P u hU.out).mono ?_
            rintro e w' ⟨rfl, rfl⟩
            go_wp2_with fail
            refine (closed_any _ g1 _ _ _ P).mono ?_
            rintro e w' ⟨rfl, rfl⟩
            go_wp2_with fail
            go_roundw
            case rel => exact ⟨k + 1, _, _, _, by omega, by go_num, hos', congrArg Value.string hI.out, rfl, rfl, P, hS'.out, fr', act_keep hA fr1 r.size (by simpa using hgb1)⟩
            case measure => simp [intOf]; omega
        by_cases h1 : (L k).op = 1
        · rw [h1] at c0
          clear h0 h1
          by_cases hn : (L k).n < 0
          · have hS := Lib.hid hs
            clear hs hv
            go_wp2_with fail
            refine (len_lit _ g1 _ s _ p v hV.out).mono ?_
            rintro e w' ⟨rfl, rfl⟩
            have hs := hS.out
            have hv := hV.out
            clear hS
            go_wp2_with fail
            refine (take_parts _ g1 _ s _ _ p (by omega)).mono ?_
            rintro e w1' ⟨x, y, rfl, hx, hxy, P, fr1⟩
            have fr' := r.step fr1 (by simpa using hgb1)
            have c1' := cell_fr c1 fr1 hbw (by simpa using hbg1)
            have hsx : s.size = x.size + y.size := by rw [← hxy, ByteArray.size_append]
            have hs' : (y.size : Int) ≤ R := by omega
            have hos' : (o ++ x).size + y.size ≤ 200 * (k + 1) := by rw [ByteArray.size_append]; omega
            have hox : o.size + x.size ≤ 16000 := by omega
            obtain ⟨i, hi2⟩ : ∃ i, i = o ++ s := ⟨_, rfl⟩
            have hi1 : i = o ++ x ++ y := by rw [hi2, ← hxy, ByteArray.append_assoc]
            rw [← hi2]
            have hq : ((x.size : Int) != 0) = false := ne_int (by rw [hx]; unfold takes; omega)
            have H1 := Lib.hid hi1
            have HS' := Lib.hid hs'
            have HS := Lib.hid hs
            have HO := Lib.hid hos'
            clear hx hxy hsx hi1 hi2 hs' hs hv hos'
            go_wp2_with fail
            obtain ⟨o', ho'⟩ : ∃ o', o' = o ++ x := ⟨_, rfl⟩
            have hi := H1.out
            have hos' := HO.out
            have hs' := HS'.out
            have hs := HS.out
            have hv := hV.out
            rw [← ho'] at hi hos'
            rw [← ho']
            clear ho' H1 HO HS' HS hq
            obtain ⟨u, hu⟩ : ∃ u : Int, (y.size : Int) = u := ⟨_, rfl⟩
            have hT1 := same_list hi.symm
            have hT3 : (u != (i.size : Int) - (o'.size : Int)) = false := ne_int (by rw [hi, ByteArray.size_append]; omega)
            have hu0 : 0 ≤ u := by omega
            have huR : u ≤ R := by omega
            have hi0 : i.size ≤ 16000 := by rw [hi, ByteArray.size_append]; omega
            have ho0 : o'.size + y.size ≤ 16000 := by omega
            have hI := Lib.hid hi
            have hU := Lib.hid hu
            have hS' := Lib.hid hs'
            clear hi hu hs' hs hv
            go_wp2_with fail
            refine (look_any _ g1 _ _ _ P).mono ?_
            rintro e w' ⟨rfl, rfl⟩
            go_wp2_with fail
            refine (len_lit _ g1 _ _ _ P u hU.out).mono ?_
            rintro e w' ⟨rfl, rfl⟩
            go_wp2_with fail
            refine (len_lit _ g1 _ _ _ P u hU.out).mono ?_
            rintro e w' ⟨rfl, rfl⟩
            go_wp2_with fail
            refine (closed_any _ g1 _ _ _ P).mono ?_
            rintro e w' ⟨rfl, rfl⟩
            go_wp2_with fail
            go_roundw
            case rel => exact ⟨k + 1, _, _, _, by omega, by go_num, hos', congrArg Value.string hI.out, rfl, rfl, P, hS'.out, fr', act_keep hA fr1 r.size (by simpa using hgb1)⟩
            case measure => simp [intOf]; omega
          · by_cases hn2 : (L k).n < v
            · have hS := Lib.hid hs
              clear hs hv
              go_wp2_with fail
              refine (len_lit _ g1 _ s _ p v hV.out).mono ?_
              rintro e w' ⟨rfl, rfl⟩
              have hs := hS.out
              have hv := hV.out
              clear hS
              go_wp2_with fail
              refine (take_parts _ g1 _ s _ _ p (by omega)).mono ?_
              rintro e w1' ⟨x, y, rfl, hx, hxy, P, fr1⟩
              have fr' := r.step fr1 (by simpa using hgb1)
              have c1' := cell_fr c1 fr1 hbw (by simpa using hbg1)
              have hsx : s.size = x.size + y.size := by rw [← hxy, ByteArray.size_append]
              have hs' : (y.size : Int) ≤ R := by omega
              have hos' : (o ++ x).size + y.size ≤ 200 * (k + 1) := by rw [ByteArray.size_append]; omega
              have hox : o.size + x.size ≤ 16000 := by omega
              obtain ⟨i, hi2⟩ : ∃ i, i = o ++ s := ⟨_, rfl⟩
              have hi1 : i = o ++ x ++ y := by rw [hi2, ← hxy, ByteArray.append_assoc]
              rw [← hi2]
              have hq : ((x.size : Int) != (L k).n) = false := ne_int (by rw [hx]; unfold takes; omega)
              have H1 := Lib.hid hi1
              have HS' := Lib.hid hs'
              have HS := Lib.hid hs
              have HO := Lib.hid hos'
              clear hx hxy hsx hi1 hi2 hs' hs hv hos'
              go_wp2_with fail
              obtain ⟨o', ho'⟩ : ∃ o', o' = o ++ x := ⟨_, rfl⟩
              have hi := H1.out
              have hos' := HO.out
              have hs' := HS'.out
              have hs := HS.out
              have hv := hV.out
              rw [← ho'] at hi hos'
              rw [← ho']
              clear ho' H1 HO HS' HS hq
              obtain ⟨u, hu⟩ : ∃ u : Int, (y.size : Int) = u := ⟨_, rfl⟩
              have hT1 := same_list hi.symm
              have hT3 : (u != (i.size : Int) - (o'.size : Int)) = false := ne_int (by rw [hi, ByteArray.size_append]; omega)
              have hu0 : 0 ≤ u := by omega
              have huR : u ≤ R := by omega
              have hi0 : i.size ≤ 16000 := by rw [hi, ByteArray.size_append]; omega
              have ho0 : o'.size + y.size ≤ 16000 := by omega
              have hI := Lib.hid hi
              have hU := Lib.hid hu
              have hS' := Lib.hid hs'
              clear hi hu hs' hs hv
              go_wp2_with fail
              refine (look_any _ g1 _ _ _ P).mono ?_
              rintro e w' ⟨rfl, rfl⟩
              go_wp2_with fail
              refine (len_lit _ g1 _ _ _ P u hU.out).mono ?_
              rintro e w' ⟨rfl, rfl⟩
              go_wp2_with fail
              refine (len_lit _ g1 _ _ _ P u hU.out).mono ?_
              rintro e w' ⟨rfl, rfl⟩
              go_wp2_with fail
              refine (closed_any _ g1 _ _ _ P).mono ?_
              rintro e w' ⟨rfl, rfl⟩
              go_wp2_with fail
              go_roundw
              case rel => exact ⟨k + 1, _, _, _, by omega, by go_num, hos', congrArg Value.string hI.out, rfl, rfl, P, hS'.out, fr', act_keep hA fr1 r.size (by simpa using hgb1)⟩
              case measure => simp [intOf]; omega
            · have hS := Lib.hid hs
              clear hs hv
              go_wp2_with fail
              refine (len_lit _ g1 _ s _ p v hV.out).mono ?_
              rintro e w' ⟨rfl, rfl⟩
              have hs := hS.out
              have hv := hV.out
              clear hS
              go_wp2_with fail
              refine (take_parts _ g1 _ s _ _ p (by omega)).mono ?_
              rintro e w1' ⟨x, y, rfl, hx, hxy, P, fr1⟩
              have fr' := r.step fr1 (by simpa using hgb1)
              have c1' := cell_fr c1 fr1 hbw (by simpa using hbg1)
              have hsx : s.size = x.size + y.size := by rw [← hxy, ByteArray.size_append]
              have hs' : (y.size : Int) ≤ R := by omega
              have hos' : (o ++ x).size + y.size ≤ 200 * (k + 1) := by rw [ByteArray.size_append]; omega
              have hox : o.size + x.size ≤ 16000 := by omega
              obtain ⟨i, hi2⟩ : ∃ i, i = o ++ s := ⟨_, rfl⟩
              have hi1 : i = o ++ x ++ y := by rw [hi2, ← hxy, ByteArray.append_assoc]
              rw [← hi2]
              have hq : ((x.size : Int) != v) = false := ne_int (by rw [hx]; unfold takes; omega)
              have H1 := Lib.hid hi1
              have HS' := Lib.hid hs'
              have HS := Lib.hid hs
              have HO := Lib.hid hos'
              clear hx hxy hsx hi1 hi2 hs' hs hv hos'
              go_wp2_with fail
              obtain ⟨o', ho'⟩ : ∃ o', o' = o ++ x := ⟨_, rfl⟩
              have hi := H1.out
              have hos' := HO.out
              have hs' := HS'.out
              have hs := HS.out
              have hv := hV.out
              rw [← ho'] at hi hos'
              rw [← ho']
              clear ho' H1 HO HS' HS hq
              obtain ⟨u, hu⟩ : ∃ u : Int, (y.size : Int) = u := ⟨_, rfl⟩
              have hT1 := same_list hi.symm
              have hT3 : (u != (i.size : Int) - (o'.size : Int)) = false := ne_int (by rw [hi, ByteArray.size_append]; omega)
              have hu0 : 0 ≤ u := by omega
              have huR : u ≤ R := by omega
              have hi0 : i.size ≤ 16000 := by rw [hi, ByteArray.size_append]; omega
              have ho0 : o'.size + y.size ≤ 16000 := by omega
              have hI := Lib.hid hi
              have hU := Lib.hid hu
              have hS' := Lib.hid hs'
              clear hi hu hs' hs hv
              go_wp2_with fail
              refine (look_any _ g1 _ _ _ P).mono ?_
              rintro e w' ⟨rfl, rfl⟩
              go_wp2_with fail
              refine (len_lit _ g1 _ _ _ P u hU.out).mono ?_
              rintro e w' ⟨rfl, rfl⟩
              go_wp2_with fail
              refine (len_lit _ g1 _ _ _ P u hU.out).mono ?_
              rintro e w' ⟨rfl, rfl⟩
              go_wp2_with fail
              refine (closed_any _ g1 _ _ _ P).mono ?_
              rintro e w' ⟨rfl, rfl⟩
              go_wp2_with fail
              go_roundw
              case rel => exact ⟨k + 1, _, _, _, by omega, by go_num, hos', congrArg Value.string hI.out, rfl, rfl, P, hS'.out, fr', act_keep hA fr1 r.size (by simpa using hgb1)⟩
              case measure => simp [intOf]; omega
        by_cases h2 : (L k).op = 2
        · rw [h2] at c0
          clear h0 h1 h2
          have hS := Lib.hid hs
          clear hs hv
          go_wp2_with fail
          refine (len_lit _ g1 _ s _ p v hV.out).mono ?_
          rintro e w' ⟨rfl, rfl⟩
          have hs := hS.out
          have hv := hV.out
          clear hS
          go_wp2_with fail
          refine (close_any _ g1 _ s _ p).mono ?_
          rintro e w1' ⟨rfl, P, fr1⟩
          have fr' := r.step fr1 (by simpa using hgb1)
          obtain ⟨i, hi⟩ : ∃ i, i = o ++ s := ⟨_, rfl⟩
          rw [← hi]
          have hs' := hs
          have hos' : o.size + s.size ≤ 200 * (k + 1) := by omega
          obtain ⟨u, hu⟩ : ∃ u : Int, (s.size : Int) = u := ⟨_, rfl⟩
          have hT1 := same_list hi.symm
          have hT3 : (u != (i.size : Int) - (o.size : Int)) = false := ne_int (by rw [hi, ByteArray.size_append]; omega)
          have hu0 : 0 ≤ u := by omega
          have huR : u ≤ R := by omega
          have hi0 : i.size ≤ 16000 := by rw [hi, ByteArray.size_append]; omega
          have ho0 : o.size + s.size ≤ 16000 := by omega
          have hI := Lib.hid hi
          have hU := Lib.hid hu
          have hS' := Lib.hid hs'
          clear hi hu hs' hs hv
          go_wp2_with fail
          refine (look_any _ g1 _ _ _ P).mono ?_
          rintro e w' ⟨rfl, rfl⟩
          go_wp2_with fail
          refine (len_lit _ g1 _ _ _ P u hU.out).mono ?_
          rintro e w' ⟨rfl, rfl⟩
          go_wp2_with fail
          refine (len_lit _ g1 _ _ _ P u hU.out).mono ?_
          rintro e w' ⟨rfl, rfl⟩
          go_wp2_with fail
          refine (closed_any _ g1 _ _ _ P).mono ?_
          rintro e w' ⟨rfl, rfl⟩
          go_wp2_with fail
          go_roundw
          case rel => exact ⟨k + 1, _, _, _, by omega, by go_num, hos', congrArg Value.string hI.out, rfl, rfl, P, hS'.out, fr', act_keep hA fr1 r.size (by simpa using hgb1)⟩
          case measure => simp [intOf]; omega
        have e0 : ((L k).op == 0) = false := by simpa using h0
        have e1 : ((L k).op == 1) = false := by simpa using h1
        have e2 : ((L k).op == 2) = false := by simpa using h2
        clear h0 h1 h2
        have hS := Lib.hid hs
        clear hs hv
        go_wp2_with fail
        refine (len_lit _ g1 _ s _ p v hV.out).mono ?_
        rintro e w' ⟨rfl, rfl⟩
        have hs := hS.out
        have hv := hV.out
        clear hS
        have P := p
        have fr1 := Fr.refl [g1] wr
        have fr' := r
        obtain ⟨i, hi⟩ : ∃ i, i = o ++ s := ⟨_, rfl⟩
        rw [← hi]
        have hs' := hs
        have hos' : o.size + s.size ≤ 200 * (k + 1) := by omega
        obtain ⟨u, hu⟩ : ∃ u : Int, (s.size : Int) = u := ⟨_, rfl⟩
        have hT1 := same_list hi.symm
        have hT3 : (u != (i.size : Int) - (o.size : Int)) = false := ne_int (by rw [hi, ByteArray.size_append]; omega)
        have hu0 : 0 ≤ u := by omega
        have huR : u ≤ R := by omega
        have hi0 : i.size ≤ 16000 := by rw [hi, ByteArray.size_append]; omega
        have ho0 : o.size + s.size ≤ 16000 := by omega
        have hI := Lib.hid hi
        have hU := Lib.hid hu
        have hS' := Lib.hid hs'
        clear hi hu hs' hs hv
        go_wp2_with fail
        refine (look_any _ g1 _ _ _ P).mono ?_
        rintro e w' ⟨rfl, rfl⟩
        go_wp2_with fail
        refine (len_lit _ g1 _ _ _ P u hU.out).mono ?_
        rintro e w' ⟨rfl, rfl⟩
        go_wp2_with fail
        refine (len_lit _ g1 _ _ _ P u hU.out).mono ?_
        rintro e w' ⟨rfl, rfl⟩
        go_wp2_with fail
        refine (closed_any _ g1 _ _ _ P).mono ?_
        rintro e w' ⟨rfl, rfl⟩
        go_wp2_with fail
        go_roundw
        case rel => exact ⟨k + 1, _, _, _, by omega, by go_num, hos', congrArg Value.string hI.out, rfl, rfl, P, hS'.out, fr', act_keep hA fr1 r.size (by simpa using hgb1)⟩
        case measure => simp [intOf]; omega
    · go_wp2
      go_ret
      exact ⟨rfl, r⟩
end Go.Proofs.Ytlbcdbejemiinaa
