/- Put and Next over lists of bytes; first(). -/
import Derived.Test.YtgihjbmmggkepaaPut
import Derived.Test.YtgihjbmmggkepaaNextR
import Derived.Lib.SlBytesConst
import Derived.Laws.IdiomStrings
namespace Go.Proofs.Ytgihjbmmggkepaa
open Go.RowKit

def u8 (x : Int) : UInt8 := UInt8.ofNat x.toNat
theorem u8_cell (x : Int) (h0 : 0 ≤ x) (h1 : x < 256) : Value.int .u8 x = .int .u8 ((u8 x).toNat : Int) := by
  rw [u8, UInt8.toNat_ofNat']
  congr 1
  omega
/-- The bytes that Put gives: l, and the frame behind it. -/
def putL (l : List UInt8) (k : Int) (s : ByteArray) : List UInt8 :=
  l ++ [u8 ((s.size : Int) / 65536), u8 ((s.size : Int) / 256), u8 ((s.size : Int) % 256), u8 k] ++ s.data.toList ++ [u8 (sumL k s.data.toList / 256), u8 (sumL k s.data.toList % 256)]
theorem putL_length (l : List UInt8) (k : Int) (s : ByteArray) : (putL l k s).length = l.length + s.size + 6 := by
  simp [putL]; omega
theorem putCells_eq (l : List UInt8) (k : Int) (s : ByteArray) (h0 : 0 ≤ k) (h1 : k ≤ 255) (hs : s.size ≤ 20000) : putCells l k s = bc (putL l k s) := by
  have hr := sumL_range k s.data.toList
  have e : ∀ m, Lib.strCells m = bc m.data.toList := fun m => rfl
  unfold putCells putL
  rw [bc_append, bc_append, bc_append, e]
  congr 1
  · congr 2
    simp only [bc, List.map_cons, List.map_nil]
    rw [u8_cell _ (by omega) (by omega), u8_cell ((s.size : Int) / 256) (by omega) (by omega), u8_cell ((s.size : Int) % 256) (by omega) (by omega), u8_cell k (by omega) (by omega)]
  · simp only [bc, List.map_cons, List.map_nil]
    rw [u8_cell _ (by omega) (by omega), u8_cell (sumL k s.data.toList % 256) (by omega) (by omega)]
theorem Row.at_ {w : World} {g n cap : Nat} {l : List UInt8} (h : Row w 5 1 g n cap (bc l)) : ∀ (k : Nat) (x : UInt8), l[k]? = some x → w.cell? ⟨g, k, none⟩ = some (.int .u8 x.toNat) := fun k x hk => h.cell (by simp [bc, hk])
theorem Row.bytes {w : World} {g n cap : Nat} {l : List UInt8} (h : Row w 5 1 g n cap (bc l)) {B : Nat} (hB : g < B) : BytesAt w B (some ⟨g, 0, none⟩) l := fun _ => ⟨g, 0, rfl, hB, fun k x hk => by rw [Nat.zero_add]; exact h.at_ k x hk⟩
theorem Row.conv {w : World} {g n cap : Nat} {l : List UInt8} (h : Row w 5 1 g n cap (bc l)) (c : Nat) : (convert 22 9 (.slice (some ⟨g, 0, none⟩) n c)).run Try.prog w = .ok (.string ⟨l.toArray⟩) w :=
  conv_body w g 0 n c ⟨l.toArray⟩ (by have := h.length; rw [bc_length] at this; simp [ByteArray.size]; omega) (fun k x hk => by rw [Nat.zero_add]; exact h.at_ k x (by simpa using hk))

theorem put_list (w : World) (a : Option Addr) (len cap : Nat) (l : List UInt8) (hb : BytesAt w w.heap.size a l) (hlen : l.length = len) (hl : len ≤ 100000) (k : Int) (s : ByteArray) (h0 : 0 ≤ k) (h1 : k ≤ 255) (hs : s.size ≤ 20000) :
    Calls Try.prog 10 #[.slice a len cap, .agg #[.int .i64 k, .string s]] w fun e w' => ∃ g c, e = .returned (.tuple #[.slice (some ⟨g, 0, none⟩) (len + s.size + 6) c, .int .i64 0]) ∧ w.heap.size < g ∧ Row w' 5 1 g (len + s.size + 6) c (bc (putL l k s)) ∧ Fr [] w w' := by
  have := put_ok w a len cap l hb hlen hl k s h0 h1 hs
  rwa [putCells_eq l k s h0 h1 hs] at this
theorem rput_list (w : World) (a : Option Addr) (len cap : Nat) (l : List UInt8) (hb : BytesAt w w.heap.size a l) (hlen : l.length = len) (hl : len ≤ 100000) (k : Int) (s : ByteArray) (h0 : 0 ≤ k) (h1 : k ≤ 255) (hs : s.size ≤ 20000) :
    Calls Try.prog 11 #[.slice a len cap, .agg #[.int .i64 k, .string s]] w fun e w' => ∃ g c, e = .returned (.tuple #[.slice (some ⟨g, 0, none⟩) (len + s.size + 6) c, .int .i64 0]) ∧ w.heap.size < g ∧ Row w' 5 1 g (len + s.size + 6) c (bc (putL l k s)) ∧ Fr [] w w' := by
  have := rput_ok w a len cap l hb hlen hl k s h0 h1 hs
  rwa [putCells_eq l k s h0 h1 hs] at this

theorem nil_bytes (w : World) : BytesAt w w.heap.size none [] := fun h => by cases h
theorem first_put : putL [] 1 ⟨#[]⟩ = [0, 0, 0, 1, 2, 2] := by decide +kernel
theorem first_next : nextL [0, 0, 0, 1, 2, 2] = (1, ⟨#[]⟩, 6, 0) := by decide +kernel
set_option maxHeartbeats 1000000 in
theorem first_true (w : World) : Calls Try.prog 7 #[] w fun e w' => e = .returned (.bool true) ∧ Fr [] w w' := by
  have kb := fun (w : World) (C : Array Value) (n c : Nat) => Lib.run_convert_bytes_const (P := Try.prog) w 22 5 C n c Try.underlying22 Try.underlying5
  go_enter Try.func7, Try.ntmps7
  go_wp2_with fail
  refine (put_list w none 0 0 [] (nil_bytes w) rfl (by decide) 1 ⟨#[]⟩ (by decide) (by decide) (by decide)).mono ?_
  rw [first_put]
  rintro e w1 ⟨g, c, rfl, hg, hr, f1⟩
  replace hr : Row w1 5 1 g 6 c (bc [0, 0, 0, 1, 2, 2]) := hr
  go_wp2_with fail
  have fA := (Fr.refl [] w1).alloc (.cells #[.int .u8 0, .int .u8 0, .int .u8 0, .int .u8 1, .int .u8 2, .int .u8 2] 5 (6, 7))
  have hr2 := hr.fr fA (by simp)
  have hB : BytesAt (w1.alloc (.cells #[.int .u8 0, .int .u8 0, .int .u8 0, .int .u8 1, .int .u8 2, .int .u8 2] 5 (6, 7))) (w1.heap.size + 1) (some ⟨w1.heap.size, 0, none⟩) [0, 0, 0, 1, 2, 2] := fun _ => ⟨_, _, rfl, by omega, fun k x hk => by
    rw [Nat.zero_add, World.cell?_alloc_mark]
    have hk6 : k < 6 := (List.getElem?_eq_some_iff.1 hk).1
    match k, hk with
    | 0, hk => cases hk; rfl
    | 1, hk => cases hk; rfl
    | 2, hk => cases hk; rfl
    | 3, hk => cases hk; rfl
    | 4, hk => cases hk; rfl
    | 5, hk => cases hk; rfl⟩
  refine (next_any (w1.alloc (.cells #[.int .u8 0, .int .u8 0, .int .u8 0, .int .u8 1, .int .u8 2, .int .u8 2] 5 (6, 7))) (some ⟨w1.heap.size, 0, none⟩) 6 [0, 0, 0, 1, 2, 2] (by simpa using hB) (by decide) (by decide)).mono ?_
  rw [first_next]
  simp only [tup4]
  rintro e w2 ⟨rfl, f2⟩
  have hr3 := hr2.fr f2 (by simp)
  have hr4 := hr3.alloc (.cells #[.int .i64 1, .string ⟨#[]⟩] 25)
  have kc := fun c => hr4.conv c
  go_wp2_with fail
  go_ret
  exact ⟨rfl, ((f1.trans fA).trans f2).alloc _⟩
end Go.Proofs.Ytgihjbmmggkepaa
