/- The contract of henkeep.Ints at two slices that read alike. -/
import Derived.Test.YtjkhkepckocjkaaHubW
namespace Go.Proofs.Ytjkhkepckocjkaa
open Go.RowKit

/-- The slice value v reads as xs. -/
def IntsAt (w : World) (v : Value) (xs : List Int) : Prop := ∃ a c, v = .slice a xs.length c ∧ (0 < xs.length → ∃ b o, a = some ⟨b, o, none⟩) ∧ Cells w a (xs.map ci)
theorem Sl.ints {w : World} {v : Value} {xs : List Int} {own : Option Nat} (h : Sl w 3 1 v xs.length (xs.map ci) own) (hm : 0 < xs.length → ∃ g, own = some g) : IntsAt w v xs := by
  rcases h with ⟨h0, a, hv, h1, h2, h3, h4⟩ | ⟨g, c, h0, hv, hr⟩
  · refine ⟨a, xs.length, hv, fun h => ?_, h3⟩
    obtain ⟨g, hg⟩ := hm h
    rw [h0] at hg
    cases hg
  · exact ⟨_, c, hv, fun _ => ⟨_, _, rfl⟩, hr.cells⟩
theorem IntsAt.fr0 {w w' : World} {v : Value} {xs : List Int} (h : IntsAt w v xs) (hf : Fr [] w w') : IntsAt w' v xs := by
  obtain ⟨a, c, hv, ha, hc⟩ := h
  exact ⟨a, c, hv, ha, hc.fr0 hf⟩

set_option maxHeartbeats 1000000 in
theorem ints_true (w : World) (v v' : Value) (xs : List Int) (h : IntsAt w v xs) (h' : IntsAt w v' xs) (hl : xs.length ≤ 1000) :
    Calls Try.prog 11 #[v, v'] w fun e w' => e = .returned (.bool true) ∧ ∃ n, w' = w.drewN n := by
  obtain ⟨a, c, rfl, ha, hc⟩ := h
  obtain ⟨a', c', rfl, ha', hc'⟩ := h'
  go_enter Try.func11, Try.ntmps11
  go_wp2
  go_loopw [5] (fun i wr => ∃ k n : Nat, k ≤ xs.length ∧ i = .int .i64 k ∧ wr = w.drewN n) (fun i _ => xs.length - (intOf i).toNat)
  case atStart => exact ⟨0, 0, Nat.zero_le _, rfl, rfl⟩
  case round =>
    obtain ⟨k, n, hk, rfl, rfl⟩ := hrel
    by_cases hlt : k < xs.length
    · obtain ⟨b, o, rfl⟩ := ha (by omega)
      obtain ⟨b', o', rfl⟩ := ha' (by omega)
      have hx : (xs.map ci)[k]? = some (.int .i64 xs[k]) := by simp [hlt, ci]
      have q1 : w.cell? ⟨b, o + k, none⟩ = some (.int .i64 xs[k]) := hc.at_ hx
      have q2 : w.cell? ⟨b', o' + k, none⟩ = some (.int .i64 xs[k]) := hc'.at_ hx
      have hk1 : (k : Int) < (xs.length : Int) := by omega
      have hk0 : (0 : Int) ≤ (k : Int) := by omega
      generalize xs[k] = x at q1 q2
      clear hx hc hc' ha ha'
      go_wp2
      go_quiet (fail)
      go_wp2
      go_roundw
      case rel => exact ⟨k + 1, n + nq, by omega, by go_num, rfl⟩
      case measure => simp [intOf]; omega
    · go_wp2
      go_ret
      exact ⟨rfl, n, rfl⟩
end Go.Proofs.Ytjkhkepckocjkaa
