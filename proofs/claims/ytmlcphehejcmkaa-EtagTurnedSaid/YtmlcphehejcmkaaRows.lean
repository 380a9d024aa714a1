/-
  No cell of these rows narrows 'for every input' (looked for: loops, veiled, ifaces, maps, wideKeys, modest, calm, conditions, laid).
  DERIVED. THE GIVEN ROWS OF THIS SEAT. 4 by the template 'for every input the law returns true; each argument reads behind the call as it read before'; 0 by the template 'total and deterministic' (their statements: YtmlcphehejcmkaaTotals.lean).
  GIVEN WITH THE SEED: the statements are not yours to turn. If you find one false, say at which input.
  Laid BY PROGRAM, IN A SANDBOX (cutbox-rows.mjs): the forced cells as the released guide's own fill.sh prints them over the translation b6e34ac1e91104d2… (all of the seat's roots in one cut). By AI agents, Wed Nov 11 2026. No macro, syntax, notation, axiom, sorry.
-/
import Derived.Test.YtmlcphehejcmkaaChecked
import GoSem.Claim
import GoSem.ClaimJoined
import GoSem.ClaimMapViews
import Derived.JoinedTies
import Derived.KernelRfl
namespace Go.Proofs.Ytmlcphehejcmkaa
/- THE CELL 'sum', in the pinned program and in every row, IS THE sha256 OF THE DUMP (.gsa) THAT YtmlcphehejcmkaaProg.lean LOADS. Nothing in Lean hashes anything: it is a label: what it is worth is what the hold of that sum in a sandbox is worth. -/
noncomputable def Try.pinned : Pinned := { name := "ytmlcphehejcmkaa", sum := "b6e34ac1e91104d2f8753325b6c0cd3dbd40c349eafd750df90d1f6286ba6b53", checked := Try.checked }
namespace Rows
def none {H : Type} : Left H := { results := [], args := [] }

/-- 'henlaw9.EtagBack': WHATEVER THE INPUT: true; the input reads as it did. -/
def etagBackSpec : ChangeSpec := { name := "etagBack", fn := fun _ => fun
  | [d1, d2, d3] => { results := [.lit (.bool true)], args := [d1, d2, d3] }
  | _ => none }
def etagBackRow : OpenClaim := { program := "ytmlcphehejcmkaa", sum := "b6e34ac1e91104d2f8753325b6c0cd3dbd40c349eafd750df90d1f6286ba6b53", func := "henhouse/henlaw9.EtagBack", spec := "etagBack", inPlace := ["internal/bytealg.IndexByteString"], apart := false }
def EtagBackSaid : Prop := etagBackRow.holds Try.pinned (OpenSpec.ofChange etagBackSpec)

/-- ITS FALSE NEIGHBOUR: 'it returns false'. Refute it at one input. -/
def etagBackWrong : ChangeSpec := { name := "etagBack", fn := fun _ => fun
  | [d1, d2, d3] => { results := [.lit (.bool false)], args := [d1, d2, d3] }
  | _ => none }
def EtagBackWrongFalsely : Prop := etagBackRow.holds Try.pinned (OpenSpec.ofChange etagBackWrong)

/-- 'henlaw9.EtagTurned': WHATEVER THE INPUT: true; the input reads as it did. -/
def etagTurnedSpec : ChangeSpec := { name := "etagTurned", fn := fun _ => fun
  | [d1, d2, d3] => { results := [.lit (.bool true)], args := [d1, d2, d3] }
  | _ => none }
def etagTurnedRow : OpenClaim := { program := "ytmlcphehejcmkaa", sum := "b6e34ac1e91104d2f8753325b6c0cd3dbd40c349eafd750df90d1f6286ba6b53", func := "henhouse/henlaw9.EtagTurned", spec := "etagTurned", inPlace := ["internal/bytealg.IndexByteString"], apart := false }
def EtagTurnedSaid : Prop := etagTurnedRow.holds Try.pinned (OpenSpec.ofChange etagTurnedSpec)

/-- ITS FALSE NEIGHBOUR: 'it returns false'. Refute it at one input. -/
def etagTurnedWrong : ChangeSpec := { name := "etagTurned", fn := fun _ => fun
  | [d1, d2, d3] => { results := [.lit (.bool false)], args := [d1, d2, d3] }
  | _ => none }
def EtagTurnedWrongFalsely : Prop := etagTurnedRow.holds Try.pinned (OpenSpec.ofChange etagTurnedWrong)

/-- 'henlaw9.EtagTells': WHATEVER THE INPUT: true; the input reads as it did. -/
def etagTellsSpec : ChangeSpec := { name := "etagTells", fn := fun _ => fun
  | [d1, d2, d3, d4, d5] => { results := [.lit (.bool true)], args := [d1, d2, d3, d4, d5] }
  | _ => none }
def etagTellsRow : OpenClaim := { program := "ytmlcphehejcmkaa", sum := "b6e34ac1e91104d2f8753325b6c0cd3dbd40c349eafd750df90d1f6286ba6b53", func := "henhouse/henlaw9.EtagTells", spec := "etagTells", inPlace := ["internal/bytealg.IndexByteString"], apart := false }
def EtagTellsSaid : Prop := etagTellsRow.holds Try.pinned (OpenSpec.ofChange etagTellsSpec)

/-- ITS FALSE NEIGHBOUR: 'it returns false'. Refute it at one input. -/
def etagTellsWrong : ChangeSpec := { name := "etagTells", fn := fun _ => fun
  | [d1, d2, d3, d4, d5] => { results := [.lit (.bool false)], args := [d1, d2, d3, d4, d5] }
  | _ => none }
def EtagTellsWrongFalsely : Prop := etagTellsRow.holds Try.pinned (OpenSpec.ofChange etagTellsWrong)

/-- 'henlaw9.EtagConds': WHATEVER THE INPUT: true; the input reads as it did. -/
def etagCondsSpec : ChangeSpec := { name := "etagConds", fn := fun _ => fun
  | [d1, d2, d3] => { results := [.lit (.bool true)], args := [d1, d2, d3] }
  | _ => none }
def etagCondsRow : OpenClaim := { program := "ytmlcphehejcmkaa", sum := "b6e34ac1e91104d2f8753325b6c0cd3dbd40c349eafd750df90d1f6286ba6b53", func := "henhouse/henlaw9.EtagConds", spec := "etagConds", inPlace := ["internal/bytealg.IndexByteString"], apart := false }
def EtagCondsSaid : Prop := etagCondsRow.holds Try.pinned (OpenSpec.ofChange etagCondsSpec)

/-- ITS FALSE NEIGHBOUR: 'it returns false'. Refute it at one input. -/
def etagCondsWrong : ChangeSpec := { name := "etagConds", fn := fun _ => fun
  | [d1, d2, d3] => { results := [.lit (.bool false)], args := [d1, d2, d3] }
  | _ => none }
def EtagCondsWrongFalsely : Prop := etagCondsRow.holds Try.pinned (OpenSpec.ofChange etagCondsWrong)

/- THE SECOND FORM. 'bulk': how many values and letters a reading holds, each counted each time it is reached (what is shared counts as often as it is met; a slice's spare places count too). A statement '..UptoSaid' is the law's where the arguments, and the package variables that the reading takes, are together of bulk at most 1048576: NARROWER than '..Said'. Prove '..Said' where nothing that the law and all that it calls make is longer than what came in: it says more and counts as full. Else prove '..UptoSaid'. A law counts once. -/
mutual
def uptoBulk {H : Type} : DataW H → Nat
  | .lit (.string bytes) => bytes.length + 1
  | .lit _ => 1
  | .nil => 1
  | .ptr d => uptoBulk d + 1
  | .slice elems spare => uptoBulkAll elems + uptoBulkAll spare + 1
  | .agg parts => uptoBulkAll parts + 1
  | .iface _ d => uptoBulk d + 1
  | .map entries => uptoBulkEntries entries + 1
  | .held _ => 1
def uptoBulkAll {H : Type} : List (DataW H) → Nat
  | [] => 0
  | d :: r => uptoBulk d + uptoBulkAll r
def uptoBulkEntries {H : Type} : List (Lit × DataW H) → Nat
  | [] => 0
  | x :: r => uptoBulkEntry x + uptoBulkEntries r
def uptoBulkEntry {H : Type} : Lit × DataW H → Nat
  | (.string bytes, d) => bytes.length + uptoBulk d + 1
  | (_, d) => uptoBulk d + 1
 end
def uptoSmall : (H : Type) → List (DataW H) → Bool := fun _ ds => decide (uptoBulkAll ds ≤ 1048576)
def OpenSpec.upto (s : _root_.Go.ChangeSpec) : _root_.Go.OpenSpec := { _root_.Go.OpenSpec.ofChange s with cond := some uptoSmall }

/-- 'henlaw9.EtagBack', WHERE WHAT IT READS IS OF BULK AT MOST 1048576: true; the input reads as it did. -/
def etagBackUptoRow : OpenClaim := { program := "ytmlcphehejcmkaa", sum := "b6e34ac1e91104d2f8753325b6c0cd3dbd40c349eafd750df90d1f6286ba6b53", func := "henhouse/henlaw9.EtagBack", spec := "etagBack", inPlace := ["internal/bytealg.IndexByteString"], apart := false, narrowed := true }
def EtagBackUptoSaid : Prop := etagBackUptoRow.holds Try.pinned (OpenSpec.upto etagBackSpec)

/-- 'henlaw9.EtagTurned', WHERE WHAT IT READS IS OF BULK AT MOST 1048576: true; the input reads as it did. -/
def etagTurnedUptoRow : OpenClaim := { program := "ytmlcphehejcmkaa", sum := "b6e34ac1e91104d2f8753325b6c0cd3dbd40c349eafd750df90d1f6286ba6b53", func := "henhouse/henlaw9.EtagTurned", spec := "etagTurned", inPlace := ["internal/bytealg.IndexByteString"], apart := false, narrowed := true }
def EtagTurnedUptoSaid : Prop := etagTurnedUptoRow.holds Try.pinned (OpenSpec.upto etagTurnedSpec)

/-- 'henlaw9.EtagTells', WHERE WHAT IT READS IS OF BULK AT MOST 1048576: true; the input reads as it did. -/
def etagTellsUptoRow : OpenClaim := { program := "ytmlcphehejcmkaa", sum := "b6e34ac1e91104d2f8753325b6c0cd3dbd40c349eafd750df90d1f6286ba6b53", func := "henhouse/henlaw9.EtagTells", spec := "etagTells", inPlace := ["internal/bytealg.IndexByteString"], apart := false, narrowed := true }
def EtagTellsUptoSaid : Prop := etagTellsUptoRow.holds Try.pinned (OpenSpec.upto etagTellsSpec)

/-- 'henlaw9.EtagConds', WHERE WHAT IT READS IS OF BULK AT MOST 1048576: true; the input reads as it did. -/
def etagCondsUptoRow : OpenClaim := { program := "ytmlcphehejcmkaa", sum := "b6e34ac1e91104d2f8753325b6c0cd3dbd40c349eafd750df90d1f6286ba6b53", func := "henhouse/henlaw9.EtagConds", spec := "etagConds", inPlace := ["internal/bytealg.IndexByteString"], apart := false, narrowed := true }
def EtagCondsUptoSaid : Prop := etagCondsUptoRow.holds Try.pinned (OpenSpec.upto etagCondsSpec)

end Rows
end Go.Proofs.Ytmlcphehejcmkaa
