/- TopBatch holds: for every configuration, every list of moves and either flag it answers true, and what came in reads as before; the tied card: the listed tables lie as the program's text lays them. No other condition. -/
import Derived.Test.YtocppjcocnckmaaGreatDoorM02
import Derived.Test.YtocppjcocnckmaaGreatDoorM52
import Derived.Test.YtocppjcocnckmaaGreatDoorTie
import Derived.Test.YtocppjcocnckmaaGreatDoorCards
import Derived.SevenTiedAt
set_option maxRecDepth 100000
set_option maxHeartbeats 8000000
set_option linter.all false
namespace Go.Proofs.YtocppjcocnckmaaGreatDoor
open Go.Proofs.Tryz
open Go
namespace Fc
theorem inst:f3.isInstance prog Rows.topBatchRow.origin Rows.topBatchRow.targs:=of_decide_eq_true (by kernel_rfl)
theorem wrap:f3.isWrapper prog Rows.topBatchRow.wrapper Rows.topBatchRow.mainSum:=by unfold Func.isWrapper;first|(rw[if_pos (by decide +kernel)];kernel_rfl)|(rw[if_neg (by decide +kernel)];exact⟨rfl,rfl⟩)
theorem named : prog.funcNamed "henhouse/hentop.TopBatch" = some 3 := by kernel_rfl
theorem ye:prog.funcs.any Func.goes=false:=by kernel_rfl
theorem yG {P:Program}(h:P.funcs.any Func.goes=false)(f:FuncId):P.goes f=false:=by
 have h1:∀ g:Nat,(P.funcs[g]?).any Func.goes=false:=λg=>by
  cases hg:P.funcs[g]? with
  | none=>rfl
  | some fn =>
   have hm:fn∈P.funcs:=Array.mem_of_getElem? hg
   have:=(Array.any_eq_false'.1 h) fn hm
   simpa using this
 simp[Program.goes,h,h1]
theorem goes:false=Rows.topBatchRow.goesBy prog:=by
 have h:=yG ye
 unfold OpenClaim.goesBy Program.goesAt Program.goesFrom
 have e:Rows.topBatchRow.start = .entering:=rfl
 rw[e]
 cases prog.funcNamed Rows.topBatchRow.func<;>simp[h]
theorem looks:false=prog.looks []:=by kernel_rfl
theorem byText:Rows.topBatchRow.wfByText (OpenSpec.ofChange Rows.topBatchSpec)=true:=by kernel_rfl
theorem main : prog.mainIs = some (true, "9a4c5578036adb176f41c517b5957528ba0bbfe1cf5c39b85dd0bdcd5d3dbb86".toList) := by kernel_rfl
theorem stand:([25,26,4].all λu=>!prog.wantsStandIn u)=true:=by kernel_rfl
end Fc
theorem topBatch_row:Rows.TopBatchSaid :=
 OpenClaim.holds_of_wide 3 f3 rfl rfl rfl rfl rfl rfl rfl ⟨rfl,rfl,rfl,rfl,rfl⟩ rfl rfl rfl rfl rfl Fc.named func3 Fc.closed Fc.inst Fc.wrap
  (λos started H enc _=>Lf.lifted os started H enc)
theorem topBatch_card:Rows.TopBatchCardSaid :=
 Claim7.holds_tied_plain_at .later [] [.data, .data, .data, .data, .pinned] true (true, "9a4c5578036adb176f41c517b5957528ba0bbfe1cf5c39b85dd0bdcd5d3dbb86") false topBatch_row (λ_ h => by cases h) Fc.byText (λ_ h => by cases h) topBatch_row_tie rfl ⟨rfl, rfl⟩ Fc.main rfl
  (λf fn hf hfn=>by
   obtain rfl:f=3:=Option.some.inj (Fc.named.symm.trans hf) |>.symm
   obtain rfl:fn=f3:=(Option.some.inj (func3.symm.trans hfn)).symm
   exact⟨Fc.looks,λj t ht=>by
    rw[params3] at ht
    have hm:t∈[25,26,4]:=by
     have:=Array.mem_of_getElem? ht
     simp at this ⊢
     omega
    exact(show prog.wantsStandIn t=false by simpa using List.all_eq_true.1 Fc.stand t hm)⟩)
  Fc.goes
#print axioms topBatch_card
end Go.Proofs.YtocppjcocnckmaaGreatDoor
