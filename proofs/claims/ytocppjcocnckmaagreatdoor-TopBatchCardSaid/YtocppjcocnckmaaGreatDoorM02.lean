/- Walks. -/
import Derived.Test.YtocppjcocnckmaaGreatDoorRows
import Derived.JoinedOf
set_option maxRecDepth 100000
set_option maxHeartbeats 8000000
set_option linter.all false
namespace Go.Proofs.YtocppjcocnckmaaGreatDoor
open Go.Proofs.Tryz
namespace Fc
open Go
theorem c0:(Rows.topBatchRow.wf (OpenSpec.ofChange Rows.topBatchSpec))=true:=by kernel_rfl
theorem c1:(laidOutB prog)=true:=by kernel_rfl
theorem c2:(mapsRowed prog)=true:=by kernel_rfl
theorem c3:(f3.params.all (prog.readableRec ·))=true:=by kernel_rfl
theorem c4:(namedTie prog Rows.topBatchRow.named Rows.topBatchSpec.vars)=true:=by kernel_rfl
theorem c5:(Rows.topBatchRow.stops==[])=true:=by kernel_rfl
theorem c6:(prog.stops==[])=true:=by kernel_rfl
theorem c7:(Rows.topBatchRow.knobs==[])=true:=by kernel_rfl
theorem c8:(prog.stopKnobs==[])=true:=by kernel_rfl
theorem c9:(Rows.topBatchRow.inPlace==prog.inPlace 3)=true:=by kernel_rfl
theorem c10:(Rows.topBatchRow.unfollowed==prog.unfollowed 3)=true:=by kernel_rfl
theorem c11:(Rows.topBatchRow.recurses==prog.recurses 3)=true:=by kernel_rfl
theorem c12:(Rows.topBatchRow.named==prog.varsNamed 3)=true:=by kernel_rfl
theorem c13:(Rows.topBatchRow.maps==(f3.params.toList++Rows.topBatchSpec.plain.varTypes prog).any (prog.mapsRec ·))=true:=by kernel_rfl
theorem c14:(Rows.topBatchRow.ifaces==(f3.params.toList++Rows.topBatchSpec.plain.varTypes prog).any (prog.ifacesRec ·))=true:=by kernel_rfl
theorem c15:(Rows.topBatchRow.mapsOut==prog.mapsAmong f3.resultTypes.toList)=true:=by kernel_rfl
theorem c16:(Rows.topBatchRow.loops==(f3.params.toList++Rows.topBatchSpec.plain.varTypes prog).any (prog.loopsFrom ·))=true:=by kernel_rfl
theorem c17:(Rows.topBatchRow.wideKeys==(f3.params.toList++Rows.topBatchSpec.plain.varTypes prog++f3.resultTypes.toList).any (prog.wideKeysFrom ·))=true:=by kernel_rfl
theorem c18:(Rows.topBatchSpec.vars.all (prog.varReadable ·))=true:=by kernel_rfl
theorem c19:(f3.resultTypes.all (λt=>prog.readableRec t&&decide (t < prog.types.size)))=true:=by kernel_rfl
theorem c20:(Rows.topBatchRow.ifacesOut==f3.resultTypes.toList.any (prog.ifacesRec ·))=true:=by kernel_rfl
theorem c21:(Rows.topBatchRow.loopsOut==f3.resultTypes.toList.any (prog.loopsFrom ·))=true:=by kernel_rfl
theorem c22:(Rows.topBatchRow.plainKeys==prog.plainKeys)=true:=by kernel_rfl
theorem c23:(Rows.topBatchRow.shortTexts.isNone)=true:=by kernel_rfl
theorem c24:(prog.stopsHeard)=true:=by kernel_rfl
theorem c25:(prog.mayEnter)=true:=by kernel_rfl
theorem c26:(Rows.topBatchRow.lifted==prog.liftsFinal)=true:=by kernel_rfl
theorem c27:(prog.make==some Rows.topBatchRow.make)=true:=by kernel_rfl
theorem c28:(Rows.topBatchRow.kinds==(if Rows.topBatchRow.domain.isEmpty then [] else f3.params.toList.map λt=>match prog.underlying t with|some (.int k)=>some k|_=>none))=true:=by kernel_rfl
theorem c29:(Rows.topBatchRow.pinned==Rows.topBatchRow.pinnedBy)=true:=by kernel_rfl
theorem c30:(Rows.topBatchRow.veiled==(f3.params.toList++Rows.topBatchSpec.plain.varTypes prog++f3.resultTypes.toList).any (prog.veiledRec ·))=true:=by kernel_rfl
theorem c31:(Rows.topBatchRow.veiledFits prog f3.params.toList (f3.params.toList++Rows.topBatchSpec.plain.varTypes prog++f3.resultTypes.toList))=true:=by kernel_rfl
theorem closed:joinedFacts prog 3 f3 Rows.topBatchSpec Rows.topBatchRow=true:=by
 unfold joinedFacts
 simp only[Bool.and_eq_true]
 exact⟨⟨⟨⟨⟨⟨⟨⟨⟨⟨⟨⟨⟨⟨⟨⟨⟨⟨⟨⟨⟨⟨⟨⟨⟨⟨⟨⟨⟨⟨⟨c0,c1⟩,c2⟩,c3⟩,c4⟩,c5⟩,c6⟩,c7⟩,c8⟩,c9⟩,c10⟩,c11⟩,c12⟩,c13⟩,c14⟩,c15⟩,c16⟩,c17⟩,c18⟩,c19⟩,c20⟩,c21⟩,c22⟩,c23⟩,c24⟩,c25⟩,c26⟩,c27⟩,c28⟩,c29⟩,c30⟩,c31⟩
end Fc
