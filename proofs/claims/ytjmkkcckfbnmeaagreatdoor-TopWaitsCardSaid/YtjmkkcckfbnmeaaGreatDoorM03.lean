/- Texts Facts. -/
import Derived.Test.YtjmkkcckfbnmeaaGreatDoorRows
import Derived.JoinedOf
set_option maxRecDepth 100000
set_option maxHeartbeats 8000000
set_option linter.all false
namespace Go.Proofs.YtjmkkcckfbnmeaaGreatDoor.Fc
open Go
theorem c0:(Rows.topWaitsRow.wf (OpenSpec.ofChange Rows.topWaitsSpec))=true:=by kernel_rfl
theorem c1:(laidOutB Tryz.prog)=true:=by kernel_rfl
theorem c2:(mapsRowed Tryz.prog)=true:=by kernel_rfl
theorem c3:(Tryz.f3.params.all (Tryz.prog.readableRec ·))=true:=by kernel_rfl
theorem c4:(namedTie Tryz.prog Rows.topWaitsRow.named Rows.topWaitsSpec.vars)=true:=by kernel_rfl
theorem c5:(Rows.topWaitsRow.stops==[])=true:=by kernel_rfl
theorem c6:(Tryz.prog.stops==[])=true:=by kernel_rfl
theorem c7:(Rows.topWaitsRow.knobs==[])=true:=by kernel_rfl
theorem c8:(Tryz.prog.stopKnobs==[])=true:=by kernel_rfl
theorem c9:(Rows.topWaitsRow.inPlace==Tryz.prog.inPlace 3)=true:=by kernel_rfl
theorem c10:(Rows.topWaitsRow.unfollowed==Tryz.prog.unfollowed 3)=true:=by kernel_rfl
theorem c11:(Rows.topWaitsRow.recurses==Tryz.prog.recurses 3)=true:=by kernel_rfl
theorem c12:(Rows.topWaitsRow.named==Tryz.prog.varsNamed 3)=true:=by kernel_rfl
theorem c13:(Rows.topWaitsRow.maps==(Tryz.f3.params.toList++Rows.topWaitsSpec.plain.varTypes Tryz.prog).any (Tryz.prog.mapsRec ·))=true:=by kernel_rfl
theorem c14:(Rows.topWaitsRow.ifaces==(Tryz.f3.params.toList++Rows.topWaitsSpec.plain.varTypes Tryz.prog).any (Tryz.prog.ifacesRec ·))=true:=by kernel_rfl
theorem c15:(Rows.topWaitsRow.mapsOut==Tryz.prog.mapsAmong Tryz.f3.resultTypes.toList)=true:=by kernel_rfl
theorem c16:(Rows.topWaitsRow.loops==(Tryz.f3.params.toList++Rows.topWaitsSpec.plain.varTypes Tryz.prog).any (Tryz.prog.loopsFrom ·))=true:=by kernel_rfl
theorem c17:(Rows.topWaitsRow.wideKeys==(Tryz.f3.params.toList++Rows.topWaitsSpec.plain.varTypes Tryz.prog++Tryz.f3.resultTypes.toList).any (Tryz.prog.wideKeysFrom ·))=true:=by kernel_rfl
theorem c18:(Rows.topWaitsSpec.vars.all (Tryz.prog.varReadable ·))=true:=by kernel_rfl
theorem c19:(Tryz.f3.resultTypes.all (fun t=>Tryz.prog.readableRec t&&decide (t < Tryz.prog.types.size)))=true:=by kernel_rfl
theorem c20:(Rows.topWaitsRow.ifacesOut==Tryz.f3.resultTypes.toList.any (Tryz.prog.ifacesRec ·))=true:=by kernel_rfl
theorem c21:(Rows.topWaitsRow.loopsOut==Tryz.f3.resultTypes.toList.any (Tryz.prog.loopsFrom ·))=true:=by kernel_rfl
theorem c22:(Rows.topWaitsRow.plainKeys==Tryz.prog.plainKeys)=true:=by kernel_rfl
theorem c23:(Rows.topWaitsRow.shortTexts.isNone)=true:=by kernel_rfl
theorem c24:(Tryz.prog.stopsHeard)=true:=by kernel_rfl
theorem c25:(Tryz.prog.mayEnter)=true:=by kernel_rfl
theorem c26:(Rows.topWaitsRow.lifted==Tryz.prog.liftsFinal)=true:=by kernel_rfl
theorem c27:(Tryz.prog.make==some Rows.topWaitsRow.make)=true:=by kernel_rfl
theorem c28:(Rows.topWaitsRow.kinds==(if Rows.topWaitsRow.domain.isEmpty then [] else Tryz.f3.params.toList.map fun t=>match Tryz.prog.underlying t with|some (.int k)=>some k|_=>none))=true:=by kernel_rfl
theorem c29:(Rows.topWaitsRow.pinned==Rows.topWaitsRow.pinnedBy)=true:=by kernel_rfl
theorem c30:(Rows.topWaitsRow.veiled==(Tryz.f3.params.toList++Rows.topWaitsSpec.plain.varTypes Tryz.prog++Tryz.f3.resultTypes.toList).any (Tryz.prog.veiledRec ·))=true:=by kernel_rfl
theorem c31:(Rows.topWaitsRow.veiledFits Tryz.prog Tryz.f3.params.toList (Tryz.f3.params.toList++Rows.topWaitsSpec.plain.varTypes Tryz.prog++Tryz.f3.resultTypes.toList))=true:=by kernel_rfl
theorem closed:joinedFacts Tryz.prog 3 Tryz.f3 Rows.topWaitsSpec Rows.topWaitsRow=true:=by
 unfold joinedFacts
 simp only[Bool.and_eq_true]
 exact⟨⟨⟨⟨⟨⟨⟨⟨⟨⟨⟨⟨⟨⟨⟨⟨⟨⟨⟨⟨⟨⟨⟨⟨⟨⟨⟨⟨⟨⟨⟨c0,c1⟩,c2⟩,c3⟩,c4⟩,c5⟩,c6⟩,c7⟩,c8⟩,c9⟩,c10⟩,c11⟩,c12⟩,c13⟩,c14⟩,c15⟩,c16⟩,c17⟩,c18⟩,c19⟩,c20⟩,c21⟩,c22⟩,c23⟩,c24⟩,c25⟩,c26⟩,c27⟩,c28⟩,c29⟩,c30⟩,c31⟩
end Go.Proofs.YtjmkkcckfbnmeaaGreatDoor.Fc
