/- TopWaits holds: for every list of picks and every four numbers it answers true, and what came in reads as before; the tied card: the listed tables lie as the program's text lays them. No other condition. -/
import Derived.Test.YtjmkkcckfbnmeaaGreatDoorM03
import Derived.Test.YtjmkkcckfbnmeaaGreatDoorM50
import Derived.Test.YtjmkkcckfbnmeaaGreatDoorTie
import Derived.Test.YtjmkkcckfbnmeaaGreatDoorCards
import Derived.SevenTiedAt
set_option maxRecDepth 100000
set_option maxHeartbeats 8000000
set_option linter.all false
namespace Go.Proofs.YtjmkkcckfbnmeaaGreatDoor
open Go
namespace Fc
theorem inst:Tryz.f3.isInstance Tryz.prog Rows.topWaitsRow.origin Rows.topWaitsRow.targs:=of_decide_eq_true (by kernel_rfl)
theorem wrap:Tryz.f3.isWrapper Tryz.prog Rows.topWaitsRow.wrapper Rows.topWaitsRow.mainSum:=by unfold Func.isWrapper;first|(rw[if_pos (by decide +kernel)];kernel_rfl)|(rw[if_neg (by decide +kernel)];exact⟨rfl,rfl⟩)
theorem named : Tryz.prog.funcNamed "henhouse/hentop.TopWaits" = some 3 := by kernel_rfl
theorem none_goes:Tryz.prog.funcs.any Func.goes=false:=by kernel_rfl
theorem goes_none {P:Program}(h:P.funcs.any Func.goes=false)(f:FuncId):P.goes f=false:=by
 have h1:∀ g:Nat,(P.funcs[g]?).any Func.goes=false:=fun g=>by
  cases hg:P.funcs[g]? with
  | none=>rfl
  | some fn =>
   have hm:fn∈P.funcs:=Array.mem_of_getElem? hg
   have:=(Array.any_eq_false'.1 h) fn hm
   simpa using this
 simp[Program.goes,h,h1]
theorem goes:false=Rows.topWaitsRow.goesBy Tryz.prog:=by
 have h:=goes_none none_goes
 unfold OpenClaim.goesBy Program.goesAt Program.goesFrom
 have e:Rows.topWaitsRow.start = .entering:=rfl
 rw[e]
 cases Tryz.prog.funcNamed Rows.topWaitsRow.func<;>simp[h]
theorem looks:false=Tryz.prog.looks []:=by kernel_rfl
theorem byText:Rows.topWaitsRow.wfByText (OpenSpec.ofChange Rows.topWaitsSpec)=true:=by kernel_rfl
theorem main : Tryz.prog.mainIs = some (true, "2805e8bef173d2f7b8cb222b4e5f47c14f9ccfbaa925c61ee4bb3d4ff9d090c5".toList) := by kernel_rfl
theorem stand:([22,3].all fun u=>!Tryz.prog.wantsStandIn u)=true:=by kernel_rfl
end Fc
theorem topWaits_row:Rows.TopWaitsSaid :=
 OpenClaim.holds_of_wide 3 Tryz.f3 rfl rfl rfl rfl rfl rfl rfl ⟨rfl,rfl,rfl,rfl,rfl⟩ rfl rfl rfl rfl rfl Fc.named Tryz.func3 Fc.closed Fc.inst Fc.wrap
  (fun os started H enc _=>Lf.lifted os started H enc)
theorem topWaits_card:Rows.TopWaitsCardSaid :=
 Claim7.holds_tied_plain_at .later [] [.data, .data, .data, .data, .pinned] true (true, "2805e8bef173d2f7b8cb222b4e5f47c14f9ccfbaa925c61ee4bb3d4ff9d090c5") false topWaits_row (fun _ h => by cases h) Fc.byText (fun _ h => by cases h) topWaits_row_tie rfl ⟨rfl, rfl⟩ Fc.main rfl
  (fun f fn hf hfn=>by
   obtain rfl:f=3:=Option.some.inj (Fc.named.symm.trans hf) |>.symm
   obtain rfl:fn=Tryz.f3:=(Option.some.inj (Tryz.func3.symm.trans hfn)).symm
   exact⟨Fc.looks,fun j t ht=>by
    rw[Tryz.params3] at ht
    have hm:t∈[22,3]:=by
     have:=Array.mem_of_getElem? ht
     simp at this ⊢
     omega
    exact(show Tryz.prog.wantsStandIn t=false by simpa using List.all_eq_true.1 Fc.stand t hm)⟩)
  Fc.goes
#print axioms topWaits_card
end Go.Proofs.YtjmkkcckfbnmeaaGreatDoor
