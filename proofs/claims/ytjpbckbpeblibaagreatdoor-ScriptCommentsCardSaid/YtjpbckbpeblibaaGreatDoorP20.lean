/-
ScriptComments returns true whatever comes in, and what came in reads as it did.
-/
import Derived.Test.YtjpbckbpeblibaaGreatDoorCC25
import Derived.Test.YtjpbckbpeblibaaGreatDoorCards
import Derived.Test.YtjpbckbpeblibaaGreatDoorTie
namespace Go.Proofs.YtjpbckbpeblibaaGreatDoor
set_option linter.unusedVariables false
set_option linter.unusedSimpArgs false
set_option maxRecDepth 100000
set_option maxHeartbeats 64000000
section
open Go.ChangeShapes Go.WideShapes Go.ChangeAt Go.RowKit
theorem scriptComments_card:Rows.ScriptCommentsCardSaid:=
 Claim7.holds_tied_plain_at .later [] [.data,.data,.data,.data,.sentinel,.sentinel,.widerDeep,.widerDeep,.data,.data,.pinned] true (true,"5aadd4e6ba929b92c60ec111ab94a1851c07df0fb41d7739bc95e3149b45c856") true
  ie (λ_ h=>by cases h) (by kernel_rfl) (λ_ h=>by cases h) scriptComments_row_tie rfl ⟨rfl,rfl⟩ (by kernel_rfl) rfl
  (λf fn hf hfn=>by
    obtain rfl:f=5:=Option.some.inj ((show Tryz.prog.funcNamed "refmesh/refmeshlaw56.ScriptComments"=some 5 by kernel_rfl).symm.trans hf)|>.symm;obtain rfl:fn=Tryz.f5:=(Option.some.inj (Tryz.func5.symm.trans hfn)).symm
    exact⟨by kernel_rfl,λj t ht=>by
     rw[Tryz.params5]at ht;have hm:t∈[35,9,5]:=by simpa using Array.mem_of_getElem? ht
     have hall:([35,9,5].all λu=> !Tryz.prog.wantsStandIn u)=true:=by kernel_rfl
     exact(show Tryz.prog.wantsStandIn t=false by simpa using Ec.1 hall t hm)⟩)
  (by kernel_rfl)
end
end Go.Proofs.YtjpbckbpeblibaaGreatDoor
