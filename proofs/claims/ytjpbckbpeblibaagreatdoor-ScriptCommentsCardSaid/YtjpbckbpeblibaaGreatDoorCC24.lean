/- part of a proof -/
import Derived.Test.YtjpbckbpeblibaaGreatDoorCC01
import Derived.ProofKit
import Derived.SevenTiedAt
namespace Go.Proofs.YtjpbckbpeblibaaGreatDoor
set_option linter.unusedVariables false
set_option linter.unusedSimpArgs false
set_option maxRecDepth 100000
set_option maxHeartbeats 64000000
section
open Go.ChangeShapes Go.WideShapes Go.ChangeAt Go.RowKit
theorem cA{a b:Bool}(ha:a=true)(hb:b=true):(a&&b)=true:=by rw[ha,hb];rfl
theorem Ab:joinedFacts Tryz.pinned.checked.prog 5 Tryz.f5 Rows.scriptCommentsSpec Rows.scriptCommentsRow=true:=by
 unfold joinedFacts;refine cA (cA (cA (cA (cA (cA (cA (cA (cA (cA (cA (cA (cA (cA (cA (cA (cA (cA (cA (cA (cA (cA (cA (cA (cA (cA (cA (cA (cA (cA (cA ?_ ?_) ?_) ?_) ?_) ?_) ?_) ?_) ?_) ?_) ?_) ?_) ?_) ?_) ?_) ?_) ?_) ?_) ?_) ?_) ?_) ?_) ?_) ?_) ?_) ?_) ?_) ?_) ?_) ?_) ?_) ?_;all_goals(as_aux_lemma=>kernel_rfl)
end
end Go.Proofs.YtjpbckbpeblibaaGreatDoor
