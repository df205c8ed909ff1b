/- part of a proof -/
import Derived.Test.YtjpbckbpeblibaaGreatDoorJJ01
import Derived.ProofKit
import Derived.SevenTiedAt
namespace Go.Proofs.YtjpbckbpeblibaaGreatDoor
set_option linter.unusedVariables false
set_option linter.unusedSimpArgs false
set_option maxRecDepth 100000
set_option maxHeartbeats 64000000
section
open Go.ChangeShapes Go.WideShapes Go.ChangeAt Go.RowKit
theorem cx{a b:Bool}(ha:a=true)(hb:b=true):(a&&b)=true:=by rw[ha,hb];rfl
theorem zv:joinedFacts Tryz.pinned.checked.prog 6 Tryz.f6 Rows.scriptErrorsSpec Rows.scriptErrorsRow=true:=by
 unfold joinedFacts;refine cx (cx (cx (cx (cx (cx (cx (cx (cx (cx (cx (cx (cx (cx (cx (cx (cx (cx (cx (cx (cx (cx (cx (cx (cx (cx (cx (cx (cx (cx (cx ?_ ?_) ?_) ?_) ?_) ?_) ?_) ?_) ?_) ?_) ?_) ?_) ?_) ?_) ?_) ?_) ?_) ?_) ?_) ?_) ?_) ?_) ?_) ?_) ?_) ?_) ?_) ?_) ?_) ?_) ?_) ?_;all_goals(as_aux_lemma=>kernel_rfl)
end
end Go.Proofs.YtjpbckbpeblibaaGreatDoor
