/- part of a proof -/
import Derived.Test.YtjpbckbpeblibaaGreatDoorCC23
import Derived.Test.YtjpbckbpeblibaaGreatDoorCC24
namespace Go.Proofs.YtjpbckbpeblibaaGreatDoor
set_option linter.unusedVariables false
set_option linter.unusedSimpArgs false
set_option maxRecDepth 100000
set_option maxHeartbeats 64000000
section
open Go.ChangeShapes Go.WideShapes Go.ChangeAt Go.RowKit
theorem ie:Rows.ScriptCommentsSaid:=
 OpenClaim.holds_of_wide 5 Tryz.f5 rfl rfl rfl rfl rfl rfl rfl ⟨rfl,rfl,rfl,rfl,rfl⟩ rfl rfl rfl rfl rfl (by kernel_rfl) Tryz.func5 Ab
  (Er (by kernel_rfl)) (by unfold Func.isWrapper;first|(rw[Ed (by decide+kernel)];kernel_rfl)|(rw[DS (by decide+kernel)];exact⟨rfl,rfl⟩))
  (λos started H enc _=>zG os started H enc)
end
end Go.Proofs.YtjpbckbpeblibaaGreatDoor
