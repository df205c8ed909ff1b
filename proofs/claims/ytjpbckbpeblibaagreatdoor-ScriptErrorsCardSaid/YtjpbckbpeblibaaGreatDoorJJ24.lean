/- part of a proof -/
import Derived.Test.YtjpbckbpeblibaaGreatDoorJJ22
import Derived.Test.YtjpbckbpeblibaaGreatDoorJJ23
namespace Go.Proofs.YtjpbckbpeblibaaGreatDoor
set_option linter.unusedVariables false
set_option linter.unusedSimpArgs false
set_option maxRecDepth 100000
set_option maxHeartbeats 64000000
section
open Go.ChangeShapes Go.WideShapes Go.ChangeAt Go.RowKit
theorem iX:Rows.ScriptErrorsSaid:=
 OpenClaim.holds_of_wide 6 Tryz.f6 rfl rfl rfl rfl rfl rfl rfl ⟨rfl,rfl,rfl,rfl,rfl⟩ rfl rfl rfl rfl rfl (by kernel_rfl) Tryz.func6 zv
  (DI (by kernel_rfl)) (by unfold Func.isWrapper;first|(rw[Dq (by decide+kernel)];kernel_rfl)|(rw[Dg (by decide+kernel)];exact⟨rfl,rfl⟩))
  (λos started H enc _=>yT os started H enc)
end
end Go.Proofs.YtjpbckbpeblibaaGreatDoor
