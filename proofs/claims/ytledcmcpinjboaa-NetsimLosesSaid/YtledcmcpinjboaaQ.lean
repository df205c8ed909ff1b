/-
A region that draws its order, whose operations read and whose callees only make memory: one walk serves every order.
-/
import Derived.Test.YtledcmcpinjboaaM1
import Derived.Deep.Quiet
import Derived.Deep.QuietTactic
import Derived.BigQuiet
namespace Go.Proofs.Ytledcmcpinjboaa
open Go.RowKit
set_option linter.unusedVariables false

theorem quiet_class (B : Nat) (w0 : World) : ∃ (T : Type) (f : T → World), Nonempty T ∧ (∀ x, Below B w0 (f x)) ∧ (∀ W, Below B w0 W → ∃ x, W = f x) :=
  ⟨{ W // Below B w0 W }, Subtype.val, ⟨⟨w0, Below.refl _ _⟩⟩, fun x => x.2, fun W h => ⟨⟨W, h⟩, rfl⟩⟩
theorem wp_region_class {P : Program} {T : Type} (f : T → World) {id : Nat} {Q : Exit → Act → World → Prop} {a : Act} {w : World} {l : List Oper} (hm : P.follows .mixedOrders = true) (hB : Region.lexB .any l.toArray = true) (hC : ∃ x, w.drew = f x)
    (h : wpQuiet P l.toArray (fun W => ∃ x, W = f x) (fun a' => ∀ w', (∃ x, w' = f x) → Q .normal a' w') l a) : (Code.region id l.toArray true).wp P Q a w :=
  wp_region_quiet (C := fun W => ∃ x, W = f x) hm hB hC (by simpa using h)
end Go.Proofs.Ytledcmcpinjboaa
