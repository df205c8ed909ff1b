/-
The rows of Script: what the listed variables give; the wrap that hands them and the world's shape over.
-/
import Derived.Test.YtoejjboanggenaaGreatDoorOpenX
import Derived.ProofKit
import Derived.OpenShut
import Derived.ChangeOld
import Derived.Below
import Derived.Lay
import Derived.MakeChecks
import Derived.HandedShaped
import Derived.Shelf.Vars
namespace Go.Proofs.YtoejjboanggenaaGreatDoor
open Go.ChangeShapes Go.WideShapes Go.ChangeAt Go.RowKit
set_option linter.unusedVariables false

/-- the wrap: listed variables and the world's shape. -/
theorem handed_laid {H : Type} {enc : TypeId × Value → H} {a : Assume} {C : Checked} {os : Os} {f : FuncId} {fn : Func} {s : ChangeSpec} {conds : List PathCond} {apart fresh handsOn again : Bool} {X : World → Array Value → Prop}
    (hX : ∀ (w w' : World) (args : Array Value), w.heap = w'.heap → X w args → X w' args)
    (own : ownKnob C.prog.godebug = none) (started : os.Started) (noInit : C.prog.inits.idxOf? f = none) (hfn : C.prog.funcs[f]? = some fn)
    (witness : ∃ (w : World) (tape : Tape) (i : Input), w.os = os ∧ (w.forCall tape i).Shaped C.prog ∧ i.vars = [] ∧ Input.okWide C.prog (w.forCall tape i) .any w.heap.size f i ∧
      ((s.pre enc C.prog fn conds apart (w.forCall tape i).memory i.args ∧ X (w.forCall tape i).memory i.args) ∧ sizedMet enc C.prog fn (OpenSpec.ofChange s) apart (w.forCall tape i).memory i.args) ∧ a.holds C.prog (lone (Frame.enter C.prog f i.args .normal) [] (w.forCall tape i)))
    (contract : ∀ (W : World) (base : Nat) (args : Array Value) (ds gs : List (DataW H)) (before : List MemPlace),
      (∀ (j : Nat) t v, fn.params[j]? = some t → args[j]? = some v → Value.okWide C.prog W .any base t v) →
      DataW.Whole enc C.prog fn.params.toList s.vars apart W args.toList ds gs before → X W args → W.ShapedOpen C.prog →
      Calls C.prog f args W fun e W' => ∃ v, e = .returned v ∧ s.post enc C.prog fn apart fresh handsOn again W args v W') :
    ReturnsInHanded a C os f .any (fun w args => (s.pre enc C.prog fn conds apart w args ∧ X w args) ∧ sizedMet enc C.prog fn (OpenSpec.ofChange s) apart w args) (s.post enc C.prog fn apart fresh handsOn again) := by
  refine returnsInHanded_of_calls own started noInit witness ?_
  intro w tape i _ hsh _ hok hpre _
  obtain ⟨_, _, _, fn', hfn', _, _, _, _, hval⟩ := hok
  obtain rfl : fn' = fn := Option.some.inj (hfn'.symm.trans hfn)
  obtain ⟨⟨⟨ds, gs, before, hw, _⟩, hx⟩, _⟩ := hpre
  refine (contract (w.forCall tape i) w.heap.size i.args ds gs before hval (DataW.Whole.of_heap (w' := w.forCall tape i) (by rfl) hw) (hX _ _ _ (by rfl) hx) hsh).mono fun e W' ⟨v, he, hp⟩ => ?_
  subst he
  exact ChangeSpec.post_blind hp

def listed : List (String × DataW Unit) := Rows.scriptActsRow.laid
def kwN : List (List UInt8) := kwL.map (·.data.toList)
def syN : List (List UInt8) := syL.map (·.data.toList)
theorem zero0 : ((begin Tryz.prog (fun _ _ => 0) default).world.heap[0]?).bind Obj.row? = some (#[.int .i64 0], 3) := by kernel_rfl
theorem zero9 : ∃ x, ((begin Tryz.prog (fun _ _ => 0) default).world.heap[9]?).bind Obj.row? = some x := by
  cases h : ((begin Tryz.prog (fun _ _ => 0) default).world.heap[9]?).bind Obj.row? with
  | some x => exact ⟨x, rfl⟩
  | none =>
    have : (((begin Tryz.prog (fun _ _ => 0) default).world.heap[9]?).bind Obj.row?).isSome = true := by kernel_rfl
    rw [h] at this
    cases this
theorem gl_of {W : World} (hL : laidMetH Tryz.prog listed W) (hsh : W.ShapedOpen Tryz.prog) : Gl W := by
  rw [MakeChecks.laidMetH_plain _ _ _ (by kernel_rfl)] at hL
  have r3 := Lib.laidMet.reads hL (show ("internal/strconv.uint64pow10", Rows.laid_internal_strconv_uint64pow10) ∈ listed from by unfold listed Rows.scriptActsRow; simp)
  have r4 := Lib.laidMet.reads hL (show ("strconv.ErrSyntax", Rows.laid_strconv_ErrSyntax) ∈ listed from by unfold listed Rows.scriptActsRow; simp)
  have r5 := Lib.laidMet.reads hL (show ("strconv.ErrRange", Rows.laid_strconv_ErrRange) ∈ listed from by unfold listed Rows.scriptActsRow; simp)
  have r6 := Lib.laidMet.reads hL (show ("refmesh/lexer.symbols", Rows.laid_refmesh_lexer_symbols) ∈ listed from by unfold listed Rows.scriptActsRow; simp)
  have r7 := Lib.laidMet.reads hL (show ("refmesh/lexer.keywords", Rows.laid_refmesh_lexer_keywords) ∈ listed from by unfold listed Rows.scriptActsRow; simp)
  have h9 : 9 < W.heap.size := by
    obtain ⟨⟨z, t⟩, h⟩ := zero9
    obtain ⟨cs, hh, _⟩ := hsh.1 9 z t (by rw [globals10]; decide) h
    exact (Array.getElem?_eq_some_iff.1 hh).1
  have k7 := strs_of_reads (ss := kwN) (n := 23) (g := 7) (t := 39) (by kernel_rfl) (by kernel_rfl) (by kernel_rfl) (by kernel_rfl) (show Lib.VarReads Tryz.prog W "refmesh/lexer.keywords" (.slice (kwN.map fun s => .lit (.string s)) []) from r7)
  have k6 := strs_of_reads (ss := syN) (n := 18) (g := 6) (t := 39) (by kernel_rfl) (by kernel_rfl) (by kernel_rfl) (by kernel_rfl) (show Lib.VarReads Tryz.prog W "refmesh/lexer.symbols" (.slice (syN.map fun s => .lit (.string s)) []) from r6)
  exact ⟨cell_of_shapedOpen_int hsh (by rw [globals10]; decide) zero0 rfl (by kernel_rfl) (by kernel_rfl) Tryz.underlying3,
    tabIs_of_reads (g := 3) (t := 146) (e := 86) (n := 20) (by kernel_rfl) (by kernel_rfl) (by kernel_rfl) (by kernel_rfl) (by kernel_rfl) (by kernel_rfl) (show Lib.VarReads Tryz.prog W "internal/strconv.uint64pow10" (Lib.tabData .u64 Lib.pow10Tab) from r3),
    iface_of_reads (g := 4) (t := 70) (by kernel_rfl) (by kernel_rfl) Tryz.underlying70 r4, iface_of_reads (g := 5) (t := 70) (by kernel_rfl) (by kernel_rfl) Tryz.underlying70 r5, k7, k6, by omega, Nat.le_refl _⟩
end Go.Proofs.YtoejjboanggenaaGreatDoor
