/-
The four functions of a part, as data.
-/
import Derived.Test.YtoejjboanggenaaGreatDoorR
import Derived.Test.YtoejjboanggenaaGreatDoorS
import Derived.Test.YtoejjboanggenaaGreatDoorV2
namespace Go.Proofs.YtoejjboanggenaaGreatDoor
open Go.RowKit
set_option linter.unusedVariables false
set_option linter.unusedSimpArgs false

/-- a function of the program: a call enters it. -/
def Enters (n : Nat) : Prop := ∀ (ar : Array Value) (w : World), (callFunc n ar).run Tryz.prog w = .ok (.enter n ar) w
/-- a function value, called. -/
def RunsOn (fv : Value) (args : Array Value) (w : World) (Q : Ending → World → Prop) : Prop := ∃ n fvs, fv = .func (.func n) #[] fvs ∧ Enters n ∧ Calls Tryz.prog n (args ++ fvs) w Q
/-- the kinds of names are a variable's and a class's. -/
def PD.good : PD → Prop
  | .nam k => k = 2 ∨ k = 3
  | .met k => k = 2 ∨ k = 3
  | _ => True
theorem any_not {zs : List Int} (p : Int → Bool) : (!(zs.any fun z => !p z)) = zs.all p := by
  rw [List.any_eq_not_all_not, Bool.not_not]
  congr 1
  funext z
  exact Bool.not_not _
theorem part_valid {w : World} {B : Nat} {pd : PD} {a b c d : Value} (h : PartV w B pd [a, b, c, d]) (hp : pd.good) (v : Av) (dd : Ad) (hr : Reads w w.heap.size v dd) (hg : Gl w) (hn : v.n ≤ 1000000) (hn2 : v.n2 ≤ 1000000) :
    RunsOn c #[.agg v.cells] w fun e w' => e = .returned (.bool (okPD dd pd)) ∧ Below w.heap.size w w' := by
  cases pd with
  | numA lo hi =>
    obtain ⟨b0, b1, b2, e, h0, h1, h2, k0, k1, k2⟩ := h
    simp only [List.cons.injEq, and_true] at e
    obtain ⟨_, _, rfl, _⟩ := e
    exact ⟨58, _, rfl, fun _ _ => by kernel_rfl, (num58_38 v b0 b1 b2 lo hi w k0 k1 k2).mono fun e w' q => ⟨by rw [q.1]; exact ret_bool (by unfold okPD; rw [hr.a]), q.2⟩⟩
  | numB lo hi =>
    obtain ⟨b0, b1, b2, e, h0, h1, h2, k0, k1, k2⟩ := h
    simp only [List.cons.injEq, and_true] at e
    obtain ⟨_, _, rfl, _⟩ := e
    exact ⟨58, _, rfl, fun _ _ => by kernel_rfl, (num58_39 v b0 b1 b2 lo hi w k0 k1 k2).mono fun e w' q => ⟨by rw [q.1]; exact ret_bool (by unfold okPD; rw [hr.b]), q.2⟩⟩
  | nam k =>
    obtain ⟨b0, b1, e, h0, h1, k0, k1⟩ := h
    simp only [List.cons.injEq, and_true] at e
    obtain ⟨_, _, rfl, _⟩ := e
    exact ⟨62, _, rfl, fun _ _ => by kernel_rfl, (nam62_41 v b0 b1 k hp w hg k0 k1).mono fun e w' q => ⟨by rw [q.1]; exact ret_bool (by unfold okPD; rw [hr.nm]), q.2⟩⟩
  | met k =>
    obtain ⟨b0, b1, e, h0, h1, k0, k1⟩ := h
    simp only [List.cons.injEq, and_true] at e
    obtain ⟨_, _, rfl, _⟩ := e
    exact ⟨62, _, rfl, fun _ _ => by kernel_rfl, (nam62_42 v b0 b1 k hp w hg k0 k1).mono fun e w' q => ⟨by rw [q.1]; exact ret_bool (by unfold okPD; rw [hr.mt]), q.2⟩⟩
  | surv =>
    have e : [a, b, c, d] = [fnv 65, fnv 66, fnv 67, fnv 70] := h
    simp only [List.cons.injEq, and_true] at e
    obtain ⟨_, _, rfl, _⟩ := e
    exact ⟨67, _, rfl, fun _ _ => by kernel_rfl, (list67 v dd.surv w hr.surv hn2).mono fun e w' q => ⟨by rw [q.1]; exact ret_bool (by unfold okPD; rw [any_not]; congr 1; exact decide_eq_decide.2 (by omega)), q.2⟩⟩
  | rest m =>
    obtain ⟨b0, e, h0, k0⟩ := h
    simp only [List.cons.injEq, and_true] at e
    obtain ⟨_, _, rfl, _⟩ := e
    exact ⟨74, _, rfl, fun _ _ => by kernel_rfl, (list74 v dd.args w hr.args hn b0 m k0).mono fun e w' q => ⟨by rw [q.1]; exact ret_bool (by unfold okPD; rw [any_not]; rfl), q.2⟩⟩
/-- the cell of a part, and what it holds when it is cleared. -/
def PD.cell : PD → Nat
  | .numA _ _ => 1
  | .numB _ _ => 2
  | .nam _ => 3
  | .met _ => 4
  | .surv => 6
  | .rest _ => 5
def PD.zero : PD → Value
  | .numA _ _ => .int .i64 0
  | .numB _ _ => .int .i64 0
  | .nam _ => .string ⟨#[]⟩
  | .met _ => .string ⟨#[]⟩
  | .surv => .slice none 0 0
  | .rest _ => .slice none 0 0
theorem part_clear {w : World} {B : Nat} {pd : PD} {a b c d : Value} (h : PartV w B pd [a, b, c, d]) (L : Nat) (cs : Array Value) (hL : Blk w L 25 cs) (hx : cs.size = 7) :
    RunsOn d #[.pointer (some ⟨L, 0, none⟩)] w fun e w' => e = .returned (.tuple #[]) ∧ w.setCell ⟨L, pd.cell, none⟩ pd.zero = w' := by
  cases pd with
  | numA lo hi =>
    obtain ⟨b0, b1, b2, e, h0, h1, h2, k0, k1, k2⟩ := h
    simp only [List.cons.injEq, and_true] at e
    obtain ⟨_, _, _, rfl⟩ := e
    exact ⟨59, _, rfl, fun _ _ => by kernel_rfl, num59_38 L cs b0 w k0 hL (by omega)⟩
  | numB lo hi =>
    obtain ⟨b0, b1, b2, e, h0, h1, h2, k0, k1, k2⟩ := h
    simp only [List.cons.injEq, and_true] at e
    obtain ⟨_, _, _, rfl⟩ := e
    exact ⟨59, _, rfl, fun _ _ => by kernel_rfl, num59_39 L cs b0 w k0 hL (by omega)⟩
  | nam k =>
    obtain ⟨b0, b1, e, h0, h1, k0, k1⟩ := h
    simp only [List.cons.injEq, and_true] at e
    obtain ⟨_, _, _, rfl⟩ := e
    exact ⟨64, _, rfl, fun _ _ => by kernel_rfl, nam64_41 L cs b0 w k0 hL (by omega)⟩
  | met k =>
    obtain ⟨b0, b1, e, h0, h1, k0, k1⟩ := h
    simp only [List.cons.injEq, and_true] at e
    obtain ⟨_, _, _, rfl⟩ := e
    exact ⟨64, _, rfl, fun _ _ => by kernel_rfl, nam64_42 L cs b0 w k0 hL (by omega)⟩
  | surv =>
    have e : [a, b, c, d] = [fnv 65, fnv 66, fnv 67, fnv 70] := h
    simp only [List.cons.injEq, and_true] at e
    obtain ⟨_, _, _, rfl⟩ := e
    exact ⟨70, _, rfl, fun _ _ => by kernel_rfl, clear70 L cs w hL (by omega)⟩
  | rest m =>
    obtain ⟨b0, e, h0, k0⟩ := h
    simp only [List.cons.injEq, and_true] at e
    obtain ⟨_, _, _, rfl⟩ := e
    exact ⟨77, _, rfl, fun _ _ => by kernel_rfl, clear77 L cs w hL (by omega)⟩
theorem one_word {w : World} {s : ByteArray} {e : Ending} {w' : World} (h : ∃ g, e = .returned (.slice (some ⟨g, 0, none⟩) 1 1) ∧ Strs w' w'.heap.size (some ⟨g, 0, none⟩) 1 [s] ∧ Below w.heap.size w w') : Words w [s] e w' := by
  obtain ⟨g, h1, h2, h3⟩ := h
  exact ⟨_, 1, h1, h2, h3⟩
theorem part_write {w : World} {B : Nat} {pd : PD} {a b c d : Value} (h : PartV w B pd [a, b, c, d]) (v : Av) (dd : Ad) (hr : Reads w w.heap.size v dd) (hw : Wf dd) (hg : Gl w) (hn : v.n ≤ 1000000) (hn2 : v.n2 ≤ 1000000) :
    RunsOn b #[.agg v.cells] w (Words w (wrPD dd pd)) := by
  cases pd with
  | numA lo hi =>
    obtain ⟨b0, b1, b2, e, h0, h1, h2, k0, k1, k2⟩ := h
    simp only [List.cons.injEq, and_true] at e
    obtain ⟨_, rfl, _, _⟩ := e
    exact ⟨56, _, rfl, fun _ _ => by kernel_rfl, (num56_38 v b0 w hg (by rw [hr.a]; exact hw.a) k0).mono fun e w' q => by rw [hr.a] at q; exact one_word q⟩
  | numB lo hi =>
    obtain ⟨b0, b1, b2, e, h0, h1, h2, k0, k1, k2⟩ := h
    simp only [List.cons.injEq, and_true] at e
    obtain ⟨_, rfl, _, _⟩ := e
    exact ⟨56, _, rfl, fun _ _ => by kernel_rfl, (num56_39 v b0 w hg (by rw [hr.b]; exact hw.b) k0).mono fun e w' q => by rw [hr.b] at q; exact one_word q⟩
  | nam k =>
    obtain ⟨b0, b1, e, h0, h1, k0, k1⟩ := h
    simp only [List.cons.injEq, and_true] at e
    obtain ⟨_, rfl, _, _⟩ := e
    exact ⟨61, _, rfl, fun _ _ => by kernel_rfl, (nam61_41 v b0 w k0).mono fun e w' q => by rw [hr.nm] at q; exact one_word q⟩
  | met k =>
    obtain ⟨b0, b1, e, h0, h1, k0, k1⟩ := h
    simp only [List.cons.injEq, and_true] at e
    obtain ⟨_, rfl, _, _⟩ := e
    exact ⟨61, _, rfl, fun _ _ => by kernel_rfl, (nam61_42 v b0 w k0).mono fun e w' q => by rw [hr.mt] at q; exact one_word q⟩
  | surv =>
    have e : [a, b, c, d] = [fnv 65, fnv 66, fnv 67, fnv 70] := h
    simp only [List.cons.injEq, and_true] at e
    obtain ⟨_, rfl, _, _⟩ := e
    exact ⟨66, _, rfl, fun _ _ => by kernel_rfl, write66 v dd.surv w hg hr.surv hn2 hw.surv⟩
  | rest m =>
    obtain ⟨b0, e, h0, k0⟩ := h
    simp only [List.cons.injEq, and_true] at e
    obtain ⟨_, rfl, _, _⟩ := e
    exact ⟨72, _, rfl, fun _ _ => by kernel_rfl, write72 v dd.args w hg hr.args hn hw.args⟩
end Go.Proofs.YtoejjboanggenaaGreatDoor
