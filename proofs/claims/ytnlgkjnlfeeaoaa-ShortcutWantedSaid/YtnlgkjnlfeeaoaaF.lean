/-
The iterator of wanted: its contract for every loop body.
-/
import Derived.Test.YtnlgkjnlfeeaoaaD
import Derived.WalkKit
import Derived.WalkSpells
import Derived.WalkLawsBesides
import Derived.Lib.Hide
import Derived.Deep.QuietTactic
import Derived.BigQuiet
import Derived.RangeFuncNested
import Derived.RangeFuncBound
import Derived.RangeFuncCalls
import Derived.RangeFuncLeaves
import Derived.Shelf.Abstract
import Derived.Shelf.RegionOpen
import Derived.OwnWalkIn
import Derived.TacticsInMore
import Derived.LoopNIn
import Derived.LoopIn
import Derived.Maps.OwnIn
import Derived.Maps.AppendAt
namespace Go.Proofs.Ytnlgkjnlfeeaoaa
open Go.RowKit Go.Shelf
attribute [local go_sem] Oper.semAt_some

theorem check77 (em : Bool) (a m s : Int) (w : World) : (Instr.checkKey em 10000 77 (.agg #[.int .i64 a, .int .i64 m, .int .i64 s])).run Try.prog w = .ok () w := by kernel_rfl
theorem und77 (w : World) : (underlying 77).run Try.prog w = .ok (.struct (Try.prog.fieldsOf 77)) w := by kernel_rfl
theorem und74 (w : World) : (underlying 74).run Try.prog w = .ok (.map 77 4) w := by kernel_rfl
theorem zero4 (w : World) : (zeroValue 4).run Try.prog w = .ok (.bool false) w := by kernel_rfl
theorem part77 (x y z : Int) (w : World) : (part 3 #[.int .i64 x, .int .i64 y, .int .i64 z] 0).run Try.prog w = .ok (.int .i64 x) w := by kernel_rfl
theorem part77b (x y z : Int) (w : World) : (part 31 #[.int .i64 x, .int .i64 y, .int .i64 z] 1).run Try.prog w = .ok (.agg #[.int .i64 y, .int .i64 z]) w := by kernel_rfl
theorem equal77 (a m s a' m' s' : Int) (w : World) : (Op.equal 77 (.agg #[.int .i64 a, .int .i64 m, .int .i64 s]) (.agg #[.int .i64 a', .int .i64 m', .int .i64 s'])).run Try.prog w = .ok (a == a' && idEq m s m' s') w := by
  have hp : Try.prog.stoodInHeld 77 = false := by kernel_rfl
  have h : ∀ n, (Op.equalIn (n + 3) 77 (.agg #[.int .i64 a, .int .i64 m, .int .i64 s]) (.agg #[.int .i64 a', .int .i64 m', .int .i64 s'])).run Try.prog w = .ok (a == a' && idEq m s m' s') w := by
    intro n
    rw [Op.equalIn]
    simp only [Sem.run_bind, run_underlying Try.underlying77, Result.andThen_ok, run_program, hp, Bool.false_eq_true, if_false]
    rw [← Array.forIn_toList]
    simp only [List.forIn_cons, List.forIn_nil, Sem.run_bind, Sem.run_ite, part77, eqInt, Result.andThen_ok]
    by_cases h1 : a = a' <;> cases h2 : idEq m s m' s' <;> simp [h1, h2, part77b, eqIn31]
  simp only [Op.equal, Op.maxDepth]; exact h 9997

def keyOfEnt (o : Ent) : Value := .agg #[.int .i64 o.a, .int .i64 o.m, .int .i64 o.s]
def entriesFrom : List Ent → Nat → List MapEntry
  | [], _ => []
  | o :: os, k => { key := keyOfEnt o, val := .bool true, born := k } :: entriesFrom os (k + 1)
theorem entries_snoc : ∀ (os : List Ent) (x : Ent) (k : Nat), entriesFrom (os ++ [x]) k = entriesFrom os k ++ [{ key := keyOfEnt x, val := .bool true, born := k + os.length }]
  | [], x, k => by simp [entriesFrom]
  | o :: os, x, k => by simp [entriesFrom, entries_snoc os x (k + 1)]; omega
def DoneMap (w : World) (r : Nat) (os : List Ent) : Prop := w.heap[r]? = some (.map (entriesFrom os 0).toArray os.length)

theorem run_findAsking (x : Ent) (w : World) : ∀ (os : List Ent) (k j : Nat), ∃ R, (Instr.findAsking 77 (keyOfEnt x) (entriesFrom os k) j).run Try.prog w = .ok R w ∧ (os.any (sameChain x) = true → ∃ i, R = some (i, .bool true)) ∧ (os.any (sameChain x) = false → R = none)
  | [], k, j => ⟨none, by simp [entriesFrom, Instr.findAsking], by simp, by simp⟩
  | o :: os, k, j => by
    obtain ⟨R, h1, h2, h3⟩ := run_findAsking x w os (k + 1) (j + 1)
    have he : (Op.equal 77 (keyOfEnt x) (keyOfEnt o)).run Try.prog w = .ok (sameChain x o) w := by
      unfold keyOfEnt; rw [equal77]
      congr 1
      simp only [sameChain, idEq]
      rw [Bool.eq_iff_iff]; simp; constructor <;> (rintro ⟨g1, g2, g3⟩; exact ⟨g1.symm, g2.symm, g3.symm⟩)
    by_cases hs : sameChain x o = true
    · refine ⟨some (j, .bool true), ?_, fun _ => ⟨_, rfl⟩, fun h => by simp [hs] at h⟩
      simp only [entriesFrom, Instr.findAsking, Sem.run_bind, he, Result.andThen_ok, hs, if_true, Sem.run_pure]
    · rw [Bool.not_eq_true] at hs
      refine ⟨R, ?_, fun h => h2 (by simpa [hs] using h), fun h => h3 (by simpa [hs] using h)⟩
      simp only [entriesFrom, Instr.findAsking, Sem.run_bind, he, Result.andThen_ok, hs, Bool.false_eq_true, if_false]
      exact h1
theorem run_findKey77 (x : Ent) (w : World) (os : List Ent) : ∃ R, (Instr.findKey 77 (keyOfEnt x) (entriesFrom os 0)).run Try.prog w = .ok R w ∧ (os.any (sameChain x) = true → ∃ i, R = some (i, .bool true)) ∧ (os.any (sameChain x) = false → R = none) := by
  obtain ⟨R, h1, h2, h3⟩ := run_findAsking x w os 0 0
  cases os with
  | nil => exact ⟨none, by simp [Instr.findKey, entriesFrom, Instr.findNow], by simp, by simp⟩
  | cons o os =>
    refine ⟨R, ?_, h2, h3⟩
    simp only [Instr.findKey, Sem.run_bind, und77, Result.andThen_ok]
    rw [show Instr.findNow (.struct (Try.prog.fieldsOf 77)) (keyOfEnt x) (entriesFrom (o :: os) 0) 0 = none from rfl]
    exact h1

theorem run_lookup {w : World} {r : Nat} {os : List Ent} (h : DoneMap w r os) (x : Ent) :
    (Instr.lookup 74 (.map (some r)) (.agg #[.int .i64 x.a, .int .i64 x.m, .int .i64 x.s]) false).run Try.prog w = .ok (.bool (os.any (sameChain x))) w := by
  obtain ⟨R, h1, h2, h3⟩ := run_findKey77 x w os
  unfold keyOfEnt at h1
  have hobj : (getObj r).run Try.prog w = .ok (.map (entriesFrom os 0).toArray os.length) w := by
    simp only [getObj, Sem.run, show w.heap[r]? = _ from h]
  simp only [Instr.lookup, Sem.run_bind, und74, Result.andThen_ok, hobj, check77, Sem.run_pure, h1]
  by_cases hs : os.any (sameChain x) = true
  · obtain ⟨i, rfl⟩ := h2 hs
    simp [hs]
  · rw [Bool.not_eq_true] at hs
    rw [h3 hs]
    simp [hs]

theorem run_update {w : World} {r : Nat} {os : List Ent} (h : DoneMap w r os) (x : Ent) (hs : os.any (sameChain x) = false) :
    ∃ w', (Instr.mapUpdate 74 (.map (some r)) (.agg #[.int .i64 x.a, .int .i64 x.m, .int .i64 x.s]) (.bool true)).run Try.prog w = .ok () w' ∧ DoneMap w' r (os ++ [x]) ∧ w.grownBy w' (some r) := by
  obtain ⟨R, h1, h2, h3⟩ := run_findKey77 x w os
  obtain rfl := h3 hs
  unfold keyOfEnt at h1
  have hlt : r < w.heap.size := (Array.getElem?_eq_some_iff.1 h).1
  have hobj : (getObj r).run Try.prog w = .ok (.map (entriesFrom os 0).toArray os.length) w := by
    simp only [getObj, Sem.run, show w.heap[r]? = _ from h]
  refine ⟨{ w with heap := w.heap.setIfInBounds r (.map ((entriesFrom os 0).toArray.push { key := keyOfEnt x, val := .bool true, born := os.length }) (os.length + 1)) }, ?_, ?_, ?_⟩
  · simp only [Instr.mapUpdate, Sem.run_bind, und74, Result.andThen_ok, hobj, check77, h1, setObj, Sem.run, show w.heap[r]? = _ from h, keyOfEnt]
  · show (w.heap.setIfInBounds r _)[r]? = _
    rw [Array.getElem?_setIfInBounds_self_of_lt hlt, entries_snoc]
    simp
  · exact ⟨rfl, rfl, rfl, by simp, fun k _ hk => by
      show (w.heap.setIfInBounds r _)[k]? = _
      rw [Array.getElem?_setIfInBounds_ne (fun e => hk (by rw [e]))]⟩
end Go.Proofs.Ytnlgkjnlfeeaoaa
