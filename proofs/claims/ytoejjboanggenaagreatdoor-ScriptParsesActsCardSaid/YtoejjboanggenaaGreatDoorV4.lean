/-
Plain laws: what the reference reads out of the words of a valid act.
-/
import Derived.Test.YtoejjboanggenaaGreatDoorV3
namespace Go.Proofs.YtoejjboanggenaaGreatDoor
open Go.RowKit
set_option linter.unusedVariables false
set_option linter.unusedSimpArgs false

/-- the names, and the words that are numbers. -/
def preK (K : Int) (ws : List ByteArray) : ByteArray × ByteArray × List ByteArray :=
  if K = 11 ∧ 3 ≤ ws.length then (ws.getD 1 ⟨#[]⟩, ws.getD 2 ⟨#[]⟩, ws.getD 0 ⟨#[]⟩ :: ws.drop 3)
  else if K = 12 ∧ 2 ≤ ws.length then (ws.getD 0 ⟨#[]⟩, ws.getD 1 ⟨#[]⟩, ws.drop 2)
  else if K = 13 ∧ 1 ≤ ws.length then (ws.getD 0 ⟨#[]⟩, ⟨#[]⟩, ws.drop 1)
  else (⟨#[]⟩, ⟨#[]⟩, ws)
/-- the act, once the numbers are read. -/
def finK (K : Int) (nm mt : ByteArray) (zs : List Int) : Ad :=
  if K = 12 then ⟨K, 0, 0, nm, mt, zs, []⟩
  else if K = 11 then ⟨K, zs.getD 0 0, 0, nm, mt, zs.drop 1, []⟩
  else if K = 7 then ⟨K, zs.getD 0 0, 0, nm, mt, [], zs.drop 1⟩
  else if K = 15 then ⟨K, 0, zs.getD 0 0, nm, mt, [], []⟩
  else ⟨K, zs.getD 0 0, zs.getD 1 0, nm, mt, [], []⟩
def Small (z : Int) : Prop := -4611686018427387904 ≤ z ∧ z ≤ 4611686018427387904
theorem range_small {zs : List Int} (h : rangeB zs = true) : ∀ z ∈ zs, Small z := by
  intro z hz
  have := List.all_eq_true.1 h z hz
  simp only [Bool.and_eq_true, decide_eq_true_eq] at this
  unfold Small
  omega
theorem count_small {zs : List Int} (h : zs.all countB = true) : ∀ z ∈ zs, Small z := by
  intro z hz
  have := List.all_eq_true.1 h z hz
  simp only [countB, Bool.and_eq_true, decide_eq_true_eq] at this
  unfold Small
  omega
theorem small_zero : Small 0 := by unfold Small; omega
/-- the numbers among the words of a valid act. -/
def numsK (d : Ad) : List Int :=
  if d.k = 12 ∨ d.k = 13 then d.args
  else if d.k = 11 then d.a :: d.args
  else if d.k = 7 then d.a :: d.surv
  else if d.k = 15 then [d.b]
  else if d.k = 0 ∨ d.k = 10 ∨ d.k = 14 then [d.a, d.b]
  else [d.a]
theorem name_short {s : ByteArray} {lo hi : Int} (h : nameB s lo hi = true) : s.size ≤ 31 := by
  unfold nameB at h
  split at h
  · cases h
  · simp only [Bool.and_eq_true, decide_eq_true_eq] at h
    exact h.1.1.1.1
set_option maxHeartbeats 8000000 in
theorem ref_text (d : Ad) (f : FD) (hf : formAt d.k = some f) (h : okFD d f = true) :
    preK d.k (f.pds.flatMap (wrPD d)) = (d.nm, d.mt, (numsK d).map istr) ∧ finK d.k d.nm d.mt (numsK d) = d ∧ ∀ z ∈ numsK d, Small z := by
  have ho : okD d = true := by unfold okD; rw [hf]; exact h
  have hv : validB d = true := by rw [← okD_valid]; exact ho
  obtain ⟨q, hq, hk⟩ := formAt_kind hf
  obtain ⟨k, a, b, nm, mt, zs, ys⟩ := d
  dsimp only at hk hf
  subst hk
  clear h ho
  rw [formAt_nat hq] at hf
  have e1 : nm.toList = [] → nm = ⟨#[]⟩ := empty_ba
  have e2 : mt.toList = [] → mt = ⟨#[]⟩ := empty_ba
  have s1 : rangeB zs = true → ∀ z ∈ zs, Small z := range_small
  have s2 : ys.all countB = true → ∀ z ∈ ys, Small z := count_small
  obtain rfl | rfl | rfl | rfl | rfl | rfl | rfl | rfl | rfl | rfl | rfl | rfl | rfl | rfl | rfl | rfl : q = 0 ∨ q = 1 ∨ q = 2 ∨ q = 3 ∨ q = 4 ∨ q = 5 ∨ q = 6 ∨ q = 7 ∨ q = 8 ∨ q = 9 ∨ q = 10 ∨ q = 11 ∨ q = 12 ∨ q = 13 ∨ q = 14 ∨ q = 15 := by omega
  all_goals
    simp only [formsFD, List.getElem?_cons_succ, List.getElem?_cons_zero, Option.some.injEq] at hf
    subst hf
    simp only [validB, validKB, onlyB, machineB, countB, Int.toNat_natCast, Bool.and_eq_true, decide_eq_true_eq, Bool.or_eq_true, Bool.false_or, Bool.true_or, Bool.true_and, List.length_eq_zero_iff] at hv
    refine ⟨?_, ?_, ?_⟩
    · simp [preK, numsK, wrPD] <;> grind
    · simp [finK, numsK] <;> grind
    · simp [numsK] <;> unfold Small at * <;> grind
set_option maxHeartbeats 8000000 in
theorem valid_wf {d : Ad} (hv : validB d = true) : Wf d ∧ d.nm.size ≤ 31 ∧ d.mt.size ≤ 31 ∧ d.args.length ≤ 30 ∧ d.surv.length ≤ 20 := by
  obtain ⟨q, hq, hk⟩ := validB_kind hv
  obtain ⟨k, a, b, nm, mt, zs, ys⟩ := d
  dsimp only at hk
  subst hk
  have e1 : nm.toList = [] → nm.size ≤ 31 := fun h => by rw [empty_ba h]; decide
  have e2 : mt.toList = [] → mt.size ≤ 31 := fun h => by rw [empty_ba h]; decide
  have e3 : varB nm = true → nm.size ≤ 31 := name_short
  have e4 : varB mt = true → mt.size ≤ 31 := name_short
  have e5 : classB mt = true → mt.size ≤ 31 := name_short
  have s1 : rangeB zs = true → ∀ z ∈ zs, I64 z := fun h z hz => by have := range_small h z hz; unfold Small at this; unfold I64; omega
  have s2 : ys.all countB = true → ∀ z ∈ ys, I64 z := fun h z hz => by have := count_small h z hz; unfold Small at this; unfold I64; omega
  have s3 : zs = [] → ∀ z ∈ zs, I64 z := fun h => by subst h; simp
  have s4 : ys = [] → ∀ z ∈ ys, I64 z := fun h => by subst h; simp
  obtain rfl | rfl | rfl | rfl | rfl | rfl | rfl | rfl | rfl | rfl | rfl | rfl | rfl | rfl | rfl | rfl : q = 0 ∨ q = 1 ∨ q = 2 ∨ q = 3 ∨ q = 4 ∨ q = 5 ∨ q = 6 ∨ q = 7 ∨ q = 8 ∨ q = 9 ∨ q = 10 ∨ q = 11 ∨ q = 12 ∨ q = 13 ∨ q = 14 ∨ q = 15 := by omega
  all_goals
    simp only [validB, validKB, onlyB, machineB, countB, Int.toNat_natCast, Bool.and_eq_true, decide_eq_true_eq, Bool.or_eq_true, Bool.false_or, Bool.true_or, Bool.true_and, List.length_eq_zero_iff] at hv
    refine ⟨⟨?_, ?_, ?_, ?_⟩, ?_, ?_, ?_, ?_⟩
    · dsimp only; unfold I64; grind
    · dsimp only; unfold I64; grind
    · dsimp only; clear e1 e2 e3 e4 e5 s2 s4; grind
    · dsimp only; clear e1 e2 e3 e4 e5 s1 s3; grind
    · dsimp only; clear s1 s2 s3 s4; grind
    · dsimp only; clear s1 s2 s3 s4; grind
    · dsimp only; clear s1 s2 s3 s4 e1 e2 e3 e4 e5; grind
    · dsimp only; clear s1 s2 s3 s4 e1 e2 e3 e4 e5; grind
end Go.Proofs.YtoejjboanggenaaGreatDoor
