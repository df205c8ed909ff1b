/-
How arguments that came in read in memory: structs flattened to their cells, slices of structs.
-/
import Derived.Test.YtoejjboanggenaaGreatDoorRows
import Derived.WalkKit
import Derived.ProofKit
import Derived.Deep.Slices
import Derived.Deep.Fields
import Derived.ChangeSame
import Derived.Below
namespace Go.Proofs.YtoejjboanggenaaGreatDoor
open Go.RowKit Go.ChangeShapes Go.WideShapes Go.Deep

/-- the types of the cells of a type: structs are flattened; none where the layout is not plain. -/
def leavesF (P : Program) : Nat → TypeId → Option (List TypeId)
  | 0, _ => none
  | n + 1, t =>
    match P.underlying t with
    | some (.struct fs) =>
      match fs.toList.foldl (fun acc f => match acc, leavesF P n f.type with
          | some l, some ls => if f.offset = l.length ∧ P.cellsOf f.type = ls.length then some (l ++ ls) else none
          | _, _ => none) (some []) with
      | some l => if P.cellsOf t = l.length then some l else none
      | none => none
    | some (.array _ _) => none
    | _ => some [t]

section
variable {H : Type} {enc : TypeId × Value → H} {P : Program} {w : World} {base : Nat} {spare : Nat → Bool} {held : Bool}

/-- each cell reads as its leaf's type says. -/
def LeafRead (enc : TypeId × Value → H) (P : Program) (w : World) (base : Nat) (spare : Nat → Bool) (held : Bool) (ts : List TypeId) (cs : List Value) : Prop :=
  cs.length = ts.length ∧ ∀ (j : Nat) (t : TypeId), ts[j]? = some t → ∃ v y m, cs[j]? = some v ∧ DataW.trod enc P w base spare held m t [v] = some y

theorem foldl_none {n : Nat} : ∀ (fs : List Field), fs.foldl (fun acc f => match acc, leavesF P n f.type with
          | some l, some ls => if f.offset = l.length ∧ P.cellsOf f.type = ls.length then some (l ++ ls) else none
          | _, _ => none) (none : Option (List TypeId)) = none
  | [] => rfl
  | f :: fs => by rw [List.foldl_cons]; exact foldl_none fs

theorem leaf_fields {n m : Nat} (ih : ∀ (t : TypeId) (ts : List TypeId) (fuel : Nat) (cs : List Value) (x : DataW H × List MemPlace), leavesF P n t = some ts → DataW.trod enc P w base spare held fuel t cs = some x → LeafRead enc P w base spare held ts cs)
    (cs : List Value) : ∀ (fs : List Field) (l0 ts : List TypeId), fs.foldl (fun acc f => match acc, leavesF P n f.type with
          | some l, some ls => if f.offset = l.length ∧ P.cellsOf f.type = ls.length then some (l ++ ls) else none
          | _, _ => none) (some l0) = some ts → (∀ f ∈ fs, ∃ y, DataW.trod enc P w base spare held m f.type ((cs.drop f.offset).take (P.cellsOf f.type)) = some y) →
      (l0.length ≤ cs.length) → (∀ (j : Nat) (t : TypeId), l0[j]? = some t → ∃ v y k, cs[j]? = some v ∧ DataW.trod enc P w base spare held k t [v] = some y) →
      ts.length ≤ cs.length ∧ ∀ (j : Nat) (t : TypeId), ts[j]? = some t → ∃ v y k, cs[j]? = some v ∧ DataW.trod enc P w base spare held k t [v] = some y
  | [], l0, ts, h, _, hl, h0 => by simp at h; subst h; exact ⟨hl, h0⟩
  | f :: fs, l0, ts, h, hf, hl, h0 => by
    rw [List.foldl_cons] at h
    cases hls : leavesF P n f.type with
    | none => simp only [hls] at h; rw [foldl_none] at h; cases h
    | some ls =>
      simp only [hls] at h
      split at h
      case isFalse => rw [foldl_none] at h; cases h
      case isTrue hc =>
        obtain ⟨hc1, hc2⟩ := hc
        obtain ⟨y, hy⟩ := hf f (by simp)
        obtain ⟨hlen, hrd⟩ := ih _ _ _ _ _ hls hy
        rw [List.length_take, List.length_drop, hc1, hc2] at hlen
        refine leaf_fields ih cs fs (l0 ++ ls) ts h (fun g hg => hf g (by simp [hg])) (by rw [List.length_append]; omega) (fun j t hj => ?_)
        by_cases hjl : j < l0.length
        · exact h0 j t (by rwa [List.getElem?_append_left hjl] at hj)
        · rw [List.getElem?_append_right (by omega)] at hj
          obtain ⟨v, y', k, hv, hy'⟩ := hrd _ _ hj
          rw [List.getElem?_take, hc1, hc2] at hv
          have hjj : j - l0.length < ls.length := (List.getElem?_eq_some_iff.1 hj).1
          rw [if_pos hjj, List.getElem?_drop, show l0.length + (j - l0.length) = j from by omega] at hv
          exact ⟨v, y', k, hv, hy'⟩

theorem trod_one {t : TypeId} {fuel : Nat} {cs : List Value} {x : DataW H × List MemPlace} (hs : ∀ fs, P.underlying t = some (.struct fs) → False) (ha : ∀ n e, P.underlying t = some (.array n e) → False)
    (h : DataW.trod enc P w base spare held fuel t cs = some x) : ∃ v, cs = [v] := by
  cases fuel with
  | zero => simp [DataW.trod] at h
  | succ n =>
    unfold DataW.trod at h
    split at h <;> first
      | exact ⟨_, rfl⟩
      | (exfalso; rename_i hu; exact hs _ hu)
      | (exfalso; rename_i hu; exact ha _ _ hu)
      | cases h

theorem trod_leaves : ∀ (n : Nat) (t : TypeId) (ts : List TypeId) (fuel : Nat) (cs : List Value) (x : DataW H × List MemPlace), leavesF P n t = some ts → DataW.trod enc P w base spare held fuel t cs = some x → LeafRead enc P w base spare held ts cs
  | 0, t, ts, fuel, cs, x, h, _ => by simp [leavesF] at h
  | n + 1, t, ts, fuel, cs, x, h, hx => by
    unfold leavesF at h
    split at h
    · rename_i fs hu
      obtain ⟨xs, m, rfl, rfl, hlen, hxl, hf⟩ := DataW.trod_struct hu hx
      split at h
      case h_2 => cases h
      case h_1 l hl =>
        split at h
        case isFalse => cases h
        case isTrue hc =>
          simp only [Option.some.injEq] at h
          subst h
          obtain ⟨_, hr⟩ := leaf_fields (m := m) (trod_leaves n) cs fs.toList [] l hl (fun f hf' => by
            obtain ⟨i, hi⟩ := List.getElem?_of_mem hf'
            have h1 := hf i f (by simpa using hi)
            have h2 : i < xs.length := by rw [hxl]; have := (List.getElem?_eq_some_iff.1 hi).1; simpa using this
            exact ⟨_, h1.trans (List.getElem?_eq_getElem h2)⟩) (by simp) (by simp)
          exact ⟨by rw [hlen, hc], hr⟩
    · cases h
    · rename_i hs ha
      simp only [Option.some.injEq] at h
      subst h
      obtain ⟨v, rfl⟩ := trod_one hs ha hx
      refine ⟨by simp, fun j t' hj => ?_⟩
      cases j with
      | zero => simp at hj; subst hj; exact ⟨v, x, fuel, rfl, hx⟩
      | succ j => simp at hj
end

theorem choose_list {α : Type} {n : Nat} {Q : Nat → α → Prop} (h : ∀ i, i < n → ∃ e, Q i e) : ∃ es : List α, es.length = n ∧ ∀ i e, es[i]? = some e → Q i e := by
  induction n with
  | zero => exact ⟨[], rfl, by simp⟩
  | succ n ih =>
    obtain ⟨es, hl, hq⟩ := ih (fun i hi => h i (by omega))
    obtain ⟨e, he⟩ := h n (by omega)
    refine ⟨es ++ [e], by simp [hl], fun i x hx => ?_⟩
    by_cases hi : i < es.length
    · exact hq i x (by rwa [List.getElem?_append_left hi] at hx)
    · rw [List.getElem?_append_right (by omega)] at hx
      have hi0 : i - es.length = 0 := by
        have := (List.getElem?_eq_some_iff.1 hx).1
        simp at this; omega
      rw [hi0] at hx
      simp at hx
      subst hx
      rw [show i = n from by omega]
      exact he
end Go.Proofs.YtoejjboanggenaaGreatDoor
