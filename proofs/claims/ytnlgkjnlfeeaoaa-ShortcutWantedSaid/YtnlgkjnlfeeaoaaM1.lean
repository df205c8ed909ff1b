/-
What is chosen is free: plain facts.
-/
import Derived.Test.YtnlgkjnlfeeaoaaOpenX
import Derived.Lib.Hide
namespace Go.Proofs.Ytnlgkjnlfeeaoaa
open Go.RowKit

theorem below_alloc_size {B : Nat} {w W : World} {o : Obj} (h : Below B (w.alloc o) W) : w.heap.size + 1 ≤ W.heap.size := by have := h.size; simpa using this
theorem chosen_free (ss : List Ent) : ∀ (es out : List Ent), (∀ x ∈ out, freeB x ss = true) → ∀ x ∈ es.foldl (chosenStep ss) out, freeB x ss = true
  | [], out, h => h
  | e :: es, out, h => by
    rw [List.foldl_cons]
    refine chosen_free ss es _ ?_
    unfold chosenStep
    split
    · rename_i hc
      rw [Bool.and_eq_true] at hc
      intro x hx
      rcases List.mem_append.1 hx with hx | hx
      · exact h x hx
      · simp at hx; subst hx; exact hc.1
    · exact h
theorem free_spot {x : Ent} {ss : List Ent} (h : freeB x ss = true) : ∃ (j : Nat) (e : Ent), spot x ss = (j : Int) ∧ ss[j]? = some e ∧ stubAt ss x = e ∧ may x e = true := by
  unfold freeB at h
  rw [Bool.and_eq_true] at h
  obtain ⟨_, h⟩ := h
  by_cases hs : spot x ss < 0
  · rw [if_pos hs] at h; cases h
  · rw [if_neg hs] at h
    obtain ⟨j, hj⟩ := Int.eq_ofNat_of_zero_le (by omega : 0 ≤ spot x ss)
    rw [hj, Int.toNat_natCast] at h
    cases he : ss[j]? with
    | none => rw [he] at h; cases h
    | some e =>
      rw [he] at h
      refine ⟨j, e, hj, he, ?_, h⟩
      unfold stubAt
      rw [hj, Int.toNat_natCast, List.getD_eq_getElem?_getD, he]; rfl
theorem chosen_spot {es ss : List Ent} {k : Nat} {x : Ent} (h : (chosen es ss)[k]? = some x) : ∃ (j : Nat) (e : Ent), spot x ss = (j : Int) ∧ ss[j]? = some e ∧ stubAt ss x = e ∧ may x e = true :=
  free_spot (chosen_free ss es [] (by simp) x (List.mem_of_getElem? h))
theorem get_encT : ∀ (xs ss : List Ent) (k : Nat) (x : Ent), xs[k]? = some x → ((xs.map (pair ss)).flatMap encT)[k]? = some (.int .i64 (stubAt ss x).a)
  | [], ss, k, x, h => by simp at h
  | y :: xs, ss, 0, x, h => by simp at h; subst h; rfl
  | y :: xs, ss, k + 1, x, h => by
    have := get_encT xs ss k x (by simpa using h)
    simpa [encT, pair] using this
end Go.Proofs.Ytnlgkjnlfeeaoaa
