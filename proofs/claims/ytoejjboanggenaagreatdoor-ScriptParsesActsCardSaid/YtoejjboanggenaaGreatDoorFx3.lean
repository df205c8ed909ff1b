/-
A region that draws its order, by facts; what holds while an operation has not come up may be told by its slot.
-/
import Derived.Test.YtoejjboanggenaaGreatDoorFx2
namespace Go.Proofs.YtoejjboanggenaaGreatDoor
set_option linter.unusedVariables false
open Go

theorem waits_lt {md : Region.Mode} {ops : Array Oper} {i j : Nat} (h : waitsFor md ops i j = true) : i < ops.size := by
  unfold waitsFor at h
  cases ho : ops[i]? with
  | none => rw [ho] at h; cases h
  | some o => exact (Array.getElem?_eq_some_iff.1 ho).1
theorem wp_region_facts3 {P : Program} {id : Nat} {ops : Array Oper} {Q : Exit → Act → World → Prop} {a : Act} {w : World} (fr : (Nat → Value) → Act) (xs0 : Nat → Value) (J : (Nat → Value) → World → Prop) (F : Nat → (Nat → Value) → World → Prop) (dep : Nat → Nat → Bool)
    (hm : P.follows .mixedOrders = true) (hac : acyc .any ops = true) (hdep : ∀ k j, k < ops.size → dep k j = true → waitsFor .any ops k j = true) (ha : a = fr xs0) (hJ : J xs0 w.drew)
    (hstep : ∀ i, i < ops.size → ∀ xs W, J xs W → xs i = xs0 i → (∀ j, waitsFor .any ops j i = true → xs j = xs0 j) → (∀ j, waitsFor .any ops i j = true → F j xs W) →
      wpOp P ops Q i (fun a' W' => ∃ v, a' = fr (upd xs i v) ∧ J (upd xs i v) W' ∧ F i (upd xs i v) W' ∧ ∀ k, k ≠ i → dep k i = false → F k xs W → F k (upd xs i v) W') (fr xs) W)
    (hend : ∀ xs W, J xs W → (∀ i, i < ops.size → F i xs W) → Q .normal (fr xs) W) : (Code.region id ops true).wp P Q a w := by
  refine wp_region_any hm (wpAny_inv (I := fun listed a W => ∃ xs, a = fr xs ∧ J xs W ∧ listed.size = ops.size ∧ (∀ i, i < ops.size → listed.getD i false = true → F i xs W) ∧
    (∀ k, k < ops.size → listed.getD k false = true → ∀ j, waitsFor .any ops k j = true → listed.getD j false = true) ∧ ∀ k, listed.getD k false = false → xs k = xs0 k) ?_ ?_ _ _ _ _ ?_ ?_)
  · rintro listed a W i ⟨xs, rfl, hJW, hsz, hF, hcl, hun⟩ hi
    obtain ⟨h1, o, ho, hall⟩ := mem_ready.1 hi
    have hil := (Array.getElem?_eq_some_iff.1 ho).1
    have hni : listed.getD i false = false := by
      have hsl : i < listed.size := by omega
      simpa [Array.getD, hsl] using h1
    refine wpOp_mono ?_ (hstep i hil xs W hJW (hun i hni) (fun j hj => hun j (by
      cases hl : listed.getD j false with
      | false => rfl
      | true =>
        have := hcl j (waits_lt hj) hl i hj
        rw [hni] at this
        cases this)) fun j hj => by
      obtain ⟨e, he, hb, rfl⟩ := waits_spec ho hj
      exact hF e.on (by have := acyc_spec hac ho e he hb; omega) (hall e he hb))
    rintro a' W' ⟨v, rfl, hJ', hv, hk⟩
    have hset : ∀ k, k ≠ i → (listed.setIfInBounds i true).getD k false = listed.getD k false := fun k hki => by
      have : i ≠ k := fun e => hki e.symm
      simp only [Array.getD_eq_getD_getElem?, Array.getElem?_setIfInBounds_ne this]
    refine ⟨_, rfl, hJ', by simpa using hsz, fun k hkl hks => ?_, fun k hkl hks j hj => ?_, fun k hks => ?_⟩
    · by_cases hki : k = i
      · subst hki; exact hv
      · rw [hset k hki] at hks
        refine hk _ hki ?_ (hF k hkl hks)
        cases hd : dep k i with
        | false => rfl
        | true =>
          have := hcl k hkl hks i (hdep k i hkl hd)
          rw [hni] at this
          cases this
    · by_cases hji : j = i
      · subst hji
        have hsl : j < listed.size := by omega
        simp [Array.getD, hsl]
      · rw [hset j hji]
        by_cases hki : k = i
        · subst hki
          obtain ⟨e, he, hb, rfl⟩ := waits_spec ho hj
          exact hall e he hb
        · rw [hset k hki] at hks
          exact hcl k hkl hks j hj
    · by_cases hki : k = i
      · subst hki
        have hsl : k < listed.size := by omega
        simp [Array.getD, hsl] at hks
      · rw [hset k hki] at hks
        rw [upd_ne xs v hki]
        exact hun k hks
  · rintro listed a W ⟨xs, rfl, hJW, hsz, hF, _, _⟩ hr
    refine hend xs W hJW fun i hi => hF i hi ?_
    have h1 := all_listed hac hr ops.size i hi hi
    have hsz2 : i < listed.size := by omega
    simpa [Array.getD, hsz2] using h1
  · refine Nat.le_trans (List.length_filter_le _ _) (by simp)
  · exact ⟨xs0, ha, hJ, by simp, fun i hi h => by simp [Array.getD, hi] at h, fun i hi h => by simp [Array.getD, hi] at h, fun _ _ => rfl⟩
end Go.Proofs.YtoejjboanggenaaGreatDoor
