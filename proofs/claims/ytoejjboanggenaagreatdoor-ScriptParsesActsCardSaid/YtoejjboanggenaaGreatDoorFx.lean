/-
A region that draws its order, by facts: each operation yields a value with a fact, whatever the order.
-/
import Derived.Orders
import Derived.RegionTactic
namespace Go.Proofs.YtoejjboanggenaaGreatDoor
set_option linter.unusedVariables false
open Go

def unlisted (n : Nat) (listed : Array Bool) : Nat := ((List.range n).filter fun i => !listed.getD i true).length
theorem unlisted_set {n i : Nat} {listed : Array Bool} (hi : i < n) (hl : listed.getD i true = false) : unlisted n (listed.setIfInBounds i true) < unlisted n listed := by
  unfold unlisted
  have hsz : i < listed.size := by
    rcases Nat.lt_or_ge i listed.size with h | h
    · exact h
    · simp [Array.getD, Nat.not_lt.2 h] at hl
  have hsub : ∀ j, (!(listed.setIfInBounds i true).getD j true) = true → (!listed.getD j true) = true := by
    intro j hj
    by_cases hji : i = j
    · subst hji; simp [Array.getD, hsz] at hj
    · simp only [Array.getD_eq_getD_getElem?, Array.getElem?_setIfInBounds_ne hji] at hj ⊢; exact hj
  have hmem : i ∈ (List.range n).filter fun j => !listed.getD j true := by simp [hi]; simpa using hl
  have hnot : i ∉ (List.range n).filter fun j => !(listed.setIfInBounds i true).getD j true := by simp [Array.getD, hsz]
  have hle : ((List.range n).filter fun j => !(listed.setIfInBounds i true).getD j true) = ((List.range n).filter fun j => !listed.getD j true).filter fun j => !(listed.setIfInBounds i true).getD j true := by
    rw [List.filter_filter]
    congr 1
    funext j
    by_cases h : (!(listed.setIfInBounds i true).getD j true) = true
    · rw [h, hsub j h]; rfl
    · rw [Bool.not_eq_true] at h; rw [h]; rfl
  rw [hle]
  refine Nat.lt_of_le_of_ne (List.length_filter_le _ _) fun e => ?_
  have := (List.length_filter_eq_length_iff.1 e) i hmem
  simp [Array.getD, hsz] at this
theorem wpAny_inv {P : Program} {md : Region.Mode} {ops : Array Oper} {Q : Exit → Act → World → Prop} {I : Array Bool → Act → World → Prop}
    (hstep : ∀ listed a w i, I listed a w → i ∈ Region.ready md ops listed → wpOp P ops Q i (I (listed.setIfInBounds i true)) a w)
    (hend : ∀ listed a w, I listed a w → Region.ready md ops listed = [] → Q .normal a w) :
    ∀ (fuel : Nat) (listed : Array Bool) (a : Act) (w : World), unlisted ops.size listed ≤ fuel → I listed a w → wpAny P md ops Q fuel listed a w
  | 0, listed, a, w, hf, hI => by
    have hr : Region.ready md ops listed = [] := by
      refine List.eq_nil_iff_forall_not_mem.2 fun i hi => ?_
      obtain ⟨h1, o, ho, _⟩ := mem_ready.1 hi
      have := unlisted_set (n := ops.size) (Array.getElem?_eq_some_iff.1 ho).1 h1
      omega
    exact ⟨hr, hend listed a w hI hr⟩
  | fuel + 1, listed, a, w, hf, hI => by
    refine ⟨hend listed a w hI, fun i hi => ?_⟩
    obtain ⟨h1, o, ho, _⟩ := mem_ready.1 hi
    have := unlisted_set (n := ops.size) (Array.getElem?_eq_some_iff.1 ho).1 h1
    exact wpOp_mono (fun a' w' h' => wpAny_inv hstep hend fuel _ a' w' (by omega) h') (hstep listed a w i hI hi)

/-- the binding edges point back in the text. -/
def acyc (md : Region.Mode) (ops : Array Oper) : Bool :=
  (List.range ops.size).all fun i => match ops[i]? with | none => true | some o => o.after.all fun e => !Region.binds md e || decide (e.on < i)
theorem acyc_spec {md : Region.Mode} {ops : Array Oper} (h : acyc md ops = true) {i : Nat} {o : Oper} (ho : ops[i]? = some o) : ∀ e ∈ o.after, Region.binds md e = true → e.on < i := by
  intro e he hb
  unfold acyc at h
  rw [List.all_eq_true] at h
  have h1 := h i (List.mem_range.2 (Array.getElem?_eq_some_iff.1 ho).1)
  simp only [ho] at h1
  rw [Array.all_eq_true'] at h1
  have h2 := h1 e he
  simpa [hb] using h2
theorem all_listed {md : Region.Mode} {ops : Array Oper} {listed : Array Bool} (hac : acyc md ops = true) (hr : Region.ready md ops listed = []) : ∀ n i, i < n → i < ops.size → listed.getD i true = true
  | 0, i, hi, _ => by omega
  | n + 1, i, hi, hs => by
    rcases Bool.eq_false_or_eq_true (listed.getD i true) with h | h
    · exact h
    · exfalso
      have hm : i ∈ Region.ready md ops listed := mem_ready.2 ⟨h, ops[i], Array.getElem?_eq_getElem hs, fun e he hb => by
        have hlt := acyc_spec hac (Array.getElem?_eq_getElem hs) e he hb
        have h2 := all_listed hac hr n e.on (by omega) (by omega)
        have hsz : i < listed.size := by
          rcases Nat.lt_or_ge i listed.size with h' | h'
          · exact h'
          · simp [Array.getD, Nat.not_lt.2 h'] at h
        have hsz2 : e.on < listed.size := by omega
        simpa [Array.getD, hsz2] using h2⟩
      rw [hr] at hm
      cases hm

def upd (xs : Nat → Value) (i : Nat) (v : Value) : Nat → Value := fun k => if k = i then v else xs k
theorem upd_self (xs : Nat → Value) (i : Nat) (v : Value) : upd xs i v i = v := if_pos rfl
theorem upd_ne (xs : Nat → Value) {i k : Nat} (v : Value) (h : k ≠ i) : upd xs i v k = xs k := if_neg h

/-- operation i waits for operation j. -/
def waitsFor (md : Region.Mode) (ops : Array Oper) (i j : Nat) : Bool := match ops[i]? with | none => false | some o => o.after.any fun e => Region.binds md e && e.on == j
theorem waits_spec {md : Region.Mode} {ops : Array Oper} {i j : Nat} {o : Oper} (ho : ops[i]? = some o) (h : waitsFor md ops i j = true) : ∃ e ∈ o.after, Region.binds md e = true ∧ e.on = j := by
  unfold waitsFor at h
  simp only [ho] at h
  rw [Array.any_eq_true'] at h
  obtain ⟨e, he, h1⟩ := h
  simp only [Bool.and_eq_true, beq_iff_eq] at h1
  exact ⟨e, he, h1⟩

theorem wp_region_facts {P : Program} {id : Nat} {ops : Array Oper} {Q : Exit → Act → World → Prop} {a : Act} {w : World} (fr : (Nat → Value) → Act) (xs0 : Nat → Value) (J : World → Prop) (F : Nat → Value → World → Prop)
    (hm : P.follows .mixedOrders = true) (hac : acyc .any ops = true) (ha : a = fr xs0) (hJ : J w.drew)
    (hstep : ∀ i, i < ops.size → ∀ xs W, J W → (∀ j, waitsFor .any ops i j = true → F j (xs j) W) →
      wpOp P ops Q i (fun a' W' => ∃ v, a' = fr (upd xs i v) ∧ J W' ∧ F i v W' ∧ ∀ k u, F k u W → F k u W') (fr xs) W)
    (hend : ∀ xs W, J W → (∀ i, i < ops.size → F i (xs i) W) → Q .normal (fr xs) W) : (Code.region id ops true).wp P Q a w := by
  refine wp_region_any hm (wpAny_inv (I := fun listed a W => ∃ xs, a = fr xs ∧ J W ∧ listed.size = ops.size ∧ ∀ i, i < ops.size → listed.getD i false = true → F i (xs i) W) ?_ ?_ _ _ _ _ ?_ ?_)
  · rintro listed a W i ⟨xs, rfl, hJW, hsz, hF⟩ hi
    obtain ⟨h1, o, ho, hall⟩ := mem_ready.1 hi
    have hil := (Array.getElem?_eq_some_iff.1 ho).1
    refine wpOp_mono ?_ (hstep i hil xs W hJW fun j hj => by
      obtain ⟨e, he, hb, rfl⟩ := waits_spec ho hj
      exact hF e.on (by have := acyc_spec hac ho e he hb; omega) (hall e he hb))
    rintro a' W' ⟨v, rfl, hJ', hv, hk⟩
    refine ⟨_, rfl, hJ', by simpa using hsz, fun k hkl hks => ?_⟩
    by_cases hki : k = i
    · subst hki; rw [upd_self]; exact hv
    · rw [upd_ne xs v hki]
      refine hk _ _ (hF k hkl ?_)
      have : i ≠ k := fun e => hki e.symm
      simpa only [Array.getD_eq_getD_getElem?, Array.getElem?_setIfInBounds_ne this] using hks
  · rintro listed a W ⟨xs, rfl, hJW, hsz, hF⟩ hr
    refine hend xs W hJW fun i hi => hF i hi ?_
    have h1 := all_listed hac hr ops.size i hi hi
    have hsz2 : i < listed.size := by omega
    simpa [Array.getD, hsz2] using h1
  · refine Nat.le_trans (List.length_filter_le _ _) (by simp)
  · exact ⟨xs0, ha, hJ, by simp, fun i hi h => by simp [Array.getD, hi] at h⟩
end Go.Proofs.YtoejjboanggenaaGreatDoor
