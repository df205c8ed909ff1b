/-
Contracts of the reference's small functions: only, Same, SameAct.
-/
import Derived.Test.YtoejjboanggenaaGreatDoorA
namespace Go.Proofs.YtoejjboanggenaaGreatDoor
open Go.RowKit
set_option linter.unusedVariables false

def onlyB (d : Ad) (wa wb wn wm wg ws : Bool) : Bool := (wa || decide (d.a = 0)) && (wb || decide (d.b = 0)) && (wn || decide (d.nm.toList = [])) && (wm || decide (d.mt.toList = [])) && (wg || decide (d.args.length = 0)) && (ws || decide (d.surv.length = 0))
/-- the six flags, as ValidAct hands them over. -/
def FlagsOk (wa wb wn wm wg ws : Bool) : Prop :=
  (wa = true ∧ wb = true ∧ wn = false ∧ wm = false ∧ wg = false ∧ ws = false) ∨ (wa = true ∧ wb = false ∧ wn = false ∧ wm = false ∧ wg = false ∧ ws = false) ∨
  (wa = true ∧ wb = false ∧ wn = false ∧ wm = false ∧ wg = false ∧ ws = true) ∨ (wa = true ∧ wb = false ∧ wn = true ∧ wm = true ∧ wg = true ∧ ws = false) ∨
  (wa = false ∧ wb = false ∧ wn = true ∧ wm = true ∧ wg = true ∧ ws = false) ∨ (wa = false ∧ wb = false ∧ wn = true ∧ wm = false ∧ wg = false ∧ ws = false) ∨
  (wa = false ∧ wb = true ∧ wn = false ∧ wm = false ∧ wg = false ∧ ws = false)
theorem len0 {α : Type} (l : List α) : (((l.length : Nat) : Int) == 0) = decide (l = []) := by
  cases l with
  | nil => rfl
  | cons x xs => simp; omega
set_option maxHeartbeats 4000000 in
theorem only18 (v : Av) (d : Ad) (B : Nat) (wa wb wn wm wg ws : Bool) (w : World) (h : Reads w B v d) (hf : FlagsOk wa wb wn wm wg ws) :
    Calls Tryz.prog 18 #[.agg v.cells, .bool wa, .bool wb, .bool wn, .bool wm, .bool wg, .bool ws] w fun e w' => e = .returned (.bool (onlyB d wa wb wn wm wg ws)) ∧ Below w.heap.size w w' := by
  obtain ⟨k, a, b, nm, mt, zs, ys⟩ := d
  obtain ⟨k', a', b', nm', mt', A, n, c, A2, n2, c2⟩ := v
  obtain ⟨h1, h2, h3, h4, h5, ha, hs⟩ := h
  dsimp only at h1 h2 h3 h4 h5 ha hs
  subst h1 h2 h3 h4 h5
  obtain rfl := ha.len
  obtain rfl := hs.len
  unfold Av.cells
  dsimp only
  clear ha hs
  rcases hf with ⟨rfl, rfl, rfl, rfl, rfl, rfl⟩ | ⟨rfl, rfl, rfl, rfl, rfl, rfl⟩ | ⟨rfl, rfl, rfl, rfl, rfl, rfl⟩ | ⟨rfl, rfl, rfl, rfl, rfl, rfl⟩ | ⟨rfl, rfl, rfl, rfl, rfl, rfl⟩ | ⟨rfl, rfl, rfl, rfl, rfl, rfl⟩ | ⟨rfl, rfl, rfl, rfl, rfl, rfl⟩
  all_goals
    go_enter Tryz.func18, Tryz.ntmps18
    go_wp2
    all_goals
      go_ret
      exact ⟨ret_bool (by simp_all [onlyB, len0]), (Below.refl _ _).alloc (Nat.le_refl _) _⟩

/-- two lists of integers are the same. -/
def sameB (xs ys : List Int) : Bool := decide (xs = ys)
set_option maxHeartbeats 1000000 in
theorem same24 (A A2 : Option Addr) (n c n2 c2 : Nat) (xs ys : List Int) (B : Nat) (w : World) (h : Ints w B A n xs) (h2 : Ints w B A2 n2 ys) (hn : n ≤ 1000000) (hn2 : n2 ≤ 1000000) :
    Calls Tryz.prog 24 #[.slice A n c, .slice A2 n2 c2] w fun e w' => e = .returned (.bool (decide (xs = ys))) ∧ ∃ k, w' = w.drewN k := by
  have hl := h.len
  have hl2 := h2.len
  by_cases hne : n = n2
  · subst hne
    have HL := Lib.hid (And.intro hl hl2)
    clear hl hl2
    go_enter Tryz.func24, Tryz.ntmps24
    go_wp2
    go_loopw [5] (fun i wr => ∃ k q : Nat, k ≤ n ∧ i = .int .i64 k ∧ wr = w.drewN q ∧ Hid (∀ j, j < k → xs[j]? = ys[j]?)) (fun i _ => n - (intOf i).toNat)
    case atStart => exact ⟨0, 0, Nat.zero_le _, rfl, rfl, Lib.hid (fun j hj => by omega)⟩
    case round =>
      obtain ⟨k, q, hk, rfl, rfl, HA⟩ := hrel
      by_cases hlt : k < n
      · obtain ⟨b, off, x, rfl, _, hx, hc⟩ := h.at_ hlt
        obtain ⟨b', off', y, rfl, _, hy, hc'⟩ := h2.at_ hlt
        have hk0 : 0 ≤ (k : Int) := by omega
        have hk1 : (k : Int) < n := by omega
        have HX := Lib.hid (And.intro hx hy)
        clear hx hy
        by_cases hxy : x = y
        · subst hxy
          go_wp2
          go_quiet (fail)
          go_wp2
          go_roundw
          case rel => exact ⟨k + 1, q + nq, by omega, by go_num, by simp, Lib.hid (fun j hj => by
            rcases Nat.lt_or_ge j k with h1 | h1
            · exact HA.out j h1
            · obtain rfl : j = k := by omega
              rw [HX.out.1, HX.out.2])⟩
          case measure => simp [intOf]; omega
        · have hne : (x != y) = true := by simpa using hxy
          go_wp2
          go_quiet (fail)
          go_wp2
          go_ret
          refine ⟨ret_bool ?_, q + nq, by simp⟩
          symm; simp only [decide_eq_false_iff_not]; intro e; subst e
          have h1 := HX.out
          rw [h1.1] at h1; simp at h1; exact hxy h1
      · obtain rfl : k = n := by omega
        go_wp2
        go_ret
        refine ⟨ret_bool ?_, q, rfl⟩
        symm; simp only [decide_eq_true_eq]
        apply List.ext_getElem?
        intro j
        rcases Nat.lt_or_ge j k with h1 | h1
        · exact HA.out j h1
        · rw [List.getElem?_eq_none (by rw [HL.out.1]; omega), List.getElem?_eq_none (by rw [HL.out.2]; omega)]
  · have hd : ((n : Int) != (n2 : Int)) = true := by simp; omega
    have hxy : decide (xs = ys) = false := by simp; intro e; apply hne; rw [← hl, ← hl2, e]
    have HXY := Lib.hid hxy
    clear hxy hl hl2
    go_enter Tryz.func24, Tryz.ntmps24
    go_wp2
    go_ret
    exact ⟨ret_bool HXY.out.symm, 0, rfl⟩
end Go.Proofs.YtoejjboanggenaaGreatDoor
