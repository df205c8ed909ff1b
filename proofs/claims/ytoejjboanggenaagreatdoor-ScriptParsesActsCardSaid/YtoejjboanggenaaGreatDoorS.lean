/-
Contracts: the test of IndexFunc, IndexFunc over the forms.
-/
import Derived.Test.YtoejjboanggenaaGreatDoorM2
namespace Go.Proofs.YtoejjboanggenaaGreatDoor
open Go.RowKit
set_option linter.unusedVariables false
set_option linter.unusedSimpArgs false

theorem forms_at {i : Nat} (hi : i < 16) : ∃ fd, formsFD[i]? = some fd ∧ fd.k = (i : Int) := by
  obtain rfl | rfl | rfl | rfl | rfl | rfl | rfl | rfl | rfl | rfl | rfl | rfl | rfl | rfl | rfl | rfl : i = 0 ∨ i = 1 ∨ i = 2 ∨ i = 3 ∨ i = 4 ∨ i = 5 ∨ i = 6 ∨ i = 7 ∨ i = 8 ∨ i = 9 ∨ i = 10 ∨ i = 11 ∨ i = 12 ∨ i = 13 ∨ i = 14 ∨ i = 15 := by omega
  all_goals exact ⟨_, rfl, rfl⟩
theorem Forms.at_ {W : World} {B b : Nat} (h : Forms W B b formsFD) {i : Nat} (hi : i < 16) :
    ∃ fd g, formsFD[i]? = some fd ∧ fd.k = (i : Int) ∧ Parts W B g fd.pds ∧ W.cell? ⟨b, i * 3, none⟩ = some (.int .i64 i) ∧ W.cell? ⟨b, i * 3 + 1, none⟩ = some (.string fd.word) ∧ W.cell? ⟨b, i * 3 + 2, none⟩ = some (.slice (some ⟨g, 0, none⟩) fd.pds.length fd.pds.length) := by
  obtain ⟨fd, h1, h2⟩ := forms_at hi
  obtain ⟨g, h3, h4⟩ := h.2 i fd h1
  refine ⟨fd, g, h1, h2, h3, ?_, h4 1 _ rfl, h4 2 _ rfl⟩
  have := h4 0 _ rfl
  rw [h2] at this
  exact this
set_option maxHeartbeats 1000000 in
theorem kind29 (k ka : Int) (wd : ByteArray) (A : Option Addr) (n c a : Nat) (w : World) (h : w.cell? ⟨a, 0, none⟩ = some (.int .i64 ka)) (ha : a < w.heap.size) :
    Calls Tryz.prog 29 #[.agg #[.int .i64 k, .string wd, .slice A n c], .pointer (some ⟨a, 0, none⟩)] w fun e w' => e = .returned (.bool (k == ka)) ∧ Below w.heap.size w w' := by
  have hbel : Below w.heap.size w (w.alloc (.cells #[.int .i64 k, .string wd, .slice A n c] 36)) := (Below.refl _ _).alloc (Nat.le_refl _) _
  have c0 : (w.alloc (.cells #[.int .i64 k, .string wd, .slice A n c] 36)).cell? ⟨a, 0, none⟩ = some (.int .i64 ka) := (cells_below hbel ha 0).trans h
  have HB := Lib.hid hbel
  clear h hbel
  go_enter Tryz.func29, Tryz.ntmps29
  go_wp2_with fail
  go_ret
  exact ⟨rfl, HB.out⟩
/-- where the form of a kind stands. -/
def idxD (k : Int) : Int := if 0 ≤ k ∧ k ≤ 15 then k else -1
set_option maxHeartbeats 4000000 in
theorem idx28 (b a : Nat) (ka : Int) (w : World) (h : Forms w w.heap.size b formsFD) (hc : w.cell? ⟨a, 0, none⟩ = some (.int .i64 ka)) (ha : a < w.heap.size) :
    Calls Tryz.prog 28 #[.slice (some ⟨b, 0, none⟩) 16 16, .func (.func 29) #[] #[.pointer (some ⟨a, 0, none⟩)]] w fun e w' => e = .returned (.int .i64 (idxD ka)) ∧ Below w.heap.size w w' := by
  have HF := Lib.hid h
  have HC := Lib.hid hc
  clear h hc
  go_enter Tryz.func28, Tryz.ntmps28
  go_wp2_with fail
  go_loopw [8] (fun i wr => ∃ k : Nat, k ≤ 16 ∧ i = .int .i64 k ∧ Hid (Below w.heap.size w wr) ∧ Hid (∀ j : Nat, j < k → (j : Int) ≠ ka)) (fun i _ => 16 - (intOf i).toNat)
  case atStart => exact ⟨0, Nat.zero_le _, rfl, Lib.hid (Below.refl _ _), Lib.hid fun j hj => absurd hj (Nat.not_lt_zero _)⟩
  case round =>
    obtain ⟨k, hk, rfl, HB, HN⟩ := hrel
    by_cases hlt : k < 16
    · obtain ⟨fd, g, h1, h2, h3, c0, c1, c2⟩ := (HF.out.below HB.out).at_ hlt
      have hk0 : 0 ≤ (k : Int) := by omega
      have hk1 : (k : Int) < 16 := by omega
      have HK := Lib.hid (kind29 k ka fd.word (some ⟨g, 0, none⟩) fd.pds.length fd.pds.length a wr ((cells_below HB.out ha 0).trans HC.out) (by have := HB.out.size; omega))
      clear h1 h2 h3
      generalize fd.pds.length = n at *
      generalize fd.word = wd at *
      by_cases hka : (k : Int) = ka
      · subst hka
        have hidx : idxD (k : Int) = k := by unfold idxD; rw [if_pos (by omega)]
        go_wp2_with fail
        refine HK.out.mono ?_
        rintro e w1 ⟨rfl, b1⟩
        rw [beq_self_eq_true]
        have HB1 := Lib.hid (HB.out.trans (b1.mono HB.out.size))
        clear b1
        go_wp2_with fail
        go_ret
        exact ⟨ret_int hidx.symm, HB1.out⟩
      · go_wp2_with fail
        refine HK.out.mono ?_
        rintro e w1 ⟨rfl, b1⟩
        rw [beq_eq_false_iff_ne.2 hka]
        have HB1 := Lib.hid (HB.out.trans (b1.mono HB.out.size))
        clear b1
        have HKA := Lib.hid hka
        clear hka
        go_wp2_with fail
        go_roundw
        case rel => exact ⟨k + 1, by omega, by go_num, HB1, Lib.hid fun j hj => by
          rcases Nat.lt_or_ge j k with h | h
          · exact HN.out j h
          · obtain rfl : j = k := by omega
            exact HKA.out⟩
        case measure => simp [intOf]; omega
    · obtain rfl : k = 16 := by omega
      have hidx : idxD ka = -1 := by
        unfold idxD
        rw [if_neg]
        intro h
        obtain ⟨q, rfl⟩ := Int.eq_ofNat_of_zero_le h.1
        exact HN.out q (by omega) rfl
      go_wp2_with fail
      go_ret
      exact ⟨ret_int hidx.symm, HB.out⟩
end Go.Proofs.YtoejjboanggenaaGreatDoor
