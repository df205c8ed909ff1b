/-
Facts of the drawn regions of the reference's ParseAct that append.
-/
import Derived.Test.YtoejjboanggenaaGreatDoorFx3
import Derived.Test.YtoejjboanggenaaGreatDoorRB2
namespace Go.Proofs.YtoejjboanggenaaGreatDoor
open Go.RowKit
set_option linter.unusedVariables false
set_option linter.unusedSimpArgs false

theorem Strs.news {w : World} {B b o n : Nat} {ss : List ByteArray} (h : Strs w B (some ⟨b, o, none⟩) n ss) : ∀ j u, (ss.map Value.string)[j]? = some u → w.cell? ((⟨b, o, none⟩ : Addr).add j) = some u := by
  intro j u hu
  rw [add_none]
  have hl := (List.getElem?_eq_some_iff.1 hu).1
  have hn : 0 < n := by
    have := h.1
    omega
  obtain ⟨b', o', h1, _, h3⟩ := h.2 hn
  simp only [Option.some.injEq, Addr.mk.injEq, and_true] at h1
  obtain ⟨rfl, rfl⟩ := h1
  exact h3 j u hu
theorem own_def {w : World} {base : Nat} {t : TypeId} {v : Value} {n size : Nat} {xs : List Value} (h : w.ownsRow base t size v n xs) : v ≠ undef := by
  intro e
  obtain ⟨A, c, ⟨h1, _⟩ | ⟨h1, _⟩⟩ := slice_of_own h
  · rw [e] at h1; cases h1
  · rw [e] at h1; cases h1
def F11 (B0 b4 o4 n4 c4 o5 m c5 : Nat) (y1 : ByteArray) (ys : List Value) (i : Nat) (xs : Nat → Value) (W : World) : Prop :=
  match i with
  | 0 => xs 5 = undef → W.ownsRow B0 9 1 (xs 0) 0 []
  | 1 => xs 1 = .slice (some ⟨b4, o4, none⟩) n4 c4
  | 2 => xs 2 = .pointer (some ⟨b4, o4, none⟩)
  | 3 => xs 3 = .string y1
  | 4 => xs 5 = undef → ∃ g, xs 4 = .slice (some ⟨g, 0, none⟩) 1 1 ∧ W.cell? ⟨g, 0, none⟩ = some (.string y1) ∧ g < W.heap.size
  | 5 => xs 5 ≠ undef ∧ (xs 8 = undef → W.ownsRow B0 9 1 (xs 5) 1 [.string y1])
  | 6 => xs 6 = .slice (some ⟨b4, o4, none⟩) n4 c4
  | 7 => xs 7 = .slice (some ⟨b4, o5, none⟩) m c5
  | 8 => xs 8 ≠ undef ∧ W.ownsRow B0 9 1 (xs 8) (1 + m) (.string y1 :: ys)
  | 9 => W.ownsRow B0 9 1 (xs 9) (1 + m) (.string y1 :: ys)
  | _ => True
section
variable {B0 b4 o4 n4 c4 o5 m c5 : Nat} {y1 : ByteArray} {ys : List Value} {xs : Nat → Value} {W W' : World}
theorem F11.keep {i : Nat} (h5 : i ≠ 5) (h8 : i ≠ 8) (hb : Below W.heap.size W W') (v : Value) : ∀ k, k ≠ i → F11 B0 b4 o4 n4 c4 o5 m c5 y1 ys k xs W → F11 B0 b4 o4 n4 c4 o5 m c5 y1 ys k (upd xs i v) W' := by
  intro k hk h
  have e5 : upd xs i v 5 = xs 5 := upd_ne _ _ h5.symm
  have e8 : upd xs i v 8 = xs 8 := upd_ne _ _ h8.symm
  have ek : upd xs i v k = xs k := upd_ne _ _ hk
  unfold F11 at *
  split at h <;> simp only [e5, e8, ek] at * <;> (try exact h)
  · exact fun h0 => own_below (h h0) hb
  · intro h0
    obtain ⟨g, h1, h2, h3⟩ := h h0
    exact ⟨g, h1, (cells_below hb h3 0).trans h2, Nat.lt_of_lt_of_le h3 hb.size⟩
  · exact ⟨h.1, fun h0 => own_below (h.2 h0) hb⟩
  · exact ⟨h.1, own_below h.2 hb⟩
  · exact own_below h hb
theorem F11.keep5 {v : Value} (hv : v ≠ undef) : ∀ k, k ≠ 5 → k ≠ 8 → k ≠ 9 → F11 B0 b4 o4 n4 c4 o5 m c5 y1 ys k xs W → F11 B0 b4 o4 n4 c4 o5 m c5 y1 ys k (upd xs 5 v) W' := by
  intro k h5 h8 h9 h
  have e5 : upd xs 5 v 5 = v := upd_self _ _ _
  have ek : upd xs 5 v k = xs k := upd_ne _ _ h5
  unfold F11 at *
  split at h <;> simp only [e5, ek] at * <;> (try exact h)
  · exact fun h0 => absurd h0 hv
  · exact fun h0 => absurd h0 hv
  · exact absurd rfl h5
  · exact absurd rfl h8
  · exact absurd rfl h9
theorem F11.keep8 {v : Value} (hv : v ≠ undef) (hx : xs 5 ≠ undef) : ∀ k, k ≠ 8 → k ≠ 9 → F11 B0 b4 o4 n4 c4 o5 m c5 y1 ys k xs W → F11 B0 b4 o4 n4 c4 o5 m c5 y1 ys k (upd xs 8 v) W' := by
  intro k h8 h9 h
  have e5 : upd xs 8 v 5 = xs 5 := upd_ne _ _ (by decide)
  have e8 : upd xs 8 v 8 = v := upd_self _ _ _
  have ek : upd xs 8 v k = xs k := upd_ne _ _ h8
  unfold F11 at *
  split at h <;> simp only [e5, e8, ek] at * <;> (try exact h)
  · exact fun h0 => absurd h0 hx
  · exact fun h0 => absurd h0 hx
  · exact ⟨h.1, fun h0 => absurd h0 hv⟩
  · exact absurd rfl h8
  · exact absurd rfl h9
end
def dep11 (k i : Nat) : Bool := (i == 5 && (k == 8 || k == 9)) || (i == 8 && k == 9)
end Go.Proofs.YtoejjboanggenaaGreatDoor
