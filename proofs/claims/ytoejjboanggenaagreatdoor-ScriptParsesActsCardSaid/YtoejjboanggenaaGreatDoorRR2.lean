/-
Facts of the drawn region that appends to the writes that survive.
-/
import Derived.Test.YtoejjboanggenaaGreatDoorFx4
import Derived.Test.YtoejjboanggenaaGreatDoorRR
namespace Go.Proofs.YtoejjboanggenaaGreatDoor
open Go.RowKit
set_option linter.unusedVariables false
set_option linter.unusedSimpArgs false

def F37 (B M b7 o7 n7 c7 q p : Nat) (u : Value) (z : Int) (L : List Value) (cs : Array Value) (ju : Nat → Value) (i : Nat) (xs : Nat → Option Value) (W : World) : Prop :=
  match i with
  | 0 => (xs 0).getD (ju 0) = .pointer (some ⟨M, 6, none⟩)
  | 1 => (xs 1).getD (ju 1) = u
  | 2 => (xs 2).getD (ju 2) = .slice (some ⟨b7, o7, none⟩) n7 c7
  | 3 => (xs 3).getD (ju 3) = .int .i64 q
  | 4 => (xs 4).getD (ju 4) = .pointer (some ⟨b7, o7 + q, none⟩)
  | 5 => (xs 5).getD (ju 5) = .int .i64 z
  | 6 => xs 7 = none → ∃ g, (xs 6).getD (ju 6) = .slice (some ⟨g, 0, none⟩) 1 1 ∧ W.cell? ⟨g, 0, none⟩ = some (.int .i64 z) ∧ g < W.heap.size
  | 7 => xs 7 ≠ none ∧ (xs 9 = none → W.ownsRow B 3 1 ((xs 7).getD (ju 7)) (p + 1) (L ++ [.int .i64 z]))
  | 8 => (xs 8).getD (ju 8) = .pointer (some ⟨M, 6, none⟩)
  | 9 => Blk W M 25 (cs.setIfInBounds 6 ((xs 7).getD (ju 7))) ∧ W.ownsRow B 3 1 ((xs 7).getD (ju 7)) (p + 1) (L ++ [.int .i64 z])
  | _ => True
def J37 (B M p : Nat) (u : Value) (L : List Value) (cs : Array Value) (wr : World) (xs : Nat → Option Value) (W : World) : Prop :=
  (∀ b, b < B → b ≠ M → W.heap[b]? = wr.heap[b]?) ∧ B ≤ W.heap.size ∧ Below M wr W ∧ (xs 7 = none → W.ownsRow B 3 1 u p L) ∧ (xs 9 = none → Blk W M 25 cs)
section
variable {B M b7 o7 n7 c7 q p : Nat} {u : Value} {z : Int} {L : List Value} {cs : Array Value} {ju : Nat → Value} {xs : Nat → Option Value} {W W' wr : World}
theorem J37.keep {i : Nat} (h : J37 B M p u L cs wr xs W) (hM : M < B) (h7 : i ≠ 7) (h9 : i ≠ 9) (hb : Below W.heap.size W W') (v : Option Value) : J37 B M p u L cs wr (updo xs i v) W' := by
  have e7 : updo xs i v 7 = xs 7 := updo_ne _ _ h7.symm
  have e9 : updo xs i v 9 = xs 9 := updo_ne _ _ h9.symm
  obtain ⟨h1, h2, h3, h4, h5⟩ := h
  unfold J37
  rw [e7, e9]
  exact ⟨fun b hbB hbM => (hb.block b (by omega)).trans (h1 b hbB hbM), Nat.le_trans h2 hb.size, h3.trans (hb.mono (by omega)), fun h => own_below (h4 h) hb, fun h => (h5 h).below hb (by omega)⟩
theorem F37.keep {i : Nat} (h7 : i ≠ 7) (h9 : i ≠ 9) (hM : M < W.heap.size) (hb : Below W.heap.size W W') (v : Option Value) : ∀ k, k ≠ i → F37 B M b7 o7 n7 c7 q p u z L cs ju k xs W → F37 B M b7 o7 n7 c7 q p u z L cs ju k (updo xs i v) W' := by
  intro k hk h
  have e7 : updo xs i v 7 = xs 7 := updo_ne _ _ h7.symm
  have e9 : updo xs i v 9 = xs 9 := updo_ne _ _ h9.symm
  have ek : updo xs i v k = xs k := updo_ne _ _ hk
  unfold F37 at *
  split at h <;> simp only [e7, e9, ek] at * <;> (try exact h)
  · intro h0
    obtain ⟨g, h1, h2, h3⟩ := h h0
    exact ⟨g, h1, (cells_below hb h3 0).trans h2, Nat.lt_of_lt_of_le h3 hb.size⟩
  · exact ⟨h.1, fun h0 => own_below (h.2 h0) hb⟩
  · exact ⟨h.1.below hb hM, own_below h.2 hb⟩
theorem F37.keep7 {v : Value} : ∀ k, k ≠ 7 → k ≠ 9 → F37 B M b7 o7 n7 c7 q p u z L cs ju k xs W → F37 B M b7 o7 n7 c7 q p u z L cs ju k (updo xs 7 (some v)) W' := by
  intro k h7 h9 h
  have e7 : updo xs 7 (some v) 7 = some v := updo_self _ _ _
  have ek : updo xs 7 (some v) k = xs k := updo_ne _ _ h7
  unfold F37 at *
  split at h <;> simp only [e7, ek] at * <;> (try exact h)
  · exact fun h0 => by cases h0
  · exact absurd rfl h7
  · exact absurd rfl h9
theorem F37.keep9 {v : Value} (hx : xs 7 ≠ none) : ∀ k, k ≠ 9 → F37 B M b7 o7 n7 c7 q p u z L cs ju k xs W → F37 B M b7 o7 n7 c7 q p u z L cs ju k (updo xs 9 (some v)) W' := by
  intro k h9 h
  have e7 : updo xs 9 (some v) 7 = xs 7 := updo_ne _ _ (by decide)
  have e9 : updo xs 9 (some v) 9 = some v := updo_self _ _ _
  have ek : updo xs 9 (some v) k = xs k := updo_ne _ _ h9
  unfold F37 at *
  split at h <;> simp only [e7, e9, ek] at * <;> (try exact h)
  · exact fun h0 => absurd h0 hx
  · exact ⟨h.1, fun h0 => by cases h0⟩
  · exact absurd rfl h9
end
def dep37 (k i : Nat) : Bool := i == 7 && k == 9
end Go.Proofs.YtoejjboanggenaaGreatDoor
