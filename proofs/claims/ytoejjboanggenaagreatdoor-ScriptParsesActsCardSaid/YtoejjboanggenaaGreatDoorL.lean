/-
Parts in memory; contracts of numeric, named, survive and rest.
-/
import Derived.Test.YtoejjboanggenaaGreatDoorK2
import Derived.Laws.EntriesVeiled
namespace Go.Proofs.YtoejjboanggenaaGreatDoor
open Go.RowKit
set_option linter.unusedVariables false
set_option linter.unusedSimpArgs false

/-- what a part is: a number, a name, the numbers that survive, the arguments. -/
inductive PD where
  | numA (lo hi : Int)
  | numB (lo hi : Int)
  | nam (kind : Int)
  | met (kind : Int)
  | surv
  | rest (most : Int)
def ptr (b : Nat) : Value := .pointer (some ⟨b, 0, none⟩)
/-- the four functions of a part, in memory below B. -/
def PartV (W : World) (B : Nat) (pd : PD) (vs : List Value) : Prop :=
  match pd with
  | .numA lo hi => ∃ b0 b1 b2, vs = [.func (.func 54) #[] #[ptr b0], .func (.func 56) #[] #[ptr b0], .func (.func 58) #[] #[ptr b0, ptr b1, ptr b2], .func (.func 59) #[] #[ptr b0]] ∧ b0 < B ∧ b1 < B ∧ b2 < B ∧ Blk W b0 79 #[fnv 38] ∧ Blk W b1 3 #[.int .i64 lo] ∧ Blk W b2 3 #[.int .i64 hi]
  | .numB lo hi => ∃ b0 b1 b2, vs = [.func (.func 54) #[] #[ptr b0], .func (.func 56) #[] #[ptr b0], .func (.func 58) #[] #[ptr b0, ptr b1, ptr b2], .func (.func 59) #[] #[ptr b0]] ∧ b0 < B ∧ b1 < B ∧ b2 < B ∧ Blk W b0 79 #[fnv 39] ∧ Blk W b1 3 #[.int .i64 lo] ∧ Blk W b2 3 #[.int .i64 hi]
  | .nam k => ∃ b0 b1, vs = [.func (.func 60) #[] #[ptr b0], .func (.func 61) #[] #[ptr b0], .func (.func 62) #[] #[ptr b0, ptr b1], .func (.func 64) #[] #[ptr b0]] ∧ b0 < B ∧ b1 < B ∧ Blk W b0 81 #[fnv 41] ∧ Blk W b1 3 #[.int .i64 k]
  | .met k => ∃ b0 b1, vs = [.func (.func 60) #[] #[ptr b0], .func (.func 61) #[] #[ptr b0], .func (.func 62) #[] #[ptr b0, ptr b1], .func (.func 64) #[] #[ptr b0]] ∧ b0 < B ∧ b1 < B ∧ Blk W b0 81 #[fnv 42] ∧ Blk W b1 3 #[.int .i64 k]
  | .surv => vs = [fnv 65, fnv 66, fnv 67, fnv 70]
  | .rest most => ∃ b0, vs = [fnv 71, fnv 72, .func (.func 74) #[] #[ptr b0], fnv 77] ∧ b0 < B ∧ Blk W b0 3 #[.int .i64 most]
theorem PartV.below {W W' : World} {B : Nat} {pd : PD} {vs : List Value} (h : PartV W B pd vs) (hb : Below B W W') : PartV W' B pd vs := by
  cases pd with
  | numA lo hi => obtain ⟨b0, b1, b2, e, h0, h1, h2, k0, k1, k2⟩ := h; exact ⟨b0, b1, b2, e, h0, h1, h2, k0.below hb h0, k1.below hb h1, k2.below hb h2⟩
  | numB lo hi => obtain ⟨b0, b1, b2, e, h0, h1, h2, k0, k1, k2⟩ := h; exact ⟨b0, b1, b2, e, h0, h1, h2, k0.below hb h0, k1.below hb h1, k2.below hb h2⟩
  | nam k => obtain ⟨b0, b1, e, h0, h1, k0, k1⟩ := h; exact ⟨b0, b1, e, h0, h1, k0.below hb h0, k1.below hb h1⟩
  | met k => obtain ⟨b0, b1, e, h0, h1, k0, k1⟩ := h; exact ⟨b0, b1, e, h0, h1, k0.below hb h0, k1.below hb h1⟩
  | surv => exact h
  | rest m => obtain ⟨b0, e, h0, k0⟩ := h; exact ⟨b0, e, h0, k0.below hb h0⟩
theorem PartV.more {W : World} {B B' : Nat} {pd : PD} {vs : List Value} (h : PartV W B pd vs) (hB : B ≤ B') : PartV W B' pd vs := by
  cases pd with
  | numA lo hi => obtain ⟨b0, b1, b2, e, h0, h1, h2, k⟩ := h; exact ⟨b0, b1, b2, e, by omega, by omega, by omega, k⟩
  | numB lo hi => obtain ⟨b0, b1, b2, e, h0, h1, h2, k⟩ := h; exact ⟨b0, b1, b2, e, by omega, by omega, by omega, k⟩
  | nam k => obtain ⟨b0, b1, e, h0, h1, k⟩ := h; exact ⟨b0, b1, e, by omega, by omega, k⟩
  | met k => obtain ⟨b0, b1, e, h0, h1, k⟩ := h; exact ⟨b0, b1, e, by omega, by omega, k⟩
  | surv => exact h
  | rest m => obtain ⟨b0, e, h0, k⟩ := h; exact ⟨b0, e, by omega, k⟩
theorem PartV.four {W : World} {B : Nat} {pd : PD} {vs : List Value} (h : PartV W B pd vs) : ∃ a b c d, vs = [a, b, c, d] := by
  cases pd with
  | numA lo hi => obtain ⟨b0, b1, b2, e, _⟩ := h; exact ⟨_, _, _, _, e⟩
  | numB lo hi => obtain ⟨b0, b1, b2, e, _⟩ := h; exact ⟨_, _, _, _, e⟩
  | nam k => obtain ⟨b0, b1, e, _⟩ := h; exact ⟨_, _, _, _, e⟩
  | met k => obtain ⟨b0, b1, e, _⟩ := h; exact ⟨_, _, _, _, e⟩
  | surv => exact ⟨_, _, _, _, h⟩
  | rest m => obtain ⟨b0, e, _⟩ := h; exact ⟨_, _, _, _, e⟩
/-- a part is answered. -/
def GivesPart (w : World) (pd : PD) (e : Ending) (w' : World) : Prop := ∃ a b c d, e = .returned (.agg #[a, b, c, d]) ∧ PartV w' w'.heap.size pd [a, b, c, d] ∧ Below w.heap.size w w'
set_option maxHeartbeats 1000000 in
theorem numeric37_38 (lo hi : Int) (w : World) : Calls Tryz.prog 37 #[fnv 38, .int .i64 lo, .int .i64 hi] w (GivesPart w (.numA lo hi)) := by
  unfold fnv
  go_enter Tryz.func37, Tryz.ntmps37
  go_wp2
  refine bodyPost_ret (v := .agg #[.func (.func 54) #[] #[ptr w.heap.size], .func (.func 56) #[] #[ptr w.heap.size], .func (.func 58) #[] #[ptr w.heap.size, ptr (w.heap.size + 1), ptr (w.heap.size + 2)], .func (.func 59) #[] #[ptr w.heap.size]]) (by simp [results, Tryz.results37, go_sem, ptr]) rfl ?_
  have h0 := ((((Blk.new w 79 #[.func (.func 38) #[] #[]]).alloc (.cells #[.int .i64 lo] 3)).alloc (.cells #[.int .i64 hi] 3)))
  have h1 := (Blk.new (w.alloc (.cells #[.func (.func 38) #[] #[]] 79)) 3 #[.int .i64 lo]).alloc (.cells #[.int .i64 hi] 3)
  have h2 := Blk.new ((w.alloc (.cells #[.func (.func 38) #[] #[]] 79)).alloc (.cells #[.int .i64 lo] 3)) 3 #[.int .i64 hi]
  rw [World.size_alloc] at h1
  rw [World.size_alloc, World.size_alloc] at h2
  refine ⟨_, _, _, _, rfl, ⟨w.heap.size, w.heap.size + 1, w.heap.size + 2, rfl, by simp <;> omega, by simp <;> omega, by simp <;> omega, h0.alloc _, h1.alloc _, h2.alloc _⟩, ?_⟩
  exact (((((Below.refl _ _).alloc (Nat.le_refl _) _).alloc (by simp) _).alloc (by simp; omega) _).alloc (by simp; omega) _)
set_option maxHeartbeats 1000000 in
theorem numeric37_39 (lo hi : Int) (w : World) : Calls Tryz.prog 37 #[fnv 39, .int .i64 lo, .int .i64 hi] w (GivesPart w (.numB lo hi)) := by
  unfold fnv
  go_enter Tryz.func37, Tryz.ntmps37
  go_wp2
  refine bodyPost_ret (v := .agg #[.func (.func 54) #[] #[ptr w.heap.size], .func (.func 56) #[] #[ptr w.heap.size], .func (.func 58) #[] #[ptr w.heap.size, ptr (w.heap.size + 1), ptr (w.heap.size + 2)], .func (.func 59) #[] #[ptr w.heap.size]]) (by simp [results, Tryz.results37, go_sem, ptr]) rfl ?_
  have h0 := ((((Blk.new w 79 #[.func (.func 39) #[] #[]]).alloc (.cells #[.int .i64 lo] 3)).alloc (.cells #[.int .i64 hi] 3)))
  have h1 := (Blk.new (w.alloc (.cells #[.func (.func 39) #[] #[]] 79)) 3 #[.int .i64 lo]).alloc (.cells #[.int .i64 hi] 3)
  have h2 := Blk.new ((w.alloc (.cells #[.func (.func 39) #[] #[]] 79)).alloc (.cells #[.int .i64 lo] 3)) 3 #[.int .i64 hi]
  rw [World.size_alloc] at h1
  rw [World.size_alloc, World.size_alloc] at h2
  refine ⟨_, _, _, _, rfl, ⟨w.heap.size, w.heap.size + 1, w.heap.size + 2, rfl, by simp <;> omega, by simp <;> omega, by simp <;> omega, h0.alloc _, h1.alloc _, h2.alloc _⟩, ?_⟩
  exact (((((Below.refl _ _).alloc (Nat.le_refl _) _).alloc (by simp) _).alloc (by simp; omega) _).alloc (by simp; omega) _)
set_option maxHeartbeats 1000000 in
theorem named40_41 (k : Int) (w : World) : Calls Tryz.prog 40 #[fnv 41, .int .i64 k] w (GivesPart w (.nam k)) := by
  unfold fnv
  go_enter Tryz.func40, Tryz.ntmps40
  go_wp2
  refine bodyPost_ret (v := .agg #[.func (.func 60) #[] #[ptr w.heap.size], .func (.func 61) #[] #[ptr w.heap.size], .func (.func 62) #[] #[ptr w.heap.size, ptr (w.heap.size + 1)], .func (.func 64) #[] #[ptr w.heap.size]]) (by simp [results, Tryz.results40, go_sem, ptr]) rfl ?_
  have h0 := (((Blk.new w 81 #[.func (.func 41) #[] #[]]).alloc (.cells #[.int .i64 k] 3)))
  have h1 := (Blk.new (w.alloc (.cells #[.func (.func 41) #[] #[]] 81)) 3 #[.int .i64 k])
  rw [World.size_alloc] at h1
  refine ⟨_, _, _, _, rfl, ⟨w.heap.size, w.heap.size + 1, rfl, by simp <;> omega, by simp <;> omega, h0.alloc _, h1.alloc _⟩, ?_⟩
  exact ((((Below.refl _ _).alloc (Nat.le_refl _) _).alloc (by simp) _).alloc (by simp; omega) _)
set_option maxHeartbeats 1000000 in
theorem named40_42 (k : Int) (w : World) : Calls Tryz.prog 40 #[fnv 42, .int .i64 k] w (GivesPart w (.met k)) := by
  unfold fnv
  go_enter Tryz.func40, Tryz.ntmps40
  go_wp2
  refine bodyPost_ret (v := .agg #[.func (.func 60) #[] #[ptr w.heap.size], .func (.func 61) #[] #[ptr w.heap.size], .func (.func 62) #[] #[ptr w.heap.size, ptr (w.heap.size + 1)], .func (.func 64) #[] #[ptr w.heap.size]]) (by simp [results, Tryz.results40, go_sem, ptr]) rfl ?_
  have h0 := (((Blk.new w 81 #[.func (.func 42) #[] #[]]).alloc (.cells #[.int .i64 k] 3)))
  have h1 := (Blk.new (w.alloc (.cells #[.func (.func 42) #[] #[]] 81)) 3 #[.int .i64 k])
  rw [World.size_alloc] at h1
  refine ⟨_, _, _, _, rfl, ⟨w.heap.size, w.heap.size + 1, rfl, by simp <;> omega, by simp <;> omega, h0.alloc _, h1.alloc _⟩, ?_⟩
  exact ((((Below.refl _ _).alloc (Nat.le_refl _) _).alloc (by simp) _).alloc (by simp; omega) _)
set_option maxHeartbeats 1000000 in
theorem survive43 (w : World) : Calls Tryz.prog 43 #[] w (GivesPart w .surv) := by
  go_enter Tryz.func43, Tryz.ntmps43
  go_wp2
  refine bodyPost_ret (v := .agg #[fnv 65, fnv 66, fnv 67, fnv 70]) (by simp [results, Tryz.results43, go_sem, fnv]) rfl ?_
  exact ⟨_, _, _, _, rfl, rfl, (Below.refl _ _).alloc (Nat.le_refl _) _⟩
set_option maxHeartbeats 1000000 in
theorem rest44 (most : Int) (w : World) : Calls Tryz.prog 44 #[.int .i64 most] w (GivesPart w (.rest most)) := by
  go_enter Tryz.func44, Tryz.ntmps44
  go_wp2
  refine bodyPost_ret (v := .agg #[fnv 71, fnv 72, .func (.func 74) #[] #[ptr w.heap.size], fnv 77]) (by simp [results, Tryz.results44, go_sem, fnv, ptr]) rfl ?_
  exact ⟨_, _, _, _, rfl, ⟨w.heap.size, rfl, by simp; omega, (Blk.new w 3 _).alloc _⟩, ((Below.refl _ _).alloc (Nat.le_refl _) _).alloc (by simp) _⟩
end Go.Proofs.YtoejjboanggenaaGreatDoor
