/-
plain: what it returns for the messages of Wanted.
-/
import Derived.Test.YtnlgkjnlfeeaoaaH
import Derived.Test.YtnlgkjnlfeeaoaaFx
namespace Go.Proofs.Ytnlgkjnlfeeaoaa
open Go.RowKit
set_option linter.unusedVariables false
set_option linter.unusedSimpArgs false

def mc (n a : Int) : Array Value := #[.int .i64 6, .int .u64 n, .int .i64 a, .string ⟨#[]⟩, .int .i64 0, .int .i64 0, .int .i64 0, .int .u64 0, .int .i64 0, .int .i64 0, .int .i64 0, .bool false, .int .i64 0, .int .i64 0, .string ⟨#[]⟩, .slice none 0 0, .int .u64 0, .int .i64 0, .int .i64 0, .int .i64 0, .int .i64 0, .slice none 0 0, .slice none 0 0, .slice none 0 0, .int .i64 0, .int .i64 0, .int .i64 0, .int .i64 0, .int .u64 0, .int .i64 0, .bool false, .bool false, .int .i64 0, .slice none 0 0, .int .i64 0, .int .i64 0, .slice none 0 0, .slice none 0 0, .slice none 0 0]
/-- the facts of the operations. -/
def F15 (B : Nat) (i : Nat) (v : Value) (W : World) : Prop :=
  match i with
  | 0 => v = .pointer (some ⟨B, 4, none⟩)
  | 1 => v = .agg #[.int .i64 0, .int .i64 0, .int .i64 0, .int .u64 0, .int .i64 0, .int .i64 0, .int .i64 0, .bool false]
  | 2 => v = .pointer (some ⟨B, 12, none⟩)
  | 3 => v = .agg #[.int .i64 0, .int .i64 0, .string ⟨#[]⟩, .slice none 0 0]
  | 4 => v = .pointer (some ⟨B, 16, none⟩)
  | 5 => v = .agg #[.int .u64 0, .int .i64 0, .int .i64 0, .int .i64 0, .int .i64 0, .slice none 0 0, .slice none 0 0, .slice none 0 0]
  | 6 => v = .pointer (some ⟨B, 26, none⟩)
  | 7 => v = .agg #[.int .i64 0, .int .i64 0, .int .u64 0, .int .i64 0, .bool false, .bool false, .int .i64 0, .slice none 0 0]
  | 8 => v = .pointer (some ⟨B, 34, none⟩)
  | 9 => v = .agg #[.int .i64 0, .int .i64 0, .slice none 0 0, .slice none 0 0, .slice none 0 0]
  | 10 => ∃ g, v = .pointer (some ⟨g, 0, none⟩) ∧ B < g ∧ Blk W g 39 #[.int .i64 0, .int .i64 0, .int .i64 0, .int .u64 0, .int .i64 0, .int .i64 0, .int .i64 0, .bool false]
  | 11 => ∃ g, v = .pointer (some ⟨g, 0, none⟩) ∧ B < g ∧ Blk W g 42 #[.int .i64 0, .int .i64 0, .string ⟨#[]⟩, .slice none 0 0]
  | 12 => ∃ g, v = .pointer (some ⟨g, 0, none⟩) ∧ B < g ∧ Blk W g 46 #[.int .u64 0, .int .i64 0, .int .i64 0, .int .i64 0, .int .i64 0, .slice none 0 0, .slice none 0 0, .slice none 0 0]
  | 13 => ∃ g, v = .pointer (some ⟨g, 0, none⟩) ∧ B < g ∧ Blk W g 49 #[.int .i64 0, .int .i64 0, .int .u64 0, .int .i64 0, .bool false, .bool false, .int .i64 0, .slice none 0 0]
  | 14 => ∃ g, v = .pointer (some ⟨g, 0, none⟩) ∧ B < g ∧ Blk W g 52 #[.int .i64 0, .int .i64 0, .slice none 0 0, .slice none 0 0, .slice none 0 0]
  | _ => True
theorem F15.alloc {B i : Nat} {v : Value} {W : World} (o : Obj) (h : F15 B i v W) : F15 B i v (W.alloc o) := by
  unfold F15 at h ⊢
  split at h <;> first | exact h | (obtain ⟨g, h1, h2, h3⟩ := h; exact ⟨g, h1, h2, h3.alloc o⟩)
theorem F15.same {B i : Nat} {v : Value} {W W' : World} (hs : W'.heap = W.heap) (h : F15 B i v W) : F15 B i v W' := by
  unfold F15 at h ⊢
  split at h <;> first | exact h | (obtain ⟨g, h1, h2, h3⟩ := h; exact ⟨g, h1, h2, by unfold Blk at h3 ⊢; rw [hs]; exact h3⟩)
theorem setIf_same {cs : Array Value} {i : Nat} {v : Value} (hv : cs[i]? = some v) : cs.setIfInBounds i v = cs := by
  apply Array.ext_getElem?
  intro k
  rw [Array.getElem?_setIfInBounds]
  by_cases hk : i = k
  · subst hk
    have := (Array.getElem?_eq_some_iff.1 hv).1
    rw [if_pos rfl, if_pos this, hv]
  · rw [if_neg hk]
structure Same (W0 W : World) (g : Nat) (t : TypeId) (cs : Array Value) : Prop where
  blk : Blk W g t cs
  heap : W.heap = W0.heap
  os : W.os = W0.os
  tape : W.tape = W0.tape
  output : W.output = W0.output
theorem Same.mk0 {W : World} {g : Nat} {t : TypeId} {cs : Array Value} (h : Blk W g t cs) : Same W W g t cs := ⟨h, rfl, rfl, rfl, rfl⟩
theorem Same.set {W0 W : World} {g : Nat} {t : TypeId} {cs : Array Value} (h : Same W0 W g t cs) (i : Nat) (v : Value) (hv : cs[i]? = some v) : Same W0 (W.setCell ⟨g, i, none⟩ v) g t cs := by
  have hb := h.blk
  unfold Blk at hb
  obtain ⟨hlt, hg⟩ := Array.getElem?_eq_some_iff.1 hb
  have he : (W.setCell ⟨g, i, none⟩ v).heap = W.heap := by
    apply Array.ext
    · simp [World.setCell]
    · intro j h1 h2
      by_cases hj : g = j
      · subst hj
        have hcs := setIf_same hv
        simp [World.setCell, Array.getElem_modify, hg, hcs]
      · simp [World.setCell, Array.getElem_modify, hj]
  exact ⟨by unfold Blk; rw [he]; exact hb, he.trans h.heap, h.os, h.tape, h.output⟩
theorem Same.below {W0 W w1 : World} {g : Nat} {t : TypeId} {cs : Array Value} {B : Nat} (h : Same W0 W g t cs) (hb : Below B w1 W0) : Below B w1 W :=
  ⟨h.os.trans hb.os, h.tape.trans hb.tape, h.output.trans hb.output, by rw [h.heap]; exact hb.size, fun k hk => by rw [h.heap]; exact hb.block k hk⟩
theorem Same.blkO {W0 W : World} {g b : Nat} {t t' : TypeId} {cs cs' : Array Value} (h : Same W0 W g t cs) (hm : Blk W0 b t' cs') : Blk W b t' cs' := by unfold Blk at hm ⊢; rw [h.heap]; exact hm
def J15 (w1 : World) (B : Nat) (n a : Int) (W : World) : Prop := Below w1.heap.size w1 W ∧ Blk W B 54 (mc n a)

set_option maxRecDepth 100000 in
set_option maxHeartbeats 40000000 in
theorem plain15 (n a : Int) (w : World) : Calls Try.prog 15 #[.agg #[.int .i64 6, .int .u64 n, .int .i64 a, .string ⟨#[]⟩, .int .i64 0, .int .i64 0, .int .i64 0, .int .u64 0, .int .i64 0, .int .i64 0, .int .i64 0, .bool false, .int .i64 0, .int .i64 0, .string ⟨#[]⟩, .slice none 0 0, .int .u64 0, .int .i64 0, .int .i64 0, .int .i64 0, .int .i64 0, .slice none 0 0, .slice none 0 0, .slice none 0 0, .int .i64 0, .int .i64 0, .int .i64 0, .int .i64 0, .int .u64 0, .int .i64 0, .bool false, .bool false, .int .i64 0, .slice none 0 0, .int .i64 0, .int .i64 0, .slice none 0 0, .slice none 0 0, .slice none 0 0]] w fun e w' => e = .returned (.bool true) ∧ Below w.heap.size w w' := by
  go_enter Try.func15, Try.ntmps15
  go_wp2
  refine wp_region_facts (fun xs => { tmps := #[.agg #[.int .i64 6, .int .u64 n, .int .i64 a, .string ⟨#[]⟩, .int .i64 0, .int .i64 0, .int .i64 0, .int .u64 0, .int .i64 0, .int .i64 0, .int .i64 0, .bool false, .int .i64 0, .int .i64 0, .string ⟨#[]⟩, .slice none 0 0, .int .u64 0, .int .i64 0, .int .i64 0, .int .i64 0, .int .i64 0, .slice none 0 0, .slice none 0 0, .slice none 0 0, .int .i64 0, .int .i64 0, .int .i64 0, .int .i64 0, .int .u64 0, .int .i64 0, .bool false, .bool false, .int .i64 0, .slice none 0 0, .int .i64 0, .int .i64 0, .slice none 0 0, .slice none 0 0, .slice none 0 0], .pointer (some ⟨w.heap.size, 0, none⟩), .bool false, xs 10, xs 11, xs 12, xs 13, xs 14, xs 0, xs 1, xs 2, xs 3, xs 4, xs 5, xs 6, xs 7, xs 8, xs 9, undef, undef, undef, undef, undef, undef, undef, undef, undef, undef, undef, undef, undef, undef, undef, undef, undef, undef, undef, undef, undef, undef, undef, undef, undef, undef, undef, undef, undef, undef, undef, undef, undef, undef, undef, undef, undef, undef, undef, undef, undef, undef, undef, undef, undef, undef, undef, undef, undef, undef, undef, undef, undef, undef, undef, undef, undef, undef, undef, undef, undef, undef, undef, undef, undef, undef, undef, undef, undef, undef, undef, undef, undef, undef, undef, undef, undef, undef, undef, undef, undef, undef, undef, undef, undef, undef, undef, undef, undef, undef, undef, undef, undef, undef, undef, undef, undef, undef, undef, undef, undef, undef, undef, undef, undef, undef, undef, undef, undef, undef, undef, undef, undef, undef, undef, undef, undef, undef, undef, undef, undef, undef, undef, undef, undef, undef, undef, undef, undef, undef, undef, undef, undef, undef, undef, undef, undef, undef, undef], defers := [] }) (fun _ => undef) (J15 (w.alloc (.cells (mc n a) 54)) w.heap.size n a) (F15 w.heap.size) (by kernel_rfl) (by kernel_rfl) rfl ⟨(Below.refl _ _).drew, (Blk.new w 54 (mc n a))⟩ ?_ ?_
  · intro i hi xs W hJ hd
    obtain ⟨hb, hm⟩ := hJ
    obtain rfl | rfl | rfl | rfl | rfl | rfl | rfl | rfl | rfl | rfl | rfl | rfl | rfl | rfl | rfl | rfl | rfl | rfl | rfl | rfl : i = 0 ∨ i = 1 ∨ i = 2 ∨ i = 3 ∨ i = 4 ∨ i = 5 ∨ i = 6 ∨ i = 7 ∨ i = 8 ∨ i = 9 ∨ i = 10 ∨ i = 11 ∨ i = 12 ∨ i = 13 ∨ i = 14 ∨ i = 15 ∨ i = 16 ∨ i = 17 ∨ i = 18 ∨ i = 19 := by simp at hi; omega
    · refine wpOp_step rfl fun K hK => ?_
      go_simp
      exact hK _ _ ⟨.pointer (some ⟨w.heap.size, 4, none⟩), rfl, ⟨hb, hm⟩, rfl, fun _ _ h => h⟩
    · have e0 : xs 0 = .pointer (some ⟨w.heap.size, 4, none⟩) := hd 0 (by kernel_rfl)
      have c0 : W.cell? ⟨w.heap.size, 4, none⟩ = some (.int .i64 0) := hm.cell 4
      have c1 : W.cell? ⟨w.heap.size, 5, none⟩ = some (.int .i64 0) := hm.cell 5
      have c2 : W.cell? ⟨w.heap.size, 6, none⟩ = some (.int .i64 0) := hm.cell 6
      have c3 : W.cell? ⟨w.heap.size, 7, none⟩ = some (.int .u64 0) := hm.cell 7
      have c4 : W.cell? ⟨w.heap.size, 8, none⟩ = some (.int .i64 0) := hm.cell 8
      have c5 : W.cell? ⟨w.heap.size, 9, none⟩ = some (.int .i64 0) := hm.cell 9
      have c6 : W.cell? ⟨w.heap.size, 10, none⟩ = some (.int .i64 0) := hm.cell 10
      have c7 : W.cell? ⟨w.heap.size, 11, none⟩ = some (.bool false) := hm.cell 11
      refine wpOp_step rfl fun K hK => ?_
      go_simp
      exact hK _ _ ⟨.agg #[.int .i64 0, .int .i64 0, .int .i64 0, .int .u64 0, .int .i64 0, .int .i64 0, .int .i64 0, .bool false], by rw [← e0]; rfl, ⟨hb, hm⟩, rfl, fun _ _ h => h⟩
    · refine wpOp_step rfl fun K hK => ?_
      go_simp
      exact hK _ _ ⟨.pointer (some ⟨w.heap.size, 12, none⟩), rfl, ⟨hb, hm⟩, rfl, fun _ _ h => h⟩
    · have e0 : xs 2 = .pointer (some ⟨w.heap.size, 12, none⟩) := hd 2 (by kernel_rfl)
      have c0 : W.cell? ⟨w.heap.size, 12, none⟩ = some (.int .i64 0) := hm.cell 12
      have c1 : W.cell? ⟨w.heap.size, 13, none⟩ = some (.int .i64 0) := hm.cell 13
      have c2 : W.cell? ⟨w.heap.size, 14, none⟩ = some (.string ⟨#[]⟩) := hm.cell 14
      have c3 : W.cell? ⟨w.heap.size, 15, none⟩ = some (.slice none 0 0) := hm.cell 15
      refine wpOp_step rfl fun K hK => ?_
      go_simp
      exact hK _ _ ⟨.agg #[.int .i64 0, .int .i64 0, .string ⟨#[]⟩, .slice none 0 0], by rw [← e0]; rfl, ⟨hb, hm⟩, rfl, fun _ _ h => h⟩
    · refine wpOp_step rfl fun K hK => ?_
      go_simp
      exact hK _ _ ⟨.pointer (some ⟨w.heap.size, 16, none⟩), rfl, ⟨hb, hm⟩, rfl, fun _ _ h => h⟩
    · have e0 : xs 4 = .pointer (some ⟨w.heap.size, 16, none⟩) := hd 4 (by kernel_rfl)
      have c0 : W.cell? ⟨w.heap.size, 16, none⟩ = some (.int .u64 0) := hm.cell 16
      have c1 : W.cell? ⟨w.heap.size, 17, none⟩ = some (.int .i64 0) := hm.cell 17
      have c2 : W.cell? ⟨w.heap.size, 18, none⟩ = some (.int .i64 0) := hm.cell 18
      have c3 : W.cell? ⟨w.heap.size, 19, none⟩ = some (.int .i64 0) := hm.cell 19
      have c4 : W.cell? ⟨w.heap.size, 20, none⟩ = some (.int .i64 0) := hm.cell 20
      have c5 : W.cell? ⟨w.heap.size, 21, none⟩ = some (.slice none 0 0) := hm.cell 21
      have c6 : W.cell? ⟨w.heap.size, 22, none⟩ = some (.slice none 0 0) := hm.cell 22
      have c7 : W.cell? ⟨w.heap.size, 23, none⟩ = some (.slice none 0 0) := hm.cell 23
      refine wpOp_step rfl fun K hK => ?_
      go_simp
      exact hK _ _ ⟨.agg #[.int .u64 0, .int .i64 0, .int .i64 0, .int .i64 0, .int .i64 0, .slice none 0 0, .slice none 0 0, .slice none 0 0], by rw [← e0]; rfl, ⟨hb, hm⟩, rfl, fun _ _ h => h⟩
    · refine wpOp_step rfl fun K hK => ?_
      go_simp
      exact hK _ _ ⟨.pointer (some ⟨w.heap.size, 26, none⟩), rfl, ⟨hb, hm⟩, rfl, fun _ _ h => h⟩
    · have e0 : xs 6 = .pointer (some ⟨w.heap.size, 26, none⟩) := hd 6 (by kernel_rfl)
      have c0 : W.cell? ⟨w.heap.size, 26, none⟩ = some (.int .i64 0) := hm.cell 26
      have c1 : W.cell? ⟨w.heap.size, 27, none⟩ = some (.int .i64 0) := hm.cell 27
      have c2 : W.cell? ⟨w.heap.size, 28, none⟩ = some (.int .u64 0) := hm.cell 28
      have c3 : W.cell? ⟨w.heap.size, 29, none⟩ = some (.int .i64 0) := hm.cell 29
      have c4 : W.cell? ⟨w.heap.size, 30, none⟩ = some (.bool false) := hm.cell 30
      have c5 : W.cell? ⟨w.heap.size, 31, none⟩ = some (.bool false) := hm.cell 31
      have c6 : W.cell? ⟨w.heap.size, 32, none⟩ = some (.int .i64 0) := hm.cell 32
      have c7 : W.cell? ⟨w.heap.size, 33, none⟩ = some (.slice none 0 0) := hm.cell 33
      refine wpOp_step rfl fun K hK => ?_
      go_simp
      exact hK _ _ ⟨.agg #[.int .i64 0, .int .i64 0, .int .u64 0, .int .i64 0, .bool false, .bool false, .int .i64 0, .slice none 0 0], by rw [← e0]; rfl, ⟨hb, hm⟩, rfl, fun _ _ h => h⟩
    · refine wpOp_step rfl fun K hK => ?_
      go_simp
      exact hK _ _ ⟨.pointer (some ⟨w.heap.size, 34, none⟩), rfl, ⟨hb, hm⟩, rfl, fun _ _ h => h⟩
    · have e0 : xs 8 = .pointer (some ⟨w.heap.size, 34, none⟩) := hd 8 (by kernel_rfl)
      have c0 : W.cell? ⟨w.heap.size, 34, none⟩ = some (.int .i64 0) := hm.cell 34
      have c1 : W.cell? ⟨w.heap.size, 35, none⟩ = some (.int .i64 0) := hm.cell 35
      have c2 : W.cell? ⟨w.heap.size, 36, none⟩ = some (.slice none 0 0) := hm.cell 36
      have c3 : W.cell? ⟨w.heap.size, 37, none⟩ = some (.slice none 0 0) := hm.cell 37
      have c4 : W.cell? ⟨w.heap.size, 38, none⟩ = some (.slice none 0 0) := hm.cell 38
      refine wpOp_step rfl fun K hK => ?_
      go_simp
      exact hK _ _ ⟨.agg #[.int .i64 0, .int .i64 0, .slice none 0 0, .slice none 0 0, .slice none 0 0], by rw [← e0]; rfl, ⟨hb, hm⟩, rfl, fun _ _ h => h⟩
    · have hz : w.heap.size < W.heap.size := hm.lt
      refine wpOp_step rfl fun K hK => ?_
      go_simp
      exact hK _ _ ⟨.pointer (some ⟨W.heap.size, 0, none⟩), rfl, ⟨hb.alloc hb.size _, hm.alloc _⟩, ⟨W.heap.size, rfl, hz, Blk.new W 39 #[.int .i64 0, .int .i64 0, .int .i64 0, .int .u64 0, .int .i64 0, .int .i64 0, .int .i64 0, .bool false]⟩, fun _ _ h => h.alloc _⟩
    · have hz : w.heap.size < W.heap.size := hm.lt
      refine wpOp_step rfl fun K hK => ?_
      go_simp
      exact hK _ _ ⟨.pointer (some ⟨W.heap.size, 0, none⟩), rfl, ⟨hb.alloc hb.size _, hm.alloc _⟩, ⟨W.heap.size, rfl, hz, Blk.new W 42 #[.int .i64 0, .int .i64 0, .string ⟨#[]⟩, .slice none 0 0]⟩, fun _ _ h => h.alloc _⟩
    · have hz : w.heap.size < W.heap.size := hm.lt
      refine wpOp_step rfl fun K hK => ?_
      go_simp
      exact hK _ _ ⟨.pointer (some ⟨W.heap.size, 0, none⟩), rfl, ⟨hb.alloc hb.size _, hm.alloc _⟩, ⟨W.heap.size, rfl, hz, Blk.new W 46 #[.int .u64 0, .int .i64 0, .int .i64 0, .int .i64 0, .int .i64 0, .slice none 0 0, .slice none 0 0, .slice none 0 0]⟩, fun _ _ h => h.alloc _⟩
    · have hz : w.heap.size < W.heap.size := hm.lt
      refine wpOp_step rfl fun K hK => ?_
      go_simp
      exact hK _ _ ⟨.pointer (some ⟨W.heap.size, 0, none⟩), rfl, ⟨hb.alloc hb.size _, hm.alloc _⟩, ⟨W.heap.size, rfl, hz, Blk.new W 49 #[.int .i64 0, .int .i64 0, .int .u64 0, .int .i64 0, .bool false, .bool false, .int .i64 0, .slice none 0 0]⟩, fun _ _ h => h.alloc _⟩
    · have hz : w.heap.size < W.heap.size := hm.lt
      refine wpOp_step rfl fun K hK => ?_
      go_simp
      exact hK _ _ ⟨.pointer (some ⟨W.heap.size, 0, none⟩), rfl, ⟨hb.alloc hb.size _, hm.alloc _⟩, ⟨W.heap.size, rfl, hz, Blk.new W 52 #[.int .i64 0, .int .i64 0, .slice none 0 0, .slice none 0 0, .slice none 0 0]⟩, fun _ _ h => h.alloc _⟩
    · obtain ⟨g, eg, hg, bg⟩ := hd 10 (by kernel_rfl)
      have e0 : xs 1 = .agg #[.int .i64 0, .int .i64 0, .int .i64 0, .int .u64 0, .int .i64 0, .int .i64 0, .int .i64 0, .bool false] := hd 1 (by kernel_rfl)
      have c0 : W.cell? ⟨g, 0, none⟩ = some (.int .i64 0) := bg.cell 0
      have c1 : W.cell? ⟨g, 1, none⟩ = some (.int .i64 0) := bg.cell 1
      have c2 : W.cell? ⟨g, 2, none⟩ = some (.int .i64 0) := bg.cell 2
      have c3 : W.cell? ⟨g, 3, none⟩ = some (.int .u64 0) := bg.cell 3
      have c4 : W.cell? ⟨g, 4, none⟩ = some (.int .i64 0) := bg.cell 4
      have c5 : W.cell? ⟨g, 5, none⟩ = some (.int .i64 0) := bg.cell 5
      have c6 : W.cell? ⟨g, 6, none⟩ = some (.int .i64 0) := bg.cell 6
      have c7 : W.cell? ⟨g, 7, none⟩ = some (.bool false) := bg.cell 7
      have f0 := bg.frozen 0
      have f1 := bg.frozen 1
      have f2 := bg.frozen 2
      have f3 := bg.frozen 3
      have f4 := bg.frozen 4
      have f5 := bg.frozen 5
      have f6 := bg.frozen 6
      have f7 := bg.frozen 7
      have hs := Same.mk0 bg |>.set 0 _ rfl |>.set 1 _ rfl |>.set 2 _ rfl |>.set 3 _ rfl |>.set 4 _ rfl |>.set 5 _ rfl |>.set 6 _ rfl |>.set 7 _ rfl
      have HS := Lib.hid hs
      clear hs
      refine wpOp_step rfl fun K hK => ?_
      go_simp
      have hs := HS.out
      refine hK _ _ ⟨undef, ?_, ⟨?_, ?_⟩, trivial, ?_⟩
      · rw [← eg, ← e0]; rfl
      · exact hs.below hb
      · exact hs.blkO hm
      · exact fun _ _ h => h.same hs.heap
    · obtain ⟨g, eg, hg, bg⟩ := hd 11 (by kernel_rfl)
      have e0 : xs 3 = .agg #[.int .i64 0, .int .i64 0, .string ⟨#[]⟩, .slice none 0 0] := hd 3 (by kernel_rfl)
      have c0 : W.cell? ⟨g, 0, none⟩ = some (.int .i64 0) := bg.cell 0
      have c1 : W.cell? ⟨g, 1, none⟩ = some (.int .i64 0) := bg.cell 1
      have c2 : W.cell? ⟨g, 2, none⟩ = some (.string ⟨#[]⟩) := bg.cell 2
      have c3 : W.cell? ⟨g, 3, none⟩ = some (.slice none 0 0) := bg.cell 3
      have f0 := bg.frozen 0
      have f1 := bg.frozen 1
      have f2 := bg.frozen 2
      have f3 := bg.frozen 3
      have hs := Same.mk0 bg |>.set 0 _ rfl |>.set 1 _ rfl |>.set 2 _ rfl |>.set 3 _ rfl
      have HS := Lib.hid hs
      clear hs
      refine wpOp_step rfl fun K hK => ?_
      go_simp
      have hs := HS.out
      refine hK _ _ ⟨undef, ?_, ⟨?_, ?_⟩, trivial, ?_⟩
      · rw [← eg, ← e0]; rfl
      · exact hs.below hb
      · exact hs.blkO hm
      · exact fun _ _ h => h.same hs.heap
    · obtain ⟨g, eg, hg, bg⟩ := hd 12 (by kernel_rfl)
      have e0 : xs 5 = .agg #[.int .u64 0, .int .i64 0, .int .i64 0, .int .i64 0, .int .i64 0, .slice none 0 0, .slice none 0 0, .slice none 0 0] := hd 5 (by kernel_rfl)
      have c0 : W.cell? ⟨g, 0, none⟩ = some (.int .u64 0) := bg.cell 0
      have c1 : W.cell? ⟨g, 1, none⟩ = some (.int .i64 0) := bg.cell 1
      have c2 : W.cell? ⟨g, 2, none⟩ = some (.int .i64 0) := bg.cell 2
      have c3 : W.cell? ⟨g, 3, none⟩ = some (.int .i64 0) := bg.cell 3
      have c4 : W.cell? ⟨g, 4, none⟩ = some (.int .i64 0) := bg.cell 4
      have c5 : W.cell? ⟨g, 5, none⟩ = some (.slice none 0 0) := bg.cell 5
      have c6 : W.cell? ⟨g, 6, none⟩ = some (.slice none 0 0) := bg.cell 6
      have c7 : W.cell? ⟨g, 7, none⟩ = some (.slice none 0 0) := bg.cell 7
      have f0 := bg.frozen 0
      have f1 := bg.frozen 1
      have f2 := bg.frozen 2
      have f3 := bg.frozen 3
      have f4 := bg.frozen 4
      have f5 := bg.frozen 5
      have f6 := bg.frozen 6
      have f7 := bg.frozen 7
      have hs := Same.mk0 bg |>.set 0 _ rfl |>.set 1 _ rfl |>.set 2 _ rfl |>.set 3 _ rfl |>.set 4 _ rfl |>.set 5 _ rfl |>.set 6 _ rfl |>.set 7 _ rfl
      have HS := Lib.hid hs
      clear hs
      refine wpOp_step rfl fun K hK => ?_
      go_simp
      have hs := HS.out
      refine hK _ _ ⟨undef, ?_, ⟨?_, ?_⟩, trivial, ?_⟩
      · rw [← eg, ← e0]; rfl
      · exact hs.below hb
      · exact hs.blkO hm
      · exact fun _ _ h => h.same hs.heap
    · obtain ⟨g, eg, hg, bg⟩ := hd 13 (by kernel_rfl)
      have e0 : xs 7 = .agg #[.int .i64 0, .int .i64 0, .int .u64 0, .int .i64 0, .bool false, .bool false, .int .i64 0, .slice none 0 0] := hd 7 (by kernel_rfl)
      have c0 : W.cell? ⟨g, 0, none⟩ = some (.int .i64 0) := bg.cell 0
      have c1 : W.cell? ⟨g, 1, none⟩ = some (.int .i64 0) := bg.cell 1
      have c2 : W.cell? ⟨g, 2, none⟩ = some (.int .u64 0) := bg.cell 2
      have c3 : W.cell? ⟨g, 3, none⟩ = some (.int .i64 0) := bg.cell 3
      have c4 : W.cell? ⟨g, 4, none⟩ = some (.bool false) := bg.cell 4
      have c5 : W.cell? ⟨g, 5, none⟩ = some (.bool false) := bg.cell 5
      have c6 : W.cell? ⟨g, 6, none⟩ = some (.int .i64 0) := bg.cell 6
      have c7 : W.cell? ⟨g, 7, none⟩ = some (.slice none 0 0) := bg.cell 7
      have f0 := bg.frozen 0
      have f1 := bg.frozen 1
      have f2 := bg.frozen 2
      have f3 := bg.frozen 3
      have f4 := bg.frozen 4
      have f5 := bg.frozen 5
      have f6 := bg.frozen 6
      have f7 := bg.frozen 7
      have hs := Same.mk0 bg |>.set 0 _ rfl |>.set 1 _ rfl |>.set 2 _ rfl |>.set 3 _ rfl |>.set 4 _ rfl |>.set 5 _ rfl |>.set 6 _ rfl |>.set 7 _ rfl
      have HS := Lib.hid hs
      clear hs
      refine wpOp_step rfl fun K hK => ?_
      go_simp
      have hs := HS.out
      refine hK _ _ ⟨undef, ?_, ⟨?_, ?_⟩, trivial, ?_⟩
      · rw [← eg, ← e0]; rfl
      · exact hs.below hb
      · exact hs.blkO hm
      · exact fun _ _ h => h.same hs.heap
    · obtain ⟨g, eg, hg, bg⟩ := hd 14 (by kernel_rfl)
      have e0 : xs 9 = .agg #[.int .i64 0, .int .i64 0, .slice none 0 0, .slice none 0 0, .slice none 0 0] := hd 9 (by kernel_rfl)
      have c0 : W.cell? ⟨g, 0, none⟩ = some (.int .i64 0) := bg.cell 0
      have c1 : W.cell? ⟨g, 1, none⟩ = some (.int .i64 0) := bg.cell 1
      have c2 : W.cell? ⟨g, 2, none⟩ = some (.slice none 0 0) := bg.cell 2
      have c3 : W.cell? ⟨g, 3, none⟩ = some (.slice none 0 0) := bg.cell 3
      have c4 : W.cell? ⟨g, 4, none⟩ = some (.slice none 0 0) := bg.cell 4
      have f0 := bg.frozen 0
      have f1 := bg.frozen 1
      have f2 := bg.frozen 2
      have f3 := bg.frozen 3
      have f4 := bg.frozen 4
      have hs := Same.mk0 bg |>.set 0 _ rfl |>.set 1 _ rfl |>.set 2 _ rfl |>.set 3 _ rfl |>.set 4 _ rfl
      have HS := Lib.hid hs
      clear hs
      refine wpOp_step rfl fun K hK => ?_
      go_simp
      have hs := HS.out
      refine hK _ _ ⟨undef, ?_, ⟨?_, ?_⟩, trivial, ?_⟩
      · rw [← eg, ← e0]; rfl
      · exact hs.below hb
      · exact hs.blkO hm
      · exact fun _ _ h => h.same hs.heap
  · intro xs W hJ hF
    obtain ⟨hb, hm⟩ := hJ
    have e0 : xs 0 = .pointer (some ⟨w.heap.size, 4, none⟩) := hF 0 (by simp)
    have e1 : xs 1 = .agg #[.int .i64 0, .int .i64 0, .int .i64 0, .int .u64 0, .int .i64 0, .int .i64 0, .int .i64 0, .bool false] := hF 1 (by simp)
    obtain ⟨g0, e10, _, b0⟩ := hF 10 (by simp)
    change xs 10 = _ at e10
    have e2 : xs 2 = .pointer (some ⟨w.heap.size, 12, none⟩) := hF 2 (by simp)
    have e3 : xs 3 = .agg #[.int .i64 0, .int .i64 0, .string ⟨#[]⟩, .slice none 0 0] := hF 3 (by simp)
    obtain ⟨g1, e11, _, b1⟩ := hF 11 (by simp)
    change xs 11 = _ at e11
    have e4 : xs 4 = .pointer (some ⟨w.heap.size, 16, none⟩) := hF 4 (by simp)
    have e5 : xs 5 = .agg #[.int .u64 0, .int .i64 0, .int .i64 0, .int .i64 0, .int .i64 0, .slice none 0 0, .slice none 0 0, .slice none 0 0] := hF 5 (by simp)
    obtain ⟨g2, e12, _, b2⟩ := hF 12 (by simp)
    change xs 12 = _ at e12
    have e6 : xs 6 = .pointer (some ⟨w.heap.size, 26, none⟩) := hF 6 (by simp)
    have e7 : xs 7 = .agg #[.int .i64 0, .int .i64 0, .int .u64 0, .int .i64 0, .bool false, .bool false, .int .i64 0, .slice none 0 0] := hF 7 (by simp)
    obtain ⟨g3, e13, _, b3⟩ := hF 13 (by simp)
    change xs 13 = _ at e13
    have e8 : xs 8 = .pointer (some ⟨w.heap.size, 34, none⟩) := hF 8 (by simp)
    have e9 : xs 9 = .agg #[.int .i64 0, .int .i64 0, .slice none 0 0, .slice none 0 0, .slice none 0 0] := hF 9 (by simp)
    obtain ⟨g4, e14, _, b4⟩ := hF 14 (by simp)
    change xs 14 = _ at e14
    rw [e0, e1, e2, e3, e4, e5, e6, e7, e8, e9, e10, e11, e12, e13, e14]
    clear e0 e1 e2 e3 e4 e5 e6 e7 e8 e9 e10 e11 e12 e13 e14 hF
    have r0c0 : W.cell? ⟨g0, 0, none⟩ = some (.int .i64 0) := b0.cell 0
    have r0c1 : W.cell? ⟨g0, 1, none⟩ = some (.int .i64 0) := b0.cell 1
    have r0c2 : W.cell? ⟨g0, 2, none⟩ = some (.int .i64 0) := b0.cell 2
    have r0c3 : W.cell? ⟨g0, 3, none⟩ = some (.int .u64 0) := b0.cell 3
    have r0c4 : W.cell? ⟨g0, 4, none⟩ = some (.int .i64 0) := b0.cell 4
    have r0c5 : W.cell? ⟨g0, 5, none⟩ = some (.int .i64 0) := b0.cell 5
    have r0c6 : W.cell? ⟨g0, 6, none⟩ = some (.int .i64 0) := b0.cell 6
    have r0c7 : W.cell? ⟨g0, 7, none⟩ = some (.bool false) := b0.cell 7
    have r1c0 : W.cell? ⟨g1, 0, none⟩ = some (.int .i64 0) := b1.cell 0
    have r1c1 : W.cell? ⟨g1, 1, none⟩ = some (.int .i64 0) := b1.cell 1
    have r1c2 : W.cell? ⟨g1, 2, none⟩ = some (.string ⟨#[]⟩) := b1.cell 2
    have r1c3 : W.cell? ⟨g1, 3, none⟩ = some (.slice none 0 0) := b1.cell 3
    have r2c0 : W.cell? ⟨g2, 0, none⟩ = some (.int .u64 0) := b2.cell 0
    have r2c1 : W.cell? ⟨g2, 1, none⟩ = some (.int .i64 0) := b2.cell 1
    have r2c2 : W.cell? ⟨g2, 2, none⟩ = some (.int .i64 0) := b2.cell 2
    have r2c3 : W.cell? ⟨g2, 3, none⟩ = some (.int .i64 0) := b2.cell 3
    have r2c4 : W.cell? ⟨g2, 4, none⟩ = some (.int .i64 0) := b2.cell 4
    have r2c5 : W.cell? ⟨g2, 5, none⟩ = some (.slice none 0 0) := b2.cell 5
    have r2c6 : W.cell? ⟨g2, 6, none⟩ = some (.slice none 0 0) := b2.cell 6
    have r2c7 : W.cell? ⟨g2, 7, none⟩ = some (.slice none 0 0) := b2.cell 7
    have r3c0 : W.cell? ⟨g3, 0, none⟩ = some (.int .i64 0) := b3.cell 0
    have r3c1 : W.cell? ⟨g3, 1, none⟩ = some (.int .i64 0) := b3.cell 1
    have r3c2 : W.cell? ⟨g3, 2, none⟩ = some (.int .u64 0) := b3.cell 2
    have r3c3 : W.cell? ⟨g3, 3, none⟩ = some (.int .i64 0) := b3.cell 3
    have r3c4 : W.cell? ⟨g3, 4, none⟩ = some (.bool false) := b3.cell 4
    have r3c5 : W.cell? ⟨g3, 5, none⟩ = some (.bool false) := b3.cell 5
    have r3c6 : W.cell? ⟨g3, 6, none⟩ = some (.int .i64 0) := b3.cell 6
    have r3c7 : W.cell? ⟨g3, 7, none⟩ = some (.slice none 0 0) := b3.cell 7
    have r4c0 : W.cell? ⟨g4, 0, none⟩ = some (.int .i64 0) := b4.cell 0
    have r4c1 : W.cell? ⟨g4, 1, none⟩ = some (.int .i64 0) := b4.cell 1
    have r4c2 : W.cell? ⟨g4, 2, none⟩ = some (.slice none 0 0) := b4.cell 2
    have r4c3 : W.cell? ⟨g4, 3, none⟩ = some (.slice none 0 0) := b4.cell 3
    have r4c4 : W.cell? ⟨g4, 4, none⟩ = some (.slice none 0 0) := b4.cell 4
    have m3 : W.cell? ⟨w.heap.size, 3, none⟩ = some (.string ⟨#[]⟩) := hm.cell 3
    have m24 : W.cell? ⟨w.heap.size, 24, none⟩ = some (.int .i64 0) := hm.cell 24
    have m25 : W.cell? ⟨w.heap.size, 25, none⟩ = some (.int .i64 0) := hm.cell 25
    have hbb := Lib.hid hb
    clear hb hm b0 b1 b2 b3 b4
    have q31 : ∀ w, (binOp .eql 31 (.agg #[.int .i64 0, .int .i64 0]) (.agg #[.int .i64 0, .int .i64 0])).run Try.prog w = .ok (.bool true) w := fun w => eql31 w 0 0 0 0
    have q32 : ∀ w, (binOp .eql 32 (.agg #[.int .i64 0, .int .i64 0]) (.agg #[.int .i64 0, .int .i64 0])).run Try.prog w = .ok (.bool true) w := fun w => eql32 w 0 0 0 0
    have q39 : ∀ w, (binOp .eql 39 (.agg #[.int .i64 0, .int .i64 0, .int .i64 0, .int .u64 0, .int .i64 0, .int .i64 0, .int .i64 0, .bool false]) (.agg #[.int .i64 0, .int .i64 0, .int .i64 0, .int .u64 0, .int .i64 0, .int .i64 0, .int .i64 0, .bool false])).run Try.prog w = .ok (.bool true) w := fun _ => by kernel_rfl
    go_wp2_with fail
    go_ret
    exact ⟨rfl, ((Below.refl _ _).alloc (Nat.le_refl _) _).trans (hbb.out.mono (by simp))⟩
end Go.Proofs.Ytnlgkjnlfeeaoaa
