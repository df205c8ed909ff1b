/-
awake returns true.
-/
import Derived.Test.YtnlgkjnlfeeaoaaH
import Derived.WalkKit
import Derived.WalkSpells
import Derived.WalkLawsBesides
import Derived.Lib.Hide
import Derived.Deep.QuietTactic
import Derived.BigQuiet
namespace Go.Proofs.Ytnlgkjnlfeeaoaa
open Go.RowKit

set_option maxHeartbeats 400000 in
theorem entry21 (w : World) : Calls Try.prog 21 #[] w fun e w' => e = .returned (.agg #[.int .i64 3, .int .u64 9, .int .i64 1, .int .i64 4, .int .i64 0, .int .i64 0, .int .i64 0, .bool false, .bool false, .bool false, .int .i64 0, .int .i64 0]) ∧ w.alloc (.cells #[.int .i64 3, .int .u64 9, .int .i64 1, .int .i64 4, .int .i64 0, .int .i64 0, .int .i64 0, .bool false, .bool false, .bool false, .int .i64 0, .int .i64 0] 36) = w' := by
  have hq1 := eql31
  have hq2 := eql32
  have hq3 := neq31
  have hq4 := neq32
  go_enter Try.func21, Try.ntmps21
  go_wp2
  exact bodyPost_ret (v := .agg #[.int .i64 3, .int .u64 9, .int .i64 1, .int .i64 4, .int .i64 0, .int .i64 0, .int .i64 0, .bool false, .bool false, .bool false, .int .i64 0, .int .i64 0]) (by simp [results, Try.results21, go_sem]) rfl ⟨rfl, rfl⟩

theorem few11 (A A2 : Option Addr) (n n2 cp cp2 : Nat) (w : World) (hn : n ≤ 9223372036854775807) (hn2 : n2 ≤ 9223372036854775807) :
    Calls Try.prog 11 #[.slice A n cp, .slice A2 n2 cp2] w fun e w' => e = .returned (.bool (decide (n ≤ 20 ∧ n2 ≤ 20))) ∧ w = w' := by
  have hq1 := eql31
  have hq2 := eql32
  have hq3 := neq31
  have hq4 := neq32
  go_enter Try.func11, Try.ntmps11
  go_wp2
  all_goals
    go_ret
    refine ⟨ret_bool ?_, rfl⟩
    rw [Bool.eq_iff_iff]; simp; try omega

def exS : List Ent := [⟨2, 5, 1, 4, 0, 0, 0, false, false, false, 0, 0⟩, ⟨3, 5, 1, 4, 0, 0, 0, false, false, false, 0, 0⟩]
def exT : List Ent := [⟨3, 9, 1, 4, 0, 0, 0, false, false, false, 0, 0⟩]
theorem exChosen : chosen exS exT = [⟨2, 5, 1, 4, 0, 0, 0, false, false, false, 0, 0⟩] := by kernel_rfl
theorem exM : ((chosen exS exT).map (pair exT)).flatMap encM = [.int .i64 6, .int .u64 9, .int .i64 2, .string ⟨#[]⟩, .int .i64 0, .int .i64 0, .int .i64 0, .int .u64 0, .int .i64 0, .int .i64 0, .int .i64 0, .bool false, .int .i64 0, .int .i64 0, .string ⟨#[]⟩, .slice none 0 0, .int .u64 0, .int .i64 0, .int .i64 0, .int .i64 0, .int .i64 0, .slice none 0 0, .slice none 0 0, .slice none 0 0, .int .i64 0, .int .i64 0, .int .i64 0, .int .i64 0, .int .u64 0, .int .i64 0, .bool false, .bool false, .int .i64 0, .slice none 0 0, .int .i64 0, .int .i64 0, .slice none 0 0, .slice none 0 0, .slice none 0 0] := by kernel_rfl
theorem exTg : ((chosen exS exT).map (pair exT)).flatMap encT = [.int .i64 3] := by kernel_rfl

theorem Ents.blk {w : World} {b : Nat} {t : TypeId} {es : List Ent} {cs : Array Value} (h : Blk w b t cs) (hc : cs.toList = es.flatMap Ent.enc) {B : Nat} (hb : b < B) : Ents w B (some ⟨b, 0, none⟩) es.length es :=
  ⟨rfl, fun _ => ⟨b, 0, rfl, hb, fun i e he j v hv => by
    rw [h.cell, ← Array.getElem?_toList, hc, show 0 + i * 12 + j = i * 12 + j from by omega]
    exact get_enc es i e he j v hv⟩⟩

theorem field36 (w : World) : (Instr.field 36 (.agg #[.int .i64 3, .int .u64 9, .int .i64 1, .int .i64 4, .int .i64 0, .int .i64 0, .int .i64 0, .bool false, .bool false, .bool false, .int .i64 0, .int .i64 0]) 2).run Try.prog w = .ok (.agg #[.int .i64 1, .int .i64 4]) w := by kernel_rfl

set_option maxRecDepth 100000 in
set_option maxHeartbeats 1000000 in
theorem awake10 (w : World) : Calls Try.prog 10 #[] w fun e w' => e = .returned (.bool true) ∧ Below w.heap.size w w' := by
  have hf := field36
  have hq1 := eql31
  have hq2 := eql32
  have hq3 := neq31
  have hq4 := neq32
  go_enter Try.func10, Try.ntmps10
  go_wp2_with (go_at_call 21; refine (entry21 _).mono ?_; rintro v w1 ⟨rfl, rfl⟩)
  have hS : Blk (((((w.alloc (.cells #[.int .i64 3, .int .u64 9, .int .i64 1, .int .i64 4, .int .i64 0, .int .i64 0, .int .i64 0, .bool false, .bool false, .bool false, .int .i64 0, .int .i64 0] 36)).alloc (.cells #[.int .i64 3, .int .u64 9, .int .i64 1, .int .i64 4, .int .i64 0, .int .i64 0, .int .i64 0, .bool false, .bool false, .bool false, .int .i64 0, .int .i64 0] 36)).alloc (.cells #[.int .i64 2, .int .u64 5, .int .i64 1, .int .i64 4, .int .i64 0, .int .i64 0, .int .i64 0, .bool false, .bool false, .bool false, .int .i64 0, .int .i64 0, .int .i64 3, .int .u64 5, .int .i64 1, .int .i64 4, .int .i64 0, .int .i64 0, .int .i64 0, .bool false, .bool false, .bool false, .int .i64 0, .int .i64 0] 34)).alloc (.cells #[.int .i64 3, .int .u64 9, .int .i64 1, .int .i64 4, .int .i64 0, .int .i64 0, .int .i64 0, .bool false, .bool false, .bool false, .int .i64 0, .int .i64 0] 36)).alloc (.cells #[.int .i64 3, .int .u64 9, .int .i64 1, .int .i64 4, .int .i64 0, .int .i64 0, .int .i64 0, .bool false, .bool false, .bool false, .int .i64 0, .int .i64 0] 36)) (w.heap.size + 1 + 1) 34 #[.int .i64 2, .int .u64 5, .int .i64 1, .int .i64 4, .int .i64 0, .int .i64 0, .int .i64 0, .bool false, .bool false, .bool false, .int .i64 0, .int .i64 0, .int .i64 3, .int .u64 5, .int .i64 1, .int .i64 4, .int .i64 0, .int .i64 0, .int .i64 0, .bool false, .bool false, .bool false, .int .i64 0, .int .i64 0] := by
    have := Blk.new ((w.alloc (.cells #[.int .i64 3, .int .u64 9, .int .i64 1, .int .i64 4, .int .i64 0, .int .i64 0, .int .i64 0, .bool false, .bool false, .bool false, .int .i64 0, .int .i64 0] 36)).alloc (.cells #[.int .i64 3, .int .u64 9, .int .i64 1, .int .i64 4, .int .i64 0, .int .i64 0, .int .i64 0, .bool false, .bool false, .bool false, .int .i64 0, .int .i64 0] 36)) 34 #[.int .i64 2, .int .u64 5, .int .i64 1, .int .i64 4, .int .i64 0, .int .i64 0, .int .i64 0, .bool false, .bool false, .bool false, .int .i64 0, .int .i64 0, .int .i64 3, .int .u64 5, .int .i64 1, .int .i64 4, .int .i64 0, .int .i64 0, .int .i64 0, .bool false, .bool false, .bool false, .int .i64 0, .int .i64 0]
    rw [World.size_alloc, World.size_alloc] at this
    exact (this.alloc _).alloc _
  have hT : Blk (((((w.alloc (.cells #[.int .i64 3, .int .u64 9, .int .i64 1, .int .i64 4, .int .i64 0, .int .i64 0, .int .i64 0, .bool false, .bool false, .bool false, .int .i64 0, .int .i64 0] 36)).alloc (.cells #[.int .i64 3, .int .u64 9, .int .i64 1, .int .i64 4, .int .i64 0, .int .i64 0, .int .i64 0, .bool false, .bool false, .bool false, .int .i64 0, .int .i64 0] 36)).alloc (.cells #[.int .i64 2, .int .u64 5, .int .i64 1, .int .i64 4, .int .i64 0, .int .i64 0, .int .i64 0, .bool false, .bool false, .bool false, .int .i64 0, .int .i64 0, .int .i64 3, .int .u64 5, .int .i64 1, .int .i64 4, .int .i64 0, .int .i64 0, .int .i64 0, .bool false, .bool false, .bool false, .int .i64 0, .int .i64 0] 34)).alloc (.cells #[.int .i64 3, .int .u64 9, .int .i64 1, .int .i64 4, .int .i64 0, .int .i64 0, .int .i64 0, .bool false, .bool false, .bool false, .int .i64 0, .int .i64 0] 36)).alloc (.cells #[.int .i64 3, .int .u64 9, .int .i64 1, .int .i64 4, .int .i64 0, .int .i64 0, .int .i64 0, .bool false, .bool false, .bool false, .int .i64 0, .int .i64 0] 36)) (w.heap.size + 1 + 1 + 1 + 1) 36 #[.int .i64 3, .int .u64 9, .int .i64 1, .int .i64 4, .int .i64 0, .int .i64 0, .int .i64 0, .bool false, .bool false, .bool false, .int .i64 0, .int .i64 0] := by
    have := Blk.new ((((w.alloc (.cells #[.int .i64 3, .int .u64 9, .int .i64 1, .int .i64 4, .int .i64 0, .int .i64 0, .int .i64 0, .bool false, .bool false, .bool false, .int .i64 0, .int .i64 0] 36)).alloc (.cells #[.int .i64 3, .int .u64 9, .int .i64 1, .int .i64 4, .int .i64 0, .int .i64 0, .int .i64 0, .bool false, .bool false, .bool false, .int .i64 0, .int .i64 0] 36)).alloc (.cells #[.int .i64 2, .int .u64 5, .int .i64 1, .int .i64 4, .int .i64 0, .int .i64 0, .int .i64 0, .bool false, .bool false, .bool false, .int .i64 0, .int .i64 0, .int .i64 3, .int .u64 5, .int .i64 1, .int .i64 4, .int .i64 0, .int .i64 0, .int .i64 0, .bool false, .bool false, .bool false, .int .i64 0, .int .i64 0] 34)).alloc (.cells #[.int .i64 3, .int .u64 9, .int .i64 1, .int .i64 4, .int .i64 0, .int .i64 0, .int .i64 0, .bool false, .bool false, .bool false, .int .i64 0, .int .i64 0] 36)) 36 #[.int .i64 3, .int .u64 9, .int .i64 1, .int .i64 4, .int .i64 0, .int .i64 0, .int .i64 0, .bool false, .bool false, .bool false, .int .i64 0, .int .i64 0]
    rw [World.size_alloc, World.size_alloc, World.size_alloc, World.size_alloc] at this
    exact this
  have hB : Below w.heap.size w (((((w.alloc (.cells #[.int .i64 3, .int .u64 9, .int .i64 1, .int .i64 4, .int .i64 0, .int .i64 0, .int .i64 0, .bool false, .bool false, .bool false, .int .i64 0, .int .i64 0] 36)).alloc (.cells #[.int .i64 3, .int .u64 9, .int .i64 1, .int .i64 4, .int .i64 0, .int .i64 0, .int .i64 0, .bool false, .bool false, .bool false, .int .i64 0, .int .i64 0] 36)).alloc (.cells #[.int .i64 2, .int .u64 5, .int .i64 1, .int .i64 4, .int .i64 0, .int .i64 0, .int .i64 0, .bool false, .bool false, .bool false, .int .i64 0, .int .i64 0, .int .i64 3, .int .u64 5, .int .i64 1, .int .i64 4, .int .i64 0, .int .i64 0, .int .i64 0, .bool false, .bool false, .bool false, .int .i64 0, .int .i64 0] 34)).alloc (.cells #[.int .i64 3, .int .u64 9, .int .i64 1, .int .i64 4, .int .i64 0, .int .i64 0, .int .i64 0, .bool false, .bool false, .bool false, .int .i64 0, .int .i64 0] 36)).alloc (.cells #[.int .i64 3, .int .u64 9, .int .i64 1, .int .i64 4, .int .i64 0, .int .i64 0, .int .i64 0, .bool false, .bool false, .bool false, .int .i64 0, .int .i64 0] 36)) :=
    (((((Below.refl _ _).alloc (Nat.le_refl _) _).alloc (by simp) _).alloc (by simp; omega) _).alloc (by simp; omega) _).alloc (by simp; omega) _
  generalize (((((w.alloc (.cells #[.int .i64 3, .int .u64 9, .int .i64 1, .int .i64 4, .int .i64 0, .int .i64 0, .int .i64 0, .bool false, .bool false, .bool false, .int .i64 0, .int .i64 0] 36)).alloc (.cells #[.int .i64 3, .int .u64 9, .int .i64 1, .int .i64 4, .int .i64 0, .int .i64 0, .int .i64 0, .bool false, .bool false, .bool false, .int .i64 0, .int .i64 0] 36)).alloc (.cells #[.int .i64 2, .int .u64 5, .int .i64 1, .int .i64 4, .int .i64 0, .int .i64 0, .int .i64 0, .bool false, .bool false, .bool false, .int .i64 0, .int .i64 0, .int .i64 3, .int .u64 5, .int .i64 1, .int .i64 4, .int .i64 0, .int .i64 0, .int .i64 0, .bool false, .bool false, .bool false, .int .i64 0, .int .i64 0] 34)).alloc (.cells #[.int .i64 3, .int .u64 9, .int .i64 1, .int .i64 4, .int .i64 0, .int .i64 0, .int .i64 0, .bool false, .bool false, .bool false, .int .i64 0, .int .i64 0] 36)).alloc (.cells #[.int .i64 3, .int .u64 9, .int .i64 1, .int .i64 4, .int .i64 0, .int .i64 0, .int .i64 0, .bool false, .bool false, .bool false, .int .i64 0, .int .i64 0] 36)) = W at *
  have eS : Ents W W.heap.size (some ⟨w.heap.size + 1 + 1, 0, none⟩) 2 exS := Ents.blk hS rfl hS.lt
  have eT : Ents W W.heap.size (some ⟨w.heap.size + 1 + 1 + 1 + 1, 0, none⟩) 1 exT := Ents.blk hT rfl hT.lt
  refine (wanted12 _ _ _ _ _ _ exS exT _ (by omega) (by omega) eS eT).mono ?_
  rintro v W1 ⟨v, rfl, hown, hb1⟩
  rw [exM, exChosen] at hown
  obtain ⟨g, cap, rfl⟩ := ownsRow_succ (k := 0) hown
  have eS1 : ∀ a b, Ents ((W1.alloc a).alloc b) ((W1.alloc a).alloc b).heap.size (some ⟨w.heap.size + 1 + 1, 0, none⟩) 2 exS := fun a b => ((eS.below hb1).below (((Below.refl _ _).alloc hb1.size a).alloc (by have := hb1.size; simp; omega) b)).more (by have := hb1.size; simp; omega)
  have hown1 : ∀ a b, ((W1.alloc a).alloc b).ownsRow W.heap.size 54 39 (.slice (some ⟨g, 0, none⟩) 1 cap) 1 [.int .i64 6, .int .u64 9, .int .i64 2, .string ⟨#[]⟩, .int .i64 0, .int .i64 0, .int .i64 0, .int .u64 0, .int .i64 0, .int .i64 0, .int .i64 0, .bool false, .int .i64 0, .int .i64 0, .string ⟨#[]⟩, .slice none 0 0, .int .u64 0, .int .i64 0, .int .i64 0, .int .i64 0, .int .i64 0, .slice none 0 0, .slice none 0 0, .slice none 0 0, .int .i64 0, .int .i64 0, .int .i64 0, .int .i64 0, .int .u64 0, .int .i64 0, .bool false, .bool false, .int .i64 0, .slice none 0 0, .int .i64 0, .int .i64 0, .slice none 0 0, .slice none 0 0, .slice none 0 0] := fun a b => (hown.alloc a).alloc b
  have hB1 : ∀ a b, Below w.heap.size w ((W1.alloc a).alloc b) := fun a b => ((hB.trans (hb1.mono hB.size)).alloc (Nat.le_trans hB.size hb1.size) a).alloc (by have := hB.size; have := hb1.size; simp; omega) b
  clear hS hT hB eS eT hb1 hown
  go_wp2_with (go_at_call 21; refine (entry21 _).mono ?_; rintro v w1 ⟨rfl, rfl⟩)
  have hT : ∀ a, Ents ((W1.alloc a).alloc (.cells #[.int .i64 3, .int .u64 9, .int .i64 1, .int .i64 4, .int .i64 0, .int .i64 0, .int .i64 0, .bool false, .bool false, .bool false, .int .i64 0, .int .i64 0] 36)) ((W1.alloc a).alloc (.cells #[.int .i64 3, .int .u64 9, .int .i64 1, .int .i64 4, .int .i64 0, .int .i64 0, .int .i64 0, .bool false, .bool false, .bool false, .int .i64 0, .int .i64 0] 36)).heap.size (some ⟨W1.heap.size + 1, 0, none⟩) 1 exT := fun a => by
    have := Blk.new (W1.alloc a) 36 #[.int .i64 3, .int .u64 9, .int .i64 1, .int .i64 4, .int .i64 0, .int .i64 0, .int .i64 0, .bool false, .bool false, .bool false, .int .i64 0, .int .i64 0]
    rw [World.size_alloc] at this
    exact Ents.blk this rfl this.lt
  refine (targets16 _ _ _ _ _ _ exS exT _ (by omega) (by omega) (eS1 _ _) (hT _)).mono ?_
  rintro v W2 ⟨v, rfl, hown2, hb2⟩
  rw [exTg, exChosen] at hown2
  obtain ⟨g2, cap2, rfl⟩ := ownsRow_succ (k := 0) hown2
  have hown3 := own_below (hown1 _ _) hb2
  have hB2 := (hB1 _ _).trans (hb2.mono (hB1 _ _).size)
  have c0 : W2.cell? ⟨g, 0, none⟩ = some (.int .i64 6) := hown3.cellAt 0 (by omega)
  have c1 : W2.cell? ⟨g, 1, none⟩ = some (.int .u64 9) := hown3.cellAt 1 (by omega)
  have c2 : W2.cell? ⟨g, 2, none⟩ = some (.int .i64 2) := hown3.cellAt 2 (by omega)
  have d0 : W2.cell? ⟨g2, 0, none⟩ = some (.int .i64 3) := hown2.cellAt 0 (by omega)
  clear hown1 hown2 hown3 eS1 hT hB1 hb2
  go_wp2_with fail
  go_ret
  exact ⟨rfl, hB2⟩
end Go.Proofs.Ytnlgkjnlfeeaoaa
