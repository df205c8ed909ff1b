/-
Contracts of the closures of numeric and named (but valid of named).
-/
import Derived.Test.YtoejjboanggenaaGreatDoorH
import Derived.Deep.DeepCutAuto
import Derived.Deep.RegionWith
namespace Go.Proofs.YtoejjboanggenaaGreatDoor
open Go.RowKit
set_option linter.unusedVariables false
set_option linter.unusedSimpArgs false

def fnv (f : Nat) : Value := .func (.func f) #[] #[]
theorem field38 (g : Nat) (w : World) : Calls Tryz.prog 38 #[.pointer (some ⟨g, 0, none⟩)] w fun e w' => e = .returned (.pointer (some ⟨g, 1, none⟩)) ∧ w' = w := by
  go_enter Tryz.func38, Tryz.ntmps38
  go_wp2
  go_ret
  exact ⟨rfl, rfl⟩
theorem field39 (g : Nat) (w : World) : Calls Tryz.prog 39 #[.pointer (some ⟨g, 0, none⟩)] w fun e w' => e = .returned (.pointer (some ⟨g, 2, none⟩)) ∧ w' = w := by
  go_enter Tryz.func39, Tryz.ntmps39
  go_wp2
  go_ret
  exact ⟨rfl, rfl⟩
theorem field41 (g : Nat) (w : World) : Calls Tryz.prog 41 #[.pointer (some ⟨g, 0, none⟩)] w fun e w' => e = .returned (.pointer (some ⟨g, 3, none⟩)) ∧ w' = w := by
  go_enter Tryz.func41, Tryz.ntmps41
  go_wp2
  go_ret
  exact ⟨rfl, rfl⟩
theorem field42 (g : Nat) (w : World) : Calls Tryz.prog 42 #[.pointer (some ⟨g, 0, none⟩)] w fun e w' => e = .returned (.pointer (some ⟨g, 4, none⟩)) ∧ w' = w := by
  go_enter Tryz.func42, Tryz.ntmps42
  go_wp2
  go_ret
  exact ⟨rfl, rfl⟩
set_option maxHeartbeats 2000000 in
theorem num58_38 (v : Av) (b0 b1 b2 : Nat) (lo hi : Int) (w : World) (h0 : Blk w b0 79 #[fnv 38]) (h1 : Blk w b1 3 #[.int .i64 lo]) (h2 : Blk w b2 3 #[.int .i64 hi]) :
    Calls Tryz.prog 58 #[.agg v.cells, .pointer (some ⟨b0, 0, none⟩), .pointer (some ⟨b1, 0, none⟩), .pointer (some ⟨b2, 0, none⟩)] w fun e w' => e = .returned (.bool (decide (lo ≤ v.a) && decide (v.a ≤ hi))) ∧ Below w.heap.size w w' := by
  unfold Av.cells
  have c0 : (w.alloc (.cells #[.int .i64 v.k, .int .i64 v.a, .int .i64 v.b, .string v.nm, .string v.mt, .slice v.A v.n v.c, .slice v.A2 v.n2 v.c2] 25)).cell? ⟨b0, 0, none⟩ = some (.func (.func 38) #[] #[]) := (h0.alloc _).cell 0
  have c1 : (w.alloc (.cells #[.int .i64 v.k, .int .i64 v.a, .int .i64 v.b, .string v.nm, .string v.mt, .slice v.A v.n v.c, .slice v.A2 v.n2 v.c2] 25)).cell? ⟨b1, 0, none⟩ = some (.int .i64 lo) := (h1.alloc _).cell 0
  have c2 : (w.alloc (.cells #[.int .i64 v.k, .int .i64 v.a, .int .i64 v.b, .string v.nm, .string v.mt, .slice v.A v.n v.c, .slice v.A2 v.n2 v.c2] 25)).cell? ⟨b2, 0, none⟩ = some (.int .i64 hi) := (h2.alloc _).cell 0
  have c3 : (w.alloc (.cells #[.int .i64 v.k, .int .i64 v.a, .int .i64 v.b, .string v.nm, .string v.mt, .slice v.A v.n v.c, .slice v.A2 v.n2 v.c2] 25)).cell? ⟨w.heap.size, 1, none⟩ = some (.int .i64 v.a) := (Blk.new w 25 _).cell 1
  have hbel : Below w.heap.size w (w.alloc (.cells #[.int .i64 v.k, .int .i64 v.a, .int .i64 v.b, .string v.nm, .string v.mt, .slice v.A v.n v.c, .slice v.A2 v.n2 v.c2] 25)) := (Below.refl _ _).alloc (Nat.le_refl _) _
  clear h0 h1 h2
  have HB := Lib.hid hbel
  clear hbel
  by_cases hlo : lo ≤ v.a
  · have d1 : decide (lo ≤ v.a) = true := by simpa using hlo
    by_cases hhi : v.a ≤ hi
    all_goals
      go_enter Tryz.func58, Tryz.ntmps58
      go_upto_region 1 with (fail)
      generalize w.alloc (.cells #[.int .i64 v.k, .int .i64 v.a, .int .i64 v.b, .string v.nm, .string v.mt, .slice v.A v.n v.c, .slice v.A2 v.n2 v.c2] 25) = W at *
      go_quiet ((go_at_call 38; exact Calls.quiet_of_same (field38 _ _)))
      go_wp2
      go_ret
      exact ⟨ret_bool (by simp [hlo, hhi]), below_drewN HB.out nq⟩
  · have d1 : decide (lo ≤ v.a) = false := by simpa using hlo
    go_enter Tryz.func58, Tryz.ntmps58
    go_upto_region 1 with (fail)
    generalize w.alloc (.cells #[.int .i64 v.k, .int .i64 v.a, .int .i64 v.b, .string v.nm, .string v.mt, .slice v.A v.n v.c, .slice v.A2 v.n2 v.c2] 25) = W at *
    go_quiet ((go_at_call 38; exact Calls.quiet_of_same (field38 _ _)))
    go_wp2
    go_ret
    exact ⟨ret_bool (by simp [hlo]), below_drewN HB.out nq⟩
theorem num59_38 (L : Nat) (cs : Array Value) (b0 : Nat) (w : World) (h0 : Blk w b0 79 #[fnv 38]) (hL : Blk w L 25 cs) (hx : 1 < cs.size) :
    Calls Tryz.prog 59 #[.pointer (some ⟨L, 0, none⟩), .pointer (some ⟨b0, 0, none⟩)] w fun e w' => e = .returned (.tuple #[]) ∧ w.setCell ⟨L, 1, none⟩ (.int .i64 0) = w' := by
  have c0 : w.cell? ⟨b0, 0, none⟩ = some (.func (.func 38) #[] #[]) := h0.cell 0
  obtain ⟨u, hu⟩ : ∃ u, w.cell? ⟨L, 1, none⟩ = some u := ⟨cs[1], by rw [hL.cell, Array.getElem?_eq_getElem hx]⟩
  have f0 := hL.frozen 1
  clear h0 hL hx
  go_enter Tryz.func59, Tryz.ntmps59
  go_wp2_with (go_at_call 38; refine (field38 _ _).mono ?_; rintro e w1 ⟨rfl, rfl⟩)
  go_end0
  exact ⟨rfl, rfl⟩
theorem num56_38 (v : Av) (b0 : Nat) (w : World) (hg : Gl w) (hx : I64 v.a) (h0 : Blk w b0 79 #[fnv 38]) :
    Calls Tryz.prog 56 #[.agg v.cells, .pointer (some ⟨b0, 0, none⟩)] w fun e w' => ∃ g, e = .returned (.slice (some ⟨g, 0, none⟩) 1 1) ∧ Strs w' w'.heap.size (some ⟨g, 0, none⟩) 1 [istr v.a] ∧ Below w.heap.size w w' := by
  unfold Av.cells
  have c0 : (w.alloc (.cells #[.int .i64 v.k, .int .i64 v.a, .int .i64 v.b, .string v.nm, .string v.mt, .slice v.A v.n v.c, .slice v.A2 v.n2 v.c2] 25)).cell? ⟨b0, 0, none⟩ = some (.func (.func 38) #[] #[]) := (h0.alloc _).cell 0
  have c3 : (w.alloc (.cells #[.int .i64 v.k, .int .i64 v.a, .int .i64 v.b, .string v.nm, .string v.mt, .slice v.A v.n v.c, .slice v.A2 v.n2 v.c2] 25)).cell? ⟨w.heap.size, 1, none⟩ = some (.int .i64 v.a) := (Blk.new w 25 _).cell 1
  have hbel : Below w.heap.size w (w.alloc (.cells #[.int .i64 v.k, .int .i64 v.a, .int .i64 v.b, .string v.nm, .string v.mt, .slice v.A v.n v.c, .slice v.A2 v.n2 v.c2] 25)) := (Below.refl _ _).alloc (Nat.le_refl _) _
  have HG := Lib.hid (hg.below hbel)
  have HX := Lib.hid hx
  have HB := Lib.hid hbel
  clear h0 hg hx hbel
  go_enter Tryz.func56, Tryz.ntmps56
  go_upto_region 1 with (fail)
  generalize w.alloc (.cells #[.int .i64 v.k, .int .i64 v.a, .int .i64 v.b, .string v.nm, .string v.mt, .slice v.A v.n v.c, .slice v.A2 v.n2 v.c2] 25) = W at *
  go_wp2_with (first
    | (go_at_call 38; refine (field38 _ _).mono ?_; rintro e w1 ⟨rfl, rfl⟩)
    | (go_at_call 57; refine (itoa10 _ _ HX.out HG.out).mono ?_; rintro e w2 ⟨rfl, b2⟩; have HB2 := Lib.hid (HB.out.trans (b2.mono HB.out.size)); clear b2))
  go_ret
  exact ⟨_, rfl, Strs.of_blk (ss := [istr v.a]) (Blk.new _ 9 _) (by simp), HB2.out.alloc HB2.out.size _⟩
set_option maxHeartbeats 2000000 in
theorem num58_39 (v : Av) (b0 b1 b2 : Nat) (lo hi : Int) (w : World) (h0 : Blk w b0 79 #[fnv 39]) (h1 : Blk w b1 3 #[.int .i64 lo]) (h2 : Blk w b2 3 #[.int .i64 hi]) :
    Calls Tryz.prog 58 #[.agg v.cells, .pointer (some ⟨b0, 0, none⟩), .pointer (some ⟨b1, 0, none⟩), .pointer (some ⟨b2, 0, none⟩)] w fun e w' => e = .returned (.bool (decide (lo ≤ v.b) && decide (v.b ≤ hi))) ∧ Below w.heap.size w w' := by
  unfold Av.cells
  have c0 : (w.alloc (.cells #[.int .i64 v.k, .int .i64 v.a, .int .i64 v.b, .string v.nm, .string v.mt, .slice v.A v.n v.c, .slice v.A2 v.n2 v.c2] 25)).cell? ⟨b0, 0, none⟩ = some (.func (.func 39) #[] #[]) := (h0.alloc _).cell 0
  have c1 : (w.alloc (.cells #[.int .i64 v.k, .int .i64 v.a, .int .i64 v.b, .string v.nm, .string v.mt, .slice v.A v.n v.c, .slice v.A2 v.n2 v.c2] 25)).cell? ⟨b1, 0, none⟩ = some (.int .i64 lo) := (h1.alloc _).cell 0
  have c2 : (w.alloc (.cells #[.int .i64 v.k, .int .i64 v.a, .int .i64 v.b, .string v.nm, .string v.mt, .slice v.A v.n v.c, .slice v.A2 v.n2 v.c2] 25)).cell? ⟨b2, 0, none⟩ = some (.int .i64 hi) := (h2.alloc _).cell 0
  have c3 : (w.alloc (.cells #[.int .i64 v.k, .int .i64 v.a, .int .i64 v.b, .string v.nm, .string v.mt, .slice v.A v.n v.c, .slice v.A2 v.n2 v.c2] 25)).cell? ⟨w.heap.size, 2, none⟩ = some (.int .i64 v.b) := (Blk.new w 25 _).cell 2
  have hbel : Below w.heap.size w (w.alloc (.cells #[.int .i64 v.k, .int .i64 v.a, .int .i64 v.b, .string v.nm, .string v.mt, .slice v.A v.n v.c, .slice v.A2 v.n2 v.c2] 25)) := (Below.refl _ _).alloc (Nat.le_refl _) _
  clear h0 h1 h2
  have HB := Lib.hid hbel
  clear hbel
  by_cases hlo : lo ≤ v.b
  · have d1 : decide (lo ≤ v.b) = true := by simpa using hlo
    by_cases hhi : v.b ≤ hi
    all_goals
      go_enter Tryz.func58, Tryz.ntmps58
      go_upto_region 1 with (fail)
      generalize w.alloc (.cells #[.int .i64 v.k, .int .i64 v.a, .int .i64 v.b, .string v.nm, .string v.mt, .slice v.A v.n v.c, .slice v.A2 v.n2 v.c2] 25) = W at *
      go_quiet ((go_at_call 39; exact Calls.quiet_of_same (field39 _ _)))
      go_wp2
      go_ret
      exact ⟨ret_bool (by simp [hlo, hhi]), below_drewN HB.out nq⟩
  · have d1 : decide (lo ≤ v.b) = false := by simpa using hlo
    go_enter Tryz.func58, Tryz.ntmps58
    go_upto_region 1 with (fail)
    generalize w.alloc (.cells #[.int .i64 v.k, .int .i64 v.a, .int .i64 v.b, .string v.nm, .string v.mt, .slice v.A v.n v.c, .slice v.A2 v.n2 v.c2] 25) = W at *
    go_quiet ((go_at_call 39; exact Calls.quiet_of_same (field39 _ _)))
    go_wp2
    go_ret
    exact ⟨ret_bool (by simp [hlo]), below_drewN HB.out nq⟩
theorem num59_39 (L : Nat) (cs : Array Value) (b0 : Nat) (w : World) (h0 : Blk w b0 79 #[fnv 39]) (hL : Blk w L 25 cs) (hx : 2 < cs.size) :
    Calls Tryz.prog 59 #[.pointer (some ⟨L, 0, none⟩), .pointer (some ⟨b0, 0, none⟩)] w fun e w' => e = .returned (.tuple #[]) ∧ w.setCell ⟨L, 2, none⟩ (.int .i64 0) = w' := by
  have c0 : w.cell? ⟨b0, 0, none⟩ = some (.func (.func 39) #[] #[]) := h0.cell 0
  obtain ⟨u, hu⟩ : ∃ u, w.cell? ⟨L, 2, none⟩ = some u := ⟨cs[2], by rw [hL.cell, Array.getElem?_eq_getElem hx]⟩
  have f0 := hL.frozen 2
  clear h0 hL hx
  go_enter Tryz.func59, Tryz.ntmps59
  go_wp2_with (go_at_call 39; refine (field39 _ _).mono ?_; rintro e w1 ⟨rfl, rfl⟩)
  go_end0
  exact ⟨rfl, rfl⟩
theorem num56_39 (v : Av) (b0 : Nat) (w : World) (hg : Gl w) (hx : I64 v.b) (h0 : Blk w b0 79 #[fnv 39]) :
    Calls Tryz.prog 56 #[.agg v.cells, .pointer (some ⟨b0, 0, none⟩)] w fun e w' => ∃ g, e = .returned (.slice (some ⟨g, 0, none⟩) 1 1) ∧ Strs w' w'.heap.size (some ⟨g, 0, none⟩) 1 [istr v.b] ∧ Below w.heap.size w w' := by
  unfold Av.cells
  have c0 : (w.alloc (.cells #[.int .i64 v.k, .int .i64 v.a, .int .i64 v.b, .string v.nm, .string v.mt, .slice v.A v.n v.c, .slice v.A2 v.n2 v.c2] 25)).cell? ⟨b0, 0, none⟩ = some (.func (.func 39) #[] #[]) := (h0.alloc _).cell 0
  have c3 : (w.alloc (.cells #[.int .i64 v.k, .int .i64 v.a, .int .i64 v.b, .string v.nm, .string v.mt, .slice v.A v.n v.c, .slice v.A2 v.n2 v.c2] 25)).cell? ⟨w.heap.size, 2, none⟩ = some (.int .i64 v.b) := (Blk.new w 25 _).cell 2
  have hbel : Below w.heap.size w (w.alloc (.cells #[.int .i64 v.k, .int .i64 v.a, .int .i64 v.b, .string v.nm, .string v.mt, .slice v.A v.n v.c, .slice v.A2 v.n2 v.c2] 25)) := (Below.refl _ _).alloc (Nat.le_refl _) _
  have HG := Lib.hid (hg.below hbel)
  have HX := Lib.hid hx
  have HB := Lib.hid hbel
  clear h0 hg hx hbel
  go_enter Tryz.func56, Tryz.ntmps56
  go_upto_region 1 with (fail)
  generalize w.alloc (.cells #[.int .i64 v.k, .int .i64 v.a, .int .i64 v.b, .string v.nm, .string v.mt, .slice v.A v.n v.c, .slice v.A2 v.n2 v.c2] 25) = W at *
  go_wp2_with (first
    | (go_at_call 39; refine (field39 _ _).mono ?_; rintro e w1 ⟨rfl, rfl⟩)
    | (go_at_call 57; refine (itoa10 _ _ HX.out HG.out).mono ?_; rintro e w2 ⟨rfl, b2⟩; have HB2 := Lib.hid (HB.out.trans (b2.mono HB.out.size)); clear b2))
  go_ret
  exact ⟨_, rfl, Strs.of_blk (ss := [istr v.b]) (Blk.new _ 9 _) (by simp), HB2.out.alloc HB2.out.size _⟩
theorem nam64_41 (L : Nat) (cs : Array Value) (b0 : Nat) (w : World) (h0 : Blk w b0 81 #[fnv 41]) (hL : Blk w L 25 cs) (hx : 3 < cs.size) :
    Calls Tryz.prog 64 #[.pointer (some ⟨L, 0, none⟩), .pointer (some ⟨b0, 0, none⟩)] w fun e w' => e = .returned (.tuple #[]) ∧ w.setCell ⟨L, 3, none⟩ (.string ⟨#[]⟩) = w' := by
  have c0 : w.cell? ⟨b0, 0, none⟩ = some (.func (.func 41) #[] #[]) := h0.cell 0
  obtain ⟨u, hu⟩ : ∃ u, w.cell? ⟨L, 3, none⟩ = some u := ⟨cs[3], by rw [hL.cell, Array.getElem?_eq_getElem hx]⟩
  have f0 := hL.frozen 3
  clear h0 hL hx
  go_enter Tryz.func64, Tryz.ntmps64
  go_wp2_with (go_at_call 41; refine (field41 _ _).mono ?_; rintro e w1 ⟨rfl, rfl⟩)
  go_end0
  exact ⟨rfl, rfl⟩
theorem nam61_41 (v : Av) (b0 : Nat) (w : World) (h0 : Blk w b0 81 #[fnv 41]) :
    Calls Tryz.prog 61 #[.agg v.cells, .pointer (some ⟨b0, 0, none⟩)] w fun e w' => ∃ g, e = .returned (.slice (some ⟨g, 0, none⟩) 1 1) ∧ Strs w' w'.heap.size (some ⟨g, 0, none⟩) 1 [v.nm] ∧ Below w.heap.size w w' := by
  unfold Av.cells
  have c0 : (w.alloc (.cells #[.int .i64 v.k, .int .i64 v.a, .int .i64 v.b, .string v.nm, .string v.mt, .slice v.A v.n v.c, .slice v.A2 v.n2 v.c2] 25)).cell? ⟨b0, 0, none⟩ = some (.func (.func 41) #[] #[]) := (h0.alloc _).cell 0
  have c3 : (w.alloc (.cells #[.int .i64 v.k, .int .i64 v.a, .int .i64 v.b, .string v.nm, .string v.mt, .slice v.A v.n v.c, .slice v.A2 v.n2 v.c2] 25)).cell? ⟨w.heap.size, 3, none⟩ = some (.string v.nm) := (Blk.new w 25 _).cell 3
  have hbel : Below w.heap.size w (w.alloc (.cells #[.int .i64 v.k, .int .i64 v.a, .int .i64 v.b, .string v.nm, .string v.mt, .slice v.A v.n v.c, .slice v.A2 v.n2 v.c2] 25)) := (Below.refl _ _).alloc (Nat.le_refl _) _
  have HB := Lib.hid hbel
  clear h0 hbel
  go_enter Tryz.func61, Tryz.ntmps61
  go_upto_region 1 with (fail)
  generalize w.alloc (.cells #[.int .i64 v.k, .int .i64 v.a, .int .i64 v.b, .string v.nm, .string v.mt, .slice v.A v.n v.c, .slice v.A2 v.n2 v.c2] 25) = W at *
  go_wp2_with (go_at_call 41; refine (field41 _ _).mono ?_; rintro e w1 ⟨rfl, rfl⟩)
  go_ret
  exact ⟨_, rfl, Strs.of_blk (ss := [v.nm]) (Blk.new _ 9 _) (by simp), HB.out.alloc HB.out.size _⟩
theorem nam64_42 (L : Nat) (cs : Array Value) (b0 : Nat) (w : World) (h0 : Blk w b0 81 #[fnv 42]) (hL : Blk w L 25 cs) (hx : 4 < cs.size) :
    Calls Tryz.prog 64 #[.pointer (some ⟨L, 0, none⟩), .pointer (some ⟨b0, 0, none⟩)] w fun e w' => e = .returned (.tuple #[]) ∧ w.setCell ⟨L, 4, none⟩ (.string ⟨#[]⟩) = w' := by
  have c0 : w.cell? ⟨b0, 0, none⟩ = some (.func (.func 42) #[] #[]) := h0.cell 0
  obtain ⟨u, hu⟩ : ∃ u, w.cell? ⟨L, 4, none⟩ = some u := ⟨cs[4], by rw [hL.cell, Array.getElem?_eq_getElem hx]⟩
  have f0 := hL.frozen 4
  clear h0 hL hx
  go_enter Tryz.func64, Tryz.ntmps64
  go_wp2_with (go_at_call 42; refine (field42 _ _).mono ?_; rintro e w1 ⟨rfl, rfl⟩)
  go_end0
  exact ⟨rfl, rfl⟩
theorem nam61_42 (v : Av) (b0 : Nat) (w : World) (h0 : Blk w b0 81 #[fnv 42]) :
    Calls Tryz.prog 61 #[.agg v.cells, .pointer (some ⟨b0, 0, none⟩)] w fun e w' => ∃ g, e = .returned (.slice (some ⟨g, 0, none⟩) 1 1) ∧ Strs w' w'.heap.size (some ⟨g, 0, none⟩) 1 [v.mt] ∧ Below w.heap.size w w' := by
  unfold Av.cells
  have c0 : (w.alloc (.cells #[.int .i64 v.k, .int .i64 v.a, .int .i64 v.b, .string v.nm, .string v.mt, .slice v.A v.n v.c, .slice v.A2 v.n2 v.c2] 25)).cell? ⟨b0, 0, none⟩ = some (.func (.func 42) #[] #[]) := (h0.alloc _).cell 0
  have c3 : (w.alloc (.cells #[.int .i64 v.k, .int .i64 v.a, .int .i64 v.b, .string v.nm, .string v.mt, .slice v.A v.n v.c, .slice v.A2 v.n2 v.c2] 25)).cell? ⟨w.heap.size, 4, none⟩ = some (.string v.mt) := (Blk.new w 25 _).cell 4
  have hbel : Below w.heap.size w (w.alloc (.cells #[.int .i64 v.k, .int .i64 v.a, .int .i64 v.b, .string v.nm, .string v.mt, .slice v.A v.n v.c, .slice v.A2 v.n2 v.c2] 25)) := (Below.refl _ _).alloc (Nat.le_refl _) _
  have HB := Lib.hid hbel
  clear h0 hbel
  go_enter Tryz.func61, Tryz.ntmps61
  go_upto_region 1 with (fail)
  generalize w.alloc (.cells #[.int .i64 v.k, .int .i64 v.a, .int .i64 v.b, .string v.nm, .string v.mt, .slice v.A v.n v.c, .slice v.A2 v.n2 v.c2] 25) = W at *
  go_wp2_with (go_at_call 42; refine (field42 _ _).mono ?_; rintro e w1 ⟨rfl, rfl⟩)
  go_ret
  exact ⟨_, rfl, Strs.of_blk (ss := [v.mt]) (Blk.new _ 9 _) (by simp), HB.out.alloc HB.out.size _⟩
end Go.Proofs.YtoejjboanggenaaGreatDoor
