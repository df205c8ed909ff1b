/-
Contracts: Variable, ClassName, ValidAct of the reference.
-/
import Derived.Test.YtoejjboanggenaaGreatDoorC
namespace Go.Proofs.YtoejjboanggenaaGreatDoor
open Go.RowKit
set_option linter.unusedVariables false

theorem bcell {W w1 : World} (hb : Below W.heap.size W w1) : (∀ b o, b < W.heap.size → w1.cell? ⟨b, o, none⟩ = W.cell? ⟨b, o, none⟩) ∧ (∀ b o, b < W.heap.size → w1.frozen? ⟨b, o, none⟩ = W.frozen? ⟨b, o, none⟩) :=
  ⟨fun b o h => hb.cell (p := ⟨b, o, none⟩) h, fun b o h => hb.frozen (p := ⟨b, o, none⟩) h⟩
def varB (s : ByteArray) : Bool := nameB s 97 122
def classB (s : ByteArray) : Bool := nameB s 65 90
theorem variable21 (s : ByteArray) (w : World) (hs : s.size ≤ 1000000) : Calls Tryz.prog 21 #[.string s] w fun e w' => e = .returned (.bool (varB s)) ∧ Below w.heap.size w w' := by
  go_enter Tryz.func21, Tryz.ntmps21
  go_wp2_with fail
  refine (name35 s 97 122 _ hs).mono ?_
  rintro e w1 ⟨rfl, b1⟩
  go_wp2
  go_ret
  exact ⟨rfl, b1⟩
theorem class22 (s : ByteArray) (w : World) (hs : s.size ≤ 1000000) : Calls Tryz.prog 22 #[.string s] w fun e w' => e = .returned (.bool (classB s)) ∧ Below w.heap.size w w' := by
  go_enter Tryz.func22, Tryz.ntmps22
  go_wp2_with fail
  refine (name35 s 65 90 _ hs).mono ?_
  rintro e w1 ⟨rfl, b1⟩
  go_wp2
  go_ret
  exact ⟨rfl, b1⟩

/-- what is asked of an act of each kind. -/
def validKB (k : Nat) (d : Ad) : Bool :=
  match k with
  | 0 => onlyB d true true false false false false && machineB d.a && countB d.b
  | 1 => onlyB d true false false false false false && countB d.a
  | 2 => onlyB d true false false false false false && countB d.a
  | 3 => onlyB d true false false false false false && countB d.a
  | 4 => onlyB d true false false false false false && machineB d.a
  | 5 => onlyB d true false false false false false && machineB d.a
  | 6 => onlyB d true false false false false false && machineB d.a
  | 7 => d.surv.all countB && (onlyB d true false false false false true && machineB d.a && decide (d.surv.length ≤ 20))
  | 8 => onlyB d true false false false false false && machineB d.a
  | 9 => onlyB d true false false false false false && machineB d.a
  | 10 => onlyB d true true false false false false && machineB d.a && countB d.b
  | 11 => onlyB d true false true true true false && machineB d.a && varB d.nm && classB d.mt && (rangeB d.args && decide ((d.args.length : Int) ≤ 30))
  | 12 => onlyB d false false true true true false && varB d.nm && varB d.mt && (rangeB d.args && decide ((d.args.length : Int) ≤ 8))
  | 13 => onlyB d false false true false false false && varB d.nm
  | 14 => onlyB d true true false false false false && machineB d.a && machineB d.b
  | 15 => onlyB d false true false false false false && decide (0 ≤ d.b) && decide (d.b ≤ 1000)
  | _ => false
def validB (d : Ad) : Bool := decide (0 ≤ d.k) && validKB d.k.toNat d
set_option maxRecDepth 100000 in
set_option maxHeartbeats 4000000 in
theorem valid9_0 (v : Av) (d : Ad) (w : World) (h : Reads w w.heap.size v d) (hn : v.n ≤ 1000000) (hn2 : v.n2 ≤ 1000000) (hnm : v.nm.size ≤ 1000000) (hmt : v.mt.size ≤ 1000000) (hk : v.k = 0) :
    Calls Tryz.prog 9 #[.agg v.cells] w fun e w' => e = .returned (.bool (validKB 0 d)) ∧ Below w.heap.size w w' := by
  obtain ⟨k, a, b, nm, mt, zs, ys⟩ := d
  obtain ⟨k', a', b', nm', mt', A, n, c, A2, n2, c2⟩ := v
  obtain ⟨h1, h2, h3, h4, h5, ha, hs⟩ := h
  dsimp only at h1 h2 h3 h4 h5 ha hs hn hn2 hnm hmt hk
  subst h1 h2 h3 h4 h5 hk
  unfold Av.cells
  dsimp only
  have hbel : Below w.heap.size w (w.alloc (.cells #[.int .i64 0, .int .i64 a', .int .i64 b', .string nm', .string mt', .slice A n c, .slice A2 n2 c2] 25)) := (Below.refl _ _).alloc (Nat.le_refl _) _
  have hR : Reads (w.alloc (.cells #[.int .i64 0, .int .i64 a', .int .i64 b', .string nm', .string mt', .slice A n c, .slice A2 n2 c2] 25)) w.heap.size ⟨0, a', b', nm', mt', A, n, c, A2, n2, c2⟩ ⟨0, a', b', nm', mt', zs, ys⟩ := ⟨rfl, rfl, rfl, rfl, rfl, ha.below hbel, hs.below hbel⟩
  have HR := Lib.hid hR
  have HB := Lib.hid hbel
  have HA := Lib.hid (And.intro ha hs)
  clear ha hs hR hbel
  go_enter Tryz.func9, Tryz.ntmps9
  go_wp2_with (first
      | (go_at_call 18
         refine (only18 _ _ w.heap.size _ _ _ _ _ _ _ HR.out (by simp [FlagsOk])).mono ?_
         rintro e w1 ⟨rfl, hb1⟩
         obtain ⟨hc1, hf1⟩ := bcell hb1
         have hz1 : w.heap.size < w1.heap.size := by have := hb1.size; simp at this; omega
         have HB1 := Lib.hid (HB.out.trans (hb1.mono HB.out.size))
         clear hb1)
      | (go_at_call 19; refine (machine19 _ _).mono ?_; rintro e w2 ⟨rfl, rfl⟩)
      | (go_at_call 20; refine (count20 _ _).mono ?_; rintro e w2 ⟨rfl, rfl⟩)
      | (go_at_call 21
         refine (variable21 _ _ (by assumption)).mono ?_
         rintro e w1 ⟨rfl, hb2⟩
         obtain ⟨hc2, hf2⟩ := bcell hb2
         have hz2 : w.heap.size < w1.heap.size := by have := hb2.size; omega
         have HB1 := Lib.hid (HB1.out.trans (hb2.mono HB1.out.size))
         clear hb2)
      | (go_at_call 22
         refine (class22 _ _ (by assumption)).mono ?_
         rintro e w1 ⟨rfl, hb2⟩
         obtain ⟨hc2, hf2⟩ := bcell hb2
         have hz2 : w.heap.size < w1.heap.size := by have := hb2.size; omega
         have HB1 := Lib.hid (HB1.out.trans (hb2.mono HB1.out.size))
         clear hb2)
      | (go_at_call 23
         refine (args23 _ _ _ zs _ w.heap.size _ (HA.out.1.below HB1.out) hn).mono ?_
         rintro e w2 ⟨rfl, rfl⟩))
  all_goals
    go_ret
    refine ⟨ret_bool ?_, HB1.out⟩
    simp_all [validKB]
set_option maxRecDepth 100000 in
set_option maxHeartbeats 4000000 in
theorem valid9_1 (v : Av) (d : Ad) (w : World) (h : Reads w w.heap.size v d) (hn : v.n ≤ 1000000) (hn2 : v.n2 ≤ 1000000) (hnm : v.nm.size ≤ 1000000) (hmt : v.mt.size ≤ 1000000) (hk : v.k = 1) :
    Calls Tryz.prog 9 #[.agg v.cells] w fun e w' => e = .returned (.bool (validKB 1 d)) ∧ Below w.heap.size w w' := by
  obtain ⟨k, a, b, nm, mt, zs, ys⟩ := d
  obtain ⟨k', a', b', nm', mt', A, n, c, A2, n2, c2⟩ := v
  obtain ⟨h1, h2, h3, h4, h5, ha, hs⟩ := h
  dsimp only at h1 h2 h3 h4 h5 ha hs hn hn2 hnm hmt hk
  subst h1 h2 h3 h4 h5 hk
  unfold Av.cells
  dsimp only
  have hbel : Below w.heap.size w (w.alloc (.cells #[.int .i64 1, .int .i64 a', .int .i64 b', .string nm', .string mt', .slice A n c, .slice A2 n2 c2] 25)) := (Below.refl _ _).alloc (Nat.le_refl _) _
  have hR : Reads (w.alloc (.cells #[.int .i64 1, .int .i64 a', .int .i64 b', .string nm', .string mt', .slice A n c, .slice A2 n2 c2] 25)) w.heap.size ⟨1, a', b', nm', mt', A, n, c, A2, n2, c2⟩ ⟨1, a', b', nm', mt', zs, ys⟩ := ⟨rfl, rfl, rfl, rfl, rfl, ha.below hbel, hs.below hbel⟩
  have HR := Lib.hid hR
  have HB := Lib.hid hbel
  have HA := Lib.hid (And.intro ha hs)
  clear ha hs hR hbel
  go_enter Tryz.func9, Tryz.ntmps9
  go_wp2_with (first
      | (go_at_call 18
         refine (only18 _ _ w.heap.size _ _ _ _ _ _ _ HR.out (by simp [FlagsOk])).mono ?_
         rintro e w1 ⟨rfl, hb1⟩
         obtain ⟨hc1, hf1⟩ := bcell hb1
         have hz1 : w.heap.size < w1.heap.size := by have := hb1.size; simp at this; omega
         have HB1 := Lib.hid (HB.out.trans (hb1.mono HB.out.size))
         clear hb1)
      | (go_at_call 19; refine (machine19 _ _).mono ?_; rintro e w2 ⟨rfl, rfl⟩)
      | (go_at_call 20; refine (count20 _ _).mono ?_; rintro e w2 ⟨rfl, rfl⟩)
      | (go_at_call 21
         refine (variable21 _ _ (by assumption)).mono ?_
         rintro e w1 ⟨rfl, hb2⟩
         obtain ⟨hc2, hf2⟩ := bcell hb2
         have hz2 : w.heap.size < w1.heap.size := by have := hb2.size; omega
         have HB1 := Lib.hid (HB1.out.trans (hb2.mono HB1.out.size))
         clear hb2)
      | (go_at_call 22
         refine (class22 _ _ (by assumption)).mono ?_
         rintro e w1 ⟨rfl, hb2⟩
         obtain ⟨hc2, hf2⟩ := bcell hb2
         have hz2 : w.heap.size < w1.heap.size := by have := hb2.size; omega
         have HB1 := Lib.hid (HB1.out.trans (hb2.mono HB1.out.size))
         clear hb2)
      | (go_at_call 23
         refine (args23 _ _ _ zs _ w.heap.size _ (HA.out.1.below HB1.out) hn).mono ?_
         rintro e w2 ⟨rfl, rfl⟩))
  all_goals
    go_ret
    refine ⟨ret_bool ?_, HB1.out⟩
    simp_all [validKB]
set_option maxRecDepth 100000 in
set_option maxHeartbeats 4000000 in
theorem valid9_2 (v : Av) (d : Ad) (w : World) (h : Reads w w.heap.size v d) (hn : v.n ≤ 1000000) (hn2 : v.n2 ≤ 1000000) (hnm : v.nm.size ≤ 1000000) (hmt : v.mt.size ≤ 1000000) (hk : v.k = 2) :
    Calls Tryz.prog 9 #[.agg v.cells] w fun e w' => e = .returned (.bool (validKB 2 d)) ∧ Below w.heap.size w w' := by
  obtain ⟨k, a, b, nm, mt, zs, ys⟩ := d
  obtain ⟨k', a', b', nm', mt', A, n, c, A2, n2, c2⟩ := v
  obtain ⟨h1, h2, h3, h4, h5, ha, hs⟩ := h
  dsimp only at h1 h2 h3 h4 h5 ha hs hn hn2 hnm hmt hk
  subst h1 h2 h3 h4 h5 hk
  unfold Av.cells
  dsimp only
  have hbel : Below w.heap.size w (w.alloc (.cells #[.int .i64 2, .int .i64 a', .int .i64 b', .string nm', .string mt', .slice A n c, .slice A2 n2 c2] 25)) := (Below.refl _ _).alloc (Nat.le_refl _) _
  have hR : Reads (w.alloc (.cells #[.int .i64 2, .int .i64 a', .int .i64 b', .string nm', .string mt', .slice A n c, .slice A2 n2 c2] 25)) w.heap.size ⟨2, a', b', nm', mt', A, n, c, A2, n2, c2⟩ ⟨2, a', b', nm', mt', zs, ys⟩ := ⟨rfl, rfl, rfl, rfl, rfl, ha.below hbel, hs.below hbel⟩
  have HR := Lib.hid hR
  have HB := Lib.hid hbel
  have HA := Lib.hid (And.intro ha hs)
  clear ha hs hR hbel
  go_enter Tryz.func9, Tryz.ntmps9
  go_wp2_with (first
      | (go_at_call 18
         refine (only18 _ _ w.heap.size _ _ _ _ _ _ _ HR.out (by simp [FlagsOk])).mono ?_
         rintro e w1 ⟨rfl, hb1⟩
         obtain ⟨hc1, hf1⟩ := bcell hb1
         have hz1 : w.heap.size < w1.heap.size := by have := hb1.size; simp at this; omega
         have HB1 := Lib.hid (HB.out.trans (hb1.mono HB.out.size))
         clear hb1)
      | (go_at_call 19; refine (machine19 _ _).mono ?_; rintro e w2 ⟨rfl, rfl⟩)
      | (go_at_call 20; refine (count20 _ _).mono ?_; rintro e w2 ⟨rfl, rfl⟩)
      | (go_at_call 21
         refine (variable21 _ _ (by assumption)).mono ?_
         rintro e w1 ⟨rfl, hb2⟩
         obtain ⟨hc2, hf2⟩ := bcell hb2
         have hz2 : w.heap.size < w1.heap.size := by have := hb2.size; omega
         have HB1 := Lib.hid (HB1.out.trans (hb2.mono HB1.out.size))
         clear hb2)
      | (go_at_call 22
         refine (class22 _ _ (by assumption)).mono ?_
         rintro e w1 ⟨rfl, hb2⟩
         obtain ⟨hc2, hf2⟩ := bcell hb2
         have hz2 : w.heap.size < w1.heap.size := by have := hb2.size; omega
         have HB1 := Lib.hid (HB1.out.trans (hb2.mono HB1.out.size))
         clear hb2)
      | (go_at_call 23
         refine (args23 _ _ _ zs _ w.heap.size _ (HA.out.1.below HB1.out) hn).mono ?_
         rintro e w2 ⟨rfl, rfl⟩))
  all_goals
    go_ret
    refine ⟨ret_bool ?_, HB1.out⟩
    simp_all [validKB]
set_option maxRecDepth 100000 in
set_option maxHeartbeats 4000000 in
theorem valid9_3 (v : Av) (d : Ad) (w : World) (h : Reads w w.heap.size v d) (hn : v.n ≤ 1000000) (hn2 : v.n2 ≤ 1000000) (hnm : v.nm.size ≤ 1000000) (hmt : v.mt.size ≤ 1000000) (hk : v.k = 3) :
    Calls Tryz.prog 9 #[.agg v.cells] w fun e w' => e = .returned (.bool (validKB 3 d)) ∧ Below w.heap.size w w' := by
  obtain ⟨k, a, b, nm, mt, zs, ys⟩ := d
  obtain ⟨k', a', b', nm', mt', A, n, c, A2, n2, c2⟩ := v
  obtain ⟨h1, h2, h3, h4, h5, ha, hs⟩ := h
  dsimp only at h1 h2 h3 h4 h5 ha hs hn hn2 hnm hmt hk
  subst h1 h2 h3 h4 h5 hk
  unfold Av.cells
  dsimp only
  have hbel : Below w.heap.size w (w.alloc (.cells #[.int .i64 3, .int .i64 a', .int .i64 b', .string nm', .string mt', .slice A n c, .slice A2 n2 c2] 25)) := (Below.refl _ _).alloc (Nat.le_refl _) _
  have hR : Reads (w.alloc (.cells #[.int .i64 3, .int .i64 a', .int .i64 b', .string nm', .string mt', .slice A n c, .slice A2 n2 c2] 25)) w.heap.size ⟨3, a', b', nm', mt', A, n, c, A2, n2, c2⟩ ⟨3, a', b', nm', mt', zs, ys⟩ := ⟨rfl, rfl, rfl, rfl, rfl, ha.below hbel, hs.below hbel⟩
  have HR := Lib.hid hR
  have HB := Lib.hid hbel
  have HA := Lib.hid (And.intro ha hs)
  clear ha hs hR hbel
  go_enter Tryz.func9, Tryz.ntmps9
  go_wp2_with (first
      | (go_at_call 18
         refine (only18 _ _ w.heap.size _ _ _ _ _ _ _ HR.out (by simp [FlagsOk])).mono ?_
         rintro e w1 ⟨rfl, hb1⟩
         obtain ⟨hc1, hf1⟩ := bcell hb1
         have hz1 : w.heap.size < w1.heap.size := by have := hb1.size; simp at this; omega
         have HB1 := Lib.hid (HB.out.trans (hb1.mono HB.out.size))
         clear hb1)
      | (go_at_call 19; refine (machine19 _ _).mono ?_; rintro e w2 ⟨rfl, rfl⟩)
      | (go_at_call 20; refine (count20 _ _).mono ?_; rintro e w2 ⟨rfl, rfl⟩)
      | (go_at_call 21
         refine (variable21 _ _ (by assumption)).mono ?_
         rintro e w1 ⟨rfl, hb2⟩
         obtain ⟨hc2, hf2⟩ := bcell hb2
         have hz2 : w.heap.size < w1.heap.size := by have := hb2.size; omega
         have HB1 := Lib.hid (HB1.out.trans (hb2.mono HB1.out.size))
         clear hb2)
      | (go_at_call 22
         refine (class22 _ _ (by assumption)).mono ?_
         rintro e w1 ⟨rfl, hb2⟩
         obtain ⟨hc2, hf2⟩ := bcell hb2
         have hz2 : w.heap.size < w1.heap.size := by have := hb2.size; omega
         have HB1 := Lib.hid (HB1.out.trans (hb2.mono HB1.out.size))
         clear hb2)
      | (go_at_call 23
         refine (args23 _ _ _ zs _ w.heap.size _ (HA.out.1.below HB1.out) hn).mono ?_
         rintro e w2 ⟨rfl, rfl⟩))
  all_goals
    go_ret
    refine ⟨ret_bool ?_, HB1.out⟩
    simp_all [validKB]
set_option maxRecDepth 100000 in
set_option maxHeartbeats 4000000 in
theorem valid9_4 (v : Av) (d : Ad) (w : World) (h : Reads w w.heap.size v d) (hn : v.n ≤ 1000000) (hn2 : v.n2 ≤ 1000000) (hnm : v.nm.size ≤ 1000000) (hmt : v.mt.size ≤ 1000000) (hk : v.k = 4) :
    Calls Tryz.prog 9 #[.agg v.cells] w fun e w' => e = .returned (.bool (validKB 4 d)) ∧ Below w.heap.size w w' := by
  obtain ⟨k, a, b, nm, mt, zs, ys⟩ := d
  obtain ⟨k', a', b', nm', mt', A, n, c, A2, n2, c2⟩ := v
  obtain ⟨h1, h2, h3, h4, h5, ha, hs⟩ := h
  dsimp only at h1 h2 h3 h4 h5 ha hs hn hn2 hnm hmt hk
  subst h1 h2 h3 h4 h5 hk
  unfold Av.cells
  dsimp only
  have hbel : Below w.heap.size w (w.alloc (.cells #[.int .i64 4, .int .i64 a', .int .i64 b', .string nm', .string mt', .slice A n c, .slice A2 n2 c2] 25)) := (Below.refl _ _).alloc (Nat.le_refl _) _
  have hR : Reads (w.alloc (.cells #[.int .i64 4, .int .i64 a', .int .i64 b', .string nm', .string mt', .slice A n c, .slice A2 n2 c2] 25)) w.heap.size ⟨4, a', b', nm', mt', A, n, c, A2, n2, c2⟩ ⟨4, a', b', nm', mt', zs, ys⟩ := ⟨rfl, rfl, rfl, rfl, rfl, ha.below hbel, hs.below hbel⟩
  have HR := Lib.hid hR
  have HB := Lib.hid hbel
  have HA := Lib.hid (And.intro ha hs)
  clear ha hs hR hbel
  go_enter Tryz.func9, Tryz.ntmps9
  go_wp2_with (first
      | (go_at_call 18
         refine (only18 _ _ w.heap.size _ _ _ _ _ _ _ HR.out (by simp [FlagsOk])).mono ?_
         rintro e w1 ⟨rfl, hb1⟩
         obtain ⟨hc1, hf1⟩ := bcell hb1
         have hz1 : w.heap.size < w1.heap.size := by have := hb1.size; simp at this; omega
         have HB1 := Lib.hid (HB.out.trans (hb1.mono HB.out.size))
         clear hb1)
      | (go_at_call 19; refine (machine19 _ _).mono ?_; rintro e w2 ⟨rfl, rfl⟩)
      | (go_at_call 20; refine (count20 _ _).mono ?_; rintro e w2 ⟨rfl, rfl⟩)
      | (go_at_call 21
         refine (variable21 _ _ (by assumption)).mono ?_
         rintro e w1 ⟨rfl, hb2⟩
         obtain ⟨hc2, hf2⟩ := bcell hb2
         have hz2 : w.heap.size < w1.heap.size := by have := hb2.size; omega
         have HB1 := Lib.hid (HB1.out.trans (hb2.mono HB1.out.size))
         clear hb2)
      | (go_at_call 22
         refine (class22 _ _ (by assumption)).mono ?_
         rintro e w1 ⟨rfl, hb2⟩
         obtain ⟨hc2, hf2⟩ := bcell hb2
         have hz2 : w.heap.size < w1.heap.size := by have := hb2.size; omega
         have HB1 := Lib.hid (HB1.out.trans (hb2.mono HB1.out.size))
         clear hb2)
      | (go_at_call 23
         refine (args23 _ _ _ zs _ w.heap.size _ (HA.out.1.below HB1.out) hn).mono ?_
         rintro e w2 ⟨rfl, rfl⟩))
  all_goals
    go_ret
    refine ⟨ret_bool ?_, HB1.out⟩
    simp_all [validKB]
set_option maxRecDepth 100000 in
set_option maxHeartbeats 4000000 in
theorem valid9_5 (v : Av) (d : Ad) (w : World) (h : Reads w w.heap.size v d) (hn : v.n ≤ 1000000) (hn2 : v.n2 ≤ 1000000) (hnm : v.nm.size ≤ 1000000) (hmt : v.mt.size ≤ 1000000) (hk : v.k = 5) :
    Calls Tryz.prog 9 #[.agg v.cells] w fun e w' => e = .returned (.bool (validKB 5 d)) ∧ Below w.heap.size w w' := by
  obtain ⟨k, a, b, nm, mt, zs, ys⟩ := d
  obtain ⟨k', a', b', nm', mt', A, n, c, A2, n2, c2⟩ := v
  obtain ⟨h1, h2, h3, h4, h5, ha, hs⟩ := h
  dsimp only at h1 h2 h3 h4 h5 ha hs hn hn2 hnm hmt hk
  subst h1 h2 h3 h4 h5 hk
  unfold Av.cells
  dsimp only
  have hbel : Below w.heap.size w (w.alloc (.cells #[.int .i64 5, .int .i64 a', .int .i64 b', .string nm', .string mt', .slice A n c, .slice A2 n2 c2] 25)) := (Below.refl _ _).alloc (Nat.le_refl _) _
  have hR : Reads (w.alloc (.cells #[.int .i64 5, .int .i64 a', .int .i64 b', .string nm', .string mt', .slice A n c, .slice A2 n2 c2] 25)) w.heap.size ⟨5, a', b', nm', mt', A, n, c, A2, n2, c2⟩ ⟨5, a', b', nm', mt', zs, ys⟩ := ⟨rfl, rfl, rfl, rfl, rfl, ha.below hbel, hs.below hbel⟩
  have HR := Lib.hid hR
  have HB := Lib.hid hbel
  have HA := Lib.hid (And.intro ha hs)
  clear ha hs hR hbel
  go_enter Tryz.func9, Tryz.ntmps9
  go_wp2_with (first
      | (go_at_call 18
         refine (only18 _ _ w.heap.size _ _ _ _ _ _ _ HR.out (by simp [FlagsOk])).mono ?_
         rintro e w1 ⟨rfl, hb1⟩
         obtain ⟨hc1, hf1⟩ := bcell hb1
         have hz1 : w.heap.size < w1.heap.size := by have := hb1.size; simp at this; omega
         have HB1 := Lib.hid (HB.out.trans (hb1.mono HB.out.size))
         clear hb1)
      | (go_at_call 19; refine (machine19 _ _).mono ?_; rintro e w2 ⟨rfl, rfl⟩)
      | (go_at_call 20; refine (count20 _ _).mono ?_; rintro e w2 ⟨rfl, rfl⟩)
      | (go_at_call 21
         refine (variable21 _ _ (by assumption)).mono ?_
         rintro e w1 ⟨rfl, hb2⟩
         obtain ⟨hc2, hf2⟩ := bcell hb2
         have hz2 : w.heap.size < w1.heap.size := by have := hb2.size; omega
         have HB1 := Lib.hid (HB1.out.trans (hb2.mono HB1.out.size))
         clear hb2)
      | (go_at_call 22
         refine (class22 _ _ (by assumption)).mono ?_
         rintro e w1 ⟨rfl, hb2⟩
         obtain ⟨hc2, hf2⟩ := bcell hb2
         have hz2 : w.heap.size < w1.heap.size := by have := hb2.size; omega
         have HB1 := Lib.hid (HB1.out.trans (hb2.mono HB1.out.size))
         clear hb2)
      | (go_at_call 23
         refine (args23 _ _ _ zs _ w.heap.size _ (HA.out.1.below HB1.out) hn).mono ?_
         rintro e w2 ⟨rfl, rfl⟩))
  all_goals
    go_ret
    refine ⟨ret_bool ?_, HB1.out⟩
    simp_all [validKB]
set_option maxRecDepth 100000 in
set_option maxHeartbeats 4000000 in
theorem valid9_6 (v : Av) (d : Ad) (w : World) (h : Reads w w.heap.size v d) (hn : v.n ≤ 1000000) (hn2 : v.n2 ≤ 1000000) (hnm : v.nm.size ≤ 1000000) (hmt : v.mt.size ≤ 1000000) (hk : v.k = 6) :
    Calls Tryz.prog 9 #[.agg v.cells] w fun e w' => e = .returned (.bool (validKB 6 d)) ∧ Below w.heap.size w w' := by
  obtain ⟨k, a, b, nm, mt, zs, ys⟩ := d
  obtain ⟨k', a', b', nm', mt', A, n, c, A2, n2, c2⟩ := v
  obtain ⟨h1, h2, h3, h4, h5, ha, hs⟩ := h
  dsimp only at h1 h2 h3 h4 h5 ha hs hn hn2 hnm hmt hk
  subst h1 h2 h3 h4 h5 hk
  unfold Av.cells
  dsimp only
  have hbel : Below w.heap.size w (w.alloc (.cells #[.int .i64 6, .int .i64 a', .int .i64 b', .string nm', .string mt', .slice A n c, .slice A2 n2 c2] 25)) := (Below.refl _ _).alloc (Nat.le_refl _) _
  have hR : Reads (w.alloc (.cells #[.int .i64 6, .int .i64 a', .int .i64 b', .string nm', .string mt', .slice A n c, .slice A2 n2 c2] 25)) w.heap.size ⟨6, a', b', nm', mt', A, n, c, A2, n2, c2⟩ ⟨6, a', b', nm', mt', zs, ys⟩ := ⟨rfl, rfl, rfl, rfl, rfl, ha.below hbel, hs.below hbel⟩
  have HR := Lib.hid hR
  have HB := Lib.hid hbel
  have HA := Lib.hid (And.intro ha hs)
  clear ha hs hR hbel
  go_enter Tryz.func9, Tryz.ntmps9
  go_wp2_with (first
      | (go_at_call 18
         refine (only18 _ _ w.heap.size _ _ _ _ _ _ _ HR.out (by simp [FlagsOk])).mono ?_
         rintro e w1 ⟨rfl, hb1⟩
         obtain ⟨hc1, hf1⟩ := bcell hb1
         have hz1 : w.heap.size < w1.heap.size := by have := hb1.size; simp at this; omega
         have HB1 := Lib.hid (HB.out.trans (hb1.mono HB.out.size))
         clear hb1)
      | (go_at_call 19; refine (machine19 _ _).mono ?_; rintro e w2 ⟨rfl, rfl⟩)
      | (go_at_call 20; refine (count20 _ _).mono ?_; rintro e w2 ⟨rfl, rfl⟩)
      | (go_at_call 21
         refine (variable21 _ _ (by assumption)).mono ?_
         rintro e w1 ⟨rfl, hb2⟩
         obtain ⟨hc2, hf2⟩ := bcell hb2
         have hz2 : w.heap.size < w1.heap.size := by have := hb2.size; omega
         have HB1 := Lib.hid (HB1.out.trans (hb2.mono HB1.out.size))
         clear hb2)
      | (go_at_call 22
         refine (class22 _ _ (by assumption)).mono ?_
         rintro e w1 ⟨rfl, hb2⟩
         obtain ⟨hc2, hf2⟩ := bcell hb2
         have hz2 : w.heap.size < w1.heap.size := by have := hb2.size; omega
         have HB1 := Lib.hid (HB1.out.trans (hb2.mono HB1.out.size))
         clear hb2)
      | (go_at_call 23
         refine (args23 _ _ _ zs _ w.heap.size _ (HA.out.1.below HB1.out) hn).mono ?_
         rintro e w2 ⟨rfl, rfl⟩))
  all_goals
    go_ret
    refine ⟨ret_bool ?_, HB1.out⟩
    simp_all [validKB]
set_option maxRecDepth 100000 in
set_option maxHeartbeats 4000000 in
theorem valid9_8 (v : Av) (d : Ad) (w : World) (h : Reads w w.heap.size v d) (hn : v.n ≤ 1000000) (hn2 : v.n2 ≤ 1000000) (hnm : v.nm.size ≤ 1000000) (hmt : v.mt.size ≤ 1000000) (hk : v.k = 8) :
    Calls Tryz.prog 9 #[.agg v.cells] w fun e w' => e = .returned (.bool (validKB 8 d)) ∧ Below w.heap.size w w' := by
  obtain ⟨k, a, b, nm, mt, zs, ys⟩ := d
  obtain ⟨k', a', b', nm', mt', A, n, c, A2, n2, c2⟩ := v
  obtain ⟨h1, h2, h3, h4, h5, ha, hs⟩ := h
  dsimp only at h1 h2 h3 h4 h5 ha hs hn hn2 hnm hmt hk
  subst h1 h2 h3 h4 h5 hk
  unfold Av.cells
  dsimp only
  have hbel : Below w.heap.size w (w.alloc (.cells #[.int .i64 8, .int .i64 a', .int .i64 b', .string nm', .string mt', .slice A n c, .slice A2 n2 c2] 25)) := (Below.refl _ _).alloc (Nat.le_refl _) _
  have hR : Reads (w.alloc (.cells #[.int .i64 8, .int .i64 a', .int .i64 b', .string nm', .string mt', .slice A n c, .slice A2 n2 c2] 25)) w.heap.size ⟨8, a', b', nm', mt', A, n, c, A2, n2, c2⟩ ⟨8, a', b', nm', mt', zs, ys⟩ := ⟨rfl, rfl, rfl, rfl, rfl, ha.below hbel, hs.below hbel⟩
  have HR := Lib.hid hR
  have HB := Lib.hid hbel
  have HA := Lib.hid (And.intro ha hs)
  clear ha hs hR hbel
  go_enter Tryz.func9, Tryz.ntmps9
  go_wp2_with (first
      | (go_at_call 18
         refine (only18 _ _ w.heap.size _ _ _ _ _ _ _ HR.out (by simp [FlagsOk])).mono ?_
         rintro e w1 ⟨rfl, hb1⟩
         obtain ⟨hc1, hf1⟩ := bcell hb1
         have hz1 : w.heap.size < w1.heap.size := by have := hb1.size; simp at this; omega
         have HB1 := Lib.hid (HB.out.trans (hb1.mono HB.out.size))
         clear hb1)
      | (go_at_call 19; refine (machine19 _ _).mono ?_; rintro e w2 ⟨rfl, rfl⟩)
      | (go_at_call 20; refine (count20 _ _).mono ?_; rintro e w2 ⟨rfl, rfl⟩)
      | (go_at_call 21
         refine (variable21 _ _ (by assumption)).mono ?_
         rintro e w1 ⟨rfl, hb2⟩
         obtain ⟨hc2, hf2⟩ := bcell hb2
         have hz2 : w.heap.size < w1.heap.size := by have := hb2.size; omega
         have HB1 := Lib.hid (HB1.out.trans (hb2.mono HB1.out.size))
         clear hb2)
      | (go_at_call 22
         refine (class22 _ _ (by assumption)).mono ?_
         rintro e w1 ⟨rfl, hb2⟩
         obtain ⟨hc2, hf2⟩ := bcell hb2
         have hz2 : w.heap.size < w1.heap.size := by have := hb2.size; omega
         have HB1 := Lib.hid (HB1.out.trans (hb2.mono HB1.out.size))
         clear hb2)
      | (go_at_call 23
         refine (args23 _ _ _ zs _ w.heap.size _ (HA.out.1.below HB1.out) hn).mono ?_
         rintro e w2 ⟨rfl, rfl⟩))
  all_goals
    go_ret
    refine ⟨ret_bool ?_, HB1.out⟩
    simp_all [validKB]
set_option maxRecDepth 100000 in
set_option maxHeartbeats 4000000 in
theorem valid9_9 (v : Av) (d : Ad) (w : World) (h : Reads w w.heap.size v d) (hn : v.n ≤ 1000000) (hn2 : v.n2 ≤ 1000000) (hnm : v.nm.size ≤ 1000000) (hmt : v.mt.size ≤ 1000000) (hk : v.k = 9) :
    Calls Tryz.prog 9 #[.agg v.cells] w fun e w' => e = .returned (.bool (validKB 9 d)) ∧ Below w.heap.size w w' := by
  obtain ⟨k, a, b, nm, mt, zs, ys⟩ := d
  obtain ⟨k', a', b', nm', mt', A, n, c, A2, n2, c2⟩ := v
  obtain ⟨h1, h2, h3, h4, h5, ha, hs⟩ := h
  dsimp only at h1 h2 h3 h4 h5 ha hs hn hn2 hnm hmt hk
  subst h1 h2 h3 h4 h5 hk
  unfold Av.cells
  dsimp only
  have hbel : Below w.heap.size w (w.alloc (.cells #[.int .i64 9, .int .i64 a', .int .i64 b', .string nm', .string mt', .slice A n c, .slice A2 n2 c2] 25)) := (Below.refl _ _).alloc (Nat.le_refl _) _
  have hR : Reads (w.alloc (.cells #[.int .i64 9, .int .i64 a', .int .i64 b', .string nm', .string mt', .slice A n c, .slice A2 n2 c2] 25)) w.heap.size ⟨9, a', b', nm', mt', A, n, c, A2, n2, c2⟩ ⟨9, a', b', nm', mt', zs, ys⟩ := ⟨rfl, rfl, rfl, rfl, rfl, ha.below hbel, hs.below hbel⟩
  have HR := Lib.hid hR
  have HB := Lib.hid hbel
  have HA := Lib.hid (And.intro ha hs)
  clear ha hs hR hbel
  go_enter Tryz.func9, Tryz.ntmps9
  go_wp2_with (first
      | (go_at_call 18
         refine (only18 _ _ w.heap.size _ _ _ _ _ _ _ HR.out (by simp [FlagsOk])).mono ?_
         rintro e w1 ⟨rfl, hb1⟩
         obtain ⟨hc1, hf1⟩ := bcell hb1
         have hz1 : w.heap.size < w1.heap.size := by have := hb1.size; simp at this; omega
         have HB1 := Lib.hid (HB.out.trans (hb1.mono HB.out.size))
         clear hb1)
      | (go_at_call 19; refine (machine19 _ _).mono ?_; rintro e w2 ⟨rfl, rfl⟩)
      | (go_at_call 20; refine (count20 _ _).mono ?_; rintro e w2 ⟨rfl, rfl⟩)
      | (go_at_call 21
         refine (variable21 _ _ (by assumption)).mono ?_
         rintro e w1 ⟨rfl, hb2⟩
         obtain ⟨hc2, hf2⟩ := bcell hb2
         have hz2 : w.heap.size < w1.heap.size := by have := hb2.size; omega
         have HB1 := Lib.hid (HB1.out.trans (hb2.mono HB1.out.size))
         clear hb2)
      | (go_at_call 22
         refine (class22 _ _ (by assumption)).mono ?_
         rintro e w1 ⟨rfl, hb2⟩
         obtain ⟨hc2, hf2⟩ := bcell hb2
         have hz2 : w.heap.size < w1.heap.size := by have := hb2.size; omega
         have HB1 := Lib.hid (HB1.out.trans (hb2.mono HB1.out.size))
         clear hb2)
      | (go_at_call 23
         refine (args23 _ _ _ zs _ w.heap.size _ (HA.out.1.below HB1.out) hn).mono ?_
         rintro e w2 ⟨rfl, rfl⟩))
  all_goals
    go_ret
    refine ⟨ret_bool ?_, HB1.out⟩
    simp_all [validKB]
set_option maxRecDepth 100000 in
set_option maxHeartbeats 4000000 in
theorem valid9_10 (v : Av) (d : Ad) (w : World) (h : Reads w w.heap.size v d) (hn : v.n ≤ 1000000) (hn2 : v.n2 ≤ 1000000) (hnm : v.nm.size ≤ 1000000) (hmt : v.mt.size ≤ 1000000) (hk : v.k = 10) :
    Calls Tryz.prog 9 #[.agg v.cells] w fun e w' => e = .returned (.bool (validKB 10 d)) ∧ Below w.heap.size w w' := by
  obtain ⟨k, a, b, nm, mt, zs, ys⟩ := d
  obtain ⟨k', a', b', nm', mt', A, n, c, A2, n2, c2⟩ := v
  obtain ⟨h1, h2, h3, h4, h5, ha, hs⟩ := h
  dsimp only at h1 h2 h3 h4 h5 ha hs hn hn2 hnm hmt hk
  subst h1 h2 h3 h4 h5 hk
  unfold Av.cells
  dsimp only
  have hbel : Below w.heap.size w (w.alloc (.cells #[.int .i64 10, .int .i64 a', .int .i64 b', .string nm', .string mt', .slice A n c, .slice A2 n2 c2] 25)) := (Below.refl _ _).alloc (Nat.le_refl _) _
  have hR : Reads (w.alloc (.cells #[.int .i64 10, .int .i64 a', .int .i64 b', .string nm', .string mt', .slice A n c, .slice A2 n2 c2] 25)) w.heap.size ⟨10, a', b', nm', mt', A, n, c, A2, n2, c2⟩ ⟨10, a', b', nm', mt', zs, ys⟩ := ⟨rfl, rfl, rfl, rfl, rfl, ha.below hbel, hs.below hbel⟩
  have HR := Lib.hid hR
  have HB := Lib.hid hbel
  have HA := Lib.hid (And.intro ha hs)
  clear ha hs hR hbel
  go_enter Tryz.func9, Tryz.ntmps9
  go_wp2_with (first
      | (go_at_call 18
         refine (only18 _ _ w.heap.size _ _ _ _ _ _ _ HR.out (by simp [FlagsOk])).mono ?_
         rintro e w1 ⟨rfl, hb1⟩
         obtain ⟨hc1, hf1⟩ := bcell hb1
         have hz1 : w.heap.size < w1.heap.size := by have := hb1.size; simp at this; omega
         have HB1 := Lib.hid (HB.out.trans (hb1.mono HB.out.size))
         clear hb1)
      | (go_at_call 19; refine (machine19 _ _).mono ?_; rintro e w2 ⟨rfl, rfl⟩)
      | (go_at_call 20; refine (count20 _ _).mono ?_; rintro e w2 ⟨rfl, rfl⟩)
      | (go_at_call 21
         refine (variable21 _ _ (by assumption)).mono ?_
         rintro e w1 ⟨rfl, hb2⟩
         obtain ⟨hc2, hf2⟩ := bcell hb2
         have hz2 : w.heap.size < w1.heap.size := by have := hb2.size; omega
         have HB1 := Lib.hid (HB1.out.trans (hb2.mono HB1.out.size))
         clear hb2)
      | (go_at_call 22
         refine (class22 _ _ (by assumption)).mono ?_
         rintro e w1 ⟨rfl, hb2⟩
         obtain ⟨hc2, hf2⟩ := bcell hb2
         have hz2 : w.heap.size < w1.heap.size := by have := hb2.size; omega
         have HB1 := Lib.hid (HB1.out.trans (hb2.mono HB1.out.size))
         clear hb2)
      | (go_at_call 23
         refine (args23 _ _ _ zs _ w.heap.size _ (HA.out.1.below HB1.out) hn).mono ?_
         rintro e w2 ⟨rfl, rfl⟩))
  all_goals
    go_ret
    refine ⟨ret_bool ?_, HB1.out⟩
    simp_all [validKB]
set_option maxRecDepth 100000 in
set_option maxHeartbeats 4000000 in
theorem valid9_11 (v : Av) (d : Ad) (w : World) (h : Reads w w.heap.size v d) (hn : v.n ≤ 1000000) (hn2 : v.n2 ≤ 1000000) (hnm : v.nm.size ≤ 1000000) (hmt : v.mt.size ≤ 1000000) (hk : v.k = 11) :
    Calls Tryz.prog 9 #[.agg v.cells] w fun e w' => e = .returned (.bool (validKB 11 d)) ∧ Below w.heap.size w w' := by
  obtain ⟨k, a, b, nm, mt, zs, ys⟩ := d
  obtain ⟨k', a', b', nm', mt', A, n, c, A2, n2, c2⟩ := v
  obtain ⟨h1, h2, h3, h4, h5, ha, hs⟩ := h
  dsimp only at h1 h2 h3 h4 h5 ha hs hn hn2 hnm hmt hk
  subst h1 h2 h3 h4 h5 hk
  unfold Av.cells
  dsimp only
  have hbel : Below w.heap.size w (w.alloc (.cells #[.int .i64 11, .int .i64 a', .int .i64 b', .string nm', .string mt', .slice A n c, .slice A2 n2 c2] 25)) := (Below.refl _ _).alloc (Nat.le_refl _) _
  have hR : Reads (w.alloc (.cells #[.int .i64 11, .int .i64 a', .int .i64 b', .string nm', .string mt', .slice A n c, .slice A2 n2 c2] 25)) w.heap.size ⟨11, a', b', nm', mt', A, n, c, A2, n2, c2⟩ ⟨11, a', b', nm', mt', zs, ys⟩ := ⟨rfl, rfl, rfl, rfl, rfl, ha.below hbel, hs.below hbel⟩
  have HR := Lib.hid hR
  have HB := Lib.hid hbel
  have HA := Lib.hid (And.intro ha hs)
  clear ha hs hR hbel
  have hlz := Lib.hid HA.out.1.len
  go_enter Tryz.func9, Tryz.ntmps9
  go_wp2_with (first
      | (go_at_call 18
         refine (only18 _ _ w.heap.size _ _ _ _ _ _ _ HR.out (by simp [FlagsOk])).mono ?_
         rintro e w1 ⟨rfl, hb1⟩
         obtain ⟨hc1, hf1⟩ := bcell hb1
         have hz1 : w.heap.size < w1.heap.size := by have := hb1.size; simp at this; omega
         have HB1 := Lib.hid (HB.out.trans (hb1.mono HB.out.size))
         clear hb1)
      | (go_at_call 19; refine (machine19 _ _).mono ?_; rintro e w2 ⟨rfl, rfl⟩)
      | (go_at_call 20; refine (count20 _ _).mono ?_; rintro e w2 ⟨rfl, rfl⟩)
      | (go_at_call 21
         refine (variable21 _ _ (by assumption)).mono ?_
         rintro e w1 ⟨rfl, hb2⟩
         obtain ⟨hc2, hf2⟩ := bcell hb2
         have hz2 : w.heap.size < w1.heap.size := by have := hb2.size; omega
         have HB1 := Lib.hid (HB1.out.trans (hb2.mono HB1.out.size))
         clear hb2)
      | (go_at_call 22
         refine (class22 _ _ (by assumption)).mono ?_
         rintro e w1 ⟨rfl, hb2⟩
         obtain ⟨hc2, hf2⟩ := bcell hb2
         have hz2 : w.heap.size < w1.heap.size := by have := hb2.size; omega
         have HB1 := Lib.hid (HB1.out.trans (hb2.mono HB1.out.size))
         clear hb2)
      | (go_at_call 23
         refine (args23 _ _ _ zs _ w.heap.size _ (HA.out.1.below HB1.out) hn).mono ?_
         rintro e w2 ⟨rfl, rfl⟩))
  all_goals
    go_ret
    refine ⟨ret_bool ?_, HB1.out⟩
    have hlz := hlz.out
    simp_all [validKB]
set_option maxRecDepth 100000 in
set_option maxHeartbeats 4000000 in
theorem valid9_12 (v : Av) (d : Ad) (w : World) (h : Reads w w.heap.size v d) (hn : v.n ≤ 1000000) (hn2 : v.n2 ≤ 1000000) (hnm : v.nm.size ≤ 1000000) (hmt : v.mt.size ≤ 1000000) (hk : v.k = 12) :
    Calls Tryz.prog 9 #[.agg v.cells] w fun e w' => e = .returned (.bool (validKB 12 d)) ∧ Below w.heap.size w w' := by
  obtain ⟨k, a, b, nm, mt, zs, ys⟩ := d
  obtain ⟨k', a', b', nm', mt', A, n, c, A2, n2, c2⟩ := v
  obtain ⟨h1, h2, h3, h4, h5, ha, hs⟩ := h
  dsimp only at h1 h2 h3 h4 h5 ha hs hn hn2 hnm hmt hk
  subst h1 h2 h3 h4 h5 hk
  unfold Av.cells
  dsimp only
  have hbel : Below w.heap.size w (w.alloc (.cells #[.int .i64 12, .int .i64 a', .int .i64 b', .string nm', .string mt', .slice A n c, .slice A2 n2 c2] 25)) := (Below.refl _ _).alloc (Nat.le_refl _) _
  have hR : Reads (w.alloc (.cells #[.int .i64 12, .int .i64 a', .int .i64 b', .string nm', .string mt', .slice A n c, .slice A2 n2 c2] 25)) w.heap.size ⟨12, a', b', nm', mt', A, n, c, A2, n2, c2⟩ ⟨12, a', b', nm', mt', zs, ys⟩ := ⟨rfl, rfl, rfl, rfl, rfl, ha.below hbel, hs.below hbel⟩
  have HR := Lib.hid hR
  have HB := Lib.hid hbel
  have HA := Lib.hid (And.intro ha hs)
  clear ha hs hR hbel
  have hlz := Lib.hid HA.out.1.len
  go_enter Tryz.func9, Tryz.ntmps9
  go_wp2_with (first
      | (go_at_call 18
         refine (only18 _ _ w.heap.size _ _ _ _ _ _ _ HR.out (by simp [FlagsOk])).mono ?_
         rintro e w1 ⟨rfl, hb1⟩
         obtain ⟨hc1, hf1⟩ := bcell hb1
         have hz1 : w.heap.size < w1.heap.size := by have := hb1.size; simp at this; omega
         have HB1 := Lib.hid (HB.out.trans (hb1.mono HB.out.size))
         clear hb1)
      | (go_at_call 19; refine (machine19 _ _).mono ?_; rintro e w2 ⟨rfl, rfl⟩)
      | (go_at_call 20; refine (count20 _ _).mono ?_; rintro e w2 ⟨rfl, rfl⟩)
      | (go_at_call 21
         refine (variable21 _ _ (by assumption)).mono ?_
         rintro e w1 ⟨rfl, hb2⟩
         obtain ⟨hc2, hf2⟩ := bcell hb2
         have hz2 : w.heap.size < w1.heap.size := by have := hb2.size; omega
         have HB1 := Lib.hid (HB1.out.trans (hb2.mono HB1.out.size))
         clear hb2)
      | (go_at_call 22
         refine (class22 _ _ (by assumption)).mono ?_
         rintro e w1 ⟨rfl, hb2⟩
         obtain ⟨hc2, hf2⟩ := bcell hb2
         have hz2 : w.heap.size < w1.heap.size := by have := hb2.size; omega
         have HB1 := Lib.hid (HB1.out.trans (hb2.mono HB1.out.size))
         clear hb2)
      | (go_at_call 23
         refine (args23 _ _ _ zs _ w.heap.size _ (HA.out.1.below HB1.out) hn).mono ?_
         rintro e w2 ⟨rfl, rfl⟩))
  all_goals
    go_ret
    refine ⟨ret_bool ?_, HB1.out⟩
    have hlz := hlz.out
    simp_all [validKB]
set_option maxRecDepth 100000 in
set_option maxHeartbeats 4000000 in
theorem valid9_13 (v : Av) (d : Ad) (w : World) (h : Reads w w.heap.size v d) (hn : v.n ≤ 1000000) (hn2 : v.n2 ≤ 1000000) (hnm : v.nm.size ≤ 1000000) (hmt : v.mt.size ≤ 1000000) (hk : v.k = 13) :
    Calls Tryz.prog 9 #[.agg v.cells] w fun e w' => e = .returned (.bool (validKB 13 d)) ∧ Below w.heap.size w w' := by
  obtain ⟨k, a, b, nm, mt, zs, ys⟩ := d
  obtain ⟨k', a', b', nm', mt', A, n, c, A2, n2, c2⟩ := v
  obtain ⟨h1, h2, h3, h4, h5, ha, hs⟩ := h
  dsimp only at h1 h2 h3 h4 h5 ha hs hn hn2 hnm hmt hk
  subst h1 h2 h3 h4 h5 hk
  unfold Av.cells
  dsimp only
  have hbel : Below w.heap.size w (w.alloc (.cells #[.int .i64 13, .int .i64 a', .int .i64 b', .string nm', .string mt', .slice A n c, .slice A2 n2 c2] 25)) := (Below.refl _ _).alloc (Nat.le_refl _) _
  have hR : Reads (w.alloc (.cells #[.int .i64 13, .int .i64 a', .int .i64 b', .string nm', .string mt', .slice A n c, .slice A2 n2 c2] 25)) w.heap.size ⟨13, a', b', nm', mt', A, n, c, A2, n2, c2⟩ ⟨13, a', b', nm', mt', zs, ys⟩ := ⟨rfl, rfl, rfl, rfl, rfl, ha.below hbel, hs.below hbel⟩
  have HR := Lib.hid hR
  have HB := Lib.hid hbel
  have HA := Lib.hid (And.intro ha hs)
  clear ha hs hR hbel
  go_enter Tryz.func9, Tryz.ntmps9
  go_wp2_with (first
      | (go_at_call 18
         refine (only18 _ _ w.heap.size _ _ _ _ _ _ _ HR.out (by simp [FlagsOk])).mono ?_
         rintro e w1 ⟨rfl, hb1⟩
         obtain ⟨hc1, hf1⟩ := bcell hb1
         have hz1 : w.heap.size < w1.heap.size := by have := hb1.size; simp at this; omega
         have HB1 := Lib.hid (HB.out.trans (hb1.mono HB.out.size))
         clear hb1)
      | (go_at_call 19; refine (machine19 _ _).mono ?_; rintro e w2 ⟨rfl, rfl⟩)
      | (go_at_call 20; refine (count20 _ _).mono ?_; rintro e w2 ⟨rfl, rfl⟩)
      | (go_at_call 21
         refine (variable21 _ _ (by assumption)).mono ?_
         rintro e w1 ⟨rfl, hb2⟩
         obtain ⟨hc2, hf2⟩ := bcell hb2
         have hz2 : w.heap.size < w1.heap.size := by have := hb2.size; omega
         have HB1 := Lib.hid (HB1.out.trans (hb2.mono HB1.out.size))
         clear hb2)
      | (go_at_call 22
         refine (class22 _ _ (by assumption)).mono ?_
         rintro e w1 ⟨rfl, hb2⟩
         obtain ⟨hc2, hf2⟩ := bcell hb2
         have hz2 : w.heap.size < w1.heap.size := by have := hb2.size; omega
         have HB1 := Lib.hid (HB1.out.trans (hb2.mono HB1.out.size))
         clear hb2)
      | (go_at_call 23
         refine (args23 _ _ _ zs _ w.heap.size _ (HA.out.1.below HB1.out) hn).mono ?_
         rintro e w2 ⟨rfl, rfl⟩))
  all_goals
    go_ret
    refine ⟨ret_bool ?_, HB1.out⟩
    simp_all [validKB]
set_option maxRecDepth 100000 in
set_option maxHeartbeats 4000000 in
theorem valid9_14 (v : Av) (d : Ad) (w : World) (h : Reads w w.heap.size v d) (hn : v.n ≤ 1000000) (hn2 : v.n2 ≤ 1000000) (hnm : v.nm.size ≤ 1000000) (hmt : v.mt.size ≤ 1000000) (hk : v.k = 14) :
    Calls Tryz.prog 9 #[.agg v.cells] w fun e w' => e = .returned (.bool (validKB 14 d)) ∧ Below w.heap.size w w' := by
  obtain ⟨k, a, b, nm, mt, zs, ys⟩ := d
  obtain ⟨k', a', b', nm', mt', A, n, c, A2, n2, c2⟩ := v
  obtain ⟨h1, h2, h3, h4, h5, ha, hs⟩ := h
  dsimp only at h1 h2 h3 h4 h5 ha hs hn hn2 hnm hmt hk
  subst h1 h2 h3 h4 h5 hk
  unfold Av.cells
  dsimp only
  have hbel : Below w.heap.size w (w.alloc (.cells #[.int .i64 14, .int .i64 a', .int .i64 b', .string nm', .string mt', .slice A n c, .slice A2 n2 c2] 25)) := (Below.refl _ _).alloc (Nat.le_refl _) _
  have hR : Reads (w.alloc (.cells #[.int .i64 14, .int .i64 a', .int .i64 b', .string nm', .string mt', .slice A n c, .slice A2 n2 c2] 25)) w.heap.size ⟨14, a', b', nm', mt', A, n, c, A2, n2, c2⟩ ⟨14, a', b', nm', mt', zs, ys⟩ := ⟨rfl, rfl, rfl, rfl, rfl, ha.below hbel, hs.below hbel⟩
  have HR := Lib.hid hR
  have HB := Lib.hid hbel
  have HA := Lib.hid (And.intro ha hs)
  clear ha hs hR hbel
  go_enter Tryz.func9, Tryz.ntmps9
  go_wp2_with (first
      | (go_at_call 18
         refine (only18 _ _ w.heap.size _ _ _ _ _ _ _ HR.out (by simp [FlagsOk])).mono ?_
         rintro e w1 ⟨rfl, hb1⟩
         obtain ⟨hc1, hf1⟩ := bcell hb1
         have hz1 : w.heap.size < w1.heap.size := by have := hb1.size; simp at this; omega
         have HB1 := Lib.hid (HB.out.trans (hb1.mono HB.out.size))
         clear hb1)
      | (go_at_call 19; refine (machine19 _ _).mono ?_; rintro e w2 ⟨rfl, rfl⟩)
      | (go_at_call 20; refine (count20 _ _).mono ?_; rintro e w2 ⟨rfl, rfl⟩)
      | (go_at_call 21
         refine (variable21 _ _ (by assumption)).mono ?_
         rintro e w1 ⟨rfl, hb2⟩
         obtain ⟨hc2, hf2⟩ := bcell hb2
         have hz2 : w.heap.size < w1.heap.size := by have := hb2.size; omega
         have HB1 := Lib.hid (HB1.out.trans (hb2.mono HB1.out.size))
         clear hb2)
      | (go_at_call 22
         refine (class22 _ _ (by assumption)).mono ?_
         rintro e w1 ⟨rfl, hb2⟩
         obtain ⟨hc2, hf2⟩ := bcell hb2
         have hz2 : w.heap.size < w1.heap.size := by have := hb2.size; omega
         have HB1 := Lib.hid (HB1.out.trans (hb2.mono HB1.out.size))
         clear hb2)
      | (go_at_call 23
         refine (args23 _ _ _ zs _ w.heap.size _ (HA.out.1.below HB1.out) hn).mono ?_
         rintro e w2 ⟨rfl, rfl⟩))
  all_goals
    go_ret
    refine ⟨ret_bool ?_, HB1.out⟩
    simp_all [validKB]
set_option maxRecDepth 100000 in
set_option maxHeartbeats 4000000 in
theorem valid9_15 (v : Av) (d : Ad) (w : World) (h : Reads w w.heap.size v d) (hn : v.n ≤ 1000000) (hn2 : v.n2 ≤ 1000000) (hnm : v.nm.size ≤ 1000000) (hmt : v.mt.size ≤ 1000000) (hk : v.k = 15) :
    Calls Tryz.prog 9 #[.agg v.cells] w fun e w' => e = .returned (.bool (validKB 15 d)) ∧ Below w.heap.size w w' := by
  obtain ⟨k, a, b, nm, mt, zs, ys⟩ := d
  obtain ⟨k', a', b', nm', mt', A, n, c, A2, n2, c2⟩ := v
  obtain ⟨h1, h2, h3, h4, h5, ha, hs⟩ := h
  dsimp only at h1 h2 h3 h4 h5 ha hs hn hn2 hnm hmt hk
  subst h1 h2 h3 h4 h5 hk
  unfold Av.cells
  dsimp only
  have hbel : Below w.heap.size w (w.alloc (.cells #[.int .i64 15, .int .i64 a', .int .i64 b', .string nm', .string mt', .slice A n c, .slice A2 n2 c2] 25)) := (Below.refl _ _).alloc (Nat.le_refl _) _
  have hR : Reads (w.alloc (.cells #[.int .i64 15, .int .i64 a', .int .i64 b', .string nm', .string mt', .slice A n c, .slice A2 n2 c2] 25)) w.heap.size ⟨15, a', b', nm', mt', A, n, c, A2, n2, c2⟩ ⟨15, a', b', nm', mt', zs, ys⟩ := ⟨rfl, rfl, rfl, rfl, rfl, ha.below hbel, hs.below hbel⟩
  have HR := Lib.hid hR
  have HB := Lib.hid hbel
  have HA := Lib.hid (And.intro ha hs)
  clear ha hs hR hbel
  go_enter Tryz.func9, Tryz.ntmps9
  go_wp2_with (first
      | (go_at_call 18
         refine (only18 _ _ w.heap.size _ _ _ _ _ _ _ HR.out (by simp [FlagsOk])).mono ?_
         rintro e w1 ⟨rfl, hb1⟩
         obtain ⟨hc1, hf1⟩ := bcell hb1
         have hz1 : w.heap.size < w1.heap.size := by have := hb1.size; simp at this; omega
         have HB1 := Lib.hid (HB.out.trans (hb1.mono HB.out.size))
         clear hb1)
      | (go_at_call 19; refine (machine19 _ _).mono ?_; rintro e w2 ⟨rfl, rfl⟩)
      | (go_at_call 20; refine (count20 _ _).mono ?_; rintro e w2 ⟨rfl, rfl⟩)
      | (go_at_call 21
         refine (variable21 _ _ (by assumption)).mono ?_
         rintro e w1 ⟨rfl, hb2⟩
         obtain ⟨hc2, hf2⟩ := bcell hb2
         have hz2 : w.heap.size < w1.heap.size := by have := hb2.size; omega
         have HB1 := Lib.hid (HB1.out.trans (hb2.mono HB1.out.size))
         clear hb2)
      | (go_at_call 22
         refine (class22 _ _ (by assumption)).mono ?_
         rintro e w1 ⟨rfl, hb2⟩
         obtain ⟨hc2, hf2⟩ := bcell hb2
         have hz2 : w.heap.size < w1.heap.size := by have := hb2.size; omega
         have HB1 := Lib.hid (HB1.out.trans (hb2.mono HB1.out.size))
         clear hb2)
      | (go_at_call 23
         refine (args23 _ _ _ zs _ w.heap.size _ (HA.out.1.below HB1.out) hn).mono ?_
         rintro e w2 ⟨rfl, rfl⟩))
  all_goals
    go_ret
    refine ⟨ret_bool ?_, HB1.out⟩
    first | (simp_all [validKB]; done) | (simp_all [validKB]; omega)
set_option maxRecDepth 100000 in
set_option maxHeartbeats 4000000 in
theorem valid9_7 (v : Av) (d : Ad) (w : World) (h : Reads w w.heap.size v d) (hn : v.n ≤ 1000000) (hn2 : v.n2 ≤ 1000000) (hnm : v.nm.size ≤ 1000000) (hmt : v.mt.size ≤ 1000000) (hk : v.k = 7) :
    Calls Tryz.prog 9 #[.agg v.cells] w fun e w' => e = .returned (.bool (validKB 7 d)) ∧ Below w.heap.size w w' := by
  obtain ⟨k, a, b, nm, mt, zs, ys⟩ := d
  obtain ⟨k', a', b', nm', mt', A, n, c, A2, n2, c2⟩ := v
  obtain ⟨h1, h2, h3, h4, h5, ha, hs⟩ := h
  dsimp only at h1 h2 h3 h4 h5 ha hs hn hn2 hnm hmt hk
  subst h1 h2 h3 h4 h5 hk
  unfold Av.cells
  dsimp only
  have hbel : Below w.heap.size w (w.alloc (.cells #[.int .i64 7, .int .i64 a', .int .i64 b', .string nm', .string mt', .slice A n c, .slice A2 n2 c2] 25)) := (Below.refl _ _).alloc (Nat.le_refl _) _
  have hR : Reads (w.alloc (.cells #[.int .i64 7, .int .i64 a', .int .i64 b', .string nm', .string mt', .slice A n c, .slice A2 n2 c2] 25)) w.heap.size ⟨7, a', b', nm', mt', A, n, c, A2, n2, c2⟩ ⟨7, a', b', nm', mt', zs, ys⟩ := ⟨rfl, rfl, rfl, rfl, rfl, ha.below hbel, hs.below hbel⟩
  have HR := Lib.hid hR
  have HB := Lib.hid hbel
  have HA := Lib.hid (And.intro ha hs)
  clear ha hs hR hbel
  have hsW : Ints (w.alloc (.cells #[.int .i64 7, .int .i64 a', .int .i64 b', .string nm', .string mt', .slice A n c, .slice A2 n2 c2] 25)) w.heap.size A2 n2 ys := HA.out.2.below HB.out
  have HL := Lib.hid HA.out.2.len
  go_enter Tryz.func9, Tryz.ntmps9
  go_wp2
  go_loop [3] (fun i => ∃ q : Nat, q ≤ n2 ∧ i = .int .i64 q ∧ Hid ((ys.take q).all countB = true)) (fun i => n2 - (intOf i).toNat)
  case atStart => exact ⟨0, Nat.zero_le _, rfl, Lib.hid (by simp)⟩
  case round =>
    obtain ⟨q, hq, rfl, HAL⟩ := hrel
    by_cases hlt : q < n2
    · obtain ⟨b, off, z, rfl, _, hz, hc⟩ := hsW.at_ hlt
      have hk0 : 0 ≤ (q : Int) := by omega
      have hk1 : (q : Int) < n2 := by omega
      have HZ := Lib.hid hz
      clear hz
      go_wp2_with fail
      refine (count20 _ _).mono ?_
      rintro e w2 ⟨rfl, rfl⟩
      by_cases hcz : countB z = true
      · rw [hcz]
        have HC := Lib.hid hcz
        clear hcz
        go_wp2_with fail
        go_round
        case rel => exact ⟨q + 1, by omega, by go_num, Lib.hid (by rw [all_take HZ.out, HAL.out, HC.out]; rfl)⟩
        case measure => simp [intOf]; omega
      · have hcz' : countB z = false := by simpa using hcz
        rw [hcz']
        have HC := Lib.hid hcz'
        clear hcz hcz'
        go_wp2_with fail
        go_ret
        refine ⟨ret_bool ?_, HB.out⟩
        have h1 := all_false HZ.out HC.out
        simp [validKB, h1]
    · obtain rfl : q = n2 := by omega
      have hall : ys.all countB = true := by
        have h1 := HAL.out
        rwa [List.take_of_length_le (by rw [HL.out]; omega)] at h1
      have HALL := Lib.hid hall
      clear hall hsW
      go_wp2_with (first
      | (go_at_call 18
         refine (only18 _ _ w.heap.size _ _ _ _ _ _ _ HR.out (by simp [FlagsOk])).mono ?_
         rintro e w1 ⟨rfl, hb1⟩
         obtain ⟨hc1, hf1⟩ := bcell hb1
         have hz1 : w.heap.size < w1.heap.size := by have := hb1.size; simp at this; omega
         have HB1 := Lib.hid (HB.out.trans (hb1.mono HB.out.size))
         clear hb1)
      | (go_at_call 19; refine (machine19 _ _).mono ?_; rintro e w2 ⟨rfl, rfl⟩)
      | (go_at_call 20; refine (count20 _ _).mono ?_; rintro e w2 ⟨rfl, rfl⟩)
      | (go_at_call 21
         refine (variable21 _ _ (by assumption)).mono ?_
         rintro e w1 ⟨rfl, hb2⟩
         obtain ⟨hc2, hf2⟩ := bcell hb2
         have hz2 : w.heap.size < w1.heap.size := by have := hb2.size; omega
         have HB1 := Lib.hid (HB1.out.trans (hb2.mono HB1.out.size))
         clear hb2)
      | (go_at_call 22
         refine (class22 _ _ (by assumption)).mono ?_
         rintro e w1 ⟨rfl, hb2⟩
         obtain ⟨hc2, hf2⟩ := bcell hb2
         have hz2 : w.heap.size < w1.heap.size := by have := hb2.size; omega
         have HB1 := Lib.hid (HB1.out.trans (hb2.mono HB1.out.size))
         clear hb2)
      | (go_at_call 23
         refine (args23 _ _ _ zs _ w.heap.size _ (HA.out.1.below HB1.out) hn).mono ?_
         rintro e w2 ⟨rfl, rfl⟩))
      all_goals
        go_ret
        refine ⟨ret_bool ?_, HB1.out⟩
        have h1 := HALL.out
        have h2 := HL.out
        have h3 : decide ((q : Int) ≤ 20) = decide (q ≤ 20) := by simp only [decide_eq_decide]; omega
        simp only [validKB, h1, h2, Bool.true_and]
        clear h1 h2
        simp_all
set_option maxRecDepth 100000 in
set_option maxHeartbeats 4000000 in
theorem valid9_n (v : Av) (d : Ad) (w : World) (h : Reads w w.heap.size v d) (hn : v.n ≤ 1000000) (hn2 : v.n2 ≤ 1000000) (hnm : v.nm.size ≤ 1000000) (hmt : v.mt.size ≤ 1000000) (hk : v.k < 0 ∨ 15 < v.k) :
    Calls Tryz.prog 9 #[.agg v.cells] w fun e w' => e = .returned (.bool false) ∧ Below w.heap.size w w' := by
  obtain ⟨k, a, b, nm, mt, zs, ys⟩ := d
  obtain ⟨k', a', b', nm', mt', A, n, c, A2, n2, c2⟩ := v
  obtain ⟨h1, h2, h3, h4, h5, ha, hs⟩ := h
  dsimp only at h1 h2 h3 h4 h5 ha hs hn hn2 hnm hmt hk
  subst h1 h2 h3 h4 h5
  unfold Av.cells
  dsimp only
  clear ha hs
  have g0 : (k' == 0) = false := by rw [beq_eq_false_iff_ne]; omega
  have g1 : (k' == 1) = false := by rw [beq_eq_false_iff_ne]; omega
  have g2 : (k' == 2) = false := by rw [beq_eq_false_iff_ne]; omega
  have g3 : (k' == 3) = false := by rw [beq_eq_false_iff_ne]; omega
  have g4 : (k' == 4) = false := by rw [beq_eq_false_iff_ne]; omega
  have g5 : (k' == 5) = false := by rw [beq_eq_false_iff_ne]; omega
  have g6 : (k' == 6) = false := by rw [beq_eq_false_iff_ne]; omega
  have g7 : (k' == 7) = false := by rw [beq_eq_false_iff_ne]; omega
  have g8 : (k' == 8) = false := by rw [beq_eq_false_iff_ne]; omega
  have g9 : (k' == 9) = false := by rw [beq_eq_false_iff_ne]; omega
  have g10 : (k' == 10) = false := by rw [beq_eq_false_iff_ne]; omega
  have g11 : (k' == 11) = false := by rw [beq_eq_false_iff_ne]; omega
  have g12 : (k' == 12) = false := by rw [beq_eq_false_iff_ne]; omega
  have g13 : (k' == 13) = false := by rw [beq_eq_false_iff_ne]; omega
  have g14 : (k' == 14) = false := by rw [beq_eq_false_iff_ne]; omega
  have g15 : (k' == 15) = false := by rw [beq_eq_false_iff_ne]; omega
  clear hk
  go_enter Tryz.func9, Tryz.ntmps9
  go_wp2
  go_ret
  exact ⟨rfl, (Below.refl _ _).alloc (Nat.le_refl _) _⟩
theorem valid9 (v : Av) (d : Ad) (w : World) (h : Reads w w.heap.size v d) (hn : v.n ≤ 1000000) (hn2 : v.n2 ≤ 1000000) (hnm : v.nm.size ≤ 1000000) (hmt : v.mt.size ≤ 1000000) :
    Calls Tryz.prog 9 #[.agg v.cells] w fun e w' => e = .returned (.bool (validB d)) ∧ Below w.heap.size w w' := by
  have hkd := h.k
  by_cases h0 : 0 ≤ v.k ∧ v.k ≤ 15
  · obtain ⟨q, hq⟩ := Int.eq_ofNat_of_zero_le h0.1
    have hq15 : q ≤ 15 := by omega
    have hv : validB d = validKB q d := by unfold validB; rw [← hkd, hq]; simp
    rw [hv]
    obtain rfl | rfl | rfl | rfl | rfl | rfl | rfl | rfl | rfl | rfl | rfl | rfl | rfl | rfl | rfl | rfl : q = 0 ∨ q = 1 ∨ q = 2 ∨ q = 3 ∨ q = 4 ∨ q = 5 ∨ q = 6 ∨ q = 7 ∨ q = 8 ∨ q = 9 ∨ q = 10 ∨ q = 11 ∨ q = 12 ∨ q = 13 ∨ q = 14 ∨ q = 15 := by omega
    · exact valid9_0 v d w h hn hn2 hnm hmt hq
    · exact valid9_1 v d w h hn hn2 hnm hmt hq
    · exact valid9_2 v d w h hn hn2 hnm hmt hq
    · exact valid9_3 v d w h hn hn2 hnm hmt hq
    · exact valid9_4 v d w h hn hn2 hnm hmt hq
    · exact valid9_5 v d w h hn hn2 hnm hmt hq
    · exact valid9_6 v d w h hn hn2 hnm hmt hq
    · exact valid9_7 v d w h hn hn2 hnm hmt hq
    · exact valid9_8 v d w h hn hn2 hnm hmt hq
    · exact valid9_9 v d w h hn hn2 hnm hmt hq
    · exact valid9_10 v d w h hn hn2 hnm hmt hq
    · exact valid9_11 v d w h hn hn2 hnm hmt hq
    · exact valid9_12 v d w h hn hn2 hnm hmt hq
    · exact valid9_13 v d w h hn hn2 hnm hmt hq
    · exact valid9_14 v d w h hn hn2 hnm hmt hq
    · exact valid9_15 v d w h hn hn2 hnm hmt hq
  · have hv : validB d = false := by
      unfold validB
      rw [← hkd]
      by_cases h1 : 0 ≤ v.k
      · obtain ⟨q, hq⟩ := Int.eq_ofNat_of_zero_le h1
        rw [hq]
        have h15 : 15 < q := by omega
        have : validKB q d = false := by
          unfold validKB
          split <;> first | omega | rfl
        simp [this]
      · simp [h1]
    rw [hv]
    exact valid9_n v d w h hn hn2 hnm hmt (by omega)
end Go.Proofs.YtoejjboanggenaaGreatDoor
