/-
Contracts of the reading closures of numeric and named.
-/
import Derived.Test.YtoejjboanggenaaGreatDoorI
import Derived.Deep.RegionWith
namespace Go.Proofs.YtoejjboanggenaaGreatDoor
open Go.RowKit
set_option linter.unusedVariables false
set_option linter.unusedSimpArgs false

theorem parse_I64 {l : List UInt8} {v : Int} (h : Lib.parseIntB 64 l = .ok v) : I64 v := by
  unfold Lib.parseIntB at h
  cases l with
  | nil => cases h
  | cons c r =>
    dsimp only at h
    split at h
    · cases h
    · cases h
    · rename_i u hu
      split at h
      · cases h
      · split at h
        · cases h
        · rename_i h1 h2
          simp only [Lib.NumEnd.ok.injEq] at h
          unfold I64
          by_cases hn : c.toNat = 45
          · simp only [hn, not_true_eq_false, false_and, true_and, Nat.not_lt, if_true] at h1 h2 h
            omega
          · simp only [hn, not_false_eq_true, true_and, false_and, if_false, Nat.not_le] at h1 h2 h
            omega
theorem numV_I64 (s : ByteArray) : I64 (numV s) := by
  unfold numV
  split
  · rename_i v h; exact parse_I64 h
  · unfold Lib.intSat I64; split <;> omega
  · unfold I64; omega
theorem number55' (s : ByteArray) (w : World) (hg : Gl w) (hs : s.size ≤ 1000000) :
    Calls Tryz.prog 55 #[.string s] w fun e w' => e = .returned (.tuple #[.int .i64 (numV s), .bool (numOk s)]) ∧ Below w.heap.size w w' := number55 s w hg hs fun v h => parse_I64 h
set_option maxHeartbeats 1000000 in
theorem num54_0 (L b0 : Nat) (A : Option Addr) (c : Nat) (w : World) :
    Calls Tryz.prog 54 #[.pointer (some ⟨L, 0, none⟩), .slice A 0 c, .pointer (some ⟨b0, 0, none⟩)] w fun e w' => e = .returned (.tuple #[.slice none 0 0, .bool false]) ∧ w = w' := by
  go_enter Tryz.func54, Tryz.ntmps54
  go_wp2
  go_ret2
  exact ⟨rfl, rfl⟩
set_option maxHeartbeats 1000000 in
theorem nam60_0 (L b0 : Nat) (A : Option Addr) (c : Nat) (w : World) :
    Calls Tryz.prog 60 #[.pointer (some ⟨L, 0, none⟩), .slice A 0 c, .pointer (some ⟨b0, 0, none⟩)] w fun e w' => e = .returned (.tuple #[.slice none 0 0, .bool false]) ∧ w = w' := by
  go_enter Tryz.func60, Tryz.ntmps60
  go_wp2
  go_ret2
  exact ⟨rfl, rfl⟩
/-- the slice behind the first element, as Go cuts it. -/
def cutA (b off c : Nat) : Option Addr := if c = 1 then some ⟨b, off, none⟩ else some ⟨b, off + 1, none⟩
theorem Strs.cut {w : World} {B b off n c : Nat} {s : ByteArray} {ss : List ByteArray} (h : Strs w B (some ⟨b, off, none⟩) (n + 1) (s :: ss)) (hc : n + 1 ≤ c) : Strs w B (cutA b off c) n ss := by
  unfold cutA
  by_cases h1 : c = 1
  · rw [if_pos h1]
    have hn : n = 0 := by omega
    subst hn
    have := h.len
    simp at this
    subst this
    exact ⟨rfl, fun h0 => absurd h0 (Nat.lt_irrefl 0)⟩
  · rw [if_neg h1]
    exact Row.tail h
set_option maxHeartbeats 2000000 in
theorem num54_38 (L : Nat) (cs : Array Value) (b0 b off n c B : Nat) (s : ByteArray) (ss : List ByteArray) (w : World) (hg : Gl w) (hs : s.size ≤ 1000000) (h0 : Blk w b0 79 #[fnv 38]) (hL : Blk w L 25 cs) (hx : 1 < cs.size) (hw : Strs w B (some ⟨b, off, none⟩) (n + 1) (s :: ss)) (hc : n + 1 ≤ c) (hn : n ≤ 1000000) :
    Calls Tryz.prog 54 #[.pointer (some ⟨L, 0, none⟩), .slice (some ⟨b, off, none⟩) (n + 1) c, .pointer (some ⟨b0, 0, none⟩)] w fun e w' =>
      e = .returned (.tuple #[.slice (cutA b off c) n (c - 1), .bool (numOk s)]) ∧ ∃ w1, Below w.heap.size w w1 ∧ w1.setCell ⟨L, 1, none⟩ (.int .i64 (numV s)) = w' := by
  obtain ⟨bb, oo, s', e1, hbb, hss, hcell⟩ := hw.at_ (k := 0) (by omega)
  simp only [Option.some.injEq, Addr.mk.injEq, and_true] at e1
  obtain ⟨rfl, rfl⟩ := e1
  simp only [List.getElem?_cons_zero, Option.some.injEq] at hss
  subst hss
  have hcell' : w.cell? ⟨b, off, none⟩ = some (.string s) := hcell
  obtain ⟨u, hu⟩ : ∃ u, cs[1]? = some u := ⟨cs[1], Array.getElem?_eq_getElem hx⟩
  have HL := Lib.hid (And.intro hL hu)
  have H0 := Lib.hid h0
  have HG := Lib.hid hg
  have hw1 : ((n + 1 : Nat) : Int) = (n : Int) + 1 := by omega
  clear hg h0 hL hx hw hcell hu
  unfold cutA
  by_cases hc1 : c = 1
  · have hn0 : n = 0 := by omega
    subst hn0 hc1
    go_enter Tryz.func54, Tryz.ntmps54
    go_wp2_with fail
    refine (number55' s _ HG.out hs).mono ?_
    rintro e w1 ⟨rfl, b1⟩
    have c0 : w1.cell? ⟨b0, 0, none⟩ = some (.func (.func 38) #[] #[]) := (H0.out.below b1 H0.out.lt).cell 0
    have hu1 : w1.cell? ⟨L, 1, none⟩ = some u := ((HL.out.1.below b1 HL.out.1.lt).cell 1).trans HL.out.2
    have f1 := (HL.out.1.below b1 HL.out.1.lt).frozen 1
    have HB1 := Lib.hid b1
    clear b1 hcell'
    go_wp2_with (go_at_call 38; refine (field38 _ _).mono ?_; rintro e w1 ⟨rfl, rfl⟩)
    go_ret2
    exact ⟨rfl, w1, HB1.out, rfl⟩
  · have g0 : (((n + 1 : Nat) : Int) == 0) = false := by rw [beq_eq_false_iff_ne]; omega
    go_enter Tryz.func54, Tryz.ntmps54
    go_wp2_with fail
    refine (number55' s _ HG.out hs).mono ?_
    rintro e w1 ⟨rfl, b1⟩
    have c0 : w1.cell? ⟨b0, 0, none⟩ = some (.func (.func 38) #[] #[]) := (H0.out.below b1 H0.out.lt).cell 0
    have hu1 : w1.cell? ⟨L, 1, none⟩ = some u := ((HL.out.1.below b1 HL.out.1.lt).cell 1).trans HL.out.2
    have f1 := (HL.out.1.below b1 HL.out.1.lt).frozen 1
    have HB1 := Lib.hid b1
    clear b1 hcell'
    go_wp2_with (go_at_call 38; refine (field38 _ _).mono ?_; rintro e w1 ⟨rfl, rfl⟩)
    go_ret2
    exact ⟨rfl, w1, HB1.out, rfl⟩
set_option maxHeartbeats 2000000 in
theorem num54_39 (L : Nat) (cs : Array Value) (b0 b off n c B : Nat) (s : ByteArray) (ss : List ByteArray) (w : World) (hg : Gl w) (hs : s.size ≤ 1000000) (h0 : Blk w b0 79 #[fnv 39]) (hL : Blk w L 25 cs) (hx : 2 < cs.size) (hw : Strs w B (some ⟨b, off, none⟩) (n + 1) (s :: ss)) (hc : n + 1 ≤ c) (hn : n ≤ 1000000) :
    Calls Tryz.prog 54 #[.pointer (some ⟨L, 0, none⟩), .slice (some ⟨b, off, none⟩) (n + 1) c, .pointer (some ⟨b0, 0, none⟩)] w fun e w' =>
      e = .returned (.tuple #[.slice (cutA b off c) n (c - 1), .bool (numOk s)]) ∧ ∃ w1, Below w.heap.size w w1 ∧ w1.setCell ⟨L, 2, none⟩ (.int .i64 (numV s)) = w' := by
  obtain ⟨bb, oo, s', e1, hbb, hss, hcell⟩ := hw.at_ (k := 0) (by omega)
  simp only [Option.some.injEq, Addr.mk.injEq, and_true] at e1
  obtain ⟨rfl, rfl⟩ := e1
  simp only [List.getElem?_cons_zero, Option.some.injEq] at hss
  subst hss
  have hcell' : w.cell? ⟨b, off, none⟩ = some (.string s) := hcell
  obtain ⟨u, hu⟩ : ∃ u, cs[2]? = some u := ⟨cs[2], Array.getElem?_eq_getElem hx⟩
  have HL := Lib.hid (And.intro hL hu)
  have H0 := Lib.hid h0
  have HG := Lib.hid hg
  have hw1 : ((n + 1 : Nat) : Int) = (n : Int) + 1 := by omega
  clear hg h0 hL hx hw hcell hu
  unfold cutA
  by_cases hc1 : c = 1
  · have hn0 : n = 0 := by omega
    subst hn0 hc1
    go_enter Tryz.func54, Tryz.ntmps54
    go_wp2_with fail
    refine (number55' s _ HG.out hs).mono ?_
    rintro e w1 ⟨rfl, b1⟩
    have c0 : w1.cell? ⟨b0, 0, none⟩ = some (.func (.func 39) #[] #[]) := (H0.out.below b1 H0.out.lt).cell 0
    have hu1 : w1.cell? ⟨L, 2, none⟩ = some u := ((HL.out.1.below b1 HL.out.1.lt).cell 2).trans HL.out.2
    have f1 := (HL.out.1.below b1 HL.out.1.lt).frozen 2
    have HB1 := Lib.hid b1
    clear b1 hcell'
    go_wp2_with (go_at_call 39; refine (field39 _ _).mono ?_; rintro e w1 ⟨rfl, rfl⟩)
    go_ret2
    exact ⟨rfl, w1, HB1.out, rfl⟩
  · have g0 : (((n + 1 : Nat) : Int) == 0) = false := by rw [beq_eq_false_iff_ne]; omega
    go_enter Tryz.func54, Tryz.ntmps54
    go_wp2_with fail
    refine (number55' s _ HG.out hs).mono ?_
    rintro e w1 ⟨rfl, b1⟩
    have c0 : w1.cell? ⟨b0, 0, none⟩ = some (.func (.func 39) #[] #[]) := (H0.out.below b1 H0.out.lt).cell 0
    have hu1 : w1.cell? ⟨L, 2, none⟩ = some u := ((HL.out.1.below b1 HL.out.1.lt).cell 2).trans HL.out.2
    have f1 := (HL.out.1.below b1 HL.out.1.lt).frozen 2
    have HB1 := Lib.hid b1
    clear b1 hcell'
    go_wp2_with (go_at_call 39; refine (field39 _ _).mono ?_; rintro e w1 ⟨rfl, rfl⟩)
    go_ret2
    exact ⟨rfl, w1, HB1.out, rfl⟩
set_option maxHeartbeats 2000000 in
theorem nam60_41 (L : Nat) (cs : Array Value) (b0 b off n c B : Nat) (s : ByteArray) (ss : List ByteArray) (w : World) (h0 : Blk w b0 81 #[fnv 41]) (hL : Blk w L 25 cs) (hx : 3 < cs.size) (hw : Strs w B (some ⟨b, off, none⟩) (n + 1) (s :: ss)) (hc : n + 1 ≤ c) (hn : n ≤ 1000000) :
    Calls Tryz.prog 60 #[.pointer (some ⟨L, 0, none⟩), .slice (some ⟨b, off, none⟩) (n + 1) c, .pointer (some ⟨b0, 0, none⟩)] w fun e w' =>
      e = .returned (.tuple #[.slice (cutA b off c) n (c - 1), .bool true]) ∧ ∃ w1, Below w.heap.size w w1 ∧ w1.setCell ⟨L, 3, none⟩ (.string s) = w' := by
  obtain ⟨bb, oo, s', e1, hbb, hss, hcell⟩ := hw.at_ (k := 0) (by omega)
  simp only [Option.some.injEq, Addr.mk.injEq, and_true] at e1
  obtain ⟨rfl, rfl⟩ := e1
  simp only [List.getElem?_cons_zero, Option.some.injEq] at hss
  subst hss
  have hcell' : w.cell? ⟨b, off, none⟩ = some (.string s) := hcell
  obtain ⟨u, hu⟩ : ∃ u, cs[3]? = some u := ⟨cs[3], Array.getElem?_eq_getElem hx⟩
  have c0 : w.cell? ⟨b0, 0, none⟩ = some (.func (.func 41) #[] #[]) := h0.cell 0
  have hu1 : w.cell? ⟨L, 3, none⟩ = some u := (hL.cell 3).trans hu
  have f1 := hL.frozen 3
  have hw1 : ((n + 1 : Nat) : Int) = (n : Int) + 1 := by omega
  have g0 : (((n + 1 : Nat) : Int) == 0) = false := by rw [beq_eq_false_iff_ne]; omega
  clear h0 hL hx hw hcell hu
  unfold cutA
  by_cases hc1 : c = 1
  · have hn0 : n = 0 := by omega
    subst hn0 hc1
    go_enter Tryz.func60, Tryz.ntmps60
    go_wp2_with fail
    go_region_with ((go_at_call 41; refine (field41 _ _).mono ?_; rintro e w1 ⟨rfl, rfl⟩))
    all_goals
      go_wp2_with fail
      go_ret2
      exact ⟨rfl, w.drew, (Below.refl _ _).drew, rfl⟩
  · go_enter Tryz.func60, Tryz.ntmps60
    go_wp2_with fail
    go_region_with ((go_at_call 41; refine (field41 _ _).mono ?_; rintro e w1 ⟨rfl, rfl⟩))
    all_goals
      go_wp2_with fail
      go_ret2
      exact ⟨rfl, w.drew, (Below.refl _ _).drew, rfl⟩
set_option maxHeartbeats 2000000 in
theorem nam60_42 (L : Nat) (cs : Array Value) (b0 b off n c B : Nat) (s : ByteArray) (ss : List ByteArray) (w : World) (h0 : Blk w b0 81 #[fnv 42]) (hL : Blk w L 25 cs) (hx : 4 < cs.size) (hw : Strs w B (some ⟨b, off, none⟩) (n + 1) (s :: ss)) (hc : n + 1 ≤ c) (hn : n ≤ 1000000) :
    Calls Tryz.prog 60 #[.pointer (some ⟨L, 0, none⟩), .slice (some ⟨b, off, none⟩) (n + 1) c, .pointer (some ⟨b0, 0, none⟩)] w fun e w' =>
      e = .returned (.tuple #[.slice (cutA b off c) n (c - 1), .bool true]) ∧ ∃ w1, Below w.heap.size w w1 ∧ w1.setCell ⟨L, 4, none⟩ (.string s) = w' := by
  obtain ⟨bb, oo, s', e1, hbb, hss, hcell⟩ := hw.at_ (k := 0) (by omega)
  simp only [Option.some.injEq, Addr.mk.injEq, and_true] at e1
  obtain ⟨rfl, rfl⟩ := e1
  simp only [List.getElem?_cons_zero, Option.some.injEq] at hss
  subst hss
  have hcell' : w.cell? ⟨b, off, none⟩ = some (.string s) := hcell
  obtain ⟨u, hu⟩ : ∃ u, cs[4]? = some u := ⟨cs[4], Array.getElem?_eq_getElem hx⟩
  have c0 : w.cell? ⟨b0, 0, none⟩ = some (.func (.func 42) #[] #[]) := h0.cell 0
  have hu1 : w.cell? ⟨L, 4, none⟩ = some u := (hL.cell 4).trans hu
  have f1 := hL.frozen 4
  have hw1 : ((n + 1 : Nat) : Int) = (n : Int) + 1 := by omega
  have g0 : (((n + 1 : Nat) : Int) == 0) = false := by rw [beq_eq_false_iff_ne]; omega
  clear h0 hL hx hw hcell hu
  unfold cutA
  by_cases hc1 : c = 1
  · have hn0 : n = 0 := by omega
    subst hn0 hc1
    go_enter Tryz.func60, Tryz.ntmps60
    go_wp2_with fail
    go_region_with ((go_at_call 42; refine (field42 _ _).mono ?_; rintro e w1 ⟨rfl, rfl⟩))
    all_goals
      go_wp2_with fail
      go_ret2
      exact ⟨rfl, w.drew, (Below.refl _ _).drew, rfl⟩
  · go_enter Tryz.func60, Tryz.ntmps60
    go_wp2_with fail
    go_region_with ((go_at_call 42; refine (field42 _ _).mono ?_; rintro e w1 ⟨rfl, rfl⟩))
    all_goals
      go_wp2_with fail
      go_ret2
      exact ⟨rfl, w.drew, (Below.refl _ _).drew, rfl⟩
end Go.Proofs.YtoejjboanggenaaGreatDoor
