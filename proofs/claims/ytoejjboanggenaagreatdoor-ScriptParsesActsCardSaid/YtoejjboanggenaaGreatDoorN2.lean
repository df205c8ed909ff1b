/-
Contracts of the lexer's small functions: name.
-/
import Derived.Test.YtoejjboanggenaaGreatDoorN
import Derived.Deep.DeepCutAuto
namespace Go.Proofs.YtoejjboanggenaaGreatDoor
open Go.RowKit
set_option linter.unusedVariables false
set_option linter.unusedSimpArgs false

def tokV (k : Int) (t : ByteArray) (v p : Int) : Value := .agg #[.int .i64 k, .string t, .int .i64 v, .int .i64 p]
def WORD : ByteArray := ⟨#[97, 98, 99, 100, 101, 102, 103, 104, 105, 106, 107, 108, 109, 110, 111, 112, 113, 114, 115, 116, 117, 118, 119, 120, 121, 122, 65, 66, 67, 68, 69, 70, 71, 72, 73, 74, 75, 76, 77, 78, 79, 80, 81, 82, 83, 84, 85, 86, 87, 88, 89, 90, 48, 49, 50, 51, 52, 53, 54, 55, 56, 57, 95]⟩
def UP : ByteArray := ⟨#[65, 66, 67, 68, 69, 70, 71, 72, 73, 74, 75, 76, 77, 78, 79, 80, 81, 82, 83, 84, 85, 86, 87, 88, 89, 90]⟩
def isUp (t : ByteArray) : Bool := Lib.contains UP.data.toList (t.extract 0 1).data.toList
theorem results_row_tmp {P : Program} {fn : Func} {p u : Tmp} {ty : TypeId} (h : fn.results = #[.cell p ty, .tmp u]) (tmps : Array Value) (w : World) (g : Nat) (t : TypeId) (cs : Array Value) (d : TypeDesc)
    (hp : tmps.getD p undef = .pointer (some ⟨g, 0, none⟩)) (hg : Blk w g t cs)
    (hu : P.underlying ty = some d) (hd : (match d with | .struct _ | .array _ _ => true | _ => false) = true) (hi : (P.info? ty).map (·.size) = some cs.size) :
    (results fn tmps).run P w = .ok (.tuple #[.agg cs, tmps.getD u undef]) w := by
  rw [results_cell_tmp h, hp]
  simp [asAddr, Result.andThen, run_loadVar_row w g t ty cs (0, 0) d hg hu hd hi]
theorem Blk.set4 {w : World} {g : Nat} {t : TypeId} {a b c d a' b' c' d' : Value} (h : Blk w g t #[a, b, c, d]) :
    Blk ((((w.setCell ⟨g, 0, none⟩ a').setCell ⟨g, 1, none⟩ b').setCell ⟨g, 2, none⟩ c').setCell ⟨g, 3, none⟩ d') g t #[a', b', c', d'] :=
  (((h.set 0 a').set 1 b').set 2 c').set 3 d'
theorem below_set4 {B : Nat} {a w : World} (h : Below B a w) {g : Nat} (hg : B ≤ g) (a' b' c' d' : Value) :
    Below B a ((((w.setCell ⟨g, 0, none⟩ a').setCell ⟨g, 1, none⟩ b').setCell ⟨g, 2, none⟩ c').setCell ⟨g, 3, none⟩ d') :=
  (((h.setCell (p := ⟨g, 0, none⟩) hg a').setCell (p := ⟨g, 1, none⟩) hg b').setCell (p := ⟨g, 2, none⟩) hg c').setCell (p := ⟨g, 3, none⟩) hg d'
set_option maxHeartbeats 4000000 in
theorem name112 (s : ByteArray) (w : World) (hg : Gl w) (hs : s.size ≤ 1000000) (hr : 1 ≤ (runB s WORD).size) : Calls Tryz.prog 112 #[.string s] w fun e' w' => ∃ k t e, e' = .returned (.tuple #[tokV k t 0 0, .int .i64 e]) ∧ Below w.heap.size w w' ∧
    (if 31 < (runB s WORD).size then e = 8 else e = 0 ∧ t = runB s WORD ∧ k = if inB kwL (runB s WORD) then 4 else if isUp (runB s WORD) then 3 else 2) := by
  have hR := Lib.hid (run126 s WORD (by decide) (by decide) hs)
  unfold WORD at hR
  obtain ⟨r, hr'⟩ : ∃ r, runB s WORD = r := ⟨_, rfl⟩
  have hR' := hR.out
  unfold WORD at hr'
  rw [hr'] at hR'
  have HR := Lib.hid hR'
  clear hR hR'
  rw [show runB s WORD = r from hr'] at hr ⊢
  clear hr'
  have hK := Lib.hid (kw127 r)
  have hC' := fun (m : Int) => Tryz.strings_Contains UP (r.extract 0 1) m
  unfold tokV isUp
  generalize Lib.contains UP.data.toList (r.extract 0 1).data.toList = u at hC' ⊢
  generalize inB kwL r = kw at hK ⊢
  unfold UP at hC'
  have hC := Lib.hid hC'
  clear hC'
  have hG := Lib.hid hg
  clear hg
  go_enter Tryz.func112, Tryz.ntmps112
  go_upto_region 1 with (fail)
  obtain ⟨w0, hw0⟩ : ∃ w0, w.alloc (.cells #[.int .i64 0, .string ⟨#[]⟩, .int .i64 0, .int .i64 0] 113) = w0 := ⟨_, rfl⟩
  have q0 : Blk w0 w.heap.size 113 #[.int .i64 0, .string ⟨#[]⟩, .int .i64 0, .int .i64 0] := hw0 ▸ Blk.new w 113 _
  have b0 : Below w.heap.size w w0 := hw0 ▸ (Below.refl _ _).alloc (Nat.le_refl _) _
  rw [hw0]
  have l0 := q0.lt
  clear hw0
  have B0 := Lib.hid b0
  have Q0 := Lib.hid q0
  clear b0 q0
  go_wp2_with fail
  refine (HR.out _).mono ?_
  rintro e w1 ⟨rfl, hB⟩
  have B1 := Lib.hid (B0.out.trans (hB.mono B0.out.size))
  have Q1 := Lib.hid (Q0.out.below hB l0)
  clear hB B0 Q0
  go_upto_region 2 with (fail)
  obtain ⟨w2, hw2⟩ : ∃ w2, w1.alloc (.cells #[.int .i64 2, .string r, .int .i64 0, .int .i64 0] 113) = w2 := ⟨_, rfl⟩
  have q2 : Blk w2 w1.heap.size 113 #[.int .i64 2, .string r, .int .i64 0, .int .i64 0] := hw2 ▸ Blk.new w1 113 _
  have Q2 := Lib.hid q2
  have B2 := Lib.hid (B1.out.alloc B1.out.size (.cells #[.int .i64 2, .string r, .int .i64 0, .int .i64 0] 113))
  have Q12 := Lib.hid (Q1.out.alloc (.cells #[.int .i64 2, .string r, .int .i64 0, .int .i64 0] 113))
  rw [hw2] at B2 Q12 ⊢
  have l2 := q2.lt
  have l1 := Q1.out.lt
  clear Q1 hw2 q2
  obtain ⟨g, hg⟩ : ∃ g, w.heap.size = g := ⟨_, rfl⟩
  obtain ⟨gh, hh⟩ : ∃ gh, w1.heap.size = gh := ⟨_, rfl⟩
  have HW := Lib.hid (And.intro hg hh)
  rw [hg] at l0 l1 Q12 B2 ⊢
  rw [hh] at l1 l2 Q2 ⊢
  have hgh : g ≠ gh := by omega
  clear hg hh B1
  have d0 : w2.cell? ⟨gh, 0, none⟩ = some (.int .i64 2) := Q2.out.cell 0
  have d1 : w2.cell? ⟨gh, 1, none⟩ = some (.string r) := Q2.out.cell 1
  have d2 : w2.cell? ⟨gh, 2, none⟩ = some (.int .i64 0) := Q2.out.cell 2
  have d3 : w2.cell? ⟨gh, 3, none⟩ = some (.int .i64 0) := Q2.out.cell 3
  have e0 : w2.cell? ⟨g, 0, none⟩ = some (.int .i64 0) := Q12.out.cell 0
  have e1 : w2.cell? ⟨g, 1, none⟩ = some (.string ⟨#[]⟩) := Q12.out.cell 1
  have e2 : w2.cell? ⟨g, 2, none⟩ = some (.int .i64 0) := Q12.out.cell 2
  have e3 : w2.cell? ⟨g, 3, none⟩ = some (.int .i64 0) := Q12.out.cell 3
  have f0 := Q12.out.frozen 0
  have f1 := Q12.out.frozen 1
  have f2 := Q12.out.frozen 2
  have f3 := Q12.out.frozen 3
  by_cases hb : 31 < r.size
  · have hbd : decide ((31 : Int) < (r.size : Int)) = true := by simp; omega
    go_wp2_with fail
    (try simp only [Exit.inBlock, Exit.then])
    refine bodyPost_ret (results_row_tmp rfl _ _ g 113 _ _ rfl Q12.out.set4 Tryz.underlying113 rfl (by kernel_rfl)) rfl ?_
    exact ⟨⟨_, _, rfl⟩, HW.out.1 ▸ below_set4 B2.out (Nat.le_refl _) _ _ _ _⟩
  · have hbd : decide ((31 : Int) < (r.size : Int)) = false := by simp; omega
    have HG2 := Lib.hid (Gl.below hG.out (HW.out.1.symm ▸ B2.out))
    have h1 : (r.extract 0 1).size = 1 := by simp; omega
    go_wp2_with fail
    refine (hK.out _ HG2.out).mono ?_
    rintro e w3 ⟨rfl, b3⟩
    have HG3 := Lib.hid (HG2.out.below b3)
    have Q3 := Lib.hid (Q2.out.below b3 l2)
    have Q13 := Lib.hid (Q12.out.below b3 (by omega))
    have B3 := Lib.hid (B2.out.trans (b3.mono (by have := B2.out.size; have := HW.out.1; omega)))
    have l3 : gh < w3.heap.size := Nat.lt_of_lt_of_le l2 b3.size
    have hm3 := GlB.mx HG3.out
    obtain ⟨m, hm⟩ := hm3
    clear d0 d1 d2 d3 e0 e1 e2 e3 f0 f1 f2 f3 b3 HG2 B2 Q2 Q12
    have d0 : w3.cell? ⟨gh, 0, none⟩ = some (.int .i64 2) := Q3.out.cell 0
    have d1 : w3.cell? ⟨gh, 1, none⟩ = some (.string r) := Q3.out.cell 1
    have d2 : w3.cell? ⟨gh, 2, none⟩ = some (.int .i64 0) := Q3.out.cell 2
    have d3 : w3.cell? ⟨gh, 3, none⟩ = some (.int .i64 0) := Q3.out.cell 3
    have x0 := Q3.out.frozen 0
    have e0 : w3.cell? ⟨g, 0, none⟩ = some (.int .i64 0) := Q13.out.cell 0
    have e1 : w3.cell? ⟨g, 1, none⟩ = some (.string ⟨#[]⟩) := Q13.out.cell 1
    have e2 : w3.cell? ⟨g, 2, none⟩ = some (.int .i64 0) := Q13.out.cell 2
    have e3 : w3.cell? ⟨g, 3, none⟩ = some (.int .i64 0) := Q13.out.cell 3
    have f0 := Q13.out.frozen 0
    have f1 := Q13.out.frozen 1
    have f2 := Q13.out.frozen 2
    have f3 := Q13.out.frozen 3
    cases kw with
    | true =>
      go_wp2_with fail
      (try simp only [Exit.inBlock, Exit.then])
      refine bodyPost_ret (results_row_tmp rfl _ _ g 113 _ _ rfl (Q13.out.other ⟨gh, 0, none⟩ _ hgh).set4 Tryz.underlying113 rfl (by kernel_rfl)) rfl ?_
      refine ⟨_, _, _, rfl, HW.out.1 ▸ below_set4 (B3.out.setCell (p := ⟨gh, 0, none⟩) (Nat.le_of_lt l1) _) (Nat.le_refl _) _ _ _ _, ?_⟩
      exact ⟨rfl, rfl, rfl⟩
    | false =>
      have hUP := Lib.hid (hC.out m w3 (by decide) hm)
      cases u with
      | true =>
        go_wp2_with (go_at_call 128; refine hUP.out.mono ?_; rintro e w4 ⟨rfl, rfl⟩)
        (try simp only [Exit.inBlock, Exit.then])
        refine bodyPost_ret (results_row_tmp rfl _ _ g 113 _ _ rfl (Q13.out.other ⟨gh, 0, none⟩ _ hgh).set4 Tryz.underlying113 rfl (by kernel_rfl)) rfl ?_
        refine ⟨_, _, _, rfl, HW.out.1 ▸ below_set4 (B3.out.setCell (p := ⟨gh, 0, none⟩) (Nat.le_of_lt l1) _) (Nat.le_refl _) _ _ _ _, ?_⟩
        exact ⟨rfl, rfl, rfl⟩
      | false =>
        go_wp2_with (go_at_call 128; refine hUP.out.mono ?_; rintro e w4 ⟨rfl, rfl⟩)
        (try simp only [Exit.inBlock, Exit.then])
        refine bodyPost_ret (results_row_tmp rfl _ _ g 113 _ _ rfl Q13.out.set4 Tryz.underlying113 rfl (by kernel_rfl)) rfl ?_
        refine ⟨_, _, _, rfl, HW.out.1 ▸ below_set4 B3.out (Nat.le_refl _) _ _ _ _, ?_⟩
        exact ⟨rfl, rfl, rfl⟩
end Go.Proofs.YtoejjboanggenaaGreatDoor
