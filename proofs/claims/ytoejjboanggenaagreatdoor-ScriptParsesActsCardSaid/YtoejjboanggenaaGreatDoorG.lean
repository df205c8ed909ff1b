/-
Contract: FormatAct of the reference.
-/
import Derived.Test.YtoejjboanggenaaGreatDoorF
import Derived.Deep.DeepCutAuto
import Derived.Deep.RegionWith
namespace Go.Proofs.YtoejjboanggenaaGreatDoor
open Go.RowKit
set_option linter.unusedVariables false
set_option linter.unusedSimpArgs false

def spaced (ws : List (List UInt8)) : List UInt8 := ws.flatMap fun x => 32 :: x
def argW (zs : List Int) : List (List UInt8) := zs.map Lib.itoa
/-- the words behind the first, but for the two lists. -/
def fixW (d : Ad) : List (List UInt8) :=
  match d.k.toNat with
  | 0 => [Lib.itoa d.a, Lib.itoa d.b]
  | 10 => [Lib.itoa d.a, Lib.itoa d.b]
  | 11 => [Lib.itoa d.a, d.nm.data.toList, d.mt.data.toList]
  | 12 => [d.nm.data.toList, d.mt.data.toList]
  | 13 => [d.nm.data.toList]
  | 14 => [Lib.itoa d.a, Lib.itoa d.b]
  | 15 => [Lib.itoa d.b]
  | _ => [Lib.itoa d.a]
def tailW (d : Ad) : List (List UInt8) := fixW d ++ argW d.args ++ argW d.surv
def wordOf (k : Nat) : List UInt8 := (wordsL.getD k ByteArray.empty).data.toList
def fmtL (d : Ad) : List UInt8 := if validB d = true then wordOf d.k.toNat ++ spaced (tailW d) else []
theorem spaced_append (xs ys : List (List UInt8)) : spaced (xs ++ ys) = spaced xs ++ spaced ys := by simp [spaced]
theorem argW_snoc {zs : List Int} {k : Nat} {z : Int} (h : zs[k]? = some z) : argW (zs.take (k + 1)) = argW (zs.take k) ++ [Lib.itoa z] := by
  have hk := (List.getElem?_eq_some_iff.1 h).1
  have hz : zs[k] = z := by rw [List.getElem?_eq_getElem hk] at h; simpa using h
  unfold argW
  rw [List.take_succ_eq_append_getElem hk, List.map_append, hz]; rfl
theorem nstr_toList (n : Int) : (nstr n).data.toList = 32 :: Lib.itoa n := by unfold nstr; rfl
/-- all integers of the act are int64. -/
structure Wf (d : Ad) : Prop where
  a : I64 d.a
  b : I64 d.b
  args : ∀ z ∈ d.args, I64 z
  surv : ∀ z ∈ d.surv, I64 z
set_option maxRecDepth 100000 in
set_option maxHeartbeats 8000000 in
theorem fmt7_0 (v : Av) (d : Ad) (w : World) (h : Reads w w.heap.size v d) (hn : v.n ≤ 1000) (hn2 : v.n2 ≤ 1000) (hnm : v.nm.size ≤ 1000) (hmt : v.mt.size ≤ 1000) (hw : Wf d) (hk : v.k = 0) (hv : validB d = true) :
    Calls Tryz.prog 7 #[.agg v.cells] w fun e w' => e = .returned (.string ⟨(wordOf 0 ++ spaced (tailW d)).toArray⟩) ∧ Below w.heap.size w w' := by
  obtain ⟨k, a, b, nm, mt, zs, ys⟩ := d
  obtain ⟨k', a', b', nm', mt', A, n, c, A2, n2, c2⟩ := v
  obtain ⟨h1, h2, h3, h4, h5, ha, hs⟩ := h
  dsimp only at h1 h2 h3 h4 h5 ha hs hn hn2 hnm hmt hk
  subst h1 h2 h3 h4 h5 hk
  obtain ⟨wa, wb, wg, ws⟩ := hw
  dsimp only at wa wb wg ws
  unfold Av.cells
  dsimp only
  have hbel : Below w.heap.size w (w.alloc (.cells #[.int .i64 0, .int .i64 a', .int .i64 b', .string nm', .string mt', .slice A n c, .slice A2 n2 c2] 25)) := (Below.refl _ _).alloc (Nat.le_refl _) _
  have hR : Reads (w.alloc (.cells #[.int .i64 0, .int .i64 a', .int .i64 b', .string nm', .string mt', .slice A n c, .slice A2 n2 c2] 25)) (w.alloc (.cells #[.int .i64 0, .int .i64 a', .int .i64 b', .string nm', .string mt', .slice A n c, .slice A2 n2 c2] 25)).heap.size ⟨0, a', b', nm', mt', A, n, c, A2, n2, c2⟩ ⟨0, a', b', nm', mt', zs, ys⟩ := ⟨rfl, rfl, rfl, rfl, rfl, (ha.below hbel).more hbel.size, (hs.below hbel).more hbel.size⟩
  have hbx := Blk.new w 25 #[.int .i64 0, .int .i64 a', .int .i64 b', .string nm', .string mt', .slice A n c, .slice A2 n2 c2]
  generalize hW : w.alloc (.cells #[.int .i64 0, .int .i64 a', .int .i64 b', .string nm', .string mt', .slice A n c, .slice A2 n2 c2] 25) = W at *
  have hsz : W.heap.size = w.heap.size + 1 := by rw [← hW]; simp
  have HR := Lib.hid hR
  have HB := Lib.hid hbel
  have HX := Lib.hid hbx
  have HA := Lib.hid (And.intro ha hs)
  have HL := Lib.hid (And.intro ha.len hs.len)
  have HW := Lib.hid (And.intro wa (And.intro wb (And.intro wg ws)))
  have HV := Lib.hid hv
  have HS := Lib.hid hsz
  obtain ⟨S0, E0, Y0, add0⟩ := add_ex ⟨#[116, 117, 114, 110]⟩ (nstr a') (by have p : (⟨#[116, 117, 114, 110]⟩ : ByteArray).size = 4 := rfl; have q := nstr_size a'; have q2 := itoa_len wa; omega)
  have Z0 : S0.size ≤ 26 := by
    have p : (⟨#[116, 117, 114, 110]⟩ : ByteArray).size = 4 := rfl
    have q := nstr_size a'; have q2 := itoa_len wa
    omega
  have F0 := Lib.hid E0
  clear E0 Y0
  obtain ⟨S1, E1, Y1, add1⟩ := add_ex S0 (nstr b') (by have p := Z0; have q := nstr_size b'; have q2 := itoa_len wb; omega)
  have Z1 : S1.size ≤ 48 := by
    have p := Z0
    have q := nstr_size b'; have q2 := itoa_len wb
    omega
  have F1 := Lib.hid E1
  clear E1 Y1
  have hbase : S1.data.toList = wordOf 0 ++ spaced (fixW ⟨0, a', b', nm', mt', zs, ys⟩) := by
    rw [F1.out, F0.out]
    simp [fixW, spaced, nstr_toList, wordOf, wordsL]
  have HBASE := Lib.hid hbase
  clear hbase hbel hR hbx ha hs wa wb wg ws hv hsz
  have x0 : W.cell? ⟨w.heap.size, 0, none⟩ = some (.int .i64 0) := HX.out.cell 0
  have x1 : W.cell? ⟨w.heap.size, 1, none⟩ = some (.int .i64 a') := HX.out.cell 1
  have x2 : W.cell? ⟨w.heap.size, 2, none⟩ = some (.int .i64 b') := HX.out.cell 2
  have x3 : W.cell? ⟨w.heap.size, 3, none⟩ = some (.string nm') := HX.out.cell 3
  have x4 : W.cell? ⟨w.heap.size, 4, none⟩ = some (.string mt') := HX.out.cell 4
  have x5 : W.cell? ⟨w.heap.size, 5, none⟩ = some (.slice A n c) := HX.out.cell 5
  have x6 : W.cell? ⟨w.heap.size, 6, none⟩ = some (.slice A2 n2 c2) := HX.out.cell 6
  go_enter Tryz.func7, Tryz.ntmps7
  go_wp2_with fail
  refine (valid9 _ _ _ HR.out (Nat.le_trans hn (by decide)) (Nat.le_trans hn2 (by decide)) (Nat.le_trans hnm (by decide)) (Nat.le_trans hmt (by decide))).mono ?_
  rintro e w1 ⟨rfl, b1⟩
  rw [HV.out]
  have X1 := HX.out.below b1 HX.out.lt
  have B1 := HB.out.trans (b1.mono HB.out.size)
  have z1 : w.heap.size < w1.heap.size := X1.lt
  clear x0 x1 x2 x3 x4 x5 x6 hW
  have x0 : w1.cell? ⟨w.heap.size, 0, none⟩ = some (.int .i64 0) := X1.cell 0
  have x1 : w1.cell? ⟨w.heap.size, 1, none⟩ = some (.int .i64 a') := X1.cell 1
  have x2 : w1.cell? ⟨w.heap.size, 2, none⟩ = some (.int .i64 b') := X1.cell 2
  have x3 : w1.cell? ⟨w.heap.size, 3, none⟩ = some (.string nm') := X1.cell 3
  have x4 : w1.cell? ⟨w.heap.size, 4, none⟩ = some (.string mt') := X1.cell 4
  have x5 : w1.cell? ⟨w.heap.size, 5, none⟩ = some (.slice A n c) := X1.cell 5
  have x6 : w1.cell? ⟨w.heap.size, 6, none⟩ = some (.slice A2 n2 c2) := X1.cell 6
  have hkk : Below w1.heap.size w1 w1 := Below.refl _ _
  have B1' := Lib.hid B1
  have X1' := Lib.hid X1
  clear B1 X1 b1
  go_wp2_with fail
  go_cut [3] (fun s U => s = .string ⟨#[116, 117, 114, 110]⟩ ∧ Below w1.heap.size w1 U)
  case first =>
    go_region_with ((go_at_call 14
                     refine (words14 _).mono ?_
                     rintro e w2 ⟨rfl, hw2⟩
                     have hk2 : Below w1.heap.size w1 w2 := by rw [← hw2]; exact hkk.drew.alloc (Nat.le_refl _) _
                     have x0' : w2.cell? ⟨w.heap.size, 0, none⟩ = some (.int .i64 0) := (cells_below hk2 z1 0).trans x0
                     have hwc : w2.cell? ⟨w1.heap.size, 0, none⟩ = some (.string ⟨#[116, 117, 114, 110]⟩) := by rw [← hw2]; exact (Blk.new w1.drew 9 (wordsL.map Value.string).toArray).cell 0
                     clear hw2))
    all_goals
      go_wp2_with fail
      go_meet
      exact ⟨rfl, hk2⟩
  case rest =>
  obtain ⟨rfl, hkk⟩ := hcut
  obtain ⟨w2, rfl⟩ : ∃ w2 : World, w2 = wc := ⟨_, rfl⟩
  have X2 := X1'.out.below hkk z1
  have B2 := Lib.hid (B1'.out.trans (hkk.mono B1'.out.size))
  have z2 : w.heap.size < w2.heap.size := X2.lt
  clear x0 x1 x2 x3 x4 x5 x6 hkk
  have x0 : w2.cell? ⟨w.heap.size, 0, none⟩ = some (.int .i64 0) := X2.cell 0
  have x1 : w2.cell? ⟨w.heap.size, 1, none⟩ = some (.int .i64 a') := X2.cell 1
  have x2 : w2.cell? ⟨w.heap.size, 2, none⟩ = some (.int .i64 b') := X2.cell 2
  have x3 : w2.cell? ⟨w.heap.size, 3, none⟩ = some (.string nm') := X2.cell 3
  have x4 : w2.cell? ⟨w.heap.size, 4, none⟩ = some (.string mt') := X2.cell 4
  have x5 : w2.cell? ⟨w.heap.size, 5, none⟩ = some (.slice A n c) := X2.cell 5
  have x6 : w2.cell? ⟨w.heap.size, 6, none⟩ = some (.slice A2 n2 c2) := X2.cell 6
  go_wp2_with fail
  refine (number15 _ _ HW.out.1).mono ?_
  rintro e w3 ⟨rfl, b3⟩
  have X3 := X2.below b3 X2.lt
  have B3 := Lib.hid (B2.out.trans (b3.mono B2.out.size))
  have z3 : w.heap.size < w3.heap.size := X3.lt
  clear x0 x1 x2 x3 x4 x5 x6 b3 X2
  have x0 : w3.cell? ⟨w.heap.size, 0, none⟩ = some (.int .i64 0) := X3.cell 0
  have x1 : w3.cell? ⟨w.heap.size, 1, none⟩ = some (.int .i64 a') := X3.cell 1
  have x2 : w3.cell? ⟨w.heap.size, 2, none⟩ = some (.int .i64 b') := X3.cell 2
  have x3 : w3.cell? ⟨w.heap.size, 3, none⟩ = some (.string nm') := X3.cell 3
  have x4 : w3.cell? ⟨w.heap.size, 4, none⟩ = some (.string mt') := X3.cell 4
  have x5 : w3.cell? ⟨w.heap.size, 5, none⟩ = some (.slice A n c) := X3.cell 5
  have x6 : w3.cell? ⟨w.heap.size, 6, none⟩ = some (.slice A2 n2 c2) := X3.cell 6
  go_wp2_with fail
  refine (number15 _ _ HW.out.2.1).mono ?_
  rintro e w4 ⟨rfl, b4⟩
  have X4 := X3.below b4 X3.lt
  have B4 := Lib.hid (B3.out.trans (b4.mono B3.out.size))
  have z4 : w.heap.size < w4.heap.size := X4.lt
  clear x0 x1 x2 x3 x4 x5 x6 b4 X3
  have x0 : w4.cell? ⟨w.heap.size, 0, none⟩ = some (.int .i64 0) := X4.cell 0
  have x1 : w4.cell? ⟨w.heap.size, 1, none⟩ = some (.int .i64 a') := X4.cell 1
  have x2 : w4.cell? ⟨w.heap.size, 2, none⟩ = some (.int .i64 b') := X4.cell 2
  have x3 : w4.cell? ⟨w.heap.size, 3, none⟩ = some (.string nm') := X4.cell 3
  have x4 : w4.cell? ⟨w.heap.size, 4, none⟩ = some (.string mt') := X4.cell 4
  have x5 : w4.cell? ⟨w.heap.size, 5, none⟩ = some (.slice A n c) := X4.cell 5
  have x6 : w4.cell? ⟨w.heap.size, 6, none⟩ = some (.slice A2 n2 c2) := X4.cell 6
  go_wp2_with fail
  have hap := HA.out.1.below B4.out
  have HXp := Lib.hid X4
  clear X4
  go_loopw [3, 4] (fun s i wr => ∃ (q : Nat) (S : ByteArray), q ≤ n ∧ i = .int .i64 q ∧ s = .string S ∧ Below w4.heap.size w4 wr ∧ S.size ≤ 48 + q * 22 ∧ Hid (S.data.toList = wordOf 0 ++ spaced (fixW ⟨0, a', b', nm', mt', zs, ys⟩) ++ spaced (argW (zs.take q)))) (fun _ i _ => n - (intOf i).toNat)
  case atStart => exact ⟨0, _, Nat.zero_le _, rfl, rfl, Below.refl _ _, by omega, Lib.hid (by rw [HBASE.out]; simp [argW, spaced])⟩
  case round =>
    obtain ⟨q, S, hq, rfl, rfl, hbw, hS, HSL⟩ := hrel
    have y5 : wr.cell? ⟨w.heap.size, 5, none⟩ = some (.slice A n c) := (cells_below hbw HXp.out.lt 5).trans x5
    by_cases hlt : q < n
    · obtain ⟨bb, off, z, rfl, hbb, hz, hc⟩ := hap.at_ hlt
      have hc' : wr.cell? ⟨bb, off + q, none⟩ = some (.int .i64 z) := (cells_below hbw (Nat.lt_trans hbb HXp.out.lt) _).trans hc
      have hk0 : 0 ≤ (q : Int) := by omega
      have hk1 : (q : Int) < n := by omega
      have hzi : I64 z := HW.out.2.2.1 z (List.mem_of_getElem? hz)
      have HZ := Lib.hid (And.intro hz hzi)
      have hl21 := itoa_len hzi
      have hns := nstr_size z
      obtain ⟨S', E', Y', add'⟩ := add_ex S (nstr z) (by omega)
      have EE := Lib.hid E'
      have hS' : S'.size ≤ 48 + (q + 1) * 22 := by omega
      clear hz hzi hl21 hns E' Y' hc
      go_wp2_with fail
      refine (number15 _ _ HZ.out.2).mono ?_
      rintro e w9 ⟨rfl, b9⟩
      have hb9 := hbw.trans (b9.mono hbw.size)
      clear b9
      go_wp2_with fail
      go_roundw
      case rel => exact ⟨q + 1, S', by omega, by go_num, rfl, hb9, hS', Lib.hid (by rw [EE.out, HSL.out, argW_snoc HZ.out.1, spaced_append, nstr_toList]; simp [spaced])⟩
      case measure => simp [intOf]; omega
    · obtain rfl : q = n := by omega
      have HBp := Lib.hid (B4.out.trans (hbw.mono B4.out.size))
      have HSp : Hid (S.data.toList = wordOf 0 ++ spaced (fixW ⟨0, a', b', nm', mt', zs, ys⟩) ++ spaced (argW zs)) := by
        have h1 := HSL.out
        rw [List.take_of_length_le (by have := HL.out; omega)] at h1
        exact Lib.hid h1
      clear HSL
      have xx6 : wr.cell? ⟨w.heap.size, 6, none⟩ = some (.slice A2 n2 c2) := (cells_below hbw HXp.out.lt 6).trans x6
      have X9 := HXp.out.below hbw HXp.out.lt
      have hsz2 : S.size ≤ 48 + 1000 * 22 := by omega
      clear x0 x1 x2 x3 x4 x5 x6 hbw hS hlt
      have x6 := xx6
      clear xx6
      obtain ⟨wo, rfl⟩ : ∃ wo : World, wo = wr := ⟨_, rfl⟩
      go_wp2_with fail
      have has := HA.out.2.below HBp.out
      have HXs := Lib.hid X9
      clear X9
      go_loopw [3, 5] (fun s i wr => ∃ (q : Nat) (S : ByteArray), q ≤ n2 ∧ i = .int .i64 q ∧ s = .string S ∧ Below wo.heap.size wo wr ∧ S.size ≤ 22048 + q * 22 ∧ Hid (S.data.toList = (wordOf 0 ++ spaced (fixW ⟨0, a', b', nm', mt', zs, ys⟩) ++ spaced (argW zs)) ++ spaced (argW (ys.take q)))) (fun _ i _ => n2 - (intOf i).toNat)
      case atStart => exact ⟨0, _, Nat.zero_le _, rfl, rfl, Below.refl _ _, by omega, Lib.hid (by rw [HSp.out]; simp [argW, spaced])⟩
      case round =>
        obtain ⟨q, S, hq, rfl, rfl, hbw, hS, HSL⟩ := hrel
        have y6 : wr.cell? ⟨w.heap.size, 6, none⟩ = some (.slice A2 n2 c2) := (cells_below hbw HXs.out.lt 6).trans x6
        by_cases hlt : q < n2
        · obtain ⟨bb, off, z, rfl, hbb, hz, hc⟩ := has.at_ hlt
          have hc' : wr.cell? ⟨bb, off + q, none⟩ = some (.int .i64 z) := (cells_below hbw (Nat.lt_trans hbb HXs.out.lt) _).trans hc
          have hk0 : 0 ≤ (q : Int) := by omega
          have hk1 : (q : Int) < n2 := by omega
          have hzi : I64 z := HW.out.2.2.2 z (List.mem_of_getElem? hz)
          have HZ := Lib.hid (And.intro hz hzi)
          have hl21 := itoa_len hzi
          have hns := nstr_size z
          obtain ⟨S', E', Y', add'⟩ := add_ex S (nstr z) (by omega)
          have EE := Lib.hid E'
          have hS' : S'.size ≤ 22048 + (q + 1) * 22 := by omega
          clear hz hzi hl21 hns E' Y' hc
          go_wp2_with fail
          refine (number15 _ _ HZ.out.2).mono ?_
          rintro e w9 ⟨rfl, b9⟩
          have hb9 := hbw.trans (b9.mono hbw.size)
          clear b9
          go_wp2_with fail
          go_roundw
          case rel => exact ⟨q + 1, S', by omega, by go_num, rfl, hb9, hS', Lib.hid (by rw [EE.out, HSL.out, argW_snoc HZ.out.1, spaced_append, nstr_toList]; simp [spaced])⟩
          case measure => simp [intOf]; omega
        · obtain rfl : q = n2 := by omega
          have HBs := Lib.hid (HBp.out.trans (hbw.mono HBp.out.size))
          have HSs : Hid (S.data.toList = (wordOf 0 ++ spaced (fixW ⟨0, a', b', nm', mt', zs, ys⟩) ++ spaced (argW zs)) ++ spaced (argW ys)) := by
            have h1 := HSL.out
            rw [List.take_of_length_le (by have := HL.out; omega)] at h1
            exact Lib.hid h1
          clear HSL
          go_wp2_with fail
          go_ret
          refine ⟨ret_str (ba_eq ?_), HBs.out⟩
          rw [HSs.out]
          simp [tailW, spaced_append]

set_option maxRecDepth 100000 in
set_option maxHeartbeats 8000000 in
theorem fmt7_1 (v : Av) (d : Ad) (w : World) (h : Reads w w.heap.size v d) (hn : v.n ≤ 1000) (hn2 : v.n2 ≤ 1000) (hnm : v.nm.size ≤ 1000) (hmt : v.mt.size ≤ 1000) (hw : Wf d) (hk : v.k = 1) (hv : validB d = true) :
    Calls Tryz.prog 7 #[.agg v.cells] w fun e w' => e = .returned (.string ⟨(wordOf 1 ++ spaced (tailW d)).toArray⟩) ∧ Below w.heap.size w w' := by
  obtain ⟨k, a, b, nm, mt, zs, ys⟩ := d
  obtain ⟨k', a', b', nm', mt', A, n, c, A2, n2, c2⟩ := v
  obtain ⟨h1, h2, h3, h4, h5, ha, hs⟩ := h
  dsimp only at h1 h2 h3 h4 h5 ha hs hn hn2 hnm hmt hk
  subst h1 h2 h3 h4 h5 hk
  obtain ⟨wa, wb, wg, ws⟩ := hw
  dsimp only at wa wb wg ws
  unfold Av.cells
  dsimp only
  have hbel : Below w.heap.size w (w.alloc (.cells #[.int .i64 1, .int .i64 a', .int .i64 b', .string nm', .string mt', .slice A n c, .slice A2 n2 c2] 25)) := (Below.refl _ _).alloc (Nat.le_refl _) _
  have hR : Reads (w.alloc (.cells #[.int .i64 1, .int .i64 a', .int .i64 b', .string nm', .string mt', .slice A n c, .slice A2 n2 c2] 25)) (w.alloc (.cells #[.int .i64 1, .int .i64 a', .int .i64 b', .string nm', .string mt', .slice A n c, .slice A2 n2 c2] 25)).heap.size ⟨1, a', b', nm', mt', A, n, c, A2, n2, c2⟩ ⟨1, a', b', nm', mt', zs, ys⟩ := ⟨rfl, rfl, rfl, rfl, rfl, (ha.below hbel).more hbel.size, (hs.below hbel).more hbel.size⟩
  have hbx := Blk.new w 25 #[.int .i64 1, .int .i64 a', .int .i64 b', .string nm', .string mt', .slice A n c, .slice A2 n2 c2]
  generalize hW : w.alloc (.cells #[.int .i64 1, .int .i64 a', .int .i64 b', .string nm', .string mt', .slice A n c, .slice A2 n2 c2] 25) = W at *
  have hsz : W.heap.size = w.heap.size + 1 := by rw [← hW]; simp
  have HR := Lib.hid hR
  have HB := Lib.hid hbel
  have HX := Lib.hid hbx
  have HA := Lib.hid (And.intro ha hs)
  have HL := Lib.hid (And.intro ha.len hs.len)
  have HW := Lib.hid (And.intro wa (And.intro wb (And.intro wg ws)))
  have HV := Lib.hid hv
  have HS := Lib.hid hsz
  obtain ⟨S0, E0, Y0, add0⟩ := add_ex ⟨#[100, 101, 108, 105, 118, 101, 114]⟩ (nstr a') (by have p : (⟨#[100, 101, 108, 105, 118, 101, 114]⟩ : ByteArray).size = 7 := rfl; have q := nstr_size a'; have q2 := itoa_len wa; omega)
  have Z0 : S0.size ≤ 29 := by
    have p : (⟨#[100, 101, 108, 105, 118, 101, 114]⟩ : ByteArray).size = 7 := rfl
    have q := nstr_size a'; have q2 := itoa_len wa
    omega
  have F0 := Lib.hid E0
  clear E0 Y0
  have hbase : S0.data.toList = wordOf 1 ++ spaced (fixW ⟨1, a', b', nm', mt', zs, ys⟩) := by
    rw [F0.out]
    simp [fixW, spaced, nstr_toList, wordOf, wordsL]
  have HBASE := Lib.hid hbase
  clear hbase hbel hR hbx ha hs wa wb wg ws hv hsz
  have x0 : W.cell? ⟨w.heap.size, 0, none⟩ = some (.int .i64 1) := HX.out.cell 0
  have x1 : W.cell? ⟨w.heap.size, 1, none⟩ = some (.int .i64 a') := HX.out.cell 1
  have x2 : W.cell? ⟨w.heap.size, 2, none⟩ = some (.int .i64 b') := HX.out.cell 2
  have x3 : W.cell? ⟨w.heap.size, 3, none⟩ = some (.string nm') := HX.out.cell 3
  have x4 : W.cell? ⟨w.heap.size, 4, none⟩ = some (.string mt') := HX.out.cell 4
  have x5 : W.cell? ⟨w.heap.size, 5, none⟩ = some (.slice A n c) := HX.out.cell 5
  have x6 : W.cell? ⟨w.heap.size, 6, none⟩ = some (.slice A2 n2 c2) := HX.out.cell 6
  go_enter Tryz.func7, Tryz.ntmps7
  go_wp2_with fail
  refine (valid9 _ _ _ HR.out (Nat.le_trans hn (by decide)) (Nat.le_trans hn2 (by decide)) (Nat.le_trans hnm (by decide)) (Nat.le_trans hmt (by decide))).mono ?_
  rintro e w1 ⟨rfl, b1⟩
  rw [HV.out]
  have X1 := HX.out.below b1 HX.out.lt
  have B1 := HB.out.trans (b1.mono HB.out.size)
  have z1 : w.heap.size < w1.heap.size := X1.lt
  clear x0 x1 x2 x3 x4 x5 x6 hW
  have x0 : w1.cell? ⟨w.heap.size, 0, none⟩ = some (.int .i64 1) := X1.cell 0
  have x1 : w1.cell? ⟨w.heap.size, 1, none⟩ = some (.int .i64 a') := X1.cell 1
  have x2 : w1.cell? ⟨w.heap.size, 2, none⟩ = some (.int .i64 b') := X1.cell 2
  have x3 : w1.cell? ⟨w.heap.size, 3, none⟩ = some (.string nm') := X1.cell 3
  have x4 : w1.cell? ⟨w.heap.size, 4, none⟩ = some (.string mt') := X1.cell 4
  have x5 : w1.cell? ⟨w.heap.size, 5, none⟩ = some (.slice A n c) := X1.cell 5
  have x6 : w1.cell? ⟨w.heap.size, 6, none⟩ = some (.slice A2 n2 c2) := X1.cell 6
  have hkk : Below w1.heap.size w1 w1 := Below.refl _ _
  have B1' := Lib.hid B1
  have X1' := Lib.hid X1
  clear B1 X1 b1
  go_wp2_with fail
  go_cut [3] (fun s U => s = .string ⟨#[100, 101, 108, 105, 118, 101, 114]⟩ ∧ Below w1.heap.size w1 U)
  case first =>
    go_region_with ((go_at_call 14
                     refine (words14 _).mono ?_
                     rintro e w2 ⟨rfl, hw2⟩
                     have hk2 : Below w1.heap.size w1 w2 := by rw [← hw2]; exact hkk.drew.alloc (Nat.le_refl _) _
                     have x0' : w2.cell? ⟨w.heap.size, 0, none⟩ = some (.int .i64 1) := (cells_below hk2 z1 0).trans x0
                     have hwc : w2.cell? ⟨w1.heap.size, 1, none⟩ = some (.string ⟨#[100, 101, 108, 105, 118, 101, 114]⟩) := by rw [← hw2]; exact (Blk.new w1.drew 9 (wordsL.map Value.string).toArray).cell 1
                     clear hw2))
    all_goals
      go_wp2_with fail
      go_meet
      exact ⟨rfl, hk2⟩
  case rest =>
  obtain ⟨rfl, hkk⟩ := hcut
  obtain ⟨w2, rfl⟩ : ∃ w2 : World, w2 = wc := ⟨_, rfl⟩
  have X2 := X1'.out.below hkk z1
  have B2 := Lib.hid (B1'.out.trans (hkk.mono B1'.out.size))
  have z2 : w.heap.size < w2.heap.size := X2.lt
  clear x0 x1 x2 x3 x4 x5 x6 hkk
  have x0 : w2.cell? ⟨w.heap.size, 0, none⟩ = some (.int .i64 1) := X2.cell 0
  have x1 : w2.cell? ⟨w.heap.size, 1, none⟩ = some (.int .i64 a') := X2.cell 1
  have x2 : w2.cell? ⟨w.heap.size, 2, none⟩ = some (.int .i64 b') := X2.cell 2
  have x3 : w2.cell? ⟨w.heap.size, 3, none⟩ = some (.string nm') := X2.cell 3
  have x4 : w2.cell? ⟨w.heap.size, 4, none⟩ = some (.string mt') := X2.cell 4
  have x5 : w2.cell? ⟨w.heap.size, 5, none⟩ = some (.slice A n c) := X2.cell 5
  have x6 : w2.cell? ⟨w.heap.size, 6, none⟩ = some (.slice A2 n2 c2) := X2.cell 6
  go_wp2_with fail
  refine (number15 _ _ HW.out.1).mono ?_
  rintro e w3 ⟨rfl, b3⟩
  have X3 := X2.below b3 X2.lt
  have B3 := Lib.hid (B2.out.trans (b3.mono B2.out.size))
  have z3 : w.heap.size < w3.heap.size := X3.lt
  clear x0 x1 x2 x3 x4 x5 x6 b3 X2
  have x0 : w3.cell? ⟨w.heap.size, 0, none⟩ = some (.int .i64 1) := X3.cell 0
  have x1 : w3.cell? ⟨w.heap.size, 1, none⟩ = some (.int .i64 a') := X3.cell 1
  have x2 : w3.cell? ⟨w.heap.size, 2, none⟩ = some (.int .i64 b') := X3.cell 2
  have x3 : w3.cell? ⟨w.heap.size, 3, none⟩ = some (.string nm') := X3.cell 3
  have x4 : w3.cell? ⟨w.heap.size, 4, none⟩ = some (.string mt') := X3.cell 4
  have x5 : w3.cell? ⟨w.heap.size, 5, none⟩ = some (.slice A n c) := X3.cell 5
  have x6 : w3.cell? ⟨w.heap.size, 6, none⟩ = some (.slice A2 n2 c2) := X3.cell 6
  go_wp2_with fail
  have hap := HA.out.1.below B3.out
  have HXp := Lib.hid X3
  clear X3
  go_loopw [3, 4] (fun s i wr => ∃ (q : Nat) (S : ByteArray), q ≤ n ∧ i = .int .i64 q ∧ s = .string S ∧ Below w3.heap.size w3 wr ∧ S.size ≤ 29 + q * 22 ∧ Hid (S.data.toList = wordOf 1 ++ spaced (fixW ⟨1, a', b', nm', mt', zs, ys⟩) ++ spaced (argW (zs.take q)))) (fun _ i _ => n - (intOf i).toNat)
  case atStart => exact ⟨0, _, Nat.zero_le _, rfl, rfl, Below.refl _ _, by omega, Lib.hid (by rw [HBASE.out]; simp [argW, spaced])⟩
  case round =>
    obtain ⟨q, S, hq, rfl, rfl, hbw, hS, HSL⟩ := hrel
    have y5 : wr.cell? ⟨w.heap.size, 5, none⟩ = some (.slice A n c) := (cells_below hbw HXp.out.lt 5).trans x5
    by_cases hlt : q < n
    · obtain ⟨bb, off, z, rfl, hbb, hz, hc⟩ := hap.at_ hlt
      have hc' : wr.cell? ⟨bb, off + q, none⟩ = some (.int .i64 z) := (cells_below hbw (Nat.lt_trans hbb HXp.out.lt) _).trans hc
      have hk0 : 0 ≤ (q : Int) := by omega
      have hk1 : (q : Int) < n := by omega
      have hzi : I64 z := HW.out.2.2.1 z (List.mem_of_getElem? hz)
      have HZ := Lib.hid (And.intro hz hzi)
      have hl21 := itoa_len hzi
      have hns := nstr_size z
      obtain ⟨S', E', Y', add'⟩ := add_ex S (nstr z) (by omega)
      have EE := Lib.hid E'
      have hS' : S'.size ≤ 29 + (q + 1) * 22 := by omega
      clear hz hzi hl21 hns E' Y' hc
      go_wp2_with fail
      refine (number15 _ _ HZ.out.2).mono ?_
      rintro e w9 ⟨rfl, b9⟩
      have hb9 := hbw.trans (b9.mono hbw.size)
      clear b9
      go_wp2_with fail
      go_roundw
      case rel => exact ⟨q + 1, S', by omega, by go_num, rfl, hb9, hS', Lib.hid (by rw [EE.out, HSL.out, argW_snoc HZ.out.1, spaced_append, nstr_toList]; simp [spaced])⟩
      case measure => simp [intOf]; omega
    · obtain rfl : q = n := by omega
      have HBp := Lib.hid (B3.out.trans (hbw.mono B3.out.size))
      have HSp : Hid (S.data.toList = wordOf 1 ++ spaced (fixW ⟨1, a', b', nm', mt', zs, ys⟩) ++ spaced (argW zs)) := by
        have h1 := HSL.out
        rw [List.take_of_length_le (by have := HL.out; omega)] at h1
        exact Lib.hid h1
      clear HSL
      have xx6 : wr.cell? ⟨w.heap.size, 6, none⟩ = some (.slice A2 n2 c2) := (cells_below hbw HXp.out.lt 6).trans x6
      have X9 := HXp.out.below hbw HXp.out.lt
      have hsz2 : S.size ≤ 29 + 1000 * 22 := by omega
      clear x0 x1 x2 x3 x4 x5 x6 hbw hS hlt
      have x6 := xx6
      clear xx6
      obtain ⟨wo, rfl⟩ : ∃ wo : World, wo = wr := ⟨_, rfl⟩
      go_wp2_with fail
      have has := HA.out.2.below HBp.out
      have HXs := Lib.hid X9
      clear X9
      go_loopw [3, 5] (fun s i wr => ∃ (q : Nat) (S : ByteArray), q ≤ n2 ∧ i = .int .i64 q ∧ s = .string S ∧ Below wo.heap.size wo wr ∧ S.size ≤ 22029 + q * 22 ∧ Hid (S.data.toList = (wordOf 1 ++ spaced (fixW ⟨1, a', b', nm', mt', zs, ys⟩) ++ spaced (argW zs)) ++ spaced (argW (ys.take q)))) (fun _ i _ => n2 - (intOf i).toNat)
      case atStart => exact ⟨0, _, Nat.zero_le _, rfl, rfl, Below.refl _ _, by omega, Lib.hid (by rw [HSp.out]; simp [argW, spaced])⟩
      case round =>
        obtain ⟨q, S, hq, rfl, rfl, hbw, hS, HSL⟩ := hrel
        have y6 : wr.cell? ⟨w.heap.size, 6, none⟩ = some (.slice A2 n2 c2) := (cells_below hbw HXs.out.lt 6).trans x6
        by_cases hlt : q < n2
        · obtain ⟨bb, off, z, rfl, hbb, hz, hc⟩ := has.at_ hlt
          have hc' : wr.cell? ⟨bb, off + q, none⟩ = some (.int .i64 z) := (cells_below hbw (Nat.lt_trans hbb HXs.out.lt) _).trans hc
          have hk0 : 0 ≤ (q : Int) := by omega
          have hk1 : (q : Int) < n2 := by omega
          have hzi : I64 z := HW.out.2.2.2 z (List.mem_of_getElem? hz)
          have HZ := Lib.hid (And.intro hz hzi)
          have hl21 := itoa_len hzi
          have hns := nstr_size z
          obtain ⟨S', E', Y', add'⟩ := add_ex S (nstr z) (by omega)
          have EE := Lib.hid E'
          have hS' : S'.size ≤ 22029 + (q + 1) * 22 := by omega
          clear hz hzi hl21 hns E' Y' hc
          go_wp2_with fail
          refine (number15 _ _ HZ.out.2).mono ?_
          rintro e w9 ⟨rfl, b9⟩
          have hb9 := hbw.trans (b9.mono hbw.size)
          clear b9
          go_wp2_with fail
          go_roundw
          case rel => exact ⟨q + 1, S', by omega, by go_num, rfl, hb9, hS', Lib.hid (by rw [EE.out, HSL.out, argW_snoc HZ.out.1, spaced_append, nstr_toList]; simp [spaced])⟩
          case measure => simp [intOf]; omega
        · obtain rfl : q = n2 := by omega
          have HBs := Lib.hid (HBp.out.trans (hbw.mono HBp.out.size))
          have HSs : Hid (S.data.toList = (wordOf 1 ++ spaced (fixW ⟨1, a', b', nm', mt', zs, ys⟩) ++ spaced (argW zs)) ++ spaced (argW ys)) := by
            have h1 := HSL.out
            rw [List.take_of_length_le (by have := HL.out; omega)] at h1
            exact Lib.hid h1
          clear HSL
          go_wp2_with fail
          go_ret
          refine ⟨ret_str (ba_eq ?_), HBs.out⟩
          rw [HSs.out]
          simp [tailW, spaced_append]

set_option maxRecDepth 100000 in
set_option maxHeartbeats 8000000 in
theorem fmt7_2 (v : Av) (d : Ad) (w : World) (h : Reads w w.heap.size v d) (hn : v.n ≤ 1000) (hn2 : v.n2 ≤ 1000) (hnm : v.nm.size ≤ 1000) (hmt : v.mt.size ≤ 1000) (hw : Wf d) (hk : v.k = 2) (hv : validB d = true) :
    Calls Tryz.prog 7 #[.agg v.cells] w fun e w' => e = .returned (.string ⟨(wordOf 2 ++ spaced (tailW d)).toArray⟩) ∧ Below w.heap.size w w' := by
  obtain ⟨k, a, b, nm, mt, zs, ys⟩ := d
  obtain ⟨k', a', b', nm', mt', A, n, c, A2, n2, c2⟩ := v
  obtain ⟨h1, h2, h3, h4, h5, ha, hs⟩ := h
  dsimp only at h1 h2 h3 h4 h5 ha hs hn hn2 hnm hmt hk
  subst h1 h2 h3 h4 h5 hk
  obtain ⟨wa, wb, wg, ws⟩ := hw
  dsimp only at wa wb wg ws
  unfold Av.cells
  dsimp only
  have hbel : Below w.heap.size w (w.alloc (.cells #[.int .i64 2, .int .i64 a', .int .i64 b', .string nm', .string mt', .slice A n c, .slice A2 n2 c2] 25)) := (Below.refl _ _).alloc (Nat.le_refl _) _
  have hR : Reads (w.alloc (.cells #[.int .i64 2, .int .i64 a', .int .i64 b', .string nm', .string mt', .slice A n c, .slice A2 n2 c2] 25)) (w.alloc (.cells #[.int .i64 2, .int .i64 a', .int .i64 b', .string nm', .string mt', .slice A n c, .slice A2 n2 c2] 25)).heap.size ⟨2, a', b', nm', mt', A, n, c, A2, n2, c2⟩ ⟨2, a', b', nm', mt', zs, ys⟩ := ⟨rfl, rfl, rfl, rfl, rfl, (ha.below hbel).more hbel.size, (hs.below hbel).more hbel.size⟩
  have hbx := Blk.new w 25 #[.int .i64 2, .int .i64 a', .int .i64 b', .string nm', .string mt', .slice A n c, .slice A2 n2 c2]
  generalize hW : w.alloc (.cells #[.int .i64 2, .int .i64 a', .int .i64 b', .string nm', .string mt', .slice A n c, .slice A2 n2 c2] 25) = W at *
  have hsz : W.heap.size = w.heap.size + 1 := by rw [← hW]; simp
  have HR := Lib.hid hR
  have HB := Lib.hid hbel
  have HX := Lib.hid hbx
  have HA := Lib.hid (And.intro ha hs)
  have HL := Lib.hid (And.intro ha.len hs.len)
  have HW := Lib.hid (And.intro wa (And.intro wb (And.intro wg ws)))
  have HV := Lib.hid hv
  have HS := Lib.hid hsz
  obtain ⟨S0, E0, Y0, add0⟩ := add_ex ⟨#[100, 114, 111, 112]⟩ (nstr a') (by have p : (⟨#[100, 114, 111, 112]⟩ : ByteArray).size = 4 := rfl; have q := nstr_size a'; have q2 := itoa_len wa; omega)
  have Z0 : S0.size ≤ 26 := by
    have p : (⟨#[100, 114, 111, 112]⟩ : ByteArray).size = 4 := rfl
    have q := nstr_size a'; have q2 := itoa_len wa
    omega
  have F0 := Lib.hid E0
  clear E0 Y0
  have hbase : S0.data.toList = wordOf 2 ++ spaced (fixW ⟨2, a', b', nm', mt', zs, ys⟩) := by
    rw [F0.out]
    simp [fixW, spaced, nstr_toList, wordOf, wordsL]
  have HBASE := Lib.hid hbase
  clear hbase hbel hR hbx ha hs wa wb wg ws hv hsz
  have x0 : W.cell? ⟨w.heap.size, 0, none⟩ = some (.int .i64 2) := HX.out.cell 0
  have x1 : W.cell? ⟨w.heap.size, 1, none⟩ = some (.int .i64 a') := HX.out.cell 1
  have x2 : W.cell? ⟨w.heap.size, 2, none⟩ = some (.int .i64 b') := HX.out.cell 2
  have x3 : W.cell? ⟨w.heap.size, 3, none⟩ = some (.string nm') := HX.out.cell 3
  have x4 : W.cell? ⟨w.heap.size, 4, none⟩ = some (.string mt') := HX.out.cell 4
  have x5 : W.cell? ⟨w.heap.size, 5, none⟩ = some (.slice A n c) := HX.out.cell 5
  have x6 : W.cell? ⟨w.heap.size, 6, none⟩ = some (.slice A2 n2 c2) := HX.out.cell 6
  go_enter Tryz.func7, Tryz.ntmps7
  go_wp2_with fail
  refine (valid9 _ _ _ HR.out (Nat.le_trans hn (by decide)) (Nat.le_trans hn2 (by decide)) (Nat.le_trans hnm (by decide)) (Nat.le_trans hmt (by decide))).mono ?_
  rintro e w1 ⟨rfl, b1⟩
  rw [HV.out]
  have X1 := HX.out.below b1 HX.out.lt
  have B1 := HB.out.trans (b1.mono HB.out.size)
  have z1 : w.heap.size < w1.heap.size := X1.lt
  clear x0 x1 x2 x3 x4 x5 x6 hW
  have x0 : w1.cell? ⟨w.heap.size, 0, none⟩ = some (.int .i64 2) := X1.cell 0
  have x1 : w1.cell? ⟨w.heap.size, 1, none⟩ = some (.int .i64 a') := X1.cell 1
  have x2 : w1.cell? ⟨w.heap.size, 2, none⟩ = some (.int .i64 b') := X1.cell 2
  have x3 : w1.cell? ⟨w.heap.size, 3, none⟩ = some (.string nm') := X1.cell 3
  have x4 : w1.cell? ⟨w.heap.size, 4, none⟩ = some (.string mt') := X1.cell 4
  have x5 : w1.cell? ⟨w.heap.size, 5, none⟩ = some (.slice A n c) := X1.cell 5
  have x6 : w1.cell? ⟨w.heap.size, 6, none⟩ = some (.slice A2 n2 c2) := X1.cell 6
  have hkk : Below w1.heap.size w1 w1 := Below.refl _ _
  have B1' := Lib.hid B1
  have X1' := Lib.hid X1
  clear B1 X1 b1
  go_wp2_with fail
  go_cut [3] (fun s U => s = .string ⟨#[100, 114, 111, 112]⟩ ∧ Below w1.heap.size w1 U)
  case first =>
    go_region_with ((go_at_call 14
                     refine (words14 _).mono ?_
                     rintro e w2 ⟨rfl, hw2⟩
                     have hk2 : Below w1.heap.size w1 w2 := by rw [← hw2]; exact hkk.drew.alloc (Nat.le_refl _) _
                     have x0' : w2.cell? ⟨w.heap.size, 0, none⟩ = some (.int .i64 2) := (cells_below hk2 z1 0).trans x0
                     have hwc : w2.cell? ⟨w1.heap.size, 2, none⟩ = some (.string ⟨#[100, 114, 111, 112]⟩) := by rw [← hw2]; exact (Blk.new w1.drew 9 (wordsL.map Value.string).toArray).cell 2
                     clear hw2))
    all_goals
      go_wp2_with fail
      go_meet
      exact ⟨rfl, hk2⟩
  case rest =>
  obtain ⟨rfl, hkk⟩ := hcut
  obtain ⟨w2, rfl⟩ : ∃ w2 : World, w2 = wc := ⟨_, rfl⟩
  have X2 := X1'.out.below hkk z1
  have B2 := Lib.hid (B1'.out.trans (hkk.mono B1'.out.size))
  have z2 : w.heap.size < w2.heap.size := X2.lt
  clear x0 x1 x2 x3 x4 x5 x6 hkk
  have x0 : w2.cell? ⟨w.heap.size, 0, none⟩ = some (.int .i64 2) := X2.cell 0
  have x1 : w2.cell? ⟨w.heap.size, 1, none⟩ = some (.int .i64 a') := X2.cell 1
  have x2 : w2.cell? ⟨w.heap.size, 2, none⟩ = some (.int .i64 b') := X2.cell 2
  have x3 : w2.cell? ⟨w.heap.size, 3, none⟩ = some (.string nm') := X2.cell 3
  have x4 : w2.cell? ⟨w.heap.size, 4, none⟩ = some (.string mt') := X2.cell 4
  have x5 : w2.cell? ⟨w.heap.size, 5, none⟩ = some (.slice A n c) := X2.cell 5
  have x6 : w2.cell? ⟨w.heap.size, 6, none⟩ = some (.slice A2 n2 c2) := X2.cell 6
  go_wp2_with fail
  refine (number15 _ _ HW.out.1).mono ?_
  rintro e w3 ⟨rfl, b3⟩
  have X3 := X2.below b3 X2.lt
  have B3 := Lib.hid (B2.out.trans (b3.mono B2.out.size))
  have z3 : w.heap.size < w3.heap.size := X3.lt
  clear x0 x1 x2 x3 x4 x5 x6 b3 X2
  have x0 : w3.cell? ⟨w.heap.size, 0, none⟩ = some (.int .i64 2) := X3.cell 0
  have x1 : w3.cell? ⟨w.heap.size, 1, none⟩ = some (.int .i64 a') := X3.cell 1
  have x2 : w3.cell? ⟨w.heap.size, 2, none⟩ = some (.int .i64 b') := X3.cell 2
  have x3 : w3.cell? ⟨w.heap.size, 3, none⟩ = some (.string nm') := X3.cell 3
  have x4 : w3.cell? ⟨w.heap.size, 4, none⟩ = some (.string mt') := X3.cell 4
  have x5 : w3.cell? ⟨w.heap.size, 5, none⟩ = some (.slice A n c) := X3.cell 5
  have x6 : w3.cell? ⟨w.heap.size, 6, none⟩ = some (.slice A2 n2 c2) := X3.cell 6
  go_wp2_with fail
  have hap := HA.out.1.below B3.out
  have HXp := Lib.hid X3
  clear X3
  go_loopw [3, 4] (fun s i wr => ∃ (q : Nat) (S : ByteArray), q ≤ n ∧ i = .int .i64 q ∧ s = .string S ∧ Below w3.heap.size w3 wr ∧ S.size ≤ 26 + q * 22 ∧ Hid (S.data.toList = wordOf 2 ++ spaced (fixW ⟨2, a', b', nm', mt', zs, ys⟩) ++ spaced (argW (zs.take q)))) (fun _ i _ => n - (intOf i).toNat)
  case atStart => exact ⟨0, _, Nat.zero_le _, rfl, rfl, Below.refl _ _, by omega, Lib.hid (by rw [HBASE.out]; simp [argW, spaced])⟩
  case round =>
    obtain ⟨q, S, hq, rfl, rfl, hbw, hS, HSL⟩ := hrel
    have y5 : wr.cell? ⟨w.heap.size, 5, none⟩ = some (.slice A n c) := (cells_below hbw HXp.out.lt 5).trans x5
    by_cases hlt : q < n
    · obtain ⟨bb, off, z, rfl, hbb, hz, hc⟩ := hap.at_ hlt
      have hc' : wr.cell? ⟨bb, off + q, none⟩ = some (.int .i64 z) := (cells_below hbw (Nat.lt_trans hbb HXp.out.lt) _).trans hc
      have hk0 : 0 ≤ (q : Int) := by omega
      have hk1 : (q : Int) < n := by omega
      have hzi : I64 z := HW.out.2.2.1 z (List.mem_of_getElem? hz)
      have HZ := Lib.hid (And.intro hz hzi)
      have hl21 := itoa_len hzi
      have hns := nstr_size z
      obtain ⟨S', E', Y', add'⟩ := add_ex S (nstr z) (by omega)
      have EE := Lib.hid E'
      have hS' : S'.size ≤ 26 + (q + 1) * 22 := by omega
      clear hz hzi hl21 hns E' Y' hc
      go_wp2_with fail
      refine (number15 _ _ HZ.out.2).mono ?_
      rintro e w9 ⟨rfl, b9⟩
      have hb9 := hbw.trans (b9.mono hbw.size)
      clear b9
      go_wp2_with fail
      go_roundw
      case rel => exact ⟨q + 1, S', by omega, by go_num, rfl, hb9, hS', Lib.hid (by rw [EE.out, HSL.out, argW_snoc HZ.out.1, spaced_append, nstr_toList]; simp [spaced])⟩
      case measure => simp [intOf]; omega
    · obtain rfl : q = n := by omega
      have HBp := Lib.hid (B3.out.trans (hbw.mono B3.out.size))
      have HSp : Hid (S.data.toList = wordOf 2 ++ spaced (fixW ⟨2, a', b', nm', mt', zs, ys⟩) ++ spaced (argW zs)) := by
        have h1 := HSL.out
        rw [List.take_of_length_le (by have := HL.out; omega)] at h1
        exact Lib.hid h1
      clear HSL
      have xx6 : wr.cell? ⟨w.heap.size, 6, none⟩ = some (.slice A2 n2 c2) := (cells_below hbw HXp.out.lt 6).trans x6
      have X9 := HXp.out.below hbw HXp.out.lt
      have hsz2 : S.size ≤ 26 + 1000 * 22 := by omega
      clear x0 x1 x2 x3 x4 x5 x6 hbw hS hlt
      have x6 := xx6
      clear xx6
      obtain ⟨wo, rfl⟩ : ∃ wo : World, wo = wr := ⟨_, rfl⟩
      go_wp2_with fail
      have has := HA.out.2.below HBp.out
      have HXs := Lib.hid X9
      clear X9
      go_loopw [3, 5] (fun s i wr => ∃ (q : Nat) (S : ByteArray), q ≤ n2 ∧ i = .int .i64 q ∧ s = .string S ∧ Below wo.heap.size wo wr ∧ S.size ≤ 22026 + q * 22 ∧ Hid (S.data.toList = (wordOf 2 ++ spaced (fixW ⟨2, a', b', nm', mt', zs, ys⟩) ++ spaced (argW zs)) ++ spaced (argW (ys.take q)))) (fun _ i _ => n2 - (intOf i).toNat)
      case atStart => exact ⟨0, _, Nat.zero_le _, rfl, rfl, Below.refl _ _, by omega, Lib.hid (by rw [HSp.out]; simp [argW, spaced])⟩
      case round =>
        obtain ⟨q, S, hq, rfl, rfl, hbw, hS, HSL⟩ := hrel
        have y6 : wr.cell? ⟨w.heap.size, 6, none⟩ = some (.slice A2 n2 c2) := (cells_below hbw HXs.out.lt 6).trans x6
        by_cases hlt : q < n2
        · obtain ⟨bb, off, z, rfl, hbb, hz, hc⟩ := has.at_ hlt
          have hc' : wr.cell? ⟨bb, off + q, none⟩ = some (.int .i64 z) := (cells_below hbw (Nat.lt_trans hbb HXs.out.lt) _).trans hc
          have hk0 : 0 ≤ (q : Int) := by omega
          have hk1 : (q : Int) < n2 := by omega
          have hzi : I64 z := HW.out.2.2.2 z (List.mem_of_getElem? hz)
          have HZ := Lib.hid (And.intro hz hzi)
          have hl21 := itoa_len hzi
          have hns := nstr_size z
          obtain ⟨S', E', Y', add'⟩ := add_ex S (nstr z) (by omega)
          have EE := Lib.hid E'
          have hS' : S'.size ≤ 22026 + (q + 1) * 22 := by omega
          clear hz hzi hl21 hns E' Y' hc
          go_wp2_with fail
          refine (number15 _ _ HZ.out.2).mono ?_
          rintro e w9 ⟨rfl, b9⟩
          have hb9 := hbw.trans (b9.mono hbw.size)
          clear b9
          go_wp2_with fail
          go_roundw
          case rel => exact ⟨q + 1, S', by omega, by go_num, rfl, hb9, hS', Lib.hid (by rw [EE.out, HSL.out, argW_snoc HZ.out.1, spaced_append, nstr_toList]; simp [spaced])⟩
          case measure => simp [intOf]; omega
        · obtain rfl : q = n2 := by omega
          have HBs := Lib.hid (HBp.out.trans (hbw.mono HBp.out.size))
          have HSs : Hid (S.data.toList = (wordOf 2 ++ spaced (fixW ⟨2, a', b', nm', mt', zs, ys⟩) ++ spaced (argW zs)) ++ spaced (argW ys)) := by
            have h1 := HSL.out
            rw [List.take_of_length_le (by have := HL.out; omega)] at h1
            exact Lib.hid h1
          clear HSL
          go_wp2_with fail
          go_ret
          refine ⟨ret_str (ba_eq ?_), HBs.out⟩
          rw [HSs.out]
          simp [tailW, spaced_append]

set_option maxRecDepth 100000 in
set_option maxHeartbeats 8000000 in
theorem fmt7_3 (v : Av) (d : Ad) (w : World) (h : Reads w w.heap.size v d) (hn : v.n ≤ 1000) (hn2 : v.n2 ≤ 1000) (hnm : v.nm.size ≤ 1000) (hmt : v.mt.size ≤ 1000) (hw : Wf d) (hk : v.k = 3) (hv : validB d = true) :
    Calls Tryz.prog 7 #[.agg v.cells] w fun e w' => e = .returned (.string ⟨(wordOf 3 ++ spaced (tailW d)).toArray⟩) ∧ Below w.heap.size w w' := by
  obtain ⟨k, a, b, nm, mt, zs, ys⟩ := d
  obtain ⟨k', a', b', nm', mt', A, n, c, A2, n2, c2⟩ := v
  obtain ⟨h1, h2, h3, h4, h5, ha, hs⟩ := h
  dsimp only at h1 h2 h3 h4 h5 ha hs hn hn2 hnm hmt hk
  subst h1 h2 h3 h4 h5 hk
  obtain ⟨wa, wb, wg, ws⟩ := hw
  dsimp only at wa wb wg ws
  unfold Av.cells
  dsimp only
  have hbel : Below w.heap.size w (w.alloc (.cells #[.int .i64 3, .int .i64 a', .int .i64 b', .string nm', .string mt', .slice A n c, .slice A2 n2 c2] 25)) := (Below.refl _ _).alloc (Nat.le_refl _) _
  have hR : Reads (w.alloc (.cells #[.int .i64 3, .int .i64 a', .int .i64 b', .string nm', .string mt', .slice A n c, .slice A2 n2 c2] 25)) (w.alloc (.cells #[.int .i64 3, .int .i64 a', .int .i64 b', .string nm', .string mt', .slice A n c, .slice A2 n2 c2] 25)).heap.size ⟨3, a', b', nm', mt', A, n, c, A2, n2, c2⟩ ⟨3, a', b', nm', mt', zs, ys⟩ := ⟨rfl, rfl, rfl, rfl, rfl, (ha.below hbel).more hbel.size, (hs.below hbel).more hbel.size⟩
  have hbx := Blk.new w 25 #[.int .i64 3, .int .i64 a', .int .i64 b', .string nm', .string mt', .slice A n c, .slice A2 n2 c2]
  generalize hW : w.alloc (.cells #[.int .i64 3, .int .i64 a', .int .i64 b', .string nm', .string mt', .slice A n c, .slice A2 n2 c2] 25) = W at *
  have hsz : W.heap.size = w.heap.size + 1 := by rw [← hW]; simp
  have HR := Lib.hid hR
  have HB := Lib.hid hbel
  have HX := Lib.hid hbx
  have HA := Lib.hid (And.intro ha hs)
  have HL := Lib.hid (And.intro ha.len hs.len)
  have HW := Lib.hid (And.intro wa (And.intro wb (And.intro wg ws)))
  have HV := Lib.hid hv
  have HS := Lib.hid hsz
  obtain ⟨S0, E0, Y0, add0⟩ := add_ex ⟨#[100, 111, 117, 98, 108, 101]⟩ (nstr a') (by have p : (⟨#[100, 111, 117, 98, 108, 101]⟩ : ByteArray).size = 6 := rfl; have q := nstr_size a'; have q2 := itoa_len wa; omega)
  have Z0 : S0.size ≤ 28 := by
    have p : (⟨#[100, 111, 117, 98, 108, 101]⟩ : ByteArray).size = 6 := rfl
    have q := nstr_size a'; have q2 := itoa_len wa
    omega
  have F0 := Lib.hid E0
  clear E0 Y0
  have hbase : S0.data.toList = wordOf 3 ++ spaced (fixW ⟨3, a', b', nm', mt', zs, ys⟩) := by
    rw [F0.out]
    simp [fixW, spaced, nstr_toList, wordOf, wordsL]
  have HBASE := Lib.hid hbase
  clear hbase hbel hR hbx ha hs wa wb wg ws hv hsz
  have x0 : W.cell? ⟨w.heap.size, 0, none⟩ = some (.int .i64 3) := HX.out.cell 0
  have x1 : W.cell? ⟨w.heap.size, 1, none⟩ = some (.int .i64 a') := HX.out.cell 1
  have x2 : W.cell? ⟨w.heap.size, 2, none⟩ = some (.int .i64 b') := HX.out.cell 2
  have x3 : W.cell? ⟨w.heap.size, 3, none⟩ = some (.string nm') := HX.out.cell 3
  have x4 : W.cell? ⟨w.heap.size, 4, none⟩ = some (.string mt') := HX.out.cell 4
  have x5 : W.cell? ⟨w.heap.size, 5, none⟩ = some (.slice A n c) := HX.out.cell 5
  have x6 : W.cell? ⟨w.heap.size, 6, none⟩ = some (.slice A2 n2 c2) := HX.out.cell 6
  go_enter Tryz.func7, Tryz.ntmps7
  go_wp2_with fail
  refine (valid9 _ _ _ HR.out (Nat.le_trans hn (by decide)) (Nat.le_trans hn2 (by decide)) (Nat.le_trans hnm (by decide)) (Nat.le_trans hmt (by decide))).mono ?_
  rintro e w1 ⟨rfl, b1⟩
  rw [HV.out]
  have X1 := HX.out.below b1 HX.out.lt
  have B1 := HB.out.trans (b1.mono HB.out.size)
  have z1 : w.heap.size < w1.heap.size := X1.lt
  clear x0 x1 x2 x3 x4 x5 x6 hW
  have x0 : w1.cell? ⟨w.heap.size, 0, none⟩ = some (.int .i64 3) := X1.cell 0
  have x1 : w1.cell? ⟨w.heap.size, 1, none⟩ = some (.int .i64 a') := X1.cell 1
  have x2 : w1.cell? ⟨w.heap.size, 2, none⟩ = some (.int .i64 b') := X1.cell 2
  have x3 : w1.cell? ⟨w.heap.size, 3, none⟩ = some (.string nm') := X1.cell 3
  have x4 : w1.cell? ⟨w.heap.size, 4, none⟩ = some (.string mt') := X1.cell 4
  have x5 : w1.cell? ⟨w.heap.size, 5, none⟩ = some (.slice A n c) := X1.cell 5
  have x6 : w1.cell? ⟨w.heap.size, 6, none⟩ = some (.slice A2 n2 c2) := X1.cell 6
  have hkk : Below w1.heap.size w1 w1 := Below.refl _ _
  have B1' := Lib.hid B1
  have X1' := Lib.hid X1
  clear B1 X1 b1
  go_wp2_with fail
  go_cut [3] (fun s U => s = .string ⟨#[100, 111, 117, 98, 108, 101]⟩ ∧ Below w1.heap.size w1 U)
  case first =>
    go_region_with ((go_at_call 14
                     refine (words14 _).mono ?_
                     rintro e w2 ⟨rfl, hw2⟩
                     have hk2 : Below w1.heap.size w1 w2 := by rw [← hw2]; exact hkk.drew.alloc (Nat.le_refl _) _
                     have x0' : w2.cell? ⟨w.heap.size, 0, none⟩ = some (.int .i64 3) := (cells_below hk2 z1 0).trans x0
                     have hwc : w2.cell? ⟨w1.heap.size, 3, none⟩ = some (.string ⟨#[100, 111, 117, 98, 108, 101]⟩) := by rw [← hw2]; exact (Blk.new w1.drew 9 (wordsL.map Value.string).toArray).cell 3
                     clear hw2))
    all_goals
      go_wp2_with fail
      go_meet
      exact ⟨rfl, hk2⟩
  case rest =>
  obtain ⟨rfl, hkk⟩ := hcut
  obtain ⟨w2, rfl⟩ : ∃ w2 : World, w2 = wc := ⟨_, rfl⟩
  have X2 := X1'.out.below hkk z1
  have B2 := Lib.hid (B1'.out.trans (hkk.mono B1'.out.size))
  have z2 : w.heap.size < w2.heap.size := X2.lt
  clear x0 x1 x2 x3 x4 x5 x6 hkk
  have x0 : w2.cell? ⟨w.heap.size, 0, none⟩ = some (.int .i64 3) := X2.cell 0
  have x1 : w2.cell? ⟨w.heap.size, 1, none⟩ = some (.int .i64 a') := X2.cell 1
  have x2 : w2.cell? ⟨w.heap.size, 2, none⟩ = some (.int .i64 b') := X2.cell 2
  have x3 : w2.cell? ⟨w.heap.size, 3, none⟩ = some (.string nm') := X2.cell 3
  have x4 : w2.cell? ⟨w.heap.size, 4, none⟩ = some (.string mt') := X2.cell 4
  have x5 : w2.cell? ⟨w.heap.size, 5, none⟩ = some (.slice A n c) := X2.cell 5
  have x6 : w2.cell? ⟨w.heap.size, 6, none⟩ = some (.slice A2 n2 c2) := X2.cell 6
  go_wp2_with fail
  refine (number15 _ _ HW.out.1).mono ?_
  rintro e w3 ⟨rfl, b3⟩
  have X3 := X2.below b3 X2.lt
  have B3 := Lib.hid (B2.out.trans (b3.mono B2.out.size))
  have z3 : w.heap.size < w3.heap.size := X3.lt
  clear x0 x1 x2 x3 x4 x5 x6 b3 X2
  have x0 : w3.cell? ⟨w.heap.size, 0, none⟩ = some (.int .i64 3) := X3.cell 0
  have x1 : w3.cell? ⟨w.heap.size, 1, none⟩ = some (.int .i64 a') := X3.cell 1
  have x2 : w3.cell? ⟨w.heap.size, 2, none⟩ = some (.int .i64 b') := X3.cell 2
  have x3 : w3.cell? ⟨w.heap.size, 3, none⟩ = some (.string nm') := X3.cell 3
  have x4 : w3.cell? ⟨w.heap.size, 4, none⟩ = some (.string mt') := X3.cell 4
  have x5 : w3.cell? ⟨w.heap.size, 5, none⟩ = some (.slice A n c) := X3.cell 5
  have x6 : w3.cell? ⟨w.heap.size, 6, none⟩ = some (.slice A2 n2 c2) := X3.cell 6
  go_wp2_with fail
  have hap := HA.out.1.below B3.out
  have HXp := Lib.hid X3
  clear X3
  go_loopw [3, 4] (fun s i wr => ∃ (q : Nat) (S : ByteArray), q ≤ n ∧ i = .int .i64 q ∧ s = .string S ∧ Below w3.heap.size w3 wr ∧ S.size ≤ 28 + q * 22 ∧ Hid (S.data.toList = wordOf 3 ++ spaced (fixW ⟨3, a', b', nm', mt', zs, ys⟩) ++ spaced (argW (zs.take q)))) (fun _ i _ => n - (intOf i).toNat)
  case atStart => exact ⟨0, _, Nat.zero_le _, rfl, rfl, Below.refl _ _, by omega, Lib.hid (by rw [HBASE.out]; simp [argW, spaced])⟩
  case round =>
    obtain ⟨q, S, hq, rfl, rfl, hbw, hS, HSL⟩ := hrel
    have y5 : wr.cell? ⟨w.heap.size, 5, none⟩ = some (.slice A n c) := (cells_below hbw HXp.out.lt 5).trans x5
    by_cases hlt : q < n
    · obtain ⟨bb, off, z, rfl, hbb, hz, hc⟩ := hap.at_ hlt
      have hc' : wr.cell? ⟨bb, off + q, none⟩ = some (.int .i64 z) := (cells_below hbw (Nat.lt_trans hbb HXp.out.lt) _).trans hc
      have hk0 : 0 ≤ (q : Int) := by omega
      have hk1 : (q : Int) < n := by omega
      have hzi : I64 z := HW.out.2.2.1 z (List.mem_of_getElem? hz)
      have HZ := Lib.hid (And.intro hz hzi)
      have hl21 := itoa_len hzi
      have hns := nstr_size z
      obtain ⟨S', E', Y', add'⟩ := add_ex S (nstr z) (by omega)
      have EE := Lib.hid E'
      have hS' : S'.size ≤ 28 + (q + 1) * 22 := by omega
      clear hz hzi hl21 hns E' Y' hc
      go_wp2_with fail
      refine (number15 _ _ HZ.out.2).mono ?_
      rintro e w9 ⟨rfl, b9⟩
      have hb9 := hbw.trans (b9.mono hbw.size)
      clear b9
      go_wp2_with fail
      go_roundw
      case rel => exact ⟨q + 1, S', by omega, by go_num, rfl, hb9, hS', Lib.hid (by rw [EE.out, HSL.out, argW_snoc HZ.out.1, spaced_append, nstr_toList]; simp [spaced])⟩
      case measure => simp [intOf]; omega
    · obtain rfl : q = n := by omega
      have HBp := Lib.hid (B3.out.trans (hbw.mono B3.out.size))
      have HSp : Hid (S.data.toList = wordOf 3 ++ spaced (fixW ⟨3, a', b', nm', mt', zs, ys⟩) ++ spaced (argW zs)) := by
        have h1 := HSL.out
        rw [List.take_of_length_le (by have := HL.out; omega)] at h1
        exact Lib.hid h1
      clear HSL
      have xx6 : wr.cell? ⟨w.heap.size, 6, none⟩ = some (.slice A2 n2 c2) := (cells_below hbw HXp.out.lt 6).trans x6
      have X9 := HXp.out.below hbw HXp.out.lt
      have hsz2 : S.size ≤ 28 + 1000 * 22 := by omega
      clear x0 x1 x2 x3 x4 x5 x6 hbw hS hlt
      have x6 := xx6
      clear xx6
      obtain ⟨wo, rfl⟩ : ∃ wo : World, wo = wr := ⟨_, rfl⟩
      go_wp2_with fail
      have has := HA.out.2.below HBp.out
      have HXs := Lib.hid X9
      clear X9
      go_loopw [3, 5] (fun s i wr => ∃ (q : Nat) (S : ByteArray), q ≤ n2 ∧ i = .int .i64 q ∧ s = .string S ∧ Below wo.heap.size wo wr ∧ S.size ≤ 22028 + q * 22 ∧ Hid (S.data.toList = (wordOf 3 ++ spaced (fixW ⟨3, a', b', nm', mt', zs, ys⟩) ++ spaced (argW zs)) ++ spaced (argW (ys.take q)))) (fun _ i _ => n2 - (intOf i).toNat)
      case atStart => exact ⟨0, _, Nat.zero_le _, rfl, rfl, Below.refl _ _, by omega, Lib.hid (by rw [HSp.out]; simp [argW, spaced])⟩
      case round =>
        obtain ⟨q, S, hq, rfl, rfl, hbw, hS, HSL⟩ := hrel
        have y6 : wr.cell? ⟨w.heap.size, 6, none⟩ = some (.slice A2 n2 c2) := (cells_below hbw HXs.out.lt 6).trans x6
        by_cases hlt : q < n2
        · obtain ⟨bb, off, z, rfl, hbb, hz, hc⟩ := has.at_ hlt
          have hc' : wr.cell? ⟨bb, off + q, none⟩ = some (.int .i64 z) := (cells_below hbw (Nat.lt_trans hbb HXs.out.lt) _).trans hc
          have hk0 : 0 ≤ (q : Int) := by omega
          have hk1 : (q : Int) < n2 := by omega
          have hzi : I64 z := HW.out.2.2.2 z (List.mem_of_getElem? hz)
          have HZ := Lib.hid (And.intro hz hzi)
          have hl21 := itoa_len hzi
          have hns := nstr_size z
          obtain ⟨S', E', Y', add'⟩ := add_ex S (nstr z) (by omega)
          have EE := Lib.hid E'
          have hS' : S'.size ≤ 22028 + (q + 1) * 22 := by omega
          clear hz hzi hl21 hns E' Y' hc
          go_wp2_with fail
          refine (number15 _ _ HZ.out.2).mono ?_
          rintro e w9 ⟨rfl, b9⟩
          have hb9 := hbw.trans (b9.mono hbw.size)
          clear b9
          go_wp2_with fail
          go_roundw
          case rel => exact ⟨q + 1, S', by omega, by go_num, rfl, hb9, hS', Lib.hid (by rw [EE.out, HSL.out, argW_snoc HZ.out.1, spaced_append, nstr_toList]; simp [spaced])⟩
          case measure => simp [intOf]; omega
        · obtain rfl : q = n2 := by omega
          have HBs := Lib.hid (HBp.out.trans (hbw.mono HBp.out.size))
          have HSs : Hid (S.data.toList = (wordOf 3 ++ spaced (fixW ⟨3, a', b', nm', mt', zs, ys⟩) ++ spaced (argW zs)) ++ spaced (argW ys)) := by
            have h1 := HSL.out
            rw [List.take_of_length_le (by have := HL.out; omega)] at h1
            exact Lib.hid h1
          clear HSL
          go_wp2_with fail
          go_ret
          refine ⟨ret_str (ba_eq ?_), HBs.out⟩
          rw [HSs.out]
          simp [tailW, spaced_append]

set_option maxRecDepth 100000 in
set_option maxHeartbeats 8000000 in
theorem fmt7_4 (v : Av) (d : Ad) (w : World) (h : Reads w w.heap.size v d) (hn : v.n ≤ 1000) (hn2 : v.n2 ≤ 1000) (hnm : v.nm.size ≤ 1000) (hmt : v.mt.size ≤ 1000) (hw : Wf d) (hk : v.k = 4) (hv : validB d = true) :
    Calls Tryz.prog 7 #[.agg v.cells] w fun e w' => e = .returned (.string ⟨(wordOf 4 ++ spaced (tailW d)).toArray⟩) ∧ Below w.heap.size w w' := by
  obtain ⟨k, a, b, nm, mt, zs, ys⟩ := d
  obtain ⟨k', a', b', nm', mt', A, n, c, A2, n2, c2⟩ := v
  obtain ⟨h1, h2, h3, h4, h5, ha, hs⟩ := h
  dsimp only at h1 h2 h3 h4 h5 ha hs hn hn2 hnm hmt hk
  subst h1 h2 h3 h4 h5 hk
  obtain ⟨wa, wb, wg, ws⟩ := hw
  dsimp only at wa wb wg ws
  unfold Av.cells
  dsimp only
  have hbel : Below w.heap.size w (w.alloc (.cells #[.int .i64 4, .int .i64 a', .int .i64 b', .string nm', .string mt', .slice A n c, .slice A2 n2 c2] 25)) := (Below.refl _ _).alloc (Nat.le_refl _) _
  have hR : Reads (w.alloc (.cells #[.int .i64 4, .int .i64 a', .int .i64 b', .string nm', .string mt', .slice A n c, .slice A2 n2 c2] 25)) (w.alloc (.cells #[.int .i64 4, .int .i64 a', .int .i64 b', .string nm', .string mt', .slice A n c, .slice A2 n2 c2] 25)).heap.size ⟨4, a', b', nm', mt', A, n, c, A2, n2, c2⟩ ⟨4, a', b', nm', mt', zs, ys⟩ := ⟨rfl, rfl, rfl, rfl, rfl, (ha.below hbel).more hbel.size, (hs.below hbel).more hbel.size⟩
  have hbx := Blk.new w 25 #[.int .i64 4, .int .i64 a', .int .i64 b', .string nm', .string mt', .slice A n c, .slice A2 n2 c2]
  generalize hW : w.alloc (.cells #[.int .i64 4, .int .i64 a', .int .i64 b', .string nm', .string mt', .slice A n c, .slice A2 n2 c2] 25) = W at *
  have hsz : W.heap.size = w.heap.size + 1 := by rw [← hW]; simp
  have HR := Lib.hid hR
  have HB := Lib.hid hbel
  have HX := Lib.hid hbx
  have HA := Lib.hid (And.intro ha hs)
  have HL := Lib.hid (And.intro ha.len hs.len)
  have HW := Lib.hid (And.intro wa (And.intro wb (And.intro wg ws)))
  have HV := Lib.hid hv
  have HS := Lib.hid hsz
  obtain ⟨S0, E0, Y0, add0⟩ := add_ex ⟨#[116, 105, 99, 107]⟩ (nstr a') (by have p : (⟨#[116, 105, 99, 107]⟩ : ByteArray).size = 4 := rfl; have q := nstr_size a'; have q2 := itoa_len wa; omega)
  have Z0 : S0.size ≤ 26 := by
    have p : (⟨#[116, 105, 99, 107]⟩ : ByteArray).size = 4 := rfl
    have q := nstr_size a'; have q2 := itoa_len wa
    omega
  have F0 := Lib.hid E0
  clear E0 Y0
  have hbase : S0.data.toList = wordOf 4 ++ spaced (fixW ⟨4, a', b', nm', mt', zs, ys⟩) := by
    rw [F0.out]
    simp [fixW, spaced, nstr_toList, wordOf, wordsL]
  have HBASE := Lib.hid hbase
  clear hbase hbel hR hbx ha hs wa wb wg ws hv hsz
  have x0 : W.cell? ⟨w.heap.size, 0, none⟩ = some (.int .i64 4) := HX.out.cell 0
  have x1 : W.cell? ⟨w.heap.size, 1, none⟩ = some (.int .i64 a') := HX.out.cell 1
  have x2 : W.cell? ⟨w.heap.size, 2, none⟩ = some (.int .i64 b') := HX.out.cell 2
  have x3 : W.cell? ⟨w.heap.size, 3, none⟩ = some (.string nm') := HX.out.cell 3
  have x4 : W.cell? ⟨w.heap.size, 4, none⟩ = some (.string mt') := HX.out.cell 4
  have x5 : W.cell? ⟨w.heap.size, 5, none⟩ = some (.slice A n c) := HX.out.cell 5
  have x6 : W.cell? ⟨w.heap.size, 6, none⟩ = some (.slice A2 n2 c2) := HX.out.cell 6
  go_enter Tryz.func7, Tryz.ntmps7
  go_wp2_with fail
  refine (valid9 _ _ _ HR.out (Nat.le_trans hn (by decide)) (Nat.le_trans hn2 (by decide)) (Nat.le_trans hnm (by decide)) (Nat.le_trans hmt (by decide))).mono ?_
  rintro e w1 ⟨rfl, b1⟩
  rw [HV.out]
  have X1 := HX.out.below b1 HX.out.lt
  have B1 := HB.out.trans (b1.mono HB.out.size)
  have z1 : w.heap.size < w1.heap.size := X1.lt
  clear x0 x1 x2 x3 x4 x5 x6 hW
  have x0 : w1.cell? ⟨w.heap.size, 0, none⟩ = some (.int .i64 4) := X1.cell 0
  have x1 : w1.cell? ⟨w.heap.size, 1, none⟩ = some (.int .i64 a') := X1.cell 1
  have x2 : w1.cell? ⟨w.heap.size, 2, none⟩ = some (.int .i64 b') := X1.cell 2
  have x3 : w1.cell? ⟨w.heap.size, 3, none⟩ = some (.string nm') := X1.cell 3
  have x4 : w1.cell? ⟨w.heap.size, 4, none⟩ = some (.string mt') := X1.cell 4
  have x5 : w1.cell? ⟨w.heap.size, 5, none⟩ = some (.slice A n c) := X1.cell 5
  have x6 : w1.cell? ⟨w.heap.size, 6, none⟩ = some (.slice A2 n2 c2) := X1.cell 6
  have hkk : Below w1.heap.size w1 w1 := Below.refl _ _
  have B1' := Lib.hid B1
  have X1' := Lib.hid X1
  clear B1 X1 b1
  go_wp2_with fail
  go_cut [3] (fun s U => s = .string ⟨#[116, 105, 99, 107]⟩ ∧ Below w1.heap.size w1 U)
  case first =>
    go_region_with ((go_at_call 14
                     refine (words14 _).mono ?_
                     rintro e w2 ⟨rfl, hw2⟩
                     have hk2 : Below w1.heap.size w1 w2 := by rw [← hw2]; exact hkk.drew.alloc (Nat.le_refl _) _
                     have x0' : w2.cell? ⟨w.heap.size, 0, none⟩ = some (.int .i64 4) := (cells_below hk2 z1 0).trans x0
                     have hwc : w2.cell? ⟨w1.heap.size, 4, none⟩ = some (.string ⟨#[116, 105, 99, 107]⟩) := by rw [← hw2]; exact (Blk.new w1.drew 9 (wordsL.map Value.string).toArray).cell 4
                     clear hw2))
    all_goals
      go_wp2_with fail
      go_meet
      exact ⟨rfl, hk2⟩
  case rest =>
  obtain ⟨rfl, hkk⟩ := hcut
  obtain ⟨w2, rfl⟩ : ∃ w2 : World, w2 = wc := ⟨_, rfl⟩
  have X2 := X1'.out.below hkk z1
  have B2 := Lib.hid (B1'.out.trans (hkk.mono B1'.out.size))
  have z2 : w.heap.size < w2.heap.size := X2.lt
  clear x0 x1 x2 x3 x4 x5 x6 hkk
  have x0 : w2.cell? ⟨w.heap.size, 0, none⟩ = some (.int .i64 4) := X2.cell 0
  have x1 : w2.cell? ⟨w.heap.size, 1, none⟩ = some (.int .i64 a') := X2.cell 1
  have x2 : w2.cell? ⟨w.heap.size, 2, none⟩ = some (.int .i64 b') := X2.cell 2
  have x3 : w2.cell? ⟨w.heap.size, 3, none⟩ = some (.string nm') := X2.cell 3
  have x4 : w2.cell? ⟨w.heap.size, 4, none⟩ = some (.string mt') := X2.cell 4
  have x5 : w2.cell? ⟨w.heap.size, 5, none⟩ = some (.slice A n c) := X2.cell 5
  have x6 : w2.cell? ⟨w.heap.size, 6, none⟩ = some (.slice A2 n2 c2) := X2.cell 6
  go_wp2_with fail
  refine (number15 _ _ HW.out.1).mono ?_
  rintro e w3 ⟨rfl, b3⟩
  have X3 := X2.below b3 X2.lt
  have B3 := Lib.hid (B2.out.trans (b3.mono B2.out.size))
  have z3 : w.heap.size < w3.heap.size := X3.lt
  clear x0 x1 x2 x3 x4 x5 x6 b3 X2
  have x0 : w3.cell? ⟨w.heap.size, 0, none⟩ = some (.int .i64 4) := X3.cell 0
  have x1 : w3.cell? ⟨w.heap.size, 1, none⟩ = some (.int .i64 a') := X3.cell 1
  have x2 : w3.cell? ⟨w.heap.size, 2, none⟩ = some (.int .i64 b') := X3.cell 2
  have x3 : w3.cell? ⟨w.heap.size, 3, none⟩ = some (.string nm') := X3.cell 3
  have x4 : w3.cell? ⟨w.heap.size, 4, none⟩ = some (.string mt') := X3.cell 4
  have x5 : w3.cell? ⟨w.heap.size, 5, none⟩ = some (.slice A n c) := X3.cell 5
  have x6 : w3.cell? ⟨w.heap.size, 6, none⟩ = some (.slice A2 n2 c2) := X3.cell 6
  go_wp2_with fail
  have hap := HA.out.1.below B3.out
  have HXp := Lib.hid X3
  clear X3
  go_loopw [3, 4] (fun s i wr => ∃ (q : Nat) (S : ByteArray), q ≤ n ∧ i = .int .i64 q ∧ s = .string S ∧ Below w3.heap.size w3 wr ∧ S.size ≤ 26 + q * 22 ∧ Hid (S.data.toList = wordOf 4 ++ spaced (fixW ⟨4, a', b', nm', mt', zs, ys⟩) ++ spaced (argW (zs.take q)))) (fun _ i _ => n - (intOf i).toNat)
  case atStart => exact ⟨0, _, Nat.zero_le _, rfl, rfl, Below.refl _ _, by omega, Lib.hid (by rw [HBASE.out]; simp [argW, spaced])⟩
  case round =>
    obtain ⟨q, S, hq, rfl, rfl, hbw, hS, HSL⟩ := hrel
    have y5 : wr.cell? ⟨w.heap.size, 5, none⟩ = some (.slice A n c) := (cells_below hbw HXp.out.lt 5).trans x5
    by_cases hlt : q < n
    · obtain ⟨bb, off, z, rfl, hbb, hz, hc⟩ := hap.at_ hlt
      have hc' : wr.cell? ⟨bb, off + q, none⟩ = some (.int .i64 z) := (cells_below hbw (Nat.lt_trans hbb HXp.out.lt) _).trans hc
      have hk0 : 0 ≤ (q : Int) := by omega
      have hk1 : (q : Int) < n := by omega
      have hzi : I64 z := HW.out.2.2.1 z (List.mem_of_getElem? hz)
      have HZ := Lib.hid (And.intro hz hzi)
      have hl21 := itoa_len hzi
      have hns := nstr_size z
      obtain ⟨S', E', Y', add'⟩ := add_ex S (nstr z) (by omega)
      have EE := Lib.hid E'
      have hS' : S'.size ≤ 26 + (q + 1) * 22 := by omega
      clear hz hzi hl21 hns E' Y' hc
      go_wp2_with fail
      refine (number15 _ _ HZ.out.2).mono ?_
      rintro e w9 ⟨rfl, b9⟩
      have hb9 := hbw.trans (b9.mono hbw.size)
      clear b9
      go_wp2_with fail
      go_roundw
      case rel => exact ⟨q + 1, S', by omega, by go_num, rfl, hb9, hS', Lib.hid (by rw [EE.out, HSL.out, argW_snoc HZ.out.1, spaced_append, nstr_toList]; simp [spaced])⟩
      case measure => simp [intOf]; omega
    · obtain rfl : q = n := by omega
      have HBp := Lib.hid (B3.out.trans (hbw.mono B3.out.size))
      have HSp : Hid (S.data.toList = wordOf 4 ++ spaced (fixW ⟨4, a', b', nm', mt', zs, ys⟩) ++ spaced (argW zs)) := by
        have h1 := HSL.out
        rw [List.take_of_length_le (by have := HL.out; omega)] at h1
        exact Lib.hid h1
      clear HSL
      have xx6 : wr.cell? ⟨w.heap.size, 6, none⟩ = some (.slice A2 n2 c2) := (cells_below hbw HXp.out.lt 6).trans x6
      have X9 := HXp.out.below hbw HXp.out.lt
      have hsz2 : S.size ≤ 26 + 1000 * 22 := by omega
      clear x0 x1 x2 x3 x4 x5 x6 hbw hS hlt
      have x6 := xx6
      clear xx6
      obtain ⟨wo, rfl⟩ : ∃ wo : World, wo = wr := ⟨_, rfl⟩
      go_wp2_with fail
      have has := HA.out.2.below HBp.out
      have HXs := Lib.hid X9
      clear X9
      go_loopw [3, 5] (fun s i wr => ∃ (q : Nat) (S : ByteArray), q ≤ n2 ∧ i = .int .i64 q ∧ s = .string S ∧ Below wo.heap.size wo wr ∧ S.size ≤ 22026 + q * 22 ∧ Hid (S.data.toList = (wordOf 4 ++ spaced (fixW ⟨4, a', b', nm', mt', zs, ys⟩) ++ spaced (argW zs)) ++ spaced (argW (ys.take q)))) (fun _ i _ => n2 - (intOf i).toNat)
      case atStart => exact ⟨0, _, Nat.zero_le _, rfl, rfl, Below.refl _ _, by omega, Lib.hid (by rw [HSp.out]; simp [argW, spaced])⟩
      case round =>
        obtain ⟨q, S, hq, rfl, rfl, hbw, hS, HSL⟩ := hrel
        have y6 : wr.cell? ⟨w.heap.size, 6, none⟩ = some (.slice A2 n2 c2) := (cells_below hbw HXs.out.lt 6).trans x6
        by_cases hlt : q < n2
        · obtain ⟨bb, off, z, rfl, hbb, hz, hc⟩ := has.at_ hlt
          have hc' : wr.cell? ⟨bb, off + q, none⟩ = some (.int .i64 z) := (cells_below hbw (Nat.lt_trans hbb HXs.out.lt) _).trans hc
          have hk0 : 0 ≤ (q : Int) := by omega
          have hk1 : (q : Int) < n2 := by omega
          have hzi : I64 z := HW.out.2.2.2 z (List.mem_of_getElem? hz)
          have HZ := Lib.hid (And.intro hz hzi)
          have hl21 := itoa_len hzi
          have hns := nstr_size z
          obtain ⟨S', E', Y', add'⟩ := add_ex S (nstr z) (by omega)
          have EE := Lib.hid E'
          have hS' : S'.size ≤ 22026 + (q + 1) * 22 := by omega
          clear hz hzi hl21 hns E' Y' hc
          go_wp2_with fail
          refine (number15 _ _ HZ.out.2).mono ?_
          rintro e w9 ⟨rfl, b9⟩
          have hb9 := hbw.trans (b9.mono hbw.size)
          clear b9
          go_wp2_with fail
          go_roundw
          case rel => exact ⟨q + 1, S', by omega, by go_num, rfl, hb9, hS', Lib.hid (by rw [EE.out, HSL.out, argW_snoc HZ.out.1, spaced_append, nstr_toList]; simp [spaced])⟩
          case measure => simp [intOf]; omega
        · obtain rfl : q = n2 := by omega
          have HBs := Lib.hid (HBp.out.trans (hbw.mono HBp.out.size))
          have HSs : Hid (S.data.toList = (wordOf 4 ++ spaced (fixW ⟨4, a', b', nm', mt', zs, ys⟩) ++ spaced (argW zs)) ++ spaced (argW ys)) := by
            have h1 := HSL.out
            rw [List.take_of_length_le (by have := HL.out; omega)] at h1
            exact Lib.hid h1
          clear HSL
          go_wp2_with fail
          go_ret
          refine ⟨ret_str (ba_eq ?_), HBs.out⟩
          rw [HSs.out]
          simp [tailW, spaced_append]

set_option maxRecDepth 100000 in
set_option maxHeartbeats 8000000 in
theorem fmt7_5 (v : Av) (d : Ad) (w : World) (h : Reads w w.heap.size v d) (hn : v.n ≤ 1000) (hn2 : v.n2 ≤ 1000) (hnm : v.nm.size ≤ 1000) (hmt : v.mt.size ≤ 1000) (hw : Wf d) (hk : v.k = 5) (hv : validB d = true) :
    Calls Tryz.prog 7 #[.agg v.cells] w fun e w' => e = .returned (.string ⟨(wordOf 5 ++ spaced (tailW d)).toArray⟩) ∧ Below w.heap.size w w' := by
  obtain ⟨k, a, b, nm, mt, zs, ys⟩ := d
  obtain ⟨k', a', b', nm', mt', A, n, c, A2, n2, c2⟩ := v
  obtain ⟨h1, h2, h3, h4, h5, ha, hs⟩ := h
  dsimp only at h1 h2 h3 h4 h5 ha hs hn hn2 hnm hmt hk
  subst h1 h2 h3 h4 h5 hk
  obtain ⟨wa, wb, wg, ws⟩ := hw
  dsimp only at wa wb wg ws
  unfold Av.cells
  dsimp only
  have hbel : Below w.heap.size w (w.alloc (.cells #[.int .i64 5, .int .i64 a', .int .i64 b', .string nm', .string mt', .slice A n c, .slice A2 n2 c2] 25)) := (Below.refl _ _).alloc (Nat.le_refl _) _
  have hR : Reads (w.alloc (.cells #[.int .i64 5, .int .i64 a', .int .i64 b', .string nm', .string mt', .slice A n c, .slice A2 n2 c2] 25)) (w.alloc (.cells #[.int .i64 5, .int .i64 a', .int .i64 b', .string nm', .string mt', .slice A n c, .slice A2 n2 c2] 25)).heap.size ⟨5, a', b', nm', mt', A, n, c, A2, n2, c2⟩ ⟨5, a', b', nm', mt', zs, ys⟩ := ⟨rfl, rfl, rfl, rfl, rfl, (ha.below hbel).more hbel.size, (hs.below hbel).more hbel.size⟩
  have hbx := Blk.new w 25 #[.int .i64 5, .int .i64 a', .int .i64 b', .string nm', .string mt', .slice A n c, .slice A2 n2 c2]
  generalize hW : w.alloc (.cells #[.int .i64 5, .int .i64 a', .int .i64 b', .string nm', .string mt', .slice A n c, .slice A2 n2 c2] 25) = W at *
  have hsz : W.heap.size = w.heap.size + 1 := by rw [← hW]; simp
  have HR := Lib.hid hR
  have HB := Lib.hid hbel
  have HX := Lib.hid hbx
  have HA := Lib.hid (And.intro ha hs)
  have HL := Lib.hid (And.intro ha.len hs.len)
  have HW := Lib.hid (And.intro wa (And.intro wb (And.intro wg ws)))
  have HV := Lib.hid hv
  have HS := Lib.hid hsz
  obtain ⟨S0, E0, Y0, add0⟩ := add_ex ⟨#[109, 105, 110, 111, 114]⟩ (nstr a') (by have p : (⟨#[109, 105, 110, 111, 114]⟩ : ByteArray).size = 5 := rfl; have q := nstr_size a'; have q2 := itoa_len wa; omega)
  have Z0 : S0.size ≤ 27 := by
    have p : (⟨#[109, 105, 110, 111, 114]⟩ : ByteArray).size = 5 := rfl
    have q := nstr_size a'; have q2 := itoa_len wa
    omega
  have F0 := Lib.hid E0
  clear E0 Y0
  have hbase : S0.data.toList = wordOf 5 ++ spaced (fixW ⟨5, a', b', nm', mt', zs, ys⟩) := by
    rw [F0.out]
    simp [fixW, spaced, nstr_toList, wordOf, wordsL]
  have HBASE := Lib.hid hbase
  clear hbase hbel hR hbx ha hs wa wb wg ws hv hsz
  have x0 : W.cell? ⟨w.heap.size, 0, none⟩ = some (.int .i64 5) := HX.out.cell 0
  have x1 : W.cell? ⟨w.heap.size, 1, none⟩ = some (.int .i64 a') := HX.out.cell 1
  have x2 : W.cell? ⟨w.heap.size, 2, none⟩ = some (.int .i64 b') := HX.out.cell 2
  have x3 : W.cell? ⟨w.heap.size, 3, none⟩ = some (.string nm') := HX.out.cell 3
  have x4 : W.cell? ⟨w.heap.size, 4, none⟩ = some (.string mt') := HX.out.cell 4
  have x5 : W.cell? ⟨w.heap.size, 5, none⟩ = some (.slice A n c) := HX.out.cell 5
  have x6 : W.cell? ⟨w.heap.size, 6, none⟩ = some (.slice A2 n2 c2) := HX.out.cell 6
  go_enter Tryz.func7, Tryz.ntmps7
  go_wp2_with fail
  refine (valid9 _ _ _ HR.out (Nat.le_trans hn (by decide)) (Nat.le_trans hn2 (by decide)) (Nat.le_trans hnm (by decide)) (Nat.le_trans hmt (by decide))).mono ?_
  rintro e w1 ⟨rfl, b1⟩
  rw [HV.out]
  have X1 := HX.out.below b1 HX.out.lt
  have B1 := HB.out.trans (b1.mono HB.out.size)
  have z1 : w.heap.size < w1.heap.size := X1.lt
  clear x0 x1 x2 x3 x4 x5 x6 hW
  have x0 : w1.cell? ⟨w.heap.size, 0, none⟩ = some (.int .i64 5) := X1.cell 0
  have x1 : w1.cell? ⟨w.heap.size, 1, none⟩ = some (.int .i64 a') := X1.cell 1
  have x2 : w1.cell? ⟨w.heap.size, 2, none⟩ = some (.int .i64 b') := X1.cell 2
  have x3 : w1.cell? ⟨w.heap.size, 3, none⟩ = some (.string nm') := X1.cell 3
  have x4 : w1.cell? ⟨w.heap.size, 4, none⟩ = some (.string mt') := X1.cell 4
  have x5 : w1.cell? ⟨w.heap.size, 5, none⟩ = some (.slice A n c) := X1.cell 5
  have x6 : w1.cell? ⟨w.heap.size, 6, none⟩ = some (.slice A2 n2 c2) := X1.cell 6
  have hkk : Below w1.heap.size w1 w1 := Below.refl _ _
  have B1' := Lib.hid B1
  have X1' := Lib.hid X1
  clear B1 X1 b1
  go_wp2_with fail
  go_cut [3] (fun s U => s = .string ⟨#[109, 105, 110, 111, 114]⟩ ∧ Below w1.heap.size w1 U)
  case first =>
    go_region_with ((go_at_call 14
                     refine (words14 _).mono ?_
                     rintro e w2 ⟨rfl, hw2⟩
                     have hk2 : Below w1.heap.size w1 w2 := by rw [← hw2]; exact hkk.drew.alloc (Nat.le_refl _) _
                     have x0' : w2.cell? ⟨w.heap.size, 0, none⟩ = some (.int .i64 5) := (cells_below hk2 z1 0).trans x0
                     have hwc : w2.cell? ⟨w1.heap.size, 5, none⟩ = some (.string ⟨#[109, 105, 110, 111, 114]⟩) := by rw [← hw2]; exact (Blk.new w1.drew 9 (wordsL.map Value.string).toArray).cell 5
                     clear hw2))
    all_goals
      go_wp2_with fail
      go_meet
      exact ⟨rfl, hk2⟩
  case rest =>
  obtain ⟨rfl, hkk⟩ := hcut
  obtain ⟨w2, rfl⟩ : ∃ w2 : World, w2 = wc := ⟨_, rfl⟩
  have X2 := X1'.out.below hkk z1
  have B2 := Lib.hid (B1'.out.trans (hkk.mono B1'.out.size))
  have z2 : w.heap.size < w2.heap.size := X2.lt
  clear x0 x1 x2 x3 x4 x5 x6 hkk
  have x0 : w2.cell? ⟨w.heap.size, 0, none⟩ = some (.int .i64 5) := X2.cell 0
  have x1 : w2.cell? ⟨w.heap.size, 1, none⟩ = some (.int .i64 a') := X2.cell 1
  have x2 : w2.cell? ⟨w.heap.size, 2, none⟩ = some (.int .i64 b') := X2.cell 2
  have x3 : w2.cell? ⟨w.heap.size, 3, none⟩ = some (.string nm') := X2.cell 3
  have x4 : w2.cell? ⟨w.heap.size, 4, none⟩ = some (.string mt') := X2.cell 4
  have x5 : w2.cell? ⟨w.heap.size, 5, none⟩ = some (.slice A n c) := X2.cell 5
  have x6 : w2.cell? ⟨w.heap.size, 6, none⟩ = some (.slice A2 n2 c2) := X2.cell 6
  go_wp2_with fail
  refine (number15 _ _ HW.out.1).mono ?_
  rintro e w3 ⟨rfl, b3⟩
  have X3 := X2.below b3 X2.lt
  have B3 := Lib.hid (B2.out.trans (b3.mono B2.out.size))
  have z3 : w.heap.size < w3.heap.size := X3.lt
  clear x0 x1 x2 x3 x4 x5 x6 b3 X2
  have x0 : w3.cell? ⟨w.heap.size, 0, none⟩ = some (.int .i64 5) := X3.cell 0
  have x1 : w3.cell? ⟨w.heap.size, 1, none⟩ = some (.int .i64 a') := X3.cell 1
  have x2 : w3.cell? ⟨w.heap.size, 2, none⟩ = some (.int .i64 b') := X3.cell 2
  have x3 : w3.cell? ⟨w.heap.size, 3, none⟩ = some (.string nm') := X3.cell 3
  have x4 : w3.cell? ⟨w.heap.size, 4, none⟩ = some (.string mt') := X3.cell 4
  have x5 : w3.cell? ⟨w.heap.size, 5, none⟩ = some (.slice A n c) := X3.cell 5
  have x6 : w3.cell? ⟨w.heap.size, 6, none⟩ = some (.slice A2 n2 c2) := X3.cell 6
  go_wp2_with fail
  have hap := HA.out.1.below B3.out
  have HXp := Lib.hid X3
  clear X3
  go_loopw [3, 4] (fun s i wr => ∃ (q : Nat) (S : ByteArray), q ≤ n ∧ i = .int .i64 q ∧ s = .string S ∧ Below w3.heap.size w3 wr ∧ S.size ≤ 27 + q * 22 ∧ Hid (S.data.toList = wordOf 5 ++ spaced (fixW ⟨5, a', b', nm', mt', zs, ys⟩) ++ spaced (argW (zs.take q)))) (fun _ i _ => n - (intOf i).toNat)
  case atStart => exact ⟨0, _, Nat.zero_le _, rfl, rfl, Below.refl _ _, by omega, Lib.hid (by rw [HBASE.out]; simp [argW, spaced])⟩
  case round =>
    obtain ⟨q, S, hq, rfl, rfl, hbw, hS, HSL⟩ := hrel
    have y5 : wr.cell? ⟨w.heap.size, 5, none⟩ = some (.slice A n c) := (cells_below hbw HXp.out.lt 5).trans x5
    by_cases hlt : q < n
    · obtain ⟨bb, off, z, rfl, hbb, hz, hc⟩ := hap.at_ hlt
      have hc' : wr.cell? ⟨bb, off + q, none⟩ = some (.int .i64 z) := (cells_below hbw (Nat.lt_trans hbb HXp.out.lt) _).trans hc
      have hk0 : 0 ≤ (q : Int) := by omega
      have hk1 : (q : Int) < n := by omega
      have hzi : I64 z := HW.out.2.2.1 z (List.mem_of_getElem? hz)
      have HZ := Lib.hid (And.intro hz hzi)
      have hl21 := itoa_len hzi
      have hns := nstr_size z
      obtain ⟨S', E', Y', add'⟩ := add_ex S (nstr z) (by omega)
      have EE := Lib.hid E'
      have hS' : S'.size ≤ 27 + (q + 1) * 22 := by omega
      clear hz hzi hl21 hns E' Y' hc
      go_wp2_with fail
      refine (number15 _ _ HZ.out.2).mono ?_
      rintro e w9 ⟨rfl, b9⟩
      have hb9 := hbw.trans (b9.mono hbw.size)
      clear b9
      go_wp2_with fail
      go_roundw
      case rel => exact ⟨q + 1, S', by omega, by go_num, rfl, hb9, hS', Lib.hid (by rw [EE.out, HSL.out, argW_snoc HZ.out.1, spaced_append, nstr_toList]; simp [spaced])⟩
      case measure => simp [intOf]; omega
    · obtain rfl : q = n := by omega
      have HBp := Lib.hid (B3.out.trans (hbw.mono B3.out.size))
      have HSp : Hid (S.data.toList = wordOf 5 ++ spaced (fixW ⟨5, a', b', nm', mt', zs, ys⟩) ++ spaced (argW zs)) := by
        have h1 := HSL.out
        rw [List.take_of_length_le (by have := HL.out; omega)] at h1
        exact Lib.hid h1
      clear HSL
      have xx6 : wr.cell? ⟨w.heap.size, 6, none⟩ = some (.slice A2 n2 c2) := (cells_below hbw HXp.out.lt 6).trans x6
      have X9 := HXp.out.below hbw HXp.out.lt
      have hsz2 : S.size ≤ 27 + 1000 * 22 := by omega
      clear x0 x1 x2 x3 x4 x5 x6 hbw hS hlt
      have x6 := xx6
      clear xx6
      obtain ⟨wo, rfl⟩ : ∃ wo : World, wo = wr := ⟨_, rfl⟩
      go_wp2_with fail
      have has := HA.out.2.below HBp.out
      have HXs := Lib.hid X9
      clear X9
      go_loopw [3, 5] (fun s i wr => ∃ (q : Nat) (S : ByteArray), q ≤ n2 ∧ i = .int .i64 q ∧ s = .string S ∧ Below wo.heap.size wo wr ∧ S.size ≤ 22027 + q * 22 ∧ Hid (S.data.toList = (wordOf 5 ++ spaced (fixW ⟨5, a', b', nm', mt', zs, ys⟩) ++ spaced (argW zs)) ++ spaced (argW (ys.take q)))) (fun _ i _ => n2 - (intOf i).toNat)
      case atStart => exact ⟨0, _, Nat.zero_le _, rfl, rfl, Below.refl _ _, by omega, Lib.hid (by rw [HSp.out]; simp [argW, spaced])⟩
      case round =>
        obtain ⟨q, S, hq, rfl, rfl, hbw, hS, HSL⟩ := hrel
        have y6 : wr.cell? ⟨w.heap.size, 6, none⟩ = some (.slice A2 n2 c2) := (cells_below hbw HXs.out.lt 6).trans x6
        by_cases hlt : q < n2
        · obtain ⟨bb, off, z, rfl, hbb, hz, hc⟩ := has.at_ hlt
          have hc' : wr.cell? ⟨bb, off + q, none⟩ = some (.int .i64 z) := (cells_below hbw (Nat.lt_trans hbb HXs.out.lt) _).trans hc
          have hk0 : 0 ≤ (q : Int) := by omega
          have hk1 : (q : Int) < n2 := by omega
          have hzi : I64 z := HW.out.2.2.2 z (List.mem_of_getElem? hz)
          have HZ := Lib.hid (And.intro hz hzi)
          have hl21 := itoa_len hzi
          have hns := nstr_size z
          obtain ⟨S', E', Y', add'⟩ := add_ex S (nstr z) (by omega)
          have EE := Lib.hid E'
          have hS' : S'.size ≤ 22027 + (q + 1) * 22 := by omega
          clear hz hzi hl21 hns E' Y' hc
          go_wp2_with fail
          refine (number15 _ _ HZ.out.2).mono ?_
          rintro e w9 ⟨rfl, b9⟩
          have hb9 := hbw.trans (b9.mono hbw.size)
          clear b9
          go_wp2_with fail
          go_roundw
          case rel => exact ⟨q + 1, S', by omega, by go_num, rfl, hb9, hS', Lib.hid (by rw [EE.out, HSL.out, argW_snoc HZ.out.1, spaced_append, nstr_toList]; simp [spaced])⟩
          case measure => simp [intOf]; omega
        · obtain rfl : q = n2 := by omega
          have HBs := Lib.hid (HBp.out.trans (hbw.mono HBp.out.size))
          have HSs : Hid (S.data.toList = (wordOf 5 ++ spaced (fixW ⟨5, a', b', nm', mt', zs, ys⟩) ++ spaced (argW zs)) ++ spaced (argW ys)) := by
            have h1 := HSL.out
            rw [List.take_of_length_le (by have := HL.out; omega)] at h1
            exact Lib.hid h1
          clear HSL
          go_wp2_with fail
          go_ret
          refine ⟨ret_str (ba_eq ?_), HBs.out⟩
          rw [HSs.out]
          simp [tailW, spaced_append]

set_option maxRecDepth 100000 in
set_option maxHeartbeats 8000000 in
theorem fmt7_6 (v : Av) (d : Ad) (w : World) (h : Reads w w.heap.size v d) (hn : v.n ≤ 1000) (hn2 : v.n2 ≤ 1000) (hnm : v.nm.size ≤ 1000) (hmt : v.mt.size ≤ 1000) (hw : Wf d) (hk : v.k = 6) (hv : validB d = true) :
    Calls Tryz.prog 7 #[.agg v.cells] w fun e w' => e = .returned (.string ⟨(wordOf 6 ++ spaced (tailW d)).toArray⟩) ∧ Below w.heap.size w w' := by
  obtain ⟨k, a, b, nm, mt, zs, ys⟩ := d
  obtain ⟨k', a', b', nm', mt', A, n, c, A2, n2, c2⟩ := v
  obtain ⟨h1, h2, h3, h4, h5, ha, hs⟩ := h
  dsimp only at h1 h2 h3 h4 h5 ha hs hn hn2 hnm hmt hk
  subst h1 h2 h3 h4 h5 hk
  obtain ⟨wa, wb, wg, ws⟩ := hw
  dsimp only at wa wb wg ws
  unfold Av.cells
  dsimp only
  have hbel : Below w.heap.size w (w.alloc (.cells #[.int .i64 6, .int .i64 a', .int .i64 b', .string nm', .string mt', .slice A n c, .slice A2 n2 c2] 25)) := (Below.refl _ _).alloc (Nat.le_refl _) _
  have hR : Reads (w.alloc (.cells #[.int .i64 6, .int .i64 a', .int .i64 b', .string nm', .string mt', .slice A n c, .slice A2 n2 c2] 25)) (w.alloc (.cells #[.int .i64 6, .int .i64 a', .int .i64 b', .string nm', .string mt', .slice A n c, .slice A2 n2 c2] 25)).heap.size ⟨6, a', b', nm', mt', A, n, c, A2, n2, c2⟩ ⟨6, a', b', nm', mt', zs, ys⟩ := ⟨rfl, rfl, rfl, rfl, rfl, (ha.below hbel).more hbel.size, (hs.below hbel).more hbel.size⟩
  have hbx := Blk.new w 25 #[.int .i64 6, .int .i64 a', .int .i64 b', .string nm', .string mt', .slice A n c, .slice A2 n2 c2]
  generalize hW : w.alloc (.cells #[.int .i64 6, .int .i64 a', .int .i64 b', .string nm', .string mt', .slice A n c, .slice A2 n2 c2] 25) = W at *
  have hsz : W.heap.size = w.heap.size + 1 := by rw [← hW]; simp
  have HR := Lib.hid hR
  have HB := Lib.hid hbel
  have HX := Lib.hid hbx
  have HA := Lib.hid (And.intro ha hs)
  have HL := Lib.hid (And.intro ha.len hs.len)
  have HW := Lib.hid (And.intro wa (And.intro wb (And.intro wg ws)))
  have HV := Lib.hid hv
  have HS := Lib.hid hsz
  obtain ⟨S0, E0, Y0, add0⟩ := add_ex ⟨#[109, 97, 106, 111, 114]⟩ (nstr a') (by have p : (⟨#[109, 97, 106, 111, 114]⟩ : ByteArray).size = 5 := rfl; have q := nstr_size a'; have q2 := itoa_len wa; omega)
  have Z0 : S0.size ≤ 27 := by
    have p : (⟨#[109, 97, 106, 111, 114]⟩ : ByteArray).size = 5 := rfl
    have q := nstr_size a'; have q2 := itoa_len wa
    omega
  have F0 := Lib.hid E0
  clear E0 Y0
  have hbase : S0.data.toList = wordOf 6 ++ spaced (fixW ⟨6, a', b', nm', mt', zs, ys⟩) := by
    rw [F0.out]
    simp [fixW, spaced, nstr_toList, wordOf, wordsL]
  have HBASE := Lib.hid hbase
  clear hbase hbel hR hbx ha hs wa wb wg ws hv hsz
  have x0 : W.cell? ⟨w.heap.size, 0, none⟩ = some (.int .i64 6) := HX.out.cell 0
  have x1 : W.cell? ⟨w.heap.size, 1, none⟩ = some (.int .i64 a') := HX.out.cell 1
  have x2 : W.cell? ⟨w.heap.size, 2, none⟩ = some (.int .i64 b') := HX.out.cell 2
  have x3 : W.cell? ⟨w.heap.size, 3, none⟩ = some (.string nm') := HX.out.cell 3
  have x4 : W.cell? ⟨w.heap.size, 4, none⟩ = some (.string mt') := HX.out.cell 4
  have x5 : W.cell? ⟨w.heap.size, 5, none⟩ = some (.slice A n c) := HX.out.cell 5
  have x6 : W.cell? ⟨w.heap.size, 6, none⟩ = some (.slice A2 n2 c2) := HX.out.cell 6
  go_enter Tryz.func7, Tryz.ntmps7
  go_wp2_with fail
  refine (valid9 _ _ _ HR.out (Nat.le_trans hn (by decide)) (Nat.le_trans hn2 (by decide)) (Nat.le_trans hnm (by decide)) (Nat.le_trans hmt (by decide))).mono ?_
  rintro e w1 ⟨rfl, b1⟩
  rw [HV.out]
  have X1 := HX.out.below b1 HX.out.lt
  have B1 := HB.out.trans (b1.mono HB.out.size)
  have z1 : w.heap.size < w1.heap.size := X1.lt
  clear x0 x1 x2 x3 x4 x5 x6 hW
  have x0 : w1.cell? ⟨w.heap.size, 0, none⟩ = some (.int .i64 6) := X1.cell 0
  have x1 : w1.cell? ⟨w.heap.size, 1, none⟩ = some (.int .i64 a') := X1.cell 1
  have x2 : w1.cell? ⟨w.heap.size, 2, none⟩ = some (.int .i64 b') := X1.cell 2
  have x3 : w1.cell? ⟨w.heap.size, 3, none⟩ = some (.string nm') := X1.cell 3
  have x4 : w1.cell? ⟨w.heap.size, 4, none⟩ = some (.string mt') := X1.cell 4
  have x5 : w1.cell? ⟨w.heap.size, 5, none⟩ = some (.slice A n c) := X1.cell 5
  have x6 : w1.cell? ⟨w.heap.size, 6, none⟩ = some (.slice A2 n2 c2) := X1.cell 6
  have hkk : Below w1.heap.size w1 w1 := Below.refl _ _
  have B1' := Lib.hid B1
  have X1' := Lib.hid X1
  clear B1 X1 b1
  go_wp2_with fail
  go_cut [3] (fun s U => s = .string ⟨#[109, 97, 106, 111, 114]⟩ ∧ Below w1.heap.size w1 U)
  case first =>
    go_region_with ((go_at_call 14
                     refine (words14 _).mono ?_
                     rintro e w2 ⟨rfl, hw2⟩
                     have hk2 : Below w1.heap.size w1 w2 := by rw [← hw2]; exact hkk.drew.alloc (Nat.le_refl _) _
                     have x0' : w2.cell? ⟨w.heap.size, 0, none⟩ = some (.int .i64 6) := (cells_below hk2 z1 0).trans x0
                     have hwc : w2.cell? ⟨w1.heap.size, 6, none⟩ = some (.string ⟨#[109, 97, 106, 111, 114]⟩) := by rw [← hw2]; exact (Blk.new w1.drew 9 (wordsL.map Value.string).toArray).cell 6
                     clear hw2))
    all_goals
      go_wp2_with fail
      go_meet
      exact ⟨rfl, hk2⟩
  case rest =>
  obtain ⟨rfl, hkk⟩ := hcut
  obtain ⟨w2, rfl⟩ : ∃ w2 : World, w2 = wc := ⟨_, rfl⟩
  have X2 := X1'.out.below hkk z1
  have B2 := Lib.hid (B1'.out.trans (hkk.mono B1'.out.size))
  have z2 : w.heap.size < w2.heap.size := X2.lt
  clear x0 x1 x2 x3 x4 x5 x6 hkk
  have x0 : w2.cell? ⟨w.heap.size, 0, none⟩ = some (.int .i64 6) := X2.cell 0
  have x1 : w2.cell? ⟨w.heap.size, 1, none⟩ = some (.int .i64 a') := X2.cell 1
  have x2 : w2.cell? ⟨w.heap.size, 2, none⟩ = some (.int .i64 b') := X2.cell 2
  have x3 : w2.cell? ⟨w.heap.size, 3, none⟩ = some (.string nm') := X2.cell 3
  have x4 : w2.cell? ⟨w.heap.size, 4, none⟩ = some (.string mt') := X2.cell 4
  have x5 : w2.cell? ⟨w.heap.size, 5, none⟩ = some (.slice A n c) := X2.cell 5
  have x6 : w2.cell? ⟨w.heap.size, 6, none⟩ = some (.slice A2 n2 c2) := X2.cell 6
  go_wp2_with fail
  refine (number15 _ _ HW.out.1).mono ?_
  rintro e w3 ⟨rfl, b3⟩
  have X3 := X2.below b3 X2.lt
  have B3 := Lib.hid (B2.out.trans (b3.mono B2.out.size))
  have z3 : w.heap.size < w3.heap.size := X3.lt
  clear x0 x1 x2 x3 x4 x5 x6 b3 X2
  have x0 : w3.cell? ⟨w.heap.size, 0, none⟩ = some (.int .i64 6) := X3.cell 0
  have x1 : w3.cell? ⟨w.heap.size, 1, none⟩ = some (.int .i64 a') := X3.cell 1
  have x2 : w3.cell? ⟨w.heap.size, 2, none⟩ = some (.int .i64 b') := X3.cell 2
  have x3 : w3.cell? ⟨w.heap.size, 3, none⟩ = some (.string nm') := X3.cell 3
  have x4 : w3.cell? ⟨w.heap.size, 4, none⟩ = some (.string mt') := X3.cell 4
  have x5 : w3.cell? ⟨w.heap.size, 5, none⟩ = some (.slice A n c) := X3.cell 5
  have x6 : w3.cell? ⟨w.heap.size, 6, none⟩ = some (.slice A2 n2 c2) := X3.cell 6
  go_wp2_with fail
  have hap := HA.out.1.below B3.out
  have HXp := Lib.hid X3
  clear X3
  go_loopw [3, 4] (fun s i wr => ∃ (q : Nat) (S : ByteArray), q ≤ n ∧ i = .int .i64 q ∧ s = .string S ∧ Below w3.heap.size w3 wr ∧ S.size ≤ 27 + q * 22 ∧ Hid (S.data.toList = wordOf 6 ++ spaced (fixW ⟨6, a', b', nm', mt', zs, ys⟩) ++ spaced (argW (zs.take q)))) (fun _ i _ => n - (intOf i).toNat)
  case atStart => exact ⟨0, _, Nat.zero_le _, rfl, rfl, Below.refl _ _, by omega, Lib.hid (by rw [HBASE.out]; simp [argW, spaced])⟩
  case round =>
    obtain ⟨q, S, hq, rfl, rfl, hbw, hS, HSL⟩ := hrel
    have y5 : wr.cell? ⟨w.heap.size, 5, none⟩ = some (.slice A n c) := (cells_below hbw HXp.out.lt 5).trans x5
    by_cases hlt : q < n
    · obtain ⟨bb, off, z, rfl, hbb, hz, hc⟩ := hap.at_ hlt
      have hc' : wr.cell? ⟨bb, off + q, none⟩ = some (.int .i64 z) := (cells_below hbw (Nat.lt_trans hbb HXp.out.lt) _).trans hc
      have hk0 : 0 ≤ (q : Int) := by omega
      have hk1 : (q : Int) < n := by omega
      have hzi : I64 z := HW.out.2.2.1 z (List.mem_of_getElem? hz)
      have HZ := Lib.hid (And.intro hz hzi)
      have hl21 := itoa_len hzi
      have hns := nstr_size z
      obtain ⟨S', E', Y', add'⟩ := add_ex S (nstr z) (by omega)
      have EE := Lib.hid E'
      have hS' : S'.size ≤ 27 + (q + 1) * 22 := by omega
      clear hz hzi hl21 hns E' Y' hc
      go_wp2_with fail
      refine (number15 _ _ HZ.out.2).mono ?_
      rintro e w9 ⟨rfl, b9⟩
      have hb9 := hbw.trans (b9.mono hbw.size)
      clear b9
      go_wp2_with fail
      go_roundw
      case rel => exact ⟨q + 1, S', by omega, by go_num, rfl, hb9, hS', Lib.hid (by rw [EE.out, HSL.out, argW_snoc HZ.out.1, spaced_append, nstr_toList]; simp [spaced])⟩
      case measure => simp [intOf]; omega
    · obtain rfl : q = n := by omega
      have HBp := Lib.hid (B3.out.trans (hbw.mono B3.out.size))
      have HSp : Hid (S.data.toList = wordOf 6 ++ spaced (fixW ⟨6, a', b', nm', mt', zs, ys⟩) ++ spaced (argW zs)) := by
        have h1 := HSL.out
        rw [List.take_of_length_le (by have := HL.out; omega)] at h1
        exact Lib.hid h1
      clear HSL
      have xx6 : wr.cell? ⟨w.heap.size, 6, none⟩ = some (.slice A2 n2 c2) := (cells_below hbw HXp.out.lt 6).trans x6
      have X9 := HXp.out.below hbw HXp.out.lt
      have hsz2 : S.size ≤ 27 + 1000 * 22 := by omega
      clear x0 x1 x2 x3 x4 x5 x6 hbw hS hlt
      have x6 := xx6
      clear xx6
      obtain ⟨wo, rfl⟩ : ∃ wo : World, wo = wr := ⟨_, rfl⟩
      go_wp2_with fail
      have has := HA.out.2.below HBp.out
      have HXs := Lib.hid X9
      clear X9
      go_loopw [3, 5] (fun s i wr => ∃ (q : Nat) (S : ByteArray), q ≤ n2 ∧ i = .int .i64 q ∧ s = .string S ∧ Below wo.heap.size wo wr ∧ S.size ≤ 22027 + q * 22 ∧ Hid (S.data.toList = (wordOf 6 ++ spaced (fixW ⟨6, a', b', nm', mt', zs, ys⟩) ++ spaced (argW zs)) ++ spaced (argW (ys.take q)))) (fun _ i _ => n2 - (intOf i).toNat)
      case atStart => exact ⟨0, _, Nat.zero_le _, rfl, rfl, Below.refl _ _, by omega, Lib.hid (by rw [HSp.out]; simp [argW, spaced])⟩
      case round =>
        obtain ⟨q, S, hq, rfl, rfl, hbw, hS, HSL⟩ := hrel
        have y6 : wr.cell? ⟨w.heap.size, 6, none⟩ = some (.slice A2 n2 c2) := (cells_below hbw HXs.out.lt 6).trans x6
        by_cases hlt : q < n2
        · obtain ⟨bb, off, z, rfl, hbb, hz, hc⟩ := has.at_ hlt
          have hc' : wr.cell? ⟨bb, off + q, none⟩ = some (.int .i64 z) := (cells_below hbw (Nat.lt_trans hbb HXs.out.lt) _).trans hc
          have hk0 : 0 ≤ (q : Int) := by omega
          have hk1 : (q : Int) < n2 := by omega
          have hzi : I64 z := HW.out.2.2.2 z (List.mem_of_getElem? hz)
          have HZ := Lib.hid (And.intro hz hzi)
          have hl21 := itoa_len hzi
          have hns := nstr_size z
          obtain ⟨S', E', Y', add'⟩ := add_ex S (nstr z) (by omega)
          have EE := Lib.hid E'
          have hS' : S'.size ≤ 22027 + (q + 1) * 22 := by omega
          clear hz hzi hl21 hns E' Y' hc
          go_wp2_with fail
          refine (number15 _ _ HZ.out.2).mono ?_
          rintro e w9 ⟨rfl, b9⟩
          have hb9 := hbw.trans (b9.mono hbw.size)
          clear b9
          go_wp2_with fail
          go_roundw
          case rel => exact ⟨q + 1, S', by omega, by go_num, rfl, hb9, hS', Lib.hid (by rw [EE.out, HSL.out, argW_snoc HZ.out.1, spaced_append, nstr_toList]; simp [spaced])⟩
          case measure => simp [intOf]; omega
        · obtain rfl : q = n2 := by omega
          have HBs := Lib.hid (HBp.out.trans (hbw.mono HBp.out.size))
          have HSs : Hid (S.data.toList = (wordOf 6 ++ spaced (fixW ⟨6, a', b', nm', mt', zs, ys⟩) ++ spaced (argW zs)) ++ spaced (argW ys)) := by
            have h1 := HSL.out
            rw [List.take_of_length_le (by have := HL.out; omega)] at h1
            exact Lib.hid h1
          clear HSL
          go_wp2_with fail
          go_ret
          refine ⟨ret_str (ba_eq ?_), HBs.out⟩
          rw [HSs.out]
          simp [tailW, spaced_append]

set_option maxRecDepth 100000 in
set_option maxHeartbeats 8000000 in
theorem fmt7_7 (v : Av) (d : Ad) (w : World) (h : Reads w w.heap.size v d) (hn : v.n ≤ 1000) (hn2 : v.n2 ≤ 1000) (hnm : v.nm.size ≤ 1000) (hmt : v.mt.size ≤ 1000) (hw : Wf d) (hk : v.k = 7) (hv : validB d = true) :
    Calls Tryz.prog 7 #[.agg v.cells] w fun e w' => e = .returned (.string ⟨(wordOf 7 ++ spaced (tailW d)).toArray⟩) ∧ Below w.heap.size w w' := by
  obtain ⟨k, a, b, nm, mt, zs, ys⟩ := d
  obtain ⟨k', a', b', nm', mt', A, n, c, A2, n2, c2⟩ := v
  obtain ⟨h1, h2, h3, h4, h5, ha, hs⟩ := h
  dsimp only at h1 h2 h3 h4 h5 ha hs hn hn2 hnm hmt hk
  subst h1 h2 h3 h4 h5 hk
  obtain ⟨wa, wb, wg, ws⟩ := hw
  dsimp only at wa wb wg ws
  unfold Av.cells
  dsimp only
  have hbel : Below w.heap.size w (w.alloc (.cells #[.int .i64 7, .int .i64 a', .int .i64 b', .string nm', .string mt', .slice A n c, .slice A2 n2 c2] 25)) := (Below.refl _ _).alloc (Nat.le_refl _) _
  have hR : Reads (w.alloc (.cells #[.int .i64 7, .int .i64 a', .int .i64 b', .string nm', .string mt', .slice A n c, .slice A2 n2 c2] 25)) (w.alloc (.cells #[.int .i64 7, .int .i64 a', .int .i64 b', .string nm', .string mt', .slice A n c, .slice A2 n2 c2] 25)).heap.size ⟨7, a', b', nm', mt', A, n, c, A2, n2, c2⟩ ⟨7, a', b', nm', mt', zs, ys⟩ := ⟨rfl, rfl, rfl, rfl, rfl, (ha.below hbel).more hbel.size, (hs.below hbel).more hbel.size⟩
  have hbx := Blk.new w 25 #[.int .i64 7, .int .i64 a', .int .i64 b', .string nm', .string mt', .slice A n c, .slice A2 n2 c2]
  generalize hW : w.alloc (.cells #[.int .i64 7, .int .i64 a', .int .i64 b', .string nm', .string mt', .slice A n c, .slice A2 n2 c2] 25) = W at *
  have hsz : W.heap.size = w.heap.size + 1 := by rw [← hW]; simp
  have HR := Lib.hid hR
  have HB := Lib.hid hbel
  have HX := Lib.hid hbx
  have HA := Lib.hid (And.intro ha hs)
  have HL := Lib.hid (And.intro ha.len hs.len)
  have HW := Lib.hid (And.intro wa (And.intro wb (And.intro wg ws)))
  have HV := Lib.hid hv
  have HS := Lib.hid hsz
  obtain ⟨S0, E0, Y0, add0⟩ := add_ex ⟨#[99, 114, 97, 115, 104]⟩ (nstr a') (by have p : (⟨#[99, 114, 97, 115, 104]⟩ : ByteArray).size = 5 := rfl; have q := nstr_size a'; have q2 := itoa_len wa; omega)
  have Z0 : S0.size ≤ 27 := by
    have p : (⟨#[99, 114, 97, 115, 104]⟩ : ByteArray).size = 5 := rfl
    have q := nstr_size a'; have q2 := itoa_len wa
    omega
  have F0 := Lib.hid E0
  clear E0 Y0
  have hbase : S0.data.toList = wordOf 7 ++ spaced (fixW ⟨7, a', b', nm', mt', zs, ys⟩) := by
    rw [F0.out]
    simp [fixW, spaced, nstr_toList, wordOf, wordsL]
  have HBASE := Lib.hid hbase
  clear hbase hbel hR hbx ha hs wa wb wg ws hv hsz
  have x0 : W.cell? ⟨w.heap.size, 0, none⟩ = some (.int .i64 7) := HX.out.cell 0
  have x1 : W.cell? ⟨w.heap.size, 1, none⟩ = some (.int .i64 a') := HX.out.cell 1
  have x2 : W.cell? ⟨w.heap.size, 2, none⟩ = some (.int .i64 b') := HX.out.cell 2
  have x3 : W.cell? ⟨w.heap.size, 3, none⟩ = some (.string nm') := HX.out.cell 3
  have x4 : W.cell? ⟨w.heap.size, 4, none⟩ = some (.string mt') := HX.out.cell 4
  have x5 : W.cell? ⟨w.heap.size, 5, none⟩ = some (.slice A n c) := HX.out.cell 5
  have x6 : W.cell? ⟨w.heap.size, 6, none⟩ = some (.slice A2 n2 c2) := HX.out.cell 6
  go_enter Tryz.func7, Tryz.ntmps7
  go_wp2_with fail
  refine (valid9 _ _ _ HR.out (Nat.le_trans hn (by decide)) (Nat.le_trans hn2 (by decide)) (Nat.le_trans hnm (by decide)) (Nat.le_trans hmt (by decide))).mono ?_
  rintro e w1 ⟨rfl, b1⟩
  rw [HV.out]
  have X1 := HX.out.below b1 HX.out.lt
  have B1 := HB.out.trans (b1.mono HB.out.size)
  have z1 : w.heap.size < w1.heap.size := X1.lt
  clear x0 x1 x2 x3 x4 x5 x6 hW
  have x0 : w1.cell? ⟨w.heap.size, 0, none⟩ = some (.int .i64 7) := X1.cell 0
  have x1 : w1.cell? ⟨w.heap.size, 1, none⟩ = some (.int .i64 a') := X1.cell 1
  have x2 : w1.cell? ⟨w.heap.size, 2, none⟩ = some (.int .i64 b') := X1.cell 2
  have x3 : w1.cell? ⟨w.heap.size, 3, none⟩ = some (.string nm') := X1.cell 3
  have x4 : w1.cell? ⟨w.heap.size, 4, none⟩ = some (.string mt') := X1.cell 4
  have x5 : w1.cell? ⟨w.heap.size, 5, none⟩ = some (.slice A n c) := X1.cell 5
  have x6 : w1.cell? ⟨w.heap.size, 6, none⟩ = some (.slice A2 n2 c2) := X1.cell 6
  have hkk : Below w1.heap.size w1 w1 := Below.refl _ _
  have B1' := Lib.hid B1
  have X1' := Lib.hid X1
  clear B1 X1 b1
  go_wp2_with fail
  go_cut [3] (fun s U => s = .string ⟨#[99, 114, 97, 115, 104]⟩ ∧ Below w1.heap.size w1 U)
  case first =>
    go_region_with ((go_at_call 14
                     refine (words14 _).mono ?_
                     rintro e w2 ⟨rfl, hw2⟩
                     have hk2 : Below w1.heap.size w1 w2 := by rw [← hw2]; exact hkk.drew.alloc (Nat.le_refl _) _
                     have x0' : w2.cell? ⟨w.heap.size, 0, none⟩ = some (.int .i64 7) := (cells_below hk2 z1 0).trans x0
                     have hwc : w2.cell? ⟨w1.heap.size, 7, none⟩ = some (.string ⟨#[99, 114, 97, 115, 104]⟩) := by rw [← hw2]; exact (Blk.new w1.drew 9 (wordsL.map Value.string).toArray).cell 7
                     clear hw2))
    all_goals
      go_wp2_with fail
      go_meet
      exact ⟨rfl, hk2⟩
  case rest =>
  obtain ⟨rfl, hkk⟩ := hcut
  obtain ⟨w2, rfl⟩ : ∃ w2 : World, w2 = wc := ⟨_, rfl⟩
  have X2 := X1'.out.below hkk z1
  have B2 := Lib.hid (B1'.out.trans (hkk.mono B1'.out.size))
  have z2 : w.heap.size < w2.heap.size := X2.lt
  clear x0 x1 x2 x3 x4 x5 x6 hkk
  have x0 : w2.cell? ⟨w.heap.size, 0, none⟩ = some (.int .i64 7) := X2.cell 0
  have x1 : w2.cell? ⟨w.heap.size, 1, none⟩ = some (.int .i64 a') := X2.cell 1
  have x2 : w2.cell? ⟨w.heap.size, 2, none⟩ = some (.int .i64 b') := X2.cell 2
  have x3 : w2.cell? ⟨w.heap.size, 3, none⟩ = some (.string nm') := X2.cell 3
  have x4 : w2.cell? ⟨w.heap.size, 4, none⟩ = some (.string mt') := X2.cell 4
  have x5 : w2.cell? ⟨w.heap.size, 5, none⟩ = some (.slice A n c) := X2.cell 5
  have x6 : w2.cell? ⟨w.heap.size, 6, none⟩ = some (.slice A2 n2 c2) := X2.cell 6
  go_wp2_with fail
  refine (number15 _ _ HW.out.1).mono ?_
  rintro e w3 ⟨rfl, b3⟩
  have X3 := X2.below b3 X2.lt
  have B3 := Lib.hid (B2.out.trans (b3.mono B2.out.size))
  have z3 : w.heap.size < w3.heap.size := X3.lt
  clear x0 x1 x2 x3 x4 x5 x6 b3 X2
  have x0 : w3.cell? ⟨w.heap.size, 0, none⟩ = some (.int .i64 7) := X3.cell 0
  have x1 : w3.cell? ⟨w.heap.size, 1, none⟩ = some (.int .i64 a') := X3.cell 1
  have x2 : w3.cell? ⟨w.heap.size, 2, none⟩ = some (.int .i64 b') := X3.cell 2
  have x3 : w3.cell? ⟨w.heap.size, 3, none⟩ = some (.string nm') := X3.cell 3
  have x4 : w3.cell? ⟨w.heap.size, 4, none⟩ = some (.string mt') := X3.cell 4
  have x5 : w3.cell? ⟨w.heap.size, 5, none⟩ = some (.slice A n c) := X3.cell 5
  have x6 : w3.cell? ⟨w.heap.size, 6, none⟩ = some (.slice A2 n2 c2) := X3.cell 6
  go_wp2_with fail
  have hap := HA.out.1.below B3.out
  have HXp := Lib.hid X3
  clear X3
  go_loopw [3, 4] (fun s i wr => ∃ (q : Nat) (S : ByteArray), q ≤ n ∧ i = .int .i64 q ∧ s = .string S ∧ Below w3.heap.size w3 wr ∧ S.size ≤ 27 + q * 22 ∧ Hid (S.data.toList = wordOf 7 ++ spaced (fixW ⟨7, a', b', nm', mt', zs, ys⟩) ++ spaced (argW (zs.take q)))) (fun _ i _ => n - (intOf i).toNat)
  case atStart => exact ⟨0, _, Nat.zero_le _, rfl, rfl, Below.refl _ _, by omega, Lib.hid (by rw [HBASE.out]; simp [argW, spaced])⟩
  case round =>
    obtain ⟨q, S, hq, rfl, rfl, hbw, hS, HSL⟩ := hrel
    have y5 : wr.cell? ⟨w.heap.size, 5, none⟩ = some (.slice A n c) := (cells_below hbw HXp.out.lt 5).trans x5
    by_cases hlt : q < n
    · obtain ⟨bb, off, z, rfl, hbb, hz, hc⟩ := hap.at_ hlt
      have hc' : wr.cell? ⟨bb, off + q, none⟩ = some (.int .i64 z) := (cells_below hbw (Nat.lt_trans hbb HXp.out.lt) _).trans hc
      have hk0 : 0 ≤ (q : Int) := by omega
      have hk1 : (q : Int) < n := by omega
      have hzi : I64 z := HW.out.2.2.1 z (List.mem_of_getElem? hz)
      have HZ := Lib.hid (And.intro hz hzi)
      have hl21 := itoa_len hzi
      have hns := nstr_size z
      obtain ⟨S', E', Y', add'⟩ := add_ex S (nstr z) (by omega)
      have EE := Lib.hid E'
      have hS' : S'.size ≤ 27 + (q + 1) * 22 := by omega
      clear hz hzi hl21 hns E' Y' hc
      go_wp2_with fail
      refine (number15 _ _ HZ.out.2).mono ?_
      rintro e w9 ⟨rfl, b9⟩
      have hb9 := hbw.trans (b9.mono hbw.size)
      clear b9
      go_wp2_with fail
      go_roundw
      case rel => exact ⟨q + 1, S', by omega, by go_num, rfl, hb9, hS', Lib.hid (by rw [EE.out, HSL.out, argW_snoc HZ.out.1, spaced_append, nstr_toList]; simp [spaced])⟩
      case measure => simp [intOf]; omega
    · obtain rfl : q = n := by omega
      have HBp := Lib.hid (B3.out.trans (hbw.mono B3.out.size))
      have HSp : Hid (S.data.toList = wordOf 7 ++ spaced (fixW ⟨7, a', b', nm', mt', zs, ys⟩) ++ spaced (argW zs)) := by
        have h1 := HSL.out
        rw [List.take_of_length_le (by have := HL.out; omega)] at h1
        exact Lib.hid h1
      clear HSL
      have xx6 : wr.cell? ⟨w.heap.size, 6, none⟩ = some (.slice A2 n2 c2) := (cells_below hbw HXp.out.lt 6).trans x6
      have X9 := HXp.out.below hbw HXp.out.lt
      have hsz2 : S.size ≤ 27 + 1000 * 22 := by omega
      clear x0 x1 x2 x3 x4 x5 x6 hbw hS hlt
      have x6 := xx6
      clear xx6
      obtain ⟨wo, rfl⟩ : ∃ wo : World, wo = wr := ⟨_, rfl⟩
      go_wp2_with fail
      have has := HA.out.2.below HBp.out
      have HXs := Lib.hid X9
      clear X9
      go_loopw [3, 5] (fun s i wr => ∃ (q : Nat) (S : ByteArray), q ≤ n2 ∧ i = .int .i64 q ∧ s = .string S ∧ Below wo.heap.size wo wr ∧ S.size ≤ 22027 + q * 22 ∧ Hid (S.data.toList = (wordOf 7 ++ spaced (fixW ⟨7, a', b', nm', mt', zs, ys⟩) ++ spaced (argW zs)) ++ spaced (argW (ys.take q)))) (fun _ i _ => n2 - (intOf i).toNat)
      case atStart => exact ⟨0, _, Nat.zero_le _, rfl, rfl, Below.refl _ _, by omega, Lib.hid (by rw [HSp.out]; simp [argW, spaced])⟩
      case round =>
        obtain ⟨q, S, hq, rfl, rfl, hbw, hS, HSL⟩ := hrel
        have y6 : wr.cell? ⟨w.heap.size, 6, none⟩ = some (.slice A2 n2 c2) := (cells_below hbw HXs.out.lt 6).trans x6
        by_cases hlt : q < n2
        · obtain ⟨bb, off, z, rfl, hbb, hz, hc⟩ := has.at_ hlt
          have hc' : wr.cell? ⟨bb, off + q, none⟩ = some (.int .i64 z) := (cells_below hbw (Nat.lt_trans hbb HXs.out.lt) _).trans hc
          have hk0 : 0 ≤ (q : Int) := by omega
          have hk1 : (q : Int) < n2 := by omega
          have hzi : I64 z := HW.out.2.2.2 z (List.mem_of_getElem? hz)
          have HZ := Lib.hid (And.intro hz hzi)
          have hl21 := itoa_len hzi
          have hns := nstr_size z
          obtain ⟨S', E', Y', add'⟩ := add_ex S (nstr z) (by omega)
          have EE := Lib.hid E'
          have hS' : S'.size ≤ 22027 + (q + 1) * 22 := by omega
          clear hz hzi hl21 hns E' Y' hc
          go_wp2_with fail
          refine (number15 _ _ HZ.out.2).mono ?_
          rintro e w9 ⟨rfl, b9⟩
          have hb9 := hbw.trans (b9.mono hbw.size)
          clear b9
          go_wp2_with fail
          go_roundw
          case rel => exact ⟨q + 1, S', by omega, by go_num, rfl, hb9, hS', Lib.hid (by rw [EE.out, HSL.out, argW_snoc HZ.out.1, spaced_append, nstr_toList]; simp [spaced])⟩
          case measure => simp [intOf]; omega
        · obtain rfl : q = n2 := by omega
          have HBs := Lib.hid (HBp.out.trans (hbw.mono HBp.out.size))
          have HSs : Hid (S.data.toList = (wordOf 7 ++ spaced (fixW ⟨7, a', b', nm', mt', zs, ys⟩) ++ spaced (argW zs)) ++ spaced (argW ys)) := by
            have h1 := HSL.out
            rw [List.take_of_length_le (by have := HL.out; omega)] at h1
            exact Lib.hid h1
          clear HSL
          go_wp2_with fail
          go_ret
          refine ⟨ret_str (ba_eq ?_), HBs.out⟩
          rw [HSs.out]
          simp [tailW, spaced_append]

set_option maxRecDepth 100000 in
set_option maxHeartbeats 8000000 in
theorem fmt7_8 (v : Av) (d : Ad) (w : World) (h : Reads w w.heap.size v d) (hn : v.n ≤ 1000) (hn2 : v.n2 ≤ 1000) (hnm : v.nm.size ≤ 1000) (hmt : v.mt.size ≤ 1000) (hw : Wf d) (hk : v.k = 8) (hv : validB d = true) :
    Calls Tryz.prog 7 #[.agg v.cells] w fun e w' => e = .returned (.string ⟨(wordOf 8 ++ spaced (tailW d)).toArray⟩) ∧ Below w.heap.size w w' := by
  obtain ⟨k, a, b, nm, mt, zs, ys⟩ := d
  obtain ⟨k', a', b', nm', mt', A, n, c, A2, n2, c2⟩ := v
  obtain ⟨h1, h2, h3, h4, h5, ha, hs⟩ := h
  dsimp only at h1 h2 h3 h4 h5 ha hs hn hn2 hnm hmt hk
  subst h1 h2 h3 h4 h5 hk
  obtain ⟨wa, wb, wg, ws⟩ := hw
  dsimp only at wa wb wg ws
  unfold Av.cells
  dsimp only
  have hbel : Below w.heap.size w (w.alloc (.cells #[.int .i64 8, .int .i64 a', .int .i64 b', .string nm', .string mt', .slice A n c, .slice A2 n2 c2] 25)) := (Below.refl _ _).alloc (Nat.le_refl _) _
  have hR : Reads (w.alloc (.cells #[.int .i64 8, .int .i64 a', .int .i64 b', .string nm', .string mt', .slice A n c, .slice A2 n2 c2] 25)) (w.alloc (.cells #[.int .i64 8, .int .i64 a', .int .i64 b', .string nm', .string mt', .slice A n c, .slice A2 n2 c2] 25)).heap.size ⟨8, a', b', nm', mt', A, n, c, A2, n2, c2⟩ ⟨8, a', b', nm', mt', zs, ys⟩ := ⟨rfl, rfl, rfl, rfl, rfl, (ha.below hbel).more hbel.size, (hs.below hbel).more hbel.size⟩
  have hbx := Blk.new w 25 #[.int .i64 8, .int .i64 a', .int .i64 b', .string nm', .string mt', .slice A n c, .slice A2 n2 c2]
  generalize hW : w.alloc (.cells #[.int .i64 8, .int .i64 a', .int .i64 b', .string nm', .string mt', .slice A n c, .slice A2 n2 c2] 25) = W at *
  have hsz : W.heap.size = w.heap.size + 1 := by rw [← hW]; simp
  have HR := Lib.hid hR
  have HB := Lib.hid hbel
  have HX := Lib.hid hbx
  have HA := Lib.hid (And.intro ha hs)
  have HL := Lib.hid (And.intro ha.len hs.len)
  have HW := Lib.hid (And.intro wa (And.intro wb (And.intro wg ws)))
  have HV := Lib.hid hv
  have HS := Lib.hid hsz
  obtain ⟨S0, E0, Y0, add0⟩ := add_ex ⟨#[114, 101, 115, 116, 97, 114, 116]⟩ (nstr a') (by have p : (⟨#[114, 101, 115, 116, 97, 114, 116]⟩ : ByteArray).size = 7 := rfl; have q := nstr_size a'; have q2 := itoa_len wa; omega)
  have Z0 : S0.size ≤ 29 := by
    have p : (⟨#[114, 101, 115, 116, 97, 114, 116]⟩ : ByteArray).size = 7 := rfl
    have q := nstr_size a'; have q2 := itoa_len wa
    omega
  have F0 := Lib.hid E0
  clear E0 Y0
  have hbase : S0.data.toList = wordOf 8 ++ spaced (fixW ⟨8, a', b', nm', mt', zs, ys⟩) := by
    rw [F0.out]
    simp [fixW, spaced, nstr_toList, wordOf, wordsL]
  have HBASE := Lib.hid hbase
  clear hbase hbel hR hbx ha hs wa wb wg ws hv hsz
  have x0 : W.cell? ⟨w.heap.size, 0, none⟩ = some (.int .i64 8) := HX.out.cell 0
  have x1 : W.cell? ⟨w.heap.size, 1, none⟩ = some (.int .i64 a') := HX.out.cell 1
  have x2 : W.cell? ⟨w.heap.size, 2, none⟩ = some (.int .i64 b') := HX.out.cell 2
  have x3 : W.cell? ⟨w.heap.size, 3, none⟩ = some (.string nm') := HX.out.cell 3
  have x4 : W.cell? ⟨w.heap.size, 4, none⟩ = some (.string mt') := HX.out.cell 4
  have x5 : W.cell? ⟨w.heap.size, 5, none⟩ = some (.slice A n c) := HX.out.cell 5
  have x6 : W.cell? ⟨w.heap.size, 6, none⟩ = some (.slice A2 n2 c2) := HX.out.cell 6
  go_enter Tryz.func7, Tryz.ntmps7
  go_wp2_with fail
  refine (valid9 _ _ _ HR.out (Nat.le_trans hn (by decide)) (Nat.le_trans hn2 (by decide)) (Nat.le_trans hnm (by decide)) (Nat.le_trans hmt (by decide))).mono ?_
  rintro e w1 ⟨rfl, b1⟩
  rw [HV.out]
  have X1 := HX.out.below b1 HX.out.lt
  have B1 := HB.out.trans (b1.mono HB.out.size)
  have z1 : w.heap.size < w1.heap.size := X1.lt
  clear x0 x1 x2 x3 x4 x5 x6 hW
  have x0 : w1.cell? ⟨w.heap.size, 0, none⟩ = some (.int .i64 8) := X1.cell 0
  have x1 : w1.cell? ⟨w.heap.size, 1, none⟩ = some (.int .i64 a') := X1.cell 1
  have x2 : w1.cell? ⟨w.heap.size, 2, none⟩ = some (.int .i64 b') := X1.cell 2
  have x3 : w1.cell? ⟨w.heap.size, 3, none⟩ = some (.string nm') := X1.cell 3
  have x4 : w1.cell? ⟨w.heap.size, 4, none⟩ = some (.string mt') := X1.cell 4
  have x5 : w1.cell? ⟨w.heap.size, 5, none⟩ = some (.slice A n c) := X1.cell 5
  have x6 : w1.cell? ⟨w.heap.size, 6, none⟩ = some (.slice A2 n2 c2) := X1.cell 6
  have hkk : Below w1.heap.size w1 w1 := Below.refl _ _
  have B1' := Lib.hid B1
  have X1' := Lib.hid X1
  clear B1 X1 b1
  go_wp2_with fail
  go_cut [3] (fun s U => s = .string ⟨#[114, 101, 115, 116, 97, 114, 116]⟩ ∧ Below w1.heap.size w1 U)
  case first =>
    go_region_with ((go_at_call 14
                     refine (words14 _).mono ?_
                     rintro e w2 ⟨rfl, hw2⟩
                     have hk2 : Below w1.heap.size w1 w2 := by rw [← hw2]; exact hkk.drew.alloc (Nat.le_refl _) _
                     have x0' : w2.cell? ⟨w.heap.size, 0, none⟩ = some (.int .i64 8) := (cells_below hk2 z1 0).trans x0
                     have hwc : w2.cell? ⟨w1.heap.size, 8, none⟩ = some (.string ⟨#[114, 101, 115, 116, 97, 114, 116]⟩) := by rw [← hw2]; exact (Blk.new w1.drew 9 (wordsL.map Value.string).toArray).cell 8
                     clear hw2))
    all_goals
      go_wp2_with fail
      go_meet
      exact ⟨rfl, hk2⟩
  case rest =>
  obtain ⟨rfl, hkk⟩ := hcut
  obtain ⟨w2, rfl⟩ : ∃ w2 : World, w2 = wc := ⟨_, rfl⟩
  have X2 := X1'.out.below hkk z1
  have B2 := Lib.hid (B1'.out.trans (hkk.mono B1'.out.size))
  have z2 : w.heap.size < w2.heap.size := X2.lt
  clear x0 x1 x2 x3 x4 x5 x6 hkk
  have x0 : w2.cell? ⟨w.heap.size, 0, none⟩ = some (.int .i64 8) := X2.cell 0
  have x1 : w2.cell? ⟨w.heap.size, 1, none⟩ = some (.int .i64 a') := X2.cell 1
  have x2 : w2.cell? ⟨w.heap.size, 2, none⟩ = some (.int .i64 b') := X2.cell 2
  have x3 : w2.cell? ⟨w.heap.size, 3, none⟩ = some (.string nm') := X2.cell 3
  have x4 : w2.cell? ⟨w.heap.size, 4, none⟩ = some (.string mt') := X2.cell 4
  have x5 : w2.cell? ⟨w.heap.size, 5, none⟩ = some (.slice A n c) := X2.cell 5
  have x6 : w2.cell? ⟨w.heap.size, 6, none⟩ = some (.slice A2 n2 c2) := X2.cell 6
  go_wp2_with fail
  refine (number15 _ _ HW.out.1).mono ?_
  rintro e w3 ⟨rfl, b3⟩
  have X3 := X2.below b3 X2.lt
  have B3 := Lib.hid (B2.out.trans (b3.mono B2.out.size))
  have z3 : w.heap.size < w3.heap.size := X3.lt
  clear x0 x1 x2 x3 x4 x5 x6 b3 X2
  have x0 : w3.cell? ⟨w.heap.size, 0, none⟩ = some (.int .i64 8) := X3.cell 0
  have x1 : w3.cell? ⟨w.heap.size, 1, none⟩ = some (.int .i64 a') := X3.cell 1
  have x2 : w3.cell? ⟨w.heap.size, 2, none⟩ = some (.int .i64 b') := X3.cell 2
  have x3 : w3.cell? ⟨w.heap.size, 3, none⟩ = some (.string nm') := X3.cell 3
  have x4 : w3.cell? ⟨w.heap.size, 4, none⟩ = some (.string mt') := X3.cell 4
  have x5 : w3.cell? ⟨w.heap.size, 5, none⟩ = some (.slice A n c) := X3.cell 5
  have x6 : w3.cell? ⟨w.heap.size, 6, none⟩ = some (.slice A2 n2 c2) := X3.cell 6
  go_wp2_with fail
  have hap := HA.out.1.below B3.out
  have HXp := Lib.hid X3
  clear X3
  go_loopw [3, 4] (fun s i wr => ∃ (q : Nat) (S : ByteArray), q ≤ n ∧ i = .int .i64 q ∧ s = .string S ∧ Below w3.heap.size w3 wr ∧ S.size ≤ 29 + q * 22 ∧ Hid (S.data.toList = wordOf 8 ++ spaced (fixW ⟨8, a', b', nm', mt', zs, ys⟩) ++ spaced (argW (zs.take q)))) (fun _ i _ => n - (intOf i).toNat)
  case atStart => exact ⟨0, _, Nat.zero_le _, rfl, rfl, Below.refl _ _, by omega, Lib.hid (by rw [HBASE.out]; simp [argW, spaced])⟩
  case round =>
    obtain ⟨q, S, hq, rfl, rfl, hbw, hS, HSL⟩ := hrel
    have y5 : wr.cell? ⟨w.heap.size, 5, none⟩ = some (.slice A n c) := (cells_below hbw HXp.out.lt 5).trans x5
    by_cases hlt : q < n
    · obtain ⟨bb, off, z, rfl, hbb, hz, hc⟩ := hap.at_ hlt
      have hc' : wr.cell? ⟨bb, off + q, none⟩ = some (.int .i64 z) := (cells_below hbw (Nat.lt_trans hbb HXp.out.lt) _).trans hc
      have hk0 : 0 ≤ (q : Int) := by omega
      have hk1 : (q : Int) < n := by omega
      have hzi : I64 z := HW.out.2.2.1 z (List.mem_of_getElem? hz)
      have HZ := Lib.hid (And.intro hz hzi)
      have hl21 := itoa_len hzi
      have hns := nstr_size z
      obtain ⟨S', E', Y', add'⟩ := add_ex S (nstr z) (by omega)
      have EE := Lib.hid E'
      have hS' : S'.size ≤ 29 + (q + 1) * 22 := by omega
      clear hz hzi hl21 hns E' Y' hc
      go_wp2_with fail
      refine (number15 _ _ HZ.out.2).mono ?_
      rintro e w9 ⟨rfl, b9⟩
      have hb9 := hbw.trans (b9.mono hbw.size)
      clear b9
      go_wp2_with fail
      go_roundw
      case rel => exact ⟨q + 1, S', by omega, by go_num, rfl, hb9, hS', Lib.hid (by rw [EE.out, HSL.out, argW_snoc HZ.out.1, spaced_append, nstr_toList]; simp [spaced])⟩
      case measure => simp [intOf]; omega
    · obtain rfl : q = n := by omega
      have HBp := Lib.hid (B3.out.trans (hbw.mono B3.out.size))
      have HSp : Hid (S.data.toList = wordOf 8 ++ spaced (fixW ⟨8, a', b', nm', mt', zs, ys⟩) ++ spaced (argW zs)) := by
        have h1 := HSL.out
        rw [List.take_of_length_le (by have := HL.out; omega)] at h1
        exact Lib.hid h1
      clear HSL
      have xx6 : wr.cell? ⟨w.heap.size, 6, none⟩ = some (.slice A2 n2 c2) := (cells_below hbw HXp.out.lt 6).trans x6
      have X9 := HXp.out.below hbw HXp.out.lt
      have hsz2 : S.size ≤ 29 + 1000 * 22 := by omega
      clear x0 x1 x2 x3 x4 x5 x6 hbw hS hlt
      have x6 := xx6
      clear xx6
      obtain ⟨wo, rfl⟩ : ∃ wo : World, wo = wr := ⟨_, rfl⟩
      go_wp2_with fail
      have has := HA.out.2.below HBp.out
      have HXs := Lib.hid X9
      clear X9
      go_loopw [3, 5] (fun s i wr => ∃ (q : Nat) (S : ByteArray), q ≤ n2 ∧ i = .int .i64 q ∧ s = .string S ∧ Below wo.heap.size wo wr ∧ S.size ≤ 22029 + q * 22 ∧ Hid (S.data.toList = (wordOf 8 ++ spaced (fixW ⟨8, a', b', nm', mt', zs, ys⟩) ++ spaced (argW zs)) ++ spaced (argW (ys.take q)))) (fun _ i _ => n2 - (intOf i).toNat)
      case atStart => exact ⟨0, _, Nat.zero_le _, rfl, rfl, Below.refl _ _, by omega, Lib.hid (by rw [HSp.out]; simp [argW, spaced])⟩
      case round =>
        obtain ⟨q, S, hq, rfl, rfl, hbw, hS, HSL⟩ := hrel
        have y6 : wr.cell? ⟨w.heap.size, 6, none⟩ = some (.slice A2 n2 c2) := (cells_below hbw HXs.out.lt 6).trans x6
        by_cases hlt : q < n2
        · obtain ⟨bb, off, z, rfl, hbb, hz, hc⟩ := has.at_ hlt
          have hc' : wr.cell? ⟨bb, off + q, none⟩ = some (.int .i64 z) := (cells_below hbw (Nat.lt_trans hbb HXs.out.lt) _).trans hc
          have hk0 : 0 ≤ (q : Int) := by omega
          have hk1 : (q : Int) < n2 := by omega
          have hzi : I64 z := HW.out.2.2.2 z (List.mem_of_getElem? hz)
          have HZ := Lib.hid (And.intro hz hzi)
          have hl21 := itoa_len hzi
          have hns := nstr_size z
          obtain ⟨S', E', Y', add'⟩ := add_ex S (nstr z) (by omega)
          have EE := Lib.hid E'
          have hS' : S'.size ≤ 22029 + (q + 1) * 22 := by omega
          clear hz hzi hl21 hns E' Y' hc
          go_wp2_with fail
          refine (number15 _ _ HZ.out.2).mono ?_
          rintro e w9 ⟨rfl, b9⟩
          have hb9 := hbw.trans (b9.mono hbw.size)
          clear b9
          go_wp2_with fail
          go_roundw
          case rel => exact ⟨q + 1, S', by omega, by go_num, rfl, hb9, hS', Lib.hid (by rw [EE.out, HSL.out, argW_snoc HZ.out.1, spaced_append, nstr_toList]; simp [spaced])⟩
          case measure => simp [intOf]; omega
        · obtain rfl : q = n2 := by omega
          have HBs := Lib.hid (HBp.out.trans (hbw.mono HBp.out.size))
          have HSs : Hid (S.data.toList = (wordOf 8 ++ spaced (fixW ⟨8, a', b', nm', mt', zs, ys⟩) ++ spaced (argW zs)) ++ spaced (argW ys)) := by
            have h1 := HSL.out
            rw [List.take_of_length_le (by have := HL.out; omega)] at h1
            exact Lib.hid h1
          clear HSL
          go_wp2_with fail
          go_ret
          refine ⟨ret_str (ba_eq ?_), HBs.out⟩
          rw [HSs.out]
          simp [tailW, spaced_append]

set_option maxRecDepth 100000 in
set_option maxHeartbeats 8000000 in
theorem fmt7_9 (v : Av) (d : Ad) (w : World) (h : Reads w w.heap.size v d) (hn : v.n ≤ 1000) (hn2 : v.n2 ≤ 1000) (hnm : v.nm.size ≤ 1000) (hmt : v.mt.size ≤ 1000) (hw : Wf d) (hk : v.k = 9) (hv : validB d = true) :
    Calls Tryz.prog 7 #[.agg v.cells] w fun e w' => e = .returned (.string ⟨(wordOf 9 ++ spaced (tailW d)).toArray⟩) ∧ Below w.heap.size w w' := by
  obtain ⟨k, a, b, nm, mt, zs, ys⟩ := d
  obtain ⟨k', a', b', nm', mt', A, n, c, A2, n2, c2⟩ := v
  obtain ⟨h1, h2, h3, h4, h5, ha, hs⟩ := h
  dsimp only at h1 h2 h3 h4 h5 ha hs hn hn2 hnm hmt hk
  subst h1 h2 h3 h4 h5 hk
  obtain ⟨wa, wb, wg, ws⟩ := hw
  dsimp only at wa wb wg ws
  unfold Av.cells
  dsimp only
  have hbel : Below w.heap.size w (w.alloc (.cells #[.int .i64 9, .int .i64 a', .int .i64 b', .string nm', .string mt', .slice A n c, .slice A2 n2 c2] 25)) := (Below.refl _ _).alloc (Nat.le_refl _) _
  have hR : Reads (w.alloc (.cells #[.int .i64 9, .int .i64 a', .int .i64 b', .string nm', .string mt', .slice A n c, .slice A2 n2 c2] 25)) (w.alloc (.cells #[.int .i64 9, .int .i64 a', .int .i64 b', .string nm', .string mt', .slice A n c, .slice A2 n2 c2] 25)).heap.size ⟨9, a', b', nm', mt', A, n, c, A2, n2, c2⟩ ⟨9, a', b', nm', mt', zs, ys⟩ := ⟨rfl, rfl, rfl, rfl, rfl, (ha.below hbel).more hbel.size, (hs.below hbel).more hbel.size⟩
  have hbx := Blk.new w 25 #[.int .i64 9, .int .i64 a', .int .i64 b', .string nm', .string mt', .slice A n c, .slice A2 n2 c2]
  generalize hW : w.alloc (.cells #[.int .i64 9, .int .i64 a', .int .i64 b', .string nm', .string mt', .slice A n c, .slice A2 n2 c2] 25) = W at *
  have hsz : W.heap.size = w.heap.size + 1 := by rw [← hW]; simp
  have HR := Lib.hid hR
  have HB := Lib.hid hbel
  have HX := Lib.hid hbx
  have HA := Lib.hid (And.intro ha hs)
  have HL := Lib.hid (And.intro ha.len hs.len)
  have HW := Lib.hid (And.intro wa (And.intro wb (And.intro wg ws)))
  have HV := Lib.hid hv
  have HS := Lib.hid hsz
  obtain ⟨S0, E0, Y0, add0⟩ := add_ex ⟨#[99, 104, 101, 99, 107, 112, 111, 105, 110, 116]⟩ (nstr a') (by have p : (⟨#[99, 104, 101, 99, 107, 112, 111, 105, 110, 116]⟩ : ByteArray).size = 10 := rfl; have q := nstr_size a'; have q2 := itoa_len wa; omega)
  have Z0 : S0.size ≤ 32 := by
    have p : (⟨#[99, 104, 101, 99, 107, 112, 111, 105, 110, 116]⟩ : ByteArray).size = 10 := rfl
    have q := nstr_size a'; have q2 := itoa_len wa
    omega
  have F0 := Lib.hid E0
  clear E0 Y0
  have hbase : S0.data.toList = wordOf 9 ++ spaced (fixW ⟨9, a', b', nm', mt', zs, ys⟩) := by
    rw [F0.out]
    simp [fixW, spaced, nstr_toList, wordOf, wordsL]
  have HBASE := Lib.hid hbase
  clear hbase hbel hR hbx ha hs wa wb wg ws hv hsz
  have x0 : W.cell? ⟨w.heap.size, 0, none⟩ = some (.int .i64 9) := HX.out.cell 0
  have x1 : W.cell? ⟨w.heap.size, 1, none⟩ = some (.int .i64 a') := HX.out.cell 1
  have x2 : W.cell? ⟨w.heap.size, 2, none⟩ = some (.int .i64 b') := HX.out.cell 2
  have x3 : W.cell? ⟨w.heap.size, 3, none⟩ = some (.string nm') := HX.out.cell 3
  have x4 : W.cell? ⟨w.heap.size, 4, none⟩ = some (.string mt') := HX.out.cell 4
  have x5 : W.cell? ⟨w.heap.size, 5, none⟩ = some (.slice A n c) := HX.out.cell 5
  have x6 : W.cell? ⟨w.heap.size, 6, none⟩ = some (.slice A2 n2 c2) := HX.out.cell 6
  go_enter Tryz.func7, Tryz.ntmps7
  go_wp2_with fail
  refine (valid9 _ _ _ HR.out (Nat.le_trans hn (by decide)) (Nat.le_trans hn2 (by decide)) (Nat.le_trans hnm (by decide)) (Nat.le_trans hmt (by decide))).mono ?_
  rintro e w1 ⟨rfl, b1⟩
  rw [HV.out]
  have X1 := HX.out.below b1 HX.out.lt
  have B1 := HB.out.trans (b1.mono HB.out.size)
  have z1 : w.heap.size < w1.heap.size := X1.lt
  clear x0 x1 x2 x3 x4 x5 x6 hW
  have x0 : w1.cell? ⟨w.heap.size, 0, none⟩ = some (.int .i64 9) := X1.cell 0
  have x1 : w1.cell? ⟨w.heap.size, 1, none⟩ = some (.int .i64 a') := X1.cell 1
  have x2 : w1.cell? ⟨w.heap.size, 2, none⟩ = some (.int .i64 b') := X1.cell 2
  have x3 : w1.cell? ⟨w.heap.size, 3, none⟩ = some (.string nm') := X1.cell 3
  have x4 : w1.cell? ⟨w.heap.size, 4, none⟩ = some (.string mt') := X1.cell 4
  have x5 : w1.cell? ⟨w.heap.size, 5, none⟩ = some (.slice A n c) := X1.cell 5
  have x6 : w1.cell? ⟨w.heap.size, 6, none⟩ = some (.slice A2 n2 c2) := X1.cell 6
  have hkk : Below w1.heap.size w1 w1 := Below.refl _ _
  have B1' := Lib.hid B1
  have X1' := Lib.hid X1
  clear B1 X1 b1
  go_wp2_with fail
  go_cut [3] (fun s U => s = .string ⟨#[99, 104, 101, 99, 107, 112, 111, 105, 110, 116]⟩ ∧ Below w1.heap.size w1 U)
  case first =>
    go_region_with ((go_at_call 14
                     refine (words14 _).mono ?_
                     rintro e w2 ⟨rfl, hw2⟩
                     have hk2 : Below w1.heap.size w1 w2 := by rw [← hw2]; exact hkk.drew.alloc (Nat.le_refl _) _
                     have x0' : w2.cell? ⟨w.heap.size, 0, none⟩ = some (.int .i64 9) := (cells_below hk2 z1 0).trans x0
                     have hwc : w2.cell? ⟨w1.heap.size, 9, none⟩ = some (.string ⟨#[99, 104, 101, 99, 107, 112, 111, 105, 110, 116]⟩) := by rw [← hw2]; exact (Blk.new w1.drew 9 (wordsL.map Value.string).toArray).cell 9
                     clear hw2))
    all_goals
      go_wp2_with fail
      go_meet
      exact ⟨rfl, hk2⟩
  case rest =>
  obtain ⟨rfl, hkk⟩ := hcut
  obtain ⟨w2, rfl⟩ : ∃ w2 : World, w2 = wc := ⟨_, rfl⟩
  have X2 := X1'.out.below hkk z1
  have B2 := Lib.hid (B1'.out.trans (hkk.mono B1'.out.size))
  have z2 : w.heap.size < w2.heap.size := X2.lt
  clear x0 x1 x2 x3 x4 x5 x6 hkk
  have x0 : w2.cell? ⟨w.heap.size, 0, none⟩ = some (.int .i64 9) := X2.cell 0
  have x1 : w2.cell? ⟨w.heap.size, 1, none⟩ = some (.int .i64 a') := X2.cell 1
  have x2 : w2.cell? ⟨w.heap.size, 2, none⟩ = some (.int .i64 b') := X2.cell 2
  have x3 : w2.cell? ⟨w.heap.size, 3, none⟩ = some (.string nm') := X2.cell 3
  have x4 : w2.cell? ⟨w.heap.size, 4, none⟩ = some (.string mt') := X2.cell 4
  have x5 : w2.cell? ⟨w.heap.size, 5, none⟩ = some (.slice A n c) := X2.cell 5
  have x6 : w2.cell? ⟨w.heap.size, 6, none⟩ = some (.slice A2 n2 c2) := X2.cell 6
  go_wp2_with fail
  refine (number15 _ _ HW.out.1).mono ?_
  rintro e w3 ⟨rfl, b3⟩
  have X3 := X2.below b3 X2.lt
  have B3 := Lib.hid (B2.out.trans (b3.mono B2.out.size))
  have z3 : w.heap.size < w3.heap.size := X3.lt
  clear x0 x1 x2 x3 x4 x5 x6 b3 X2
  have x0 : w3.cell? ⟨w.heap.size, 0, none⟩ = some (.int .i64 9) := X3.cell 0
  have x1 : w3.cell? ⟨w.heap.size, 1, none⟩ = some (.int .i64 a') := X3.cell 1
  have x2 : w3.cell? ⟨w.heap.size, 2, none⟩ = some (.int .i64 b') := X3.cell 2
  have x3 : w3.cell? ⟨w.heap.size, 3, none⟩ = some (.string nm') := X3.cell 3
  have x4 : w3.cell? ⟨w.heap.size, 4, none⟩ = some (.string mt') := X3.cell 4
  have x5 : w3.cell? ⟨w.heap.size, 5, none⟩ = some (.slice A n c) := X3.cell 5
  have x6 : w3.cell? ⟨w.heap.size, 6, none⟩ = some (.slice A2 n2 c2) := X3.cell 6
  go_wp2_with fail
  have hap := HA.out.1.below B3.out
  have HXp := Lib.hid X3
  clear X3
  go_loopw [3, 4] (fun s i wr => ∃ (q : Nat) (S : ByteArray), q ≤ n ∧ i = .int .i64 q ∧ s = .string S ∧ Below w3.heap.size w3 wr ∧ S.size ≤ 32 + q * 22 ∧ Hid (S.data.toList = wordOf 9 ++ spaced (fixW ⟨9, a', b', nm', mt', zs, ys⟩) ++ spaced (argW (zs.take q)))) (fun _ i _ => n - (intOf i).toNat)
  case atStart => exact ⟨0, _, Nat.zero_le _, rfl, rfl, Below.refl _ _, by omega, Lib.hid (by rw [HBASE.out]; simp [argW, spaced])⟩
  case round =>
    obtain ⟨q, S, hq, rfl, rfl, hbw, hS, HSL⟩ := hrel
    have y5 : wr.cell? ⟨w.heap.size, 5, none⟩ = some (.slice A n c) := (cells_below hbw HXp.out.lt 5).trans x5
    by_cases hlt : q < n
    · obtain ⟨bb, off, z, rfl, hbb, hz, hc⟩ := hap.at_ hlt
      have hc' : wr.cell? ⟨bb, off + q, none⟩ = some (.int .i64 z) := (cells_below hbw (Nat.lt_trans hbb HXp.out.lt) _).trans hc
      have hk0 : 0 ≤ (q : Int) := by omega
      have hk1 : (q : Int) < n := by omega
      have hzi : I64 z := HW.out.2.2.1 z (List.mem_of_getElem? hz)
      have HZ := Lib.hid (And.intro hz hzi)
      have hl21 := itoa_len hzi
      have hns := nstr_size z
      obtain ⟨S', E', Y', add'⟩ := add_ex S (nstr z) (by omega)
      have EE := Lib.hid E'
      have hS' : S'.size ≤ 32 + (q + 1) * 22 := by omega
      clear hz hzi hl21 hns E' Y' hc
      go_wp2_with fail
      refine (number15 _ _ HZ.out.2).mono ?_
      rintro e w9 ⟨rfl, b9⟩
      have hb9 := hbw.trans (b9.mono hbw.size)
      clear b9
      go_wp2_with fail
      go_roundw
      case rel => exact ⟨q + 1, S', by omega, by go_num, rfl, hb9, hS', Lib.hid (by rw [EE.out, HSL.out, argW_snoc HZ.out.1, spaced_append, nstr_toList]; simp [spaced])⟩
      case measure => simp [intOf]; omega
    · obtain rfl : q = n := by omega
      have HBp := Lib.hid (B3.out.trans (hbw.mono B3.out.size))
      have HSp : Hid (S.data.toList = wordOf 9 ++ spaced (fixW ⟨9, a', b', nm', mt', zs, ys⟩) ++ spaced (argW zs)) := by
        have h1 := HSL.out
        rw [List.take_of_length_le (by have := HL.out; omega)] at h1
        exact Lib.hid h1
      clear HSL
      have xx6 : wr.cell? ⟨w.heap.size, 6, none⟩ = some (.slice A2 n2 c2) := (cells_below hbw HXp.out.lt 6).trans x6
      have X9 := HXp.out.below hbw HXp.out.lt
      have hsz2 : S.size ≤ 32 + 1000 * 22 := by omega
      clear x0 x1 x2 x3 x4 x5 x6 hbw hS hlt
      have x6 := xx6
      clear xx6
      obtain ⟨wo, rfl⟩ : ∃ wo : World, wo = wr := ⟨_, rfl⟩
      go_wp2_with fail
      have has := HA.out.2.below HBp.out
      have HXs := Lib.hid X9
      clear X9
      go_loopw [3, 5] (fun s i wr => ∃ (q : Nat) (S : ByteArray), q ≤ n2 ∧ i = .int .i64 q ∧ s = .string S ∧ Below wo.heap.size wo wr ∧ S.size ≤ 22032 + q * 22 ∧ Hid (S.data.toList = (wordOf 9 ++ spaced (fixW ⟨9, a', b', nm', mt', zs, ys⟩) ++ spaced (argW zs)) ++ spaced (argW (ys.take q)))) (fun _ i _ => n2 - (intOf i).toNat)
      case atStart => exact ⟨0, _, Nat.zero_le _, rfl, rfl, Below.refl _ _, by omega, Lib.hid (by rw [HSp.out]; simp [argW, spaced])⟩
      case round =>
        obtain ⟨q, S, hq, rfl, rfl, hbw, hS, HSL⟩ := hrel
        have y6 : wr.cell? ⟨w.heap.size, 6, none⟩ = some (.slice A2 n2 c2) := (cells_below hbw HXs.out.lt 6).trans x6
        by_cases hlt : q < n2
        · obtain ⟨bb, off, z, rfl, hbb, hz, hc⟩ := has.at_ hlt
          have hc' : wr.cell? ⟨bb, off + q, none⟩ = some (.int .i64 z) := (cells_below hbw (Nat.lt_trans hbb HXs.out.lt) _).trans hc
          have hk0 : 0 ≤ (q : Int) := by omega
          have hk1 : (q : Int) < n2 := by omega
          have hzi : I64 z := HW.out.2.2.2 z (List.mem_of_getElem? hz)
          have HZ := Lib.hid (And.intro hz hzi)
          have hl21 := itoa_len hzi
          have hns := nstr_size z
          obtain ⟨S', E', Y', add'⟩ := add_ex S (nstr z) (by omega)
          have EE := Lib.hid E'
          have hS' : S'.size ≤ 22032 + (q + 1) * 22 := by omega
          clear hz hzi hl21 hns E' Y' hc
          go_wp2_with fail
          refine (number15 _ _ HZ.out.2).mono ?_
          rintro e w9 ⟨rfl, b9⟩
          have hb9 := hbw.trans (b9.mono hbw.size)
          clear b9
          go_wp2_with fail
          go_roundw
          case rel => exact ⟨q + 1, S', by omega, by go_num, rfl, hb9, hS', Lib.hid (by rw [EE.out, HSL.out, argW_snoc HZ.out.1, spaced_append, nstr_toList]; simp [spaced])⟩
          case measure => simp [intOf]; omega
        · obtain rfl : q = n2 := by omega
          have HBs := Lib.hid (HBp.out.trans (hbw.mono HBp.out.size))
          have HSs : Hid (S.data.toList = (wordOf 9 ++ spaced (fixW ⟨9, a', b', nm', mt', zs, ys⟩) ++ spaced (argW zs)) ++ spaced (argW ys)) := by
            have h1 := HSL.out
            rw [List.take_of_length_le (by have := HL.out; omega)] at h1
            exact Lib.hid h1
          clear HSL
          go_wp2_with fail
          go_ret
          refine ⟨ret_str (ba_eq ?_), HBs.out⟩
          rw [HSs.out]
          simp [tailW, spaced_append]

set_option maxRecDepth 100000 in
set_option maxHeartbeats 8000000 in
theorem fmt7_10 (v : Av) (d : Ad) (w : World) (h : Reads w w.heap.size v d) (hn : v.n ≤ 1000) (hn2 : v.n2 ≤ 1000) (hnm : v.nm.size ≤ 1000) (hmt : v.mt.size ≤ 1000) (hw : Wf d) (hk : v.k = 10) (hv : validB d = true) :
    Calls Tryz.prog 7 #[.agg v.cells] w fun e w' => e = .returned (.string ⟨(wordOf 10 ++ spaced (tailW d)).toArray⟩) ∧ Below w.heap.size w w' := by
  obtain ⟨k, a, b, nm, mt, zs, ys⟩ := d
  obtain ⟨k', a', b', nm', mt', A, n, c, A2, n2, c2⟩ := v
  obtain ⟨h1, h2, h3, h4, h5, ha, hs⟩ := h
  dsimp only at h1 h2 h3 h4 h5 ha hs hn hn2 hnm hmt hk
  subst h1 h2 h3 h4 h5 hk
  obtain ⟨wa, wb, wg, ws⟩ := hw
  dsimp only at wa wb wg ws
  unfold Av.cells
  dsimp only
  have hbel : Below w.heap.size w (w.alloc (.cells #[.int .i64 10, .int .i64 a', .int .i64 b', .string nm', .string mt', .slice A n c, .slice A2 n2 c2] 25)) := (Below.refl _ _).alloc (Nat.le_refl _) _
  have hR : Reads (w.alloc (.cells #[.int .i64 10, .int .i64 a', .int .i64 b', .string nm', .string mt', .slice A n c, .slice A2 n2 c2] 25)) (w.alloc (.cells #[.int .i64 10, .int .i64 a', .int .i64 b', .string nm', .string mt', .slice A n c, .slice A2 n2 c2] 25)).heap.size ⟨10, a', b', nm', mt', A, n, c, A2, n2, c2⟩ ⟨10, a', b', nm', mt', zs, ys⟩ := ⟨rfl, rfl, rfl, rfl, rfl, (ha.below hbel).more hbel.size, (hs.below hbel).more hbel.size⟩
  have hbx := Blk.new w 25 #[.int .i64 10, .int .i64 a', .int .i64 b', .string nm', .string mt', .slice A n c, .slice A2 n2 c2]
  generalize hW : w.alloc (.cells #[.int .i64 10, .int .i64 a', .int .i64 b', .string nm', .string mt', .slice A n c, .slice A2 n2 c2] 25) = W at *
  have hsz : W.heap.size = w.heap.size + 1 := by rw [← hW]; simp
  have HR := Lib.hid hR
  have HB := Lib.hid hbel
  have HX := Lib.hid hbx
  have HA := Lib.hid (And.intro ha hs)
  have HL := Lib.hid (And.intro ha.len hs.len)
  have HW := Lib.hid (And.intro wa (And.intro wb (And.intro wg ws)))
  have HV := Lib.hid hv
  have HS := Lib.hid hsz
  obtain ⟨S0, E0, Y0, add0⟩ := add_ex ⟨#[102, 97, 105, 108]⟩ (nstr a') (by have p : (⟨#[102, 97, 105, 108]⟩ : ByteArray).size = 4 := rfl; have q := nstr_size a'; have q2 := itoa_len wa; omega)
  have Z0 : S0.size ≤ 26 := by
    have p : (⟨#[102, 97, 105, 108]⟩ : ByteArray).size = 4 := rfl
    have q := nstr_size a'; have q2 := itoa_len wa
    omega
  have F0 := Lib.hid E0
  clear E0 Y0
  obtain ⟨S1, E1, Y1, add1⟩ := add_ex S0 (nstr b') (by have p := Z0; have q := nstr_size b'; have q2 := itoa_len wb; omega)
  have Z1 : S1.size ≤ 48 := by
    have p := Z0
    have q := nstr_size b'; have q2 := itoa_len wb
    omega
  have F1 := Lib.hid E1
  clear E1 Y1
  have hbase : S1.data.toList = wordOf 10 ++ spaced (fixW ⟨10, a', b', nm', mt', zs, ys⟩) := by
    rw [F1.out, F0.out]
    simp [fixW, spaced, nstr_toList, wordOf, wordsL]
  have HBASE := Lib.hid hbase
  clear hbase hbel hR hbx ha hs wa wb wg ws hv hsz
  have x0 : W.cell? ⟨w.heap.size, 0, none⟩ = some (.int .i64 10) := HX.out.cell 0
  have x1 : W.cell? ⟨w.heap.size, 1, none⟩ = some (.int .i64 a') := HX.out.cell 1
  have x2 : W.cell? ⟨w.heap.size, 2, none⟩ = some (.int .i64 b') := HX.out.cell 2
  have x3 : W.cell? ⟨w.heap.size, 3, none⟩ = some (.string nm') := HX.out.cell 3
  have x4 : W.cell? ⟨w.heap.size, 4, none⟩ = some (.string mt') := HX.out.cell 4
  have x5 : W.cell? ⟨w.heap.size, 5, none⟩ = some (.slice A n c) := HX.out.cell 5
  have x6 : W.cell? ⟨w.heap.size, 6, none⟩ = some (.slice A2 n2 c2) := HX.out.cell 6
  go_enter Tryz.func7, Tryz.ntmps7
  go_wp2_with fail
  refine (valid9 _ _ _ HR.out (Nat.le_trans hn (by decide)) (Nat.le_trans hn2 (by decide)) (Nat.le_trans hnm (by decide)) (Nat.le_trans hmt (by decide))).mono ?_
  rintro e w1 ⟨rfl, b1⟩
  rw [HV.out]
  have X1 := HX.out.below b1 HX.out.lt
  have B1 := HB.out.trans (b1.mono HB.out.size)
  have z1 : w.heap.size < w1.heap.size := X1.lt
  clear x0 x1 x2 x3 x4 x5 x6 hW
  have x0 : w1.cell? ⟨w.heap.size, 0, none⟩ = some (.int .i64 10) := X1.cell 0
  have x1 : w1.cell? ⟨w.heap.size, 1, none⟩ = some (.int .i64 a') := X1.cell 1
  have x2 : w1.cell? ⟨w.heap.size, 2, none⟩ = some (.int .i64 b') := X1.cell 2
  have x3 : w1.cell? ⟨w.heap.size, 3, none⟩ = some (.string nm') := X1.cell 3
  have x4 : w1.cell? ⟨w.heap.size, 4, none⟩ = some (.string mt') := X1.cell 4
  have x5 : w1.cell? ⟨w.heap.size, 5, none⟩ = some (.slice A n c) := X1.cell 5
  have x6 : w1.cell? ⟨w.heap.size, 6, none⟩ = some (.slice A2 n2 c2) := X1.cell 6
  have hkk : Below w1.heap.size w1 w1 := Below.refl _ _
  have B1' := Lib.hid B1
  have X1' := Lib.hid X1
  clear B1 X1 b1
  go_wp2_with fail
  go_cut [3] (fun s U => s = .string ⟨#[102, 97, 105, 108]⟩ ∧ Below w1.heap.size w1 U)
  case first =>
    go_region_with ((go_at_call 14
                     refine (words14 _).mono ?_
                     rintro e w2 ⟨rfl, hw2⟩
                     have hk2 : Below w1.heap.size w1 w2 := by rw [← hw2]; exact hkk.drew.alloc (Nat.le_refl _) _
                     have x0' : w2.cell? ⟨w.heap.size, 0, none⟩ = some (.int .i64 10) := (cells_below hk2 z1 0).trans x0
                     have hwc : w2.cell? ⟨w1.heap.size, 10, none⟩ = some (.string ⟨#[102, 97, 105, 108]⟩) := by rw [← hw2]; exact (Blk.new w1.drew 9 (wordsL.map Value.string).toArray).cell 10
                     clear hw2))
    all_goals
      go_wp2_with fail
      go_meet
      exact ⟨rfl, hk2⟩
  case rest =>
  obtain ⟨rfl, hkk⟩ := hcut
  obtain ⟨w2, rfl⟩ : ∃ w2 : World, w2 = wc := ⟨_, rfl⟩
  have X2 := X1'.out.below hkk z1
  have B2 := Lib.hid (B1'.out.trans (hkk.mono B1'.out.size))
  have z2 : w.heap.size < w2.heap.size := X2.lt
  clear x0 x1 x2 x3 x4 x5 x6 hkk
  have x0 : w2.cell? ⟨w.heap.size, 0, none⟩ = some (.int .i64 10) := X2.cell 0
  have x1 : w2.cell? ⟨w.heap.size, 1, none⟩ = some (.int .i64 a') := X2.cell 1
  have x2 : w2.cell? ⟨w.heap.size, 2, none⟩ = some (.int .i64 b') := X2.cell 2
  have x3 : w2.cell? ⟨w.heap.size, 3, none⟩ = some (.string nm') := X2.cell 3
  have x4 : w2.cell? ⟨w.heap.size, 4, none⟩ = some (.string mt') := X2.cell 4
  have x5 : w2.cell? ⟨w.heap.size, 5, none⟩ = some (.slice A n c) := X2.cell 5
  have x6 : w2.cell? ⟨w.heap.size, 6, none⟩ = some (.slice A2 n2 c2) := X2.cell 6
  go_wp2_with fail
  refine (number15 _ _ HW.out.1).mono ?_
  rintro e w3 ⟨rfl, b3⟩
  have X3 := X2.below b3 X2.lt
  have B3 := Lib.hid (B2.out.trans (b3.mono B2.out.size))
  have z3 : w.heap.size < w3.heap.size := X3.lt
  clear x0 x1 x2 x3 x4 x5 x6 b3 X2
  have x0 : w3.cell? ⟨w.heap.size, 0, none⟩ = some (.int .i64 10) := X3.cell 0
  have x1 : w3.cell? ⟨w.heap.size, 1, none⟩ = some (.int .i64 a') := X3.cell 1
  have x2 : w3.cell? ⟨w.heap.size, 2, none⟩ = some (.int .i64 b') := X3.cell 2
  have x3 : w3.cell? ⟨w.heap.size, 3, none⟩ = some (.string nm') := X3.cell 3
  have x4 : w3.cell? ⟨w.heap.size, 4, none⟩ = some (.string mt') := X3.cell 4
  have x5 : w3.cell? ⟨w.heap.size, 5, none⟩ = some (.slice A n c) := X3.cell 5
  have x6 : w3.cell? ⟨w.heap.size, 6, none⟩ = some (.slice A2 n2 c2) := X3.cell 6
  go_wp2_with fail
  refine (number15 _ _ HW.out.2.1).mono ?_
  rintro e w4 ⟨rfl, b4⟩
  have X4 := X3.below b4 X3.lt
  have B4 := Lib.hid (B3.out.trans (b4.mono B3.out.size))
  have z4 : w.heap.size < w4.heap.size := X4.lt
  clear x0 x1 x2 x3 x4 x5 x6 b4 X3
  have x0 : w4.cell? ⟨w.heap.size, 0, none⟩ = some (.int .i64 10) := X4.cell 0
  have x1 : w4.cell? ⟨w.heap.size, 1, none⟩ = some (.int .i64 a') := X4.cell 1
  have x2 : w4.cell? ⟨w.heap.size, 2, none⟩ = some (.int .i64 b') := X4.cell 2
  have x3 : w4.cell? ⟨w.heap.size, 3, none⟩ = some (.string nm') := X4.cell 3
  have x4 : w4.cell? ⟨w.heap.size, 4, none⟩ = some (.string mt') := X4.cell 4
  have x5 : w4.cell? ⟨w.heap.size, 5, none⟩ = some (.slice A n c) := X4.cell 5
  have x6 : w4.cell? ⟨w.heap.size, 6, none⟩ = some (.slice A2 n2 c2) := X4.cell 6
  go_wp2_with fail
  have hap := HA.out.1.below B4.out
  have HXp := Lib.hid X4
  clear X4
  go_loopw [3, 4] (fun s i wr => ∃ (q : Nat) (S : ByteArray), q ≤ n ∧ i = .int .i64 q ∧ s = .string S ∧ Below w4.heap.size w4 wr ∧ S.size ≤ 48 + q * 22 ∧ Hid (S.data.toList = wordOf 10 ++ spaced (fixW ⟨10, a', b', nm', mt', zs, ys⟩) ++ spaced (argW (zs.take q)))) (fun _ i _ => n - (intOf i).toNat)
  case atStart => exact ⟨0, _, Nat.zero_le _, rfl, rfl, Below.refl _ _, by omega, Lib.hid (by rw [HBASE.out]; simp [argW, spaced])⟩
  case round =>
    obtain ⟨q, S, hq, rfl, rfl, hbw, hS, HSL⟩ := hrel
    have y5 : wr.cell? ⟨w.heap.size, 5, none⟩ = some (.slice A n c) := (cells_below hbw HXp.out.lt 5).trans x5
    by_cases hlt : q < n
    · obtain ⟨bb, off, z, rfl, hbb, hz, hc⟩ := hap.at_ hlt
      have hc' : wr.cell? ⟨bb, off + q, none⟩ = some (.int .i64 z) := (cells_below hbw (Nat.lt_trans hbb HXp.out.lt) _).trans hc
      have hk0 : 0 ≤ (q : Int) := by omega
      have hk1 : (q : Int) < n := by omega
      have hzi : I64 z := HW.out.2.2.1 z (List.mem_of_getElem? hz)
      have HZ := Lib.hid (And.intro hz hzi)
      have hl21 := itoa_len hzi
      have hns := nstr_size z
      obtain ⟨S', E', Y', add'⟩ := add_ex S (nstr z) (by omega)
      have EE := Lib.hid E'
      have hS' : S'.size ≤ 48 + (q + 1) * 22 := by omega
      clear hz hzi hl21 hns E' Y' hc
      go_wp2_with fail
      refine (number15 _ _ HZ.out.2).mono ?_
      rintro e w9 ⟨rfl, b9⟩
      have hb9 := hbw.trans (b9.mono hbw.size)
      clear b9
      go_wp2_with fail
      go_roundw
      case rel => exact ⟨q + 1, S', by omega, by go_num, rfl, hb9, hS', Lib.hid (by rw [EE.out, HSL.out, argW_snoc HZ.out.1, spaced_append, nstr_toList]; simp [spaced])⟩
      case measure => simp [intOf]; omega
    · obtain rfl : q = n := by omega
      have HBp := Lib.hid (B4.out.trans (hbw.mono B4.out.size))
      have HSp : Hid (S.data.toList = wordOf 10 ++ spaced (fixW ⟨10, a', b', nm', mt', zs, ys⟩) ++ spaced (argW zs)) := by
        have h1 := HSL.out
        rw [List.take_of_length_le (by have := HL.out; omega)] at h1
        exact Lib.hid h1
      clear HSL
      have xx6 : wr.cell? ⟨w.heap.size, 6, none⟩ = some (.slice A2 n2 c2) := (cells_below hbw HXp.out.lt 6).trans x6
      have X9 := HXp.out.below hbw HXp.out.lt
      have hsz2 : S.size ≤ 48 + 1000 * 22 := by omega
      clear x0 x1 x2 x3 x4 x5 x6 hbw hS hlt
      have x6 := xx6
      clear xx6
      obtain ⟨wo, rfl⟩ : ∃ wo : World, wo = wr := ⟨_, rfl⟩
      go_wp2_with fail
      have has := HA.out.2.below HBp.out
      have HXs := Lib.hid X9
      clear X9
      go_loopw [3, 5] (fun s i wr => ∃ (q : Nat) (S : ByteArray), q ≤ n2 ∧ i = .int .i64 q ∧ s = .string S ∧ Below wo.heap.size wo wr ∧ S.size ≤ 22048 + q * 22 ∧ Hid (S.data.toList = (wordOf 10 ++ spaced (fixW ⟨10, a', b', nm', mt', zs, ys⟩) ++ spaced (argW zs)) ++ spaced (argW (ys.take q)))) (fun _ i _ => n2 - (intOf i).toNat)
      case atStart => exact ⟨0, _, Nat.zero_le _, rfl, rfl, Below.refl _ _, by omega, Lib.hid (by rw [HSp.out]; simp [argW, spaced])⟩
      case round =>
        obtain ⟨q, S, hq, rfl, rfl, hbw, hS, HSL⟩ := hrel
        have y6 : wr.cell? ⟨w.heap.size, 6, none⟩ = some (.slice A2 n2 c2) := (cells_below hbw HXs.out.lt 6).trans x6
        by_cases hlt : q < n2
        · obtain ⟨bb, off, z, rfl, hbb, hz, hc⟩ := has.at_ hlt
          have hc' : wr.cell? ⟨bb, off + q, none⟩ = some (.int .i64 z) := (cells_below hbw (Nat.lt_trans hbb HXs.out.lt) _).trans hc
          have hk0 : 0 ≤ (q : Int) := by omega
          have hk1 : (q : Int) < n2 := by omega
          have hzi : I64 z := HW.out.2.2.2 z (List.mem_of_getElem? hz)
          have HZ := Lib.hid (And.intro hz hzi)
          have hl21 := itoa_len hzi
          have hns := nstr_size z
          obtain ⟨S', E', Y', add'⟩ := add_ex S (nstr z) (by omega)
          have EE := Lib.hid E'
          have hS' : S'.size ≤ 22048 + (q + 1) * 22 := by omega
          clear hz hzi hl21 hns E' Y' hc
          go_wp2_with fail
          refine (number15 _ _ HZ.out.2).mono ?_
          rintro e w9 ⟨rfl, b9⟩
          have hb9 := hbw.trans (b9.mono hbw.size)
          clear b9
          go_wp2_with fail
          go_roundw
          case rel => exact ⟨q + 1, S', by omega, by go_num, rfl, hb9, hS', Lib.hid (by rw [EE.out, HSL.out, argW_snoc HZ.out.1, spaced_append, nstr_toList]; simp [spaced])⟩
          case measure => simp [intOf]; omega
        · obtain rfl : q = n2 := by omega
          have HBs := Lib.hid (HBp.out.trans (hbw.mono HBp.out.size))
          have HSs : Hid (S.data.toList = (wordOf 10 ++ spaced (fixW ⟨10, a', b', nm', mt', zs, ys⟩) ++ spaced (argW zs)) ++ spaced (argW ys)) := by
            have h1 := HSL.out
            rw [List.take_of_length_le (by have := HL.out; omega)] at h1
            exact Lib.hid h1
          clear HSL
          go_wp2_with fail
          go_ret
          refine ⟨ret_str (ba_eq ?_), HBs.out⟩
          rw [HSs.out]
          simp [tailW, spaced_append]

set_option maxRecDepth 100000 in
set_option maxHeartbeats 8000000 in
theorem fmt7_11 (v : Av) (d : Ad) (w : World) (h : Reads w w.heap.size v d) (hn : v.n ≤ 1000) (hn2 : v.n2 ≤ 1000) (hnm : v.nm.size ≤ 1000) (hmt : v.mt.size ≤ 1000) (hw : Wf d) (hk : v.k = 11) (hv : validB d = true) :
    Calls Tryz.prog 7 #[.agg v.cells] w fun e w' => e = .returned (.string ⟨(wordOf 11 ++ spaced (tailW d)).toArray⟩) ∧ Below w.heap.size w w' := by
  obtain ⟨k, a, b, nm, mt, zs, ys⟩ := d
  obtain ⟨k', a', b', nm', mt', A, n, c, A2, n2, c2⟩ := v
  obtain ⟨h1, h2, h3, h4, h5, ha, hs⟩ := h
  dsimp only at h1 h2 h3 h4 h5 ha hs hn hn2 hnm hmt hk
  subst h1 h2 h3 h4 h5 hk
  obtain ⟨wa, wb, wg, ws⟩ := hw
  dsimp only at wa wb wg ws
  unfold Av.cells
  dsimp only
  have hbel : Below w.heap.size w (w.alloc (.cells #[.int .i64 11, .int .i64 a', .int .i64 b', .string nm', .string mt', .slice A n c, .slice A2 n2 c2] 25)) := (Below.refl _ _).alloc (Nat.le_refl _) _
  have hR : Reads (w.alloc (.cells #[.int .i64 11, .int .i64 a', .int .i64 b', .string nm', .string mt', .slice A n c, .slice A2 n2 c2] 25)) (w.alloc (.cells #[.int .i64 11, .int .i64 a', .int .i64 b', .string nm', .string mt', .slice A n c, .slice A2 n2 c2] 25)).heap.size ⟨11, a', b', nm', mt', A, n, c, A2, n2, c2⟩ ⟨11, a', b', nm', mt', zs, ys⟩ := ⟨rfl, rfl, rfl, rfl, rfl, (ha.below hbel).more hbel.size, (hs.below hbel).more hbel.size⟩
  have hbx := Blk.new w 25 #[.int .i64 11, .int .i64 a', .int .i64 b', .string nm', .string mt', .slice A n c, .slice A2 n2 c2]
  generalize hW : w.alloc (.cells #[.int .i64 11, .int .i64 a', .int .i64 b', .string nm', .string mt', .slice A n c, .slice A2 n2 c2] 25) = W at *
  have hsz : W.heap.size = w.heap.size + 1 := by rw [← hW]; simp
  have HR := Lib.hid hR
  have HB := Lib.hid hbel
  have HX := Lib.hid hbx
  have HA := Lib.hid (And.intro ha hs)
  have HL := Lib.hid (And.intro ha.len hs.len)
  have HW := Lib.hid (And.intro wa (And.intro wb (And.intro wg ws)))
  have HV := Lib.hid hv
  have HS := Lib.hid hsz
  obtain ⟨S0, E0, Y0, add0⟩ := add_ex ⟨#[115, 112, 97, 119, 110]⟩ (nstr a') (by have p : (⟨#[115, 112, 97, 119, 110]⟩ : ByteArray).size = 5 := rfl; have q := nstr_size a'; have q2 := itoa_len wa; omega)
  have Z0 : S0.size ≤ 27 := by
    have p : (⟨#[115, 112, 97, 119, 110]⟩ : ByteArray).size = 5 := rfl
    have q := nstr_size a'; have q2 := itoa_len wa
    omega
  have F0 := Lib.hid E0
  clear E0 Y0
  obtain ⟨S1, E1, Y1, add1⟩ := add_ex S0 ⟨#[32]⟩ (by have p := Z0; have q : (⟨#[32]⟩ : ByteArray).size = 1 := rfl; omega)
  have Z1 : S1.size ≤ 28 := by
    have p := Z0
    have q : (⟨#[32]⟩ : ByteArray).size = 1 := rfl
    omega
  have F1 := Lib.hid E1
  clear E1 Y1
  obtain ⟨S2, E2, Y2, add2⟩ := add_ex S1 nm' (by have p := Z1; skip; omega)
  have Z2 : S2.size ≤ 1028 := by
    have p := Z1
    skip
    omega
  have F2 := Lib.hid E2
  clear E2 Y2
  obtain ⟨S3, E3, Y3, add3⟩ := add_ex S2 ⟨#[32]⟩ (by have p := Z2; have q : (⟨#[32]⟩ : ByteArray).size = 1 := rfl; omega)
  have Z3 : S3.size ≤ 1029 := by
    have p := Z2
    have q : (⟨#[32]⟩ : ByteArray).size = 1 := rfl
    omega
  have F3 := Lib.hid E3
  clear E3 Y3
  obtain ⟨S4, E4, Y4, add4⟩ := add_ex S3 mt' (by have p := Z3; skip; omega)
  have Z4 : S4.size ≤ 2029 := by
    have p := Z3
    skip
    omega
  have F4 := Lib.hid E4
  clear E4 Y4
  have hbase : S4.data.toList = wordOf 11 ++ spaced (fixW ⟨11, a', b', nm', mt', zs, ys⟩) := by
    rw [F4.out, F3.out, F2.out, F1.out, F0.out]
    simp [fixW, spaced, nstr_toList, wordOf, wordsL]
  have HBASE := Lib.hid hbase
  clear hbase hbel hR hbx ha hs wa wb wg ws hv hsz
  have x0 : W.cell? ⟨w.heap.size, 0, none⟩ = some (.int .i64 11) := HX.out.cell 0
  have x1 : W.cell? ⟨w.heap.size, 1, none⟩ = some (.int .i64 a') := HX.out.cell 1
  have x2 : W.cell? ⟨w.heap.size, 2, none⟩ = some (.int .i64 b') := HX.out.cell 2
  have x3 : W.cell? ⟨w.heap.size, 3, none⟩ = some (.string nm') := HX.out.cell 3
  have x4 : W.cell? ⟨w.heap.size, 4, none⟩ = some (.string mt') := HX.out.cell 4
  have x5 : W.cell? ⟨w.heap.size, 5, none⟩ = some (.slice A n c) := HX.out.cell 5
  have x6 : W.cell? ⟨w.heap.size, 6, none⟩ = some (.slice A2 n2 c2) := HX.out.cell 6
  go_enter Tryz.func7, Tryz.ntmps7
  go_wp2_with fail
  refine (valid9 _ _ _ HR.out (Nat.le_trans hn (by decide)) (Nat.le_trans hn2 (by decide)) (Nat.le_trans hnm (by decide)) (Nat.le_trans hmt (by decide))).mono ?_
  rintro e w1 ⟨rfl, b1⟩
  rw [HV.out]
  have X1 := HX.out.below b1 HX.out.lt
  have B1 := HB.out.trans (b1.mono HB.out.size)
  have z1 : w.heap.size < w1.heap.size := X1.lt
  clear x0 x1 x2 x3 x4 x5 x6 hW
  have x0 : w1.cell? ⟨w.heap.size, 0, none⟩ = some (.int .i64 11) := X1.cell 0
  have x1 : w1.cell? ⟨w.heap.size, 1, none⟩ = some (.int .i64 a') := X1.cell 1
  have x2 : w1.cell? ⟨w.heap.size, 2, none⟩ = some (.int .i64 b') := X1.cell 2
  have x3 : w1.cell? ⟨w.heap.size, 3, none⟩ = some (.string nm') := X1.cell 3
  have x4 : w1.cell? ⟨w.heap.size, 4, none⟩ = some (.string mt') := X1.cell 4
  have x5 : w1.cell? ⟨w.heap.size, 5, none⟩ = some (.slice A n c) := X1.cell 5
  have x6 : w1.cell? ⟨w.heap.size, 6, none⟩ = some (.slice A2 n2 c2) := X1.cell 6
  have hkk : Below w1.heap.size w1 w1 := Below.refl _ _
  have B1' := Lib.hid B1
  have X1' := Lib.hid X1
  clear B1 X1 b1
  go_wp2_with fail
  go_cut [3] (fun s U => s = .string ⟨#[115, 112, 97, 119, 110]⟩ ∧ Below w1.heap.size w1 U)
  case first =>
    go_region_with ((go_at_call 14
                     refine (words14 _).mono ?_
                     rintro e w2 ⟨rfl, hw2⟩
                     have hk2 : Below w1.heap.size w1 w2 := by rw [← hw2]; exact hkk.drew.alloc (Nat.le_refl _) _
                     have x0' : w2.cell? ⟨w.heap.size, 0, none⟩ = some (.int .i64 11) := (cells_below hk2 z1 0).trans x0
                     have hwc : w2.cell? ⟨w1.heap.size, 11, none⟩ = some (.string ⟨#[115, 112, 97, 119, 110]⟩) := by rw [← hw2]; exact (Blk.new w1.drew 9 (wordsL.map Value.string).toArray).cell 11
                     clear hw2))
    all_goals
      go_wp2_with fail
      go_meet
      exact ⟨rfl, hk2⟩
  case rest =>
  obtain ⟨rfl, hkk⟩ := hcut
  obtain ⟨w2, rfl⟩ : ∃ w2 : World, w2 = wc := ⟨_, rfl⟩
  have X2 := X1'.out.below hkk z1
  have B2 := Lib.hid (B1'.out.trans (hkk.mono B1'.out.size))
  have z2 : w.heap.size < w2.heap.size := X2.lt
  clear x0 x1 x2 x3 x4 x5 x6 hkk
  have x0 : w2.cell? ⟨w.heap.size, 0, none⟩ = some (.int .i64 11) := X2.cell 0
  have x1 : w2.cell? ⟨w.heap.size, 1, none⟩ = some (.int .i64 a') := X2.cell 1
  have x2 : w2.cell? ⟨w.heap.size, 2, none⟩ = some (.int .i64 b') := X2.cell 2
  have x3 : w2.cell? ⟨w.heap.size, 3, none⟩ = some (.string nm') := X2.cell 3
  have x4 : w2.cell? ⟨w.heap.size, 4, none⟩ = some (.string mt') := X2.cell 4
  have x5 : w2.cell? ⟨w.heap.size, 5, none⟩ = some (.slice A n c) := X2.cell 5
  have x6 : w2.cell? ⟨w.heap.size, 6, none⟩ = some (.slice A2 n2 c2) := X2.cell 6
  go_wp2_with fail
  refine (number15 _ _ HW.out.1).mono ?_
  rintro e w3 ⟨rfl, b3⟩
  have X3 := X2.below b3 X2.lt
  have B3 := Lib.hid (B2.out.trans (b3.mono B2.out.size))
  have z3 : w.heap.size < w3.heap.size := X3.lt
  clear x0 x1 x2 x3 x4 x5 x6 b3 X2
  have x0 : w3.cell? ⟨w.heap.size, 0, none⟩ = some (.int .i64 11) := X3.cell 0
  have x1 : w3.cell? ⟨w.heap.size, 1, none⟩ = some (.int .i64 a') := X3.cell 1
  have x2 : w3.cell? ⟨w.heap.size, 2, none⟩ = some (.int .i64 b') := X3.cell 2
  have x3 : w3.cell? ⟨w.heap.size, 3, none⟩ = some (.string nm') := X3.cell 3
  have x4 : w3.cell? ⟨w.heap.size, 4, none⟩ = some (.string mt') := X3.cell 4
  have x5 : w3.cell? ⟨w.heap.size, 5, none⟩ = some (.slice A n c) := X3.cell 5
  have x6 : w3.cell? ⟨w.heap.size, 6, none⟩ = some (.slice A2 n2 c2) := X3.cell 6
  go_wp2_with fail
  have hap := HA.out.1.below B3.out
  have HXp := Lib.hid X3
  clear X3
  go_loopw [3, 4] (fun s i wr => ∃ (q : Nat) (S : ByteArray), q ≤ n ∧ i = .int .i64 q ∧ s = .string S ∧ Below w3.heap.size w3 wr ∧ S.size ≤ 2029 + q * 22 ∧ Hid (S.data.toList = wordOf 11 ++ spaced (fixW ⟨11, a', b', nm', mt', zs, ys⟩) ++ spaced (argW (zs.take q)))) (fun _ i _ => n - (intOf i).toNat)
  case atStart => exact ⟨0, _, Nat.zero_le _, rfl, rfl, Below.refl _ _, by omega, Lib.hid (by rw [HBASE.out]; simp [argW, spaced])⟩
  case round =>
    obtain ⟨q, S, hq, rfl, rfl, hbw, hS, HSL⟩ := hrel
    have y5 : wr.cell? ⟨w.heap.size, 5, none⟩ = some (.slice A n c) := (cells_below hbw HXp.out.lt 5).trans x5
    by_cases hlt : q < n
    · obtain ⟨bb, off, z, rfl, hbb, hz, hc⟩ := hap.at_ hlt
      have hc' : wr.cell? ⟨bb, off + q, none⟩ = some (.int .i64 z) := (cells_below hbw (Nat.lt_trans hbb HXp.out.lt) _).trans hc
      have hk0 : 0 ≤ (q : Int) := by omega
      have hk1 : (q : Int) < n := by omega
      have hzi : I64 z := HW.out.2.2.1 z (List.mem_of_getElem? hz)
      have HZ := Lib.hid (And.intro hz hzi)
      have hl21 := itoa_len hzi
      have hns := nstr_size z
      obtain ⟨S', E', Y', add'⟩ := add_ex S (nstr z) (by omega)
      have EE := Lib.hid E'
      have hS' : S'.size ≤ 2029 + (q + 1) * 22 := by omega
      clear hz hzi hl21 hns E' Y' hc
      go_wp2_with fail
      refine (number15 _ _ HZ.out.2).mono ?_
      rintro e w9 ⟨rfl, b9⟩
      have hb9 := hbw.trans (b9.mono hbw.size)
      clear b9
      go_wp2_with fail
      go_roundw
      case rel => exact ⟨q + 1, S', by omega, by go_num, rfl, hb9, hS', Lib.hid (by rw [EE.out, HSL.out, argW_snoc HZ.out.1, spaced_append, nstr_toList]; simp [spaced])⟩
      case measure => simp [intOf]; omega
    · obtain rfl : q = n := by omega
      have HBp := Lib.hid (B3.out.trans (hbw.mono B3.out.size))
      have HSp : Hid (S.data.toList = wordOf 11 ++ spaced (fixW ⟨11, a', b', nm', mt', zs, ys⟩) ++ spaced (argW zs)) := by
        have h1 := HSL.out
        rw [List.take_of_length_le (by have := HL.out; omega)] at h1
        exact Lib.hid h1
      clear HSL
      have xx6 : wr.cell? ⟨w.heap.size, 6, none⟩ = some (.slice A2 n2 c2) := (cells_below hbw HXp.out.lt 6).trans x6
      have X9 := HXp.out.below hbw HXp.out.lt
      have hsz2 : S.size ≤ 2029 + 1000 * 22 := by omega
      clear x0 x1 x2 x3 x4 x5 x6 hbw hS hlt
      have x6 := xx6
      clear xx6
      obtain ⟨wo, rfl⟩ : ∃ wo : World, wo = wr := ⟨_, rfl⟩
      go_wp2_with fail
      have has := HA.out.2.below HBp.out
      have HXs := Lib.hid X9
      clear X9
      go_loopw [3, 5] (fun s i wr => ∃ (q : Nat) (S : ByteArray), q ≤ n2 ∧ i = .int .i64 q ∧ s = .string S ∧ Below wo.heap.size wo wr ∧ S.size ≤ 24029 + q * 22 ∧ Hid (S.data.toList = (wordOf 11 ++ spaced (fixW ⟨11, a', b', nm', mt', zs, ys⟩) ++ spaced (argW zs)) ++ spaced (argW (ys.take q)))) (fun _ i _ => n2 - (intOf i).toNat)
      case atStart => exact ⟨0, _, Nat.zero_le _, rfl, rfl, Below.refl _ _, by omega, Lib.hid (by rw [HSp.out]; simp [argW, spaced])⟩
      case round =>
        obtain ⟨q, S, hq, rfl, rfl, hbw, hS, HSL⟩ := hrel
        have y6 : wr.cell? ⟨w.heap.size, 6, none⟩ = some (.slice A2 n2 c2) := (cells_below hbw HXs.out.lt 6).trans x6
        by_cases hlt : q < n2
        · obtain ⟨bb, off, z, rfl, hbb, hz, hc⟩ := has.at_ hlt
          have hc' : wr.cell? ⟨bb, off + q, none⟩ = some (.int .i64 z) := (cells_below hbw (Nat.lt_trans hbb HXs.out.lt) _).trans hc
          have hk0 : 0 ≤ (q : Int) := by omega
          have hk1 : (q : Int) < n2 := by omega
          have hzi : I64 z := HW.out.2.2.2 z (List.mem_of_getElem? hz)
          have HZ := Lib.hid (And.intro hz hzi)
          have hl21 := itoa_len hzi
          have hns := nstr_size z
          obtain ⟨S', E', Y', add'⟩ := add_ex S (nstr z) (by omega)
          have EE := Lib.hid E'
          have hS' : S'.size ≤ 24029 + (q + 1) * 22 := by omega
          clear hz hzi hl21 hns E' Y' hc
          go_wp2_with fail
          refine (number15 _ _ HZ.out.2).mono ?_
          rintro e w9 ⟨rfl, b9⟩
          have hb9 := hbw.trans (b9.mono hbw.size)
          clear b9
          go_wp2_with fail
          go_roundw
          case rel => exact ⟨q + 1, S', by omega, by go_num, rfl, hb9, hS', Lib.hid (by rw [EE.out, HSL.out, argW_snoc HZ.out.1, spaced_append, nstr_toList]; simp [spaced])⟩
          case measure => simp [intOf]; omega
        · obtain rfl : q = n2 := by omega
          have HBs := Lib.hid (HBp.out.trans (hbw.mono HBp.out.size))
          have HSs : Hid (S.data.toList = (wordOf 11 ++ spaced (fixW ⟨11, a', b', nm', mt', zs, ys⟩) ++ spaced (argW zs)) ++ spaced (argW ys)) := by
            have h1 := HSL.out
            rw [List.take_of_length_le (by have := HL.out; omega)] at h1
            exact Lib.hid h1
          clear HSL
          go_wp2_with fail
          go_ret
          refine ⟨ret_str (ba_eq ?_), HBs.out⟩
          rw [HSs.out]
          simp [tailW, spaced_append]

set_option maxRecDepth 100000 in
set_option maxHeartbeats 8000000 in
theorem fmt7_12 (v : Av) (d : Ad) (w : World) (h : Reads w w.heap.size v d) (hn : v.n ≤ 1000) (hn2 : v.n2 ≤ 1000) (hnm : v.nm.size ≤ 1000) (hmt : v.mt.size ≤ 1000) (hw : Wf d) (hk : v.k = 12) (hv : validB d = true) :
    Calls Tryz.prog 7 #[.agg v.cells] w fun e w' => e = .returned (.string ⟨(wordOf 12 ++ spaced (tailW d)).toArray⟩) ∧ Below w.heap.size w w' := by
  obtain ⟨k, a, b, nm, mt, zs, ys⟩ := d
  obtain ⟨k', a', b', nm', mt', A, n, c, A2, n2, c2⟩ := v
  obtain ⟨h1, h2, h3, h4, h5, ha, hs⟩ := h
  dsimp only at h1 h2 h3 h4 h5 ha hs hn hn2 hnm hmt hk
  subst h1 h2 h3 h4 h5 hk
  obtain ⟨wa, wb, wg, ws⟩ := hw
  dsimp only at wa wb wg ws
  unfold Av.cells
  dsimp only
  have hbel : Below w.heap.size w (w.alloc (.cells #[.int .i64 12, .int .i64 a', .int .i64 b', .string nm', .string mt', .slice A n c, .slice A2 n2 c2] 25)) := (Below.refl _ _).alloc (Nat.le_refl _) _
  have hR : Reads (w.alloc (.cells #[.int .i64 12, .int .i64 a', .int .i64 b', .string nm', .string mt', .slice A n c, .slice A2 n2 c2] 25)) (w.alloc (.cells #[.int .i64 12, .int .i64 a', .int .i64 b', .string nm', .string mt', .slice A n c, .slice A2 n2 c2] 25)).heap.size ⟨12, a', b', nm', mt', A, n, c, A2, n2, c2⟩ ⟨12, a', b', nm', mt', zs, ys⟩ := ⟨rfl, rfl, rfl, rfl, rfl, (ha.below hbel).more hbel.size, (hs.below hbel).more hbel.size⟩
  have hbx := Blk.new w 25 #[.int .i64 12, .int .i64 a', .int .i64 b', .string nm', .string mt', .slice A n c, .slice A2 n2 c2]
  generalize hW : w.alloc (.cells #[.int .i64 12, .int .i64 a', .int .i64 b', .string nm', .string mt', .slice A n c, .slice A2 n2 c2] 25) = W at *
  have hsz : W.heap.size = w.heap.size + 1 := by rw [← hW]; simp
  have HR := Lib.hid hR
  have HB := Lib.hid hbel
  have HX := Lib.hid hbx
  have HA := Lib.hid (And.intro ha hs)
  have HL := Lib.hid (And.intro ha.len hs.len)
  have HW := Lib.hid (And.intro wa (And.intro wb (And.intro wg ws)))
  have HV := Lib.hid hv
  have HS := Lib.hid hsz
  obtain ⟨S0, E0, Y0, add0⟩ := add_ex ⟨#[112, 111, 115, 116]⟩ ⟨#[32]⟩ (by have p : (⟨#[112, 111, 115, 116]⟩ : ByteArray).size = 4 := rfl; have q : (⟨#[32]⟩ : ByteArray).size = 1 := rfl; omega)
  have Z0 : S0.size ≤ 5 := by
    have p : (⟨#[112, 111, 115, 116]⟩ : ByteArray).size = 4 := rfl
    have q : (⟨#[32]⟩ : ByteArray).size = 1 := rfl
    omega
  have F0 := Lib.hid E0
  clear E0 Y0
  obtain ⟨S1, E1, Y1, add1⟩ := add_ex S0 nm' (by have p := Z0; skip; omega)
  have Z1 : S1.size ≤ 1005 := by
    have p := Z0
    skip
    omega
  have F1 := Lib.hid E1
  clear E1 Y1
  obtain ⟨S2, E2, Y2, add2⟩ := add_ex S1 ⟨#[32]⟩ (by have p := Z1; have q : (⟨#[32]⟩ : ByteArray).size = 1 := rfl; omega)
  have Z2 : S2.size ≤ 1006 := by
    have p := Z1
    have q : (⟨#[32]⟩ : ByteArray).size = 1 := rfl
    omega
  have F2 := Lib.hid E2
  clear E2 Y2
  obtain ⟨S3, E3, Y3, add3⟩ := add_ex S2 mt' (by have p := Z2; skip; omega)
  have Z3 : S3.size ≤ 2006 := by
    have p := Z2
    skip
    omega
  have F3 := Lib.hid E3
  clear E3 Y3
  have hbase : S3.data.toList = wordOf 12 ++ spaced (fixW ⟨12, a', b', nm', mt', zs, ys⟩) := by
    rw [F3.out, F2.out, F1.out, F0.out]
    simp [fixW, spaced, nstr_toList, wordOf, wordsL]
  have HBASE := Lib.hid hbase
  clear hbase hbel hR hbx ha hs wa wb wg ws hv hsz
  have x0 : W.cell? ⟨w.heap.size, 0, none⟩ = some (.int .i64 12) := HX.out.cell 0
  have x1 : W.cell? ⟨w.heap.size, 1, none⟩ = some (.int .i64 a') := HX.out.cell 1
  have x2 : W.cell? ⟨w.heap.size, 2, none⟩ = some (.int .i64 b') := HX.out.cell 2
  have x3 : W.cell? ⟨w.heap.size, 3, none⟩ = some (.string nm') := HX.out.cell 3
  have x4 : W.cell? ⟨w.heap.size, 4, none⟩ = some (.string mt') := HX.out.cell 4
  have x5 : W.cell? ⟨w.heap.size, 5, none⟩ = some (.slice A n c) := HX.out.cell 5
  have x6 : W.cell? ⟨w.heap.size, 6, none⟩ = some (.slice A2 n2 c2) := HX.out.cell 6
  go_enter Tryz.func7, Tryz.ntmps7
  go_wp2_with fail
  refine (valid9 _ _ _ HR.out (Nat.le_trans hn (by decide)) (Nat.le_trans hn2 (by decide)) (Nat.le_trans hnm (by decide)) (Nat.le_trans hmt (by decide))).mono ?_
  rintro e w1 ⟨rfl, b1⟩
  rw [HV.out]
  have X1 := HX.out.below b1 HX.out.lt
  have B1 := HB.out.trans (b1.mono HB.out.size)
  have z1 : w.heap.size < w1.heap.size := X1.lt
  clear x0 x1 x2 x3 x4 x5 x6 hW
  have x0 : w1.cell? ⟨w.heap.size, 0, none⟩ = some (.int .i64 12) := X1.cell 0
  have x1 : w1.cell? ⟨w.heap.size, 1, none⟩ = some (.int .i64 a') := X1.cell 1
  have x2 : w1.cell? ⟨w.heap.size, 2, none⟩ = some (.int .i64 b') := X1.cell 2
  have x3 : w1.cell? ⟨w.heap.size, 3, none⟩ = some (.string nm') := X1.cell 3
  have x4 : w1.cell? ⟨w.heap.size, 4, none⟩ = some (.string mt') := X1.cell 4
  have x5 : w1.cell? ⟨w.heap.size, 5, none⟩ = some (.slice A n c) := X1.cell 5
  have x6 : w1.cell? ⟨w.heap.size, 6, none⟩ = some (.slice A2 n2 c2) := X1.cell 6
  have hkk : Below w1.heap.size w1 w1 := Below.refl _ _
  have B1' := Lib.hid B1
  have X1' := Lib.hid X1
  clear B1 X1 b1
  go_wp2_with fail
  go_cut [3] (fun s U => s = .string ⟨#[112, 111, 115, 116]⟩ ∧ Below w1.heap.size w1 U)
  case first =>
    go_region_with ((go_at_call 14
                     refine (words14 _).mono ?_
                     rintro e w2 ⟨rfl, hw2⟩
                     have hk2 : Below w1.heap.size w1 w2 := by rw [← hw2]; exact hkk.drew.alloc (Nat.le_refl _) _
                     have x0' : w2.cell? ⟨w.heap.size, 0, none⟩ = some (.int .i64 12) := (cells_below hk2 z1 0).trans x0
                     have hwc : w2.cell? ⟨w1.heap.size, 12, none⟩ = some (.string ⟨#[112, 111, 115, 116]⟩) := by rw [← hw2]; exact (Blk.new w1.drew 9 (wordsL.map Value.string).toArray).cell 12
                     clear hw2))
    all_goals
      go_wp2_with fail
      go_meet
      exact ⟨rfl, hk2⟩
  case rest =>
  obtain ⟨rfl, hkk⟩ := hcut
  obtain ⟨w2, rfl⟩ : ∃ w2 : World, w2 = wc := ⟨_, rfl⟩
  have X2 := X1'.out.below hkk z1
  have B2 := Lib.hid (B1'.out.trans (hkk.mono B1'.out.size))
  have z2 : w.heap.size < w2.heap.size := X2.lt
  clear x0 x1 x2 x3 x4 x5 x6 hkk
  have x0 : w2.cell? ⟨w.heap.size, 0, none⟩ = some (.int .i64 12) := X2.cell 0
  have x1 : w2.cell? ⟨w.heap.size, 1, none⟩ = some (.int .i64 a') := X2.cell 1
  have x2 : w2.cell? ⟨w.heap.size, 2, none⟩ = some (.int .i64 b') := X2.cell 2
  have x3 : w2.cell? ⟨w.heap.size, 3, none⟩ = some (.string nm') := X2.cell 3
  have x4 : w2.cell? ⟨w.heap.size, 4, none⟩ = some (.string mt') := X2.cell 4
  have x5 : w2.cell? ⟨w.heap.size, 5, none⟩ = some (.slice A n c) := X2.cell 5
  have x6 : w2.cell? ⟨w.heap.size, 6, none⟩ = some (.slice A2 n2 c2) := X2.cell 6
  go_wp2_with fail
  have hap := HA.out.1.below B2.out
  have HXp := Lib.hid X2
  clear X2
  go_loopw [3, 4] (fun s i wr => ∃ (q : Nat) (S : ByteArray), q ≤ n ∧ i = .int .i64 q ∧ s = .string S ∧ Below w2.heap.size w2 wr ∧ S.size ≤ 2006 + q * 22 ∧ Hid (S.data.toList = wordOf 12 ++ spaced (fixW ⟨12, a', b', nm', mt', zs, ys⟩) ++ spaced (argW (zs.take q)))) (fun _ i _ => n - (intOf i).toNat)
  case atStart => exact ⟨0, _, Nat.zero_le _, rfl, rfl, Below.refl _ _, by omega, Lib.hid (by rw [HBASE.out]; simp [argW, spaced])⟩
  case round =>
    obtain ⟨q, S, hq, rfl, rfl, hbw, hS, HSL⟩ := hrel
    have y5 : wr.cell? ⟨w.heap.size, 5, none⟩ = some (.slice A n c) := (cells_below hbw HXp.out.lt 5).trans x5
    by_cases hlt : q < n
    · obtain ⟨bb, off, z, rfl, hbb, hz, hc⟩ := hap.at_ hlt
      have hc' : wr.cell? ⟨bb, off + q, none⟩ = some (.int .i64 z) := (cells_below hbw (Nat.lt_trans hbb HXp.out.lt) _).trans hc
      have hk0 : 0 ≤ (q : Int) := by omega
      have hk1 : (q : Int) < n := by omega
      have hzi : I64 z := HW.out.2.2.1 z (List.mem_of_getElem? hz)
      have HZ := Lib.hid (And.intro hz hzi)
      have hl21 := itoa_len hzi
      have hns := nstr_size z
      obtain ⟨S', E', Y', add'⟩ := add_ex S (nstr z) (by omega)
      have EE := Lib.hid E'
      have hS' : S'.size ≤ 2006 + (q + 1) * 22 := by omega
      clear hz hzi hl21 hns E' Y' hc
      go_wp2_with fail
      refine (number15 _ _ HZ.out.2).mono ?_
      rintro e w9 ⟨rfl, b9⟩
      have hb9 := hbw.trans (b9.mono hbw.size)
      clear b9
      go_wp2_with fail
      go_roundw
      case rel => exact ⟨q + 1, S', by omega, by go_num, rfl, hb9, hS', Lib.hid (by rw [EE.out, HSL.out, argW_snoc HZ.out.1, spaced_append, nstr_toList]; simp [spaced])⟩
      case measure => simp [intOf]; omega
    · obtain rfl : q = n := by omega
      have HBp := Lib.hid (B2.out.trans (hbw.mono B2.out.size))
      have HSp : Hid (S.data.toList = wordOf 12 ++ spaced (fixW ⟨12, a', b', nm', mt', zs, ys⟩) ++ spaced (argW zs)) := by
        have h1 := HSL.out
        rw [List.take_of_length_le (by have := HL.out; omega)] at h1
        exact Lib.hid h1
      clear HSL
      have xx6 : wr.cell? ⟨w.heap.size, 6, none⟩ = some (.slice A2 n2 c2) := (cells_below hbw HXp.out.lt 6).trans x6
      have X9 := HXp.out.below hbw HXp.out.lt
      have hsz2 : S.size ≤ 2006 + 1000 * 22 := by omega
      clear x0 x1 x2 x3 x4 x5 x6 hbw hS hlt
      have x6 := xx6
      clear xx6
      obtain ⟨wo, rfl⟩ : ∃ wo : World, wo = wr := ⟨_, rfl⟩
      go_wp2_with fail
      have has := HA.out.2.below HBp.out
      have HXs := Lib.hid X9
      clear X9
      go_loopw [3, 5] (fun s i wr => ∃ (q : Nat) (S : ByteArray), q ≤ n2 ∧ i = .int .i64 q ∧ s = .string S ∧ Below wo.heap.size wo wr ∧ S.size ≤ 24006 + q * 22 ∧ Hid (S.data.toList = (wordOf 12 ++ spaced (fixW ⟨12, a', b', nm', mt', zs, ys⟩) ++ spaced (argW zs)) ++ spaced (argW (ys.take q)))) (fun _ i _ => n2 - (intOf i).toNat)
      case atStart => exact ⟨0, _, Nat.zero_le _, rfl, rfl, Below.refl _ _, by omega, Lib.hid (by rw [HSp.out]; simp [argW, spaced])⟩
      case round =>
        obtain ⟨q, S, hq, rfl, rfl, hbw, hS, HSL⟩ := hrel
        have y6 : wr.cell? ⟨w.heap.size, 6, none⟩ = some (.slice A2 n2 c2) := (cells_below hbw HXs.out.lt 6).trans x6
        by_cases hlt : q < n2
        · obtain ⟨bb, off, z, rfl, hbb, hz, hc⟩ := has.at_ hlt
          have hc' : wr.cell? ⟨bb, off + q, none⟩ = some (.int .i64 z) := (cells_below hbw (Nat.lt_trans hbb HXs.out.lt) _).trans hc
          have hk0 : 0 ≤ (q : Int) := by omega
          have hk1 : (q : Int) < n2 := by omega
          have hzi : I64 z := HW.out.2.2.2 z (List.mem_of_getElem? hz)
          have HZ := Lib.hid (And.intro hz hzi)
          have hl21 := itoa_len hzi
          have hns := nstr_size z
          obtain ⟨S', E', Y', add'⟩ := add_ex S (nstr z) (by omega)
          have EE := Lib.hid E'
          have hS' : S'.size ≤ 24006 + (q + 1) * 22 := by omega
          clear hz hzi hl21 hns E' Y' hc
          go_wp2_with fail
          refine (number15 _ _ HZ.out.2).mono ?_
          rintro e w9 ⟨rfl, b9⟩
          have hb9 := hbw.trans (b9.mono hbw.size)
          clear b9
          go_wp2_with fail
          go_roundw
          case rel => exact ⟨q + 1, S', by omega, by go_num, rfl, hb9, hS', Lib.hid (by rw [EE.out, HSL.out, argW_snoc HZ.out.1, spaced_append, nstr_toList]; simp [spaced])⟩
          case measure => simp [intOf]; omega
        · obtain rfl : q = n2 := by omega
          have HBs := Lib.hid (HBp.out.trans (hbw.mono HBp.out.size))
          have HSs : Hid (S.data.toList = (wordOf 12 ++ spaced (fixW ⟨12, a', b', nm', mt', zs, ys⟩) ++ spaced (argW zs)) ++ spaced (argW ys)) := by
            have h1 := HSL.out
            rw [List.take_of_length_le (by have := HL.out; omega)] at h1
            exact Lib.hid h1
          clear HSL
          go_wp2_with fail
          go_ret
          refine ⟨ret_str (ba_eq ?_), HBs.out⟩
          rw [HSs.out]
          simp [tailW, spaced_append]

set_option maxRecDepth 100000 in
set_option maxHeartbeats 8000000 in
theorem fmt7_13 (v : Av) (d : Ad) (w : World) (h : Reads w w.heap.size v d) (hn : v.n ≤ 1000) (hn2 : v.n2 ≤ 1000) (hnm : v.nm.size ≤ 1000) (hmt : v.mt.size ≤ 1000) (hw : Wf d) (hk : v.k = 13) (hv : validB d = true) :
    Calls Tryz.prog 7 #[.agg v.cells] w fun e w' => e = .returned (.string ⟨(wordOf 13 ++ spaced (tailW d)).toArray⟩) ∧ Below w.heap.size w w' := by
  obtain ⟨k, a, b, nm, mt, zs, ys⟩ := d
  obtain ⟨k', a', b', nm', mt', A, n, c, A2, n2, c2⟩ := v
  obtain ⟨h1, h2, h3, h4, h5, ha, hs⟩ := h
  dsimp only at h1 h2 h3 h4 h5 ha hs hn hn2 hnm hmt hk
  subst h1 h2 h3 h4 h5 hk
  obtain ⟨wa, wb, wg, ws⟩ := hw
  dsimp only at wa wb wg ws
  unfold Av.cells
  dsimp only
  have hbel : Below w.heap.size w (w.alloc (.cells #[.int .i64 13, .int .i64 a', .int .i64 b', .string nm', .string mt', .slice A n c, .slice A2 n2 c2] 25)) := (Below.refl _ _).alloc (Nat.le_refl _) _
  have hR : Reads (w.alloc (.cells #[.int .i64 13, .int .i64 a', .int .i64 b', .string nm', .string mt', .slice A n c, .slice A2 n2 c2] 25)) (w.alloc (.cells #[.int .i64 13, .int .i64 a', .int .i64 b', .string nm', .string mt', .slice A n c, .slice A2 n2 c2] 25)).heap.size ⟨13, a', b', nm', mt', A, n, c, A2, n2, c2⟩ ⟨13, a', b', nm', mt', zs, ys⟩ := ⟨rfl, rfl, rfl, rfl, rfl, (ha.below hbel).more hbel.size, (hs.below hbel).more hbel.size⟩
  have hbx := Blk.new w 25 #[.int .i64 13, .int .i64 a', .int .i64 b', .string nm', .string mt', .slice A n c, .slice A2 n2 c2]
  generalize hW : w.alloc (.cells #[.int .i64 13, .int .i64 a', .int .i64 b', .string nm', .string mt', .slice A n c, .slice A2 n2 c2] 25) = W at *
  have hsz : W.heap.size = w.heap.size + 1 := by rw [← hW]; simp
  have HR := Lib.hid hR
  have HB := Lib.hid hbel
  have HX := Lib.hid hbx
  have HA := Lib.hid (And.intro ha hs)
  have HL := Lib.hid (And.intro ha.len hs.len)
  have HW := Lib.hid (And.intro wa (And.intro wb (And.intro wg ws)))
  have HV := Lib.hid hv
  have HS := Lib.hid hsz
  obtain ⟨S0, E0, Y0, add0⟩ := add_ex ⟨#[114, 101, 108, 101, 97, 115, 101]⟩ ⟨#[32]⟩ (by have p : (⟨#[114, 101, 108, 101, 97, 115, 101]⟩ : ByteArray).size = 7 := rfl; have q : (⟨#[32]⟩ : ByteArray).size = 1 := rfl; omega)
  have Z0 : S0.size ≤ 8 := by
    have p : (⟨#[114, 101, 108, 101, 97, 115, 101]⟩ : ByteArray).size = 7 := rfl
    have q : (⟨#[32]⟩ : ByteArray).size = 1 := rfl
    omega
  have F0 := Lib.hid E0
  clear E0 Y0
  obtain ⟨S1, E1, Y1, add1⟩ := add_ex S0 nm' (by have p := Z0; skip; omega)
  have Z1 : S1.size ≤ 1008 := by
    have p := Z0
    skip
    omega
  have F1 := Lib.hid E1
  clear E1 Y1
  have hbase : S1.data.toList = wordOf 13 ++ spaced (fixW ⟨13, a', b', nm', mt', zs, ys⟩) := by
    rw [F1.out, F0.out]
    simp [fixW, spaced, nstr_toList, wordOf, wordsL]
  have HBASE := Lib.hid hbase
  clear hbase hbel hR hbx ha hs wa wb wg ws hv hsz
  have x0 : W.cell? ⟨w.heap.size, 0, none⟩ = some (.int .i64 13) := HX.out.cell 0
  have x1 : W.cell? ⟨w.heap.size, 1, none⟩ = some (.int .i64 a') := HX.out.cell 1
  have x2 : W.cell? ⟨w.heap.size, 2, none⟩ = some (.int .i64 b') := HX.out.cell 2
  have x3 : W.cell? ⟨w.heap.size, 3, none⟩ = some (.string nm') := HX.out.cell 3
  have x4 : W.cell? ⟨w.heap.size, 4, none⟩ = some (.string mt') := HX.out.cell 4
  have x5 : W.cell? ⟨w.heap.size, 5, none⟩ = some (.slice A n c) := HX.out.cell 5
  have x6 : W.cell? ⟨w.heap.size, 6, none⟩ = some (.slice A2 n2 c2) := HX.out.cell 6
  go_enter Tryz.func7, Tryz.ntmps7
  go_wp2_with fail
  refine (valid9 _ _ _ HR.out (Nat.le_trans hn (by decide)) (Nat.le_trans hn2 (by decide)) (Nat.le_trans hnm (by decide)) (Nat.le_trans hmt (by decide))).mono ?_
  rintro e w1 ⟨rfl, b1⟩
  rw [HV.out]
  have X1 := HX.out.below b1 HX.out.lt
  have B1 := HB.out.trans (b1.mono HB.out.size)
  have z1 : w.heap.size < w1.heap.size := X1.lt
  clear x0 x1 x2 x3 x4 x5 x6 hW
  have x0 : w1.cell? ⟨w.heap.size, 0, none⟩ = some (.int .i64 13) := X1.cell 0
  have x1 : w1.cell? ⟨w.heap.size, 1, none⟩ = some (.int .i64 a') := X1.cell 1
  have x2 : w1.cell? ⟨w.heap.size, 2, none⟩ = some (.int .i64 b') := X1.cell 2
  have x3 : w1.cell? ⟨w.heap.size, 3, none⟩ = some (.string nm') := X1.cell 3
  have x4 : w1.cell? ⟨w.heap.size, 4, none⟩ = some (.string mt') := X1.cell 4
  have x5 : w1.cell? ⟨w.heap.size, 5, none⟩ = some (.slice A n c) := X1.cell 5
  have x6 : w1.cell? ⟨w.heap.size, 6, none⟩ = some (.slice A2 n2 c2) := X1.cell 6
  have hkk : Below w1.heap.size w1 w1 := Below.refl _ _
  have B1' := Lib.hid B1
  have X1' := Lib.hid X1
  clear B1 X1 b1
  go_wp2_with fail
  go_cut [3] (fun s U => s = .string ⟨#[114, 101, 108, 101, 97, 115, 101]⟩ ∧ Below w1.heap.size w1 U)
  case first =>
    go_region_with ((go_at_call 14
                     refine (words14 _).mono ?_
                     rintro e w2 ⟨rfl, hw2⟩
                     have hk2 : Below w1.heap.size w1 w2 := by rw [← hw2]; exact hkk.drew.alloc (Nat.le_refl _) _
                     have x0' : w2.cell? ⟨w.heap.size, 0, none⟩ = some (.int .i64 13) := (cells_below hk2 z1 0).trans x0
                     have hwc : w2.cell? ⟨w1.heap.size, 13, none⟩ = some (.string ⟨#[114, 101, 108, 101, 97, 115, 101]⟩) := by rw [← hw2]; exact (Blk.new w1.drew 9 (wordsL.map Value.string).toArray).cell 13
                     clear hw2))
    all_goals
      go_wp2_with fail
      go_meet
      exact ⟨rfl, hk2⟩
  case rest =>
  obtain ⟨rfl, hkk⟩ := hcut
  obtain ⟨w2, rfl⟩ : ∃ w2 : World, w2 = wc := ⟨_, rfl⟩
  have X2 := X1'.out.below hkk z1
  have B2 := Lib.hid (B1'.out.trans (hkk.mono B1'.out.size))
  have z2 : w.heap.size < w2.heap.size := X2.lt
  clear x0 x1 x2 x3 x4 x5 x6 hkk
  have x0 : w2.cell? ⟨w.heap.size, 0, none⟩ = some (.int .i64 13) := X2.cell 0
  have x1 : w2.cell? ⟨w.heap.size, 1, none⟩ = some (.int .i64 a') := X2.cell 1
  have x2 : w2.cell? ⟨w.heap.size, 2, none⟩ = some (.int .i64 b') := X2.cell 2
  have x3 : w2.cell? ⟨w.heap.size, 3, none⟩ = some (.string nm') := X2.cell 3
  have x4 : w2.cell? ⟨w.heap.size, 4, none⟩ = some (.string mt') := X2.cell 4
  have x5 : w2.cell? ⟨w.heap.size, 5, none⟩ = some (.slice A n c) := X2.cell 5
  have x6 : w2.cell? ⟨w.heap.size, 6, none⟩ = some (.slice A2 n2 c2) := X2.cell 6
  go_wp2_with fail
  have hap := HA.out.1.below B2.out
  have HXp := Lib.hid X2
  clear X2
  go_loopw [3, 4] (fun s i wr => ∃ (q : Nat) (S : ByteArray), q ≤ n ∧ i = .int .i64 q ∧ s = .string S ∧ Below w2.heap.size w2 wr ∧ S.size ≤ 1008 + q * 22 ∧ Hid (S.data.toList = wordOf 13 ++ spaced (fixW ⟨13, a', b', nm', mt', zs, ys⟩) ++ spaced (argW (zs.take q)))) (fun _ i _ => n - (intOf i).toNat)
  case atStart => exact ⟨0, _, Nat.zero_le _, rfl, rfl, Below.refl _ _, by omega, Lib.hid (by rw [HBASE.out]; simp [argW, spaced])⟩
  case round =>
    obtain ⟨q, S, hq, rfl, rfl, hbw, hS, HSL⟩ := hrel
    have y5 : wr.cell? ⟨w.heap.size, 5, none⟩ = some (.slice A n c) := (cells_below hbw HXp.out.lt 5).trans x5
    by_cases hlt : q < n
    · obtain ⟨bb, off, z, rfl, hbb, hz, hc⟩ := hap.at_ hlt
      have hc' : wr.cell? ⟨bb, off + q, none⟩ = some (.int .i64 z) := (cells_below hbw (Nat.lt_trans hbb HXp.out.lt) _).trans hc
      have hk0 : 0 ≤ (q : Int) := by omega
      have hk1 : (q : Int) < n := by omega
      have hzi : I64 z := HW.out.2.2.1 z (List.mem_of_getElem? hz)
      have HZ := Lib.hid (And.intro hz hzi)
      have hl21 := itoa_len hzi
      have hns := nstr_size z
      obtain ⟨S', E', Y', add'⟩ := add_ex S (nstr z) (by omega)
      have EE := Lib.hid E'
      have hS' : S'.size ≤ 1008 + (q + 1) * 22 := by omega
      clear hz hzi hl21 hns E' Y' hc
      go_wp2_with fail
      refine (number15 _ _ HZ.out.2).mono ?_
      rintro e w9 ⟨rfl, b9⟩
      have hb9 := hbw.trans (b9.mono hbw.size)
      clear b9
      go_wp2_with fail
      go_roundw
      case rel => exact ⟨q + 1, S', by omega, by go_num, rfl, hb9, hS', Lib.hid (by rw [EE.out, HSL.out, argW_snoc HZ.out.1, spaced_append, nstr_toList]; simp [spaced])⟩
      case measure => simp [intOf]; omega
    · obtain rfl : q = n := by omega
      have HBp := Lib.hid (B2.out.trans (hbw.mono B2.out.size))
      have HSp : Hid (S.data.toList = wordOf 13 ++ spaced (fixW ⟨13, a', b', nm', mt', zs, ys⟩) ++ spaced (argW zs)) := by
        have h1 := HSL.out
        rw [List.take_of_length_le (by have := HL.out; omega)] at h1
        exact Lib.hid h1
      clear HSL
      have xx6 : wr.cell? ⟨w.heap.size, 6, none⟩ = some (.slice A2 n2 c2) := (cells_below hbw HXp.out.lt 6).trans x6
      have X9 := HXp.out.below hbw HXp.out.lt
      have hsz2 : S.size ≤ 1008 + 1000 * 22 := by omega
      clear x0 x1 x2 x3 x4 x5 x6 hbw hS hlt
      have x6 := xx6
      clear xx6
      obtain ⟨wo, rfl⟩ : ∃ wo : World, wo = wr := ⟨_, rfl⟩
      go_wp2_with fail
      have has := HA.out.2.below HBp.out
      have HXs := Lib.hid X9
      clear X9
      go_loopw [3, 5] (fun s i wr => ∃ (q : Nat) (S : ByteArray), q ≤ n2 ∧ i = .int .i64 q ∧ s = .string S ∧ Below wo.heap.size wo wr ∧ S.size ≤ 23008 + q * 22 ∧ Hid (S.data.toList = (wordOf 13 ++ spaced (fixW ⟨13, a', b', nm', mt', zs, ys⟩) ++ spaced (argW zs)) ++ spaced (argW (ys.take q)))) (fun _ i _ => n2 - (intOf i).toNat)
      case atStart => exact ⟨0, _, Nat.zero_le _, rfl, rfl, Below.refl _ _, by omega, Lib.hid (by rw [HSp.out]; simp [argW, spaced])⟩
      case round =>
        obtain ⟨q, S, hq, rfl, rfl, hbw, hS, HSL⟩ := hrel
        have y6 : wr.cell? ⟨w.heap.size, 6, none⟩ = some (.slice A2 n2 c2) := (cells_below hbw HXs.out.lt 6).trans x6
        by_cases hlt : q < n2
        · obtain ⟨bb, off, z, rfl, hbb, hz, hc⟩ := has.at_ hlt
          have hc' : wr.cell? ⟨bb, off + q, none⟩ = some (.int .i64 z) := (cells_below hbw (Nat.lt_trans hbb HXs.out.lt) _).trans hc
          have hk0 : 0 ≤ (q : Int) := by omega
          have hk1 : (q : Int) < n2 := by omega
          have hzi : I64 z := HW.out.2.2.2 z (List.mem_of_getElem? hz)
          have HZ := Lib.hid (And.intro hz hzi)
          have hl21 := itoa_len hzi
          have hns := nstr_size z
          obtain ⟨S', E', Y', add'⟩ := add_ex S (nstr z) (by omega)
          have EE := Lib.hid E'
          have hS' : S'.size ≤ 23008 + (q + 1) * 22 := by omega
          clear hz hzi hl21 hns E' Y' hc
          go_wp2_with fail
          refine (number15 _ _ HZ.out.2).mono ?_
          rintro e w9 ⟨rfl, b9⟩
          have hb9 := hbw.trans (b9.mono hbw.size)
          clear b9
          go_wp2_with fail
          go_roundw
          case rel => exact ⟨q + 1, S', by omega, by go_num, rfl, hb9, hS', Lib.hid (by rw [EE.out, HSL.out, argW_snoc HZ.out.1, spaced_append, nstr_toList]; simp [spaced])⟩
          case measure => simp [intOf]; omega
        · obtain rfl : q = n2 := by omega
          have HBs := Lib.hid (HBp.out.trans (hbw.mono HBp.out.size))
          have HSs : Hid (S.data.toList = (wordOf 13 ++ spaced (fixW ⟨13, a', b', nm', mt', zs, ys⟩) ++ spaced (argW zs)) ++ spaced (argW ys)) := by
            have h1 := HSL.out
            rw [List.take_of_length_le (by have := HL.out; omega)] at h1
            exact Lib.hid h1
          clear HSL
          go_wp2_with fail
          go_ret
          refine ⟨ret_str (ba_eq ?_), HBs.out⟩
          rw [HSs.out]
          simp [tailW, spaced_append]

set_option maxRecDepth 100000 in
set_option maxHeartbeats 8000000 in
theorem fmt7_14 (v : Av) (d : Ad) (w : World) (h : Reads w w.heap.size v d) (hn : v.n ≤ 1000) (hn2 : v.n2 ≤ 1000) (hnm : v.nm.size ≤ 1000) (hmt : v.mt.size ≤ 1000) (hw : Wf d) (hk : v.k = 14) (hv : validB d = true) :
    Calls Tryz.prog 7 #[.agg v.cells] w fun e w' => e = .returned (.string ⟨(wordOf 14 ++ spaced (tailW d)).toArray⟩) ∧ Below w.heap.size w w' := by
  obtain ⟨k, a, b, nm, mt, zs, ys⟩ := d
  obtain ⟨k', a', b', nm', mt', A, n, c, A2, n2, c2⟩ := v
  obtain ⟨h1, h2, h3, h4, h5, ha, hs⟩ := h
  dsimp only at h1 h2 h3 h4 h5 ha hs hn hn2 hnm hmt hk
  subst h1 h2 h3 h4 h5 hk
  obtain ⟨wa, wb, wg, ws⟩ := hw
  dsimp only at wa wb wg ws
  unfold Av.cells
  dsimp only
  have hbel : Below w.heap.size w (w.alloc (.cells #[.int .i64 14, .int .i64 a', .int .i64 b', .string nm', .string mt', .slice A n c, .slice A2 n2 c2] 25)) := (Below.refl _ _).alloc (Nat.le_refl _) _
  have hR : Reads (w.alloc (.cells #[.int .i64 14, .int .i64 a', .int .i64 b', .string nm', .string mt', .slice A n c, .slice A2 n2 c2] 25)) (w.alloc (.cells #[.int .i64 14, .int .i64 a', .int .i64 b', .string nm', .string mt', .slice A n c, .slice A2 n2 c2] 25)).heap.size ⟨14, a', b', nm', mt', A, n, c, A2, n2, c2⟩ ⟨14, a', b', nm', mt', zs, ys⟩ := ⟨rfl, rfl, rfl, rfl, rfl, (ha.below hbel).more hbel.size, (hs.below hbel).more hbel.size⟩
  have hbx := Blk.new w 25 #[.int .i64 14, .int .i64 a', .int .i64 b', .string nm', .string mt', .slice A n c, .slice A2 n2 c2]
  generalize hW : w.alloc (.cells #[.int .i64 14, .int .i64 a', .int .i64 b', .string nm', .string mt', .slice A n c, .slice A2 n2 c2] 25) = W at *
  have hsz : W.heap.size = w.heap.size + 1 := by rw [← hW]; simp
  have HR := Lib.hid hR
  have HB := Lib.hid hbel
  have HX := Lib.hid hbx
  have HA := Lib.hid (And.intro ha hs)
  have HL := Lib.hid (And.intro ha.len hs.len)
  have HW := Lib.hid (And.intro wa (And.intro wb (And.intro wg ws)))
  have HV := Lib.hid hv
  have HS := Lib.hid hsz
  obtain ⟨S0, E0, Y0, add0⟩ := add_ex ⟨#[114, 101, 116, 105, 114, 101]⟩ (nstr a') (by have p : (⟨#[114, 101, 116, 105, 114, 101]⟩ : ByteArray).size = 6 := rfl; have q := nstr_size a'; have q2 := itoa_len wa; omega)
  have Z0 : S0.size ≤ 28 := by
    have p : (⟨#[114, 101, 116, 105, 114, 101]⟩ : ByteArray).size = 6 := rfl
    have q := nstr_size a'; have q2 := itoa_len wa
    omega
  have F0 := Lib.hid E0
  clear E0 Y0
  obtain ⟨S1, E1, Y1, add1⟩ := add_ex S0 (nstr b') (by have p := Z0; have q := nstr_size b'; have q2 := itoa_len wb; omega)
  have Z1 : S1.size ≤ 50 := by
    have p := Z0
    have q := nstr_size b'; have q2 := itoa_len wb
    omega
  have F1 := Lib.hid E1
  clear E1 Y1
  have hbase : S1.data.toList = wordOf 14 ++ spaced (fixW ⟨14, a', b', nm', mt', zs, ys⟩) := by
    rw [F1.out, F0.out]
    simp [fixW, spaced, nstr_toList, wordOf, wordsL]
  have HBASE := Lib.hid hbase
  clear hbase hbel hR hbx ha hs wa wb wg ws hv hsz
  have x0 : W.cell? ⟨w.heap.size, 0, none⟩ = some (.int .i64 14) := HX.out.cell 0
  have x1 : W.cell? ⟨w.heap.size, 1, none⟩ = some (.int .i64 a') := HX.out.cell 1
  have x2 : W.cell? ⟨w.heap.size, 2, none⟩ = some (.int .i64 b') := HX.out.cell 2
  have x3 : W.cell? ⟨w.heap.size, 3, none⟩ = some (.string nm') := HX.out.cell 3
  have x4 : W.cell? ⟨w.heap.size, 4, none⟩ = some (.string mt') := HX.out.cell 4
  have x5 : W.cell? ⟨w.heap.size, 5, none⟩ = some (.slice A n c) := HX.out.cell 5
  have x6 : W.cell? ⟨w.heap.size, 6, none⟩ = some (.slice A2 n2 c2) := HX.out.cell 6
  go_enter Tryz.func7, Tryz.ntmps7
  go_wp2_with fail
  refine (valid9 _ _ _ HR.out (Nat.le_trans hn (by decide)) (Nat.le_trans hn2 (by decide)) (Nat.le_trans hnm (by decide)) (Nat.le_trans hmt (by decide))).mono ?_
  rintro e w1 ⟨rfl, b1⟩
  rw [HV.out]
  have X1 := HX.out.below b1 HX.out.lt
  have B1 := HB.out.trans (b1.mono HB.out.size)
  have z1 : w.heap.size < w1.heap.size := X1.lt
  clear x0 x1 x2 x3 x4 x5 x6 hW
  have x0 : w1.cell? ⟨w.heap.size, 0, none⟩ = some (.int .i64 14) := X1.cell 0
  have x1 : w1.cell? ⟨w.heap.size, 1, none⟩ = some (.int .i64 a') := X1.cell 1
  have x2 : w1.cell? ⟨w.heap.size, 2, none⟩ = some (.int .i64 b') := X1.cell 2
  have x3 : w1.cell? ⟨w.heap.size, 3, none⟩ = some (.string nm') := X1.cell 3
  have x4 : w1.cell? ⟨w.heap.size, 4, none⟩ = some (.string mt') := X1.cell 4
  have x5 : w1.cell? ⟨w.heap.size, 5, none⟩ = some (.slice A n c) := X1.cell 5
  have x6 : w1.cell? ⟨w.heap.size, 6, none⟩ = some (.slice A2 n2 c2) := X1.cell 6
  have hkk : Below w1.heap.size w1 w1 := Below.refl _ _
  have B1' := Lib.hid B1
  have X1' := Lib.hid X1
  clear B1 X1 b1
  go_wp2_with fail
  go_cut [3] (fun s U => s = .string ⟨#[114, 101, 116, 105, 114, 101]⟩ ∧ Below w1.heap.size w1 U)
  case first =>
    go_region_with ((go_at_call 14
                     refine (words14 _).mono ?_
                     rintro e w2 ⟨rfl, hw2⟩
                     have hk2 : Below w1.heap.size w1 w2 := by rw [← hw2]; exact hkk.drew.alloc (Nat.le_refl _) _
                     have x0' : w2.cell? ⟨w.heap.size, 0, none⟩ = some (.int .i64 14) := (cells_below hk2 z1 0).trans x0
                     have hwc : w2.cell? ⟨w1.heap.size, 14, none⟩ = some (.string ⟨#[114, 101, 116, 105, 114, 101]⟩) := by rw [← hw2]; exact (Blk.new w1.drew 9 (wordsL.map Value.string).toArray).cell 14
                     clear hw2))
    all_goals
      go_wp2_with fail
      go_meet
      exact ⟨rfl, hk2⟩
  case rest =>
  obtain ⟨rfl, hkk⟩ := hcut
  obtain ⟨w2, rfl⟩ : ∃ w2 : World, w2 = wc := ⟨_, rfl⟩
  have X2 := X1'.out.below hkk z1
  have B2 := Lib.hid (B1'.out.trans (hkk.mono B1'.out.size))
  have z2 : w.heap.size < w2.heap.size := X2.lt
  clear x0 x1 x2 x3 x4 x5 x6 hkk
  have x0 : w2.cell? ⟨w.heap.size, 0, none⟩ = some (.int .i64 14) := X2.cell 0
  have x1 : w2.cell? ⟨w.heap.size, 1, none⟩ = some (.int .i64 a') := X2.cell 1
  have x2 : w2.cell? ⟨w.heap.size, 2, none⟩ = some (.int .i64 b') := X2.cell 2
  have x3 : w2.cell? ⟨w.heap.size, 3, none⟩ = some (.string nm') := X2.cell 3
  have x4 : w2.cell? ⟨w.heap.size, 4, none⟩ = some (.string mt') := X2.cell 4
  have x5 : w2.cell? ⟨w.heap.size, 5, none⟩ = some (.slice A n c) := X2.cell 5
  have x6 : w2.cell? ⟨w.heap.size, 6, none⟩ = some (.slice A2 n2 c2) := X2.cell 6
  go_wp2_with fail
  refine (number15 _ _ HW.out.1).mono ?_
  rintro e w3 ⟨rfl, b3⟩
  have X3 := X2.below b3 X2.lt
  have B3 := Lib.hid (B2.out.trans (b3.mono B2.out.size))
  have z3 : w.heap.size < w3.heap.size := X3.lt
  clear x0 x1 x2 x3 x4 x5 x6 b3 X2
  have x0 : w3.cell? ⟨w.heap.size, 0, none⟩ = some (.int .i64 14) := X3.cell 0
  have x1 : w3.cell? ⟨w.heap.size, 1, none⟩ = some (.int .i64 a') := X3.cell 1
  have x2 : w3.cell? ⟨w.heap.size, 2, none⟩ = some (.int .i64 b') := X3.cell 2
  have x3 : w3.cell? ⟨w.heap.size, 3, none⟩ = some (.string nm') := X3.cell 3
  have x4 : w3.cell? ⟨w.heap.size, 4, none⟩ = some (.string mt') := X3.cell 4
  have x5 : w3.cell? ⟨w.heap.size, 5, none⟩ = some (.slice A n c) := X3.cell 5
  have x6 : w3.cell? ⟨w.heap.size, 6, none⟩ = some (.slice A2 n2 c2) := X3.cell 6
  go_wp2_with fail
  refine (number15 _ _ HW.out.2.1).mono ?_
  rintro e w4 ⟨rfl, b4⟩
  have X4 := X3.below b4 X3.lt
  have B4 := Lib.hid (B3.out.trans (b4.mono B3.out.size))
  have z4 : w.heap.size < w4.heap.size := X4.lt
  clear x0 x1 x2 x3 x4 x5 x6 b4 X3
  have x0 : w4.cell? ⟨w.heap.size, 0, none⟩ = some (.int .i64 14) := X4.cell 0
  have x1 : w4.cell? ⟨w.heap.size, 1, none⟩ = some (.int .i64 a') := X4.cell 1
  have x2 : w4.cell? ⟨w.heap.size, 2, none⟩ = some (.int .i64 b') := X4.cell 2
  have x3 : w4.cell? ⟨w.heap.size, 3, none⟩ = some (.string nm') := X4.cell 3
  have x4 : w4.cell? ⟨w.heap.size, 4, none⟩ = some (.string mt') := X4.cell 4
  have x5 : w4.cell? ⟨w.heap.size, 5, none⟩ = some (.slice A n c) := X4.cell 5
  have x6 : w4.cell? ⟨w.heap.size, 6, none⟩ = some (.slice A2 n2 c2) := X4.cell 6
  go_wp2_with fail
  have hap := HA.out.1.below B4.out
  have HXp := Lib.hid X4
  clear X4
  go_loopw [3, 4] (fun s i wr => ∃ (q : Nat) (S : ByteArray), q ≤ n ∧ i = .int .i64 q ∧ s = .string S ∧ Below w4.heap.size w4 wr ∧ S.size ≤ 50 + q * 22 ∧ Hid (S.data.toList = wordOf 14 ++ spaced (fixW ⟨14, a', b', nm', mt', zs, ys⟩) ++ spaced (argW (zs.take q)))) (fun _ i _ => n - (intOf i).toNat)
  case atStart => exact ⟨0, _, Nat.zero_le _, rfl, rfl, Below.refl _ _, by omega, Lib.hid (by rw [HBASE.out]; simp [argW, spaced])⟩
  case round =>
    obtain ⟨q, S, hq, rfl, rfl, hbw, hS, HSL⟩ := hrel
    have y5 : wr.cell? ⟨w.heap.size, 5, none⟩ = some (.slice A n c) := (cells_below hbw HXp.out.lt 5).trans x5
    by_cases hlt : q < n
    · obtain ⟨bb, off, z, rfl, hbb, hz, hc⟩ := hap.at_ hlt
      have hc' : wr.cell? ⟨bb, off + q, none⟩ = some (.int .i64 z) := (cells_below hbw (Nat.lt_trans hbb HXp.out.lt) _).trans hc
      have hk0 : 0 ≤ (q : Int) := by omega
      have hk1 : (q : Int) < n := by omega
      have hzi : I64 z := HW.out.2.2.1 z (List.mem_of_getElem? hz)
      have HZ := Lib.hid (And.intro hz hzi)
      have hl21 := itoa_len hzi
      have hns := nstr_size z
      obtain ⟨S', E', Y', add'⟩ := add_ex S (nstr z) (by omega)
      have EE := Lib.hid E'
      have hS' : S'.size ≤ 50 + (q + 1) * 22 := by omega
      clear hz hzi hl21 hns E' Y' hc
      go_wp2_with fail
      refine (number15 _ _ HZ.out.2).mono ?_
      rintro e w9 ⟨rfl, b9⟩
      have hb9 := hbw.trans (b9.mono hbw.size)
      clear b9
      go_wp2_with fail
      go_roundw
      case rel => exact ⟨q + 1, S', by omega, by go_num, rfl, hb9, hS', Lib.hid (by rw [EE.out, HSL.out, argW_snoc HZ.out.1, spaced_append, nstr_toList]; simp [spaced])⟩
      case measure => simp [intOf]; omega
    · obtain rfl : q = n := by omega
      have HBp := Lib.hid (B4.out.trans (hbw.mono B4.out.size))
      have HSp : Hid (S.data.toList = wordOf 14 ++ spaced (fixW ⟨14, a', b', nm', mt', zs, ys⟩) ++ spaced (argW zs)) := by
        have h1 := HSL.out
        rw [List.take_of_length_le (by have := HL.out; omega)] at h1
        exact Lib.hid h1
      clear HSL
      have xx6 : wr.cell? ⟨w.heap.size, 6, none⟩ = some (.slice A2 n2 c2) := (cells_below hbw HXp.out.lt 6).trans x6
      have X9 := HXp.out.below hbw HXp.out.lt
      have hsz2 : S.size ≤ 50 + 1000 * 22 := by omega
      clear x0 x1 x2 x3 x4 x5 x6 hbw hS hlt
      have x6 := xx6
      clear xx6
      obtain ⟨wo, rfl⟩ : ∃ wo : World, wo = wr := ⟨_, rfl⟩
      go_wp2_with fail
      have has := HA.out.2.below HBp.out
      have HXs := Lib.hid X9
      clear X9
      go_loopw [3, 5] (fun s i wr => ∃ (q : Nat) (S : ByteArray), q ≤ n2 ∧ i = .int .i64 q ∧ s = .string S ∧ Below wo.heap.size wo wr ∧ S.size ≤ 22050 + q * 22 ∧ Hid (S.data.toList = (wordOf 14 ++ spaced (fixW ⟨14, a', b', nm', mt', zs, ys⟩) ++ spaced (argW zs)) ++ spaced (argW (ys.take q)))) (fun _ i _ => n2 - (intOf i).toNat)
      case atStart => exact ⟨0, _, Nat.zero_le _, rfl, rfl, Below.refl _ _, by omega, Lib.hid (by rw [HSp.out]; simp [argW, spaced])⟩
      case round =>
        obtain ⟨q, S, hq, rfl, rfl, hbw, hS, HSL⟩ := hrel
        have y6 : wr.cell? ⟨w.heap.size, 6, none⟩ = some (.slice A2 n2 c2) := (cells_below hbw HXs.out.lt 6).trans x6
        by_cases hlt : q < n2
        · obtain ⟨bb, off, z, rfl, hbb, hz, hc⟩ := has.at_ hlt
          have hc' : wr.cell? ⟨bb, off + q, none⟩ = some (.int .i64 z) := (cells_below hbw (Nat.lt_trans hbb HXs.out.lt) _).trans hc
          have hk0 : 0 ≤ (q : Int) := by omega
          have hk1 : (q : Int) < n2 := by omega
          have hzi : I64 z := HW.out.2.2.2 z (List.mem_of_getElem? hz)
          have HZ := Lib.hid (And.intro hz hzi)
          have hl21 := itoa_len hzi
          have hns := nstr_size z
          obtain ⟨S', E', Y', add'⟩ := add_ex S (nstr z) (by omega)
          have EE := Lib.hid E'
          have hS' : S'.size ≤ 22050 + (q + 1) * 22 := by omega
          clear hz hzi hl21 hns E' Y' hc
          go_wp2_with fail
          refine (number15 _ _ HZ.out.2).mono ?_
          rintro e w9 ⟨rfl, b9⟩
          have hb9 := hbw.trans (b9.mono hbw.size)
          clear b9
          go_wp2_with fail
          go_roundw
          case rel => exact ⟨q + 1, S', by omega, by go_num, rfl, hb9, hS', Lib.hid (by rw [EE.out, HSL.out, argW_snoc HZ.out.1, spaced_append, nstr_toList]; simp [spaced])⟩
          case measure => simp [intOf]; omega
        · obtain rfl : q = n2 := by omega
          have HBs := Lib.hid (HBp.out.trans (hbw.mono HBp.out.size))
          have HSs : Hid (S.data.toList = (wordOf 14 ++ spaced (fixW ⟨14, a', b', nm', mt', zs, ys⟩) ++ spaced (argW zs)) ++ spaced (argW ys)) := by
            have h1 := HSL.out
            rw [List.take_of_length_le (by have := HL.out; omega)] at h1
            exact Lib.hid h1
          clear HSL
          go_wp2_with fail
          go_ret
          refine ⟨ret_str (ba_eq ?_), HBs.out⟩
          rw [HSs.out]
          simp [tailW, spaced_append]

set_option maxRecDepth 100000 in
set_option maxHeartbeats 8000000 in
theorem fmt7_15 (v : Av) (d : Ad) (w : World) (h : Reads w w.heap.size v d) (hn : v.n ≤ 1000) (hn2 : v.n2 ≤ 1000) (hnm : v.nm.size ≤ 1000) (hmt : v.mt.size ≤ 1000) (hw : Wf d) (hk : v.k = 15) (hv : validB d = true) :
    Calls Tryz.prog 7 #[.agg v.cells] w fun e w' => e = .returned (.string ⟨(wordOf 15 ++ spaced (tailW d)).toArray⟩) ∧ Below w.heap.size w w' := by
  obtain ⟨k, a, b, nm, mt, zs, ys⟩ := d
  obtain ⟨k', a', b', nm', mt', A, n, c, A2, n2, c2⟩ := v
  obtain ⟨h1, h2, h3, h4, h5, ha, hs⟩ := h
  dsimp only at h1 h2 h3 h4 h5 ha hs hn hn2 hnm hmt hk
  subst h1 h2 h3 h4 h5 hk
  obtain ⟨wa, wb, wg, ws⟩ := hw
  dsimp only at wa wb wg ws
  unfold Av.cells
  dsimp only
  have hbel : Below w.heap.size w (w.alloc (.cells #[.int .i64 15, .int .i64 a', .int .i64 b', .string nm', .string mt', .slice A n c, .slice A2 n2 c2] 25)) := (Below.refl _ _).alloc (Nat.le_refl _) _
  have hR : Reads (w.alloc (.cells #[.int .i64 15, .int .i64 a', .int .i64 b', .string nm', .string mt', .slice A n c, .slice A2 n2 c2] 25)) (w.alloc (.cells #[.int .i64 15, .int .i64 a', .int .i64 b', .string nm', .string mt', .slice A n c, .slice A2 n2 c2] 25)).heap.size ⟨15, a', b', nm', mt', A, n, c, A2, n2, c2⟩ ⟨15, a', b', nm', mt', zs, ys⟩ := ⟨rfl, rfl, rfl, rfl, rfl, (ha.below hbel).more hbel.size, (hs.below hbel).more hbel.size⟩
  have hbx := Blk.new w 25 #[.int .i64 15, .int .i64 a', .int .i64 b', .string nm', .string mt', .slice A n c, .slice A2 n2 c2]
  generalize hW : w.alloc (.cells #[.int .i64 15, .int .i64 a', .int .i64 b', .string nm', .string mt', .slice A n c, .slice A2 n2 c2] 25) = W at *
  have hsz : W.heap.size = w.heap.size + 1 := by rw [← hW]; simp
  have HR := Lib.hid hR
  have HB := Lib.hid hbel
  have HX := Lib.hid hbx
  have HA := Lib.hid (And.intro ha hs)
  have HL := Lib.hid (And.intro ha.len hs.len)
  have HW := Lib.hid (And.intro wa (And.intro wb (And.intro wg ws)))
  have HV := Lib.hid hv
  have HS := Lib.hid hsz
  obtain ⟨S0, E0, Y0, add0⟩ := add_ex ⟨#[99, 97, 108, 109]⟩ (nstr b') (by have p : (⟨#[99, 97, 108, 109]⟩ : ByteArray).size = 4 := rfl; have q := nstr_size b'; have q2 := itoa_len wb; omega)
  have Z0 : S0.size ≤ 26 := by
    have p : (⟨#[99, 97, 108, 109]⟩ : ByteArray).size = 4 := rfl
    have q := nstr_size b'; have q2 := itoa_len wb
    omega
  have F0 := Lib.hid E0
  clear E0 Y0
  have hbase : S0.data.toList = wordOf 15 ++ spaced (fixW ⟨15, a', b', nm', mt', zs, ys⟩) := by
    rw [F0.out]
    simp [fixW, spaced, nstr_toList, wordOf, wordsL]
  have HBASE := Lib.hid hbase
  clear hbase hbel hR hbx ha hs wa wb wg ws hv hsz
  have x0 : W.cell? ⟨w.heap.size, 0, none⟩ = some (.int .i64 15) := HX.out.cell 0
  have x1 : W.cell? ⟨w.heap.size, 1, none⟩ = some (.int .i64 a') := HX.out.cell 1
  have x2 : W.cell? ⟨w.heap.size, 2, none⟩ = some (.int .i64 b') := HX.out.cell 2
  have x3 : W.cell? ⟨w.heap.size, 3, none⟩ = some (.string nm') := HX.out.cell 3
  have x4 : W.cell? ⟨w.heap.size, 4, none⟩ = some (.string mt') := HX.out.cell 4
  have x5 : W.cell? ⟨w.heap.size, 5, none⟩ = some (.slice A n c) := HX.out.cell 5
  have x6 : W.cell? ⟨w.heap.size, 6, none⟩ = some (.slice A2 n2 c2) := HX.out.cell 6
  go_enter Tryz.func7, Tryz.ntmps7
  go_wp2_with fail
  refine (valid9 _ _ _ HR.out (Nat.le_trans hn (by decide)) (Nat.le_trans hn2 (by decide)) (Nat.le_trans hnm (by decide)) (Nat.le_trans hmt (by decide))).mono ?_
  rintro e w1 ⟨rfl, b1⟩
  rw [HV.out]
  have X1 := HX.out.below b1 HX.out.lt
  have B1 := HB.out.trans (b1.mono HB.out.size)
  have z1 : w.heap.size < w1.heap.size := X1.lt
  clear x0 x1 x2 x3 x4 x5 x6 hW
  have x0 : w1.cell? ⟨w.heap.size, 0, none⟩ = some (.int .i64 15) := X1.cell 0
  have x1 : w1.cell? ⟨w.heap.size, 1, none⟩ = some (.int .i64 a') := X1.cell 1
  have x2 : w1.cell? ⟨w.heap.size, 2, none⟩ = some (.int .i64 b') := X1.cell 2
  have x3 : w1.cell? ⟨w.heap.size, 3, none⟩ = some (.string nm') := X1.cell 3
  have x4 : w1.cell? ⟨w.heap.size, 4, none⟩ = some (.string mt') := X1.cell 4
  have x5 : w1.cell? ⟨w.heap.size, 5, none⟩ = some (.slice A n c) := X1.cell 5
  have x6 : w1.cell? ⟨w.heap.size, 6, none⟩ = some (.slice A2 n2 c2) := X1.cell 6
  have hkk : Below w1.heap.size w1 w1 := Below.refl _ _
  have B1' := Lib.hid B1
  have X1' := Lib.hid X1
  clear B1 X1 b1
  go_wp2_with fail
  go_cut [3] (fun s U => s = .string ⟨#[99, 97, 108, 109]⟩ ∧ Below w1.heap.size w1 U)
  case first =>
    go_region_with ((go_at_call 14
                     refine (words14 _).mono ?_
                     rintro e w2 ⟨rfl, hw2⟩
                     have hk2 : Below w1.heap.size w1 w2 := by rw [← hw2]; exact hkk.drew.alloc (Nat.le_refl _) _
                     have x0' : w2.cell? ⟨w.heap.size, 0, none⟩ = some (.int .i64 15) := (cells_below hk2 z1 0).trans x0
                     have hwc : w2.cell? ⟨w1.heap.size, 15, none⟩ = some (.string ⟨#[99, 97, 108, 109]⟩) := by rw [← hw2]; exact (Blk.new w1.drew 9 (wordsL.map Value.string).toArray).cell 15
                     clear hw2))
    all_goals
      go_wp2_with fail
      go_meet
      exact ⟨rfl, hk2⟩
  case rest =>
  obtain ⟨rfl, hkk⟩ := hcut
  obtain ⟨w2, rfl⟩ : ∃ w2 : World, w2 = wc := ⟨_, rfl⟩
  have X2 := X1'.out.below hkk z1
  have B2 := Lib.hid (B1'.out.trans (hkk.mono B1'.out.size))
  have z2 : w.heap.size < w2.heap.size := X2.lt
  clear x0 x1 x2 x3 x4 x5 x6 hkk
  have x0 : w2.cell? ⟨w.heap.size, 0, none⟩ = some (.int .i64 15) := X2.cell 0
  have x1 : w2.cell? ⟨w.heap.size, 1, none⟩ = some (.int .i64 a') := X2.cell 1
  have x2 : w2.cell? ⟨w.heap.size, 2, none⟩ = some (.int .i64 b') := X2.cell 2
  have x3 : w2.cell? ⟨w.heap.size, 3, none⟩ = some (.string nm') := X2.cell 3
  have x4 : w2.cell? ⟨w.heap.size, 4, none⟩ = some (.string mt') := X2.cell 4
  have x5 : w2.cell? ⟨w.heap.size, 5, none⟩ = some (.slice A n c) := X2.cell 5
  have x6 : w2.cell? ⟨w.heap.size, 6, none⟩ = some (.slice A2 n2 c2) := X2.cell 6
  go_wp2_with fail
  refine (number15 _ _ HW.out.2.1).mono ?_
  rintro e w3 ⟨rfl, b3⟩
  have X3 := X2.below b3 X2.lt
  have B3 := Lib.hid (B2.out.trans (b3.mono B2.out.size))
  have z3 : w.heap.size < w3.heap.size := X3.lt
  clear x0 x1 x2 x3 x4 x5 x6 b3 X2
  have x0 : w3.cell? ⟨w.heap.size, 0, none⟩ = some (.int .i64 15) := X3.cell 0
  have x1 : w3.cell? ⟨w.heap.size, 1, none⟩ = some (.int .i64 a') := X3.cell 1
  have x2 : w3.cell? ⟨w.heap.size, 2, none⟩ = some (.int .i64 b') := X3.cell 2
  have x3 : w3.cell? ⟨w.heap.size, 3, none⟩ = some (.string nm') := X3.cell 3
  have x4 : w3.cell? ⟨w.heap.size, 4, none⟩ = some (.string mt') := X3.cell 4
  have x5 : w3.cell? ⟨w.heap.size, 5, none⟩ = some (.slice A n c) := X3.cell 5
  have x6 : w3.cell? ⟨w.heap.size, 6, none⟩ = some (.slice A2 n2 c2) := X3.cell 6
  go_wp2_with fail
  have hap := HA.out.1.below B3.out
  have HXp := Lib.hid X3
  clear X3
  go_loopw [3, 4] (fun s i wr => ∃ (q : Nat) (S : ByteArray), q ≤ n ∧ i = .int .i64 q ∧ s = .string S ∧ Below w3.heap.size w3 wr ∧ S.size ≤ 26 + q * 22 ∧ Hid (S.data.toList = wordOf 15 ++ spaced (fixW ⟨15, a', b', nm', mt', zs, ys⟩) ++ spaced (argW (zs.take q)))) (fun _ i _ => n - (intOf i).toNat)
  case atStart => exact ⟨0, _, Nat.zero_le _, rfl, rfl, Below.refl _ _, by omega, Lib.hid (by rw [HBASE.out]; simp [argW, spaced])⟩
  case round =>
    obtain ⟨q, S, hq, rfl, rfl, hbw, hS, HSL⟩ := hrel
    have y5 : wr.cell? ⟨w.heap.size, 5, none⟩ = some (.slice A n c) := (cells_below hbw HXp.out.lt 5).trans x5
    by_cases hlt : q < n
    · obtain ⟨bb, off, z, rfl, hbb, hz, hc⟩ := hap.at_ hlt
      have hc' : wr.cell? ⟨bb, off + q, none⟩ = some (.int .i64 z) := (cells_below hbw (Nat.lt_trans hbb HXp.out.lt) _).trans hc
      have hk0 : 0 ≤ (q : Int) := by omega
      have hk1 : (q : Int) < n := by omega
      have hzi : I64 z := HW.out.2.2.1 z (List.mem_of_getElem? hz)
      have HZ := Lib.hid (And.intro hz hzi)
      have hl21 := itoa_len hzi
      have hns := nstr_size z
      obtain ⟨S', E', Y', add'⟩ := add_ex S (nstr z) (by omega)
      have EE := Lib.hid E'
      have hS' : S'.size ≤ 26 + (q + 1) * 22 := by omega
      clear hz hzi hl21 hns E' Y' hc
      go_wp2_with fail
      refine (number15 _ _ HZ.out.2).mono ?_
      rintro e w9 ⟨rfl, b9⟩
      have hb9 := hbw.trans (b9.mono hbw.size)
      clear b9
      go_wp2_with fail
      go_roundw
      case rel => exact ⟨q + 1, S', by omega, by go_num, rfl, hb9, hS', Lib.hid (by rw [EE.out, HSL.out, argW_snoc HZ.out.1, spaced_append, nstr_toList]; simp [spaced])⟩
      case measure => simp [intOf]; omega
    · obtain rfl : q = n := by omega
      have HBp := Lib.hid (B3.out.trans (hbw.mono B3.out.size))
      have HSp : Hid (S.data.toList = wordOf 15 ++ spaced (fixW ⟨15, a', b', nm', mt', zs, ys⟩) ++ spaced (argW zs)) := by
        have h1 := HSL.out
        rw [List.take_of_length_le (by have := HL.out; omega)] at h1
        exact Lib.hid h1
      clear HSL
      have xx6 : wr.cell? ⟨w.heap.size, 6, none⟩ = some (.slice A2 n2 c2) := (cells_below hbw HXp.out.lt 6).trans x6
      have X9 := HXp.out.below hbw HXp.out.lt
      have hsz2 : S.size ≤ 26 + 1000 * 22 := by omega
      clear x0 x1 x2 x3 x4 x5 x6 hbw hS hlt
      have x6 := xx6
      clear xx6
      obtain ⟨wo, rfl⟩ : ∃ wo : World, wo = wr := ⟨_, rfl⟩
      go_wp2_with fail
      have has := HA.out.2.below HBp.out
      have HXs := Lib.hid X9
      clear X9
      go_loopw [3, 5] (fun s i wr => ∃ (q : Nat) (S : ByteArray), q ≤ n2 ∧ i = .int .i64 q ∧ s = .string S ∧ Below wo.heap.size wo wr ∧ S.size ≤ 22026 + q * 22 ∧ Hid (S.data.toList = (wordOf 15 ++ spaced (fixW ⟨15, a', b', nm', mt', zs, ys⟩) ++ spaced (argW zs)) ++ spaced (argW (ys.take q)))) (fun _ i _ => n2 - (intOf i).toNat)
      case atStart => exact ⟨0, _, Nat.zero_le _, rfl, rfl, Below.refl _ _, by omega, Lib.hid (by rw [HSp.out]; simp [argW, spaced])⟩
      case round =>
        obtain ⟨q, S, hq, rfl, rfl, hbw, hS, HSL⟩ := hrel
        have y6 : wr.cell? ⟨w.heap.size, 6, none⟩ = some (.slice A2 n2 c2) := (cells_below hbw HXs.out.lt 6).trans x6
        by_cases hlt : q < n2
        · obtain ⟨bb, off, z, rfl, hbb, hz, hc⟩ := has.at_ hlt
          have hc' : wr.cell? ⟨bb, off + q, none⟩ = some (.int .i64 z) := (cells_below hbw (Nat.lt_trans hbb HXs.out.lt) _).trans hc
          have hk0 : 0 ≤ (q : Int) := by omega
          have hk1 : (q : Int) < n2 := by omega
          have hzi : I64 z := HW.out.2.2.2 z (List.mem_of_getElem? hz)
          have HZ := Lib.hid (And.intro hz hzi)
          have hl21 := itoa_len hzi
          have hns := nstr_size z
          obtain ⟨S', E', Y', add'⟩ := add_ex S (nstr z) (by omega)
          have EE := Lib.hid E'
          have hS' : S'.size ≤ 22026 + (q + 1) * 22 := by omega
          clear hz hzi hl21 hns E' Y' hc
          go_wp2_with fail
          refine (number15 _ _ HZ.out.2).mono ?_
          rintro e w9 ⟨rfl, b9⟩
          have hb9 := hbw.trans (b9.mono hbw.size)
          clear b9
          go_wp2_with fail
          go_roundw
          case rel => exact ⟨q + 1, S', by omega, by go_num, rfl, hb9, hS', Lib.hid (by rw [EE.out, HSL.out, argW_snoc HZ.out.1, spaced_append, nstr_toList]; simp [spaced])⟩
          case measure => simp [intOf]; omega
        · obtain rfl : q = n2 := by omega
          have HBs := Lib.hid (HBp.out.trans (hbw.mono HBp.out.size))
          have HSs : Hid (S.data.toList = (wordOf 15 ++ spaced (fixW ⟨15, a', b', nm', mt', zs, ys⟩) ++ spaced (argW zs)) ++ spaced (argW ys)) := by
            have h1 := HSL.out
            rw [List.take_of_length_le (by have := HL.out; omega)] at h1
            exact Lib.hid h1
          clear HSL
          go_wp2_with fail
          go_ret
          refine ⟨ret_str (ba_eq ?_), HBs.out⟩
          rw [HSs.out]
          simp [tailW, spaced_append]

set_option maxRecDepth 100000 in
set_option maxHeartbeats 4000000 in
theorem fmt7_no (v : Av) (d : Ad) (w : World) (h : Reads w w.heap.size v d) (hn : v.n ≤ 1000) (hn2 : v.n2 ≤ 1000) (hnm : v.nm.size ≤ 1000) (hmt : v.mt.size ≤ 1000) (hv : validB d = false) :
    Calls Tryz.prog 7 #[.agg v.cells] w fun e w' => e = .returned (.string ⟨#[]⟩) ∧ Below w.heap.size w w' := by
  have hbel : Below w.heap.size w (w.alloc (.cells v.cells 25)) := (Below.refl _ _).alloc (Nat.le_refl _) _
  have hR : Reads (w.alloc (.cells v.cells 25)) (w.alloc (.cells v.cells 25)).heap.size v d := (h.below hbel).more hbel.size
  have hc := (valid9 v d _ hR (Nat.le_trans hn (by decide)) (Nat.le_trans hn2 (by decide)) (Nat.le_trans hnm (by decide)) (Nat.le_trans hmt (by decide)))
  rw [hv] at hc
  obtain ⟨k', a', b', nm', mt', A, n, c, A2, n2, c2⟩ := v
  unfold Av.cells at hc hbel ⊢
  dsimp only at hc hbel ⊢
  have HC := Lib.hid hc
  have HB := Lib.hid hbel
  clear h hn hn2 hnm hmt hv hbel hR hc
  go_enter Tryz.func7, Tryz.ntmps7
  go_wp2_with fail
  refine HC.out.mono ?_
  rintro e w1 ⟨rfl, b1⟩
  go_wp2_with fail
  go_ret
  exact ⟨rfl, HB.out.trans (b1.mono HB.out.size)⟩
theorem validB_kind {d : Ad} (h : validB d = true) : ∃ q : Nat, q ≤ 15 ∧ d.k = (q : Int) := by
  unfold validB at h
  rw [Bool.and_eq_true] at h
  obtain ⟨h0, h1⟩ := h
  obtain ⟨q, hq⟩ := Int.eq_ofNat_of_zero_le (by simpa using h0 : 0 ≤ d.k)
  refine ⟨q, ?_, hq⟩
  rw [hq] at h1
  rcases Nat.lt_or_ge 15 q with h2 | h2
  · exfalso
    rw [Int.toNat_natCast] at h1
    unfold validKB at h1
    split at h1 <;> first | omega | cases h1
  · exact h2
theorem fmt7 (v : Av) (d : Ad) (w : World) (h : Reads w w.heap.size v d) (hn : v.n ≤ 1000) (hn2 : v.n2 ≤ 1000) (hnm : v.nm.size ≤ 1000) (hmt : v.mt.size ≤ 1000) (hw : Wf d) :
    Calls Tryz.prog 7 #[.agg v.cells] w fun e w' => e = .returned (.string ⟨(fmtL d).toArray⟩) ∧ Below w.heap.size w w' := by
  unfold fmtL
  by_cases hv : validB d = true
  · rw [if_pos hv]
    obtain ⟨q, hq15, hq⟩ := validB_kind hv
    have hk : v.k = (q : Int) := h.k.trans hq
    rw [hq, Int.toNat_natCast]
    obtain rfl | rfl | rfl | rfl | rfl | rfl | rfl | rfl | rfl | rfl | rfl | rfl | rfl | rfl | rfl | rfl : q = 0 ∨ q = 1 ∨ q = 2 ∨ q = 3 ∨ q = 4 ∨ q = 5 ∨ q = 6 ∨ q = 7 ∨ q = 8 ∨ q = 9 ∨ q = 10 ∨ q = 11 ∨ q = 12 ∨ q = 13 ∨ q = 14 ∨ q = 15 := by omega
    · exact fmt7_0 v d w h hn hn2 hnm hmt hw hk hv
    · exact fmt7_1 v d w h hn hn2 hnm hmt hw hk hv
    · exact fmt7_2 v d w h hn hn2 hnm hmt hw hk hv
    · exact fmt7_3 v d w h hn hn2 hnm hmt hw hk hv
    · exact fmt7_4 v d w h hn hn2 hnm hmt hw hk hv
    · exact fmt7_5 v d w h hn hn2 hnm hmt hw hk hv
    · exact fmt7_6 v d w h hn hn2 hnm hmt hw hk hv
    · exact fmt7_7 v d w h hn hn2 hnm hmt hw hk hv
    · exact fmt7_8 v d w h hn hn2 hnm hmt hw hk hv
    · exact fmt7_9 v d w h hn hn2 hnm hmt hw hk hv
    · exact fmt7_10 v d w h hn hn2 hnm hmt hw hk hv
    · exact fmt7_11 v d w h hn hn2 hnm hmt hw hk hv
    · exact fmt7_12 v d w h hn hn2 hnm hmt hw hk hv
    · exact fmt7_13 v d w h hn hn2 hnm hmt hw hk hv
    · exact fmt7_14 v d w h hn hn2 hnm hmt hw hk hv
    · exact fmt7_15 v d w h hn hn2 hnm hmt hw hk hv
  · rw [if_neg hv]
    exact fmt7_no v d w h hn hn2 hnm hmt (by simpa using hv)
end Go.Proofs.YtoejjboanggenaaGreatDoor
