/-
Contract of the reference's ParseAct.
-/
import Derived.Test.YtoejjboanggenaaGreatDoorRB2
import Derived.Test.YtoejjboanggenaaGreatDoorRA
import Derived.Test.YtoejjboanggenaaGreatDoorRR2
import Derived.Deep.DeepCutAuto
import Derived.Deep.RegionWith
namespace Go.Proofs.YtoejjboanggenaaGreatDoor
open Go.RowKit
set_option linter.unusedVariables false
set_option linter.unusedSimpArgs false

/-- the kind that the first i words give. -/
def kindTo (w0 : ByteArray) : Nat → Int
  | 0 => -1
  | i + 1 => if wordsL[i]? = some w0 then (i : Int) else kindTo w0 i
theorem kindTo_range (w0 : ByteArray) : ∀ i, -1 ≤ kindTo w0 i ∧ kindTo w0 i < i
  | 0 => ⟨by simp [kindTo], by simp [kindTo]⟩
  | i + 1 => by
    have := kindTo_range w0 i
    unfold kindTo
    split <;> omega
theorem wordsL_forms : wordsL = formsFD.map FD.word := by kernel_rfl
theorem kindTo_form {q : Nat} {fd : FD} (h : formsFD[q]? = some fd) : ∀ i, i ≤ 16 → kindTo fd.word i = if q < i then (q : Int) else -1
  | 0, _ => by simp [kindTo]
  | i + 1, hi => by
    have ih := kindTo_form h i (by omega)
    have hq : q < 16 := (List.getElem?_eq_some_iff.1 h).1
    unfold kindTo
    by_cases hiq : i = q
    · subst hiq
      rw [if_pos (by rw [wordsL_forms, List.getElem?_map, h]; rfl), if_pos (by omega)]
    · obtain ⟨fd', h1, _⟩ := forms_at (by omega : i < 16)
      rw [if_neg, ih]
      · by_cases h2 : q < i
        · rw [if_pos h2, if_pos (by omega)]
        · rw [if_neg h2, if_neg (by omega)]
      · rw [wordsL_forms, List.getElem?_map, h1]
        simp only [Option.map_some, Option.some.injEq]
        rcases Nat.lt_or_ge i q with h2 | h2
        · exact words_apart h1 h h2
        · exact (words_apart h h1 (by omega)).symm
theorem Row.cutK {w : World} {B b off n c k : Nat} {pre cs : List Value} (h : Row w B (some ⟨b, off, none⟩) (k + n) (pre ++ cs)) (hp : pre.length = k) (hc : k + n ≤ c) :
    Row w B (if c = k then some ⟨b, off, none⟩ else some ⟨b, off + k, none⟩) n cs := by
  have hl : cs.length = n := by
    have := h.1
    rw [List.length_append, hp] at this
    omega
  refine ⟨hl, fun h0 => ?_⟩
  obtain ⟨b', off', h1, h2, h3⟩ := h.2 (by omega)
  simp only [Option.some.injEq, Addr.mk.injEq, and_true] at h1
  obtain ⟨rfl, rfl⟩ := h1
  rw [if_neg (by omega)]
  refine ⟨b, off + k, rfl, h2, fun j u hu => ?_⟩
  rw [Nat.add_assoc]
  refine h3 (k + j) u ?_
  rw [List.getElem?_append_right (by omega), hp, Nat.add_sub_cancel_left]
  exact hu
theorem Strs.cutK {w : World} {B b off n c k : Nat} {pre ss : List ByteArray} (h : Strs w B (some ⟨b, off, none⟩) (k + n) (pre ++ ss)) (hp : pre.length = k) (hc : k + n ≤ c) :
    Strs w B (if c = k then some ⟨b, off, none⟩ else some ⟨b, off + k, none⟩) n ss := by
  unfold Strs at *
  rw [List.map_append] at h
  exact Row.cutK h (by simpa using hp) hc
theorem Ints.cutK {w : World} {B b off n c k : Nat} {pre zs : List Int} (h : Ints w B (some ⟨b, off, Option.none⟩) (k + n) (pre ++ zs)) (hp : pre.length = k) (hc : k + n ≤ c) :
    Ints w B (if c = k then some ⟨b, off, Option.none⟩ else some ⟨b, off + k, Option.none⟩) n zs := by
  unfold Ints at *
  rw [List.map_append] at h
  exact Row.cutK h (by simpa using hp) hc
def RefPost (s : ByteArray) (w : World) (e : Ending) (w' : World) : Prop :=
  ∃ (v : Av) (a : Ad) (code : Int), e = .returned (.tuple #[.agg v.cells, .int .i64 code]) ∧ Reads w' w'.heap.size v a ∧ v.n ≤ 1000000 ∧ v.n2 ≤ 1000000 ∧ Below w.heap.size w w' ∧
    ((code = 0 ∧ validB a = true ∧ fmtL a = s.data.toList) ∨ (code = 3 ∧ a = zeroAd 0 ∧ ∀ d, validB d = true → fmtL d = s.data.toList → False))
theorem RefPost.no {s : ByteArray} {w W : World} (hb : Below w.heap.size w W) (hno : ∀ d, validB d = true → fmtL d = s.data.toList → False) : RefPost s w (.returned (.tuple #[.agg (vOf (zeroAd 0)).cells, .int .i64 3])) W :=
  ⟨vOf (zeroAd 0), zeroAd 0, 3, rfl, vOf_reads rfl rfl, Nat.zero_le _, Nat.zero_le _, hb, .inr ⟨rfl, rfl, hno⟩⟩
theorem RefPost.yes {s : ByteArray} {w W : World} {R M : Nat} {v : Av} {a : Ad} (hr : Reads W W.heap.size v a) (hap : v.apart M) (hRM : R < M) (hn : v.n ≤ 1000000) (hn2 : v.n2 ≤ 1000000)
    (hb : Below w.heap.size w (((((((W.setCell ⟨R, 0, none⟩ (.int .i64 v.k)).setCell ⟨R, 1, none⟩ (.int .i64 v.a)).setCell ⟨R, 2, none⟩ (.int .i64 v.b)).setCell ⟨R, 3, none⟩ (.string v.nm)).setCell ⟨R, 4, none⟩ (.string v.mt)).setCell ⟨R, 5, none⟩ (.slice v.A v.n v.c)).setCell ⟨R, 6, none⟩ (.slice v.A2 v.n2 v.c2)))
    (hv : validB a = true) (hf : fmtL a = s.data.toList) :
    RefPost s w (.returned (.tuple #[.agg v.cells, .int .i64 0])) (((((((W.setCell ⟨R, 0, none⟩ (.int .i64 v.k)).setCell ⟨R, 1, none⟩ (.int .i64 v.a)).setCell ⟨R, 2, none⟩ (.int .i64 v.b)).setCell ⟨R, 3, none⟩ (.string v.nm)).setCell ⟨R, 4, none⟩ (.string v.mt)).setCell ⟨R, 5, none⟩ (.slice v.A v.n v.c)).setCell ⟨R, 6, none⟩ (.slice v.A2 v.n2 v.c2)) := by
  refine ⟨v, a, 0, rfl, ?_, hn, hn2, hb, .inl ⟨rfl, hv, hf⟩⟩
  have h9 := hr.other hap hRM (fun b hb => set7_heap (w := W) (.int .i64 v.k) (.int .i64 v.a) (.int .i64 v.b) (.string v.nm) (.string v.mt) (.slice v.A v.n v.c) (.slice v.A2 v.n2 v.c2) hb)
  simpa using h9
set_option maxRecDepth 100000 in
set_option maxHeartbeats 64000000 in
theorem ref11 (s : ByteArray) (w : World) (hs : s.size ≤ 100000) : Calls Tryz.prog 11 #[.string s] w (RefPost s w) := by
  go_enter Tryz.func11, Tryz.ntmps11
  go_upto_region 1 with fail
  have hr0 := Blk.new w 25 (vOf (zeroAd 0)).cells
  have hb0 : Below w.heap.size w (w.alloc (.cells (vOf (zeroAd 0)).cells 25)) := (Below.refl _ _).alloc (Nat.le_refl _) _
  rw [show (#[.int .i64 0, .int .i64 0, .int .i64 0, .string ⟨#[]⟩, .string ⟨#[]⟩, .slice none 0 0, .slice none 0 0] : Array Value) = (vOf (zeroAd 0)).cells from rfl]
  generalize w.alloc (.cells (vOf (zeroAd 0)).cells 25) = W0 at hr0 hb0 ⊢
  have hlt0 := hr0.lt
  have zb0 := hb0.size
  obtain ⟨R, hR⟩ : ∃ R, w.heap.size = R := ⟨_, rfl⟩
  rw [hR] at hr0 hlt0 ⊢
  have HL := Lib.hid hR
  have QR := Lib.hid hr0
  have B0 := Lib.hid hb0
  clear hR hr0 hb0
  go_wp2_with fail
  refine (split25 s _ hs).mono ?_
  rintro e w2 ⟨A, c, rfl, hcap, hst, b2⟩
  obtain ⟨w0, wt, hws⟩ : ∃ w0 wt, wordsOf s = w0 :: wt := by
    have hwl := wordsOf_len s
    cases h : wordsOf s with
    | nil => rw [h] at hwl; simp at hwl
    | cons a b => exact ⟨a, b, rfl⟩
  obtain ⟨nw, hnw⟩ : ∃ nw, (wordsOf s).length = nw := ⟨_, rfl⟩
  rw [hnw] at hst hcap ⊢
  rw [hws] at hst
  have hnw2 : nw = wt.length + 1 := by rw [← hnw, hws]; rfl
  obtain ⟨bw, ow, rfl, _⟩ := strs_cons hst
  have HST := Lib.hid hst
  have QR2 := Lib.hid (QR.out.below b2 hlt0)
  have B2 := Lib.hid (B0.out.trans (b2.mono zb0))
  have hs2 := b2.size
  have HWS := Lib.hid (And.intro hnw hws)
  have HX := Lib.hid (show ∀ d, validB d = true → fmtL d = s.data.toList → kindTo w0 16 = d.k ∧ preK d.k wt = (d.nm, d.mt, (numsK d).map istr) ∧ finK d.k d.nm d.mt (numsK d) = d ∧ ∀ z ∈ numsK d, Small z from fun d hv hd => by
    obtain ⟨f, hf, hok⟩ := valid_form hv
    have h1 := words_fmt hf hok
    have h2 : (⟨(fmtL d).toArray⟩ : ByteArray) = s := Go.WideShapes.bytes_inj (by simpa using hd)
    rw [h2, hws] at h1
    unfold textW at h1
    simp only [List.cons.injEq] at h1
    obtain ⟨rfl, rfl⟩ := h1
    refine ⟨?_, ref_text d f hf hok⟩
    have h3 := formsAt_idx hf
    have h4 := formAt_some hf
    rw [kindTo_form h3 16 (Nat.le_refl _), if_pos (by omega)]
    omega)
  clear hws hnw hst b2 QR B0
  go_upto_region 3 with fail
  have hm0 := Blk.new w2 25 (vOf (zeroAd (-1))).cells
  have b3 : Below w2.heap.size w2 (w2.alloc (.cells (vOf (zeroAd (-1))).cells 25)) := (Below.refl _ _).alloc (Nat.le_refl _) _
  rw [show (#[.int .i64 (-1), .int .i64 0, .int .i64 0, .string ⟨#[]⟩, .string ⟨#[]⟩, .slice none 0 0, .slice none 0 0] : Array Value) = (vOf (zeroAd (-1))).cells from rfl]
  generalize w2.alloc (.cells (vOf (zeroAd (-1))).cells 25) = w3 at hm0 b3 ⊢
  have QR3 := Lib.hid (QR2.out.below b3 QR2.out.lt)
  have HST3 := Lib.hid (HST.out.below b3)
  have B3 := Lib.hid (B2.out.trans (b3.mono B2.out.size))
  have hR2 := QR2.out.lt
  obtain ⟨M, hM⟩ : ∃ M, w2.heap.size = M := ⟨_, rfl⟩
  rw [hM] at hm0 HST3 hs2 hR2 ⊢
  have hMw := hm0.lt
  have QM := Lib.hid hm0
  clear b3 hm0 hM QR2 HST B2
  go_wp2_with fail
  go_loopw [6] (fun i wr => ∃ k : Nat, k ≤ 16 ∧ i = .int .i64 k ∧ Hid (Blk wr M 25 (vOf (zeroAd (kindTo w0 k))).cells) ∧ Hid (Below M w3 wr)) (fun i _ => 16 - (intOf i).toNat)
  case atStart => exact ⟨0, Nat.zero_le _, rfl, QM, Lib.hid (Below.refl _ _)⟩
  case round =>
    clear QM
    obtain ⟨k, hk, rfl, HM, HB⟩ := hrel
    by_cases hlt : k < 16
    · obtain ⟨x, hx⟩ : ∃ x, wordsL[k]? = some x := ⟨_, List.getElem?_eq_getElem (by show k < wordsL.length; exact hlt)⟩
      have HXW := Lib.hid hx
      have hk0 : 0 ≤ (k : Int) := by omega
      have hk1 : (k : Int) < 16 := by omega
      clear hx
      obtain ⟨bq, hbq⟩ : ∃ b : Bool, (x.toList == w0.toList) = b := ⟨_, rfl⟩
      have HBQ := Lib.hid hbq
      go_upto_region 6 with (refine (words14 _).mono ?_; rintro e w4 ⟨rfl, hw4⟩)
      have b4 : Below wr.heap.size wr w4 := by rw [← hw4]; exact (Below.refl _ _).alloc (Nat.le_refl _) _
      have hbwM : bw < M := (HST3.out.2 (by omega)).elim fun _ h => by obtain ⟨_, h1, h2, _⟩ := h; cases h1; exact h2
      have cw4 : w4.cell? ⟨bw, ow, none⟩ = some (.string w0) := by
        obtain ⟨b, off, s', h1, h2, h3, h4⟩ := HST3.out.at_ (k := 0) (by omega)
        cases h1
        cases h3
        rw [cells_below b4 (by have := HM.out.lt; omega), cells_below HB.out hbwM]
        exact h4
      have hM4 : M < w4.heap.size := Nat.lt_of_lt_of_le HM.out.lt b4.size
      have HM4 := Lib.hid (HM.out.below b4 HM.out.lt)
      have HB4 := Lib.hid (HB.out.trans (b4.mono (Nat.le_of_lt HM.out.lt)))
      have hbw4 : bw < w4.heap.size := by omega
      have hnz : (0 : Int) < (nw : Int) := by omega
      have hkk : Below w4.heap.size w4 w4 := Below.refl _ _
      clear hw4 b4 HM HB
      go_cut [26] (fun v U => v = .bool bq ∧ Below w4.heap.size w4 U)
      case first =>
        go_region_with ((go_at_call 14
                         refine (words14 _).mono ?_
                         rintro e w5 ⟨rfl, hw5⟩
                         have hk5 : Below w4.heap.size w4 w5 := by rw [← hw5]; exact hkk.drew.alloc (Nat.le_refl _) _
                         have cw5 : w5.cell? ⟨bw, ow, none⟩ = some (.string w0) := (cells_below hk5 hbw4 ow).trans cw4
                         have hwc : w5.cell? ⟨w4.heap.size, k, none⟩ = some (.string x) := by rw [← hw5]; exact (Blk.cell (Blk.new w4.drew 9 (wordsL.map Value.string).toArray) k).trans (by simp [HXW.out])
                         clear hw5))
        all_goals
          go_wp2_with fail
          go_meet
          exact ⟨rfl, hk5⟩
      case rest =>
      obtain ⟨rfl, hkk2⟩ := hcut
      have HMc := Lib.hid (HM4.out.below hkk2 hM4)
      have HBc := Lib.hid (HB4.out.trans (hkk2.mono (Nat.le_of_lt hM4)))
      clear hkk2 hkk HM4 HB4 cw4 hbq
      cases bq with
      | true =>
        have HK := Lib.hid (show kindTo w0 (k + 1) = k from by
          show (if wordsL[k]? = some w0 then (k : Int) else kindTo w0 k) = k
          rw [HXW.out, ba_ext (eq_of_beq HBQ.out), if_pos rfl])
        have c0 : wc.cell? ⟨M, 0, none⟩ = some (.int .i64 (kindTo w0 k)) := HMc.out.cell 0
        have f0 := HMc.out.frozen 0
        go_wp2_with fail
        go_roundw
        case rel => exact ⟨k + 1, by omega, by go_num, Lib.hid (by rw [HK.out]; exact HMc.out.set 0 (.int .i64 k)), Lib.hid (HBc.out.setCell (p := ⟨M, 0, none⟩) (Nat.le_refl M) (.int .i64 k))⟩
        case measure => simp [intOf]; omega
      | false =>
        have HK := Lib.hid (show kindTo w0 (k + 1) = kindTo w0 k from by
          show (if wordsL[k]? = some w0 then (k : Int) else kindTo w0 k) = _
          rw [HXW.out, if_neg (fun e => by
            rw [Option.some.inj e] at HBQ
            exact absurd HBQ.out (by simp))])
        go_wp2_with fail
        go_roundw
        case rel => exact ⟨k + 1, by omega, by go_num, Lib.hid (by rw [HK.out]; exact HMc.out), HBc⟩
        case measure => simp [intOf]; omega
    · obtain rfl : k = 16 := by omega
      rw [show ((16 : Nat) : Int) = 16 from rfl]
      go_wp2_with fail
      refine (words14 _).mono ?_
      rintro e w4 ⟨rfl, hw4⟩
      have b4 : Below wr.heap.size wr w4 := by rw [← hw4]; exact (Below.refl _ _).alloc (Nat.le_refl _) _
      have HM4 := Lib.hid (HM.out.below b4 HM.out.lt)
      have HB4 := Lib.hid (HB.out.trans (b4.mono (Nat.le_of_lt HM.out.lt)))
      clear hw4 b4 HM HB
      generalize wr.heap.size = gW
      obtain ⟨wr, rfl⟩ : ∃ wr : World, wr = w4 := ⟨_, rfl⟩
      obtain ⟨HM, rfl⟩ : ∃ h : Hid (Blk wr M 25 (vOf (zeroAd (kindTo w0 16))).cells), h = HM4 := ⟨_, rfl⟩
      obtain ⟨HB, rfl⟩ : ∃ h : Hid (Below M w3 wr), h = HB4 := ⟨_, rfl⟩
      have hkr := kindTo_range w0 16
      obtain ⟨K, hK⟩ : ∃ K, kindTo w0 16 = K := ⟨_, rfl⟩
      have HX2 := Lib.hid (show ∀ d, validB d = true → fmtL d = s.data.toList → K = d.k ∧ preK d.k wt = (d.nm, d.mt, (numsK d).map istr) ∧ finK d.k d.nm d.mt (numsK d) = d ∧ ∀ z ∈ numsK d, Small z from fun d h1 h2 => hK ▸ HX.out d h1 h2)
      rw [hK] at HM hkr
      have hcz : (1 : Int) ≤ (c : Int) := by omega
      have hnz : (1 : Int) ≤ (nw : Int) := by omega
      have hnc : (nw : Int) ≤ (c : Int) := by omega
      have HS3 : Strs w3 M (some ⟨bw, ow, none⟩) (wt.length + 1) (w0 :: wt) := by rw [← hnw2]; exact HST3.out
      have hcut := HS3.cut (c := c) (by omega)
      unfold cutA at hcut
      obtain ⟨A4, hA4⟩ : ∃ A4, (if c = 1 then some (⟨bw, ow, none⟩ : Addr) else some ⟨bw, ow + 1, none⟩) = A4 := ⟨_, rfl⟩
      rw [hA4] at hcut
      have HST4 := Lib.hid (hcut.below HB.out)
      have HWZ := Lib.hid (show ∀ x ∈ wt, x.size ≤ 1000000 from fun x hx => Nat.le_trans (words_short HWS.out.2 x hx) (by omega))
      have hwt : wt.length ≤ 1000000 := by
        have h1 := wordsOf_len s
        have h2 := Lib.countB_le ⟨#[32]⟩ (by decide) s.size s (Nat.le_refl _)
        rw [HWS.out.2] at h1
        simp only [List.length_cons] at h1
        omega
      have hwM : w.heap.size ≤ M := by have := HL.out; omega
      have hn1 : nw - 1 = wt.length := by omega
      clear hK HX hcut HS3
      go_upto_region 9 with fail
      clear hA4 hn1
      have c0 : wr.cell? ⟨M, 0, none⟩ = some (.int .i64 K) := HM.out.cell 0
      by_cases k11 : K = 11
      · skip
        subst k11
        by_cases h3 : 3 ≤ wt.length
        · obtain ⟨y1, n1, n2, wt', rfl⟩ : ∃ y1 n1 n2 wt', wt = y1 :: n1 :: n2 :: wt' := by
            match wt, h3 with
            | a :: b :: c :: l, _ => exact ⟨a, b, c, l, rfl⟩
          obtain ⟨wt, rfl⟩ : ∃ wt, wt = wt' := ⟨_, rfl⟩
          clear h3
          have HREST := Lib.hid (show ∀ d, validB d = true → fmtL d = s.data.toList → 11 = d.k ∧ y1 :: wt = (numsK d).map istr ∧ (∀ z ∈ numsK d, Small z) ∧ finK 11 n1 n2 (numsK d) = d from fun d y1 y2 => by
            obtain ⟨g1, g2, g3, g4⟩ := HX2.out d y1 y2
            rw [← g1] at g2 g3
            simp [preK] at g2
            obtain ⟨e1, e2, e3⟩ := g2
            rw [← e1, ← e2] at g3
            exact ⟨g1, by first | exact e3 | simpa using e3, g4, g3⟩)
          have HNM := Lib.hid (show n1.size ≤ 1000000 ∧ n2.size ≤ 1000000 from ⟨HWZ.out n1 (by simp), HWZ.out n2 (by simp)⟩)
          have HWZ2 := Lib.hid (show ∀ x ∈ y1 :: wt, x.size ≤ 1000000 from fun x hx => HWZ.out x (by rcases List.mem_cons.1 hx with h | h <;> simp [h]))
          have HWZ1 := HWZ
          obtain ⟨b4, o4, rfl, _⟩ := strs_cons HST4.out
          have hb4 : b4 < M := (HST4.out.2 (by simp)).elim fun _ h => by obtain ⟨_, h1, h2, _⟩ := h; cases h1; exact h2
          have hb4M : M ≠ b4 := by omega
          have cn0 : wr.cell? ⟨b4, o4, none⟩ = some (.string y1) := by
            obtain ⟨b, off, s', h1, h2, h3, h4⟩ := HST4.out.at_ (k := 0) (by simp)
            cases h1
            cases h3
            exact h4
          have cn1 : wr.cell? ⟨b4, o4 + 1, none⟩ = some (.string n1) := by
            obtain ⟨b, off, s', h1, h2, h3, h4⟩ := HST4.out.at_ (k := 1) (by simp)
            cases h1
            cases h3
            exact h4
          have cn2 : wr.cell? ⟨b4, o4 + 2, none⟩ = some (.string n2) := by
            obtain ⟨b, off, s', h1, h2, h3, h4⟩ := HST4.out.at_ (k := 2) (by simp)
            cases h1
            cases h3
            exact h4
          obtain ⟨c4, hc4⟩ : ∃ c4, c - 1 = c4 := ⟨_, rfl⟩
          obtain ⟨n4, hn4⟩ : ∃ n4, (y1 :: n1 :: n2 :: wt).length = n4 := ⟨_, rfl⟩
          rw [hc4, hn4]
          have hn4' : n4 = wt.length + 3 := by rw [← hn4]; rfl
          have hc4' : n4 ≤ c4 := by omega
          have hwt2 : wt.length ≤ 1000000 := by omega
          have hcut : Strs wr M (if c4 = 3 then some ⟨b4, o4, none⟩ else some ⟨b4, o4 + 3, none⟩) wt.length wt := Strs.cutK (k := 3) (pre := [y1, n1, n2]) (by have := HST4.out; rw [hn4, hn4', Nat.add_comm] at this; exact this) rfl (by omega)
          obtain ⟨A5, hA5⟩ : ∃ A5, (if c4 = 3 then some (⟨b4, o4, none⟩ : Addr) else some ⟨b4, o4 + 3, none⟩) = A5 := ⟨_, rfl⟩
          obtain ⟨c5, hc5⟩ : ∃ c5, c4 - 3 = c5 := ⟨_, rfl⟩
          rw [hA5] at hcut
          have HS5 := Lib.hid hcut
          have hn5 : n4 - 3 = wt.length := by omega
          have hcc5 : wt.length ≤ c5 := by omega
          have hi1 : (3 : Int) ≤ (n4 : Int) := by omega
          have hi2 : (n4 : Int) ≤ (c4 : Int) := by omega
          have hi3 : (3 : Int) ≤ (c4 : Int) := by omega
          have hx0 : (0 : Int) < (n4 : Int) := by omega
          have hx1 : (1 : Int) < (n4 : Int) := by omega
          have hx2 : (2 : Int) < (n4 : Int) := by omega
          clear hcut hc4 hn4 hn4' hc4' hcz hnz hnc
          have m3 : wr.cell? ⟨M, 3, none⟩ = some (.string ⟨#[]⟩) := HM.out.cell 3
          have f3 := HM.out.frozen 3
          have m4 : wr.cell? ⟨M, 4, none⟩ = some (.string ⟨#[]⟩) := HM.out.cell 4
          have f4 := HM.out.frozen 4
          have cy0 : ((wr.setCell ⟨M, 3, none⟩ (.string n1)).setCell ⟨M, 4, none⟩ (.string n2)).drew.cell? ⟨b4, o4, none⟩ = some (.string y1) := (cells_below ((((Below.refl M wr).setCell (p := ⟨M, 3, none⟩) (Nat.le_refl M) (.string n1)).setCell (p := ⟨M, 4, none⟩) (Nat.le_refl M) (.string n2)).drew) hb4 o4).trans cn0
          go_upto_region 10 with fail
          go_cut [41, 52, 55] (fun v a b U => v = .string n1 ∧ a = undef ∧ b = undef ∧ U = ((wr.setCell ⟨M, 3, none⟩ (.string n1)).setCell ⟨M, 4, none⟩ (.string n2)).drew)
          case first =>
            go_region_with (fail)
            all_goals
              go_wp2_with fail
              go_meet
              exact ⟨rfl, rfl, rfl, rfl⟩
          case rest =>
          obtain ⟨rfl, rfl, rfl, rfl⟩ := hcut
          have CY := Lib.hid cy0
          clear cy0
          have HM6 := Lib.hid ((HM.out.set 3 (.string n1)).set 4 (.string n2)).drew
          have HB6 := Lib.hid ((HB.out.setCell (p := ⟨M, 3, none⟩) (Nat.le_refl M) (.string n1)).setCell (p := ⟨M, 4, none⟩) (Nat.le_refl M) (.string n2)).drew
          have HST6 := Lib.hid (HS5.out.below (((Below.refl M wr).setCell (p := ⟨M, 3, none⟩) (Nat.le_refl M) (.string n1)).setCell (p := ⟨M, 4, none⟩) (Nat.le_refl M) (.string n2)).drew)
          generalize ((wr.setCell ⟨M, 3, none⟩ (.string n1)).setCell ⟨M, 4, none⟩ (.string n2)).drew = wx at CY HM6 HB6 HST6 ⊢
          clear HM HB HST4 c0 HS5
          have c0 : wx.cell? ⟨M, 0, none⟩ = some (.int .i64 11) := HM6.out.cell 0
          have cy1 := CY.out
          clear CY
          go_upto_region 11 with fail
          obtain ⟨o5, rfl⟩ : ∃ o5, A5 = some ⟨b4, o5, none⟩ := by rw [← hA5]; split <;> exact ⟨_, rfl⟩
          obtain ⟨i0, hi, hz0, hz1, hz2⟩ := info_parts info9
          have HI := Lib.hid (And.intro hi (And.intro hz0 (And.intro hz1 hz2)))
          have hMx := HM6.out.lt
          have hwt3 := hwt2
          clear hi hz0 hz1 hz2 hwt2
          refine wp_region_facts3 (fun xs => { tmps := #[.string s, undef, .pointer (some ⟨R, 0, none⟩), .int .i64 0, xs 9, .pointer (some ⟨M, 0, none⟩), .int .i64 16, undef, undef, undef, u10, u11, u12, u13, u14, u15, u16, u17, u18, u19, u20, u21, u22, u23, u24, u25, u26, u27, u28, u29, u30, u31, u32, u33, u34, u35, u36, u37, u38, u39, u40, .string n1, u42, u43, u44, u45, u46, xs 0, xs 1, xs 2, xs 3, xs 4, xs 5, xs 6, xs 7, xs 8, u56, u57, u58, u59, u60, u61, u62, u63, u64, u65, u66, u67, u68, u69, u70, u71, u72, u73, u74, u75, u76, u77, u78, u79, u80, u81, u82, u83, u84, u85, u86, u87, u88, u89, u90, u91, u92, u93, u94, u95, u96, undef, u98, u99, u100, u101, u102, u103, u104, u105, u106, u107, u108, u109, u110, u111, undef, u113, u114, u115, undef, u117, u118, u119, u120, u121, u122, u123, u124, u125, u126, u127, undef, u129, u130, u131, u132, u133, u134, u135, u136, u137, u138, u139, u140, u141, u142, u143, u144, u145, u146, u147, u148, u149, u150, undef, u152, u153, u154, u155, u156, u157, u158, u159, u160, u161, u162, u163, u164, u165, u166, u167, u168, u169, u170], defers := [] }) (fun j => if j = 0 then u47 else if j = 1 then u48 else if j = 2 then u49 else if j = 3 then u50 else if j = 4 then u51 else if j = 5 then undef else if j = 6 then u53 else if j = 7 then u54 else if j = 8 then undef else if j = 9 then .slice (some ⟨b4, o4, none⟩) n4 c4 else undef) (fun xs W => Below wx.heap.size wx W) (F11 wx.heap.size b4 o4 n4 c4 o5 wt.length c5 y1 (wt.map Value.string)) dep11 (by kernel_rfl) (by kernel_rfl) ?_ rfl (Below.refl _ _).drew ?_ ?_
          · intro k i hk hd
            unfold dep11 at hd
            simp only [Bool.and_eq_true, Bool.or_eq_true, beq_iff_eq] at hd
            obtain ⟨rfl, rfl | rfl⟩ | ⟨rfl, rfl⟩ := hd <;> kernel_rfl
          · intro i hi xs W hJ hxi hun hd
            obtain rfl | rfl | rfl | rfl | rfl | rfl | rfl | rfl | rfl | rfl : i = 0 ∨ i = 1 ∨ i = 2 ∨ i = 3 ∨ i = 4 ∨ i = 5 ∨ i = 6 ∨ i = 7 ∨ i = 8 ∨ i = 9 := by
              have : i < 10 := hi
              omega
            · have hb : Below W.heap.size W (W.alloc (.cells #[] 9)) := (Below.refl _ _).alloc (Nat.le_refl _) _
              have ho : (W.alloc (.cells #[] 9)).ownsRow wx.heap.size 9 1 (.slice (some ⟨W.heap.size, 0, none⟩) 0 0) 0 [] := World.ownsRow_made W #[] 0 hJ.size (Nat.zero_le _) rfl
              have HB := Lib.hid hb
              have HO := Lib.hid ho
              clear hb ho
              refine wpOp_step rfl fun K hK => ?_
              go_simp
              exact hK _ _ ⟨.slice (some ⟨W.heap.size, 0, none⟩) 0 0, rfl, hJ.alloc hJ.size _, fun _ => HO.out, fun k hk _ h => F11.keep (by decide) (by decide) HB.out _ k hk h⟩
            · have e9 : xs 9 = .slice (some ⟨b4, o4, none⟩) n4 c4 := hun 9 (by kernel_rfl)
              refine wpOp_step rfl fun K hK => ?_
              go_simp
              exact hK _ _ ⟨.slice (some ⟨b4, o4, none⟩) n4 c4, by rw [← e9]; rfl, hJ, rfl, fun k hk _ h => F11.keep (by decide) (by decide) (Below.refl _ _) _ k hk h⟩
            · have e1 : xs 1 = .slice (some ⟨b4, o4, none⟩) n4 c4 := hd 1 (by kernel_rfl)
              have hz2 : 0 < n4 := by omega
              refine wpOp_step rfl fun K hK => ?_
              go_simp
              refine hK _ _ ⟨.pointer (some ⟨b4, o4, none⟩), ?_, hJ, rfl, fun k hk _ h => F11.keep (by decide) (by decide) (Below.refl _ _) _ k hk h⟩
              rw [← e1]
              rfl
            · have e2 : xs 2 = .pointer (some ⟨b4, o4, none⟩) := hd 2 (by kernel_rfl)
              have hc : W.cell? ⟨b4, o4, none⟩ = some (.string y1) := (cells_below hJ (by omega) o4).trans cy1
              refine wpOp_step rfl fun K hK => ?_
              go_simp
              exact hK _ _ ⟨.string y1, by rw [← e2]; rfl, hJ, rfl, fun k hk _ h => F11.keep (by decide) (by decide) (Below.refl _ _) _ k hk h⟩
            · have e3 : xs 3 = .string y1 := hd 3 (by kernel_rfl)
              have hb : Below W.heap.size W (W.alloc (.cells #[.string y1] 9)) := (Below.refl _ _).alloc (Nat.le_refl _) _
              have ho : (W.alloc (.cells #[.string y1] 9)).cell? ⟨W.heap.size, 0, none⟩ = some (.string y1) := (Blk.new W 9 #[.string y1]).cell 0
              have HB := Lib.hid hb
              have HO := Lib.hid ho
              clear hb ho
              refine wpOp_step rfl fun K hK => ?_
              go_simp
              exact hK _ _ ⟨.slice (some ⟨W.heap.size, 0, none⟩) 1 1, by rw [← e3]; rfl, hJ.alloc hJ.size _, fun _ => ⟨W.heap.size, rfl, HO.out, by simp⟩, fun k hk _ h => F11.keep (by decide) (by decide) HB.out _ k hk h⟩
            · have e5 : xs 5 = undef := hxi
              have h0 : W.ownsRow wx.heap.size 9 1 (xs 0) 0 [] := hd 0 (by kernel_rfl) e5
              have h4 : xs 5 = undef → ∃ g, xs 4 = .slice (some ⟨g, 0, none⟩) 1 1 ∧ W.cell? ⟨g, 0, none⟩ = some (.string y1) ∧ g < W.heap.size := hd 4 (by kernel_rfl)
              obtain ⟨g, e4, hc, _⟩ := h4 e5
              refine wpOp_step rfl fun K hK => ?_
              refine wp_append_own _ (.tmp 47) (.tmp 51) 39 rfl wx.heap.size 9 i0 _ 1 16 Tryz.underlying39 HI.out.1 HI.out.2.1 HI.out.2.2.1 HI.out.2.2.2 rfl (by decide) (xs 0) 0 [] rfl h0 ⟨g, 0, none⟩ 1 1 [.string y1] e4 rfl (fun j u hu => by
                rw [add_none, Nat.zero_add]
                match j, hu with
                | 0, hu => rw [hc]; exact hu) (by simp [Value.oneCell']) (by unfold maxLen; omega) (by omega) hJ.size ?_
              intro v' w' hown hgr _
              exact hK _ _ ⟨v', rfl, hJ.grown hgr hJ.size (fun q hq => (h0.lt q hq).1), ⟨own_def hown, fun _ => hown⟩, fun k hk hdk h => F11.keep5 (own_def hown) k hk (fun e => by subst e; cases hdk) (fun e => by subst e; cases hdk) h⟩
            · have e9 : xs 9 = .slice (some ⟨b4, o4, none⟩) n4 c4 := hun 9 (by kernel_rfl)
              refine wpOp_step rfl fun K hK => ?_
              go_simp
              exact hK _ _ ⟨.slice (some ⟨b4, o4, none⟩) n4 c4, by rw [← e9]; rfl, hJ, rfl, fun k hk _ h => F11.keep (by decide) (by decide) (Below.refl _ _) _ k hk h⟩
            · have e6 : xs 6 = .slice (some ⟨b4, o4, none⟩) n4 c4 := hd 6 (by kernel_rfl)
              refine wpOp_step rfl fun K hK => ?_
              go_simp
              exact hK _ _ ⟨.slice (some ⟨b4, o5, none⟩) wt.length c5, by rw [← e6]; rfl, hJ, rfl, fun k hk _ h => F11.keep (by decide) (by decide) (Below.refl _ _) _ k hk h⟩
            · have e8 : xs 8 = undef := hxi
              obtain ⟨h5, h5'⟩ : xs 5 ≠ undef ∧ (xs 8 = undef → W.ownsRow wx.heap.size 9 1 (xs 5) 1 [.string y1]) := hd 5 (by kernel_rfl)
              have h0 := h5' e8
              have e7 : xs 7 = .slice (some ⟨b4, o5, none⟩) wt.length c5 := hd 7 (by kernel_rfl)
              have hnw := Strs.news (HST6.out.below (hJ.mono (Nat.le_of_lt hMx)))
              refine wpOp_step rfl fun K hK => ?_
              refine wp_append_own _ (.tmp 52) (.tmp 54) 39 rfl wx.heap.size 9 i0 _ 1 16 Tryz.underlying39 HI.out.1 HI.out.2.1 HI.out.2.2.1 HI.out.2.2.2 rfl (by decide) (xs 5) 1 [.string y1] rfl h0 ⟨b4, o5, none⟩ wt.length c5 (wt.map Value.string) e7 (by simp) hnw (by simp [Value.oneCell']) (by unfold maxLen; omega) (by omega) hJ.size ?_
              intro v' w' hown hgr _
              exact hK _ _ ⟨v', rfl, hJ.grown hgr hJ.size (fun q hq => (h0.lt q hq).1), ⟨own_def hown, hown⟩, fun k hk hdk h => F11.keep8 (own_def hown) h5 k hk (fun e => by subst e; cases hdk) h⟩
            · have h8 : xs 8 ≠ undef ∧ W.ownsRow wx.heap.size 9 1 (xs 8) (1 + wt.length) (.string y1 :: wt.map Value.string) := hd 8 (by kernel_rfl)
              refine wpOp_step rfl fun K hK => ?_
              go_simp
              exact hK _ _ ⟨xs 8, rfl, hJ, h8.2, fun k hk _ h => F11.keep (by decide) (by decide) (Below.refl _ _) _ k hk h⟩
          · intro xs W hJ hall
            have h9 : W.ownsRow wx.heap.size 9 1 (xs 9) (1 + wt.length) (.string y1 :: wt.map Value.string) := hall 9 (by decide)
            obtain ⟨A6, c6, e6, hc6⟩ : ∃ A6 c6, xs 9 = .slice A6 (1 + wt.length) c6 ∧ 1 + wt.length ≤ c6 := by
              obtain ⟨A, c, ⟨h1, h2⟩ | ⟨_, h2⟩⟩ := slice_of_own h9
              · exact ⟨A, c, h1, h2⟩
              · omega
            rw [e6] at h9
            have HST7 := Lib.hid (show Strs W W.heap.size A6 (wt.length + 1) (y1 :: wt) from by
              have := Row.of_own h9 (by simp; omega)
              rw [Nat.add_comm] at this
              exact this)
            obtain ⟨n6, hn6⟩ : ∃ n6, (y1 :: wt).length = n6 := ⟨_, rfl⟩
            have hn6' : 1 + wt.length = n6 := by rw [← hn6]; simp; omega
            rw [show wt.length + 1 = n6 from by omega] at HST7
            dsimp only
            rw [e6, hn6']
            have HM7 := Lib.hid (HM6.out.below hJ hMx)
            have HB7 := Lib.hid (HB6.out.trans (hJ.mono (Nat.le_of_lt hMx)))
            have hwt9 : n6 ≤ 1000000 := by
              simp only [List.length_cons] at hwt
              omega
            clear hall e6 h9 hJ HM6 HB6 HST6 c0 cy1 hn6
            have c0 : W.cell? ⟨M, 0, none⟩ = some (.int .i64 11) := HM7.out.cell 0
            generalize xs 0 = q0
            generalize xs 1 = q1
            generalize xs 2 = q2
            generalize xs 3 = q3
            generalize xs 4 = q4
            generalize xs 5 = q5
            generalize xs 6 = q6
            generalize xs 7 = q7
            generalize xs 8 = q8
            have HC := Lib.hid (integers26 A6 n6 c6 (y1 :: wt) W HST7.out (by omega) HWZ2.out)
            go_wp2_with fail
            refine HC.out.mono ?_
            rintro e w5 ⟨A7, c7, zs, ok, rfl, hc7, hz, hzI, hzl, hfr, hzx, b5⟩
            have hMr := HM7.out.lt
            have HM5 := Lib.hid (HM7.out.below b5 hMr)
            have HB5 := Lib.hid (HB7.out.trans (b5.mono (Nat.le_of_lt hMr)))
            have hs5 := b5.size
            have HZ := Lib.hid hz
            have HFR := Lib.hid (show ∀ b o, A7 = some ⟨b, o, none⟩ → M < b from fun b o e => by have := hfr b o e; omega)
            have HZX := Lib.hid (show ∀ d, validB d = true → fmtL d = s.data.toList → ok = true ∧ zs = numsK d ∧ 11 = d.k ∧ finK 11 n1 n2 (numsK d) = d from fun d h1 h2 => by
              obtain ⟨g1, g2, g3, g4⟩ := HREST.out d h1 h2
              obtain ⟨g5, g6⟩ := hzx (numsK d) g3 g2
              exact ⟨g5, g6, g1, g4⟩)
            clear hz hfr hzx b5 HC HREST
            cases ok with
            | false =>
              have HNO := Lib.hid (show ∀ d, validB d = true → fmtL d = s.data.toList → False from fun d h1 h2 => absurd (HZX.out d h1 h2).1 (by decide))
              have QR5 := Lib.hid (QR3.out.below HB5.out hR2)
              have B5 := Lib.hid (B3.out.trans (HB5.out.mono hwM))
              have r0 : w5.cell? ⟨R, 0, none⟩ = some (.int .i64 0) := QR5.out.cell 0
              have r1 : w5.cell? ⟨R, 1, none⟩ = some (.int .i64 0) := QR5.out.cell 1
              have r2 : w5.cell? ⟨R, 2, none⟩ = some (.int .i64 0) := QR5.out.cell 2
              have r3 : w5.cell? ⟨R, 3, none⟩ = some (.string ⟨#[]⟩) := QR5.out.cell 3
              have r4 : w5.cell? ⟨R, 4, none⟩ = some (.string ⟨#[]⟩) := QR5.out.cell 4
              have r5 : w5.cell? ⟨R, 5, none⟩ = some (.slice none 0 0) := QR5.out.cell 5
              have r6 : w5.cell? ⟨R, 6, none⟩ = some (.slice none 0 0) := QR5.out.cell 6
              have f0 := QR5.out.frozen 0
              have f1 := QR5.out.frozen 1
              have f2 := QR5.out.frozen 2
              have f3 := QR5.out.frozen 3
              have f4 := QR5.out.frozen 4
              have f5 := QR5.out.frozen 5
              have f6 := QR5.out.frozen 6
              go_wp2_with fail
              (try simp only [Exit.inBlock, Exit.then])
              refine bodyPost_ret (results_row_tmp rfl _ _ R 25 _ _ rfl (Blk.set7 QR5.out) Tryz.underlying25 rfl (by kernel_rfl)) rfl ?_
              exact RefPost.no (below_set7 B5.out (by have := HL.out; omega) _ _ _ _ _ _ _) HNO.out
            | true =>
              have c0 : w5.cell? ⟨M, 0, none⟩ = some (.int .i64 11) := HM5.out.cell 0
              cases zs with
              | nil =>
                go_upto_region 41 with fail
                obtain ⟨vF, hvF⟩ : ∃ vF : Av, (⟨11, 0, 0, n1, n2, none, 0, 0, none, 0, 0⟩ : Av) = vF := ⟨_, rfl⟩
                obtain ⟨aF, haF⟩ : ∃ aF : Ad, (⟨11, 0, 0, n1, n2, [], []⟩ : Ad) = aF := ⟨_, rfl⟩
                have qf : Blk w5 M 25 vF.cells := by rw [← hvF]; exact HM5.out
                have bf : Below M w3 w5 := HB5.out
                have rf : Reads w5 w5.heap.size vF aF := by
                  rw [← hvF, ← haF]
                  exact ⟨rfl, rfl, rfl, rfl, rfl, Ints.none _ _, Ints.none _ _⟩
                have hvn : vF.n ≤ 1000000 := by rw [← hvF]; exact Nat.zero_le _
                have hvn2 : vF.n2 ≤ 1000000 := by rw [← hvF]; exact Nat.zero_le _
                have hap : vF.apart M := by rw [← hvF]; exact ⟨fun b o h => (by cases h), fun b o h => (by cases h)⟩
                have hnz : vF.nm.size ≤ 1000000 := by rw [← hvF]; exact HNM.out.1
                have hmz : vF.mt.size ≤ 1000000 := by rw [← hvF]; exact HNM.out.2
                have hdd : ∀ d, validB d = true → fmtL d = s.data.toList → aF = d := fun d h1 h2 => by
                  obtain ⟨_, g2, g3, g4⟩ := HZX.out d h1 h2
                  rw [← haF, ← g4, ← g2]
                  first | rfl | simp [finK]
                generalize w5 = wF at qf bf rf ⊢
                clear hvF haF HM5 HB5
                have QF := Lib.hid qf
                have RF := Lib.hid rf
                have BF := Lib.hid (B3.out.trans (bf.mono hwM))
                have QRF := Lib.hid (QR3.out.below bf hR2)
                have hMF := qf.lt
                have HAP := Lib.hid hap
                have HDD := Lib.hid hdd
                have H9 := Lib.hid (valid9 vF aF wF rf hvn hvn2 hnz hmz)
                clear qf bf rf hap hdd
                have c0 : wF.cell? ⟨M, 0, none⟩ = some (.int .i64 vF.k) := QF.out.cell 0
                have c1 : wF.cell? ⟨M, 1, none⟩ = some (.int .i64 vF.a) := QF.out.cell 1
                have c2 : wF.cell? ⟨M, 2, none⟩ = some (.int .i64 vF.b) := QF.out.cell 2
                have c3 : wF.cell? ⟨M, 3, none⟩ = some (.string vF.nm) := QF.out.cell 3
                have c4 : wF.cell? ⟨M, 4, none⟩ = some (.string vF.mt) := QF.out.cell 4
                have c5 : wF.cell? ⟨M, 5, none⟩ = some (.slice vF.A vF.n vF.c) := QF.out.cell 5
                have c6 : wF.cell? ⟨M, 6, none⟩ = some (.slice vF.A2 vF.n2 vF.c2) := QF.out.cell 6
                go_wp2_with fail
                refine H9.out.mono ?_
                rintro e w8 ⟨rfl, b8⟩
                have QF8 := Lib.hid (QF.out.below b8 hMF)
                have QR8 := Lib.hid (QRF.out.below b8 QRF.out.lt)
                have B8 := Lib.hid (BF.out.trans (b8.mono BF.out.size))
                have RF8 := Lib.hid ((RF.out.below b8).more b8.size)
                have hM8 := QF8.out.lt
                clear b8 H9 c0 c1 c2 c3 c4 c5 c6 QF QRF BF RF
                cases hv : validB aF with
                | false =>
                  have HNO := Lib.hid (show ∀ d, validB d = true → fmtL d = s.data.toList → False from fun d h1 h2 => by
                    have := HDD.out d h1 h2
                    rw [this, h1] at hv
                    cases hv)
                  clear hv
                  have r0 : w8.cell? ⟨R, 0, none⟩ = some (.int .i64 0) := QR8.out.cell 0
                  have r1 : w8.cell? ⟨R, 1, none⟩ = some (.int .i64 0) := QR8.out.cell 1
                  have r2 : w8.cell? ⟨R, 2, none⟩ = some (.int .i64 0) := QR8.out.cell 2
                  have r3 : w8.cell? ⟨R, 3, none⟩ = some (.string ⟨#[]⟩) := QR8.out.cell 3
                  have r4 : w8.cell? ⟨R, 4, none⟩ = some (.string ⟨#[]⟩) := QR8.out.cell 4
                  have r5 : w8.cell? ⟨R, 5, none⟩ = some (.slice none 0 0) := QR8.out.cell 5
                  have r6 : w8.cell? ⟨R, 6, none⟩ = some (.slice none 0 0) := QR8.out.cell 6
                  have f0 := QR8.out.frozen 0
                  have f1 := QR8.out.frozen 1
                  have f2 := QR8.out.frozen 2
                  have f3 := QR8.out.frozen 3
                  have f4 := QR8.out.frozen 4
                  have f5 := QR8.out.frozen 5
                  have f6 := QR8.out.frozen 6
                  go_wp2_with fail
                  (try simp only [Exit.inBlock, Exit.then])
                  refine bodyPost_ret (results_row_tmp rfl _ _ R 25 _ _ rfl (Blk.set7 QR8.out) Tryz.underlying25 rfl (by kernel_rfl)) rfl ?_
                  exact RefPost.no (below_set7 B8.out (by have := HL.out; omega) _ _ _ _ _ _ _) HNO.out
                | true =>
                  obtain ⟨hwf, hz1, hz2, hz3, hz4⟩ := valid_wf hv
                  have H7 := Lib.hid (fmt7 vF aF w8 RF8.out (by rw [← RF8.out.args.len]; omega) (by rw [← RF8.out.surv.len]; omega) (by rw [RF8.out.nm]; omega) (by rw [RF8.out.mt]; omega) hwf)
                  obtain ⟨S, hS⟩ : ∃ S : ByteArray, ⟨(fmtL aF).toArray⟩ = S := ⟨_, rfl⟩
                  rw [hS] at H7
                  have HS := Lib.hid hS
                  have HV := Lib.hid hv
                  clear hwf hz1 hz2 hz3 hz4 hS hv
                  have c0 : w8.cell? ⟨M, 0, none⟩ = some (.int .i64 vF.k) := QF8.out.cell 0
                  have c1 : w8.cell? ⟨M, 1, none⟩ = some (.int .i64 vF.a) := QF8.out.cell 1
                  have c2 : w8.cell? ⟨M, 2, none⟩ = some (.int .i64 vF.b) := QF8.out.cell 2
                  have c3 : w8.cell? ⟨M, 3, none⟩ = some (.string vF.nm) := QF8.out.cell 3
                  have c4 : w8.cell? ⟨M, 4, none⟩ = some (.string vF.mt) := QF8.out.cell 4
                  have c5 : w8.cell? ⟨M, 5, none⟩ = some (.slice vF.A vF.n vF.c) := QF8.out.cell 5
                  have c6 : w8.cell? ⟨M, 6, none⟩ = some (.slice vF.A2 vF.n2 vF.c2) := QF8.out.cell 6
                  go_wp2_with fail
                  refine H7.out.mono ?_
                  rintro e w9 ⟨rfl, b9⟩
                  have QF9 := Lib.hid (QF8.out.below b9 hM8)
                  have QR9 := Lib.hid (QR8.out.below b9 QR8.out.lt)
                  have B9 := Lib.hid (B8.out.trans (b9.mono B8.out.size))
                  have RF9 := Lib.hid ((RF8.out.below b9).more b9.size)
                  clear b9 H7 c0 c1 c2 c3 c4 c5 c6 QF8 QR8 B8 RF8
                  by_cases hSs : S = s
                  · have hss : (S.toList == s.toList) = true := by rw [hSs]; exact beq_self_eq_true _
                    have HOK := Lib.hid (show fmtL aF = s.data.toList from by rw [← hSs, ← HS.out])
                    clear hSs
                    have r0 : w9.cell? ⟨R, 0, none⟩ = some (.int .i64 0) := QR9.out.cell 0
                    have r1 : w9.cell? ⟨R, 1, none⟩ = some (.int .i64 0) := QR9.out.cell 1
                    have r2 : w9.cell? ⟨R, 2, none⟩ = some (.int .i64 0) := QR9.out.cell 2
                    have r3 : w9.cell? ⟨R, 3, none⟩ = some (.string ⟨#[]⟩) := QR9.out.cell 3
                    have r4 : w9.cell? ⟨R, 4, none⟩ = some (.string ⟨#[]⟩) := QR9.out.cell 4
                    have r5 : w9.cell? ⟨R, 5, none⟩ = some (.slice none 0 0) := QR9.out.cell 5
                    have r6 : w9.cell? ⟨R, 6, none⟩ = some (.slice none 0 0) := QR9.out.cell 6
                    have f0 := QR9.out.frozen 0
                    have f1 := QR9.out.frozen 1
                    have f2 := QR9.out.frozen 2
                    have f3 := QR9.out.frozen 3
                    have f4 := QR9.out.frozen 4
                    have f5 := QR9.out.frozen 5
                    have f6 := QR9.out.frozen 6
                    have c0 : w9.cell? ⟨M, 0, none⟩ = some (.int .i64 vF.k) := QF9.out.cell 0
                    have c1 : w9.cell? ⟨M, 1, none⟩ = some (.int .i64 vF.a) := QF9.out.cell 1
                    have c2 : w9.cell? ⟨M, 2, none⟩ = some (.int .i64 vF.b) := QF9.out.cell 2
                    have c3 : w9.cell? ⟨M, 3, none⟩ = some (.string vF.nm) := QF9.out.cell 3
                    have c4 : w9.cell? ⟨M, 4, none⟩ = some (.string vF.mt) := QF9.out.cell 4
                    have c5 : w9.cell? ⟨M, 5, none⟩ = some (.slice vF.A vF.n vF.c) := QF9.out.cell 5
                    have c6 : w9.cell? ⟨M, 6, none⟩ = some (.slice vF.A2 vF.n2 vF.c2) := QF9.out.cell 6
                    go_wp2_with fail
                    (try simp only [Exit.inBlock, Exit.then])
                    refine bodyPost_ret (results_row_tmp rfl _ _ R 25 _ _ rfl (Blk.set7 QR9.out) Tryz.underlying25 rfl (by kernel_rfl)) rfl ?_
                    exact RefPost.yes RF9.out HAP.out (by omega) hvn hvn2 (below_set7 B9.out (by have := HL.out; omega) _ _ _ _ _ _ _) HV.out HOK.out
                  · have hss : (S.toList == s.toList) = false := beq_eq_false_iff_ne.2 fun e => hSs (ba_ext e)
                    have HNO := Lib.hid (show ∀ d, validB d = true → fmtL d = s.data.toList → False from fun d h1 h2 => by
                      have h3 := HDD.out d h1 h2
                      refine hSs ?_
                      rw [← HS.out, h3]
                      exact Go.WideShapes.bytes_inj (by simpa using h2))
                    clear hSs
                    have r0 : w9.cell? ⟨R, 0, none⟩ = some (.int .i64 0) := QR9.out.cell 0
                    have r1 : w9.cell? ⟨R, 1, none⟩ = some (.int .i64 0) := QR9.out.cell 1
                    have r2 : w9.cell? ⟨R, 2, none⟩ = some (.int .i64 0) := QR9.out.cell 2
                    have r3 : w9.cell? ⟨R, 3, none⟩ = some (.string ⟨#[]⟩) := QR9.out.cell 3
                    have r4 : w9.cell? ⟨R, 4, none⟩ = some (.string ⟨#[]⟩) := QR9.out.cell 4
                    have r5 : w9.cell? ⟨R, 5, none⟩ = some (.slice none 0 0) := QR9.out.cell 5
                    have r6 : w9.cell? ⟨R, 6, none⟩ = some (.slice none 0 0) := QR9.out.cell 6
                    have f0 := QR9.out.frozen 0
                    have f1 := QR9.out.frozen 1
                    have f2 := QR9.out.frozen 2
                    have f3 := QR9.out.frozen 3
                    have f4 := QR9.out.frozen 4
                    have f5 := QR9.out.frozen 5
                    have f6 := QR9.out.frozen 6
                    go_wp2_with fail
                    (try simp only [Exit.inBlock, Exit.then])
                    refine bodyPost_ret (results_row_tmp rfl _ _ R 25 _ _ rfl (Blk.set7 QR9.out) Tryz.underlying25 rfl (by kernel_rfl)) rfl ?_
                    exact RefPost.no (below_set7 B9.out (by have := HL.out; omega) _ _ _ _ _ _ _) HNO.out
              | cons z1 zr =>
                have HZ1 := HZ.out.at_ (k := 0) (by simp)
                obtain ⟨b7, o7, z1', rfl, hb7, hz1', hc71⟩ := HZ1
                simp only [List.getElem?_cons_zero, Option.some.injEq] at hz1'
                subst hz1'
                have hc71' : w5.cell? ⟨b7, o7, none⟩ = some (.int .i64 z1) := by simpa using hc71
                have m1 : w5.cell? ⟨M, 1, none⟩ = some (.int .i64 0) := HM5.out.cell 1
                have m2 : w5.cell? ⟨M, 2, none⟩ = some (.int .i64 0) := HM5.out.cell 2
                have f1 := HM5.out.frozen 1
                have f2 := HM5.out.frozen 2
                have hb7M : M ≠ b7 := by have := HFR.out b7 o7 rfl; omega
                have m5 : w5.cell? ⟨M, 5, none⟩ = some (.slice none 0 0) := HM5.out.cell 5
                have f5 := HM5.out.frozen 5
                obtain ⟨n8, hn8⟩ : ∃ n8, (z1 :: zr).length = n8 := ⟨_, rfl⟩
                have hn9 : n8 = zr.length + 1 := by rw [← hn8]; rfl
                rw [hn8] at hc7 ⊢
                have HZL := Lib.hid (show zr.length ≤ 1000000 from by simp only [List.length_cons] at hzl; omega)
                obtain ⟨o8, hA8⟩ : ∃ o8, (if c7 = 1 then some (⟨b7, o7, none⟩ : Addr) else some ⟨b7, o7 + 1, none⟩) = some ⟨b7, o8, none⟩ := by split <;> exact ⟨_, rfl⟩
                have hz8 : Ints w5 w5.heap.size (some ⟨b7, o8, none⟩) zr.length zr := by
                  rw [← hA8]
                  refine Ints.cutK (k := 1) (pre := [z1]) ?_ rfl (by omega)
                  rw [Nat.add_comm]
                  exact HZ.out
                have HZ8 := Lib.hid hz8
                have HB7M := Lib.hid (HFR.out b7 o7 rfl)
                obtain ⟨c8, hc8⟩ : ∃ c8, c7 - 1 = c8 := ⟨_, rfl⟩
                have hn8' : n8 - 1 = zr.length := by omega
                have hj0 : (0 : Int) < (n8 : Int) := by omega
                have hj1 : (1 : Int) ≤ (n8 : Int) := by omega
                have hj2 : (n8 : Int) ≤ (c7 : Int) := by omega
                have hj3 : (1 : Int) ≤ (c7 : Int) := by omega
                clear hz8 hn8 hn9 hzl
                go_upto_region 30 with fail
                go_region_with (fail)
                all_goals
                  go_upto_region 41 with fail
                  obtain ⟨vF, hvF⟩ : ∃ vF : Av, (⟨11, z1, 0, n1, n2, some ⟨b7, o8, none⟩, zr.length, c8, none, 0, 0⟩ : Av) = vF := ⟨_, rfl⟩
                  obtain ⟨aF, haF⟩ : ∃ aF : Ad, (⟨11, z1, 0, n1, n2, zr, []⟩ : Ad) = aF := ⟨_, rfl⟩
                  have qf : Blk ((w5.setCell ⟨M, 1, none⟩ (.int .i64 z1)).setCell ⟨M, 5, none⟩ (.slice (some ⟨b7, o8, none⟩) zr.length c8)).drew M 25 vF.cells := by rw [← hvF]; exact ((HM5.out.set 1 (.int .i64 z1)).set 5 (.slice (some ⟨b7, o8, none⟩) zr.length c8)).drew
                  have bf : Below M w3 ((w5.setCell ⟨M, 1, none⟩ (.int .i64 z1)).setCell ⟨M, 5, none⟩ (.slice (some ⟨b7, o8, none⟩) zr.length c8)).drew := ((HB5.out.setCell (p := ⟨M, 1, none⟩) (Nat.le_refl M) (.int .i64 z1)).setCell (p := ⟨M, 5, none⟩) (Nat.le_refl M) (.slice (some ⟨b7, o8, none⟩) zr.length c8)).drew
                  have rf : Reads ((w5.setCell ⟨M, 1, none⟩ (.int .i64 z1)).setCell ⟨M, 5, none⟩ (.slice (some ⟨b7, o8, none⟩) zr.length c8)).drew ((w5.setCell ⟨M, 1, none⟩ (.int .i64 z1)).setCell ⟨M, 5, none⟩ (.slice (some ⟨b7, o8, none⟩) zr.length c8)).drew.heap.size vF aF := by
                    rw [← hvF, ← haF]
                    have hz9 : Ints ((w5.setCell ⟨M, 1, none⟩ (.int .i64 z1)).setCell ⟨M, 5, none⟩ (.slice (some ⟨b7, o8, none⟩) zr.length c8)).drew w5.heap.size (some ⟨b7, o8, none⟩) zr.length zr := Row.other (R := M) HZ8.out (fun b o h => by cases h; exact HB7M.out) (fun b hb => (Below.heap_setCell _ _ _ b hb).trans (Below.heap_setCell _ _ _ b hb))
                    exact ⟨rfl, rfl, rfl, rfl, rfl, by simpa using hz9, Ints.none _ _⟩
                  have hvn : vF.n ≤ 1000000 := by rw [← hvF]; exact HZL.out
                  have hvn2 : vF.n2 ≤ 1000000 := by rw [← hvF]; exact Nat.zero_le _
                  have hap : vF.apart M := by rw [← hvF]; exact ⟨fun b o h => (by cases h; exact HB7M.out), fun b o h => (by cases h)⟩
                  have hnz : vF.nm.size ≤ 1000000 := by rw [← hvF]; exact HNM.out.1
                  have hmz : vF.mt.size ≤ 1000000 := by rw [← hvF]; exact HNM.out.2
                  have hdd : ∀ d, validB d = true → fmtL d = s.data.toList → aF = d := fun d h1 h2 => by
                    obtain ⟨_, g2, g3, g4⟩ := HZX.out d h1 h2
                    rw [← haF, ← g4, ← g2]
                    first | rfl | simp [finK]
                  generalize ((w5.setCell ⟨M, 1, none⟩ (.int .i64 z1)).setCell ⟨M, 5, none⟩ (.slice (some ⟨b7, o8, none⟩) zr.length c8)).drew = wF at qf bf rf ⊢
                  clear hvF haF HM5 HB5
                  have QF := Lib.hid qf
                  have RF := Lib.hid rf
                  have BF := Lib.hid (B3.out.trans (bf.mono hwM))
                  have QRF := Lib.hid (QR3.out.below bf hR2)
                  have hMF := qf.lt
                  have HAP := Lib.hid hap
                  have HDD := Lib.hid hdd
                  have H9 := Lib.hid (valid9 vF aF wF rf hvn hvn2 hnz hmz)
                  clear qf bf rf hap hdd
                  have c0 : wF.cell? ⟨M, 0, none⟩ = some (.int .i64 vF.k) := QF.out.cell 0
                  have c1 : wF.cell? ⟨M, 1, none⟩ = some (.int .i64 vF.a) := QF.out.cell 1
                  have c2 : wF.cell? ⟨M, 2, none⟩ = some (.int .i64 vF.b) := QF.out.cell 2
                  have c3 : wF.cell? ⟨M, 3, none⟩ = some (.string vF.nm) := QF.out.cell 3
                  have c4 : wF.cell? ⟨M, 4, none⟩ = some (.string vF.mt) := QF.out.cell 4
                  have c5 : wF.cell? ⟨M, 5, none⟩ = some (.slice vF.A vF.n vF.c) := QF.out.cell 5
                  have c6 : wF.cell? ⟨M, 6, none⟩ = some (.slice vF.A2 vF.n2 vF.c2) := QF.out.cell 6
                  go_wp2_with fail
                  refine H9.out.mono ?_
                  rintro e w8 ⟨rfl, b8⟩
                  have QF8 := Lib.hid (QF.out.below b8 hMF)
                  have QR8 := Lib.hid (QRF.out.below b8 QRF.out.lt)
                  have B8 := Lib.hid (BF.out.trans (b8.mono BF.out.size))
                  have RF8 := Lib.hid ((RF.out.below b8).more b8.size)
                  have hM8 := QF8.out.lt
                  clear b8 H9 c0 c1 c2 c3 c4 c5 c6 QF QRF BF RF
                  cases hv : validB aF with
                  | false =>
                    have HNO := Lib.hid (show ∀ d, validB d = true → fmtL d = s.data.toList → False from fun d h1 h2 => by
                      have := HDD.out d h1 h2
                      rw [this, h1] at hv
                      cases hv)
                    clear hv
                    have r0 : w8.cell? ⟨R, 0, none⟩ = some (.int .i64 0) := QR8.out.cell 0
                    have r1 : w8.cell? ⟨R, 1, none⟩ = some (.int .i64 0) := QR8.out.cell 1
                    have r2 : w8.cell? ⟨R, 2, none⟩ = some (.int .i64 0) := QR8.out.cell 2
                    have r3 : w8.cell? ⟨R, 3, none⟩ = some (.string ⟨#[]⟩) := QR8.out.cell 3
                    have r4 : w8.cell? ⟨R, 4, none⟩ = some (.string ⟨#[]⟩) := QR8.out.cell 4
                    have r5 : w8.cell? ⟨R, 5, none⟩ = some (.slice none 0 0) := QR8.out.cell 5
                    have r6 : w8.cell? ⟨R, 6, none⟩ = some (.slice none 0 0) := QR8.out.cell 6
                    have f0 := QR8.out.frozen 0
                    have f1 := QR8.out.frozen 1
                    have f2 := QR8.out.frozen 2
                    have f3 := QR8.out.frozen 3
                    have f4 := QR8.out.frozen 4
                    have f5 := QR8.out.frozen 5
                    have f6 := QR8.out.frozen 6
                    go_wp2_with fail
                    (try simp only [Exit.inBlock, Exit.then])
                    refine bodyPost_ret (results_row_tmp rfl _ _ R 25 _ _ rfl (Blk.set7 QR8.out) Tryz.underlying25 rfl (by kernel_rfl)) rfl ?_
                    exact RefPost.no (below_set7 B8.out (by have := HL.out; omega) _ _ _ _ _ _ _) HNO.out
                  | true =>
                    obtain ⟨hwf, hz1, hz2, hz3, hz4⟩ := valid_wf hv
                    have H7 := Lib.hid (fmt7 vF aF w8 RF8.out (by rw [← RF8.out.args.len]; omega) (by rw [← RF8.out.surv.len]; omega) (by rw [RF8.out.nm]; omega) (by rw [RF8.out.mt]; omega) hwf)
                    obtain ⟨S, hS⟩ : ∃ S : ByteArray, ⟨(fmtL aF).toArray⟩ = S := ⟨_, rfl⟩
                    rw [hS] at H7
                    have HS := Lib.hid hS
                    have HV := Lib.hid hv
                    clear hwf hz1 hz2 hz3 hz4 hS hv
                    have c0 : w8.cell? ⟨M, 0, none⟩ = some (.int .i64 vF.k) := QF8.out.cell 0
                    have c1 : w8.cell? ⟨M, 1, none⟩ = some (.int .i64 vF.a) := QF8.out.cell 1
                    have c2 : w8.cell? ⟨M, 2, none⟩ = some (.int .i64 vF.b) := QF8.out.cell 2
                    have c3 : w8.cell? ⟨M, 3, none⟩ = some (.string vF.nm) := QF8.out.cell 3
                    have c4 : w8.cell? ⟨M, 4, none⟩ = some (.string vF.mt) := QF8.out.cell 4
                    have c5 : w8.cell? ⟨M, 5, none⟩ = some (.slice vF.A vF.n vF.c) := QF8.out.cell 5
                    have c6 : w8.cell? ⟨M, 6, none⟩ = some (.slice vF.A2 vF.n2 vF.c2) := QF8.out.cell 6
                    go_wp2_with fail
                    refine H7.out.mono ?_
                    rintro e w9 ⟨rfl, b9⟩
                    have QF9 := Lib.hid (QF8.out.below b9 hM8)
                    have QR9 := Lib.hid (QR8.out.below b9 QR8.out.lt)
                    have B9 := Lib.hid (B8.out.trans (b9.mono B8.out.size))
                    have RF9 := Lib.hid ((RF8.out.below b9).more b9.size)
                    clear b9 H7 c0 c1 c2 c3 c4 c5 c6 QF8 QR8 B8 RF8
                    by_cases hSs : S = s
                    · have hss : (S.toList == s.toList) = true := by rw [hSs]; exact beq_self_eq_true _
                      have HOK := Lib.hid (show fmtL aF = s.data.toList from by rw [← hSs, ← HS.out])
                      clear hSs
                      have r0 : w9.cell? ⟨R, 0, none⟩ = some (.int .i64 0) := QR9.out.cell 0
                      have r1 : w9.cell? ⟨R, 1, none⟩ = some (.int .i64 0) := QR9.out.cell 1
                      have r2 : w9.cell? ⟨R, 2, none⟩ = some (.int .i64 0) := QR9.out.cell 2
                      have r3 : w9.cell? ⟨R, 3, none⟩ = some (.string ⟨#[]⟩) := QR9.out.cell 3
                      have r4 : w9.cell? ⟨R, 4, none⟩ = some (.string ⟨#[]⟩) := QR9.out.cell 4
                      have r5 : w9.cell? ⟨R, 5, none⟩ = some (.slice none 0 0) := QR9.out.cell 5
                      have r6 : w9.cell? ⟨R, 6, none⟩ = some (.slice none 0 0) := QR9.out.cell 6
                      have f0 := QR9.out.frozen 0
                      have f1 := QR9.out.frozen 1
                      have f2 := QR9.out.frozen 2
                      have f3 := QR9.out.frozen 3
                      have f4 := QR9.out.frozen 4
                      have f5 := QR9.out.frozen 5
                      have f6 := QR9.out.frozen 6
                      have c0 : w9.cell? ⟨M, 0, none⟩ = some (.int .i64 vF.k) := QF9.out.cell 0
                      have c1 : w9.cell? ⟨M, 1, none⟩ = some (.int .i64 vF.a) := QF9.out.cell 1
                      have c2 : w9.cell? ⟨M, 2, none⟩ = some (.int .i64 vF.b) := QF9.out.cell 2
                      have c3 : w9.cell? ⟨M, 3, none⟩ = some (.string vF.nm) := QF9.out.cell 3
                      have c4 : w9.cell? ⟨M, 4, none⟩ = some (.string vF.mt) := QF9.out.cell 4
                      have c5 : w9.cell? ⟨M, 5, none⟩ = some (.slice vF.A vF.n vF.c) := QF9.out.cell 5
                      have c6 : w9.cell? ⟨M, 6, none⟩ = some (.slice vF.A2 vF.n2 vF.c2) := QF9.out.cell 6
                      go_wp2_with fail
                      (try simp only [Exit.inBlock, Exit.then])
                      refine bodyPost_ret (results_row_tmp rfl _ _ R 25 _ _ rfl (Blk.set7 QR9.out) Tryz.underlying25 rfl (by kernel_rfl)) rfl ?_
                      exact RefPost.yes RF9.out HAP.out (by omega) hvn hvn2 (below_set7 B9.out (by have := HL.out; omega) _ _ _ _ _ _ _) HV.out HOK.out
                    · have hss : (S.toList == s.toList) = false := beq_eq_false_iff_ne.2 fun e => hSs (ba_ext e)
                      have HNO := Lib.hid (show ∀ d, validB d = true → fmtL d = s.data.toList → False from fun d h1 h2 => by
                        have h3 := HDD.out d h1 h2
                        refine hSs ?_
                        rw [← HS.out, h3]
                        exact Go.WideShapes.bytes_inj (by simpa using h2))
                      clear hSs
                      have r0 : w9.cell? ⟨R, 0, none⟩ = some (.int .i64 0) := QR9.out.cell 0
                      have r1 : w9.cell? ⟨R, 1, none⟩ = some (.int .i64 0) := QR9.out.cell 1
                      have r2 : w9.cell? ⟨R, 2, none⟩ = some (.int .i64 0) := QR9.out.cell 2
                      have r3 : w9.cell? ⟨R, 3, none⟩ = some (.string ⟨#[]⟩) := QR9.out.cell 3
                      have r4 : w9.cell? ⟨R, 4, none⟩ = some (.string ⟨#[]⟩) := QR9.out.cell 4
                      have r5 : w9.cell? ⟨R, 5, none⟩ = some (.slice none 0 0) := QR9.out.cell 5
                      have r6 : w9.cell? ⟨R, 6, none⟩ = some (.slice none 0 0) := QR9.out.cell 6
                      have f0 := QR9.out.frozen 0
                      have f1 := QR9.out.frozen 1
                      have f2 := QR9.out.frozen 2
                      have f3 := QR9.out.frozen 3
                      have f4 := QR9.out.frozen 4
                      have f5 := QR9.out.frozen 5
                      have f6 := QR9.out.frozen 6
                      go_wp2_with fail
                      (try simp only [Exit.inBlock, Exit.then])
                      refine bodyPost_ret (results_row_tmp rfl _ _ R 25 _ _ rfl (Blk.set7 QR9.out) Tryz.underlying25 rfl (by kernel_rfl)) rfl ?_
                      exact RefPost.no (below_set7 B9.out (by have := HL.out; omega) _ _ _ _ _ _ _) HNO.out
        · have hg2 : ¬ (3 : Int) ≤ (wt.length : Int) := by omega
          have HREST := Lib.hid (show ∀ d, validB d = true → fmtL d = s.data.toList → 11 = d.k ∧ wt = (numsK d).map istr ∧ (∀ z ∈ numsK d, Small z) ∧ finK 11 ⟨#[]⟩ ⟨#[]⟩ (numsK d) = d from fun d y1 y2 => by
            obtain ⟨g1, g2, g3, g4⟩ := HX2.out d y1 y2
            rw [← g1] at g2 g3
            simp [preK, h3] at g2
            obtain ⟨e1, e2, e3⟩ := g2
            rw [← e1, ← e2] at g3
            exact ⟨g1, by first | exact e3 | simpa using e3, g4, g3⟩)
          have HNM := Lib.hid (show (⟨#[]⟩ : ByteArray).size ≤ 1000000 ∧ (⟨#[]⟩ : ByteArray).size ≤ 1000000 from by decide)
          have HWZ2 := HWZ
          clear h3
          have HC := Lib.hid (integers26 A4 wt.length (c - 1) wt wr (HST4.out.more (Nat.le_of_lt HM.out.lt)) (by omega) HWZ2.out)
          go_wp2_with fail
          refine HC.out.mono ?_
          rintro e w5 ⟨A7, c7, zs, ok, rfl, hc7, hz, hzI, hzl, hfr, hzx, b5⟩
          have hMr := HM.out.lt
          have HM5 := Lib.hid (HM.out.below b5 hMr)
          have HB5 := Lib.hid (HB.out.trans (b5.mono (Nat.le_of_lt hMr)))
          have hs5 := b5.size
          have HZ := Lib.hid hz
          have HFR := Lib.hid (show ∀ b o, A7 = some ⟨b, o, none⟩ → M < b from fun b o e => by have := hfr b o e; omega)
          have HZX := Lib.hid (show ∀ d, validB d = true → fmtL d = s.data.toList → ok = true ∧ zs = numsK d ∧ 11 = d.k ∧ finK 11 ⟨#[]⟩ ⟨#[]⟩ (numsK d) = d from fun d h1 h2 => by
            obtain ⟨g1, g2, g3, g4⟩ := HREST.out d h1 h2
            obtain ⟨g5, g6⟩ := hzx (numsK d) g3 g2
            exact ⟨g5, g6, g1, g4⟩)
          clear hz hfr hzx b5 HC HREST
          cases ok with
          | false =>
            have HNO := Lib.hid (show ∀ d, validB d = true → fmtL d = s.data.toList → False from fun d h1 h2 => absurd (HZX.out d h1 h2).1 (by decide))
            have QR5 := Lib.hid (QR3.out.below HB5.out hR2)
            have B5 := Lib.hid (B3.out.trans (HB5.out.mono hwM))
            have r0 : w5.cell? ⟨R, 0, none⟩ = some (.int .i64 0) := QR5.out.cell 0
            have r1 : w5.cell? ⟨R, 1, none⟩ = some (.int .i64 0) := QR5.out.cell 1
            have r2 : w5.cell? ⟨R, 2, none⟩ = some (.int .i64 0) := QR5.out.cell 2
            have r3 : w5.cell? ⟨R, 3, none⟩ = some (.string ⟨#[]⟩) := QR5.out.cell 3
            have r4 : w5.cell? ⟨R, 4, none⟩ = some (.string ⟨#[]⟩) := QR5.out.cell 4
            have r5 : w5.cell? ⟨R, 5, none⟩ = some (.slice none 0 0) := QR5.out.cell 5
            have r6 : w5.cell? ⟨R, 6, none⟩ = some (.slice none 0 0) := QR5.out.cell 6
            have f0 := QR5.out.frozen 0
            have f1 := QR5.out.frozen 1
            have f2 := QR5.out.frozen 2
            have f3 := QR5.out.frozen 3
            have f4 := QR5.out.frozen 4
            have f5 := QR5.out.frozen 5
            have f6 := QR5.out.frozen 6
            go_wp2_with fail
            (try simp only [Exit.inBlock, Exit.then])
            refine bodyPost_ret (results_row_tmp rfl _ _ R 25 _ _ rfl (Blk.set7 QR5.out) Tryz.underlying25 rfl (by kernel_rfl)) rfl ?_
            exact RefPost.no (below_set7 B5.out (by have := HL.out; omega) _ _ _ _ _ _ _) HNO.out
          | true =>
            have c0 : w5.cell? ⟨M, 0, none⟩ = some (.int .i64 11) := HM5.out.cell 0
            cases zs with
            | nil =>
              go_upto_region 41 with fail
              obtain ⟨vF, hvF⟩ : ∃ vF : Av, (⟨11, 0, 0, ⟨#[]⟩, ⟨#[]⟩, none, 0, 0, none, 0, 0⟩ : Av) = vF := ⟨_, rfl⟩
              obtain ⟨aF, haF⟩ : ∃ aF : Ad, (⟨11, 0, 0, ⟨#[]⟩, ⟨#[]⟩, [], []⟩ : Ad) = aF := ⟨_, rfl⟩
              have qf : Blk w5 M 25 vF.cells := by rw [← hvF]; exact HM5.out
              have bf : Below M w3 w5 := HB5.out
              have rf : Reads w5 w5.heap.size vF aF := by
                rw [← hvF, ← haF]
                exact ⟨rfl, rfl, rfl, rfl, rfl, Ints.none _ _, Ints.none _ _⟩
              have hvn : vF.n ≤ 1000000 := by rw [← hvF]; exact Nat.zero_le _
              have hvn2 : vF.n2 ≤ 1000000 := by rw [← hvF]; exact Nat.zero_le _
              have hap : vF.apart M := by rw [← hvF]; exact ⟨fun b o h => (by cases h), fun b o h => (by cases h)⟩
              have hnz : vF.nm.size ≤ 1000000 := by rw [← hvF]; exact HNM.out.1
              have hmz : vF.mt.size ≤ 1000000 := by rw [← hvF]; exact HNM.out.2
              have hdd : ∀ d, validB d = true → fmtL d = s.data.toList → aF = d := fun d h1 h2 => by
                obtain ⟨_, g2, g3, g4⟩ := HZX.out d h1 h2
                rw [← haF, ← g4, ← g2]
                first | rfl | simp [finK]
              generalize w5 = wF at qf bf rf ⊢
              clear hvF haF HM5 HB5
              have QF := Lib.hid qf
              have RF := Lib.hid rf
              have BF := Lib.hid (B3.out.trans (bf.mono hwM))
              have QRF := Lib.hid (QR3.out.below bf hR2)
              have hMF := qf.lt
              have HAP := Lib.hid hap
              have HDD := Lib.hid hdd
              have H9 := Lib.hid (valid9 vF aF wF rf hvn hvn2 hnz hmz)
              clear qf bf rf hap hdd
              have c0 : wF.cell? ⟨M, 0, none⟩ = some (.int .i64 vF.k) := QF.out.cell 0
              have c1 : wF.cell? ⟨M, 1, none⟩ = some (.int .i64 vF.a) := QF.out.cell 1
              have c2 : wF.cell? ⟨M, 2, none⟩ = some (.int .i64 vF.b) := QF.out.cell 2
              have c3 : wF.cell? ⟨M, 3, none⟩ = some (.string vF.nm) := QF.out.cell 3
              have c4 : wF.cell? ⟨M, 4, none⟩ = some (.string vF.mt) := QF.out.cell 4
              have c5 : wF.cell? ⟨M, 5, none⟩ = some (.slice vF.A vF.n vF.c) := QF.out.cell 5
              have c6 : wF.cell? ⟨M, 6, none⟩ = some (.slice vF.A2 vF.n2 vF.c2) := QF.out.cell 6
              go_wp2_with fail
              refine H9.out.mono ?_
              rintro e w8 ⟨rfl, b8⟩
              have QF8 := Lib.hid (QF.out.below b8 hMF)
              have QR8 := Lib.hid (QRF.out.below b8 QRF.out.lt)
              have B8 := Lib.hid (BF.out.trans (b8.mono BF.out.size))
              have RF8 := Lib.hid ((RF.out.below b8).more b8.size)
              have hM8 := QF8.out.lt
              clear b8 H9 c0 c1 c2 c3 c4 c5 c6 QF QRF BF RF
              cases hv : validB aF with
              | false =>
                have HNO := Lib.hid (show ∀ d, validB d = true → fmtL d = s.data.toList → False from fun d h1 h2 => by
                  have := HDD.out d h1 h2
                  rw [this, h1] at hv
                  cases hv)
                clear hv
                have r0 : w8.cell? ⟨R, 0, none⟩ = some (.int .i64 0) := QR8.out.cell 0
                have r1 : w8.cell? ⟨R, 1, none⟩ = some (.int .i64 0) := QR8.out.cell 1
                have r2 : w8.cell? ⟨R, 2, none⟩ = some (.int .i64 0) := QR8.out.cell 2
                have r3 : w8.cell? ⟨R, 3, none⟩ = some (.string ⟨#[]⟩) := QR8.out.cell 3
                have r4 : w8.cell? ⟨R, 4, none⟩ = some (.string ⟨#[]⟩) := QR8.out.cell 4
                have r5 : w8.cell? ⟨R, 5, none⟩ = some (.slice none 0 0) := QR8.out.cell 5
                have r6 : w8.cell? ⟨R, 6, none⟩ = some (.slice none 0 0) := QR8.out.cell 6
                have f0 := QR8.out.frozen 0
                have f1 := QR8.out.frozen 1
                have f2 := QR8.out.frozen 2
                have f3 := QR8.out.frozen 3
                have f4 := QR8.out.frozen 4
                have f5 := QR8.out.frozen 5
                have f6 := QR8.out.frozen 6
                go_wp2_with fail
                (try simp only [Exit.inBlock, Exit.then])
                refine bodyPost_ret (results_row_tmp rfl _ _ R 25 _ _ rfl (Blk.set7 QR8.out) Tryz.underlying25 rfl (by kernel_rfl)) rfl ?_
                exact RefPost.no (below_set7 B8.out (by have := HL.out; omega) _ _ _ _ _ _ _) HNO.out
              | true =>
                obtain ⟨hwf, hz1, hz2, hz3, hz4⟩ := valid_wf hv
                have H7 := Lib.hid (fmt7 vF aF w8 RF8.out (by rw [← RF8.out.args.len]; omega) (by rw [← RF8.out.surv.len]; omega) (by rw [RF8.out.nm]; omega) (by rw [RF8.out.mt]; omega) hwf)
                obtain ⟨S, hS⟩ : ∃ S : ByteArray, ⟨(fmtL aF).toArray⟩ = S := ⟨_, rfl⟩
                rw [hS] at H7
                have HS := Lib.hid hS
                have HV := Lib.hid hv
                clear hwf hz1 hz2 hz3 hz4 hS hv
                have c0 : w8.cell? ⟨M, 0, none⟩ = some (.int .i64 vF.k) := QF8.out.cell 0
                have c1 : w8.cell? ⟨M, 1, none⟩ = some (.int .i64 vF.a) := QF8.out.cell 1
                have c2 : w8.cell? ⟨M, 2, none⟩ = some (.int .i64 vF.b) := QF8.out.cell 2
                have c3 : w8.cell? ⟨M, 3, none⟩ = some (.string vF.nm) := QF8.out.cell 3
                have c4 : w8.cell? ⟨M, 4, none⟩ = some (.string vF.mt) := QF8.out.cell 4
                have c5 : w8.cell? ⟨M, 5, none⟩ = some (.slice vF.A vF.n vF.c) := QF8.out.cell 5
                have c6 : w8.cell? ⟨M, 6, none⟩ = some (.slice vF.A2 vF.n2 vF.c2) := QF8.out.cell 6
                go_wp2_with fail
                refine H7.out.mono ?_
                rintro e w9 ⟨rfl, b9⟩
                have QF9 := Lib.hid (QF8.out.below b9 hM8)
                have QR9 := Lib.hid (QR8.out.below b9 QR8.out.lt)
                have B9 := Lib.hid (B8.out.trans (b9.mono B8.out.size))
                have RF9 := Lib.hid ((RF8.out.below b9).more b9.size)
                clear b9 H7 c0 c1 c2 c3 c4 c5 c6 QF8 QR8 B8 RF8
                by_cases hSs : S = s
                · have hss : (S.toList == s.toList) = true := by rw [hSs]; exact beq_self_eq_true _
                  have HOK := Lib.hid (show fmtL aF = s.data.toList from by rw [← hSs, ← HS.out])
                  clear hSs
                  have r0 : w9.cell? ⟨R, 0, none⟩ = some (.int .i64 0) := QR9.out.cell 0
                  have r1 : w9.cell? ⟨R, 1, none⟩ = some (.int .i64 0) := QR9.out.cell 1
                  have r2 : w9.cell? ⟨R, 2, none⟩ = some (.int .i64 0) := QR9.out.cell 2
                  have r3 : w9.cell? ⟨R, 3, none⟩ = some (.string ⟨#[]⟩) := QR9.out.cell 3
                  have r4 : w9.cell? ⟨R, 4, none⟩ = some (.string ⟨#[]⟩) := QR9.out.cell 4
                  have r5 : w9.cell? ⟨R, 5, none⟩ = some (.slice none 0 0) := QR9.out.cell 5
                  have r6 : w9.cell? ⟨R, 6, none⟩ = some (.slice none 0 0) := QR9.out.cell 6
                  have f0 := QR9.out.frozen 0
                  have f1 := QR9.out.frozen 1
                  have f2 := QR9.out.frozen 2
                  have f3 := QR9.out.frozen 3
                  have f4 := QR9.out.frozen 4
                  have f5 := QR9.out.frozen 5
                  have f6 := QR9.out.frozen 6
                  have c0 : w9.cell? ⟨M, 0, none⟩ = some (.int .i64 vF.k) := QF9.out.cell 0
                  have c1 : w9.cell? ⟨M, 1, none⟩ = some (.int .i64 vF.a) := QF9.out.cell 1
                  have c2 : w9.cell? ⟨M, 2, none⟩ = some (.int .i64 vF.b) := QF9.out.cell 2
                  have c3 : w9.cell? ⟨M, 3, none⟩ = some (.string vF.nm) := QF9.out.cell 3
                  have c4 : w9.cell? ⟨M, 4, none⟩ = some (.string vF.mt) := QF9.out.cell 4
                  have c5 : w9.cell? ⟨M, 5, none⟩ = some (.slice vF.A vF.n vF.c) := QF9.out.cell 5
                  have c6 : w9.cell? ⟨M, 6, none⟩ = some (.slice vF.A2 vF.n2 vF.c2) := QF9.out.cell 6
                  go_wp2_with fail
                  (try simp only [Exit.inBlock, Exit.then])
                  refine bodyPost_ret (results_row_tmp rfl _ _ R 25 _ _ rfl (Blk.set7 QR9.out) Tryz.underlying25 rfl (by kernel_rfl)) rfl ?_
                  exact RefPost.yes RF9.out HAP.out (by omega) hvn hvn2 (below_set7 B9.out (by have := HL.out; omega) _ _ _ _ _ _ _) HV.out HOK.out
                · have hss : (S.toList == s.toList) = false := beq_eq_false_iff_ne.2 fun e => hSs (ba_ext e)
                  have HNO := Lib.hid (show ∀ d, validB d = true → fmtL d = s.data.toList → False from fun d h1 h2 => by
                    have h3 := HDD.out d h1 h2
                    refine hSs ?_
                    rw [← HS.out, h3]
                    exact Go.WideShapes.bytes_inj (by simpa using h2))
                  clear hSs
                  have r0 : w9.cell? ⟨R, 0, none⟩ = some (.int .i64 0) := QR9.out.cell 0
                  have r1 : w9.cell? ⟨R, 1, none⟩ = some (.int .i64 0) := QR9.out.cell 1
                  have r2 : w9.cell? ⟨R, 2, none⟩ = some (.int .i64 0) := QR9.out.cell 2
                  have r3 : w9.cell? ⟨R, 3, none⟩ = some (.string ⟨#[]⟩) := QR9.out.cell 3
                  have r4 : w9.cell? ⟨R, 4, none⟩ = some (.string ⟨#[]⟩) := QR9.out.cell 4
                  have r5 : w9.cell? ⟨R, 5, none⟩ = some (.slice none 0 0) := QR9.out.cell 5
                  have r6 : w9.cell? ⟨R, 6, none⟩ = some (.slice none 0 0) := QR9.out.cell 6
                  have f0 := QR9.out.frozen 0
                  have f1 := QR9.out.frozen 1
                  have f2 := QR9.out.frozen 2
                  have f3 := QR9.out.frozen 3
                  have f4 := QR9.out.frozen 4
                  have f5 := QR9.out.frozen 5
                  have f6 := QR9.out.frozen 6
                  go_wp2_with fail
                  (try simp only [Exit.inBlock, Exit.then])
                  refine bodyPost_ret (results_row_tmp rfl _ _ R 25 _ _ rfl (Blk.set7 QR9.out) Tryz.underlying25 rfl (by kernel_rfl)) rfl ?_
                  exact RefPost.no (below_set7 B9.out (by have := HL.out; omega) _ _ _ _ _ _ _) HNO.out
            | cons z1 zr =>
              have HZ1 := HZ.out.at_ (k := 0) (by simp)
              obtain ⟨b7, o7, z1', rfl, hb7, hz1', hc71⟩ := HZ1
              simp only [List.getElem?_cons_zero, Option.some.injEq] at hz1'
              subst hz1'
              have hc71' : w5.cell? ⟨b7, o7, none⟩ = some (.int .i64 z1) := by simpa using hc71
              have m1 : w5.cell? ⟨M, 1, none⟩ = some (.int .i64 0) := HM5.out.cell 1
              have m2 : w5.cell? ⟨M, 2, none⟩ = some (.int .i64 0) := HM5.out.cell 2
              have f1 := HM5.out.frozen 1
              have f2 := HM5.out.frozen 2
              have hb7M : M ≠ b7 := by have := HFR.out b7 o7 rfl; omega
              have m5 : w5.cell? ⟨M, 5, none⟩ = some (.slice none 0 0) := HM5.out.cell 5
              have f5 := HM5.out.frozen 5
              obtain ⟨n8, hn8⟩ : ∃ n8, (z1 :: zr).length = n8 := ⟨_, rfl⟩
              have hn9 : n8 = zr.length + 1 := by rw [← hn8]; rfl
              rw [hn8] at hc7 ⊢
              have HZL := Lib.hid (show zr.length ≤ 1000000 from by simp only [List.length_cons] at hzl; omega)
              obtain ⟨o8, hA8⟩ : ∃ o8, (if c7 = 1 then some (⟨b7, o7, none⟩ : Addr) else some ⟨b7, o7 + 1, none⟩) = some ⟨b7, o8, none⟩ := by split <;> exact ⟨_, rfl⟩
              have hz8 : Ints w5 w5.heap.size (some ⟨b7, o8, none⟩) zr.length zr := by
                rw [← hA8]
                refine Ints.cutK (k := 1) (pre := [z1]) ?_ rfl (by omega)
                rw [Nat.add_comm]
                exact HZ.out
              have HZ8 := Lib.hid hz8
              have HB7M := Lib.hid (HFR.out b7 o7 rfl)
              obtain ⟨c8, hc8⟩ : ∃ c8, c7 - 1 = c8 := ⟨_, rfl⟩
              have hn8' : n8 - 1 = zr.length := by omega
              have hj0 : (0 : Int) < (n8 : Int) := by omega
              have hj1 : (1 : Int) ≤ (n8 : Int) := by omega
              have hj2 : (n8 : Int) ≤ (c7 : Int) := by omega
              have hj3 : (1 : Int) ≤ (c7 : Int) := by omega
              clear hz8 hn8 hn9 hzl
              go_upto_region 30 with fail
              go_region_with (fail)
              all_goals
                go_upto_region 41 with fail
                obtain ⟨vF, hvF⟩ : ∃ vF : Av, (⟨11, z1, 0, ⟨#[]⟩, ⟨#[]⟩, some ⟨b7, o8, none⟩, zr.length, c8, none, 0, 0⟩ : Av) = vF := ⟨_, rfl⟩
                obtain ⟨aF, haF⟩ : ∃ aF : Ad, (⟨11, z1, 0, ⟨#[]⟩, ⟨#[]⟩, zr, []⟩ : Ad) = aF := ⟨_, rfl⟩
                have qf : Blk ((w5.setCell ⟨M, 1, none⟩ (.int .i64 z1)).setCell ⟨M, 5, none⟩ (.slice (some ⟨b7, o8, none⟩) zr.length c8)).drew M 25 vF.cells := by rw [← hvF]; exact ((HM5.out.set 1 (.int .i64 z1)).set 5 (.slice (some ⟨b7, o8, none⟩) zr.length c8)).drew
                have bf : Below M w3 ((w5.setCell ⟨M, 1, none⟩ (.int .i64 z1)).setCell ⟨M, 5, none⟩ (.slice (some ⟨b7, o8, none⟩) zr.length c8)).drew := ((HB5.out.setCell (p := ⟨M, 1, none⟩) (Nat.le_refl M) (.int .i64 z1)).setCell (p := ⟨M, 5, none⟩) (Nat.le_refl M) (.slice (some ⟨b7, o8, none⟩) zr.length c8)).drew
                have rf : Reads ((w5.setCell ⟨M, 1, none⟩ (.int .i64 z1)).setCell ⟨M, 5, none⟩ (.slice (some ⟨b7, o8, none⟩) zr.length c8)).drew ((w5.setCell ⟨M, 1, none⟩ (.int .i64 z1)).setCell ⟨M, 5, none⟩ (.slice (some ⟨b7, o8, none⟩) zr.length c8)).drew.heap.size vF aF := by
                  rw [← hvF, ← haF]
                  have hz9 : Ints ((w5.setCell ⟨M, 1, none⟩ (.int .i64 z1)).setCell ⟨M, 5, none⟩ (.slice (some ⟨b7, o8, none⟩) zr.length c8)).drew w5.heap.size (some ⟨b7, o8, none⟩) zr.length zr := Row.other (R := M) HZ8.out (fun b o h => by cases h; exact HB7M.out) (fun b hb => (Below.heap_setCell _ _ _ b hb).trans (Below.heap_setCell _ _ _ b hb))
                  exact ⟨rfl, rfl, rfl, rfl, rfl, by simpa using hz9, Ints.none _ _⟩
                have hvn : vF.n ≤ 1000000 := by rw [← hvF]; exact HZL.out
                have hvn2 : vF.n2 ≤ 1000000 := by rw [← hvF]; exact Nat.zero_le _
                have hap : vF.apart M := by rw [← hvF]; exact ⟨fun b o h => (by cases h; exact HB7M.out), fun b o h => (by cases h)⟩
                have hnz : vF.nm.size ≤ 1000000 := by rw [← hvF]; exact HNM.out.1
                have hmz : vF.mt.size ≤ 1000000 := by rw [← hvF]; exact HNM.out.2
                have hdd : ∀ d, validB d = true → fmtL d = s.data.toList → aF = d := fun d h1 h2 => by
                  obtain ⟨_, g2, g3, g4⟩ := HZX.out d h1 h2
                  rw [← haF, ← g4, ← g2]
                  first | rfl | simp [finK]
                generalize ((w5.setCell ⟨M, 1, none⟩ (.int .i64 z1)).setCell ⟨M, 5, none⟩ (.slice (some ⟨b7, o8, none⟩) zr.length c8)).drew = wF at qf bf rf ⊢
                clear hvF haF HM5 HB5
                have QF := Lib.hid qf
                have RF := Lib.hid rf
                have BF := Lib.hid (B3.out.trans (bf.mono hwM))
                have QRF := Lib.hid (QR3.out.below bf hR2)
                have hMF := qf.lt
                have HAP := Lib.hid hap
                have HDD := Lib.hid hdd
                have H9 := Lib.hid (valid9 vF aF wF rf hvn hvn2 hnz hmz)
                clear qf bf rf hap hdd
                have c0 : wF.cell? ⟨M, 0, none⟩ = some (.int .i64 vF.k) := QF.out.cell 0
                have c1 : wF.cell? ⟨M, 1, none⟩ = some (.int .i64 vF.a) := QF.out.cell 1
                have c2 : wF.cell? ⟨M, 2, none⟩ = some (.int .i64 vF.b) := QF.out.cell 2
                have c3 : wF.cell? ⟨M, 3, none⟩ = some (.string vF.nm) := QF.out.cell 3
                have c4 : wF.cell? ⟨M, 4, none⟩ = some (.string vF.mt) := QF.out.cell 4
                have c5 : wF.cell? ⟨M, 5, none⟩ = some (.slice vF.A vF.n vF.c) := QF.out.cell 5
                have c6 : wF.cell? ⟨M, 6, none⟩ = some (.slice vF.A2 vF.n2 vF.c2) := QF.out.cell 6
                go_wp2_with fail
                refine H9.out.mono ?_
                rintro e w8 ⟨rfl, b8⟩
                have QF8 := Lib.hid (QF.out.below b8 hMF)
                have QR8 := Lib.hid (QRF.out.below b8 QRF.out.lt)
                have B8 := Lib.hid (BF.out.trans (b8.mono BF.out.size))
                have RF8 := Lib.hid ((RF.out.below b8).more b8.size)
                have hM8 := QF8.out.lt
                clear b8 H9 c0 c1 c2 c3 c4 c5 c6 QF QRF BF RF
                cases hv : validB aF with
                | false =>
                  have HNO := Lib.hid (show ∀ d, validB d = true → fmtL d = s.data.toList → False from fun d h1 h2 => by
                    have := HDD.out d h1 h2
                    rw [this, h1] at hv
                    cases hv)
                  clear hv
                  have r0 : w8.cell? ⟨R, 0, none⟩ = some (.int .i64 0) := QR8.out.cell 0
                  have r1 : w8.cell? ⟨R, 1, none⟩ = some (.int .i64 0) := QR8.out.cell 1
                  have r2 : w8.cell? ⟨R, 2, none⟩ = some (.int .i64 0) := QR8.out.cell 2
                  have r3 : w8.cell? ⟨R, 3, none⟩ = some (.string ⟨#[]⟩) := QR8.out.cell 3
                  have r4 : w8.cell? ⟨R, 4, none⟩ = some (.string ⟨#[]⟩) := QR8.out.cell 4
                  have r5 : w8.cell? ⟨R, 5, none⟩ = some (.slice none 0 0) := QR8.out.cell 5
                  have r6 : w8.cell? ⟨R, 6, none⟩ = some (.slice none 0 0) := QR8.out.cell 6
                  have f0 := QR8.out.frozen 0
                  have f1 := QR8.out.frozen 1
                  have f2 := QR8.out.frozen 2
                  have f3 := QR8.out.frozen 3
                  have f4 := QR8.out.frozen 4
                  have f5 := QR8.out.frozen 5
                  have f6 := QR8.out.frozen 6
                  go_wp2_with fail
                  (try simp only [Exit.inBlock, Exit.then])
                  refine bodyPost_ret (results_row_tmp rfl _ _ R 25 _ _ rfl (Blk.set7 QR8.out) Tryz.underlying25 rfl (by kernel_rfl)) rfl ?_
                  exact RefPost.no (below_set7 B8.out (by have := HL.out; omega) _ _ _ _ _ _ _) HNO.out
                | true =>
                  obtain ⟨hwf, hz1, hz2, hz3, hz4⟩ := valid_wf hv
                  have H7 := Lib.hid (fmt7 vF aF w8 RF8.out (by rw [← RF8.out.args.len]; omega) (by rw [← RF8.out.surv.len]; omega) (by rw [RF8.out.nm]; omega) (by rw [RF8.out.mt]; omega) hwf)
                  obtain ⟨S, hS⟩ : ∃ S : ByteArray, ⟨(fmtL aF).toArray⟩ = S := ⟨_, rfl⟩
                  rw [hS] at H7
                  have HS := Lib.hid hS
                  have HV := Lib.hid hv
                  clear hwf hz1 hz2 hz3 hz4 hS hv
                  have c0 : w8.cell? ⟨M, 0, none⟩ = some (.int .i64 vF.k) := QF8.out.cell 0
                  have c1 : w8.cell? ⟨M, 1, none⟩ = some (.int .i64 vF.a) := QF8.out.cell 1
                  have c2 : w8.cell? ⟨M, 2, none⟩ = some (.int .i64 vF.b) := QF8.out.cell 2
                  have c3 : w8.cell? ⟨M, 3, none⟩ = some (.string vF.nm) := QF8.out.cell 3
                  have c4 : w8.cell? ⟨M, 4, none⟩ = some (.string vF.mt) := QF8.out.cell 4
                  have c5 : w8.cell? ⟨M, 5, none⟩ = some (.slice vF.A vF.n vF.c) := QF8.out.cell 5
                  have c6 : w8.cell? ⟨M, 6, none⟩ = some (.slice vF.A2 vF.n2 vF.c2) := QF8.out.cell 6
                  go_wp2_with fail
                  refine H7.out.mono ?_
                  rintro e w9 ⟨rfl, b9⟩
                  have QF9 := Lib.hid (QF8.out.below b9 hM8)
                  have QR9 := Lib.hid (QR8.out.below b9 QR8.out.lt)
                  have B9 := Lib.hid (B8.out.trans (b9.mono B8.out.size))
                  have RF9 := Lib.hid ((RF8.out.below b9).more b9.size)
                  clear b9 H7 c0 c1 c2 c3 c4 c5 c6 QF8 QR8 B8 RF8
                  by_cases hSs : S = s
                  · have hss : (S.toList == s.toList) = true := by rw [hSs]; exact beq_self_eq_true _
                    have HOK := Lib.hid (show fmtL aF = s.data.toList from by rw [← hSs, ← HS.out])
                    clear hSs
                    have r0 : w9.cell? ⟨R, 0, none⟩ = some (.int .i64 0) := QR9.out.cell 0
                    have r1 : w9.cell? ⟨R, 1, none⟩ = some (.int .i64 0) := QR9.out.cell 1
                    have r2 : w9.cell? ⟨R, 2, none⟩ = some (.int .i64 0) := QR9.out.cell 2
                    have r3 : w9.cell? ⟨R, 3, none⟩ = some (.string ⟨#[]⟩) := QR9.out.cell 3
                    have r4 : w9.cell? ⟨R, 4, none⟩ = some (.string ⟨#[]⟩) := QR9.out.cell 4
                    have r5 : w9.cell? ⟨R, 5, none⟩ = some (.slice none 0 0) := QR9.out.cell 5
                    have r6 : w9.cell? ⟨R, 6, none⟩ = some (.slice none 0 0) := QR9.out.cell 6
                    have f0 := QR9.out.frozen 0
                    have f1 := QR9.out.frozen 1
                    have f2 := QR9.out.frozen 2
                    have f3 := QR9.out.frozen 3
                    have f4 := QR9.out.frozen 4
                    have f5 := QR9.out.frozen 5
                    have f6 := QR9.out.frozen 6
                    have c0 : w9.cell? ⟨M, 0, none⟩ = some (.int .i64 vF.k) := QF9.out.cell 0
                    have c1 : w9.cell? ⟨M, 1, none⟩ = some (.int .i64 vF.a) := QF9.out.cell 1
                    have c2 : w9.cell? ⟨M, 2, none⟩ = some (.int .i64 vF.b) := QF9.out.cell 2
                    have c3 : w9.cell? ⟨M, 3, none⟩ = some (.string vF.nm) := QF9.out.cell 3
                    have c4 : w9.cell? ⟨M, 4, none⟩ = some (.string vF.mt) := QF9.out.cell 4
                    have c5 : w9.cell? ⟨M, 5, none⟩ = some (.slice vF.A vF.n vF.c) := QF9.out.cell 5
                    have c6 : w9.cell? ⟨M, 6, none⟩ = some (.slice vF.A2 vF.n2 vF.c2) := QF9.out.cell 6
                    go_wp2_with fail
                    (try simp only [Exit.inBlock, Exit.then])
                    refine bodyPost_ret (results_row_tmp rfl _ _ R 25 _ _ rfl (Blk.set7 QR9.out) Tryz.underlying25 rfl (by kernel_rfl)) rfl ?_
                    exact RefPost.yes RF9.out HAP.out (by omega) hvn hvn2 (below_set7 B9.out (by have := HL.out; omega) _ _ _ _ _ _ _) HV.out HOK.out
                  · have hss : (S.toList == s.toList) = false := beq_eq_false_iff_ne.2 fun e => hSs (ba_ext e)
                    have HNO := Lib.hid (show ∀ d, validB d = true → fmtL d = s.data.toList → False from fun d h1 h2 => by
                      have h3 := HDD.out d h1 h2
                      refine hSs ?_
                      rw [← HS.out, h3]
                      exact Go.WideShapes.bytes_inj (by simpa using h2))
                    clear hSs
                    have r0 : w9.cell? ⟨R, 0, none⟩ = some (.int .i64 0) := QR9.out.cell 0
                    have r1 : w9.cell? ⟨R, 1, none⟩ = some (.int .i64 0) := QR9.out.cell 1
                    have r2 : w9.cell? ⟨R, 2, none⟩ = some (.int .i64 0) := QR9.out.cell 2
                    have r3 : w9.cell? ⟨R, 3, none⟩ = some (.string ⟨#[]⟩) := QR9.out.cell 3
                    have r4 : w9.cell? ⟨R, 4, none⟩ = some (.string ⟨#[]⟩) := QR9.out.cell 4
                    have r5 : w9.cell? ⟨R, 5, none⟩ = some (.slice none 0 0) := QR9.out.cell 5
                    have r6 : w9.cell? ⟨R, 6, none⟩ = some (.slice none 0 0) := QR9.out.cell 6
                    have f0 := QR9.out.frozen 0
                    have f1 := QR9.out.frozen 1
                    have f2 := QR9.out.frozen 2
                    have f3 := QR9.out.frozen 3
                    have f4 := QR9.out.frozen 4
                    have f5 := QR9.out.frozen 5
                    have f6 := QR9.out.frozen 6
                    go_wp2_with fail
                    (try simp only [Exit.inBlock, Exit.then])
                    refine bodyPost_ret (results_row_tmp rfl _ _ R 25 _ _ rfl (Blk.set7 QR9.out) Tryz.underlying25 rfl (by kernel_rfl)) rfl ?_
                    exact RefPost.no (below_set7 B9.out (by have := HL.out; omega) _ _ _ _ _ _ _) HNO.out
      · by_cases k12 : K = 12
        · skip
          subst k12
          clear k11
          by_cases h2 : 2 ≤ wt.length
          · obtain ⟨n1, n2, wt', rfl⟩ : ∃ n1 n2 wt', wt = n1 :: n2 :: wt' := by
              cases wt with
              | nil => exact absurd h2 (by simp)
              | cons a l =>
                cases l with
                | nil => exact absurd h2 (by simp)
                | cons b l => exact ⟨a, b, l, rfl⟩
            obtain ⟨wt, rfl⟩ : ∃ wt, wt = wt' := ⟨_, rfl⟩
            clear h2
            have HREST := Lib.hid (show ∀ d, validB d = true → fmtL d = s.data.toList → 12 = d.k ∧ wt = (numsK d).map istr ∧ (∀ z ∈ numsK d, Small z) ∧ finK 12 n1 n2 (numsK d) = d from fun d y1 y2 => by
              obtain ⟨g1, g2, g3, g4⟩ := HX2.out d y1 y2
              rw [← g1] at g2 g3
              simp [preK] at g2
              obtain ⟨e1, e2, e3⟩ := g2
              rw [← e1, ← e2] at g3
              exact ⟨g1, by first | exact e3 | simpa using e3, g4, g3⟩)
            have HNM := Lib.hid (show n1.size ≤ 1000000 ∧ n2.size ≤ 1000000 from ⟨HWZ.out n1 (by simp), HWZ.out n2 (by simp)⟩)
            have HWZ2 := Lib.hid (show ∀ x ∈ wt, x.size ≤ 1000000 from fun x hx => HWZ.out x (by simp [hx]))
            have HWZ1 := HWZ
            obtain ⟨b4, o4, rfl, _⟩ := strs_cons HST4.out
            have hb4 : b4 < M := (HST4.out.2 (by simp)).elim fun _ h => by obtain ⟨_, h1, h2, _⟩ := h; cases h1; exact h2
            have hb4M : M ≠ b4 := by omega
            have cn0 : wr.cell? ⟨b4, o4, none⟩ = some (.string n1) := by
              obtain ⟨b, off, s', h1, h2, h3, h4⟩ := HST4.out.at_ (k := 0) (by simp)
              cases h1
              cases h3
              exact h4
            have cn1 : wr.cell? ⟨b4, o4 + 1, none⟩ = some (.string n2) := by
              obtain ⟨b, off, s', h1, h2, h3, h4⟩ := HST4.out.at_ (k := 1) (by simp)
              cases h1
              cases h3
              exact h4
            obtain ⟨c4, hc4⟩ : ∃ c4, c - 1 = c4 := ⟨_, rfl⟩
            obtain ⟨n4, hn4⟩ : ∃ n4, (n1 :: n2 :: wt).length = n4 := ⟨_, rfl⟩
            rw [hc4, hn4]
            have hn4' : n4 = wt.length + 2 := by rw [← hn4]; rfl
            have hc4' : n4 ≤ c4 := by omega
            have hwt2 : wt.length ≤ 1000000 := by omega
            have hcut : Strs wr M (if c4 = 2 then some ⟨b4, o4, none⟩ else some ⟨b4, o4 + 2, none⟩) wt.length wt := Strs.cutK (k := 2) (pre := [n1, n2]) (by have := HST4.out; rw [hn4, hn4', Nat.add_comm] at this; exact this) rfl (by omega)
            obtain ⟨A5, hA5⟩ : ∃ A5, (if c4 = 2 then some (⟨b4, o4, none⟩ : Addr) else some ⟨b4, o4 + 2, none⟩) = A5 := ⟨_, rfl⟩
            obtain ⟨c5, hc5⟩ : ∃ c5, c4 - 2 = c5 := ⟨_, rfl⟩
            rw [hA5] at hcut
            have HS5 := Lib.hid hcut
            have hn5 : n4 - 2 = wt.length := by omega
            have hcc5 : wt.length ≤ c5 := by omega
            have hi1 : (2 : Int) ≤ (n4 : Int) := by omega
            have hi2 : (n4 : Int) ≤ (c4 : Int) := by omega
            have hi3 : (2 : Int) ≤ (c4 : Int) := by omega
            have hx0 : (0 : Int) < (n4 : Int) := by omega
            have hx1 : (1 : Int) < (n4 : Int) := by omega
            clear hcut hc4 hn4 hn4' hc4' hcz hnz hnc
            have m3 : wr.cell? ⟨M, 3, none⟩ = some (.string ⟨#[]⟩) := HM.out.cell 3
            have f3 := HM.out.frozen 3
            have m4 : wr.cell? ⟨M, 4, none⟩ = some (.string ⟨#[]⟩) := HM.out.cell 4
            have f4 := HM.out.frozen 4
            go_upto_region 13 with fail
            go_cut [66] (fun v U => v = .string n1 ∧ U = ((wr.setCell ⟨M, 3, none⟩ (.string n1)).setCell ⟨M, 4, none⟩ (.string n2)).drew)
            case first =>
              go_region_with (fail)
              all_goals
                go_wp2_with fail
                go_meet
                exact ⟨rfl, rfl⟩
            case rest =>
            obtain ⟨rfl, rfl⟩ := hcut
            go_upto_region 18 with fail
            clear hA5 hc5 hn5
            have HM6 := Lib.hid ((HM.out.set 3 (.string n1)).set 4 (.string n2)).drew
            have HB6 := Lib.hid ((HB.out.setCell (p := ⟨M, 3, none⟩) (Nat.le_refl M) (.string n1)).setCell (p := ⟨M, 4, none⟩) (Nat.le_refl M) (.string n2)).drew
            have HST6 := Lib.hid (HS5.out.below (((Below.refl M wr).setCell (p := ⟨M, 3, none⟩) (Nat.le_refl M) (.string n1)).setCell (p := ⟨M, 4, none⟩) (Nat.le_refl M) (.string n2)).drew)
            generalize ((wr.setCell ⟨M, 3, none⟩ (.string n1)).setCell ⟨M, 4, none⟩ (.string n2)).drew = wx at HM6 HB6 HST6 ⊢
            clear HM HB HST4 c0 HS5
            have c0 : wx.cell? ⟨M, 0, none⟩ = some (.int .i64 12) := HM6.out.cell 0
            have HC := Lib.hid (integers26 A5 wt.length c5 wt wx (HST6.out.more (Nat.le_of_lt HM6.out.lt)) (by omega) HWZ2.out)
            go_wp2_with fail
            refine HC.out.mono ?_
            rintro e w5 ⟨A7, c7, zs, ok, rfl, hc7, hz, hzI, hzl, hfr, hzx, b5⟩
            have hMr := HM6.out.lt
            have HM5 := Lib.hid (HM6.out.below b5 hMr)
            have HB5 := Lib.hid (HB6.out.trans (b5.mono (Nat.le_of_lt hMr)))
            have hs5 := b5.size
            have HZ := Lib.hid hz
            have HFR := Lib.hid (show ∀ b o, A7 = some ⟨b, o, none⟩ → M < b from fun b o e => by have := hfr b o e; omega)
            have HZX := Lib.hid (show ∀ d, validB d = true → fmtL d = s.data.toList → ok = true ∧ zs = numsK d ∧ 12 = d.k ∧ finK 12 n1 n2 (numsK d) = d from fun d h1 h2 => by
              obtain ⟨g1, g2, g3, g4⟩ := HREST.out d h1 h2
              obtain ⟨g5, g6⟩ := hzx (numsK d) g3 g2
              exact ⟨g5, g6, g1, g4⟩)
            clear hz hfr hzx b5 HC HREST
            cases ok with
            | false =>
              have HNO := Lib.hid (show ∀ d, validB d = true → fmtL d = s.data.toList → False from fun d h1 h2 => absurd (HZX.out d h1 h2).1 (by decide))
              have QR5 := Lib.hid (QR3.out.below HB5.out hR2)
              have B5 := Lib.hid (B3.out.trans (HB5.out.mono hwM))
              have r0 : w5.cell? ⟨R, 0, none⟩ = some (.int .i64 0) := QR5.out.cell 0
              have r1 : w5.cell? ⟨R, 1, none⟩ = some (.int .i64 0) := QR5.out.cell 1
              have r2 : w5.cell? ⟨R, 2, none⟩ = some (.int .i64 0) := QR5.out.cell 2
              have r3 : w5.cell? ⟨R, 3, none⟩ = some (.string ⟨#[]⟩) := QR5.out.cell 3
              have r4 : w5.cell? ⟨R, 4, none⟩ = some (.string ⟨#[]⟩) := QR5.out.cell 4
              have r5 : w5.cell? ⟨R, 5, none⟩ = some (.slice none 0 0) := QR5.out.cell 5
              have r6 : w5.cell? ⟨R, 6, none⟩ = some (.slice none 0 0) := QR5.out.cell 6
              have f0 := QR5.out.frozen 0
              have f1 := QR5.out.frozen 1
              have f2 := QR5.out.frozen 2
              have f3 := QR5.out.frozen 3
              have f4 := QR5.out.frozen 4
              have f5 := QR5.out.frozen 5
              have f6 := QR5.out.frozen 6
              go_wp2_with fail
              (try simp only [Exit.inBlock, Exit.then])
              refine bodyPost_ret (results_row_tmp rfl _ _ R 25 _ _ rfl (Blk.set7 QR5.out) Tryz.underlying25 rfl (by kernel_rfl)) rfl ?_
              exact RefPost.no (below_set7 B5.out (by have := HL.out; omega) _ _ _ _ _ _ _) HNO.out
            | true =>
              have c0 : w5.cell? ⟨M, 0, none⟩ = some (.int .i64 12) := HM5.out.cell 0
              have m5 : w5.cell? ⟨M, 5, none⟩ = some (.slice none 0 0) := HM5.out.cell 5
              have f5 := HM5.out.frozen 5
              have hzl6 : zs.length ≤ 1000000 := by omega
              have HZL := Lib.hid hzl6
              clear hzl6
              go_upto_region 41 with fail
              obtain ⟨vF, hvF⟩ : ∃ vF : Av, (⟨12, 0, 0, n1, n2, A7, zs.length, c7, none, 0, 0⟩ : Av) = vF := ⟨_, rfl⟩
              obtain ⟨aF, haF⟩ : ∃ aF : Ad, (⟨12, 0, 0, n1, n2, zs, []⟩ : Ad) = aF := ⟨_, rfl⟩
              have qf : Blk (w5.setCell ⟨M, 5, none⟩ (.slice A7 zs.length c7)) M 25 vF.cells := by rw [← hvF]; exact (HM5.out.set 5 (.slice A7 zs.length c7))
              have bf : Below M w3 (w5.setCell ⟨M, 5, none⟩ (.slice A7 zs.length c7)) := (HB5.out.setCell (p := ⟨M, 5, none⟩) (Nat.le_refl M) (.slice A7 zs.length c7))
              have rf : Reads (w5.setCell ⟨M, 5, none⟩ (.slice A7 zs.length c7)) (w5.setCell ⟨M, 5, none⟩ (.slice A7 zs.length c7)).heap.size vF aF := by
                rw [← hvF, ← haF]
                have hz9 : Ints (w5.setCell ⟨M, 5, none⟩ (.slice A7 zs.length c7)) w5.heap.size A7 zs.length zs := Row.other HZ.out HFR.out (fun b hb => Below.heap_setCell _ _ _ b hb)
                exact ⟨rfl, rfl, rfl, rfl, rfl, by simpa using hz9, Ints.none _ _⟩
              have hvn : vF.n ≤ 1000000 := by rw [← hvF]; exact HZL.out
              have hvn2 : vF.n2 ≤ 1000000 := by rw [← hvF]; exact Nat.zero_le _
              have hap : vF.apart M := by rw [← hvF]; exact ⟨HFR.out, fun b o h => (by cases h)⟩
              have hnz : vF.nm.size ≤ 1000000 := by rw [← hvF]; exact HNM.out.1
              have hmz : vF.mt.size ≤ 1000000 := by rw [← hvF]; exact HNM.out.2
              have hdd : ∀ d, validB d = true → fmtL d = s.data.toList → aF = d := fun d h1 h2 => by
                obtain ⟨_, g2, g3, g4⟩ := HZX.out d h1 h2
                rw [← haF, ← g4, ← g2]
                first | rfl | simp [finK]
              generalize (w5.setCell ⟨M, 5, none⟩ (.slice A7 zs.length c7)) = wF at qf bf rf ⊢
              clear hvF haF HM5 HB5
              have QF := Lib.hid qf
              have RF := Lib.hid rf
              have BF := Lib.hid (B3.out.trans (bf.mono hwM))
              have QRF := Lib.hid (QR3.out.below bf hR2)
              have hMF := qf.lt
              have HAP := Lib.hid hap
              have HDD := Lib.hid hdd
              have H9 := Lib.hid (valid9 vF aF wF rf hvn hvn2 hnz hmz)
              clear qf bf rf hap hdd
              have c0 : wF.cell? ⟨M, 0, none⟩ = some (.int .i64 vF.k) := QF.out.cell 0
              have c1 : wF.cell? ⟨M, 1, none⟩ = some (.int .i64 vF.a) := QF.out.cell 1
              have c2 : wF.cell? ⟨M, 2, none⟩ = some (.int .i64 vF.b) := QF.out.cell 2
              have c3 : wF.cell? ⟨M, 3, none⟩ = some (.string vF.nm) := QF.out.cell 3
              have c4 : wF.cell? ⟨M, 4, none⟩ = some (.string vF.mt) := QF.out.cell 4
              have c5 : wF.cell? ⟨M, 5, none⟩ = some (.slice vF.A vF.n vF.c) := QF.out.cell 5
              have c6 : wF.cell? ⟨M, 6, none⟩ = some (.slice vF.A2 vF.n2 vF.c2) := QF.out.cell 6
              go_wp2_with fail
              refine H9.out.mono ?_
              rintro e w8 ⟨rfl, b8⟩
              have QF8 := Lib.hid (QF.out.below b8 hMF)
              have QR8 := Lib.hid (QRF.out.below b8 QRF.out.lt)
              have B8 := Lib.hid (BF.out.trans (b8.mono BF.out.size))
              have RF8 := Lib.hid ((RF.out.below b8).more b8.size)
              have hM8 := QF8.out.lt
              clear b8 H9 c0 c1 c2 c3 c4 c5 c6 QF QRF BF RF
              cases hv : validB aF with
              | false =>
                have HNO := Lib.hid (show ∀ d, validB d = true → fmtL d = s.data.toList → False from fun d h1 h2 => by
                  have := HDD.out d h1 h2
                  rw [this, h1] at hv
                  cases hv)
                clear hv
                have r0 : w8.cell? ⟨R, 0, none⟩ = some (.int .i64 0) := QR8.out.cell 0
                have r1 : w8.cell? ⟨R, 1, none⟩ = some (.int .i64 0) := QR8.out.cell 1
                have r2 : w8.cell? ⟨R, 2, none⟩ = some (.int .i64 0) := QR8.out.cell 2
                have r3 : w8.cell? ⟨R, 3, none⟩ = some (.string ⟨#[]⟩) := QR8.out.cell 3
                have r4 : w8.cell? ⟨R, 4, none⟩ = some (.string ⟨#[]⟩) := QR8.out.cell 4
                have r5 : w8.cell? ⟨R, 5, none⟩ = some (.slice none 0 0) := QR8.out.cell 5
                have r6 : w8.cell? ⟨R, 6, none⟩ = some (.slice none 0 0) := QR8.out.cell 6
                have f0 := QR8.out.frozen 0
                have f1 := QR8.out.frozen 1
                have f2 := QR8.out.frozen 2
                have f3 := QR8.out.frozen 3
                have f4 := QR8.out.frozen 4
                have f5 := QR8.out.frozen 5
                have f6 := QR8.out.frozen 6
                go_wp2_with fail
                (try simp only [Exit.inBlock, Exit.then])
                refine bodyPost_ret (results_row_tmp rfl _ _ R 25 _ _ rfl (Blk.set7 QR8.out) Tryz.underlying25 rfl (by kernel_rfl)) rfl ?_
                exact RefPost.no (below_set7 B8.out (by have := HL.out; omega) _ _ _ _ _ _ _) HNO.out
              | true =>
                obtain ⟨hwf, hz1, hz2, hz3, hz4⟩ := valid_wf hv
                have H7 := Lib.hid (fmt7 vF aF w8 RF8.out (by rw [← RF8.out.args.len]; omega) (by rw [← RF8.out.surv.len]; omega) (by rw [RF8.out.nm]; omega) (by rw [RF8.out.mt]; omega) hwf)
                obtain ⟨S, hS⟩ : ∃ S : ByteArray, ⟨(fmtL aF).toArray⟩ = S := ⟨_, rfl⟩
                rw [hS] at H7
                have HS := Lib.hid hS
                have HV := Lib.hid hv
                clear hwf hz1 hz2 hz3 hz4 hS hv
                have c0 : w8.cell? ⟨M, 0, none⟩ = some (.int .i64 vF.k) := QF8.out.cell 0
                have c1 : w8.cell? ⟨M, 1, none⟩ = some (.int .i64 vF.a) := QF8.out.cell 1
                have c2 : w8.cell? ⟨M, 2, none⟩ = some (.int .i64 vF.b) := QF8.out.cell 2
                have c3 : w8.cell? ⟨M, 3, none⟩ = some (.string vF.nm) := QF8.out.cell 3
                have c4 : w8.cell? ⟨M, 4, none⟩ = some (.string vF.mt) := QF8.out.cell 4
                have c5 : w8.cell? ⟨M, 5, none⟩ = some (.slice vF.A vF.n vF.c) := QF8.out.cell 5
                have c6 : w8.cell? ⟨M, 6, none⟩ = some (.slice vF.A2 vF.n2 vF.c2) := QF8.out.cell 6
                go_wp2_with fail
                refine H7.out.mono ?_
                rintro e w9 ⟨rfl, b9⟩
                have QF9 := Lib.hid (QF8.out.below b9 hM8)
                have QR9 := Lib.hid (QR8.out.below b9 QR8.out.lt)
                have B9 := Lib.hid (B8.out.trans (b9.mono B8.out.size))
                have RF9 := Lib.hid ((RF8.out.below b9).more b9.size)
                clear b9 H7 c0 c1 c2 c3 c4 c5 c6 QF8 QR8 B8 RF8
                by_cases hSs : S = s
                · have hss : (S.toList == s.toList) = true := by rw [hSs]; exact beq_self_eq_true _
                  have HOK := Lib.hid (show fmtL aF = s.data.toList from by rw [← hSs, ← HS.out])
                  clear hSs
                  have r0 : w9.cell? ⟨R, 0, none⟩ = some (.int .i64 0) := QR9.out.cell 0
                  have r1 : w9.cell? ⟨R, 1, none⟩ = some (.int .i64 0) := QR9.out.cell 1
                  have r2 : w9.cell? ⟨R, 2, none⟩ = some (.int .i64 0) := QR9.out.cell 2
                  have r3 : w9.cell? ⟨R, 3, none⟩ = some (.string ⟨#[]⟩) := QR9.out.cell 3
                  have r4 : w9.cell? ⟨R, 4, none⟩ = some (.string ⟨#[]⟩) := QR9.out.cell 4
                  have r5 : w9.cell? ⟨R, 5, none⟩ = some (.slice none 0 0) := QR9.out.cell 5
                  have r6 : w9.cell? ⟨R, 6, none⟩ = some (.slice none 0 0) := QR9.out.cell 6
                  have f0 := QR9.out.frozen 0
                  have f1 := QR9.out.frozen 1
                  have f2 := QR9.out.frozen 2
                  have f3 := QR9.out.frozen 3
                  have f4 := QR9.out.frozen 4
                  have f5 := QR9.out.frozen 5
                  have f6 := QR9.out.frozen 6
                  have c0 : w9.cell? ⟨M, 0, none⟩ = some (.int .i64 vF.k) := QF9.out.cell 0
                  have c1 : w9.cell? ⟨M, 1, none⟩ = some (.int .i64 vF.a) := QF9.out.cell 1
                  have c2 : w9.cell? ⟨M, 2, none⟩ = some (.int .i64 vF.b) := QF9.out.cell 2
                  have c3 : w9.cell? ⟨M, 3, none⟩ = some (.string vF.nm) := QF9.out.cell 3
                  have c4 : w9.cell? ⟨M, 4, none⟩ = some (.string vF.mt) := QF9.out.cell 4
                  have c5 : w9.cell? ⟨M, 5, none⟩ = some (.slice vF.A vF.n vF.c) := QF9.out.cell 5
                  have c6 : w9.cell? ⟨M, 6, none⟩ = some (.slice vF.A2 vF.n2 vF.c2) := QF9.out.cell 6
                  go_wp2_with fail
                  (try simp only [Exit.inBlock, Exit.then])
                  refine bodyPost_ret (results_row_tmp rfl _ _ R 25 _ _ rfl (Blk.set7 QR9.out) Tryz.underlying25 rfl (by kernel_rfl)) rfl ?_
                  exact RefPost.yes RF9.out HAP.out (by omega) hvn hvn2 (below_set7 B9.out (by have := HL.out; omega) _ _ _ _ _ _ _) HV.out HOK.out
                · have hss : (S.toList == s.toList) = false := beq_eq_false_iff_ne.2 fun e => hSs (ba_ext e)
                  have HNO := Lib.hid (show ∀ d, validB d = true → fmtL d = s.data.toList → False from fun d h1 h2 => by
                    have h3 := HDD.out d h1 h2
                    refine hSs ?_
                    rw [← HS.out, h3]
                    exact Go.WideShapes.bytes_inj (by simpa using h2))
                  clear hSs
                  have r0 : w9.cell? ⟨R, 0, none⟩ = some (.int .i64 0) := QR9.out.cell 0
                  have r1 : w9.cell? ⟨R, 1, none⟩ = some (.int .i64 0) := QR9.out.cell 1
                  have r2 : w9.cell? ⟨R, 2, none⟩ = some (.int .i64 0) := QR9.out.cell 2
                  have r3 : w9.cell? ⟨R, 3, none⟩ = some (.string ⟨#[]⟩) := QR9.out.cell 3
                  have r4 : w9.cell? ⟨R, 4, none⟩ = some (.string ⟨#[]⟩) := QR9.out.cell 4
                  have r5 : w9.cell? ⟨R, 5, none⟩ = some (.slice none 0 0) := QR9.out.cell 5
                  have r6 : w9.cell? ⟨R, 6, none⟩ = some (.slice none 0 0) := QR9.out.cell 6
                  have f0 := QR9.out.frozen 0
                  have f1 := QR9.out.frozen 1
                  have f2 := QR9.out.frozen 2
                  have f3 := QR9.out.frozen 3
                  have f4 := QR9.out.frozen 4
                  have f5 := QR9.out.frozen 5
                  have f6 := QR9.out.frozen 6
                  go_wp2_with fail
                  (try simp only [Exit.inBlock, Exit.then])
                  refine bodyPost_ret (results_row_tmp rfl _ _ R 25 _ _ rfl (Blk.set7 QR9.out) Tryz.underlying25 rfl (by kernel_rfl)) rfl ?_
                  exact RefPost.no (below_set7 B9.out (by have := HL.out; omega) _ _ _ _ _ _ _) HNO.out
          · have hg2 : ¬ (2 : Int) ≤ (wt.length : Int) := by omega
            have HREST := Lib.hid (show ∀ d, validB d = true → fmtL d = s.data.toList → 12 = d.k ∧ wt = (numsK d).map istr ∧ (∀ z ∈ numsK d, Small z) ∧ finK 12 ⟨#[]⟩ ⟨#[]⟩ (numsK d) = d from fun d y1 y2 => by
              obtain ⟨g1, g2, g3, g4⟩ := HX2.out d y1 y2
              rw [← g1] at g2 g3
              simp [preK, h2] at g2
              obtain ⟨e1, e2, e3⟩ := g2
              rw [← e1, ← e2] at g3
              exact ⟨g1, by first | exact e3 | simpa using e3, g4, g3⟩)
            have HNM := Lib.hid (show (⟨#[]⟩ : ByteArray).size ≤ 1000000 ∧ (⟨#[]⟩ : ByteArray).size ≤ 1000000 from by decide)
            have HWZ2 := HWZ
            clear h2
            have HC := Lib.hid (integers26 A4 wt.length (c - 1) wt wr (HST4.out.more (Nat.le_of_lt HM.out.lt)) (by omega) HWZ2.out)
            go_wp2_with fail
            refine HC.out.mono ?_
            rintro e w5 ⟨A7, c7, zs, ok, rfl, hc7, hz, hzI, hzl, hfr, hzx, b5⟩
            have hMr := HM.out.lt
            have HM5 := Lib.hid (HM.out.below b5 hMr)
            have HB5 := Lib.hid (HB.out.trans (b5.mono (Nat.le_of_lt hMr)))
            have hs5 := b5.size
            have HZ := Lib.hid hz
            have HFR := Lib.hid (show ∀ b o, A7 = some ⟨b, o, none⟩ → M < b from fun b o e => by have := hfr b o e; omega)
            have HZX := Lib.hid (show ∀ d, validB d = true → fmtL d = s.data.toList → ok = true ∧ zs = numsK d ∧ 12 = d.k ∧ finK 12 ⟨#[]⟩ ⟨#[]⟩ (numsK d) = d from fun d h1 h2 => by
              obtain ⟨g1, g2, g3, g4⟩ := HREST.out d h1 h2
              obtain ⟨g5, g6⟩ := hzx (numsK d) g3 g2
              exact ⟨g5, g6, g1, g4⟩)
            clear hz hfr hzx b5 HC HREST
            cases ok with
            | false =>
              have HNO := Lib.hid (show ∀ d, validB d = true → fmtL d = s.data.toList → False from fun d h1 h2 => absurd (HZX.out d h1 h2).1 (by decide))
              have QR5 := Lib.hid (QR3.out.below HB5.out hR2)
              have B5 := Lib.hid (B3.out.trans (HB5.out.mono hwM))
              have r0 : w5.cell? ⟨R, 0, none⟩ = some (.int .i64 0) := QR5.out.cell 0
              have r1 : w5.cell? ⟨R, 1, none⟩ = some (.int .i64 0) := QR5.out.cell 1
              have r2 : w5.cell? ⟨R, 2, none⟩ = some (.int .i64 0) := QR5.out.cell 2
              have r3 : w5.cell? ⟨R, 3, none⟩ = some (.string ⟨#[]⟩) := QR5.out.cell 3
              have r4 : w5.cell? ⟨R, 4, none⟩ = some (.string ⟨#[]⟩) := QR5.out.cell 4
              have r5 : w5.cell? ⟨R, 5, none⟩ = some (.slice none 0 0) := QR5.out.cell 5
              have r6 : w5.cell? ⟨R, 6, none⟩ = some (.slice none 0 0) := QR5.out.cell 6
              have f0 := QR5.out.frozen 0
              have f1 := QR5.out.frozen 1
              have f2 := QR5.out.frozen 2
              have f3 := QR5.out.frozen 3
              have f4 := QR5.out.frozen 4
              have f5 := QR5.out.frozen 5
              have f6 := QR5.out.frozen 6
              go_wp2_with fail
              (try simp only [Exit.inBlock, Exit.then])
              refine bodyPost_ret (results_row_tmp rfl _ _ R 25 _ _ rfl (Blk.set7 QR5.out) Tryz.underlying25 rfl (by kernel_rfl)) rfl ?_
              exact RefPost.no (below_set7 B5.out (by have := HL.out; omega) _ _ _ _ _ _ _) HNO.out
            | true =>
              have c0 : w5.cell? ⟨M, 0, none⟩ = some (.int .i64 12) := HM5.out.cell 0
              have m5 : w5.cell? ⟨M, 5, none⟩ = some (.slice none 0 0) := HM5.out.cell 5
              have f5 := HM5.out.frozen 5
              have hzl6 : zs.length ≤ 1000000 := by omega
              have HZL := Lib.hid hzl6
              clear hzl6
              go_upto_region 41 with fail
              obtain ⟨vF, hvF⟩ : ∃ vF : Av, (⟨12, 0, 0, ⟨#[]⟩, ⟨#[]⟩, A7, zs.length, c7, none, 0, 0⟩ : Av) = vF := ⟨_, rfl⟩
              obtain ⟨aF, haF⟩ : ∃ aF : Ad, (⟨12, 0, 0, ⟨#[]⟩, ⟨#[]⟩, zs, []⟩ : Ad) = aF := ⟨_, rfl⟩
              have qf : Blk (w5.setCell ⟨M, 5, none⟩ (.slice A7 zs.length c7)) M 25 vF.cells := by rw [← hvF]; exact (HM5.out.set 5 (.slice A7 zs.length c7))
              have bf : Below M w3 (w5.setCell ⟨M, 5, none⟩ (.slice A7 zs.length c7)) := (HB5.out.setCell (p := ⟨M, 5, none⟩) (Nat.le_refl M) (.slice A7 zs.length c7))
              have rf : Reads (w5.setCell ⟨M, 5, none⟩ (.slice A7 zs.length c7)) (w5.setCell ⟨M, 5, none⟩ (.slice A7 zs.length c7)).heap.size vF aF := by
                rw [← hvF, ← haF]
                have hz9 : Ints (w5.setCell ⟨M, 5, none⟩ (.slice A7 zs.length c7)) w5.heap.size A7 zs.length zs := Row.other HZ.out HFR.out (fun b hb => Below.heap_setCell _ _ _ b hb)
                exact ⟨rfl, rfl, rfl, rfl, rfl, by simpa using hz9, Ints.none _ _⟩
              have hvn : vF.n ≤ 1000000 := by rw [← hvF]; exact HZL.out
              have hvn2 : vF.n2 ≤ 1000000 := by rw [← hvF]; exact Nat.zero_le _
              have hap : vF.apart M := by rw [← hvF]; exact ⟨HFR.out, fun b o h => (by cases h)⟩
              have hnz : vF.nm.size ≤ 1000000 := by rw [← hvF]; exact HNM.out.1
              have hmz : vF.mt.size ≤ 1000000 := by rw [← hvF]; exact HNM.out.2
              have hdd : ∀ d, validB d = true → fmtL d = s.data.toList → aF = d := fun d h1 h2 => by
                obtain ⟨_, g2, g3, g4⟩ := HZX.out d h1 h2
                rw [← haF, ← g4, ← g2]
                first | rfl | simp [finK]
              generalize (w5.setCell ⟨M, 5, none⟩ (.slice A7 zs.length c7)) = wF at qf bf rf ⊢
              clear hvF haF HM5 HB5
              have QF := Lib.hid qf
              have RF := Lib.hid rf
              have BF := Lib.hid (B3.out.trans (bf.mono hwM))
              have QRF := Lib.hid (QR3.out.below bf hR2)
              have hMF := qf.lt
              have HAP := Lib.hid hap
              have HDD := Lib.hid hdd
              have H9 := Lib.hid (valid9 vF aF wF rf hvn hvn2 hnz hmz)
              clear qf bf rf hap hdd
              have c0 : wF.cell? ⟨M, 0, none⟩ = some (.int .i64 vF.k) := QF.out.cell 0
              have c1 : wF.cell? ⟨M, 1, none⟩ = some (.int .i64 vF.a) := QF.out.cell 1
              have c2 : wF.cell? ⟨M, 2, none⟩ = some (.int .i64 vF.b) := QF.out.cell 2
              have c3 : wF.cell? ⟨M, 3, none⟩ = some (.string vF.nm) := QF.out.cell 3
              have c4 : wF.cell? ⟨M, 4, none⟩ = some (.string vF.mt) := QF.out.cell 4
              have c5 : wF.cell? ⟨M, 5, none⟩ = some (.slice vF.A vF.n vF.c) := QF.out.cell 5
              have c6 : wF.cell? ⟨M, 6, none⟩ = some (.slice vF.A2 vF.n2 vF.c2) := QF.out.cell 6
              go_wp2_with fail
              refine H9.out.mono ?_
              rintro e w8 ⟨rfl, b8⟩
              have QF8 := Lib.hid (QF.out.below b8 hMF)
              have QR8 := Lib.hid (QRF.out.below b8 QRF.out.lt)
              have B8 := Lib.hid (BF.out.trans (b8.mono BF.out.size))
              have RF8 := Lib.hid ((RF.out.below b8).more b8.size)
              have hM8 := QF8.out.lt
              clear b8 H9 c0 c1 c2 c3 c4 c5 c6 QF QRF BF RF
              cases hv : validB aF with
              | false =>
                have HNO := Lib.hid (show ∀ d, validB d = true → fmtL d = s.data.toList → False from fun d h1 h2 => by
                  have := HDD.out d h1 h2
                  rw [this, h1] at hv
                  cases hv)
                clear hv
                have r0 : w8.cell? ⟨R, 0, none⟩ = some (.int .i64 0) := QR8.out.cell 0
                have r1 : w8.cell? ⟨R, 1, none⟩ = some (.int .i64 0) := QR8.out.cell 1
                have r2 : w8.cell? ⟨R, 2, none⟩ = some (.int .i64 0) := QR8.out.cell 2
                have r3 : w8.cell? ⟨R, 3, none⟩ = some (.string ⟨#[]⟩) := QR8.out.cell 3
                have r4 : w8.cell? ⟨R, 4, none⟩ = some (.string ⟨#[]⟩) := QR8.out.cell 4
                have r5 : w8.cell? ⟨R, 5, none⟩ = some (.slice none 0 0) := QR8.out.cell 5
                have r6 : w8.cell? ⟨R, 6, none⟩ = some (.slice none 0 0) := QR8.out.cell 6
                have f0 := QR8.out.frozen 0
                have f1 := QR8.out.frozen 1
                have f2 := QR8.out.frozen 2
                have f3 := QR8.out.frozen 3
                have f4 := QR8.out.frozen 4
                have f5 := QR8.out.frozen 5
                have f6 := QR8.out.frozen 6
                go_wp2_with fail
                (try simp only [Exit.inBlock, Exit.then])
                refine bodyPost_ret (results_row_tmp rfl _ _ R 25 _ _ rfl (Blk.set7 QR8.out) Tryz.underlying25 rfl (by kernel_rfl)) rfl ?_
                exact RefPost.no (below_set7 B8.out (by have := HL.out; omega) _ _ _ _ _ _ _) HNO.out
              | true =>
                obtain ⟨hwf, hz1, hz2, hz3, hz4⟩ := valid_wf hv
                have H7 := Lib.hid (fmt7 vF aF w8 RF8.out (by rw [← RF8.out.args.len]; omega) (by rw [← RF8.out.surv.len]; omega) (by rw [RF8.out.nm]; omega) (by rw [RF8.out.mt]; omega) hwf)
                obtain ⟨S, hS⟩ : ∃ S : ByteArray, ⟨(fmtL aF).toArray⟩ = S := ⟨_, rfl⟩
                rw [hS] at H7
                have HS := Lib.hid hS
                have HV := Lib.hid hv
                clear hwf hz1 hz2 hz3 hz4 hS hv
                have c0 : w8.cell? ⟨M, 0, none⟩ = some (.int .i64 vF.k) := QF8.out.cell 0
                have c1 : w8.cell? ⟨M, 1, none⟩ = some (.int .i64 vF.a) := QF8.out.cell 1
                have c2 : w8.cell? ⟨M, 2, none⟩ = some (.int .i64 vF.b) := QF8.out.cell 2
                have c3 : w8.cell? ⟨M, 3, none⟩ = some (.string vF.nm) := QF8.out.cell 3
                have c4 : w8.cell? ⟨M, 4, none⟩ = some (.string vF.mt) := QF8.out.cell 4
                have c5 : w8.cell? ⟨M, 5, none⟩ = some (.slice vF.A vF.n vF.c) := QF8.out.cell 5
                have c6 : w8.cell? ⟨M, 6, none⟩ = some (.slice vF.A2 vF.n2 vF.c2) := QF8.out.cell 6
                go_wp2_with fail
                refine H7.out.mono ?_
                rintro e w9 ⟨rfl, b9⟩
                have QF9 := Lib.hid (QF8.out.below b9 hM8)
                have QR9 := Lib.hid (QR8.out.below b9 QR8.out.lt)
                have B9 := Lib.hid (B8.out.trans (b9.mono B8.out.size))
                have RF9 := Lib.hid ((RF8.out.below b9).more b9.size)
                clear b9 H7 c0 c1 c2 c3 c4 c5 c6 QF8 QR8 B8 RF8
                by_cases hSs : S = s
                · have hss : (S.toList == s.toList) = true := by rw [hSs]; exact beq_self_eq_true _
                  have HOK := Lib.hid (show fmtL aF = s.data.toList from by rw [← hSs, ← HS.out])
                  clear hSs
                  have r0 : w9.cell? ⟨R, 0, none⟩ = some (.int .i64 0) := QR9.out.cell 0
                  have r1 : w9.cell? ⟨R, 1, none⟩ = some (.int .i64 0) := QR9.out.cell 1
                  have r2 : w9.cell? ⟨R, 2, none⟩ = some (.int .i64 0) := QR9.out.cell 2
                  have r3 : w9.cell? ⟨R, 3, none⟩ = some (.string ⟨#[]⟩) := QR9.out.cell 3
                  have r4 : w9.cell? ⟨R, 4, none⟩ = some (.string ⟨#[]⟩) := QR9.out.cell 4
                  have r5 : w9.cell? ⟨R, 5, none⟩ = some (.slice none 0 0) := QR9.out.cell 5
                  have r6 : w9.cell? ⟨R, 6, none⟩ = some (.slice none 0 0) := QR9.out.cell 6
                  have f0 := QR9.out.frozen 0
                  have f1 := QR9.out.frozen 1
                  have f2 := QR9.out.frozen 2
                  have f3 := QR9.out.frozen 3
                  have f4 := QR9.out.frozen 4
                  have f5 := QR9.out.frozen 5
                  have f6 := QR9.out.frozen 6
                  have c0 : w9.cell? ⟨M, 0, none⟩ = some (.int .i64 vF.k) := QF9.out.cell 0
                  have c1 : w9.cell? ⟨M, 1, none⟩ = some (.int .i64 vF.a) := QF9.out.cell 1
                  have c2 : w9.cell? ⟨M, 2, none⟩ = some (.int .i64 vF.b) := QF9.out.cell 2
                  have c3 : w9.cell? ⟨M, 3, none⟩ = some (.string vF.nm) := QF9.out.cell 3
                  have c4 : w9.cell? ⟨M, 4, none⟩ = some (.string vF.mt) := QF9.out.cell 4
                  have c5 : w9.cell? ⟨M, 5, none⟩ = some (.slice vF.A vF.n vF.c) := QF9.out.cell 5
                  have c6 : w9.cell? ⟨M, 6, none⟩ = some (.slice vF.A2 vF.n2 vF.c2) := QF9.out.cell 6
                  go_wp2_with fail
                  (try simp only [Exit.inBlock, Exit.then])
                  refine bodyPost_ret (results_row_tmp rfl _ _ R 25 _ _ rfl (Blk.set7 QR9.out) Tryz.underlying25 rfl (by kernel_rfl)) rfl ?_
                  exact RefPost.yes RF9.out HAP.out (by omega) hvn hvn2 (below_set7 B9.out (by have := HL.out; omega) _ _ _ _ _ _ _) HV.out HOK.out
                · have hss : (S.toList == s.toList) = false := beq_eq_false_iff_ne.2 fun e => hSs (ba_ext e)
                  have HNO := Lib.hid (show ∀ d, validB d = true → fmtL d = s.data.toList → False from fun d h1 h2 => by
                    have h3 := HDD.out d h1 h2
                    refine hSs ?_
                    rw [← HS.out, h3]
                    exact Go.WideShapes.bytes_inj (by simpa using h2))
                  clear hSs
                  have r0 : w9.cell? ⟨R, 0, none⟩ = some (.int .i64 0) := QR9.out.cell 0
                  have r1 : w9.cell? ⟨R, 1, none⟩ = some (.int .i64 0) := QR9.out.cell 1
                  have r2 : w9.cell? ⟨R, 2, none⟩ = some (.int .i64 0) := QR9.out.cell 2
                  have r3 : w9.cell? ⟨R, 3, none⟩ = some (.string ⟨#[]⟩) := QR9.out.cell 3
                  have r4 : w9.cell? ⟨R, 4, none⟩ = some (.string ⟨#[]⟩) := QR9.out.cell 4
                  have r5 : w9.cell? ⟨R, 5, none⟩ = some (.slice none 0 0) := QR9.out.cell 5
                  have r6 : w9.cell? ⟨R, 6, none⟩ = some (.slice none 0 0) := QR9.out.cell 6
                  have f0 := QR9.out.frozen 0
                  have f1 := QR9.out.frozen 1
                  have f2 := QR9.out.frozen 2
                  have f3 := QR9.out.frozen 3
                  have f4 := QR9.out.frozen 4
                  have f5 := QR9.out.frozen 5
                  have f6 := QR9.out.frozen 6
                  go_wp2_with fail
                  (try simp only [Exit.inBlock, Exit.then])
                  refine bodyPost_ret (results_row_tmp rfl _ _ R 25 _ _ rfl (Blk.set7 QR9.out) Tryz.underlying25 rfl (by kernel_rfl)) rfl ?_
                  exact RefPost.no (below_set7 B9.out (by have := HL.out; omega) _ _ _ _ _ _ _) HNO.out
        · by_cases k13 : K = 13
          · skip
            subst k13
            clear k11 k12
            cases wt with
            | nil =>
              have HREST := Lib.hid (show ∀ d, validB d = true → fmtL d = s.data.toList → 13 = d.k ∧ ([] : List ByteArray) = (numsK d).map istr ∧ (∀ z ∈ numsK d, Small z) ∧ finK 13 ⟨#[]⟩ ⟨#[]⟩ (numsK d) = d from fun d y1 y2 => by
                obtain ⟨g1, g2, g3, g4⟩ := HX2.out d y1 y2
                rw [← g1] at g2 g3
                simp [preK] at g2
                obtain ⟨e1, e2, e3⟩ := g2
                rw [← e1, ← e2] at g3
                exact ⟨g1, by first | exact e3 | simpa using e3, g4, g3⟩)
              have HNM := Lib.hid (show (⟨#[]⟩ : ByteArray).size ≤ 1000000 ∧ (⟨#[]⟩ : ByteArray).size ≤ 1000000 from by decide)
              have HWZ2 := HWZ
              have HC := Lib.hid (integers26 A4 0 (c - 1) [] wr (HST4.out.more (Nat.le_of_lt HM.out.lt)) (by omega) HWZ2.out)
              go_wp2_with fail
              refine HC.out.mono ?_
              rintro e w5 ⟨A7, c7, zs, ok, rfl, hc7, hz, hzI, hzl, hfr, hzx, b5⟩
              have hMr := HM.out.lt
              have HM5 := Lib.hid (HM.out.below b5 hMr)
              have HB5 := Lib.hid (HB.out.trans (b5.mono (Nat.le_of_lt hMr)))
              have hs5 := b5.size
              have HZ := Lib.hid hz
              have HFR := Lib.hid (show ∀ b o, A7 = some ⟨b, o, none⟩ → M < b from fun b o e => by have := hfr b o e; omega)
              have HZX := Lib.hid (show ∀ d, validB d = true → fmtL d = s.data.toList → ok = true ∧ zs = numsK d ∧ 13 = d.k ∧ finK 13 ⟨#[]⟩ ⟨#[]⟩ (numsK d) = d from fun d h1 h2 => by
                obtain ⟨g1, g2, g3, g4⟩ := HREST.out d h1 h2
                obtain ⟨g5, g6⟩ := hzx (numsK d) g3 g2
                exact ⟨g5, g6, g1, g4⟩)
              clear hz hfr hzx b5 HC HREST
              cases ok with
              | false =>
                have HNO := Lib.hid (show ∀ d, validB d = true → fmtL d = s.data.toList → False from fun d h1 h2 => absurd (HZX.out d h1 h2).1 (by decide))
                have QR5 := Lib.hid (QR3.out.below HB5.out hR2)
                have B5 := Lib.hid (B3.out.trans (HB5.out.mono hwM))
                have r0 : w5.cell? ⟨R, 0, none⟩ = some (.int .i64 0) := QR5.out.cell 0
                have r1 : w5.cell? ⟨R, 1, none⟩ = some (.int .i64 0) := QR5.out.cell 1
                have r2 : w5.cell? ⟨R, 2, none⟩ = some (.int .i64 0) := QR5.out.cell 2
                have r3 : w5.cell? ⟨R, 3, none⟩ = some (.string ⟨#[]⟩) := QR5.out.cell 3
                have r4 : w5.cell? ⟨R, 4, none⟩ = some (.string ⟨#[]⟩) := QR5.out.cell 4
                have r5 : w5.cell? ⟨R, 5, none⟩ = some (.slice none 0 0) := QR5.out.cell 5
                have r6 : w5.cell? ⟨R, 6, none⟩ = some (.slice none 0 0) := QR5.out.cell 6
                have f0 := QR5.out.frozen 0
                have f1 := QR5.out.frozen 1
                have f2 := QR5.out.frozen 2
                have f3 := QR5.out.frozen 3
                have f4 := QR5.out.frozen 4
                have f5 := QR5.out.frozen 5
                have f6 := QR5.out.frozen 6
                go_wp2_with fail
                (try simp only [Exit.inBlock, Exit.then])
                refine bodyPost_ret (results_row_tmp rfl _ _ R 25 _ _ rfl (Blk.set7 QR5.out) Tryz.underlying25 rfl (by kernel_rfl)) rfl ?_
                exact RefPost.no (below_set7 B5.out (by have := HL.out; omega) _ _ _ _ _ _ _) HNO.out
              | true =>
                have c0 : w5.cell? ⟨M, 0, none⟩ = some (.int .i64 13) := HM5.out.cell 0
                cases zs with
                | nil =>
                  go_upto_region 41 with fail
                  obtain ⟨vF, hvF⟩ : ∃ vF : Av, (⟨13, 0, 0, ⟨#[]⟩, ⟨#[]⟩, none, 0, 0, none, 0, 0⟩ : Av) = vF := ⟨_, rfl⟩
                  obtain ⟨aF, haF⟩ : ∃ aF : Ad, (⟨13, 0, 0, ⟨#[]⟩, ⟨#[]⟩, [], []⟩ : Ad) = aF := ⟨_, rfl⟩
                  have qf : Blk w5 M 25 vF.cells := by rw [← hvF]; exact HM5.out
                  have bf : Below M w3 w5 := HB5.out
                  have rf : Reads w5 w5.heap.size vF aF := by
                    rw [← hvF, ← haF]
                    exact ⟨rfl, rfl, rfl, rfl, rfl, Ints.none _ _, Ints.none _ _⟩
                  have hvn : vF.n ≤ 1000000 := by rw [← hvF]; exact Nat.zero_le _
                  have hvn2 : vF.n2 ≤ 1000000 := by rw [← hvF]; exact Nat.zero_le _
                  have hap : vF.apart M := by rw [← hvF]; exact ⟨fun b o h => (by cases h), fun b o h => (by cases h)⟩
                  have hnz : vF.nm.size ≤ 1000000 := by rw [← hvF]; exact HNM.out.1
                  have hmz : vF.mt.size ≤ 1000000 := by rw [← hvF]; exact HNM.out.2
                  have hdd : ∀ d, validB d = true → fmtL d = s.data.toList → aF = d := fun d h1 h2 => by
                    obtain ⟨_, g2, g3, g4⟩ := HZX.out d h1 h2
                    rw [← haF, ← g4, ← g2]
                    first | rfl | simp [finK]
                  generalize w5 = wF at qf bf rf ⊢
                  clear hvF haF HM5 HB5
                  have QF := Lib.hid qf
                  have RF := Lib.hid rf
                  have BF := Lib.hid (B3.out.trans (bf.mono hwM))
                  have QRF := Lib.hid (QR3.out.below bf hR2)
                  have hMF := qf.lt
                  have HAP := Lib.hid hap
                  have HDD := Lib.hid hdd
                  have H9 := Lib.hid (valid9 vF aF wF rf hvn hvn2 hnz hmz)
                  clear qf bf rf hap hdd
                  have c0 : wF.cell? ⟨M, 0, none⟩ = some (.int .i64 vF.k) := QF.out.cell 0
                  have c1 : wF.cell? ⟨M, 1, none⟩ = some (.int .i64 vF.a) := QF.out.cell 1
                  have c2 : wF.cell? ⟨M, 2, none⟩ = some (.int .i64 vF.b) := QF.out.cell 2
                  have c3 : wF.cell? ⟨M, 3, none⟩ = some (.string vF.nm) := QF.out.cell 3
                  have c4 : wF.cell? ⟨M, 4, none⟩ = some (.string vF.mt) := QF.out.cell 4
                  have c5 : wF.cell? ⟨M, 5, none⟩ = some (.slice vF.A vF.n vF.c) := QF.out.cell 5
                  have c6 : wF.cell? ⟨M, 6, none⟩ = some (.slice vF.A2 vF.n2 vF.c2) := QF.out.cell 6
                  go_wp2_with fail
                  refine H9.out.mono ?_
                  rintro e w8 ⟨rfl, b8⟩
                  have QF8 := Lib.hid (QF.out.below b8 hMF)
                  have QR8 := Lib.hid (QRF.out.below b8 QRF.out.lt)
                  have B8 := Lib.hid (BF.out.trans (b8.mono BF.out.size))
                  have RF8 := Lib.hid ((RF.out.below b8).more b8.size)
                  have hM8 := QF8.out.lt
                  clear b8 H9 c0 c1 c2 c3 c4 c5 c6 QF QRF BF RF
                  cases hv : validB aF with
                  | false =>
                    have HNO := Lib.hid (show ∀ d, validB d = true → fmtL d = s.data.toList → False from fun d h1 h2 => by
                      have := HDD.out d h1 h2
                      rw [this, h1] at hv
                      cases hv)
                    clear hv
                    have r0 : w8.cell? ⟨R, 0, none⟩ = some (.int .i64 0) := QR8.out.cell 0
                    have r1 : w8.cell? ⟨R, 1, none⟩ = some (.int .i64 0) := QR8.out.cell 1
                    have r2 : w8.cell? ⟨R, 2, none⟩ = some (.int .i64 0) := QR8.out.cell 2
                    have r3 : w8.cell? ⟨R, 3, none⟩ = some (.string ⟨#[]⟩) := QR8.out.cell 3
                    have r4 : w8.cell? ⟨R, 4, none⟩ = some (.string ⟨#[]⟩) := QR8.out.cell 4
                    have r5 : w8.cell? ⟨R, 5, none⟩ = some (.slice none 0 0) := QR8.out.cell 5
                    have r6 : w8.cell? ⟨R, 6, none⟩ = some (.slice none 0 0) := QR8.out.cell 6
                    have f0 := QR8.out.frozen 0
                    have f1 := QR8.out.frozen 1
                    have f2 := QR8.out.frozen 2
                    have f3 := QR8.out.frozen 3
                    have f4 := QR8.out.frozen 4
                    have f5 := QR8.out.frozen 5
                    have f6 := QR8.out.frozen 6
                    go_wp2_with fail
                    (try simp only [Exit.inBlock, Exit.then])
                    refine bodyPost_ret (results_row_tmp rfl _ _ R 25 _ _ rfl (Blk.set7 QR8.out) Tryz.underlying25 rfl (by kernel_rfl)) rfl ?_
                    exact RefPost.no (below_set7 B8.out (by have := HL.out; omega) _ _ _ _ _ _ _) HNO.out
                  | true =>
                    obtain ⟨hwf, hz1, hz2, hz3, hz4⟩ := valid_wf hv
                    have H7 := Lib.hid (fmt7 vF aF w8 RF8.out (by rw [← RF8.out.args.len]; omega) (by rw [← RF8.out.surv.len]; omega) (by rw [RF8.out.nm]; omega) (by rw [RF8.out.mt]; omega) hwf)
                    obtain ⟨S, hS⟩ : ∃ S : ByteArray, ⟨(fmtL aF).toArray⟩ = S := ⟨_, rfl⟩
                    rw [hS] at H7
                    have HS := Lib.hid hS
                    have HV := Lib.hid hv
                    clear hwf hz1 hz2 hz3 hz4 hS hv
                    have c0 : w8.cell? ⟨M, 0, none⟩ = some (.int .i64 vF.k) := QF8.out.cell 0
                    have c1 : w8.cell? ⟨M, 1, none⟩ = some (.int .i64 vF.a) := QF8.out.cell 1
                    have c2 : w8.cell? ⟨M, 2, none⟩ = some (.int .i64 vF.b) := QF8.out.cell 2
                    have c3 : w8.cell? ⟨M, 3, none⟩ = some (.string vF.nm) := QF8.out.cell 3
                    have c4 : w8.cell? ⟨M, 4, none⟩ = some (.string vF.mt) := QF8.out.cell 4
                    have c5 : w8.cell? ⟨M, 5, none⟩ = some (.slice vF.A vF.n vF.c) := QF8.out.cell 5
                    have c6 : w8.cell? ⟨M, 6, none⟩ = some (.slice vF.A2 vF.n2 vF.c2) := QF8.out.cell 6
                    go_wp2_with fail
                    refine H7.out.mono ?_
                    rintro e w9 ⟨rfl, b9⟩
                    have QF9 := Lib.hid (QF8.out.below b9 hM8)
                    have QR9 := Lib.hid (QR8.out.below b9 QR8.out.lt)
                    have B9 := Lib.hid (B8.out.trans (b9.mono B8.out.size))
                    have RF9 := Lib.hid ((RF8.out.below b9).more b9.size)
                    clear b9 H7 c0 c1 c2 c3 c4 c5 c6 QF8 QR8 B8 RF8
                    by_cases hSs : S = s
                    · have hss : (S.toList == s.toList) = true := by rw [hSs]; exact beq_self_eq_true _
                      have HOK := Lib.hid (show fmtL aF = s.data.toList from by rw [← hSs, ← HS.out])
                      clear hSs
                      have r0 : w9.cell? ⟨R, 0, none⟩ = some (.int .i64 0) := QR9.out.cell 0
                      have r1 : w9.cell? ⟨R, 1, none⟩ = some (.int .i64 0) := QR9.out.cell 1
                      have r2 : w9.cell? ⟨R, 2, none⟩ = some (.int .i64 0) := QR9.out.cell 2
                      have r3 : w9.cell? ⟨R, 3, none⟩ = some (.string ⟨#[]⟩) := QR9.out.cell 3
                      have r4 : w9.cell? ⟨R, 4, none⟩ = some (.string ⟨#[]⟩) := QR9.out.cell 4
                      have r5 : w9.cell? ⟨R, 5, none⟩ = some (.slice none 0 0) := QR9.out.cell 5
                      have r6 : w9.cell? ⟨R, 6, none⟩ = some (.slice none 0 0) := QR9.out.cell 6
                      have f0 := QR9.out.frozen 0
                      have f1 := QR9.out.frozen 1
                      have f2 := QR9.out.frozen 2
                      have f3 := QR9.out.frozen 3
                      have f4 := QR9.out.frozen 4
                      have f5 := QR9.out.frozen 5
                      have f6 := QR9.out.frozen 6
                      have c0 : w9.cell? ⟨M, 0, none⟩ = some (.int .i64 vF.k) := QF9.out.cell 0
                      have c1 : w9.cell? ⟨M, 1, none⟩ = some (.int .i64 vF.a) := QF9.out.cell 1
                      have c2 : w9.cell? ⟨M, 2, none⟩ = some (.int .i64 vF.b) := QF9.out.cell 2
                      have c3 : w9.cell? ⟨M, 3, none⟩ = some (.string vF.nm) := QF9.out.cell 3
                      have c4 : w9.cell? ⟨M, 4, none⟩ = some (.string vF.mt) := QF9.out.cell 4
                      have c5 : w9.cell? ⟨M, 5, none⟩ = some (.slice vF.A vF.n vF.c) := QF9.out.cell 5
                      have c6 : w9.cell? ⟨M, 6, none⟩ = some (.slice vF.A2 vF.n2 vF.c2) := QF9.out.cell 6
                      go_wp2_with fail
                      (try simp only [Exit.inBlock, Exit.then])
                      refine bodyPost_ret (results_row_tmp rfl _ _ R 25 _ _ rfl (Blk.set7 QR9.out) Tryz.underlying25 rfl (by kernel_rfl)) rfl ?_
                      exact RefPost.yes RF9.out HAP.out (by omega) hvn hvn2 (below_set7 B9.out (by have := HL.out; omega) _ _ _ _ _ _ _) HV.out HOK.out
                    · have hss : (S.toList == s.toList) = false := beq_eq_false_iff_ne.2 fun e => hSs (ba_ext e)
                      have HNO := Lib.hid (show ∀ d, validB d = true → fmtL d = s.data.toList → False from fun d h1 h2 => by
                        have h3 := HDD.out d h1 h2
                        refine hSs ?_
                        rw [← HS.out, h3]
                        exact Go.WideShapes.bytes_inj (by simpa using h2))
                      clear hSs
                      have r0 : w9.cell? ⟨R, 0, none⟩ = some (.int .i64 0) := QR9.out.cell 0
                      have r1 : w9.cell? ⟨R, 1, none⟩ = some (.int .i64 0) := QR9.out.cell 1
                      have r2 : w9.cell? ⟨R, 2, none⟩ = some (.int .i64 0) := QR9.out.cell 2
                      have r3 : w9.cell? ⟨R, 3, none⟩ = some (.string ⟨#[]⟩) := QR9.out.cell 3
                      have r4 : w9.cell? ⟨R, 4, none⟩ = some (.string ⟨#[]⟩) := QR9.out.cell 4
                      have r5 : w9.cell? ⟨R, 5, none⟩ = some (.slice none 0 0) := QR9.out.cell 5
                      have r6 : w9.cell? ⟨R, 6, none⟩ = some (.slice none 0 0) := QR9.out.cell 6
                      have f0 := QR9.out.frozen 0
                      have f1 := QR9.out.frozen 1
                      have f2 := QR9.out.frozen 2
                      have f3 := QR9.out.frozen 3
                      have f4 := QR9.out.frozen 4
                      have f5 := QR9.out.frozen 5
                      have f6 := QR9.out.frozen 6
                      go_wp2_with fail
                      (try simp only [Exit.inBlock, Exit.then])
                      refine bodyPost_ret (results_row_tmp rfl _ _ R 25 _ _ rfl (Blk.set7 QR9.out) Tryz.underlying25 rfl (by kernel_rfl)) rfl ?_
                      exact RefPost.no (below_set7 B9.out (by have := HL.out; omega) _ _ _ _ _ _ _) HNO.out
                | cons z1 zr => exact absurd hzl (by simp)
            | cons n1 wt =>
              have HREST := Lib.hid (show ∀ d, validB d = true → fmtL d = s.data.toList → 13 = d.k ∧ wt = (numsK d).map istr ∧ (∀ z ∈ numsK d, Small z) ∧ finK 13 n1 ⟨#[]⟩ (numsK d) = d from fun d y1 y2 => by
                obtain ⟨g1, g2, g3, g4⟩ := HX2.out d y1 y2
                rw [← g1] at g2 g3
                simp [preK] at g2
                obtain ⟨e1, e2, e3⟩ := g2
                rw [← e1, ← e2] at g3
                exact ⟨g1, by first | exact e3 | simpa using e3, g4, g3⟩)
              have HNM := Lib.hid (show n1.size ≤ 1000000 ∧ (⟨#[]⟩ : ByteArray).size ≤ 1000000 from ⟨HWZ.out n1 (by simp), by decide⟩)
              have HWZ2 := Lib.hid (show ∀ x ∈ wt, x.size ≤ 1000000 from fun x hx => HWZ.out x (by simp [hx]))
              have HWZ1 := HWZ
              obtain ⟨b4, o4, rfl, _⟩ := strs_cons HST4.out
              have hb4 : b4 < M := (HST4.out.2 (by simp)).elim fun _ h => by obtain ⟨_, h1, h2, _⟩ := h; cases h1; exact h2
              have hb4M : M ≠ b4 := by omega
              have cn0 : wr.cell? ⟨b4, o4, none⟩ = some (.string n1) := by
                obtain ⟨b, off, s', h1, h2, h3, h4⟩ := HST4.out.at_ (k := 0) (by simp)
                cases h1
                cases h3
                exact h4
              obtain ⟨c4, hc4⟩ : ∃ c4, c - 1 = c4 := ⟨_, rfl⟩
              obtain ⟨n4, hn4⟩ : ∃ n4, (n1 :: wt).length = n4 := ⟨_, rfl⟩
              rw [hc4, hn4]
              have hn4' : n4 = wt.length + 1 := by rw [← hn4]; rfl
              have hc4' : n4 ≤ c4 := by omega
              have hwt2 : wt.length ≤ 1000000 := by omega
              have hcut : Strs wr M (if c4 = 1 then some ⟨b4, o4, none⟩ else some ⟨b4, o4 + 1, none⟩) wt.length wt := Strs.cutK (k := 1) (pre := [n1]) (by have := HST4.out; rw [hn4, hn4', Nat.add_comm] at this; exact this) rfl (by omega)
              obtain ⟨A5, hA5⟩ : ∃ A5, (if c4 = 1 then some (⟨b4, o4, none⟩ : Addr) else some ⟨b4, o4 + 1, none⟩) = A5 := ⟨_, rfl⟩
              obtain ⟨c5, hc5⟩ : ∃ c5, c4 - 1 = c5 := ⟨_, rfl⟩
              rw [hA5] at hcut
              have HS5 := Lib.hid hcut
              have hn5 : n4 - 1 = wt.length := by omega
              have hcc5 : wt.length ≤ c5 := by omega
              have hi1 : (1 : Int) ≤ (n4 : Int) := by omega
              have hi2 : (n4 : Int) ≤ (c4 : Int) := by omega
              have hi3 : (1 : Int) ≤ (c4 : Int) := by omega
              have hx0 : (0 : Int) < (n4 : Int) := by omega
              clear hcut hc4 hn4 hn4' hc4' hcz hnz hnc
              have m3 : wr.cell? ⟨M, 3, none⟩ = some (.string ⟨#[]⟩) := HM.out.cell 3
              have f3 := HM.out.frozen 3
              go_upto_region 18 with fail
              clear hA5 hc5 hn5
              have HM6 := Lib.hid (HM.out.set 3 (.string n1))
              have HB6 := Lib.hid (HB.out.setCell (p := ⟨M, 3, none⟩) (Nat.le_refl M) (.string n1))
              have HST6 := Lib.hid (HS5.out.below ((Below.refl M wr).setCell (p := ⟨M, 3, none⟩) (Nat.le_refl M) (.string n1)))
              generalize (wr.setCell ⟨M, 3, none⟩ (.string n1)) = wx at HM6 HB6 HST6 ⊢
              clear HM HB HST4 c0 HS5
              have c0 : wx.cell? ⟨M, 0, none⟩ = some (.int .i64 13) := HM6.out.cell 0
              have HC := Lib.hid (integers26 A5 wt.length c5 wt wx (HST6.out.more (Nat.le_of_lt HM6.out.lt)) (by omega) HWZ2.out)
              go_wp2_with fail
              refine HC.out.mono ?_
              rintro e w5 ⟨A7, c7, zs, ok, rfl, hc7, hz, hzI, hzl, hfr, hzx, b5⟩
              have hMr := HM6.out.lt
              have HM5 := Lib.hid (HM6.out.below b5 hMr)
              have HB5 := Lib.hid (HB6.out.trans (b5.mono (Nat.le_of_lt hMr)))
              have hs5 := b5.size
              have HZ := Lib.hid hz
              have HFR := Lib.hid (show ∀ b o, A7 = some ⟨b, o, none⟩ → M < b from fun b o e => by have := hfr b o e; omega)
              have HZX := Lib.hid (show ∀ d, validB d = true → fmtL d = s.data.toList → ok = true ∧ zs = numsK d ∧ 13 = d.k ∧ finK 13 n1 ⟨#[]⟩ (numsK d) = d from fun d h1 h2 => by
                obtain ⟨g1, g2, g3, g4⟩ := HREST.out d h1 h2
                obtain ⟨g5, g6⟩ := hzx (numsK d) g3 g2
                exact ⟨g5, g6, g1, g4⟩)
              clear hz hfr hzx b5 HC HREST
              cases ok with
              | false =>
                have HNO := Lib.hid (show ∀ d, validB d = true → fmtL d = s.data.toList → False from fun d h1 h2 => absurd (HZX.out d h1 h2).1 (by decide))
                have QR5 := Lib.hid (QR3.out.below HB5.out hR2)
                have B5 := Lib.hid (B3.out.trans (HB5.out.mono hwM))
                have r0 : w5.cell? ⟨R, 0, none⟩ = some (.int .i64 0) := QR5.out.cell 0
                have r1 : w5.cell? ⟨R, 1, none⟩ = some (.int .i64 0) := QR5.out.cell 1
                have r2 : w5.cell? ⟨R, 2, none⟩ = some (.int .i64 0) := QR5.out.cell 2
                have r3 : w5.cell? ⟨R, 3, none⟩ = some (.string ⟨#[]⟩) := QR5.out.cell 3
                have r4 : w5.cell? ⟨R, 4, none⟩ = some (.string ⟨#[]⟩) := QR5.out.cell 4
                have r5 : w5.cell? ⟨R, 5, none⟩ = some (.slice none 0 0) := QR5.out.cell 5
                have r6 : w5.cell? ⟨R, 6, none⟩ = some (.slice none 0 0) := QR5.out.cell 6
                have f0 := QR5.out.frozen 0
                have f1 := QR5.out.frozen 1
                have f2 := QR5.out.frozen 2
                have f3 := QR5.out.frozen 3
                have f4 := QR5.out.frozen 4
                have f5 := QR5.out.frozen 5
                have f6 := QR5.out.frozen 6
                go_wp2_with fail
                (try simp only [Exit.inBlock, Exit.then])
                refine bodyPost_ret (results_row_tmp rfl _ _ R 25 _ _ rfl (Blk.set7 QR5.out) Tryz.underlying25 rfl (by kernel_rfl)) rfl ?_
                exact RefPost.no (below_set7 B5.out (by have := HL.out; omega) _ _ _ _ _ _ _) HNO.out
              | true =>
                have c0 : w5.cell? ⟨M, 0, none⟩ = some (.int .i64 13) := HM5.out.cell 0
                cases zs with
                | nil =>
                  go_upto_region 41 with fail
                  obtain ⟨vF, hvF⟩ : ∃ vF : Av, (⟨13, 0, 0, n1, ⟨#[]⟩, none, 0, 0, none, 0, 0⟩ : Av) = vF := ⟨_, rfl⟩
                  obtain ⟨aF, haF⟩ : ∃ aF : Ad, (⟨13, 0, 0, n1, ⟨#[]⟩, [], []⟩ : Ad) = aF := ⟨_, rfl⟩
                  have qf : Blk w5 M 25 vF.cells := by rw [← hvF]; exact HM5.out
                  have bf : Below M w3 w5 := HB5.out
                  have rf : Reads w5 w5.heap.size vF aF := by
                    rw [← hvF, ← haF]
                    exact ⟨rfl, rfl, rfl, rfl, rfl, Ints.none _ _, Ints.none _ _⟩
                  have hvn : vF.n ≤ 1000000 := by rw [← hvF]; exact Nat.zero_le _
                  have hvn2 : vF.n2 ≤ 1000000 := by rw [← hvF]; exact Nat.zero_le _
                  have hap : vF.apart M := by rw [← hvF]; exact ⟨fun b o h => (by cases h), fun b o h => (by cases h)⟩
                  have hnz : vF.nm.size ≤ 1000000 := by rw [← hvF]; exact HNM.out.1
                  have hmz : vF.mt.size ≤ 1000000 := by rw [← hvF]; exact HNM.out.2
                  have hdd : ∀ d, validB d = true → fmtL d = s.data.toList → aF = d := fun d h1 h2 => by
                    obtain ⟨_, g2, g3, g4⟩ := HZX.out d h1 h2
                    rw [← haF, ← g4, ← g2]
                    first | rfl | simp [finK]
                  generalize w5 = wF at qf bf rf ⊢
                  clear hvF haF HM5 HB5
                  have QF := Lib.hid qf
                  have RF := Lib.hid rf
                  have BF := Lib.hid (B3.out.trans (bf.mono hwM))
                  have QRF := Lib.hid (QR3.out.below bf hR2)
                  have hMF := qf.lt
                  have HAP := Lib.hid hap
                  have HDD := Lib.hid hdd
                  have H9 := Lib.hid (valid9 vF aF wF rf hvn hvn2 hnz hmz)
                  clear qf bf rf hap hdd
                  have c0 : wF.cell? ⟨M, 0, none⟩ = some (.int .i64 vF.k) := QF.out.cell 0
                  have c1 : wF.cell? ⟨M, 1, none⟩ = some (.int .i64 vF.a) := QF.out.cell 1
                  have c2 : wF.cell? ⟨M, 2, none⟩ = some (.int .i64 vF.b) := QF.out.cell 2
                  have c3 : wF.cell? ⟨M, 3, none⟩ = some (.string vF.nm) := QF.out.cell 3
                  have c4 : wF.cell? ⟨M, 4, none⟩ = some (.string vF.mt) := QF.out.cell 4
                  have c5 : wF.cell? ⟨M, 5, none⟩ = some (.slice vF.A vF.n vF.c) := QF.out.cell 5
                  have c6 : wF.cell? ⟨M, 6, none⟩ = some (.slice vF.A2 vF.n2 vF.c2) := QF.out.cell 6
                  go_wp2_with fail
                  refine H9.out.mono ?_
                  rintro e w8 ⟨rfl, b8⟩
                  have QF8 := Lib.hid (QF.out.below b8 hMF)
                  have QR8 := Lib.hid (QRF.out.below b8 QRF.out.lt)
                  have B8 := Lib.hid (BF.out.trans (b8.mono BF.out.size))
                  have RF8 := Lib.hid ((RF.out.below b8).more b8.size)
                  have hM8 := QF8.out.lt
                  clear b8 H9 c0 c1 c2 c3 c4 c5 c6 QF QRF BF RF
                  cases hv : validB aF with
                  | false =>
                    have HNO := Lib.hid (show ∀ d, validB d = true → fmtL d = s.data.toList → False from fun d h1 h2 => by
                      have := HDD.out d h1 h2
                      rw [this, h1] at hv
                      cases hv)
                    clear hv
                    have r0 : w8.cell? ⟨R, 0, none⟩ = some (.int .i64 0) := QR8.out.cell 0
                    have r1 : w8.cell? ⟨R, 1, none⟩ = some (.int .i64 0) := QR8.out.cell 1
                    have r2 : w8.cell? ⟨R, 2, none⟩ = some (.int .i64 0) := QR8.out.cell 2
                    have r3 : w8.cell? ⟨R, 3, none⟩ = some (.string ⟨#[]⟩) := QR8.out.cell 3
                    have r4 : w8.cell? ⟨R, 4, none⟩ = some (.string ⟨#[]⟩) := QR8.out.cell 4
                    have r5 : w8.cell? ⟨R, 5, none⟩ = some (.slice none 0 0) := QR8.out.cell 5
                    have r6 : w8.cell? ⟨R, 6, none⟩ = some (.slice none 0 0) := QR8.out.cell 6
                    have f0 := QR8.out.frozen 0
                    have f1 := QR8.out.frozen 1
                    have f2 := QR8.out.frozen 2
                    have f3 := QR8.out.frozen 3
                    have f4 := QR8.out.frozen 4
                    have f5 := QR8.out.frozen 5
                    have f6 := QR8.out.frozen 6
                    go_wp2_with fail
                    (try simp only [Exit.inBlock, Exit.then])
                    refine bodyPost_ret (results_row_tmp rfl _ _ R 25 _ _ rfl (Blk.set7 QR8.out) Tryz.underlying25 rfl (by kernel_rfl)) rfl ?_
                    exact RefPost.no (below_set7 B8.out (by have := HL.out; omega) _ _ _ _ _ _ _) HNO.out
                  | true =>
                    obtain ⟨hwf, hz1, hz2, hz3, hz4⟩ := valid_wf hv
                    have H7 := Lib.hid (fmt7 vF aF w8 RF8.out (by rw [← RF8.out.args.len]; omega) (by rw [← RF8.out.surv.len]; omega) (by rw [RF8.out.nm]; omega) (by rw [RF8.out.mt]; omega) hwf)
                    obtain ⟨S, hS⟩ : ∃ S : ByteArray, ⟨(fmtL aF).toArray⟩ = S := ⟨_, rfl⟩
                    rw [hS] at H7
                    have HS := Lib.hid hS
                    have HV := Lib.hid hv
                    clear hwf hz1 hz2 hz3 hz4 hS hv
                    have c0 : w8.cell? ⟨M, 0, none⟩ = some (.int .i64 vF.k) := QF8.out.cell 0
                    have c1 : w8.cell? ⟨M, 1, none⟩ = some (.int .i64 vF.a) := QF8.out.cell 1
                    have c2 : w8.cell? ⟨M, 2, none⟩ = some (.int .i64 vF.b) := QF8.out.cell 2
                    have c3 : w8.cell? ⟨M, 3, none⟩ = some (.string vF.nm) := QF8.out.cell 3
                    have c4 : w8.cell? ⟨M, 4, none⟩ = some (.string vF.mt) := QF8.out.cell 4
                    have c5 : w8.cell? ⟨M, 5, none⟩ = some (.slice vF.A vF.n vF.c) := QF8.out.cell 5
                    have c6 : w8.cell? ⟨M, 6, none⟩ = some (.slice vF.A2 vF.n2 vF.c2) := QF8.out.cell 6
                    go_wp2_with fail
                    refine H7.out.mono ?_
                    rintro e w9 ⟨rfl, b9⟩
                    have QF9 := Lib.hid (QF8.out.below b9 hM8)
                    have QR9 := Lib.hid (QR8.out.below b9 QR8.out.lt)
                    have B9 := Lib.hid (B8.out.trans (b9.mono B8.out.size))
                    have RF9 := Lib.hid ((RF8.out.below b9).more b9.size)
                    clear b9 H7 c0 c1 c2 c3 c4 c5 c6 QF8 QR8 B8 RF8
                    by_cases hSs : S = s
                    · have hss : (S.toList == s.toList) = true := by rw [hSs]; exact beq_self_eq_true _
                      have HOK := Lib.hid (show fmtL aF = s.data.toList from by rw [← hSs, ← HS.out])
                      clear hSs
                      have r0 : w9.cell? ⟨R, 0, none⟩ = some (.int .i64 0) := QR9.out.cell 0
                      have r1 : w9.cell? ⟨R, 1, none⟩ = some (.int .i64 0) := QR9.out.cell 1
                      have r2 : w9.cell? ⟨R, 2, none⟩ = some (.int .i64 0) := QR9.out.cell 2
                      have r3 : w9.cell? ⟨R, 3, none⟩ = some (.string ⟨#[]⟩) := QR9.out.cell 3
                      have r4 : w9.cell? ⟨R, 4, none⟩ = some (.string ⟨#[]⟩) := QR9.out.cell 4
                      have r5 : w9.cell? ⟨R, 5, none⟩ = some (.slice none 0 0) := QR9.out.cell 5
                      have r6 : w9.cell? ⟨R, 6, none⟩ = some (.slice none 0 0) := QR9.out.cell 6
                      have f0 := QR9.out.frozen 0
                      have f1 := QR9.out.frozen 1
                      have f2 := QR9.out.frozen 2
                      have f3 := QR9.out.frozen 3
                      have f4 := QR9.out.frozen 4
                      have f5 := QR9.out.frozen 5
                      have f6 := QR9.out.frozen 6
                      have c0 : w9.cell? ⟨M, 0, none⟩ = some (.int .i64 vF.k) := QF9.out.cell 0
                      have c1 : w9.cell? ⟨M, 1, none⟩ = some (.int .i64 vF.a) := QF9.out.cell 1
                      have c2 : w9.cell? ⟨M, 2, none⟩ = some (.int .i64 vF.b) := QF9.out.cell 2
                      have c3 : w9.cell? ⟨M, 3, none⟩ = some (.string vF.nm) := QF9.out.cell 3
                      have c4 : w9.cell? ⟨M, 4, none⟩ = some (.string vF.mt) := QF9.out.cell 4
                      have c5 : w9.cell? ⟨M, 5, none⟩ = some (.slice vF.A vF.n vF.c) := QF9.out.cell 5
                      have c6 : w9.cell? ⟨M, 6, none⟩ = some (.slice vF.A2 vF.n2 vF.c2) := QF9.out.cell 6
                      go_wp2_with fail
                      (try simp only [Exit.inBlock, Exit.then])
                      refine bodyPost_ret (results_row_tmp rfl _ _ R 25 _ _ rfl (Blk.set7 QR9.out) Tryz.underlying25 rfl (by kernel_rfl)) rfl ?_
                      exact RefPost.yes RF9.out HAP.out (by omega) hvn hvn2 (below_set7 B9.out (by have := HL.out; omega) _ _ _ _ _ _ _) HV.out HOK.out
                    · have hss : (S.toList == s.toList) = false := beq_eq_false_iff_ne.2 fun e => hSs (ba_ext e)
                      have HNO := Lib.hid (show ∀ d, validB d = true → fmtL d = s.data.toList → False from fun d h1 h2 => by
                        have h3 := HDD.out d h1 h2
                        refine hSs ?_
                        rw [← HS.out, h3]
                        exact Go.WideShapes.bytes_inj (by simpa using h2))
                      clear hSs
                      have r0 : w9.cell? ⟨R, 0, none⟩ = some (.int .i64 0) := QR9.out.cell 0
                      have r1 : w9.cell? ⟨R, 1, none⟩ = some (.int .i64 0) := QR9.out.cell 1
                      have r2 : w9.cell? ⟨R, 2, none⟩ = some (.int .i64 0) := QR9.out.cell 2
                      have r3 : w9.cell? ⟨R, 3, none⟩ = some (.string ⟨#[]⟩) := QR9.out.cell 3
                      have r4 : w9.cell? ⟨R, 4, none⟩ = some (.string ⟨#[]⟩) := QR9.out.cell 4
                      have r5 : w9.cell? ⟨R, 5, none⟩ = some (.slice none 0 0) := QR9.out.cell 5
                      have r6 : w9.cell? ⟨R, 6, none⟩ = some (.slice none 0 0) := QR9.out.cell 6
                      have f0 := QR9.out.frozen 0
                      have f1 := QR9.out.frozen 1
                      have f2 := QR9.out.frozen 2
                      have f3 := QR9.out.frozen 3
                      have f4 := QR9.out.frozen 4
                      have f5 := QR9.out.frozen 5
                      have f6 := QR9.out.frozen 6
                      go_wp2_with fail
                      (try simp only [Exit.inBlock, Exit.then])
                      refine bodyPost_ret (results_row_tmp rfl _ _ R 25 _ _ rfl (Blk.set7 QR9.out) Tryz.underlying25 rfl (by kernel_rfl)) rfl ?_
                      exact RefPost.no (below_set7 B9.out (by have := HL.out; omega) _ _ _ _ _ _ _) HNO.out
                | cons z1 zr =>
                  have HZ1 := HZ.out.at_ (k := 0) (by simp)
                  obtain ⟨b7, o7, z1', rfl, hb7, hz1', hc71⟩ := HZ1
                  simp only [List.getElem?_cons_zero, Option.some.injEq] at hz1'
                  subst hz1'
                  have hc71' : w5.cell? ⟨b7, o7, none⟩ = some (.int .i64 z1) := by simpa using hc71
                  have m1 : w5.cell? ⟨M, 1, none⟩ = some (.int .i64 0) := HM5.out.cell 1
                  have m2 : w5.cell? ⟨M, 2, none⟩ = some (.int .i64 0) := HM5.out.cell 2
                  have f1 := HM5.out.frozen 1
                  have f2 := HM5.out.frozen 2
                  have hb7M : M ≠ b7 := by have := HFR.out b7 o7 rfl; omega
                  cases zr with
                  | nil =>
                    go_upto_region 41 with fail
                    obtain ⟨vF, hvF⟩ : ∃ vF : Av, (⟨13, z1, 0, n1, ⟨#[]⟩, none, 0, 0, none, 0, 0⟩ : Av) = vF := ⟨_, rfl⟩
                    obtain ⟨aF, haF⟩ : ∃ aF : Ad, (⟨13, z1, 0, n1, ⟨#[]⟩, [], []⟩ : Ad) = aF := ⟨_, rfl⟩
                    have qf : Blk (w5.setCell ⟨M, 1, none⟩ (.int .i64 z1)) M 25 vF.cells := by rw [← hvF]; exact (HM5.out.set 1 (.int .i64 z1))
                    have bf : Below M w3 (w5.setCell ⟨M, 1, none⟩ (.int .i64 z1)) := (HB5.out.setCell (p := ⟨M, 1, none⟩) (Nat.le_refl M) (.int .i64 z1))
                    have rf : Reads (w5.setCell ⟨M, 1, none⟩ (.int .i64 z1)) (w5.setCell ⟨M, 1, none⟩ (.int .i64 z1)).heap.size vF aF := by
                      rw [← hvF, ← haF]
                      exact ⟨rfl, rfl, rfl, rfl, rfl, Ints.none _ _, Ints.none _ _⟩
                    have hvn : vF.n ≤ 1000000 := by rw [← hvF]; exact Nat.zero_le _
                    have hvn2 : vF.n2 ≤ 1000000 := by rw [← hvF]; exact Nat.zero_le _
                    have hap : vF.apart M := by rw [← hvF]; exact ⟨fun b o h => (by cases h), fun b o h => (by cases h)⟩
                    have hnz : vF.nm.size ≤ 1000000 := by rw [← hvF]; exact HNM.out.1
                    have hmz : vF.mt.size ≤ 1000000 := by rw [← hvF]; exact HNM.out.2
                    have hdd : ∀ d, validB d = true → fmtL d = s.data.toList → aF = d := fun d h1 h2 => by
                      obtain ⟨_, g2, g3, g4⟩ := HZX.out d h1 h2
                      rw [← haF, ← g4, ← g2]
                      first | rfl | simp [finK]
                    generalize (w5.setCell ⟨M, 1, none⟩ (.int .i64 z1)) = wF at qf bf rf ⊢
                    clear hvF haF HM5 HB5
                    have QF := Lib.hid qf
                    have RF := Lib.hid rf
                    have BF := Lib.hid (B3.out.trans (bf.mono hwM))
                    have QRF := Lib.hid (QR3.out.below bf hR2)
                    have hMF := qf.lt
                    have HAP := Lib.hid hap
                    have HDD := Lib.hid hdd
                    have H9 := Lib.hid (valid9 vF aF wF rf hvn hvn2 hnz hmz)
                    clear qf bf rf hap hdd
                    have c0 : wF.cell? ⟨M, 0, none⟩ = some (.int .i64 vF.k) := QF.out.cell 0
                    have c1 : wF.cell? ⟨M, 1, none⟩ = some (.int .i64 vF.a) := QF.out.cell 1
                    have c2 : wF.cell? ⟨M, 2, none⟩ = some (.int .i64 vF.b) := QF.out.cell 2
                    have c3 : wF.cell? ⟨M, 3, none⟩ = some (.string vF.nm) := QF.out.cell 3
                    have c4 : wF.cell? ⟨M, 4, none⟩ = some (.string vF.mt) := QF.out.cell 4
                    have c5 : wF.cell? ⟨M, 5, none⟩ = some (.slice vF.A vF.n vF.c) := QF.out.cell 5
                    have c6 : wF.cell? ⟨M, 6, none⟩ = some (.slice vF.A2 vF.n2 vF.c2) := QF.out.cell 6
                    go_wp2_with fail
                    refine H9.out.mono ?_
                    rintro e w8 ⟨rfl, b8⟩
                    have QF8 := Lib.hid (QF.out.below b8 hMF)
                    have QR8 := Lib.hid (QRF.out.below b8 QRF.out.lt)
                    have B8 := Lib.hid (BF.out.trans (b8.mono BF.out.size))
                    have RF8 := Lib.hid ((RF.out.below b8).more b8.size)
                    have hM8 := QF8.out.lt
                    clear b8 H9 c0 c1 c2 c3 c4 c5 c6 QF QRF BF RF
                    cases hv : validB aF with
                    | false =>
                      have HNO := Lib.hid (show ∀ d, validB d = true → fmtL d = s.data.toList → False from fun d h1 h2 => by
                        have := HDD.out d h1 h2
                        rw [this, h1] at hv
                        cases hv)
                      clear hv
                      have r0 : w8.cell? ⟨R, 0, none⟩ = some (.int .i64 0) := QR8.out.cell 0
                      have r1 : w8.cell? ⟨R, 1, none⟩ = some (.int .i64 0) := QR8.out.cell 1
                      have r2 : w8.cell? ⟨R, 2, none⟩ = some (.int .i64 0) := QR8.out.cell 2
                      have r3 : w8.cell? ⟨R, 3, none⟩ = some (.string ⟨#[]⟩) := QR8.out.cell 3
                      have r4 : w8.cell? ⟨R, 4, none⟩ = some (.string ⟨#[]⟩) := QR8.out.cell 4
                      have r5 : w8.cell? ⟨R, 5, none⟩ = some (.slice none 0 0) := QR8.out.cell 5
                      have r6 : w8.cell? ⟨R, 6, none⟩ = some (.slice none 0 0) := QR8.out.cell 6
                      have f0 := QR8.out.frozen 0
                      have f1 := QR8.out.frozen 1
                      have f2 := QR8.out.frozen 2
                      have f3 := QR8.out.frozen 3
                      have f4 := QR8.out.frozen 4
                      have f5 := QR8.out.frozen 5
                      have f6 := QR8.out.frozen 6
                      go_wp2_with fail
                      (try simp only [Exit.inBlock, Exit.then])
                      refine bodyPost_ret (results_row_tmp rfl _ _ R 25 _ _ rfl (Blk.set7 QR8.out) Tryz.underlying25 rfl (by kernel_rfl)) rfl ?_
                      exact RefPost.no (below_set7 B8.out (by have := HL.out; omega) _ _ _ _ _ _ _) HNO.out
                    | true =>
                      obtain ⟨hwf, hz1, hz2, hz3, hz4⟩ := valid_wf hv
                      have H7 := Lib.hid (fmt7 vF aF w8 RF8.out (by rw [← RF8.out.args.len]; omega) (by rw [← RF8.out.surv.len]; omega) (by rw [RF8.out.nm]; omega) (by rw [RF8.out.mt]; omega) hwf)
                      obtain ⟨S, hS⟩ : ∃ S : ByteArray, ⟨(fmtL aF).toArray⟩ = S := ⟨_, rfl⟩
                      rw [hS] at H7
                      have HS := Lib.hid hS
                      have HV := Lib.hid hv
                      clear hwf hz1 hz2 hz3 hz4 hS hv
                      have c0 : w8.cell? ⟨M, 0, none⟩ = some (.int .i64 vF.k) := QF8.out.cell 0
                      have c1 : w8.cell? ⟨M, 1, none⟩ = some (.int .i64 vF.a) := QF8.out.cell 1
                      have c2 : w8.cell? ⟨M, 2, none⟩ = some (.int .i64 vF.b) := QF8.out.cell 2
                      have c3 : w8.cell? ⟨M, 3, none⟩ = some (.string vF.nm) := QF8.out.cell 3
                      have c4 : w8.cell? ⟨M, 4, none⟩ = some (.string vF.mt) := QF8.out.cell 4
                      have c5 : w8.cell? ⟨M, 5, none⟩ = some (.slice vF.A vF.n vF.c) := QF8.out.cell 5
                      have c6 : w8.cell? ⟨M, 6, none⟩ = some (.slice vF.A2 vF.n2 vF.c2) := QF8.out.cell 6
                      go_wp2_with fail
                      refine H7.out.mono ?_
                      rintro e w9 ⟨rfl, b9⟩
                      have QF9 := Lib.hid (QF8.out.below b9 hM8)
                      have QR9 := Lib.hid (QR8.out.below b9 QR8.out.lt)
                      have B9 := Lib.hid (B8.out.trans (b9.mono B8.out.size))
                      have RF9 := Lib.hid ((RF8.out.below b9).more b9.size)
                      clear b9 H7 c0 c1 c2 c3 c4 c5 c6 QF8 QR8 B8 RF8
                      by_cases hSs : S = s
                      · have hss : (S.toList == s.toList) = true := by rw [hSs]; exact beq_self_eq_true _
                        have HOK := Lib.hid (show fmtL aF = s.data.toList from by rw [← hSs, ← HS.out])
                        clear hSs
                        have r0 : w9.cell? ⟨R, 0, none⟩ = some (.int .i64 0) := QR9.out.cell 0
                        have r1 : w9.cell? ⟨R, 1, none⟩ = some (.int .i64 0) := QR9.out.cell 1
                        have r2 : w9.cell? ⟨R, 2, none⟩ = some (.int .i64 0) := QR9.out.cell 2
                        have r3 : w9.cell? ⟨R, 3, none⟩ = some (.string ⟨#[]⟩) := QR9.out.cell 3
                        have r4 : w9.cell? ⟨R, 4, none⟩ = some (.string ⟨#[]⟩) := QR9.out.cell 4
                        have r5 : w9.cell? ⟨R, 5, none⟩ = some (.slice none 0 0) := QR9.out.cell 5
                        have r6 : w9.cell? ⟨R, 6, none⟩ = some (.slice none 0 0) := QR9.out.cell 6
                        have f0 := QR9.out.frozen 0
                        have f1 := QR9.out.frozen 1
                        have f2 := QR9.out.frozen 2
                        have f3 := QR9.out.frozen 3
                        have f4 := QR9.out.frozen 4
                        have f5 := QR9.out.frozen 5
                        have f6 := QR9.out.frozen 6
                        have c0 : w9.cell? ⟨M, 0, none⟩ = some (.int .i64 vF.k) := QF9.out.cell 0
                        have c1 : w9.cell? ⟨M, 1, none⟩ = some (.int .i64 vF.a) := QF9.out.cell 1
                        have c2 : w9.cell? ⟨M, 2, none⟩ = some (.int .i64 vF.b) := QF9.out.cell 2
                        have c3 : w9.cell? ⟨M, 3, none⟩ = some (.string vF.nm) := QF9.out.cell 3
                        have c4 : w9.cell? ⟨M, 4, none⟩ = some (.string vF.mt) := QF9.out.cell 4
                        have c5 : w9.cell? ⟨M, 5, none⟩ = some (.slice vF.A vF.n vF.c) := QF9.out.cell 5
                        have c6 : w9.cell? ⟨M, 6, none⟩ = some (.slice vF.A2 vF.n2 vF.c2) := QF9.out.cell 6
                        go_wp2_with fail
                        (try simp only [Exit.inBlock, Exit.then])
                        refine bodyPost_ret (results_row_tmp rfl _ _ R 25 _ _ rfl (Blk.set7 QR9.out) Tryz.underlying25 rfl (by kernel_rfl)) rfl ?_
                        exact RefPost.yes RF9.out HAP.out (by omega) hvn hvn2 (below_set7 B9.out (by have := HL.out; omega) _ _ _ _ _ _ _) HV.out HOK.out
                      · have hss : (S.toList == s.toList) = false := beq_eq_false_iff_ne.2 fun e => hSs (ba_ext e)
                        have HNO := Lib.hid (show ∀ d, validB d = true → fmtL d = s.data.toList → False from fun d h1 h2 => by
                          have h3 := HDD.out d h1 h2
                          refine hSs ?_
                          rw [← HS.out, h3]
                          exact Go.WideShapes.bytes_inj (by simpa using h2))
                        clear hSs
                        have r0 : w9.cell? ⟨R, 0, none⟩ = some (.int .i64 0) := QR9.out.cell 0
                        have r1 : w9.cell? ⟨R, 1, none⟩ = some (.int .i64 0) := QR9.out.cell 1
                        have r2 : w9.cell? ⟨R, 2, none⟩ = some (.int .i64 0) := QR9.out.cell 2
                        have r3 : w9.cell? ⟨R, 3, none⟩ = some (.string ⟨#[]⟩) := QR9.out.cell 3
                        have r4 : w9.cell? ⟨R, 4, none⟩ = some (.string ⟨#[]⟩) := QR9.out.cell 4
                        have r5 : w9.cell? ⟨R, 5, none⟩ = some (.slice none 0 0) := QR9.out.cell 5
                        have r6 : w9.cell? ⟨R, 6, none⟩ = some (.slice none 0 0) := QR9.out.cell 6
                        have f0 := QR9.out.frozen 0
                        have f1 := QR9.out.frozen 1
                        have f2 := QR9.out.frozen 2
                        have f3 := QR9.out.frozen 3
                        have f4 := QR9.out.frozen 4
                        have f5 := QR9.out.frozen 5
                        have f6 := QR9.out.frozen 6
                        go_wp2_with fail
                        (try simp only [Exit.inBlock, Exit.then])
                        refine bodyPost_ret (results_row_tmp rfl _ _ R 25 _ _ rfl (Blk.set7 QR9.out) Tryz.underlying25 rfl (by kernel_rfl)) rfl ?_
                        exact RefPost.no (below_set7 B9.out (by have := HL.out; omega) _ _ _ _ _ _ _) HNO.out
                  | cons z2 zr =>
                    have HZ2 := HZ.out.at_ (k := 1) (by simp)
                    obtain ⟨b7', o7', z2', hA7, hb7', hz2', hc72⟩ := HZ2
                    simp only [Option.some.injEq, Addr.mk.injEq, and_true] at hA7
                    obtain ⟨rfl, rfl⟩ := hA7
                    simp only [List.getElem?_cons_succ, List.getElem?_cons_zero, Option.some.injEq] at hz2'
                    subst hz2'
                    go_upto_region 41 with fail
                    obtain ⟨vF, hvF⟩ : ∃ vF : Av, (⟨13, z1, z2, n1, ⟨#[]⟩, none, 0, 0, none, 0, 0⟩ : Av) = vF := ⟨_, rfl⟩
                    obtain ⟨aF, haF⟩ : ∃ aF : Ad, (⟨13, z1, z2, n1, ⟨#[]⟩, [], []⟩ : Ad) = aF := ⟨_, rfl⟩
                    have qf : Blk ((w5.setCell ⟨M, 1, none⟩ (.int .i64 z1)).setCell ⟨M, 2, none⟩ (.int .i64 z2)) M 25 vF.cells := by rw [← hvF]; exact ((HM5.out.set 1 (.int .i64 z1)).set 2 (.int .i64 z2))
                    have bf : Below M w3 ((w5.setCell ⟨M, 1, none⟩ (.int .i64 z1)).setCell ⟨M, 2, none⟩ (.int .i64 z2)) := ((HB5.out.setCell (p := ⟨M, 1, none⟩) (Nat.le_refl M) (.int .i64 z1)).setCell (p := ⟨M, 2, none⟩) (Nat.le_refl M) (.int .i64 z2))
                    have rf : Reads ((w5.setCell ⟨M, 1, none⟩ (.int .i64 z1)).setCell ⟨M, 2, none⟩ (.int .i64 z2)) ((w5.setCell ⟨M, 1, none⟩ (.int .i64 z1)).setCell ⟨M, 2, none⟩ (.int .i64 z2)).heap.size vF aF := by
                      rw [← hvF, ← haF]
                      exact ⟨rfl, rfl, rfl, rfl, rfl, Ints.none _ _, Ints.none _ _⟩
                    have hvn : vF.n ≤ 1000000 := by rw [← hvF]; exact Nat.zero_le _
                    have hvn2 : vF.n2 ≤ 1000000 := by rw [← hvF]; exact Nat.zero_le _
                    have hap : vF.apart M := by rw [← hvF]; exact ⟨fun b o h => (by cases h), fun b o h => (by cases h)⟩
                    have hnz : vF.nm.size ≤ 1000000 := by rw [← hvF]; exact HNM.out.1
                    have hmz : vF.mt.size ≤ 1000000 := by rw [← hvF]; exact HNM.out.2
                    have hdd : ∀ d, validB d = true → fmtL d = s.data.toList → aF = d := fun d h1 h2 => by
                      obtain ⟨_, g2, g3, g4⟩ := HZX.out d h1 h2
                      rw [← haF, ← g4, ← g2]
                      first | rfl | simp [finK]
                    generalize ((w5.setCell ⟨M, 1, none⟩ (.int .i64 z1)).setCell ⟨M, 2, none⟩ (.int .i64 z2)) = wF at qf bf rf ⊢
                    clear hvF haF HM5 HB5
                    have QF := Lib.hid qf
                    have RF := Lib.hid rf
                    have BF := Lib.hid (B3.out.trans (bf.mono hwM))
                    have QRF := Lib.hid (QR3.out.below bf hR2)
                    have hMF := qf.lt
                    have HAP := Lib.hid hap
                    have HDD := Lib.hid hdd
                    have H9 := Lib.hid (valid9 vF aF wF rf hvn hvn2 hnz hmz)
                    clear qf bf rf hap hdd
                    have c0 : wF.cell? ⟨M, 0, none⟩ = some (.int .i64 vF.k) := QF.out.cell 0
                    have c1 : wF.cell? ⟨M, 1, none⟩ = some (.int .i64 vF.a) := QF.out.cell 1
                    have c2 : wF.cell? ⟨M, 2, none⟩ = some (.int .i64 vF.b) := QF.out.cell 2
                    have c3 : wF.cell? ⟨M, 3, none⟩ = some (.string vF.nm) := QF.out.cell 3
                    have c4 : wF.cell? ⟨M, 4, none⟩ = some (.string vF.mt) := QF.out.cell 4
                    have c5 : wF.cell? ⟨M, 5, none⟩ = some (.slice vF.A vF.n vF.c) := QF.out.cell 5
                    have c6 : wF.cell? ⟨M, 6, none⟩ = some (.slice vF.A2 vF.n2 vF.c2) := QF.out.cell 6
                    go_wp2_with fail
                    refine H9.out.mono ?_
                    rintro e w8 ⟨rfl, b8⟩
                    have QF8 := Lib.hid (QF.out.below b8 hMF)
                    have QR8 := Lib.hid (QRF.out.below b8 QRF.out.lt)
                    have B8 := Lib.hid (BF.out.trans (b8.mono BF.out.size))
                    have RF8 := Lib.hid ((RF.out.below b8).more b8.size)
                    have hM8 := QF8.out.lt
                    clear b8 H9 c0 c1 c2 c3 c4 c5 c6 QF QRF BF RF
                    cases hv : validB aF with
                    | false =>
                      have HNO := Lib.hid (show ∀ d, validB d = true → fmtL d = s.data.toList → False from fun d h1 h2 => by
                        have := HDD.out d h1 h2
                        rw [this, h1] at hv
                        cases hv)
                      clear hv
                      have r0 : w8.cell? ⟨R, 0, none⟩ = some (.int .i64 0) := QR8.out.cell 0
                      have r1 : w8.cell? ⟨R, 1, none⟩ = some (.int .i64 0) := QR8.out.cell 1
                      have r2 : w8.cell? ⟨R, 2, none⟩ = some (.int .i64 0) := QR8.out.cell 2
                      have r3 : w8.cell? ⟨R, 3, none⟩ = some (.string ⟨#[]⟩) := QR8.out.cell 3
                      have r4 : w8.cell? ⟨R, 4, none⟩ = some (.string ⟨#[]⟩) := QR8.out.cell 4
                      have r5 : w8.cell? ⟨R, 5, none⟩ = some (.slice none 0 0) := QR8.out.cell 5
                      have r6 : w8.cell? ⟨R, 6, none⟩ = some (.slice none 0 0) := QR8.out.cell 6
                      have f0 := QR8.out.frozen 0
                      have f1 := QR8.out.frozen 1
                      have f2 := QR8.out.frozen 2
                      have f3 := QR8.out.frozen 3
                      have f4 := QR8.out.frozen 4
                      have f5 := QR8.out.frozen 5
                      have f6 := QR8.out.frozen 6
                      go_wp2_with fail
                      (try simp only [Exit.inBlock, Exit.then])
                      refine bodyPost_ret (results_row_tmp rfl _ _ R 25 _ _ rfl (Blk.set7 QR8.out) Tryz.underlying25 rfl (by kernel_rfl)) rfl ?_
                      exact RefPost.no (below_set7 B8.out (by have := HL.out; omega) _ _ _ _ _ _ _) HNO.out
                    | true =>
                      obtain ⟨hwf, hz1, hz2, hz3, hz4⟩ := valid_wf hv
                      have H7 := Lib.hid (fmt7 vF aF w8 RF8.out (by rw [← RF8.out.args.len]; omega) (by rw [← RF8.out.surv.len]; omega) (by rw [RF8.out.nm]; omega) (by rw [RF8.out.mt]; omega) hwf)
                      obtain ⟨S, hS⟩ : ∃ S : ByteArray, ⟨(fmtL aF).toArray⟩ = S := ⟨_, rfl⟩
                      rw [hS] at H7
                      have HS := Lib.hid hS
                      have HV := Lib.hid hv
                      clear hwf hz1 hz2 hz3 hz4 hS hv
                      have c0 : w8.cell? ⟨M, 0, none⟩ = some (.int .i64 vF.k) := QF8.out.cell 0
                      have c1 : w8.cell? ⟨M, 1, none⟩ = some (.int .i64 vF.a) := QF8.out.cell 1
                      have c2 : w8.cell? ⟨M, 2, none⟩ = some (.int .i64 vF.b) := QF8.out.cell 2
                      have c3 : w8.cell? ⟨M, 3, none⟩ = some (.string vF.nm) := QF8.out.cell 3
                      have c4 : w8.cell? ⟨M, 4, none⟩ = some (.string vF.mt) := QF8.out.cell 4
                      have c5 : w8.cell? ⟨M, 5, none⟩ = some (.slice vF.A vF.n vF.c) := QF8.out.cell 5
                      have c6 : w8.cell? ⟨M, 6, none⟩ = some (.slice vF.A2 vF.n2 vF.c2) := QF8.out.cell 6
                      go_wp2_with fail
                      refine H7.out.mono ?_
                      rintro e w9 ⟨rfl, b9⟩
                      have QF9 := Lib.hid (QF8.out.below b9 hM8)
                      have QR9 := Lib.hid (QR8.out.below b9 QR8.out.lt)
                      have B9 := Lib.hid (B8.out.trans (b9.mono B8.out.size))
                      have RF9 := Lib.hid ((RF8.out.below b9).more b9.size)
                      clear b9 H7 c0 c1 c2 c3 c4 c5 c6 QF8 QR8 B8 RF8
                      by_cases hSs : S = s
                      · have hss : (S.toList == s.toList) = true := by rw [hSs]; exact beq_self_eq_true _
                        have HOK := Lib.hid (show fmtL aF = s.data.toList from by rw [← hSs, ← HS.out])
                        clear hSs
                        have r0 : w9.cell? ⟨R, 0, none⟩ = some (.int .i64 0) := QR9.out.cell 0
                        have r1 : w9.cell? ⟨R, 1, none⟩ = some (.int .i64 0) := QR9.out.cell 1
                        have r2 : w9.cell? ⟨R, 2, none⟩ = some (.int .i64 0) := QR9.out.cell 2
                        have r3 : w9.cell? ⟨R, 3, none⟩ = some (.string ⟨#[]⟩) := QR9.out.cell 3
                        have r4 : w9.cell? ⟨R, 4, none⟩ = some (.string ⟨#[]⟩) := QR9.out.cell 4
                        have r5 : w9.cell? ⟨R, 5, none⟩ = some (.slice none 0 0) := QR9.out.cell 5
                        have r6 : w9.cell? ⟨R, 6, none⟩ = some (.slice none 0 0) := QR9.out.cell 6
                        have f0 := QR9.out.frozen 0
                        have f1 := QR9.out.frozen 1
                        have f2 := QR9.out.frozen 2
                        have f3 := QR9.out.frozen 3
                        have f4 := QR9.out.frozen 4
                        have f5 := QR9.out.frozen 5
                        have f6 := QR9.out.frozen 6
                        have c0 : w9.cell? ⟨M, 0, none⟩ = some (.int .i64 vF.k) := QF9.out.cell 0
                        have c1 : w9.cell? ⟨M, 1, none⟩ = some (.int .i64 vF.a) := QF9.out.cell 1
                        have c2 : w9.cell? ⟨M, 2, none⟩ = some (.int .i64 vF.b) := QF9.out.cell 2
                        have c3 : w9.cell? ⟨M, 3, none⟩ = some (.string vF.nm) := QF9.out.cell 3
                        have c4 : w9.cell? ⟨M, 4, none⟩ = some (.string vF.mt) := QF9.out.cell 4
                        have c5 : w9.cell? ⟨M, 5, none⟩ = some (.slice vF.A vF.n vF.c) := QF9.out.cell 5
                        have c6 : w9.cell? ⟨M, 6, none⟩ = some (.slice vF.A2 vF.n2 vF.c2) := QF9.out.cell 6
                        go_wp2_with fail
                        (try simp only [Exit.inBlock, Exit.then])
                        refine bodyPost_ret (results_row_tmp rfl _ _ R 25 _ _ rfl (Blk.set7 QR9.out) Tryz.underlying25 rfl (by kernel_rfl)) rfl ?_
                        exact RefPost.yes RF9.out HAP.out (by omega) hvn hvn2 (below_set7 B9.out (by have := HL.out; omega) _ _ _ _ _ _ _) HV.out HOK.out
                      · have hss : (S.toList == s.toList) = false := beq_eq_false_iff_ne.2 fun e => hSs (ba_ext e)
                        have HNO := Lib.hid (show ∀ d, validB d = true → fmtL d = s.data.toList → False from fun d h1 h2 => by
                          have h3 := HDD.out d h1 h2
                          refine hSs ?_
                          rw [← HS.out, h3]
                          exact Go.WideShapes.bytes_inj (by simpa using h2))
                        clear hSs
                        have r0 : w9.cell? ⟨R, 0, none⟩ = some (.int .i64 0) := QR9.out.cell 0
                        have r1 : w9.cell? ⟨R, 1, none⟩ = some (.int .i64 0) := QR9.out.cell 1
                        have r2 : w9.cell? ⟨R, 2, none⟩ = some (.int .i64 0) := QR9.out.cell 2
                        have r3 : w9.cell? ⟨R, 3, none⟩ = some (.string ⟨#[]⟩) := QR9.out.cell 3
                        have r4 : w9.cell? ⟨R, 4, none⟩ = some (.string ⟨#[]⟩) := QR9.out.cell 4
                        have r5 : w9.cell? ⟨R, 5, none⟩ = some (.slice none 0 0) := QR9.out.cell 5
                        have r6 : w9.cell? ⟨R, 6, none⟩ = some (.slice none 0 0) := QR9.out.cell 6
                        have f0 := QR9.out.frozen 0
                        have f1 := QR9.out.frozen 1
                        have f2 := QR9.out.frozen 2
                        have f3 := QR9.out.frozen 3
                        have f4 := QR9.out.frozen 4
                        have f5 := QR9.out.frozen 5
                        have f6 := QR9.out.frozen 6
                        go_wp2_with fail
                        (try simp only [Exit.inBlock, Exit.then])
                        refine bodyPost_ret (results_row_tmp rfl _ _ R 25 _ _ rfl (Blk.set7 QR9.out) Tryz.underlying25 rfl (by kernel_rfl)) rfl ?_
                        exact RefPost.no (below_set7 B9.out (by have := HL.out; omega) _ _ _ _ _ _ _) HNO.out
          · by_cases k7 : K = 7
            · skip
              subst k7
              clear k11 k12 k13
              have HREST := Lib.hid (show ∀ d, validB d = true → fmtL d = s.data.toList → 7 = d.k ∧ wt = (numsK d).map istr ∧ (∀ z ∈ numsK d, Small z) ∧ finK 7 ⟨#[]⟩ ⟨#[]⟩ (numsK d) = d from fun d y1 y2 => by
                obtain ⟨g1, g2, g3, g4⟩ := HX2.out d y1 y2
                rw [← g1] at g2 g3
                simp [preK] at g2
                obtain ⟨e1, e2, e3⟩ := g2
                rw [← e1, ← e2] at g3
                exact ⟨g1, by first | exact e3 | simpa using e3, g4, g3⟩)
              have HNM := Lib.hid (show (⟨#[]⟩ : ByteArray).size ≤ 1000000 ∧ (⟨#[]⟩ : ByteArray).size ≤ 1000000 from by decide)
              have HWZ2 := HWZ
              have HC := Lib.hid (integers26 A4 wt.length (c - 1) wt wr (HST4.out.more (Nat.le_of_lt HM.out.lt)) (by omega) HWZ2.out)
              go_wp2_with fail
              refine HC.out.mono ?_
              rintro e w5 ⟨A7, c7, zs, ok, rfl, hc7, hz, hzI, hzl, hfr, hzx, b5⟩
              have hMr := HM.out.lt
              have HM5 := Lib.hid (HM.out.below b5 hMr)
              have HB5 := Lib.hid (HB.out.trans (b5.mono (Nat.le_of_lt hMr)))
              have hs5 := b5.size
              have HZ := Lib.hid hz
              have HFR := Lib.hid (show ∀ b o, A7 = some ⟨b, o, none⟩ → M < b from fun b o e => by have := hfr b o e; omega)
              have HZX := Lib.hid (show ∀ d, validB d = true → fmtL d = s.data.toList → ok = true ∧ zs = numsK d ∧ 7 = d.k ∧ finK 7 ⟨#[]⟩ ⟨#[]⟩ (numsK d) = d from fun d h1 h2 => by
                obtain ⟨g1, g2, g3, g4⟩ := HREST.out d h1 h2
                obtain ⟨g5, g6⟩ := hzx (numsK d) g3 g2
                exact ⟨g5, g6, g1, g4⟩)
              clear hz hfr hzx b5 HC HREST
              cases ok with
              | false =>
                have HNO := Lib.hid (show ∀ d, validB d = true → fmtL d = s.data.toList → False from fun d h1 h2 => absurd (HZX.out d h1 h2).1 (by decide))
                have QR5 := Lib.hid (QR3.out.below HB5.out hR2)
                have B5 := Lib.hid (B3.out.trans (HB5.out.mono hwM))
                have r0 : w5.cell? ⟨R, 0, none⟩ = some (.int .i64 0) := QR5.out.cell 0
                have r1 : w5.cell? ⟨R, 1, none⟩ = some (.int .i64 0) := QR5.out.cell 1
                have r2 : w5.cell? ⟨R, 2, none⟩ = some (.int .i64 0) := QR5.out.cell 2
                have r3 : w5.cell? ⟨R, 3, none⟩ = some (.string ⟨#[]⟩) := QR5.out.cell 3
                have r4 : w5.cell? ⟨R, 4, none⟩ = some (.string ⟨#[]⟩) := QR5.out.cell 4
                have r5 : w5.cell? ⟨R, 5, none⟩ = some (.slice none 0 0) := QR5.out.cell 5
                have r6 : w5.cell? ⟨R, 6, none⟩ = some (.slice none 0 0) := QR5.out.cell 6
                have f0 := QR5.out.frozen 0
                have f1 := QR5.out.frozen 1
                have f2 := QR5.out.frozen 2
                have f3 := QR5.out.frozen 3
                have f4 := QR5.out.frozen 4
                have f5 := QR5.out.frozen 5
                have f6 := QR5.out.frozen 6
                go_wp2_with fail
                (try simp only [Exit.inBlock, Exit.then])
                refine bodyPost_ret (results_row_tmp rfl _ _ R 25 _ _ rfl (Blk.set7 QR5.out) Tryz.underlying25 rfl (by kernel_rfl)) rfl ?_
                exact RefPost.no (below_set7 B5.out (by have := HL.out; omega) _ _ _ _ _ _ _) HNO.out
              | true =>
                have c0 : w5.cell? ⟨M, 0, none⟩ = some (.int .i64 7) := HM5.out.cell 0
                have HZL := Lib.hid (show zs.length ≤ 1000000 from by omega)
                have hMB : M < w5.heap.size := HM5.out.lt
                clear hzl
                obtain ⟨i0, hi, hz0, hz1, hz2⟩ := info_parts info3
                have HI := Lib.hid (And.intro hi (And.intro hz0 (And.intro hz1 hz2)))
                clear hi hz0 hz1 hz2
                go_wp2_with fail
                go_loopw [9] (fun i wr => ∃ (q : Nat) (u : Value), q ≤ zs.length ∧ i = .int .i64 q ∧ Hid (wr.ownsRow w5.heap.size 3 1 u (q - 1) (((zs.drop 1).take (q - 1)).map (Value.int .i64))) ∧ Hid (Blk wr M 25 #[.int .i64 7, .int .i64 (if q = 0 then 0 else zs.getD 0 0), .int .i64 0, .string ⟨#[]⟩, .string ⟨#[]⟩, .slice none 0 0, u]) ∧ Hid (Below M w5 wr) ∧ Hid (∀ b, b < w5.heap.size → b ≠ M → wr.heap[b]? = w5.heap[b]?) ∧ w5.heap.size ≤ wr.heap.size) (fun i _ => zs.length - (intOf i).toNat)
                case atStart => exact ⟨0, .slice none 0 0, Nat.zero_le _, rfl, Lib.hid (World.ownsRow_nil _ _ _ _), Lib.hid HM5.out, Lib.hid (Below.refl _ _), Lib.hid (fun _ _ _ => rfl), Nat.le_refl _⟩
                case round =>
                  obtain ⟨q, u, hq, rfl, HO, HQ, HBQ, HH, hsw⟩ := hrel
                  clear c0
                  by_cases hlt : q < zs.length
                  · obtain ⟨b7, o7, z, rfl, hb7, hz, hcz⟩ := HZ.out.at_ hlt
                    have hbM : b7 ≠ M := by have := HFR.out b7 o7 rfl; omega
                    have hbM' : M ≠ b7 := hbM.symm
                    have hc : wr.cell? ⟨b7, o7 + q, none⟩ = some (.int .i64 z) := by
                      rw [← hcz]
                      simp only [World.cell?, HH.out b7 hb7 hbM]
                    have hk0 : 0 ≤ (q : Int) := by omega
                    have hk1 : (q : Int) < (zs.length : Int) := by omega
                    have HZQ := Lib.hid hz
                    clear hcz hz
                    by_cases hq0 : q = 0
                    · subst hq0
                      have hc' : wr.cell? ⟨b7, o7, none⟩ = some (.int .i64 z) := by simpa using hc
                      have m1 : wr.cell? ⟨M, 1, none⟩ = some (.int .i64 0) := HQ.out.cell 1
                      have f1 := HQ.out.frozen 1
                      have hz0 : zs.getD 0 0 = z := by rw [List.getD_eq_getElem?_getD, HZQ.out]; rfl
                      have HE := Lib.hid (show (wr.setCell ⟨M, 1, none⟩ (.int .i64 z)).ownsRow w5.heap.size 3 1 u (1 - 1) (((zs.drop 1).take (1 - 1)).map (Value.int .i64)) ∧ Blk (wr.setCell ⟨M, 1, none⟩ (.int .i64 z)) M 25 #[.int .i64 7, .int .i64 (if 1 = 0 then 0 else zs.getD 0 0), .int .i64 0, .string ⟨#[]⟩, .string ⟨#[]⟩, .slice none 0 0, u] ∧ Below M w5 (wr.setCell ⟨M, 1, none⟩ (.int .i64 z)) ∧ (∀ b, b < w5.heap.size → b ≠ M → (wr.setCell ⟨M, 1, none⟩ (.int .i64 z)).heap[b]? = w5.heap[b]?) ∧ w5.heap.size ≤ (wr.setCell ⟨M, 1, none⟩ (.int .i64 z)).heap.size from
                        ⟨own_same HO.out (fun g hg => Below.heap_setCell _ _ _ g (fun e => by have := (HO.out.lt g hg).1; simp at e; omega)), by rw [hz0]; exact HQ.out.set 1 (.int .i64 z), HBQ.out.setCell (p := ⟨M, 1, none⟩) (Nat.le_refl M) _, fun b hb hbm => (Below.heap_setCell _ _ _ b hbm).trans (HH.out b hb hbm), by simpa using hsw⟩)
                      clear hz0
                      go_wp2_with fail
                      go_roundw
                      case rel => exact ⟨1, u, by omega, by go_num, Lib.hid HE.out.1, Lib.hid HE.out.2.1, Lib.hid HE.out.2.2.1, Lib.hid HE.out.2.2.2.1, HE.out.2.2.2.2⟩
                      case measure => simp [intOf]; omega
                    · have hq1 : ((q : Int) == 0) = false := beq_eq_false_iff_ne.2 (by omega)
                      have hzb := HZL.out
                      go_upto_region 37 with fail
                      have hO1 := HO.out
                      have hQ1 := HQ.out
                      have HQ1 := Lib.hid hQ1
                      refine wp_region_facts4 (fun (xs : Nat → Option Value) => { tmps := #[Value.string s, undef, Value.pointer (some { block := R, off := 0 }), Value.int IntKind.i64 0, Value.slice A4 wt.length (c - 1), Value.pointer (some { block := M, off := 0 }), Value.int IntKind.i64 16, Value.slice (some { block := b7, off := o7 }) zs.length c7, Value.bool true, Value.int IntKind.i64 ↑q, Value.string s, Value.slice (some { block := bw, off := ow }) (wt.length + 1) c, Value.agg (vOf (zeroAd (-1))).cells, Value.int IntKind.i64 16, Value.slice (some { block := gW, off := 0 }) 16 16, Value.int IntKind.i64 16, Value.bool false, u17, u18, u19, u20, u21, u22, u23, u24, u25, u26, u27, u28, Value.slice (some { block := bw, off := ow }) (wt.length + 1) c, Value.slice A4 wt.length (c - 1), Value.pointer (some { block := M, off := 0 }), Value.int IntKind.i64 7, Value.bool false, Value.bool false, undef, undef, undef, Value.bool false, undef, undef, undef, undef, undef, undef, undef, undef, undef, undef, undef, undef, undef, undef, undef, undef, undef, Value.pointer (some { block := M, off := 0 }), Value.int IntKind.i64 7, Value.bool false, Value.bool false, undef, undef, undef, Value.bool false, undef, undef, undef, undef, undef, undef, undef, undef, undef, undef, Value.pointer (some { block := M, off := 0 }), Value.int IntKind.i64 7, Value.bool false, Value.bool false, undef, undef, undef, Value.bool false, undef, undef, undef, undef, undef, undef, Value.tuple #[Value.slice (some { block := b7, off := o7 }) zs.length c7, Value.bool true], Value.slice A4 wt.length (c - 1), Value.tuple #[Value.slice (some { block := b7, off := o7 }) zs.length c7, Value.bool true], Value.slice (some { block := b7, off := o7 }) zs.length c7, Value.bool true, Value.bool true, Value.bool false, undef, Value.pointer (some { block := M, off := 0 }), Value.int IntKind.i64 7, undef, undef, undef, undef, undef, undef, undef, undef, undef, undef, undef, undef, undef, undef, Value.bool false, Value.bool false, undef, undef, Value.bool false, Value.bool false, undef, undef, undef, undef, undef, undef, undef, undef, undef, undef, Value.bool true, Value.bool true, Value.int IntKind.i64 ↑q, Value.slice (some { block := b7, off := o7 }) zs.length c7, Value.int IntKind.i64 ↑zs.length, Value.bool true, u134, u135, Value.int IntKind.i64 ↑q, Value.bool false, u138, u139, u140, u141, ((xs 0).getD u142), ((xs 1).getD u143), ((xs 2).getD u144), ((xs 3).getD u145), ((xs 4).getD u146), ((xs 5).getD u147), ((xs 6).getD u148), ((xs 7).getD u149), ((xs 8).getD u150), undef, undef, undef, undef, undef, undef, undef, undef, undef, undef, undef, undef, undef, undef, undef, undef, undef, undef, undef, undef], defers := [] }) (fun _ => none) (J37 w5.heap.size M (q - 1) u (((zs.drop 1).take (q - 1)).map (Value.int .i64)) ((#[.int .i64 7, .int .i64 (if q = 0 then 0 else zs.getD 0 0), .int .i64 0, .string ⟨#[]⟩, .string ⟨#[]⟩, .slice none 0 0, u] : Array Value)) wr) (F37 w5.heap.size M b7 o7 zs.length c7 q (q - 1) u z (((zs.drop 1).take (q - 1)).map (Value.int .i64)) ((#[.int .i64 7, .int .i64 (if q = 0 then 0 else zs.getD 0 0), .int .i64 0, .string ⟨#[]⟩, .string ⟨#[]⟩, .slice none 0 0, u] : Array Value)) (fun k => if k = 0 then u142 else if k = 1 then u143 else if k = 2 then u144 else if k = 3 then u145 else if k = 4 then u146 else if k = 5 then u147 else if k = 6 then u148 else if k = 7 then u149 else if k = 8 then u150 else undef)) dep37 (by kernel_rfl) (by kernel_rfl) ?_ rfl ⟨fun _ _ _ => rfl, hsw, (Below.refl _ _).drew, fun _ => hO1, fun _ => hQ1⟩ ?_ ?_
                      · intro k i hk hd
                        unfold dep37 at hd
                        simp only [Bool.and_eq_true, beq_iff_eq] at hd
                        obtain ⟨rfl, rfl⟩ := hd
                        kernel_rfl
                      · clear hO1 hQ1
                        intro i hi xs W hJ hxi hun hd
                        have hMW : M < W.heap.size := Nat.lt_of_lt_of_le hMB hJ.2.1
                        obtain rfl | rfl | rfl | rfl | rfl | rfl | rfl | rfl | rfl | rfl : i = 0 ∨ i = 1 ∨ i = 2 ∨ i = 3 ∨ i = 4 ∨ i = 5 ∨ i = 6 ∨ i = 7 ∨ i = 8 ∨ i = 9 := by
                          have : i < 10 := hi
                          omega
                        · refine wpOp_step rfl fun K hK => ?_
                          go_simp
                          exact hK _ _ ⟨some (.pointer (some ⟨M, 6, none⟩)), by first | rfl | simp [updo], J37.keep hJ hMB (by decide) (by decide) (Below.refl _ _) _, rfl, fun k hk _ h => F37.keep (by decide) (by decide) hMW (Below.refl _ _) _ k hk h⟩
                        · have e0 : (xs 0).getD u142 = .pointer (some ⟨M, 6, none⟩) := hd 0 (by kernel_rfl)
                          have e9 : xs 9 = none := hun 9 (by kernel_rfl)
                          have r6 : W.cell? ⟨M, 6, none⟩ = some u := (hJ.2.2.2.2 e9).cell 6
                          refine wpOp_step rfl fun K hK => ?_
                          go_simp
                          exact hK _ _ ⟨some (u), by first | rfl | simp [updo, e0], J37.keep hJ hMB (by decide) (by decide) (Below.refl _ _) _, rfl, fun k hk _ h => F37.keep (by decide) (by decide) hMW (Below.refl _ _) _ k hk h⟩
                        · refine wpOp_step rfl fun K hK => ?_
                          go_simp
                          exact hK _ _ ⟨some (.slice (some ⟨b7, o7, none⟩) zs.length c7), by first | rfl | simp [updo], J37.keep hJ hMB (by decide) (by decide) (Below.refl _ _) _, rfl, fun k hk _ h => F37.keep (by decide) (by decide) hMW (Below.refl _ _) _ k hk h⟩
                        · refine wpOp_step rfl fun K hK => ?_
                          go_simp
                          exact hK _ _ ⟨some (.int .i64 q), by first | rfl | simp [updo], J37.keep hJ hMB (by decide) (by decide) (Below.refl _ _) _, rfl, fun k hk _ h => F37.keep (by decide) (by decide) hMW (Below.refl _ _) _ k hk h⟩
                        · have e2 : (xs 2).getD u144 = .slice (some ⟨b7, o7, none⟩) zs.length c7 := hd 2 (by kernel_rfl)
                          have e3 : (xs 3).getD u145 = .int .i64 q := hd 3 (by kernel_rfl)
                          refine wpOp_step rfl fun K hK => ?_
                          go_simp
                          exact hK _ _ ⟨some (.pointer (some ⟨b7, o7 + q, none⟩)), by first | rfl | simp [updo, e2, e3], J37.keep hJ hMB (by decide) (by decide) (Below.refl _ _) _, rfl, fun k hk _ h => F37.keep (by decide) (by decide) hMW (Below.refl _ _) _ k hk h⟩
                        · have e4 : (xs 4).getD u146 = .pointer (some ⟨b7, o7 + q, none⟩) := hd 4 (by kernel_rfl)
                          have hcW : W.cell? ⟨b7, o7 + q, none⟩ = some (.int .i64 z) := by
                            rw [← hc]
                            simp only [World.cell?, hJ.1 b7 hb7 hbM]
                          refine wpOp_step rfl fun K hK => ?_
                          go_simp
                          exact hK _ _ ⟨some (.int .i64 z), by first | rfl | simp [updo, e4], J37.keep hJ hMB (by decide) (by decide) (Below.refl _ _) _, rfl, fun k hk _ h => F37.keep (by decide) (by decide) hMW (Below.refl _ _) _ k hk h⟩
                        · have e5 : (xs 5).getD u147 = .int .i64 z := hd 5 (by kernel_rfl)
                          have hb : Below W.heap.size W (W.alloc (.cells #[.int .i64 z] 3)) := (Below.refl _ _).alloc (Nat.le_refl _) _
                          have ho : (W.alloc (.cells #[.int .i64 z] 3)).cell? ⟨W.heap.size, 0, none⟩ = some (.int .i64 z) := (Blk.new W 3 #[.int .i64 z]).cell 0
                          have HB := Lib.hid hb
                          have HO := Lib.hid ho
                          clear hb ho
                          refine wpOp_step rfl fun K hK => ?_
                          go_simp
                          exact hK _ _ ⟨some (.slice (some ⟨W.heap.size, 0, none⟩) 1 1), by first | rfl | simp [updo, e5], J37.keep hJ hMB (by decide) (by decide) HB.out _, fun _ => ⟨W.heap.size, rfl, HO.out, by simp⟩, fun k hk _ h => F37.keep (by decide) (by decide) hMW HB.out _ k hk h⟩
                        · have e1 : (xs 1).getD u143 = u := hd 1 (by kernel_rfl)
                          have e7 : xs 7 = none := hxi
                          have e9 : xs 9 = none := hun 9 (by kernel_rfl)
                          have h6 : xs 7 = none → ∃ g, (xs 6).getD u148 = .slice (some ⟨g, 0, none⟩) 1 1 ∧ W.cell? ⟨g, 0, none⟩ = some (.int .i64 z) ∧ g < W.heap.size := hd 6 (by kernel_rfl)
                          obtain ⟨g, e6, hcg, _⟩ := h6 e7
                          obtain ⟨j1, j2, j3, j4, j5⟩ := hJ
                          have h0 := j4 e7
                          refine wpOp_step rfl fun K hK => ?_
                          refine wp_append_own _ (.tmp 143) (.tmp 148) 23 rfl w5.heap.size 3 i0 _ 1 8 Tryz.underlying23 HI.out.1 HI.out.2.1 HI.out.2.2.1 HI.out.2.2.2 rfl (by decide) u (q - 1) (((zs.drop 1).take (q - 1)).map (Value.int .i64)) e1 h0 ⟨g, 0, none⟩ 1 1 [.int .i64 z] e6 rfl (fun j v hv => by
                            rw [add_none, Nat.zero_add]
                            match j, hv with
                            | 0, hv => rw [hcg]; exact hv) (by simp [Value.oneCell']) (by unfold maxLen; omega) (by omega) j2 ?_
                          intro v' w' hown hgr _
                          have hne : ∀ b, b < w5.heap.size → some b ≠ u.ownBlock := fun b hb e => by have := (h0.lt b e.symm).1; omega
                          refine hK _ _ ⟨some v', rfl, ⟨fun b hb hbm => (hgr.block b (by omega) (hne b hb)).trans (j1 b hb hbm), Nat.le_trans j2 hgr.size, j3.grown hgr (Nat.le_of_lt hMW) (fun r hr => by have := (h0.lt r hr).1; omega), fun h => ?_, fun h => (hgr.block M hMW (hne M hMB)).trans (j5 e9)⟩, ⟨?_, fun _ => hown⟩, fun k hk hdk h => F37.keep7 k hk (fun e => by subst e; cases hdk) h⟩
                          · rw [updo_self] at h; cases h
                          · rw [updo_self]; exact fun h => by cases h
                        · refine wpOp_step rfl fun K hK => ?_
                          go_simp
                          exact hK _ _ ⟨some (.pointer (some ⟨M, 6, none⟩)), by first | rfl | simp [updo], J37.keep hJ hMB (by decide) (by decide) (Below.refl _ _) _, rfl, fun k hk _ h => F37.keep (by decide) (by decide) hMW (Below.refl _ _) _ k hk h⟩
                        · have e8 : (xs 8).getD u150 = .pointer (some ⟨M, 6, none⟩) := hd 8 (by kernel_rfl)
                          obtain ⟨h7, h7'⟩ : xs 7 ≠ none ∧ (xs 9 = none → W.ownsRow w5.heap.size 3 1 ((xs 7).getD u149) (q - 1 + 1) ((((zs.drop 1).take (q - 1)).map (Value.int .i64)) ++ [Value.int .i64 z])) := hd 7 (by kernel_rfl)
                          have e9 : xs 9 = none := hxi
                          have h0 := h7' e9
                          obtain ⟨j1, j2, j3, j4, j5⟩ := hJ
                          have hbk := j5 e9
                          have r6 : W.cell? ⟨M, 6, none⟩ = some u := hbk.cell 6
                          have f6 := hbk.frozen 6
                          have HJ := Lib.hid (And.intro j1 (And.intro j2 (And.intro j3 hbk)))
                          have HN := Lib.hid (And.intro h7 h0)
                          obtain ⟨A7', c7', e7⟩ : ∃ A7' c7', (xs 7).getD u149 = .slice A7' (q - 1 + 1) c7' := by
                            obtain ⟨A, c, ⟨h1, _⟩ | ⟨h1, h2⟩⟩ := slice_of_own h0
                            · exact ⟨A, c, h1⟩
                            · omega
                          clear j1 j2 j3 j4 j5 hbk h7 h7' h0 e9 hxi
                          refine wpOp_step rfl fun K hK => ?_
                          go_simp
                          refine hK _ _ ⟨some (.bool true), ?_, ⟨fun b hb hbm => (Below.heap_setCell _ _ _ b hbm).trans (HJ.out.1 b hb hbm), by simpa using HJ.out.2.1, HJ.out.2.2.1.setCell (p := ⟨M, 6, none⟩) (Nat.le_refl M) _, fun h => ?_, fun h => ?_⟩, ⟨?_, ?_⟩, fun k hk _ h => F37.keep9 HN.out.1 k hk h⟩
                          · simp [updo, e8, e7]
                          · exact absurd h HN.out.1
                          · rw [updo_self] at h; cases h
                          · show Blk _ M 25 (((#[.int .i64 7, .int .i64 (if q = 0 then 0 else zs.getD 0 0), .int .i64 0, .string ⟨#[]⟩, .string ⟨#[]⟩, .slice none 0 0, u] : Array Value)).setIfInBounds 6 ((xs 7).getD u149))
                            rw [e7]
                            exact HJ.out.2.2.2.set 6 _
                          · exact own_same HN.out.2 (fun g hg => Below.heap_setCell _ _ _ g (fun e => by have := (HN.out.2.lt g hg).1; simp at e; omega))
                      · clear hO1 hQ1
                        intro xs W hJ hall
                        obtain ⟨hbk, hown⟩ : Blk W M 25 (((#[.int .i64 7, .int .i64 (if q = 0 then 0 else zs.getD 0 0), .int .i64 0, .string ⟨#[]⟩, .string ⟨#[]⟩, .slice none 0 0, u] : Array Value)).setIfInBounds 6 ((xs 7).getD u149)) ∧ W.ownsRow w5.heap.size 3 1 ((xs 7).getD u149) (q - 1 + 1) ((((zs.drop 1).take (q - 1)).map (Value.int .i64)) ++ [Value.int .i64 z]) := hall 9 (by decide)
                        obtain ⟨j1, j2, j3, _, _⟩ := hJ
                        dsimp only
                        generalize (xs 0).getD u142 = q0
                        generalize (xs 1).getD u143 = q1
                        generalize (xs 2).getD u144 = q2
                        generalize (xs 3).getD u145 = q3
                        generalize (xs 4).getD u146 = q4
                        generalize (xs 5).getD u147 = q5
                        generalize (xs 6).getD u148 = q6
                        generalize (xs 7).getD u149 = q7 at hbk hown ⊢
                        generalize (xs 8).getD u150 = q8
                        have hL : (((zs.drop 1).take (q - 1)).map (Value.int .i64)) ++ [Value.int .i64 z] = ((zs.drop 1).take (q + 1 - 1)).map (Value.int .i64) := by
                          obtain ⟨p, rfl⟩ : ∃ p, q = p + 1 := ⟨q - 1, by omega⟩
                          rw [Nat.add_sub_cancel, Nat.add_sub_cancel, List.take_add_one, List.getElem?_drop, Nat.add_comm 1 p, HZQ.out]
                          simp
                        rw [hL, show q - 1 + 1 = q + 1 - 1 from by omega] at hown
                        have hbk2 : Blk W M 25 #[.int .i64 7, .int .i64 (if q + 1 = 0 then 0 else zs.getD 0 0), .int .i64 0, .string ⟨#[]⟩, .string ⟨#[]⟩, .slice none 0 0, q7] := by
                          have h := hbk
                          rw [if_neg hq0] at h
                          rw [if_neg (Nat.succ_ne_zero q)]
                          exact h
                        have HE := Lib.hid (And.intro hown (And.intro hbk2 (And.intro (HBQ.out.trans j3) (And.intro (show ∀ b, b < w5.heap.size → b ≠ M → W.heap[b]? = w5.heap[b]? from fun b hb hbm => (j1 b hb hbm).trans (HH.out b hb hbm)) j2))))
                        clear hall hbk hown j1 j2 j3 hL hbk2 HO HQ HBQ HH hc
                        go_wp2_with fail
                        go_roundw
                        case rel => exact ⟨q + 1, q7, by omega, by go_num, Lib.hid HE.out.1, Lib.hid HE.out.2.1, Lib.hid HE.out.2.2.1, Lib.hid HE.out.2.2.2.1, HE.out.2.2.2.2⟩
                        case measure => simp [intOf]; omega
                  · obtain rfl : q = zs.length := by omega
                    obtain ⟨A9, c9, rfl⟩ : ∃ A9 c9, u = .slice A9 (zs.length - 1) c9 := by
                      obtain ⟨A, c, ⟨h1, _⟩ | ⟨h1, h2⟩⟩ := slice_of_own HO.out
                      · exact ⟨A, c, h1⟩
                      · exact ⟨none, 0, by rw [h1, h2]⟩
                    have HZ9 := Lib.hid (show Ints wr wr.heap.size A9 (zs.length - 1) (zs.drop 1) from by
                      have h := HO.out
                      rw [List.take_of_length_le (by simp)] at h
                      exact Row.of_own h (by simp))
                    have HAP9 := Lib.hid (show ∀ b o, A9 = some ⟨b, o, none⟩ → M < b from fun b o e => by
                      have := (HO.out.lt b (by rw [e]; rfl)).1
                      omega)
                    have HMq := Lib.hid (show Blk wr M 25 #[.int .i64 7, .int .i64 (zs.getD 0 0), .int .i64 0, .string ⟨#[]⟩, .string ⟨#[]⟩, .slice none 0 0, .slice A9 (zs.length - 1) c9] from by
                      have h := HQ.out
                      have e : (if zs.length = 0 then 0 else zs.getD 0 0) = zs.getD 0 0 := by
                        split
                        · rename_i h0
                          rw [List.eq_nil_of_length_eq_zero h0]
                          rfl
                        · rfl
                      rw [e] at h
                      exact h)
                    have HBq := Lib.hid (HB5.out.trans HBQ.out)
                    have hMw5 := HM5.out
                    clear HO HQ HBQ HH hMw5
                    go_upto_region 41 with fail
                    obtain ⟨vF, hvF⟩ : ∃ vF : Av, (⟨7, zs.getD 0 0, 0, ⟨#[]⟩, ⟨#[]⟩, none, 0, 0, A9, zs.length - 1, c9⟩ : Av) = vF := ⟨_, rfl⟩
                    obtain ⟨aF, haF⟩ : ∃ aF : Ad, (⟨7, zs.getD 0 0, 0, ⟨#[]⟩, ⟨#[]⟩, [], zs.drop 1⟩ : Ad) = aF := ⟨_, rfl⟩
                    have qf : Blk wr M 25 vF.cells := by rw [← hvF]; exact HMq.out
                    have bf : Below M w3 wr := HBq.out
                    have rf : Reads wr wr.heap.size vF aF := by
                      rw [← hvF, ← haF]
                      exact ⟨rfl, rfl, rfl, rfl, rfl, Ints.none _ _, HZ9.out⟩
                    have hvn : vF.n ≤ 1000000 := by rw [← hvF]; exact Nat.zero_le _
                    have hvn2 : vF.n2 ≤ 1000000 := by rw [← hvF]; exact Nat.le_trans (Nat.sub_le _ _) HZL.out
                    have hap : vF.apart M := by rw [← hvF]; exact ⟨fun b o h => (by cases h), HAP9.out⟩
                    have hnz : vF.nm.size ≤ 1000000 := by rw [← hvF]; exact HNM.out.1
                    have hmz : vF.mt.size ≤ 1000000 := by rw [← hvF]; exact HNM.out.2
                    have hdd : ∀ d, validB d = true → fmtL d = s.data.toList → aF = d := fun d h1 h2 => by
                      obtain ⟨_, g2, g3, g4⟩ := HZX.out d h1 h2
                      rw [← haF, ← g4, ← g2]
                      first | rfl | simp [finK]
                    generalize wr = wF at qf bf rf ⊢
                    clear hvF haF HMq HBq
                    have QF := Lib.hid qf
                    have RF := Lib.hid rf
                    have BF := Lib.hid (B3.out.trans (bf.mono hwM))
                    have QRF := Lib.hid (QR3.out.below bf hR2)
                    have hMF := qf.lt
                    have HAP := Lib.hid hap
                    have HDD := Lib.hid hdd
                    have H9 := Lib.hid (valid9 vF aF wF rf hvn hvn2 hnz hmz)
                    clear qf bf rf hap hdd
                    have c0 : wF.cell? ⟨M, 0, none⟩ = some (.int .i64 vF.k) := QF.out.cell 0
                    have c1 : wF.cell? ⟨M, 1, none⟩ = some (.int .i64 vF.a) := QF.out.cell 1
                    have c2 : wF.cell? ⟨M, 2, none⟩ = some (.int .i64 vF.b) := QF.out.cell 2
                    have c3 : wF.cell? ⟨M, 3, none⟩ = some (.string vF.nm) := QF.out.cell 3
                    have c4 : wF.cell? ⟨M, 4, none⟩ = some (.string vF.mt) := QF.out.cell 4
                    have c5 : wF.cell? ⟨M, 5, none⟩ = some (.slice vF.A vF.n vF.c) := QF.out.cell 5
                    have c6 : wF.cell? ⟨M, 6, none⟩ = some (.slice vF.A2 vF.n2 vF.c2) := QF.out.cell 6
                    go_wp2_with fail
                    refine H9.out.mono ?_
                    rintro e w8 ⟨rfl, b8⟩
                    have QF8 := Lib.hid (QF.out.below b8 hMF)
                    have QR8 := Lib.hid (QRF.out.below b8 QRF.out.lt)
                    have B8 := Lib.hid (BF.out.trans (b8.mono BF.out.size))
                    have RF8 := Lib.hid ((RF.out.below b8).more b8.size)
                    have hM8 := QF8.out.lt
                    clear b8 H9 c0 c1 c2 c3 c4 c5 c6 QF QRF BF RF
                    cases hv : validB aF with
                    | false =>
                      have HNO := Lib.hid (show ∀ d, validB d = true → fmtL d = s.data.toList → False from fun d h1 h2 => by
                        have := HDD.out d h1 h2
                        rw [this, h1] at hv
                        cases hv)
                      clear hv
                      have r0 : w8.cell? ⟨R, 0, none⟩ = some (.int .i64 0) := QR8.out.cell 0
                      have r1 : w8.cell? ⟨R, 1, none⟩ = some (.int .i64 0) := QR8.out.cell 1
                      have r2 : w8.cell? ⟨R, 2, none⟩ = some (.int .i64 0) := QR8.out.cell 2
                      have r3 : w8.cell? ⟨R, 3, none⟩ = some (.string ⟨#[]⟩) := QR8.out.cell 3
                      have r4 : w8.cell? ⟨R, 4, none⟩ = some (.string ⟨#[]⟩) := QR8.out.cell 4
                      have r5 : w8.cell? ⟨R, 5, none⟩ = some (.slice none 0 0) := QR8.out.cell 5
                      have r6 : w8.cell? ⟨R, 6, none⟩ = some (.slice none 0 0) := QR8.out.cell 6
                      have f0 := QR8.out.frozen 0
                      have f1 := QR8.out.frozen 1
                      have f2 := QR8.out.frozen 2
                      have f3 := QR8.out.frozen 3
                      have f4 := QR8.out.frozen 4
                      have f5 := QR8.out.frozen 5
                      have f6 := QR8.out.frozen 6
                      go_wp2_with fail
                      (try simp only [Exit.inBlock, Exit.then])
                      refine bodyPost_ret (results_row_tmp rfl _ _ R 25 _ _ rfl (Blk.set7 QR8.out) Tryz.underlying25 rfl (by kernel_rfl)) rfl ?_
                      exact RefPost.no (below_set7 B8.out (by have := HL.out; omega) _ _ _ _ _ _ _) HNO.out
                    | true =>
                      obtain ⟨hwf, hz1, hz2, hz3, hz4⟩ := valid_wf hv
                      have H7 := Lib.hid (fmt7 vF aF w8 RF8.out (by rw [← RF8.out.args.len]; omega) (by rw [← RF8.out.surv.len]; omega) (by rw [RF8.out.nm]; omega) (by rw [RF8.out.mt]; omega) hwf)
                      obtain ⟨S, hS⟩ : ∃ S : ByteArray, ⟨(fmtL aF).toArray⟩ = S := ⟨_, rfl⟩
                      rw [hS] at H7
                      have HS := Lib.hid hS
                      have HV := Lib.hid hv
                      clear hwf hz1 hz2 hz3 hz4 hS hv
                      have c0 : w8.cell? ⟨M, 0, none⟩ = some (.int .i64 vF.k) := QF8.out.cell 0
                      have c1 : w8.cell? ⟨M, 1, none⟩ = some (.int .i64 vF.a) := QF8.out.cell 1
                      have c2 : w8.cell? ⟨M, 2, none⟩ = some (.int .i64 vF.b) := QF8.out.cell 2
                      have c3 : w8.cell? ⟨M, 3, none⟩ = some (.string vF.nm) := QF8.out.cell 3
                      have c4 : w8.cell? ⟨M, 4, none⟩ = some (.string vF.mt) := QF8.out.cell 4
                      have c5 : w8.cell? ⟨M, 5, none⟩ = some (.slice vF.A vF.n vF.c) := QF8.out.cell 5
                      have c6 : w8.cell? ⟨M, 6, none⟩ = some (.slice vF.A2 vF.n2 vF.c2) := QF8.out.cell 6
                      go_wp2_with fail
                      refine H7.out.mono ?_
                      rintro e w9 ⟨rfl, b9⟩
                      have QF9 := Lib.hid (QF8.out.below b9 hM8)
                      have QR9 := Lib.hid (QR8.out.below b9 QR8.out.lt)
                      have B9 := Lib.hid (B8.out.trans (b9.mono B8.out.size))
                      have RF9 := Lib.hid ((RF8.out.below b9).more b9.size)
                      clear b9 H7 c0 c1 c2 c3 c4 c5 c6 QF8 QR8 B8 RF8
                      by_cases hSs : S = s
                      · have hss : (S.toList == s.toList) = true := by rw [hSs]; exact beq_self_eq_true _
                        have HOK := Lib.hid (show fmtL aF = s.data.toList from by rw [← hSs, ← HS.out])
                        clear hSs
                        have r0 : w9.cell? ⟨R, 0, none⟩ = some (.int .i64 0) := QR9.out.cell 0
                        have r1 : w9.cell? ⟨R, 1, none⟩ = some (.int .i64 0) := QR9.out.cell 1
                        have r2 : w9.cell? ⟨R, 2, none⟩ = some (.int .i64 0) := QR9.out.cell 2
                        have r3 : w9.cell? ⟨R, 3, none⟩ = some (.string ⟨#[]⟩) := QR9.out.cell 3
                        have r4 : w9.cell? ⟨R, 4, none⟩ = some (.string ⟨#[]⟩) := QR9.out.cell 4
                        have r5 : w9.cell? ⟨R, 5, none⟩ = some (.slice none 0 0) := QR9.out.cell 5
                        have r6 : w9.cell? ⟨R, 6, none⟩ = some (.slice none 0 0) := QR9.out.cell 6
                        have f0 := QR9.out.frozen 0
                        have f1 := QR9.out.frozen 1
                        have f2 := QR9.out.frozen 2
                        have f3 := QR9.out.frozen 3
                        have f4 := QR9.out.frozen 4
                        have f5 := QR9.out.frozen 5
                        have f6 := QR9.out.frozen 6
                        have c0 : w9.cell? ⟨M, 0, none⟩ = some (.int .i64 vF.k) := QF9.out.cell 0
                        have c1 : w9.cell? ⟨M, 1, none⟩ = some (.int .i64 vF.a) := QF9.out.cell 1
                        have c2 : w9.cell? ⟨M, 2, none⟩ = some (.int .i64 vF.b) := QF9.out.cell 2
                        have c3 : w9.cell? ⟨M, 3, none⟩ = some (.string vF.nm) := QF9.out.cell 3
                        have c4 : w9.cell? ⟨M, 4, none⟩ = some (.string vF.mt) := QF9.out.cell 4
                        have c5 : w9.cell? ⟨M, 5, none⟩ = some (.slice vF.A vF.n vF.c) := QF9.out.cell 5
                        have c6 : w9.cell? ⟨M, 6, none⟩ = some (.slice vF.A2 vF.n2 vF.c2) := QF9.out.cell 6
                        go_wp2_with fail
                        (try simp only [Exit.inBlock, Exit.then])
                        refine bodyPost_ret (results_row_tmp rfl _ _ R 25 _ _ rfl (Blk.set7 QR9.out) Tryz.underlying25 rfl (by kernel_rfl)) rfl ?_
                        exact RefPost.yes RF9.out HAP.out (by omega) hvn hvn2 (below_set7 B9.out (by have := HL.out; omega) _ _ _ _ _ _ _) HV.out HOK.out
                      · have hss : (S.toList == s.toList) = false := beq_eq_false_iff_ne.2 fun e => hSs (ba_ext e)
                        have HNO := Lib.hid (show ∀ d, validB d = true → fmtL d = s.data.toList → False from fun d h1 h2 => by
                          have h3 := HDD.out d h1 h2
                          refine hSs ?_
                          rw [← HS.out, h3]
                          exact Go.WideShapes.bytes_inj (by simpa using h2))
                        clear hSs
                        have r0 : w9.cell? ⟨R, 0, none⟩ = some (.int .i64 0) := QR9.out.cell 0
                        have r1 : w9.cell? ⟨R, 1, none⟩ = some (.int .i64 0) := QR9.out.cell 1
                        have r2 : w9.cell? ⟨R, 2, none⟩ = some (.int .i64 0) := QR9.out.cell 2
                        have r3 : w9.cell? ⟨R, 3, none⟩ = some (.string ⟨#[]⟩) := QR9.out.cell 3
                        have r4 : w9.cell? ⟨R, 4, none⟩ = some (.string ⟨#[]⟩) := QR9.out.cell 4
                        have r5 : w9.cell? ⟨R, 5, none⟩ = some (.slice none 0 0) := QR9.out.cell 5
                        have r6 : w9.cell? ⟨R, 6, none⟩ = some (.slice none 0 0) := QR9.out.cell 6
                        have f0 := QR9.out.frozen 0
                        have f1 := QR9.out.frozen 1
                        have f2 := QR9.out.frozen 2
                        have f3 := QR9.out.frozen 3
                        have f4 := QR9.out.frozen 4
                        have f5 := QR9.out.frozen 5
                        have f6 := QR9.out.frozen 6
                        go_wp2_with fail
                        (try simp only [Exit.inBlock, Exit.then])
                        refine bodyPost_ret (results_row_tmp rfl _ _ R 25 _ _ rfl (Blk.set7 QR9.out) Tryz.underlying25 rfl (by kernel_rfl)) rfl ?_
                        exact RefPost.no (below_set7 B9.out (by have := HL.out; omega) _ _ _ _ _ _ _) HNO.out
            · by_cases k15 : K = 15
              · skip
                subst k15
                have HREST := Lib.hid (show ∀ d, validB d = true → fmtL d = s.data.toList → 15 = d.k ∧ wt = (numsK d).map istr ∧ (∀ z ∈ numsK d, Small z) ∧ finK 15 ⟨#[]⟩ ⟨#[]⟩ (numsK d) = d from fun d y1 y2 => by
                  obtain ⟨g1, g2, g3, g4⟩ := HX2.out d y1 y2
                  rw [← g1] at g2 g3
                  simp [preK] at g2
                  obtain ⟨e1, e2, e3⟩ := g2
                  rw [← e1, ← e2] at g3
                  exact ⟨g1, by first | exact e3 | simpa using e3, g4, g3⟩)
                have HNM := Lib.hid (show (⟨#[]⟩ : ByteArray).size ≤ 1000000 ∧ (⟨#[]⟩ : ByteArray).size ≤ 1000000 from by decide)
                have HWZ2 := HWZ
                clear k11 k12 k13 k7
                have HC := Lib.hid (integers26 A4 wt.length (c - 1) wt wr (HST4.out.more (Nat.le_of_lt HM.out.lt)) (by omega) HWZ2.out)
                go_wp2_with fail
                refine HC.out.mono ?_
                rintro e w5 ⟨A7, c7, zs, ok, rfl, hc7, hz, hzI, hzl, hfr, hzx, b5⟩
                have hMr := HM.out.lt
                have HM5 := Lib.hid (HM.out.below b5 hMr)
                have HB5 := Lib.hid (HB.out.trans (b5.mono (Nat.le_of_lt hMr)))
                have hs5 := b5.size
                have HZ := Lib.hid hz
                have HFR := Lib.hid (show ∀ b o, A7 = some ⟨b, o, none⟩ → M < b from fun b o e => by have := hfr b o e; omega)
                have HZX := Lib.hid (show ∀ d, validB d = true → fmtL d = s.data.toList → ok = true ∧ zs = numsK d ∧ 15 = d.k ∧ finK 15 ⟨#[]⟩ ⟨#[]⟩ (numsK d) = d from fun d h1 h2 => by
                  obtain ⟨g1, g2, g3, g4⟩ := HREST.out d h1 h2
                  obtain ⟨g5, g6⟩ := hzx (numsK d) g3 g2
                  exact ⟨g5, g6, g1, g4⟩)
                clear hz hfr hzx b5 HC HREST
                cases ok with
                | false =>
                  have HNO := Lib.hid (show ∀ d, validB d = true → fmtL d = s.data.toList → False from fun d h1 h2 => absurd (HZX.out d h1 h2).1 (by decide))
                  have QR5 := Lib.hid (QR3.out.below HB5.out hR2)
                  have B5 := Lib.hid (B3.out.trans (HB5.out.mono hwM))
                  have r0 : w5.cell? ⟨R, 0, none⟩ = some (.int .i64 0) := QR5.out.cell 0
                  have r1 : w5.cell? ⟨R, 1, none⟩ = some (.int .i64 0) := QR5.out.cell 1
                  have r2 : w5.cell? ⟨R, 2, none⟩ = some (.int .i64 0) := QR5.out.cell 2
                  have r3 : w5.cell? ⟨R, 3, none⟩ = some (.string ⟨#[]⟩) := QR5.out.cell 3
                  have r4 : w5.cell? ⟨R, 4, none⟩ = some (.string ⟨#[]⟩) := QR5.out.cell 4
                  have r5 : w5.cell? ⟨R, 5, none⟩ = some (.slice none 0 0) := QR5.out.cell 5
                  have r6 : w5.cell? ⟨R, 6, none⟩ = some (.slice none 0 0) := QR5.out.cell 6
                  have f0 := QR5.out.frozen 0
                  have f1 := QR5.out.frozen 1
                  have f2 := QR5.out.frozen 2
                  have f3 := QR5.out.frozen 3
                  have f4 := QR5.out.frozen 4
                  have f5 := QR5.out.frozen 5
                  have f6 := QR5.out.frozen 6
                  go_wp2_with fail
                  (try simp only [Exit.inBlock, Exit.then])
                  refine bodyPost_ret (results_row_tmp rfl _ _ R 25 _ _ rfl (Blk.set7 QR5.out) Tryz.underlying25 rfl (by kernel_rfl)) rfl ?_
                  exact RefPost.no (below_set7 B5.out (by have := HL.out; omega) _ _ _ _ _ _ _) HNO.out
                | true =>
                  have c0 : w5.cell? ⟨M, 0, none⟩ = some (.int .i64 15) := HM5.out.cell 0
                  cases zs with
                  | nil =>
                    go_upto_region 41 with fail
                    obtain ⟨vF, hvF⟩ : ∃ vF : Av, (⟨15, 0, 0, ⟨#[]⟩, ⟨#[]⟩, none, 0, 0, none, 0, 0⟩ : Av) = vF := ⟨_, rfl⟩
                    obtain ⟨aF, haF⟩ : ∃ aF : Ad, (⟨15, 0, 0, ⟨#[]⟩, ⟨#[]⟩, [], []⟩ : Ad) = aF := ⟨_, rfl⟩
                    have qf : Blk w5 M 25 vF.cells := by rw [← hvF]; exact HM5.out
                    have bf : Below M w3 w5 := HB5.out
                    have rf : Reads w5 w5.heap.size vF aF := by
                      rw [← hvF, ← haF]
                      exact ⟨rfl, rfl, rfl, rfl, rfl, Ints.none _ _, Ints.none _ _⟩
                    have hvn : vF.n ≤ 1000000 := by rw [← hvF]; exact Nat.zero_le _
                    have hvn2 : vF.n2 ≤ 1000000 := by rw [← hvF]; exact Nat.zero_le _
                    have hap : vF.apart M := by rw [← hvF]; exact ⟨fun b o h => (by cases h), fun b o h => (by cases h)⟩
                    have hnz : vF.nm.size ≤ 1000000 := by rw [← hvF]; exact HNM.out.1
                    have hmz : vF.mt.size ≤ 1000000 := by rw [← hvF]; exact HNM.out.2
                    have hdd : ∀ d, validB d = true → fmtL d = s.data.toList → aF = d := fun d h1 h2 => by
                      obtain ⟨_, g2, g3, g4⟩ := HZX.out d h1 h2
                      rw [← haF, ← g4, ← g2]
                      first | rfl | simp [finK]
                    generalize w5 = wF at qf bf rf ⊢
                    clear hvF haF HM5 HB5
                    have QF := Lib.hid qf
                    have RF := Lib.hid rf
                    have BF := Lib.hid (B3.out.trans (bf.mono hwM))
                    have QRF := Lib.hid (QR3.out.below bf hR2)
                    have hMF := qf.lt
                    have HAP := Lib.hid hap
                    have HDD := Lib.hid hdd
                    have H9 := Lib.hid (valid9 vF aF wF rf hvn hvn2 hnz hmz)
                    clear qf bf rf hap hdd
                    have c0 : wF.cell? ⟨M, 0, none⟩ = some (.int .i64 vF.k) := QF.out.cell 0
                    have c1 : wF.cell? ⟨M, 1, none⟩ = some (.int .i64 vF.a) := QF.out.cell 1
                    have c2 : wF.cell? ⟨M, 2, none⟩ = some (.int .i64 vF.b) := QF.out.cell 2
                    have c3 : wF.cell? ⟨M, 3, none⟩ = some (.string vF.nm) := QF.out.cell 3
                    have c4 : wF.cell? ⟨M, 4, none⟩ = some (.string vF.mt) := QF.out.cell 4
                    have c5 : wF.cell? ⟨M, 5, none⟩ = some (.slice vF.A vF.n vF.c) := QF.out.cell 5
                    have c6 : wF.cell? ⟨M, 6, none⟩ = some (.slice vF.A2 vF.n2 vF.c2) := QF.out.cell 6
                    go_wp2_with fail
                    refine H9.out.mono ?_
                    rintro e w8 ⟨rfl, b8⟩
                    have QF8 := Lib.hid (QF.out.below b8 hMF)
                    have QR8 := Lib.hid (QRF.out.below b8 QRF.out.lt)
                    have B8 := Lib.hid (BF.out.trans (b8.mono BF.out.size))
                    have RF8 := Lib.hid ((RF.out.below b8).more b8.size)
                    have hM8 := QF8.out.lt
                    clear b8 H9 c0 c1 c2 c3 c4 c5 c6 QF QRF BF RF
                    cases hv : validB aF with
                    | false =>
                      have HNO := Lib.hid (show ∀ d, validB d = true → fmtL d = s.data.toList → False from fun d h1 h2 => by
                        have := HDD.out d h1 h2
                        rw [this, h1] at hv
                        cases hv)
                      clear hv
                      have r0 : w8.cell? ⟨R, 0, none⟩ = some (.int .i64 0) := QR8.out.cell 0
                      have r1 : w8.cell? ⟨R, 1, none⟩ = some (.int .i64 0) := QR8.out.cell 1
                      have r2 : w8.cell? ⟨R, 2, none⟩ = some (.int .i64 0) := QR8.out.cell 2
                      have r3 : w8.cell? ⟨R, 3, none⟩ = some (.string ⟨#[]⟩) := QR8.out.cell 3
                      have r4 : w8.cell? ⟨R, 4, none⟩ = some (.string ⟨#[]⟩) := QR8.out.cell 4
                      have r5 : w8.cell? ⟨R, 5, none⟩ = some (.slice none 0 0) := QR8.out.cell 5
                      have r6 : w8.cell? ⟨R, 6, none⟩ = some (.slice none 0 0) := QR8.out.cell 6
                      have f0 := QR8.out.frozen 0
                      have f1 := QR8.out.frozen 1
                      have f2 := QR8.out.frozen 2
                      have f3 := QR8.out.frozen 3
                      have f4 := QR8.out.frozen 4
                      have f5 := QR8.out.frozen 5
                      have f6 := QR8.out.frozen 6
                      go_wp2_with fail
                      (try simp only [Exit.inBlock, Exit.then])
                      refine bodyPost_ret (results_row_tmp rfl _ _ R 25 _ _ rfl (Blk.set7 QR8.out) Tryz.underlying25 rfl (by kernel_rfl)) rfl ?_
                      exact RefPost.no (below_set7 B8.out (by have := HL.out; omega) _ _ _ _ _ _ _) HNO.out
                    | true =>
                      obtain ⟨hwf, hz1, hz2, hz3, hz4⟩ := valid_wf hv
                      have H7 := Lib.hid (fmt7 vF aF w8 RF8.out (by rw [← RF8.out.args.len]; omega) (by rw [← RF8.out.surv.len]; omega) (by rw [RF8.out.nm]; omega) (by rw [RF8.out.mt]; omega) hwf)
                      obtain ⟨S, hS⟩ : ∃ S : ByteArray, ⟨(fmtL aF).toArray⟩ = S := ⟨_, rfl⟩
                      rw [hS] at H7
                      have HS := Lib.hid hS
                      have HV := Lib.hid hv
                      clear hwf hz1 hz2 hz3 hz4 hS hv
                      have c0 : w8.cell? ⟨M, 0, none⟩ = some (.int .i64 vF.k) := QF8.out.cell 0
                      have c1 : w8.cell? ⟨M, 1, none⟩ = some (.int .i64 vF.a) := QF8.out.cell 1
                      have c2 : w8.cell? ⟨M, 2, none⟩ = some (.int .i64 vF.b) := QF8.out.cell 2
                      have c3 : w8.cell? ⟨M, 3, none⟩ = some (.string vF.nm) := QF8.out.cell 3
                      have c4 : w8.cell? ⟨M, 4, none⟩ = some (.string vF.mt) := QF8.out.cell 4
                      have c5 : w8.cell? ⟨M, 5, none⟩ = some (.slice vF.A vF.n vF.c) := QF8.out.cell 5
                      have c6 : w8.cell? ⟨M, 6, none⟩ = some (.slice vF.A2 vF.n2 vF.c2) := QF8.out.cell 6
                      go_wp2_with fail
                      refine H7.out.mono ?_
                      rintro e w9 ⟨rfl, b9⟩
                      have QF9 := Lib.hid (QF8.out.below b9 hM8)
                      have QR9 := Lib.hid (QR8.out.below b9 QR8.out.lt)
                      have B9 := Lib.hid (B8.out.trans (b9.mono B8.out.size))
                      have RF9 := Lib.hid ((RF8.out.below b9).more b9.size)
                      clear b9 H7 c0 c1 c2 c3 c4 c5 c6 QF8 QR8 B8 RF8
                      by_cases hSs : S = s
                      · have hss : (S.toList == s.toList) = true := by rw [hSs]; exact beq_self_eq_true _
                        have HOK := Lib.hid (show fmtL aF = s.data.toList from by rw [← hSs, ← HS.out])
                        clear hSs
                        have r0 : w9.cell? ⟨R, 0, none⟩ = some (.int .i64 0) := QR9.out.cell 0
                        have r1 : w9.cell? ⟨R, 1, none⟩ = some (.int .i64 0) := QR9.out.cell 1
                        have r2 : w9.cell? ⟨R, 2, none⟩ = some (.int .i64 0) := QR9.out.cell 2
                        have r3 : w9.cell? ⟨R, 3, none⟩ = some (.string ⟨#[]⟩) := QR9.out.cell 3
                        have r4 : w9.cell? ⟨R, 4, none⟩ = some (.string ⟨#[]⟩) := QR9.out.cell 4
                        have r5 : w9.cell? ⟨R, 5, none⟩ = some (.slice none 0 0) := QR9.out.cell 5
                        have r6 : w9.cell? ⟨R, 6, none⟩ = some (.slice none 0 0) := QR9.out.cell 6
                        have f0 := QR9.out.frozen 0
                        have f1 := QR9.out.frozen 1
                        have f2 := QR9.out.frozen 2
                        have f3 := QR9.out.frozen 3
                        have f4 := QR9.out.frozen 4
                        have f5 := QR9.out.frozen 5
                        have f6 := QR9.out.frozen 6
                        have c0 : w9.cell? ⟨M, 0, none⟩ = some (.int .i64 vF.k) := QF9.out.cell 0
                        have c1 : w9.cell? ⟨M, 1, none⟩ = some (.int .i64 vF.a) := QF9.out.cell 1
                        have c2 : w9.cell? ⟨M, 2, none⟩ = some (.int .i64 vF.b) := QF9.out.cell 2
                        have c3 : w9.cell? ⟨M, 3, none⟩ = some (.string vF.nm) := QF9.out.cell 3
                        have c4 : w9.cell? ⟨M, 4, none⟩ = some (.string vF.mt) := QF9.out.cell 4
                        have c5 : w9.cell? ⟨M, 5, none⟩ = some (.slice vF.A vF.n vF.c) := QF9.out.cell 5
                        have c6 : w9.cell? ⟨M, 6, none⟩ = some (.slice vF.A2 vF.n2 vF.c2) := QF9.out.cell 6
                        go_wp2_with fail
                        (try simp only [Exit.inBlock, Exit.then])
                        refine bodyPost_ret (results_row_tmp rfl _ _ R 25 _ _ rfl (Blk.set7 QR9.out) Tryz.underlying25 rfl (by kernel_rfl)) rfl ?_
                        exact RefPost.yes RF9.out HAP.out (by omega) hvn hvn2 (below_set7 B9.out (by have := HL.out; omega) _ _ _ _ _ _ _) HV.out HOK.out
                      · have hss : (S.toList == s.toList) = false := beq_eq_false_iff_ne.2 fun e => hSs (ba_ext e)
                        have HNO := Lib.hid (show ∀ d, validB d = true → fmtL d = s.data.toList → False from fun d h1 h2 => by
                          have h3 := HDD.out d h1 h2
                          refine hSs ?_
                          rw [← HS.out, h3]
                          exact Go.WideShapes.bytes_inj (by simpa using h2))
                        clear hSs
                        have r0 : w9.cell? ⟨R, 0, none⟩ = some (.int .i64 0) := QR9.out.cell 0
                        have r1 : w9.cell? ⟨R, 1, none⟩ = some (.int .i64 0) := QR9.out.cell 1
                        have r2 : w9.cell? ⟨R, 2, none⟩ = some (.int .i64 0) := QR9.out.cell 2
                        have r3 : w9.cell? ⟨R, 3, none⟩ = some (.string ⟨#[]⟩) := QR9.out.cell 3
                        have r4 : w9.cell? ⟨R, 4, none⟩ = some (.string ⟨#[]⟩) := QR9.out.cell 4
                        have r5 : w9.cell? ⟨R, 5, none⟩ = some (.slice none 0 0) := QR9.out.cell 5
                        have r6 : w9.cell? ⟨R, 6, none⟩ = some (.slice none 0 0) := QR9.out.cell 6
                        have f0 := QR9.out.frozen 0
                        have f1 := QR9.out.frozen 1
                        have f2 := QR9.out.frozen 2
                        have f3 := QR9.out.frozen 3
                        have f4 := QR9.out.frozen 4
                        have f5 := QR9.out.frozen 5
                        have f6 := QR9.out.frozen 6
                        go_wp2_with fail
                        (try simp only [Exit.inBlock, Exit.then])
                        refine bodyPost_ret (results_row_tmp rfl _ _ R 25 _ _ rfl (Blk.set7 QR9.out) Tryz.underlying25 rfl (by kernel_rfl)) rfl ?_
                        exact RefPost.no (below_set7 B9.out (by have := HL.out; omega) _ _ _ _ _ _ _) HNO.out
                  | cons z1 zr =>
                    have HZ1 := HZ.out.at_ (k := 0) (by simp)
                    obtain ⟨b7, o7, z1', rfl, hb7, hz1', hc71⟩ := HZ1
                    simp only [List.getElem?_cons_zero, Option.some.injEq] at hz1'
                    subst hz1'
                    have hc71' : w5.cell? ⟨b7, o7, none⟩ = some (.int .i64 z1) := by simpa using hc71
                    have m1 : w5.cell? ⟨M, 1, none⟩ = some (.int .i64 0) := HM5.out.cell 1
                    have m2 : w5.cell? ⟨M, 2, none⟩ = some (.int .i64 0) := HM5.out.cell 2
                    have f1 := HM5.out.frozen 1
                    have f2 := HM5.out.frozen 2
                    have hb7M : M ≠ b7 := by have := HFR.out b7 o7 rfl; omega
                    go_upto_region 41 with fail
                    obtain ⟨vF, hvF⟩ : ∃ vF : Av, (⟨15, 0, z1, ⟨#[]⟩, ⟨#[]⟩, none, 0, 0, none, 0, 0⟩ : Av) = vF := ⟨_, rfl⟩
                    obtain ⟨aF, haF⟩ : ∃ aF : Ad, (⟨15, 0, z1, ⟨#[]⟩, ⟨#[]⟩, [], []⟩ : Ad) = aF := ⟨_, rfl⟩
                    have qf : Blk (w5.setCell ⟨M, 2, none⟩ (.int .i64 z1)) M 25 vF.cells := by rw [← hvF]; exact (HM5.out.set 2 (.int .i64 z1))
                    have bf : Below M w3 (w5.setCell ⟨M, 2, none⟩ (.int .i64 z1)) := (HB5.out.setCell (p := ⟨M, 2, none⟩) (Nat.le_refl M) (.int .i64 z1))
                    have rf : Reads (w5.setCell ⟨M, 2, none⟩ (.int .i64 z1)) (w5.setCell ⟨M, 2, none⟩ (.int .i64 z1)).heap.size vF aF := by
                      rw [← hvF, ← haF]
                      exact ⟨rfl, rfl, rfl, rfl, rfl, Ints.none _ _, Ints.none _ _⟩
                    have hvn : vF.n ≤ 1000000 := by rw [← hvF]; exact Nat.zero_le _
                    have hvn2 : vF.n2 ≤ 1000000 := by rw [← hvF]; exact Nat.zero_le _
                    have hap : vF.apart M := by rw [← hvF]; exact ⟨fun b o h => (by cases h), fun b o h => (by cases h)⟩
                    have hnz : vF.nm.size ≤ 1000000 := by rw [← hvF]; exact HNM.out.1
                    have hmz : vF.mt.size ≤ 1000000 := by rw [← hvF]; exact HNM.out.2
                    have hdd : ∀ d, validB d = true → fmtL d = s.data.toList → aF = d := fun d h1 h2 => by
                      obtain ⟨_, g2, g3, g4⟩ := HZX.out d h1 h2
                      rw [← haF, ← g4, ← g2]
                      first | rfl | simp [finK]
                    generalize (w5.setCell ⟨M, 2, none⟩ (.int .i64 z1)) = wF at qf bf rf ⊢
                    clear hvF haF HM5 HB5
                    have QF := Lib.hid qf
                    have RF := Lib.hid rf
                    have BF := Lib.hid (B3.out.trans (bf.mono hwM))
                    have QRF := Lib.hid (QR3.out.below bf hR2)
                    have hMF := qf.lt
                    have HAP := Lib.hid hap
                    have HDD := Lib.hid hdd
                    have H9 := Lib.hid (valid9 vF aF wF rf hvn hvn2 hnz hmz)
                    clear qf bf rf hap hdd
                    have c0 : wF.cell? ⟨M, 0, none⟩ = some (.int .i64 vF.k) := QF.out.cell 0
                    have c1 : wF.cell? ⟨M, 1, none⟩ = some (.int .i64 vF.a) := QF.out.cell 1
                    have c2 : wF.cell? ⟨M, 2, none⟩ = some (.int .i64 vF.b) := QF.out.cell 2
                    have c3 : wF.cell? ⟨M, 3, none⟩ = some (.string vF.nm) := QF.out.cell 3
                    have c4 : wF.cell? ⟨M, 4, none⟩ = some (.string vF.mt) := QF.out.cell 4
                    have c5 : wF.cell? ⟨M, 5, none⟩ = some (.slice vF.A vF.n vF.c) := QF.out.cell 5
                    have c6 : wF.cell? ⟨M, 6, none⟩ = some (.slice vF.A2 vF.n2 vF.c2) := QF.out.cell 6
                    go_wp2_with fail
                    refine H9.out.mono ?_
                    rintro e w8 ⟨rfl, b8⟩
                    have QF8 := Lib.hid (QF.out.below b8 hMF)
                    have QR8 := Lib.hid (QRF.out.below b8 QRF.out.lt)
                    have B8 := Lib.hid (BF.out.trans (b8.mono BF.out.size))
                    have RF8 := Lib.hid ((RF.out.below b8).more b8.size)
                    have hM8 := QF8.out.lt
                    clear b8 H9 c0 c1 c2 c3 c4 c5 c6 QF QRF BF RF
                    cases hv : validB aF with
                    | false =>
                      have HNO := Lib.hid (show ∀ d, validB d = true → fmtL d = s.data.toList → False from fun d h1 h2 => by
                        have := HDD.out d h1 h2
                        rw [this, h1] at hv
                        cases hv)
                      clear hv
                      have r0 : w8.cell? ⟨R, 0, none⟩ = some (.int .i64 0) := QR8.out.cell 0
                      have r1 : w8.cell? ⟨R, 1, none⟩ = some (.int .i64 0) := QR8.out.cell 1
                      have r2 : w8.cell? ⟨R, 2, none⟩ = some (.int .i64 0) := QR8.out.cell 2
                      have r3 : w8.cell? ⟨R, 3, none⟩ = some (.string ⟨#[]⟩) := QR8.out.cell 3
                      have r4 : w8.cell? ⟨R, 4, none⟩ = some (.string ⟨#[]⟩) := QR8.out.cell 4
                      have r5 : w8.cell? ⟨R, 5, none⟩ = some (.slice none 0 0) := QR8.out.cell 5
                      have r6 : w8.cell? ⟨R, 6, none⟩ = some (.slice none 0 0) := QR8.out.cell 6
                      have f0 := QR8.out.frozen 0
                      have f1 := QR8.out.frozen 1
                      have f2 := QR8.out.frozen 2
                      have f3 := QR8.out.frozen 3
                      have f4 := QR8.out.frozen 4
                      have f5 := QR8.out.frozen 5
                      have f6 := QR8.out.frozen 6
                      go_wp2_with fail
                      (try simp only [Exit.inBlock, Exit.then])
                      refine bodyPost_ret (results_row_tmp rfl _ _ R 25 _ _ rfl (Blk.set7 QR8.out) Tryz.underlying25 rfl (by kernel_rfl)) rfl ?_
                      exact RefPost.no (below_set7 B8.out (by have := HL.out; omega) _ _ _ _ _ _ _) HNO.out
                    | true =>
                      obtain ⟨hwf, hz1, hz2, hz3, hz4⟩ := valid_wf hv
                      have H7 := Lib.hid (fmt7 vF aF w8 RF8.out (by rw [← RF8.out.args.len]; omega) (by rw [← RF8.out.surv.len]; omega) (by rw [RF8.out.nm]; omega) (by rw [RF8.out.mt]; omega) hwf)
                      obtain ⟨S, hS⟩ : ∃ S : ByteArray, ⟨(fmtL aF).toArray⟩ = S := ⟨_, rfl⟩
                      rw [hS] at H7
                      have HS := Lib.hid hS
                      have HV := Lib.hid hv
                      clear hwf hz1 hz2 hz3 hz4 hS hv
                      have c0 : w8.cell? ⟨M, 0, none⟩ = some (.int .i64 vF.k) := QF8.out.cell 0
                      have c1 : w8.cell? ⟨M, 1, none⟩ = some (.int .i64 vF.a) := QF8.out.cell 1
                      have c2 : w8.cell? ⟨M, 2, none⟩ = some (.int .i64 vF.b) := QF8.out.cell 2
                      have c3 : w8.cell? ⟨M, 3, none⟩ = some (.string vF.nm) := QF8.out.cell 3
                      have c4 : w8.cell? ⟨M, 4, none⟩ = some (.string vF.mt) := QF8.out.cell 4
                      have c5 : w8.cell? ⟨M, 5, none⟩ = some (.slice vF.A vF.n vF.c) := QF8.out.cell 5
                      have c6 : w8.cell? ⟨M, 6, none⟩ = some (.slice vF.A2 vF.n2 vF.c2) := QF8.out.cell 6
                      go_wp2_with fail
                      refine H7.out.mono ?_
                      rintro e w9 ⟨rfl, b9⟩
                      have QF9 := Lib.hid (QF8.out.below b9 hM8)
                      have QR9 := Lib.hid (QR8.out.below b9 QR8.out.lt)
                      have B9 := Lib.hid (B8.out.trans (b9.mono B8.out.size))
                      have RF9 := Lib.hid ((RF8.out.below b9).more b9.size)
                      clear b9 H7 c0 c1 c2 c3 c4 c5 c6 QF8 QR8 B8 RF8
                      by_cases hSs : S = s
                      · have hss : (S.toList == s.toList) = true := by rw [hSs]; exact beq_self_eq_true _
                        have HOK := Lib.hid (show fmtL aF = s.data.toList from by rw [← hSs, ← HS.out])
                        clear hSs
                        have r0 : w9.cell? ⟨R, 0, none⟩ = some (.int .i64 0) := QR9.out.cell 0
                        have r1 : w9.cell? ⟨R, 1, none⟩ = some (.int .i64 0) := QR9.out.cell 1
                        have r2 : w9.cell? ⟨R, 2, none⟩ = some (.int .i64 0) := QR9.out.cell 2
                        have r3 : w9.cell? ⟨R, 3, none⟩ = some (.string ⟨#[]⟩) := QR9.out.cell 3
                        have r4 : w9.cell? ⟨R, 4, none⟩ = some (.string ⟨#[]⟩) := QR9.out.cell 4
                        have r5 : w9.cell? ⟨R, 5, none⟩ = some (.slice none 0 0) := QR9.out.cell 5
                        have r6 : w9.cell? ⟨R, 6, none⟩ = some (.slice none 0 0) := QR9.out.cell 6
                        have f0 := QR9.out.frozen 0
                        have f1 := QR9.out.frozen 1
                        have f2 := QR9.out.frozen 2
                        have f3 := QR9.out.frozen 3
                        have f4 := QR9.out.frozen 4
                        have f5 := QR9.out.frozen 5
                        have f6 := QR9.out.frozen 6
                        have c0 : w9.cell? ⟨M, 0, none⟩ = some (.int .i64 vF.k) := QF9.out.cell 0
                        have c1 : w9.cell? ⟨M, 1, none⟩ = some (.int .i64 vF.a) := QF9.out.cell 1
                        have c2 : w9.cell? ⟨M, 2, none⟩ = some (.int .i64 vF.b) := QF9.out.cell 2
                        have c3 : w9.cell? ⟨M, 3, none⟩ = some (.string vF.nm) := QF9.out.cell 3
                        have c4 : w9.cell? ⟨M, 4, none⟩ = some (.string vF.mt) := QF9.out.cell 4
                        have c5 : w9.cell? ⟨M, 5, none⟩ = some (.slice vF.A vF.n vF.c) := QF9.out.cell 5
                        have c6 : w9.cell? ⟨M, 6, none⟩ = some (.slice vF.A2 vF.n2 vF.c2) := QF9.out.cell 6
                        go_wp2_with fail
                        (try simp only [Exit.inBlock, Exit.then])
                        refine bodyPost_ret (results_row_tmp rfl _ _ R 25 _ _ rfl (Blk.set7 QR9.out) Tryz.underlying25 rfl (by kernel_rfl)) rfl ?_
                        exact RefPost.yes RF9.out HAP.out (by omega) hvn hvn2 (below_set7 B9.out (by have := HL.out; omega) _ _ _ _ _ _ _) HV.out HOK.out
                      · have hss : (S.toList == s.toList) = false := beq_eq_false_iff_ne.2 fun e => hSs (ba_ext e)
                        have HNO := Lib.hid (show ∀ d, validB d = true → fmtL d = s.data.toList → False from fun d h1 h2 => by
                          have h3 := HDD.out d h1 h2
                          refine hSs ?_
                          rw [← HS.out, h3]
                          exact Go.WideShapes.bytes_inj (by simpa using h2))
                        clear hSs
                        have r0 : w9.cell? ⟨R, 0, none⟩ = some (.int .i64 0) := QR9.out.cell 0
                        have r1 : w9.cell? ⟨R, 1, none⟩ = some (.int .i64 0) := QR9.out.cell 1
                        have r2 : w9.cell? ⟨R, 2, none⟩ = some (.int .i64 0) := QR9.out.cell 2
                        have r3 : w9.cell? ⟨R, 3, none⟩ = some (.string ⟨#[]⟩) := QR9.out.cell 3
                        have r4 : w9.cell? ⟨R, 4, none⟩ = some (.string ⟨#[]⟩) := QR9.out.cell 4
                        have r5 : w9.cell? ⟨R, 5, none⟩ = some (.slice none 0 0) := QR9.out.cell 5
                        have r6 : w9.cell? ⟨R, 6, none⟩ = some (.slice none 0 0) := QR9.out.cell 6
                        have f0 := QR9.out.frozen 0
                        have f1 := QR9.out.frozen 1
                        have f2 := QR9.out.frozen 2
                        have f3 := QR9.out.frozen 3
                        have f4 := QR9.out.frozen 4
                        have f5 := QR9.out.frozen 5
                        have f6 := QR9.out.frozen 6
                        go_wp2_with fail
                        (try simp only [Exit.inBlock, Exit.then])
                        refine bodyPost_ret (results_row_tmp rfl _ _ R 25 _ _ rfl (Blk.set7 QR9.out) Tryz.underlying25 rfl (by kernel_rfl)) rfl ?_
                        exact RefPost.no (below_set7 B9.out (by have := HL.out; omega) _ _ _ _ _ _ _) HNO.out
              · skip
                have e11 : (K == 11) = false := beq_eq_false_iff_ne.2 k11
                have e12 : (K == 12) = false := beq_eq_false_iff_ne.2 k12
                have e13 : (K == 13) = false := beq_eq_false_iff_ne.2 k13
                have e7 : (K == 7) = false := beq_eq_false_iff_ne.2 k7
                have e15 : (K == 15) = false := beq_eq_false_iff_ne.2 k15
                have HKS := Lib.hid (And.intro k11 (And.intro k12 (And.intro k13 (And.intro k7 k15))))
                obtain ⟨nmF, hnmF⟩ : ∃ x : ByteArray, x = ⟨#[]⟩ := ⟨_, rfl⟩
                obtain ⟨mtF, hmtF⟩ : ∃ x : ByteArray, x = ⟨#[]⟩ := ⟨_, rfl⟩
                have HREST := Lib.hid (show ∀ d, validB d = true → fmtL d = s.data.toList → K = d.k ∧ wt = (numsK d).map istr ∧ (∀ z ∈ numsK d, Small z) ∧ finK K nmF mtF (numsK d) = d from fun d h1 h2 => by
                  obtain ⟨g1, g2, g3, g4⟩ := HX2.out d h1 h2
                  rw [← g1] at g2 g3
                  unfold preK at g2
                  rw [if_neg (fun h => k11 h.1), if_neg (fun h => k12 h.1), if_neg (fun h => k13 h.1)] at g2
                  simp only [Prod.mk.injEq] at g2
                  exact ⟨g1, g2.2.2, g4, by rw [hnmF.trans g2.1, hmtF.trans g2.2.1]; exact g3⟩)
                have HNM := Lib.hid (show nmF.size ≤ 1000000 ∧ mtF.size ≤ 1000000 from by rw [hnmF, hmtF]; decide)
                have HNN := Lib.hid (And.intro hnmF hmtF)
                have HWZ2 := HWZ
                clear k11 k12 k13 k7 k15 hnmF hmtF
                have HC := Lib.hid (integers26 A4 wt.length (c - 1) wt wr (HST4.out.more (Nat.le_of_lt HM.out.lt)) (by omega) HWZ2.out)
                go_wp2_with fail
                refine HC.out.mono ?_
                rintro e w5 ⟨A7, c7, zs, ok, rfl, hc7, hz, hzI, hzl, hfr, hzx, b5⟩
                have hMr := HM.out.lt
                have HM5 := Lib.hid (HM.out.below b5 hMr)
                have HB5 := Lib.hid (HB.out.trans (b5.mono (Nat.le_of_lt hMr)))
                have hs5 := b5.size
                have HZ := Lib.hid hz
                have HFR := Lib.hid (show ∀ b o, A7 = some ⟨b, o, none⟩ → M < b from fun b o e => by have := hfr b o e; omega)
                have HZX := Lib.hid (show ∀ d, validB d = true → fmtL d = s.data.toList → ok = true ∧ zs = numsK d ∧ K = d.k ∧ finK K nmF mtF (numsK d) = d from fun d h1 h2 => by
                  obtain ⟨g1, g2, g3, g4⟩ := HREST.out d h1 h2
                  obtain ⟨g5, g6⟩ := hzx (numsK d) g3 g2
                  exact ⟨g5, g6, g1, g4⟩)
                clear hz hfr hzx b5 HC HREST
                cases ok with
                | false =>
                  have HNO := Lib.hid (show ∀ d, validB d = true → fmtL d = s.data.toList → False from fun d h1 h2 => absurd (HZX.out d h1 h2).1 (by decide))
                  have QR5 := Lib.hid (QR3.out.below HB5.out hR2)
                  have B5 := Lib.hid (B3.out.trans (HB5.out.mono hwM))
                  have r0 : w5.cell? ⟨R, 0, none⟩ = some (.int .i64 0) := QR5.out.cell 0
                  have r1 : w5.cell? ⟨R, 1, none⟩ = some (.int .i64 0) := QR5.out.cell 1
                  have r2 : w5.cell? ⟨R, 2, none⟩ = some (.int .i64 0) := QR5.out.cell 2
                  have r3 : w5.cell? ⟨R, 3, none⟩ = some (.string ⟨#[]⟩) := QR5.out.cell 3
                  have r4 : w5.cell? ⟨R, 4, none⟩ = some (.string ⟨#[]⟩) := QR5.out.cell 4
                  have r5 : w5.cell? ⟨R, 5, none⟩ = some (.slice none 0 0) := QR5.out.cell 5
                  have r6 : w5.cell? ⟨R, 6, none⟩ = some (.slice none 0 0) := QR5.out.cell 6
                  have f0 := QR5.out.frozen 0
                  have f1 := QR5.out.frozen 1
                  have f2 := QR5.out.frozen 2
                  have f3 := QR5.out.frozen 3
                  have f4 := QR5.out.frozen 4
                  have f5 := QR5.out.frozen 5
                  have f6 := QR5.out.frozen 6
                  go_wp2_with fail
                  (try simp only [Exit.inBlock, Exit.then])
                  refine bodyPost_ret (results_row_tmp rfl _ _ R 25 _ _ rfl (Blk.set7 QR5.out) Tryz.underlying25 rfl (by kernel_rfl)) rfl ?_
                  exact RefPost.no (below_set7 B5.out (by have := HL.out; omega) _ _ _ _ _ _ _) HNO.out
                | true =>
                  have c0 : w5.cell? ⟨M, 0, none⟩ = some (.int .i64 K) := HM5.out.cell 0
                  obtain ⟨rfl, rfl⟩ := HNN.out
                  cases zs with
                  | nil =>
                    go_upto_region 41 with fail
                    obtain ⟨vF, hvF⟩ : ∃ vF : Av, (⟨K, 0, 0, ⟨#[]⟩, ⟨#[]⟩, none, 0, 0, none, 0, 0⟩ : Av) = vF := ⟨_, rfl⟩
                    obtain ⟨aF, haF⟩ : ∃ aF : Ad, (⟨K, 0, 0, ⟨#[]⟩, ⟨#[]⟩, [], []⟩ : Ad) = aF := ⟨_, rfl⟩
                    have qf : Blk w5 M 25 vF.cells := by rw [← hvF]; exact HM5.out
                    have bf : Below M w3 w5 := HB5.out
                    have rf : Reads w5 w5.heap.size vF aF := by
                      rw [← hvF, ← haF]
                      exact ⟨rfl, rfl, rfl, rfl, rfl, Ints.none _ _, Ints.none _ _⟩
                    have hvn : vF.n ≤ 1000000 := by rw [← hvF]; exact Nat.zero_le _
                    have hvn2 : vF.n2 ≤ 1000000 := by rw [← hvF]; exact Nat.zero_le _
                    have hap : vF.apart M := by rw [← hvF]; exact ⟨fun b o h => (by cases h), fun b o h => (by cases h)⟩
                    have hnz : vF.nm.size ≤ 1000000 := by rw [← hvF]; exact HNM.out.1
                    have hmz : vF.mt.size ≤ 1000000 := by rw [← hvF]; exact HNM.out.2
                    have hdd : ∀ d, validB d = true → fmtL d = s.data.toList → aF = d := fun d h1 h2 => by
                      obtain ⟨_, g2, g3, g4⟩ := HZX.out d h1 h2
                      rw [← haF, ← g4, ← g2]
                      unfold finK
                      rw [if_neg HKS.out.2.1, if_neg HKS.out.1, if_neg HKS.out.2.2.2.1, if_neg HKS.out.2.2.2.2]
                      rfl
                    generalize w5 = wF at qf bf rf ⊢
                    clear hvF haF HM5 HB5
                    have QF := Lib.hid qf
                    have RF := Lib.hid rf
                    have BF := Lib.hid (B3.out.trans (bf.mono hwM))
                    have QRF := Lib.hid (QR3.out.below bf hR2)
                    have hMF := qf.lt
                    have HAP := Lib.hid hap
                    have HDD := Lib.hid hdd
                    have H9 := Lib.hid (valid9 vF aF wF rf hvn hvn2 hnz hmz)
                    clear qf bf rf hap hdd
                    have c0 : wF.cell? ⟨M, 0, none⟩ = some (.int .i64 vF.k) := QF.out.cell 0
                    have c1 : wF.cell? ⟨M, 1, none⟩ = some (.int .i64 vF.a) := QF.out.cell 1
                    have c2 : wF.cell? ⟨M, 2, none⟩ = some (.int .i64 vF.b) := QF.out.cell 2
                    have c3 : wF.cell? ⟨M, 3, none⟩ = some (.string vF.nm) := QF.out.cell 3
                    have c4 : wF.cell? ⟨M, 4, none⟩ = some (.string vF.mt) := QF.out.cell 4
                    have c5 : wF.cell? ⟨M, 5, none⟩ = some (.slice vF.A vF.n vF.c) := QF.out.cell 5
                    have c6 : wF.cell? ⟨M, 6, none⟩ = some (.slice vF.A2 vF.n2 vF.c2) := QF.out.cell 6
                    go_wp2_with fail
                    refine H9.out.mono ?_
                    rintro e w8 ⟨rfl, b8⟩
                    have QF8 := Lib.hid (QF.out.below b8 hMF)
                    have QR8 := Lib.hid (QRF.out.below b8 QRF.out.lt)
                    have B8 := Lib.hid (BF.out.trans (b8.mono BF.out.size))
                    have RF8 := Lib.hid ((RF.out.below b8).more b8.size)
                    have hM8 := QF8.out.lt
                    clear b8 H9 c0 c1 c2 c3 c4 c5 c6 QF QRF BF RF
                    cases hv : validB aF with
                    | false =>
                      have HNO := Lib.hid (show ∀ d, validB d = true → fmtL d = s.data.toList → False from fun d h1 h2 => by
                        have := HDD.out d h1 h2
                        rw [this, h1] at hv
                        cases hv)
                      clear hv
                      have r0 : w8.cell? ⟨R, 0, none⟩ = some (.int .i64 0) := QR8.out.cell 0
                      have r1 : w8.cell? ⟨R, 1, none⟩ = some (.int .i64 0) := QR8.out.cell 1
                      have r2 : w8.cell? ⟨R, 2, none⟩ = some (.int .i64 0) := QR8.out.cell 2
                      have r3 : w8.cell? ⟨R, 3, none⟩ = some (.string ⟨#[]⟩) := QR8.out.cell 3
                      have r4 : w8.cell? ⟨R, 4, none⟩ = some (.string ⟨#[]⟩) := QR8.out.cell 4
                      have r5 : w8.cell? ⟨R, 5, none⟩ = some (.slice none 0 0) := QR8.out.cell 5
                      have r6 : w8.cell? ⟨R, 6, none⟩ = some (.slice none 0 0) := QR8.out.cell 6
                      have f0 := QR8.out.frozen 0
                      have f1 := QR8.out.frozen 1
                      have f2 := QR8.out.frozen 2
                      have f3 := QR8.out.frozen 3
                      have f4 := QR8.out.frozen 4
                      have f5 := QR8.out.frozen 5
                      have f6 := QR8.out.frozen 6
                      go_wp2_with fail
                      (try simp only [Exit.inBlock, Exit.then])
                      refine bodyPost_ret (results_row_tmp rfl _ _ R 25 _ _ rfl (Blk.set7 QR8.out) Tryz.underlying25 rfl (by kernel_rfl)) rfl ?_
                      exact RefPost.no (below_set7 B8.out (by have := HL.out; omega) _ _ _ _ _ _ _) HNO.out
                    | true =>
                      obtain ⟨hwf, hz1, hz2, hz3, hz4⟩ := valid_wf hv
                      have H7 := Lib.hid (fmt7 vF aF w8 RF8.out (by rw [← RF8.out.args.len]; omega) (by rw [← RF8.out.surv.len]; omega) (by rw [RF8.out.nm]; omega) (by rw [RF8.out.mt]; omega) hwf)
                      obtain ⟨S, hS⟩ : ∃ S : ByteArray, ⟨(fmtL aF).toArray⟩ = S := ⟨_, rfl⟩
                      rw [hS] at H7
                      have HS := Lib.hid hS
                      have HV := Lib.hid hv
                      clear hwf hz1 hz2 hz3 hz4 hS hv
                      have c0 : w8.cell? ⟨M, 0, none⟩ = some (.int .i64 vF.k) := QF8.out.cell 0
                      have c1 : w8.cell? ⟨M, 1, none⟩ = some (.int .i64 vF.a) := QF8.out.cell 1
                      have c2 : w8.cell? ⟨M, 2, none⟩ = some (.int .i64 vF.b) := QF8.out.cell 2
                      have c3 : w8.cell? ⟨M, 3, none⟩ = some (.string vF.nm) := QF8.out.cell 3
                      have c4 : w8.cell? ⟨M, 4, none⟩ = some (.string vF.mt) := QF8.out.cell 4
                      have c5 : w8.cell? ⟨M, 5, none⟩ = some (.slice vF.A vF.n vF.c) := QF8.out.cell 5
                      have c6 : w8.cell? ⟨M, 6, none⟩ = some (.slice vF.A2 vF.n2 vF.c2) := QF8.out.cell 6
                      go_wp2_with fail
                      refine H7.out.mono ?_
                      rintro e w9 ⟨rfl, b9⟩
                      have QF9 := Lib.hid (QF8.out.below b9 hM8)
                      have QR9 := Lib.hid (QR8.out.below b9 QR8.out.lt)
                      have B9 := Lib.hid (B8.out.trans (b9.mono B8.out.size))
                      have RF9 := Lib.hid ((RF8.out.below b9).more b9.size)
                      clear b9 H7 c0 c1 c2 c3 c4 c5 c6 QF8 QR8 B8 RF8
                      by_cases hSs : S = s
                      · have hss : (S.toList == s.toList) = true := by rw [hSs]; exact beq_self_eq_true _
                        have HOK := Lib.hid (show fmtL aF = s.data.toList from by rw [← hSs, ← HS.out])
                        clear hSs
                        have r0 : w9.cell? ⟨R, 0, none⟩ = some (.int .i64 0) := QR9.out.cell 0
                        have r1 : w9.cell? ⟨R, 1, none⟩ = some (.int .i64 0) := QR9.out.cell 1
                        have r2 : w9.cell? ⟨R, 2, none⟩ = some (.int .i64 0) := QR9.out.cell 2
                        have r3 : w9.cell? ⟨R, 3, none⟩ = some (.string ⟨#[]⟩) := QR9.out.cell 3
                        have r4 : w9.cell? ⟨R, 4, none⟩ = some (.string ⟨#[]⟩) := QR9.out.cell 4
                        have r5 : w9.cell? ⟨R, 5, none⟩ = some (.slice none 0 0) := QR9.out.cell 5
                        have r6 : w9.cell? ⟨R, 6, none⟩ = some (.slice none 0 0) := QR9.out.cell 6
                        have f0 := QR9.out.frozen 0
                        have f1 := QR9.out.frozen 1
                        have f2 := QR9.out.frozen 2
                        have f3 := QR9.out.frozen 3
                        have f4 := QR9.out.frozen 4
                        have f5 := QR9.out.frozen 5
                        have f6 := QR9.out.frozen 6
                        have c0 : w9.cell? ⟨M, 0, none⟩ = some (.int .i64 vF.k) := QF9.out.cell 0
                        have c1 : w9.cell? ⟨M, 1, none⟩ = some (.int .i64 vF.a) := QF9.out.cell 1
                        have c2 : w9.cell? ⟨M, 2, none⟩ = some (.int .i64 vF.b) := QF9.out.cell 2
                        have c3 : w9.cell? ⟨M, 3, none⟩ = some (.string vF.nm) := QF9.out.cell 3
                        have c4 : w9.cell? ⟨M, 4, none⟩ = some (.string vF.mt) := QF9.out.cell 4
                        have c5 : w9.cell? ⟨M, 5, none⟩ = some (.slice vF.A vF.n vF.c) := QF9.out.cell 5
                        have c6 : w9.cell? ⟨M, 6, none⟩ = some (.slice vF.A2 vF.n2 vF.c2) := QF9.out.cell 6
                        go_wp2_with fail
                        (try simp only [Exit.inBlock, Exit.then])
                        refine bodyPost_ret (results_row_tmp rfl _ _ R 25 _ _ rfl (Blk.set7 QR9.out) Tryz.underlying25 rfl (by kernel_rfl)) rfl ?_
                        exact RefPost.yes RF9.out HAP.out (by omega) hvn hvn2 (below_set7 B9.out (by have := HL.out; omega) _ _ _ _ _ _ _) HV.out HOK.out
                      · have hss : (S.toList == s.toList) = false := beq_eq_false_iff_ne.2 fun e => hSs (ba_ext e)
                        have HNO := Lib.hid (show ∀ d, validB d = true → fmtL d = s.data.toList → False from fun d h1 h2 => by
                          have h3 := HDD.out d h1 h2
                          refine hSs ?_
                          rw [← HS.out, h3]
                          exact Go.WideShapes.bytes_inj (by simpa using h2))
                        clear hSs
                        have r0 : w9.cell? ⟨R, 0, none⟩ = some (.int .i64 0) := QR9.out.cell 0
                        have r1 : w9.cell? ⟨R, 1, none⟩ = some (.int .i64 0) := QR9.out.cell 1
                        have r2 : w9.cell? ⟨R, 2, none⟩ = some (.int .i64 0) := QR9.out.cell 2
                        have r3 : w9.cell? ⟨R, 3, none⟩ = some (.string ⟨#[]⟩) := QR9.out.cell 3
                        have r4 : w9.cell? ⟨R, 4, none⟩ = some (.string ⟨#[]⟩) := QR9.out.cell 4
                        have r5 : w9.cell? ⟨R, 5, none⟩ = some (.slice none 0 0) := QR9.out.cell 5
                        have r6 : w9.cell? ⟨R, 6, none⟩ = some (.slice none 0 0) := QR9.out.cell 6
                        have f0 := QR9.out.frozen 0
                        have f1 := QR9.out.frozen 1
                        have f2 := QR9.out.frozen 2
                        have f3 := QR9.out.frozen 3
                        have f4 := QR9.out.frozen 4
                        have f5 := QR9.out.frozen 5
                        have f6 := QR9.out.frozen 6
                        go_wp2_with fail
                        (try simp only [Exit.inBlock, Exit.then])
                        refine bodyPost_ret (results_row_tmp rfl _ _ R 25 _ _ rfl (Blk.set7 QR9.out) Tryz.underlying25 rfl (by kernel_rfl)) rfl ?_
                        exact RefPost.no (below_set7 B9.out (by have := HL.out; omega) _ _ _ _ _ _ _) HNO.out
                  | cons z1 zr =>
                    have HZ1 := HZ.out.at_ (k := 0) (by simp)
                    obtain ⟨b7, o7, z1', rfl, hb7, hz1', hc71⟩ := HZ1
                    simp only [List.getElem?_cons_zero, Option.some.injEq] at hz1'
                    subst hz1'
                    have hc71' : w5.cell? ⟨b7, o7, none⟩ = some (.int .i64 z1) := by simpa using hc71
                    have m1 : w5.cell? ⟨M, 1, none⟩ = some (.int .i64 0) := HM5.out.cell 1
                    have m2 : w5.cell? ⟨M, 2, none⟩ = some (.int .i64 0) := HM5.out.cell 2
                    have f1 := HM5.out.frozen 1
                    have f2 := HM5.out.frozen 2
                    have hb7M : M ≠ b7 := by have := HFR.out b7 o7 rfl; omega
                    cases zr with
                    | nil =>
                      go_upto_region 41 with fail
                      obtain ⟨vF, hvF⟩ : ∃ vF : Av, (⟨K, z1, 0, ⟨#[]⟩, ⟨#[]⟩, none, 0, 0, none, 0, 0⟩ : Av) = vF := ⟨_, rfl⟩
                      obtain ⟨aF, haF⟩ : ∃ aF : Ad, (⟨K, z1, 0, ⟨#[]⟩, ⟨#[]⟩, [], []⟩ : Ad) = aF := ⟨_, rfl⟩
                      have qf : Blk (w5.setCell ⟨M, 1, none⟩ (.int .i64 z1)) M 25 vF.cells := by rw [← hvF]; exact (HM5.out.set 1 (.int .i64 z1))
                      have bf : Below M w3 (w5.setCell ⟨M, 1, none⟩ (.int .i64 z1)) := (HB5.out.setCell (p := ⟨M, 1, none⟩) (Nat.le_refl M) (.int .i64 z1))
                      have rf : Reads (w5.setCell ⟨M, 1, none⟩ (.int .i64 z1)) (w5.setCell ⟨M, 1, none⟩ (.int .i64 z1)).heap.size vF aF := by
                        rw [← hvF, ← haF]
                        exact ⟨rfl, rfl, rfl, rfl, rfl, Ints.none _ _, Ints.none _ _⟩
                      have hvn : vF.n ≤ 1000000 := by rw [← hvF]; exact Nat.zero_le _
                      have hvn2 : vF.n2 ≤ 1000000 := by rw [← hvF]; exact Nat.zero_le _
                      have hap : vF.apart M := by rw [← hvF]; exact ⟨fun b o h => (by cases h), fun b o h => (by cases h)⟩
                      have hnz : vF.nm.size ≤ 1000000 := by rw [← hvF]; exact HNM.out.1
                      have hmz : vF.mt.size ≤ 1000000 := by rw [← hvF]; exact HNM.out.2
                      have hdd : ∀ d, validB d = true → fmtL d = s.data.toList → aF = d := fun d h1 h2 => by
                        obtain ⟨_, g2, g3, g4⟩ := HZX.out d h1 h2
                        rw [← haF, ← g4, ← g2]
                        unfold finK
                        rw [if_neg HKS.out.2.1, if_neg HKS.out.1, if_neg HKS.out.2.2.2.1, if_neg HKS.out.2.2.2.2]
                        rfl
                      generalize (w5.setCell ⟨M, 1, none⟩ (.int .i64 z1)) = wF at qf bf rf ⊢
                      clear hvF haF HM5 HB5
                      have QF := Lib.hid qf
                      have RF := Lib.hid rf
                      have BF := Lib.hid (B3.out.trans (bf.mono hwM))
                      have QRF := Lib.hid (QR3.out.below bf hR2)
                      have hMF := qf.lt
                      have HAP := Lib.hid hap
                      have HDD := Lib.hid hdd
                      have H9 := Lib.hid (valid9 vF aF wF rf hvn hvn2 hnz hmz)
                      clear qf bf rf hap hdd
                      have c0 : wF.cell? ⟨M, 0, none⟩ = some (.int .i64 vF.k) := QF.out.cell 0
                      have c1 : wF.cell? ⟨M, 1, none⟩ = some (.int .i64 vF.a) := QF.out.cell 1
                      have c2 : wF.cell? ⟨M, 2, none⟩ = some (.int .i64 vF.b) := QF.out.cell 2
                      have c3 : wF.cell? ⟨M, 3, none⟩ = some (.string vF.nm) := QF.out.cell 3
                      have c4 : wF.cell? ⟨M, 4, none⟩ = some (.string vF.mt) := QF.out.cell 4
                      have c5 : wF.cell? ⟨M, 5, none⟩ = some (.slice vF.A vF.n vF.c) := QF.out.cell 5
                      have c6 : wF.cell? ⟨M, 6, none⟩ = some (.slice vF.A2 vF.n2 vF.c2) := QF.out.cell 6
                      go_wp2_with fail
                      refine H9.out.mono ?_
                      rintro e w8 ⟨rfl, b8⟩
                      have QF8 := Lib.hid (QF.out.below b8 hMF)
                      have QR8 := Lib.hid (QRF.out.below b8 QRF.out.lt)
                      have B8 := Lib.hid (BF.out.trans (b8.mono BF.out.size))
                      have RF8 := Lib.hid ((RF.out.below b8).more b8.size)
                      have hM8 := QF8.out.lt
                      clear b8 H9 c0 c1 c2 c3 c4 c5 c6 QF QRF BF RF
                      cases hv : validB aF with
                      | false =>
                        have HNO := Lib.hid (show ∀ d, validB d = true → fmtL d = s.data.toList → False from fun d h1 h2 => by
                          have := HDD.out d h1 h2
                          rw [this, h1] at hv
                          cases hv)
                        clear hv
                        have r0 : w8.cell? ⟨R, 0, none⟩ = some (.int .i64 0) := QR8.out.cell 0
                        have r1 : w8.cell? ⟨R, 1, none⟩ = some (.int .i64 0) := QR8.out.cell 1
                        have r2 : w8.cell? ⟨R, 2, none⟩ = some (.int .i64 0) := QR8.out.cell 2
                        have r3 : w8.cell? ⟨R, 3, none⟩ = some (.string ⟨#[]⟩) := QR8.out.cell 3
                        have r4 : w8.cell? ⟨R, 4, none⟩ = some (.string ⟨#[]⟩) := QR8.out.cell 4
                        have r5 : w8.cell? ⟨R, 5, none⟩ = some (.slice none 0 0) := QR8.out.cell 5
                        have r6 : w8.cell? ⟨R, 6, none⟩ = some (.slice none 0 0) := QR8.out.cell 6
                        have f0 := QR8.out.frozen 0
                        have f1 := QR8.out.frozen 1
                        have f2 := QR8.out.frozen 2
                        have f3 := QR8.out.frozen 3
                        have f4 := QR8.out.frozen 4
                        have f5 := QR8.out.frozen 5
                        have f6 := QR8.out.frozen 6
                        go_wp2_with fail
                        (try simp only [Exit.inBlock, Exit.then])
                        refine bodyPost_ret (results_row_tmp rfl _ _ R 25 _ _ rfl (Blk.set7 QR8.out) Tryz.underlying25 rfl (by kernel_rfl)) rfl ?_
                        exact RefPost.no (below_set7 B8.out (by have := HL.out; omega) _ _ _ _ _ _ _) HNO.out
                      | true =>
                        obtain ⟨hwf, hz1, hz2, hz3, hz4⟩ := valid_wf hv
                        have H7 := Lib.hid (fmt7 vF aF w8 RF8.out (by rw [← RF8.out.args.len]; omega) (by rw [← RF8.out.surv.len]; omega) (by rw [RF8.out.nm]; omega) (by rw [RF8.out.mt]; omega) hwf)
                        obtain ⟨S, hS⟩ : ∃ S : ByteArray, ⟨(fmtL aF).toArray⟩ = S := ⟨_, rfl⟩
                        rw [hS] at H7
                        have HS := Lib.hid hS
                        have HV := Lib.hid hv
                        clear hwf hz1 hz2 hz3 hz4 hS hv
                        have c0 : w8.cell? ⟨M, 0, none⟩ = some (.int .i64 vF.k) := QF8.out.cell 0
                        have c1 : w8.cell? ⟨M, 1, none⟩ = some (.int .i64 vF.a) := QF8.out.cell 1
                        have c2 : w8.cell? ⟨M, 2, none⟩ = some (.int .i64 vF.b) := QF8.out.cell 2
                        have c3 : w8.cell? ⟨M, 3, none⟩ = some (.string vF.nm) := QF8.out.cell 3
                        have c4 : w8.cell? ⟨M, 4, none⟩ = some (.string vF.mt) := QF8.out.cell 4
                        have c5 : w8.cell? ⟨M, 5, none⟩ = some (.slice vF.A vF.n vF.c) := QF8.out.cell 5
                        have c6 : w8.cell? ⟨M, 6, none⟩ = some (.slice vF.A2 vF.n2 vF.c2) := QF8.out.cell 6
                        go_wp2_with fail
                        refine H7.out.mono ?_
                        rintro e w9 ⟨rfl, b9⟩
                        have QF9 := Lib.hid (QF8.out.below b9 hM8)
                        have QR9 := Lib.hid (QR8.out.below b9 QR8.out.lt)
                        have B9 := Lib.hid (B8.out.trans (b9.mono B8.out.size))
                        have RF9 := Lib.hid ((RF8.out.below b9).more b9.size)
                        clear b9 H7 c0 c1 c2 c3 c4 c5 c6 QF8 QR8 B8 RF8
                        by_cases hSs : S = s
                        · have hss : (S.toList == s.toList) = true := by rw [hSs]; exact beq_self_eq_true _
                          have HOK := Lib.hid (show fmtL aF = s.data.toList from by rw [← hSs, ← HS.out])
                          clear hSs
                          have r0 : w9.cell? ⟨R, 0, none⟩ = some (.int .i64 0) := QR9.out.cell 0
                          have r1 : w9.cell? ⟨R, 1, none⟩ = some (.int .i64 0) := QR9.out.cell 1
                          have r2 : w9.cell? ⟨R, 2, none⟩ = some (.int .i64 0) := QR9.out.cell 2
                          have r3 : w9.cell? ⟨R, 3, none⟩ = some (.string ⟨#[]⟩) := QR9.out.cell 3
                          have r4 : w9.cell? ⟨R, 4, none⟩ = some (.string ⟨#[]⟩) := QR9.out.cell 4
                          have r5 : w9.cell? ⟨R, 5, none⟩ = some (.slice none 0 0) := QR9.out.cell 5
                          have r6 : w9.cell? ⟨R, 6, none⟩ = some (.slice none 0 0) := QR9.out.cell 6
                          have f0 := QR9.out.frozen 0
                          have f1 := QR9.out.frozen 1
                          have f2 := QR9.out.frozen 2
                          have f3 := QR9.out.frozen 3
                          have f4 := QR9.out.frozen 4
                          have f5 := QR9.out.frozen 5
                          have f6 := QR9.out.frozen 6
                          have c0 : w9.cell? ⟨M, 0, none⟩ = some (.int .i64 vF.k) := QF9.out.cell 0
                          have c1 : w9.cell? ⟨M, 1, none⟩ = some (.int .i64 vF.a) := QF9.out.cell 1
                          have c2 : w9.cell? ⟨M, 2, none⟩ = some (.int .i64 vF.b) := QF9.out.cell 2
                          have c3 : w9.cell? ⟨M, 3, none⟩ = some (.string vF.nm) := QF9.out.cell 3
                          have c4 : w9.cell? ⟨M, 4, none⟩ = some (.string vF.mt) := QF9.out.cell 4
                          have c5 : w9.cell? ⟨M, 5, none⟩ = some (.slice vF.A vF.n vF.c) := QF9.out.cell 5
                          have c6 : w9.cell? ⟨M, 6, none⟩ = some (.slice vF.A2 vF.n2 vF.c2) := QF9.out.cell 6
                          go_wp2_with fail
                          (try simp only [Exit.inBlock, Exit.then])
                          refine bodyPost_ret (results_row_tmp rfl _ _ R 25 _ _ rfl (Blk.set7 QR9.out) Tryz.underlying25 rfl (by kernel_rfl)) rfl ?_
                          exact RefPost.yes RF9.out HAP.out (by omega) hvn hvn2 (below_set7 B9.out (by have := HL.out; omega) _ _ _ _ _ _ _) HV.out HOK.out
                        · have hss : (S.toList == s.toList) = false := beq_eq_false_iff_ne.2 fun e => hSs (ba_ext e)
                          have HNO := Lib.hid (show ∀ d, validB d = true → fmtL d = s.data.toList → False from fun d h1 h2 => by
                            have h3 := HDD.out d h1 h2
                            refine hSs ?_
                            rw [← HS.out, h3]
                            exact Go.WideShapes.bytes_inj (by simpa using h2))
                          clear hSs
                          have r0 : w9.cell? ⟨R, 0, none⟩ = some (.int .i64 0) := QR9.out.cell 0
                          have r1 : w9.cell? ⟨R, 1, none⟩ = some (.int .i64 0) := QR9.out.cell 1
                          have r2 : w9.cell? ⟨R, 2, none⟩ = some (.int .i64 0) := QR9.out.cell 2
                          have r3 : w9.cell? ⟨R, 3, none⟩ = some (.string ⟨#[]⟩) := QR9.out.cell 3
                          have r4 : w9.cell? ⟨R, 4, none⟩ = some (.string ⟨#[]⟩) := QR9.out.cell 4
                          have r5 : w9.cell? ⟨R, 5, none⟩ = some (.slice none 0 0) := QR9.out.cell 5
                          have r6 : w9.cell? ⟨R, 6, none⟩ = some (.slice none 0 0) := QR9.out.cell 6
                          have f0 := QR9.out.frozen 0
                          have f1 := QR9.out.frozen 1
                          have f2 := QR9.out.frozen 2
                          have f3 := QR9.out.frozen 3
                          have f4 := QR9.out.frozen 4
                          have f5 := QR9.out.frozen 5
                          have f6 := QR9.out.frozen 6
                          go_wp2_with fail
                          (try simp only [Exit.inBlock, Exit.then])
                          refine bodyPost_ret (results_row_tmp rfl _ _ R 25 _ _ rfl (Blk.set7 QR9.out) Tryz.underlying25 rfl (by kernel_rfl)) rfl ?_
                          exact RefPost.no (below_set7 B9.out (by have := HL.out; omega) _ _ _ _ _ _ _) HNO.out
                    | cons z2 zr =>
                      have HZ2 := HZ.out.at_ (k := 1) (by simp)
                      obtain ⟨b7', o7', z2', hA7, hb7', hz2', hc72⟩ := HZ2
                      simp only [Option.some.injEq, Addr.mk.injEq, and_true] at hA7
                      obtain ⟨rfl, rfl⟩ := hA7
                      simp only [List.getElem?_cons_succ, List.getElem?_cons_zero, Option.some.injEq] at hz2'
                      subst hz2'
                      go_upto_region 41 with fail
                      obtain ⟨vF, hvF⟩ : ∃ vF : Av, (⟨K, z1, z2, ⟨#[]⟩, ⟨#[]⟩, none, 0, 0, none, 0, 0⟩ : Av) = vF := ⟨_, rfl⟩
                      obtain ⟨aF, haF⟩ : ∃ aF : Ad, (⟨K, z1, z2, ⟨#[]⟩, ⟨#[]⟩, [], []⟩ : Ad) = aF := ⟨_, rfl⟩
                      have qf : Blk ((w5.setCell ⟨M, 1, none⟩ (.int .i64 z1)).setCell ⟨M, 2, none⟩ (.int .i64 z2)) M 25 vF.cells := by rw [← hvF]; exact ((HM5.out.set 1 (.int .i64 z1)).set 2 (.int .i64 z2))
                      have bf : Below M w3 ((w5.setCell ⟨M, 1, none⟩ (.int .i64 z1)).setCell ⟨M, 2, none⟩ (.int .i64 z2)) := ((HB5.out.setCell (p := ⟨M, 1, none⟩) (Nat.le_refl M) (.int .i64 z1)).setCell (p := ⟨M, 2, none⟩) (Nat.le_refl M) (.int .i64 z2))
                      have rf : Reads ((w5.setCell ⟨M, 1, none⟩ (.int .i64 z1)).setCell ⟨M, 2, none⟩ (.int .i64 z2)) ((w5.setCell ⟨M, 1, none⟩ (.int .i64 z1)).setCell ⟨M, 2, none⟩ (.int .i64 z2)).heap.size vF aF := by
                        rw [← hvF, ← haF]
                        exact ⟨rfl, rfl, rfl, rfl, rfl, Ints.none _ _, Ints.none _ _⟩
                      have hvn : vF.n ≤ 1000000 := by rw [← hvF]; exact Nat.zero_le _
                      have hvn2 : vF.n2 ≤ 1000000 := by rw [← hvF]; exact Nat.zero_le _
                      have hap : vF.apart M := by rw [← hvF]; exact ⟨fun b o h => (by cases h), fun b o h => (by cases h)⟩
                      have hnz : vF.nm.size ≤ 1000000 := by rw [← hvF]; exact HNM.out.1
                      have hmz : vF.mt.size ≤ 1000000 := by rw [← hvF]; exact HNM.out.2
                      have hdd : ∀ d, validB d = true → fmtL d = s.data.toList → aF = d := fun d h1 h2 => by
                        obtain ⟨_, g2, g3, g4⟩ := HZX.out d h1 h2
                        rw [← haF, ← g4, ← g2]
                        unfold finK
                        rw [if_neg HKS.out.2.1, if_neg HKS.out.1, if_neg HKS.out.2.2.2.1, if_neg HKS.out.2.2.2.2]
                        rfl
                      generalize ((w5.setCell ⟨M, 1, none⟩ (.int .i64 z1)).setCell ⟨M, 2, none⟩ (.int .i64 z2)) = wF at qf bf rf ⊢
                      clear hvF haF HM5 HB5
                      have QF := Lib.hid qf
                      have RF := Lib.hid rf
                      have BF := Lib.hid (B3.out.trans (bf.mono hwM))
                      have QRF := Lib.hid (QR3.out.below bf hR2)
                      have hMF := qf.lt
                      have HAP := Lib.hid hap
                      have HDD := Lib.hid hdd
                      have H9 := Lib.hid (valid9 vF aF wF rf hvn hvn2 hnz hmz)
                      clear qf bf rf hap hdd
                      have c0 : wF.cell? ⟨M, 0, none⟩ = some (.int .i64 vF.k) := QF.out.cell 0
                      have c1 : wF.cell? ⟨M, 1, none⟩ = some (.int .i64 vF.a) := QF.out.cell 1
                      have c2 : wF.cell? ⟨M, 2, none⟩ = some (.int .i64 vF.b) := QF.out.cell 2
                      have c3 : wF.cell? ⟨M, 3, none⟩ = some (.string vF.nm) := QF.out.cell 3
                      have c4 : wF.cell? ⟨M, 4, none⟩ = some (.string vF.mt) := QF.out.cell 4
                      have c5 : wF.cell? ⟨M, 5, none⟩ = some (.slice vF.A vF.n vF.c) := QF.out.cell 5
                      have c6 : wF.cell? ⟨M, 6, none⟩ = some (.slice vF.A2 vF.n2 vF.c2) := QF.out.cell 6
                      go_wp2_with fail
                      refine H9.out.mono ?_
                      rintro e w8 ⟨rfl, b8⟩
                      have QF8 := Lib.hid (QF.out.below b8 hMF)
                      have QR8 := Lib.hid (QRF.out.below b8 QRF.out.lt)
                      have B8 := Lib.hid (BF.out.trans (b8.mono BF.out.size))
                      have RF8 := Lib.hid ((RF.out.below b8).more b8.size)
                      have hM8 := QF8.out.lt
                      clear b8 H9 c0 c1 c2 c3 c4 c5 c6 QF QRF BF RF
                      cases hv : validB aF with
                      | false =>
                        have HNO := Lib.hid (show ∀ d, validB d = true → fmtL d = s.data.toList → False from fun d h1 h2 => by
                          have := HDD.out d h1 h2
                          rw [this, h1] at hv
                          cases hv)
                        clear hv
                        have r0 : w8.cell? ⟨R, 0, none⟩ = some (.int .i64 0) := QR8.out.cell 0
                        have r1 : w8.cell? ⟨R, 1, none⟩ = some (.int .i64 0) := QR8.out.cell 1
                        have r2 : w8.cell? ⟨R, 2, none⟩ = some (.int .i64 0) := QR8.out.cell 2
                        have r3 : w8.cell? ⟨R, 3, none⟩ = some (.string ⟨#[]⟩) := QR8.out.cell 3
                        have r4 : w8.cell? ⟨R, 4, none⟩ = some (.string ⟨#[]⟩) := QR8.out.cell 4
                        have r5 : w8.cell? ⟨R, 5, none⟩ = some (.slice none 0 0) := QR8.out.cell 5
                        have r6 : w8.cell? ⟨R, 6, none⟩ = some (.slice none 0 0) := QR8.out.cell 6
                        have f0 := QR8.out.frozen 0
                        have f1 := QR8.out.frozen 1
                        have f2 := QR8.out.frozen 2
                        have f3 := QR8.out.frozen 3
                        have f4 := QR8.out.frozen 4
                        have f5 := QR8.out.frozen 5
                        have f6 := QR8.out.frozen 6
                        go_wp2_with fail
                        (try simp only [Exit.inBlock, Exit.then])
                        refine bodyPost_ret (results_row_tmp rfl _ _ R 25 _ _ rfl (Blk.set7 QR8.out) Tryz.underlying25 rfl (by kernel_rfl)) rfl ?_
                        exact RefPost.no (below_set7 B8.out (by have := HL.out; omega) _ _ _ _ _ _ _) HNO.out
                      | true =>
                        obtain ⟨hwf, hz1, hz2, hz3, hz4⟩ := valid_wf hv
                        have H7 := Lib.hid (fmt7 vF aF w8 RF8.out (by rw [← RF8.out.args.len]; omega) (by rw [← RF8.out.surv.len]; omega) (by rw [RF8.out.nm]; omega) (by rw [RF8.out.mt]; omega) hwf)
                        obtain ⟨S, hS⟩ : ∃ S : ByteArray, ⟨(fmtL aF).toArray⟩ = S := ⟨_, rfl⟩
                        rw [hS] at H7
                        have HS := Lib.hid hS
                        have HV := Lib.hid hv
                        clear hwf hz1 hz2 hz3 hz4 hS hv
                        have c0 : w8.cell? ⟨M, 0, none⟩ = some (.int .i64 vF.k) := QF8.out.cell 0
                        have c1 : w8.cell? ⟨M, 1, none⟩ = some (.int .i64 vF.a) := QF8.out.cell 1
                        have c2 : w8.cell? ⟨M, 2, none⟩ = some (.int .i64 vF.b) := QF8.out.cell 2
                        have c3 : w8.cell? ⟨M, 3, none⟩ = some (.string vF.nm) := QF8.out.cell 3
                        have c4 : w8.cell? ⟨M, 4, none⟩ = some (.string vF.mt) := QF8.out.cell 4
                        have c5 : w8.cell? ⟨M, 5, none⟩ = some (.slice vF.A vF.n vF.c) := QF8.out.cell 5
                        have c6 : w8.cell? ⟨M, 6, none⟩ = some (.slice vF.A2 vF.n2 vF.c2) := QF8.out.cell 6
                        go_wp2_with fail
                        refine H7.out.mono ?_
                        rintro e w9 ⟨rfl, b9⟩
                        have QF9 := Lib.hid (QF8.out.below b9 hM8)
                        have QR9 := Lib.hid (QR8.out.below b9 QR8.out.lt)
                        have B9 := Lib.hid (B8.out.trans (b9.mono B8.out.size))
                        have RF9 := Lib.hid ((RF8.out.below b9).more b9.size)
                        clear b9 H7 c0 c1 c2 c3 c4 c5 c6 QF8 QR8 B8 RF8
                        by_cases hSs : S = s
                        · have hss : (S.toList == s.toList) = true := by rw [hSs]; exact beq_self_eq_true _
                          have HOK := Lib.hid (show fmtL aF = s.data.toList from by rw [← hSs, ← HS.out])
                          clear hSs
                          have r0 : w9.cell? ⟨R, 0, none⟩ = some (.int .i64 0) := QR9.out.cell 0
                          have r1 : w9.cell? ⟨R, 1, none⟩ = some (.int .i64 0) := QR9.out.cell 1
                          have r2 : w9.cell? ⟨R, 2, none⟩ = some (.int .i64 0) := QR9.out.cell 2
                          have r3 : w9.cell? ⟨R, 3, none⟩ = some (.string ⟨#[]⟩) := QR9.out.cell 3
                          have r4 : w9.cell? ⟨R, 4, none⟩ = some (.string ⟨#[]⟩) := QR9.out.cell 4
                          have r5 : w9.cell? ⟨R, 5, none⟩ = some (.slice none 0 0) := QR9.out.cell 5
                          have r6 : w9.cell? ⟨R, 6, none⟩ = some (.slice none 0 0) := QR9.out.cell 6
                          have f0 := QR9.out.frozen 0
                          have f1 := QR9.out.frozen 1
                          have f2 := QR9.out.frozen 2
                          have f3 := QR9.out.frozen 3
                          have f4 := QR9.out.frozen 4
                          have f5 := QR9.out.frozen 5
                          have f6 := QR9.out.frozen 6
                          have c0 : w9.cell? ⟨M, 0, none⟩ = some (.int .i64 vF.k) := QF9.out.cell 0
                          have c1 : w9.cell? ⟨M, 1, none⟩ = some (.int .i64 vF.a) := QF9.out.cell 1
                          have c2 : w9.cell? ⟨M, 2, none⟩ = some (.int .i64 vF.b) := QF9.out.cell 2
                          have c3 : w9.cell? ⟨M, 3, none⟩ = some (.string vF.nm) := QF9.out.cell 3
                          have c4 : w9.cell? ⟨M, 4, none⟩ = some (.string vF.mt) := QF9.out.cell 4
                          have c5 : w9.cell? ⟨M, 5, none⟩ = some (.slice vF.A vF.n vF.c) := QF9.out.cell 5
                          have c6 : w9.cell? ⟨M, 6, none⟩ = some (.slice vF.A2 vF.n2 vF.c2) := QF9.out.cell 6
                          go_wp2_with fail
                          (try simp only [Exit.inBlock, Exit.then])
                          refine bodyPost_ret (results_row_tmp rfl _ _ R 25 _ _ rfl (Blk.set7 QR9.out) Tryz.underlying25 rfl (by kernel_rfl)) rfl ?_
                          exact RefPost.yes RF9.out HAP.out (by omega) hvn hvn2 (below_set7 B9.out (by have := HL.out; omega) _ _ _ _ _ _ _) HV.out HOK.out
                        · have hss : (S.toList == s.toList) = false := beq_eq_false_iff_ne.2 fun e => hSs (ba_ext e)
                          have HNO := Lib.hid (show ∀ d, validB d = true → fmtL d = s.data.toList → False from fun d h1 h2 => by
                            have h3 := HDD.out d h1 h2
                            refine hSs ?_
                            rw [← HS.out, h3]
                            exact Go.WideShapes.bytes_inj (by simpa using h2))
                          clear hSs
                          have r0 : w9.cell? ⟨R, 0, none⟩ = some (.int .i64 0) := QR9.out.cell 0
                          have r1 : w9.cell? ⟨R, 1, none⟩ = some (.int .i64 0) := QR9.out.cell 1
                          have r2 : w9.cell? ⟨R, 2, none⟩ = some (.int .i64 0) := QR9.out.cell 2
                          have r3 : w9.cell? ⟨R, 3, none⟩ = some (.string ⟨#[]⟩) := QR9.out.cell 3
                          have r4 : w9.cell? ⟨R, 4, none⟩ = some (.string ⟨#[]⟩) := QR9.out.cell 4
                          have r5 : w9.cell? ⟨R, 5, none⟩ = some (.slice none 0 0) := QR9.out.cell 5
                          have r6 : w9.cell? ⟨R, 6, none⟩ = some (.slice none 0 0) := QR9.out.cell 6
                          have f0 := QR9.out.frozen 0
                          have f1 := QR9.out.frozen 1
                          have f2 := QR9.out.frozen 2
                          have f3 := QR9.out.frozen 3
                          have f4 := QR9.out.frozen 4
                          have f5 := QR9.out.frozen 5
                          have f6 := QR9.out.frozen 6
                          go_wp2_with fail
                          (try simp only [Exit.inBlock, Exit.then])
                          refine bodyPost_ret (results_row_tmp rfl _ _ R 25 _ _ rfl (Blk.set7 QR9.out) Tryz.underlying25 rfl (by kernel_rfl)) rfl ?_
                          exact RefPost.no (below_set7 B9.out (by have := HL.out; omega) _ _ _ _ _ _ _) HNO.out
end Go.Proofs.YtoejjboanggenaaGreatDoor
