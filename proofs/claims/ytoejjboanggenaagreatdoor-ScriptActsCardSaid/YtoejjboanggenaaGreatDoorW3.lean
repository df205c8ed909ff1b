/-
ScriptActs returns true.
-/
import Derived.Test.YtoejjboanggenaaGreatDoorAW
import Derived.Test.YtoejjboanggenaaGreatDoorD
namespace Go.Proofs.YtoejjboanggenaaGreatDoor
open Go.RowKit
set_option linter.unusedVariables false
set_option linter.unusedSimpArgs false

theorem flat_few100 {d : Ad} (h1 : d.args.length ≤ 100) (h2 : d.surv.length ≤ 100) : ∀ ps : List PD, (ps.flatMap (wrPD d)).length ≤ 100 * ps.length
  | [] => by simp
  | p :: ps => by
    have := flat_few100 h1 h2 ps
    have : (wrPD d p).length ≤ 100 := by cases p <;> simp [wrPD] <;> omega
    simp only [List.flatMap_cons, List.length_append, List.length_cons]
    omega
theorem fmt_short {d : Ad} (hw : Wf d) (h1 : d.nm.size ≤ 100) (h2 : d.mt.size ≤ 100) (h3 : d.args.length ≤ 100) (h4 : d.surv.length ≤ 100) : (fmtL d).length ≤ 999999 := by
  cases hv : validB d with
  | false => unfold fmtL; rw [hv]; simp
  | true =>
    obtain ⟨f, hf, hok⟩ := valid_form hv
    rw [← text_fmt d f hf hok]
    have h5 := flat_few100 h3 h4 f.pds
    have h6 := forms_few (formsAt_idx hf)
    unfold lists textW
    rw [List.map_cons, Lib.join_length]
    have h7 := lens_le (f.word.data.toList :: (f.pds.flatMap (wrPD d)).map (·.data.toList)) (by
      intro x hx
      rcases List.mem_cons.1 hx with rfl | hx
      · exact forms_word (formsAt_idx hf)
      · obtain ⟨y, hy, rfl⟩ := List.mem_map.1 hx
        obtain ⟨p, _, hp⟩ := List.mem_flatMap.1 hy
        exact wr_short hw (by omega) (by omega) p y hp)
    simp only [List.length_cons, List.length_map, List.length_nil] at h7 ⊢
    omega
theorem sameAct_self (d : Ad) : sameActB d d = true := by
  unfold sameActB
  simp
set_option maxRecDepth 100000 in
set_option maxHeartbeats 16000000 in
theorem walk3 (v : Av) (d : Ad) (w : World) (h : Reads w w.heap.size v d) (hg : Gl w) (hw : Wf d) (hn : v.n ≤ maxLen) (hn2 : v.n2 ≤ maxLen) (hnm : v.nm.size ≤ maxLen) (hmt : v.mt.size ≤ maxLen) :
    Calls Tryz.prog 3 #[.agg v.cells] w fun e w' => e = .returned (.bool true) ∧ Below w.heap.size w w' := by
  unfold maxLen at hn hn2 hnm hmt
  have hq0 := Blk.new w 25 v.cells
  have hb0 : Below w.heap.size w (w.alloc (.cells v.cells 25)) := (Below.refl _ _).alloc (Nat.le_refl _) _
  unfold Av.cells at hq0 hb0 ⊢
  have HR := Lib.hid h
  have HG := Lib.hid hg
  have HW := Lib.hid hw
  clear h hg hw
  go_enter Tryz.func3, Tryz.ntmps3
  go_upto_region 1 with fail
  generalize w.alloc (.cells #[.int .i64 v.k, .int .i64 v.a, .int .i64 v.b, .string v.nm, .string v.mt, .slice v.A v.n v.c, .slice v.A2 v.n2 v.c2] 25) = W0 at hq0 hb0 ⊢
  have hlt0 := hq0.lt
  have zb0 := hb0.size
  obtain ⟨L, hL⟩ : ∃ L, w.heap.size = L := ⟨_, rfl⟩
  rw [hL] at hq0 hlt0 ⊢
  have HL := Lib.hid hL
  have QL := Lib.hid hq0
  have B0 := Lib.hid hb0
  clear hL hq0 hb0
  have c0 : W0.cell? ⟨L, 0, none⟩ = some (.int .i64 v.k) := QL.out.cell 0
  have c1 : W0.cell? ⟨L, 1, none⟩ = some (.int .i64 v.a) := QL.out.cell 1
  have c2 : W0.cell? ⟨L, 2, none⟩ = some (.int .i64 v.b) := QL.out.cell 2
  have c3 : W0.cell? ⟨L, 3, none⟩ = some (.string v.nm) := QL.out.cell 3
  have c4 : W0.cell? ⟨L, 4, none⟩ = some (.string v.mt) := QL.out.cell 4
  have c5 : W0.cell? ⟨L, 5, none⟩ = some (.slice v.A v.n v.c) := QL.out.cell 5
  have c6 : W0.cell? ⟨L, 6, none⟩ = some (.slice v.A2 v.n2 v.c2) := QL.out.cell 6
  by_cases g1 : v.nm.size ≤ 100
  · have g1' : decide ((100 : Int) < (v.nm.size : Int)) = false := decide_eq_false (by omega)
    by_cases g2 : v.mt.size ≤ 100
    · have g2' : decide ((100 : Int) < (v.mt.size : Int)) = false := decide_eq_false (by omega)
      by_cases g3 : v.n ≤ 100
      · have g3' : decide ((100 : Int) < (v.n : Int)) = false := decide_eq_false (by omega)
        by_cases g4 : v.n2 ≤ 100
        · have g4' : decide ((100 : Int) < (v.n2 : Int)) = false := decide_eq_false (by omega)
          have HR0 := Lib.hid ((HR.out.below B0.out).more B0.out.size)
          have H6 := Lib.hid (fmtAct6 v d W0 HR0.out (HG.out.below B0.out) (by omega) (by omega) (by omega) (by omega) HW.out)
          go_wp2_with fail
          refine H6.out.mono ?_
          rintro e w1 ⟨rfl, b1⟩
          have B1 := Lib.hid (B0.out.trans (b1.mono zb0))
          have QL1 := Lib.hid (QL.out.below b1 hlt0)
          have HR1 := Lib.hid ((HR.out.below B1.out).more B1.out.size)
          have hs1 := b1.size
          clear b1 H6 c0 c1 c2 c3 c4 c5 c6 QL HR0 B0
          have c0 : w1.cell? ⟨L, 0, none⟩ = some (.int .i64 v.k) := QL1.out.cell 0
          have c1 : w1.cell? ⟨L, 1, none⟩ = some (.int .i64 v.a) := QL1.out.cell 1
          have c2 : w1.cell? ⟨L, 2, none⟩ = some (.int .i64 v.b) := QL1.out.cell 2
          have c3 : w1.cell? ⟨L, 3, none⟩ = some (.string v.nm) := QL1.out.cell 3
          have c4 : w1.cell? ⟨L, 4, none⟩ = some (.string v.mt) := QL1.out.cell 4
          have c5 : w1.cell? ⟨L, 5, none⟩ = some (.slice v.A v.n v.c) := QL1.out.cell 5
          have c6 : w1.cell? ⟨L, 6, none⟩ = some (.slice v.A2 v.n2 v.c2) := QL1.out.cell 6
          have H7 := Lib.hid (fmt7 v d w1 HR1.out (by omega) (by omega) (by omega) (by omega) HW.out)
          obtain ⟨S, hS⟩ : ∃ S : ByteArray, ⟨(fmtL d).toArray⟩ = S := ⟨_, rfl⟩
          rw [hS] at H7
          have HS := Lib.hid hS
          clear hS
          rw [HS.out]
          go_wp2_with fail
          refine H7.out.mono ?_
          rintro e w2 ⟨rfl, b2⟩
          have B2 := Lib.hid (B1.out.trans (b2.mono B1.out.size))
          have QL2 := Lib.hid (QL1.out.below b2 QL1.out.lt)
          have hs2 := b2.size
          have hL1 := QL1.out.lt
          clear b2 H7 c0 c1 c2 c3 c4 c5 c6 QL1 HR1 B1
          have hSS : (S.toList == S.toList) = true := beq_self_eq_true _
          have hal : d.args.length ≤ 100 := by rw [HR.out.args.len]; exact g3
          have hsl : d.surv.length ≤ 100 := by rw [HR.out.surv.len]; exact g4
          have hsz : S.size ≤ 999999 := by
            rw [← HS.out]
            exact fmt_short HW.out (by rw [← HR.out.nm]; exact g1) (by rw [← HR.out.mt]; exact g2) hal hsl
          have H8 := Lib.hid (parseAct8 S w2 (HG.out.below B2.out) hsz)
          go_wp2_with fail
          refine H8.out.mono ?_
          rintro e w3 ⟨v3, d3, rfl, hd3, hr3, hn3, hn33, b3⟩
          have B3 := Lib.hid (B2.out.trans (b3.mono B2.out.size))
          have QL3 := Lib.hid (QL2.out.below b3 QL2.out.lt)
          have hs3 := b3.size
          have hL2 := QL2.out.lt
          have HR3 := Lib.hid hr3
          have HD3 := Lib.hid hd3
          clear b3 H8 QL2 B2 hr3 hd3
          unfold Av.cells
          obtain ⟨ec, hec⟩ : ∃ ec : Int, (if (parseW (wordsOf S)).isSome = true then 0 else 3) = ec := ⟨_, rfl⟩
          rw [hec]
          have HEC := Lib.hid hec
          clear hec
          go_upto_region 7 with fail
          obtain ⟨w4, hw4⟩ : ∃ w4, w3.alloc (.cells #[.int .i64 v3.k, .int .i64 v3.a, .int .i64 v3.b, .string v3.nm, .string v3.mt, .slice v3.A v3.n v3.c, .slice v3.A2 v3.n2 v3.c2] 25) = w4 := ⟨_, rfl⟩
          have b4 : Below w3.heap.size w3 w4 := hw4 ▸ (Below.refl _ _).alloc (Nat.le_refl _) _
          have hq4 := hw4 ▸ Blk.new w3 25 #[.int .i64 v3.k, .int .i64 v3.a, .int .i64 v3.b, .string v3.nm, .string v3.mt, .slice v3.A v3.n v3.c, .slice v3.A2 v3.n2 v3.c2]
          have B4 := Lib.hid (B3.out.trans (b4.mono B3.out.size))
          have QL4 := Lib.hid (QL3.out.below b4 QL3.out.lt)
          have HR4 := Lib.hid ((HR3.out.below b4).more b4.size)
          have HA4 := Lib.hid ((HR.out.below B4.out).more B4.out.size)
          have QM4 := Lib.hid hq4
          have hM := Blk.lt hq4
          rw [hw4]
          obtain ⟨M, hMM⟩ : ∃ M, w3.heap.size = M := ⟨_, rfl⟩
          rw [hMM] at QM4 hM hs3 ⊢
          have H9 := Lib.hid (valid9 v d w4 HA4.out (by omega) (by omega) (by omega) (by omega))
          clear hw4 b4 hq4 QL3 HR3 B3 hMM
          have c0 : w4.cell? ⟨L, 0, none⟩ = some (.int .i64 v.k) := QL4.out.cell 0
          have c1 : w4.cell? ⟨L, 1, none⟩ = some (.int .i64 v.a) := QL4.out.cell 1
          have c2 : w4.cell? ⟨L, 2, none⟩ = some (.int .i64 v.b) := QL4.out.cell 2
          have c3 : w4.cell? ⟨L, 3, none⟩ = some (.string v.nm) := QL4.out.cell 3
          have c4 : w4.cell? ⟨L, 4, none⟩ = some (.string v.mt) := QL4.out.cell 4
          have c5 : w4.cell? ⟨L, 5, none⟩ = some (.slice v.A v.n v.c) := QL4.out.cell 5
          have c6 : w4.cell? ⟨L, 6, none⟩ = some (.slice v.A2 v.n2 v.c2) := QL4.out.cell 6
          go_wp2_with fail
          refine H9.out.mono ?_
          rintro e w5 ⟨rfl, b5⟩
          have B5 := Lib.hid (B4.out.trans (b5.mono B4.out.size))
          have QL5 := Lib.hid (QL4.out.below b5 QL4.out.lt)
          have QM5 := Lib.hid (QM4.out.below b5 hM)
          have HR5 := Lib.hid ((HR4.out.below b5).more b5.size)
          have HA5 := Lib.hid ((HA4.out.below b5).more b5.size)
          have hs5 := b5.size
          clear b5 H9 c0 c1 c2 c3 c4 c5 c6 QL4 QM4 HR4 HA4 B4
          cases hv : validB d with
          | false =>
            have hS0 : S = ⟨#[]⟩ := by
              rw [← HS.out]
              unfold fmtL
              rw [hv]
              rfl
            obtain rfl : ec = 3 := by rw [← HEC.out, hS0, parse_empty]; rfl
            clear hv hS0
            go_wp2_with fail
            refine (awake5 _ (HG.out.below B5.out)).mono ?_
            rintro e wa ⟨rfl, ba⟩
            have BA := Lib.hid (B5.out.trans (ba.mono B5.out.size))
            clear ba
            go_wp2_with fail
            go_ret
            exact ⟨rfl, BA.out⟩
          | true =>
            have hps : parseW (wordsOf S) = some d := by rw [← HS.out]; exact parse_fmt d HW.out hv
            obtain rfl : ec = 0 := by rw [← HEC.out, hps]; rfl
            have hdd : d3 = d := by rw [HD3.out, hps]; rfl
            subst hdd
            have H10 := Lib.hid (sameAct10 v v3 d3 d3 w5.heap.size w5 HA5.out HR5.out (Nat.le_refl _) (by omega) (by omega) hn3 hn33)
            rw [sameAct_self] at H10
            clear hv hps
            have c0 : w5.cell? ⟨L, 0, none⟩ = some (.int .i64 v.k) := QL5.out.cell 0
            have c1 : w5.cell? ⟨L, 1, none⟩ = some (.int .i64 v.a) := QL5.out.cell 1
            have c2 : w5.cell? ⟨L, 2, none⟩ = some (.int .i64 v.b) := QL5.out.cell 2
            have c3 : w5.cell? ⟨L, 3, none⟩ = some (.string v.nm) := QL5.out.cell 3
            have c4 : w5.cell? ⟨L, 4, none⟩ = some (.string v.mt) := QL5.out.cell 4
            have c5 : w5.cell? ⟨L, 5, none⟩ = some (.slice v.A v.n v.c) := QL5.out.cell 5
            have c6 : w5.cell? ⟨L, 6, none⟩ = some (.slice v.A2 v.n2 v.c2) := QL5.out.cell 6
            have m0 : w5.cell? ⟨M, 0, none⟩ = some (.int .i64 v3.k) := QM5.out.cell 0
            have m1 : w5.cell? ⟨M, 1, none⟩ = some (.int .i64 v3.a) := QM5.out.cell 1
            have m2 : w5.cell? ⟨M, 2, none⟩ = some (.int .i64 v3.b) := QM5.out.cell 2
            have m3 : w5.cell? ⟨M, 3, none⟩ = some (.string v3.nm) := QM5.out.cell 3
            have m4 : w5.cell? ⟨M, 4, none⟩ = some (.string v3.mt) := QM5.out.cell 4
            have m5 : w5.cell? ⟨M, 5, none⟩ = some (.slice v3.A v3.n v3.c) := QM5.out.cell 5
            have m6 : w5.cell? ⟨M, 6, none⟩ = some (.slice v3.A2 v3.n2 v3.c2) := QM5.out.cell 6
            go_wp2_with fail
            refine H10.out.mono ?_
            rintro e w6 ⟨rfl, b6⟩
            have B6 := Lib.hid (B5.out.trans (b6.mono B5.out.size))
            clear b6 c0 c1 c2 c3 c4 c5 c6 m0 m1 m2 m3 m4 m5 m6 H10
            go_wp2_with fail
            refine (awake5 _ (HG.out.below B6.out)).mono ?_
            rintro e wa ⟨rfl, ba⟩
            have BA := Lib.hid (B6.out.trans (ba.mono B6.out.size))
            clear ba
            go_wp2_with fail
            go_ret
            exact ⟨rfl, BA.out⟩
        · have g4' : decide ((100 : Int) < (v.n2 : Int)) = true := decide_eq_true (by omega)
          go_wp2_with fail
          refine (awake5 _ (HG.out.below B0.out)).mono ?_
          rintro e wa ⟨rfl, ba⟩
          have BA := Lib.hid (B0.out.trans (ba.mono B0.out.size))
          clear ba
          go_wp2_with fail
          go_ret
          exact ⟨rfl, BA.out⟩
      · have g3' : decide ((100 : Int) < (v.n : Int)) = true := decide_eq_true (by omega)
        go_wp2_with fail
        refine (awake5 _ (HG.out.below B0.out)).mono ?_
        rintro e wa ⟨rfl, ba⟩
        have BA := Lib.hid (B0.out.trans (ba.mono B0.out.size))
        clear ba
        go_wp2_with fail
        go_ret
        exact ⟨rfl, BA.out⟩
    · have g2' : decide ((100 : Int) < (v.mt.size : Int)) = true := decide_eq_true (by omega)
      go_wp2_with fail
      refine (awake5 _ (HG.out.below B0.out)).mono ?_
      rintro e wa ⟨rfl, ba⟩
      have BA := Lib.hid (B0.out.trans (ba.mono B0.out.size))
      clear ba
      go_wp2_with fail
      go_ret
      exact ⟨rfl, BA.out⟩
  · have g1' : decide ((100 : Int) < (v.nm.size : Int)) = true := decide_eq_true (by omega)
    go_wp2_with fail
    refine (awake5 _ (HG.out.below B0.out)).mono ?_
    rintro e wa ⟨rfl, ba⟩
    have BA := Lib.hid (B0.out.trans (ba.mono B0.out.size))
    clear ba
    go_wp2_with fail
    go_ret
    exact ⟨rfl, BA.out⟩
end Go.Proofs.YtoejjboanggenaaGreatDoor
