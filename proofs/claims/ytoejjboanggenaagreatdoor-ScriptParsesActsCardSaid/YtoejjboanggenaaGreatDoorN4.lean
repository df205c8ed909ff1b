/-
Contracts of the lexer's small functions: number, skip.
-/
import Derived.Test.YtoejjboanggenaaGreatDoorN3
namespace Go.Proofs.YtoejjboanggenaaGreatDoor
open Go.RowKit
set_option linter.unusedVariables false
set_option linter.unusedSimpArgs false

def DIG : ByteArray := ⟨#[48, 49, 50, 51, 52, 53, 54, 55, 56, 57]⟩
def LETU : ByteArray := ⟨#[97, 98, 99, 100, 101, 102, 103, 104, 105, 106, 107, 108, 109, 110, 111, 112, 113, 114, 115, 116, 117, 118, 119, 120, 121, 122, 65, 66, 67, 68, 69, 70, 71, 72, 73, 74, 75, 76, 77, 78, 79, 80, 81, 82, 83, 84, 85, 86, 87, 88, 89, 90, 95]⟩
theorem runB_le (s set : ByteArray) : (runB s set).size ≤ s.size := by
  unfold runB
  rw [ByteArray.size_extract]
  omega
set_option maxHeartbeats 16000000 in
theorem number111 (s : ByteArray) (w : World) (hg : Gl w) (hs : s.size ≤ 1000000) (hr : 1 ≤ (runB s DIG).size) : Calls Tryz.prog 111 #[.string s] w fun e' w' => ∃ k t v e, e' = .returned (.tuple #[tokV k t v 0, .int .i64 e]) ∧ Below w.heap.size w w' ∧
    (e = 0 → k = 1 ∧ 1 ≤ t.size ∧ t.size ≤ s.size) := by
  unfold tokV
  have hR := run126 s DIG (by decide) (by decide) hs
  have hrs := runB_le s DIG
  generalize runB s DIG = r at hr hR hrs ⊢
  have hsz : (s.extract r.size s.size).size ≤ 1000000 := by rw [ByteArray.size_extract]; omega
  have hR2 := run126 (s.extract r.size s.size) LETU (by decide) (by decide) hsz
  generalize runB (s.extract r.size s.size) LETU = r2 at hR2
  unfold DIG at hR
  unfold LETU at hR2
  have HR := Lib.hid hR
  have HR2 := Lib.hid hR2
  clear hR hR2 hsz
  have hr0 : (0 : Int) < (r.size : Int) := by omega
  have hrs0 : (r.size : Int) ≤ (s.size : Int) := by omega
  have hG := Lib.hid hg
  clear hg
  go_enter Tryz.func111, Tryz.ntmps111
  go_upto_region 1 with (fail)
  obtain ⟨w0, hw0⟩ : ∃ w0, w.alloc (.cells #[.int .i64 0, .string ⟨#[]⟩, .int .i64 0, .int .i64 0] 113) = w0 := ⟨_, rfl⟩
  have q0 : Blk w0 w.heap.size 113 #[.int .i64 0, .string ⟨#[]⟩, .int .i64 0, .int .i64 0] := hw0 ▸ Blk.new w 113 _
  have b0 : Below w.heap.size w w0 := hw0 ▸ (Below.refl _ _).alloc (Nat.le_refl _) _
  rw [hw0]
  clear hw0
  obtain ⟨g, hg⟩ : ∃ g, w.heap.size = g := ⟨_, rfl⟩
  rw [hg] at q0 b0 ⊢
  have l0 := q0.lt
  have HQ := Lib.hid q0
  have B0 := Lib.hid b0
  have HGG := Lib.hid hg
  clear q0 b0 hg
  go_wp2_with fail
  refine (HR.out _).mono ?_
  rintro e w1 ⟨rfl, b1⟩
  have Q1 := Lib.hid (HQ.out.below b1 l0)
  have l1 : g < w1.heap.size := Nat.lt_of_lt_of_le l0 b1.size
  have B1 := Lib.hid (B0.out.trans (b1.mono (Nat.le_of_lt l0)))
  clear b1 B0 HQ HR l0
  by_cases hone : (1 : Int) < (r.size : Int)
  · obtain ⟨ch, hch⟩ : ∃ ch, (r[0]'(by omega)).toNat = ch := ⟨_, rfl⟩
    by_cases hz : ch = 48
    · subst hz
      have e0 : w1.cell? ⟨g, 0, none⟩ = some (.int .i64 0) := Q1.out.cell 0
      have e1 : w1.cell? ⟨g, 1, none⟩ = some (.string ⟨#[]⟩) := Q1.out.cell 1
      have e2 : w1.cell? ⟨g, 2, none⟩ = some (.int .i64 0) := Q1.out.cell 2
      have e3 : w1.cell? ⟨g, 3, none⟩ = some (.int .i64 0) := Q1.out.cell 3
      have f0 := Q1.out.frozen 0
      have f1 := Q1.out.frozen 1
      have f2 := Q1.out.frozen 2
      have f3 := Q1.out.frozen 3
      go_wp2_with fail
      (try simp only [Exit.inBlock, Exit.then])
      refine bodyPost_ret (results_row_tmp rfl _ _ g 113 _ _ rfl Q1.out.set4 Tryz.underlying113 rfl (by kernel_rfl)) rfl ?_
      exact ⟨_, _, _, _, rfl, HGG.out ▸ below_set4 B1.out (Nat.le_refl _) _ _ _ _, fun h => absurd h (by decide)⟩
    · have hz' : ((ch : Int) == 48) = false := beq_eq_false_iff_ne.2 (by omega)
      have hB2 := HR2.out w1
      by_cases he : r2 = ⟨#[]⟩
      · subst he
        go_wp2_with fail
        refine hB2.mono ?_
        rintro e w2 ⟨rfl, b2⟩
        have Q2 := Lib.hid (Q1.out.below b2 l1)
        have l2 : g < w2.heap.size := Nat.lt_of_lt_of_le l1 b2.size
        have B2 := Lib.hid (B1.out.trans (b2.mono (Nat.le_of_lt l1)))
        have hg2 := Gl.below hG.out (HGG.out.symm ▸ B2.out)
        have HG2 := Lib.hid hg2
        clear b2 B1 Q1 hB2 hg2
        by_cases hp : ∃ v, Lib.parseIntB 64 r.data.toList = .ok v
        · obtain ⟨v, hv⟩ := hp
          have HP := Lib.hid (fun W => parse84_ok r v W (by omega) hv)
          clear hv
          by_cases hmx : (2305843009213693951 : Int) < v
          · go_wp2_with fail
            refine (HP.out _).mono ?_
            rintro e w3 ⟨rfl, b3⟩
            have Q3 := Lib.hid (Q2.out.below b3 l2)
            have B3 := Lib.hid (B2.out.trans (b3.mono (Nat.le_of_lt l2)))
            clear b3 B2 Q2
            have e0 : w3.cell? ⟨g, 0, none⟩ = some (.int .i64 0) := Q3.out.cell 0
            have e1 : w3.cell? ⟨g, 1, none⟩ = some (.string ⟨#[]⟩) := Q3.out.cell 1
            have e2 : w3.cell? ⟨g, 2, none⟩ = some (.int .i64 0) := Q3.out.cell 2
            have e3 : w3.cell? ⟨g, 3, none⟩ = some (.int .i64 0) := Q3.out.cell 3
            have f0 := Q3.out.frozen 0
            have f1 := Q3.out.frozen 1
            have f2 := Q3.out.frozen 2
            have f3 := Q3.out.frozen 3
            go_wp2_with fail
            (try simp only [Exit.inBlock, Exit.then])
            refine bodyPost_ret (results_row_tmp rfl _ _ g 113 _ _ rfl Q3.out.set4 Tryz.underlying113 rfl (by kernel_rfl)) rfl ?_
            exact ⟨_, _, _, _, rfl, HGG.out ▸ below_set4 B3.out (Nat.le_refl _) _ _ _ _, fun h => absurd h (by decide)⟩
          · go_wp2_with fail
            refine (HP.out _).mono ?_
            rintro e w3 ⟨rfl, b3⟩
            have Q3 := Lib.hid (Q2.out.below b3 l2)
            have B3 := Lib.hid (B2.out.trans (b3.mono (Nat.le_of_lt l2)))
            clear b3 B2 Q2
            have e0 : w3.cell? ⟨g, 0, none⟩ = some (.int .i64 0) := Q3.out.cell 0
            have e1 : w3.cell? ⟨g, 1, none⟩ = some (.string ⟨#[]⟩) := Q3.out.cell 1
            have e2 : w3.cell? ⟨g, 2, none⟩ = some (.int .i64 0) := Q3.out.cell 2
            have e3 : w3.cell? ⟨g, 3, none⟩ = some (.int .i64 0) := Q3.out.cell 3
            have f0 := Q3.out.frozen 0
            have f1 := Q3.out.frozen 1
            have f2 := Q3.out.frozen 2
            have f3 := Q3.out.frozen 3
            go_wp2_with fail
            (try simp only [Exit.inBlock, Exit.then])
            refine bodyPost_ret (results_row_tmp rfl _ _ g 113 _ _ rfl Q3.out.set4 Tryz.underlying113 rfl (by kernel_rfl)) rfl ?_
            exact ⟨_, _, _, _, rfl, HGG.out ▸ below_set4 B3.out (Nat.le_refl _) _ _ _ _, fun _ => ⟨rfl, hr, hrs⟩⟩
        · have HP := Lib.hid (fun W hW => parse84_no r W hW (by omega) fun v hv => hp ⟨v, hv⟩)
          clear hp
          generalize numV r = nv at HP
          go_wp2_with fail
          refine (HP.out _ HG2.out).mono ?_
          rintro e w3 ⟨NN, rfl, b3⟩
          have Q3 := Lib.hid (Q2.out.below b3 l2)
          have B3 := Lib.hid (B2.out.trans (b3.mono (Nat.le_of_lt l2)))
          clear b3 B2 Q2
          have e0 : w3.cell? ⟨g, 0, none⟩ = some (.int .i64 0) := Q3.out.cell 0
          have e1 : w3.cell? ⟨g, 1, none⟩ = some (.string ⟨#[]⟩) := Q3.out.cell 1
          have e2 : w3.cell? ⟨g, 2, none⟩ = some (.int .i64 0) := Q3.out.cell 2
          have e3 : w3.cell? ⟨g, 3, none⟩ = some (.int .i64 0) := Q3.out.cell 3
          have f0 := Q3.out.frozen 0
          have f1 := Q3.out.frozen 1
          have f2 := Q3.out.frozen 2
          have f3 := Q3.out.frozen 3
          go_wp2_with fail
          (try simp only [Exit.inBlock, Exit.then])
          refine bodyPost_ret (results_row_tmp rfl _ _ g 113 _ _ rfl Q3.out.set4 Tryz.underlying113 rfl (by kernel_rfl)) rfl ?_
          exact ⟨_, _, _, _, rfl, HGG.out ▸ below_set4 B3.out (Nat.le_refl _) _ _ _ _, fun h => absurd h (by decide)⟩
      · have hne : r2.toList.isEmpty = false := by
          cases hb : r2.toList with
          | nil => exact absurd (ba_ext (hb.trans (show [] = (⟨#[]⟩ : ByteArray).toList by simp [Lib.toList_data]))) he
          | cons _ _ => rfl
        clear he
        go_wp2_with fail
        refine hB2.mono ?_
        rintro e w2 ⟨rfl, b2⟩
        have Q2 := Lib.hid (Q1.out.below b2 l1)
        have B2 := Lib.hid (B1.out.trans (b2.mono (Nat.le_of_lt l1)))
        clear b2 B1 Q1 hB2
        have e0 : w2.cell? ⟨g, 0, none⟩ = some (.int .i64 0) := Q2.out.cell 0
        have e1 : w2.cell? ⟨g, 1, none⟩ = some (.string ⟨#[]⟩) := Q2.out.cell 1
        have e2 : w2.cell? ⟨g, 2, none⟩ = some (.int .i64 0) := Q2.out.cell 2
        have e3 : w2.cell? ⟨g, 3, none⟩ = some (.int .i64 0) := Q2.out.cell 3
        have f0 := Q2.out.frozen 0
        have f1 := Q2.out.frozen 1
        have f2 := Q2.out.frozen 2
        have f3 := Q2.out.frozen 3
        go_wp2_with fail
        (try simp only [Exit.inBlock, Exit.then])
        refine bodyPost_ret (results_row_tmp rfl _ _ g 113 _ _ rfl Q2.out.set4 Tryz.underlying113 rfl (by kernel_rfl)) rfl ?_
        exact ⟨_, _, _, _, rfl, HGG.out ▸ below_set4 B2.out (Nat.le_refl _) _ _ _ _, fun h => absurd h (by decide)⟩
  · have hone' : decide ((1 : Int) < (r.size : Int)) = false := by simpa using hone
    have hB2 := HR2.out w1
    by_cases he : r2 = ⟨#[]⟩
    · subst he
      go_wp2_with fail
      refine hB2.mono ?_
      rintro e w2 ⟨rfl, b2⟩
      have Q2 := Lib.hid (Q1.out.below b2 l1)
      have l2 : g < w2.heap.size := Nat.lt_of_lt_of_le l1 b2.size
      have B2 := Lib.hid (B1.out.trans (b2.mono (Nat.le_of_lt l1)))
      have hg2 := Gl.below hG.out (HGG.out.symm ▸ B2.out)
      have HG2 := Lib.hid hg2
      clear b2 B1 Q1 hB2 hg2
      by_cases hp : ∃ v, Lib.parseIntB 64 r.data.toList = .ok v
      · obtain ⟨v, hv⟩ := hp
        have HP := Lib.hid (fun W => parse84_ok r v W (by omega) hv)
        clear hv
        by_cases hmx : (2305843009213693951 : Int) < v
        · go_wp2_with fail
          refine (HP.out _).mono ?_
          rintro e w3 ⟨rfl, b3⟩
          have Q3 := Lib.hid (Q2.out.below b3 l2)
          have B3 := Lib.hid (B2.out.trans (b3.mono (Nat.le_of_lt l2)))
          clear b3 B2 Q2
          have e0 : w3.cell? ⟨g, 0, none⟩ = some (.int .i64 0) := Q3.out.cell 0
          have e1 : w3.cell? ⟨g, 1, none⟩ = some (.string ⟨#[]⟩) := Q3.out.cell 1
          have e2 : w3.cell? ⟨g, 2, none⟩ = some (.int .i64 0) := Q3.out.cell 2
          have e3 : w3.cell? ⟨g, 3, none⟩ = some (.int .i64 0) := Q3.out.cell 3
          have f0 := Q3.out.frozen 0
          have f1 := Q3.out.frozen 1
          have f2 := Q3.out.frozen 2
          have f3 := Q3.out.frozen 3
          go_wp2_with fail
          (try simp only [Exit.inBlock, Exit.then])
          refine bodyPost_ret (results_row_tmp rfl _ _ g 113 _ _ rfl Q3.out.set4 Tryz.underlying113 rfl (by kernel_rfl)) rfl ?_
          exact ⟨_, _, _, _, rfl, HGG.out ▸ below_set4 B3.out (Nat.le_refl _) _ _ _ _, fun h => absurd h (by decide)⟩
        · go_wp2_with fail
          refine (HP.out _).mono ?_
          rintro e w3 ⟨rfl, b3⟩
          have Q3 := Lib.hid (Q2.out.below b3 l2)
          have B3 := Lib.hid (B2.out.trans (b3.mono (Nat.le_of_lt l2)))
          clear b3 B2 Q2
          have e0 : w3.cell? ⟨g, 0, none⟩ = some (.int .i64 0) := Q3.out.cell 0
          have e1 : w3.cell? ⟨g, 1, none⟩ = some (.string ⟨#[]⟩) := Q3.out.cell 1
          have e2 : w3.cell? ⟨g, 2, none⟩ = some (.int .i64 0) := Q3.out.cell 2
          have e3 : w3.cell? ⟨g, 3, none⟩ = some (.int .i64 0) := Q3.out.cell 3
          have f0 := Q3.out.frozen 0
          have f1 := Q3.out.frozen 1
          have f2 := Q3.out.frozen 2
          have f3 := Q3.out.frozen 3
          go_wp2_with fail
          (try simp only [Exit.inBlock, Exit.then])
          refine bodyPost_ret (results_row_tmp rfl _ _ g 113 _ _ rfl Q3.out.set4 Tryz.underlying113 rfl (by kernel_rfl)) rfl ?_
          exact ⟨_, _, _, _, rfl, HGG.out ▸ below_set4 B3.out (Nat.le_refl _) _ _ _ _, fun _ => ⟨rfl, hr, hrs⟩⟩
      · have HP := Lib.hid (fun W hW => parse84_no r W hW (by omega) fun v hv => hp ⟨v, hv⟩)
        clear hp
        generalize numV r = nv at HP
        go_wp2_with fail
        refine (HP.out _ HG2.out).mono ?_
        rintro e w3 ⟨NN, rfl, b3⟩
        have Q3 := Lib.hid (Q2.out.below b3 l2)
        have B3 := Lib.hid (B2.out.trans (b3.mono (Nat.le_of_lt l2)))
        clear b3 B2 Q2
        have e0 : w3.cell? ⟨g, 0, none⟩ = some (.int .i64 0) := Q3.out.cell 0
        have e1 : w3.cell? ⟨g, 1, none⟩ = some (.string ⟨#[]⟩) := Q3.out.cell 1
        have e2 : w3.cell? ⟨g, 2, none⟩ = some (.int .i64 0) := Q3.out.cell 2
        have e3 : w3.cell? ⟨g, 3, none⟩ = some (.int .i64 0) := Q3.out.cell 3
        have f0 := Q3.out.frozen 0
        have f1 := Q3.out.frozen 1
        have f2 := Q3.out.frozen 2
        have f3 := Q3.out.frozen 3
        go_wp2_with fail
        (try simp only [Exit.inBlock, Exit.then])
        refine bodyPost_ret (results_row_tmp rfl _ _ g 113 _ _ rfl Q3.out.set4 Tryz.underlying113 rfl (by kernel_rfl)) rfl ?_
        exact ⟨_, _, _, _, rfl, HGG.out ▸ below_set4 B3.out (Nat.le_refl _) _ _ _ _, fun h => absurd h (by decide)⟩
    · have hne : r2.toList.isEmpty = false := by
        cases hb : r2.toList with
        | nil => exact absurd (ba_ext (hb.trans (show [] = (⟨#[]⟩ : ByteArray).toList by simp [Lib.toList_data]))) he
        | cons _ _ => rfl
      clear he
      go_wp2_with fail
      refine hB2.mono ?_
      rintro e w2 ⟨rfl, b2⟩
      have Q2 := Lib.hid (Q1.out.below b2 l1)
      have B2 := Lib.hid (B1.out.trans (b2.mono (Nat.le_of_lt l1)))
      clear b2 B1 Q1 hB2
      have e0 : w2.cell? ⟨g, 0, none⟩ = some (.int .i64 0) := Q2.out.cell 0
      have e1 : w2.cell? ⟨g, 1, none⟩ = some (.string ⟨#[]⟩) := Q2.out.cell 1
      have e2 : w2.cell? ⟨g, 2, none⟩ = some (.int .i64 0) := Q2.out.cell 2
      have e3 : w2.cell? ⟨g, 3, none⟩ = some (.int .i64 0) := Q2.out.cell 3
      have f0 := Q2.out.frozen 0
      have f1 := Q2.out.frozen 1
      have f2 := Q2.out.frozen 2
      have f3 := Q2.out.frozen 3
      go_wp2_with fail
      (try simp only [Exit.inBlock, Exit.then])
      refine bodyPost_ret (results_row_tmp rfl _ _ g 113 _ _ rfl Q2.out.set4 Tryz.underlying113 rfl (by kernel_rfl)) rfl ?_
      exact ⟨_, _, _, _, rfl, HGG.out ▸ below_set4 B2.out (Nat.le_refl _) _ _ _ _, fun h => absurd h (by decide)⟩
end Go.Proofs.YtoejjboanggenaaGreatDoor
