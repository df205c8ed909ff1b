/-
Contracts of the lexer's small functions: symbol, number, skip.
-/
import Derived.Test.YtoejjboanggenaaGreatDoorN2
import Derived.BigQuiet
import Derived.Deep.RegionWith
namespace Go.Proofs.YtoejjboanggenaaGreatDoor
open Go.RowKit
set_option linter.unusedVariables false
set_option linter.unusedSimpArgs false

set_option maxHeartbeats 4000000 in
theorem symbol113 (s : ByteArray) (w : World) (hg : Gl w) (hs : s.size ≤ 1000000) (h1 : 1 ≤ s.size) : Calls Tryz.prog 113 #[.string s] w fun e' w' => ∃ k t e, e' = .returned (.tuple #[tokV k t 0 0, .int .i64 e]) ∧ Below w.heap.size w w' ∧
    (e = 0 → k = 5 ∧ 1 ≤ t.size ∧ t.size ≤ s.size) := by
  unfold tokV
  obtain ⟨A, c, hc, hk⟩ := GlB.sy hg
  obtain ⟨b, off, rfl, hb, hcell⟩ := hk.2 (by omega)
  have hC := fun (W : World) (x : ByteArray) (hW : Below w.heap.size w W) => Tryz.slices_Contains_string b off 19 c syL x W (by decide) (by decide) (fun j hj => by
    rw [cells_below hW hb]
    refine hcell j _ ?_
    rw [List.getElem?_map, List.getD_eq_getElem?_getD, List.getElem?_eq_getElem hj]
    rfl)
  generalize List.take 19 syL = sy at hC
  have HC := Lib.hid hC
  have HS := Lib.hid (And.intro (GlB.big hg) (GlB.le hg))
  clear hC hcell hk hb
  obtain ⟨m0, hm0⟩ : ∃ m0 : Nat, min (2 : Int) (s.size : Int) = (m0 : Int) := ⟨min 2 s.size, by omega⟩
  have hm1 : m0 ≤ s.size := by omega
  have hm2 : m0 ≤ 2 := by omega
  have HG := Lib.hid hg
  clear hg
  go_enter Tryz.func113, Tryz.ntmps113
  go_upto_region 1 with (fail)
  obtain ⟨w0, hw0⟩ : ∃ w0, w.alloc (.cells #[.int .i64 0, .string ⟨#[]⟩, .int .i64 0, .int .i64 0] 113) = w0 := ⟨_, rfl⟩
  have q0 : Blk w0 w.heap.size 113 #[.int .i64 0, .string ⟨#[]⟩, .int .i64 0, .int .i64 0] := hw0 ▸ Blk.new w 113 _
  have b0 : Below w.heap.size w w0 := hw0 ▸ (Below.refl _ _).alloc (Nat.le_refl _) _
  have H10 := HS.out.1
  have HCELL := Lib.hid hc
  rw [hw0]
  clear hw0 hc HG HS
  obtain ⟨g, hg⟩ : ∃ g, w.heap.size = g := ⟨_, rfl⟩
  rw [hg] at q0 b0 HC H10 ⊢
  have HQ := Lib.hid q0
  have B0 := Lib.hid b0
  have HGG := Lib.hid hg
  clear q0 b0 hg
  go_wp2_with fail
  go_loopw [4] (fun i wr => ∃ m : Nat, m ≤ 2 ∧ m ≤ s.size ∧ i = .int .i64 m ∧ Hid (Below g w wr) ∧ Hid (Blk wr g 113 #[.int .i64 0, .string ⟨#[]⟩, .int .i64 0, .int .i64 0])) (fun i _ => (intOf i).toNat)
  case atStart => exact ⟨m0, hm2, hm1, rfl, B0, HQ⟩
  case round =>
    clear B0 HQ
    obtain ⟨m, h2, hms, rfl, HB, HQ⟩ := hrel
    have c6 : wr.cell? ⟨6, 0, none⟩ = some (.slice (some ⟨b, off, none⟩) 19 c) := (cells_below HB.out (by omega) 0).trans HCELL.out
    by_cases hpos : 0 < m
    · have p1 : (0 : Int) < (m : Int) := by omega
      have p2 : (m : Int) ≤ (s.size : Int) := by omega
      obtain ⟨cb, hcb⟩ : ∃ cb, Lib.containsS sy (s.extract 0 m) = cb := ⟨_, rfl⟩
      have hCC := fun (n : Nat) => HC.out (wr.drewN n) (s.extract 0 m) (below_drewN HB.out n)
      rw [hcb] at hCC
      have HCC := Lib.hid hCC
      clear hcb hCC
      cases cb with
      | true =>
        go_wp2_with fail
        go_quiet ((go_at_call 129; exact Calls.quiet_of_same (HCC.out _)))
        have HQ2 := Lib.hid (show Blk (wr.drewN nq) g 113 _ from HQ.out)
        have e0 : (wr.drewN nq).cell? ⟨g, 0, none⟩ = some (.int .i64 0) := HQ.out.cell 0
        have e1 : (wr.drewN nq).cell? ⟨g, 1, none⟩ = some (.string ⟨#[]⟩) := HQ.out.cell 1
        have e2 : (wr.drewN nq).cell? ⟨g, 2, none⟩ = some (.int .i64 0) := HQ.out.cell 2
        have e3 : (wr.drewN nq).cell? ⟨g, 3, none⟩ = some (.int .i64 0) := HQ.out.cell 3
        have f0 := HQ2.out.frozen 0
        have f1 := HQ2.out.frozen 1
        have f2 := HQ2.out.frozen 2
        have f3 := HQ2.out.frozen 3
        have HB2 := Lib.hid (below_drewN HB.out nq)
        clear HB HQ HCC c6
        generalize wr.drewN nq = W at *
        have s1 : (s.extract 0 m).size = m := by simp; omega
        go_wp2_with fail
        (try simp only [Exit.inBlock, Exit.then])
        refine bodyPost_ret (results_row_tmp rfl _ _ g 113 _ _ rfl HQ2.out.set4 Tryz.underlying113 rfl (by kernel_rfl)) rfl ?_
        exact ⟨_, _, _, rfl, HGG.out ▸ below_set4 HB2.out (Nat.le_refl _) _ _ _ _, fun _ => ⟨rfl, by omega, by omega⟩⟩
      | false =>
        go_wp2_with fail
        go_quiet ((go_at_call 129; exact Calls.quiet_of_same (HCC.out _)))
        have HQ2 := Lib.hid (show Blk (wr.drewN nq) g 113 _ from HQ.out)
        have HB2 := Lib.hid (below_drewN HB.out nq)
        clear HB HQ HCC c6
        generalize wr.drewN nq = W at *
        go_wp2_with fail
        go_roundw
        case rel => exact ⟨m - 1, by omega, by omega, by go_num, HB2, HQ2⟩
        case measure => simp [intOf]; omega
    · obtain rfl : m = 0 := by omega
      have e0 : wr.cell? ⟨g, 0, none⟩ = some (.int .i64 0) := HQ.out.cell 0
      have e1 : wr.cell? ⟨g, 1, none⟩ = some (.string ⟨#[]⟩) := HQ.out.cell 1
      have e2 : wr.cell? ⟨g, 2, none⟩ = some (.int .i64 0) := HQ.out.cell 2
      have e3 : wr.cell? ⟨g, 3, none⟩ = some (.int .i64 0) := HQ.out.cell 3
      have f0 := HQ.out.frozen 0
      have f1 := HQ.out.frozen 1
      have f2 := HQ.out.frozen 2
      have f3 := HQ.out.frozen 3
      go_wp2_with fail
      (try simp only [Exit.inBlock, Exit.then])
      refine bodyPost_ret (results_row_tmp rfl _ _ g 113 _ _ rfl HQ.out.set4 Tryz.underlying113 rfl (by kernel_rfl)) rfl ?_
      exact ⟨_, _, _, rfl, HGG.out ▸ below_set4 HB.out (Nat.le_refl _) _ _ _ _, fun h => absurd h (by decide)⟩
end Go.Proofs.YtoejjboanggenaaGreatDoor
