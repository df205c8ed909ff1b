/-
Contract of awake: the chapter's examples hold.
-/
import Derived.Test.YtoejjboanggenaaGreatDoorV3
namespace Go.Proofs.YtoejjboanggenaaGreatDoor
open Go.RowKit
set_option linter.unusedVariables false
set_option linter.unusedSimpArgs false

theorem words_turn : wordsOf ⟨#[116, 117, 114, 110, 32, 48, 32, 49]⟩ = [⟨#[116, 117, 114, 110]⟩, ⟨#[48]⟩, ⟨#[49]⟩] := by
  refine lists_inj ?_
  rw [wordsOf_lists]
  decide +kernel
theorem words_tick : wordsOf ⟨#[116, 105, 99, 107, 32, 32, 49]⟩ = [⟨#[116, 105, 99, 107]⟩, ⟨#[]⟩, ⟨#[49]⟩] := by
  refine lists_inj ?_
  rw [wordsOf_lists]
  decide +kernel
theorem parse_turn : parseW (wordsOf ⟨#[116, 117, 114, 110, 32, 48, 32, 49]⟩) = none := by
  rw [words_turn]
  unfold parseW
  dsimp only
  rw [show formBy ⟨#[116, 117, 114, 110]⟩ = some ⟨0, ⟨#[116, 117, 114, 110]⟩, [.numA 1 8, .numB 0 1099511627776]⟩ from formBy_nat (q := 0) (by decide) rfl]
  dsimp only
  have h0 : numV ⟨#[48]⟩ = 0 := by decide +kernel
  simp only [rdPDs, rdPD, zeroAd, h0]
  have hn : ∀ b, okD ⟨0, 0, b, ⟨#[]⟩, ⟨#[]⟩, [], []⟩ = false := fun b => by
    rw [okD_valid]
    simp [validB, validKB, machineB]
  cases h1 : numOk ⟨#[48]⟩ <;> cases h2 : numOk ⟨#[49]⟩ <;> simp [h1, h2, hn]
theorem parse_tick : parseW (wordsOf ⟨#[116, 105, 99, 107, 32, 32, 49]⟩) = none := by
  rw [words_tick]
  unfold parseW
  dsimp only
  rw [show formBy ⟨#[116, 105, 99, 107]⟩ = some ⟨4, ⟨#[116, 105, 99, 107]⟩, [.numA 1 8]⟩ from formBy_nat (q := 4) (by decide) rfl]
  rfl
def dEx : Ad := ⟨11, 2, 0, ⟨#[97]⟩, ⟨#[82, 105, 110, 103]⟩, [3, -1], []⟩
theorem wf_ex : Wf dEx := by
  refine ⟨?_, ?_, fun z hz => ?_, fun z hz => ?_⟩
  · unfold I64 dEx; decide
  · unfold I64 dEx; decide
  · simp only [dEx, List.mem_cons, List.not_mem_nil, or_false] at hz
    unfold I64
    omega
  · simp [dEx] at hz
theorem fmt_ex : fmtL dEx = [115, 112, 97, 119, 110, 32, 50, 32, 97, 32, 82, 105, 110, 103, 32, 51, 32, 45, 49] := by
  have h1 : Lib.itoa 2 = [50] := by unfold Lib.itoa; rw [if_neg (by decide)]; exact dec_small (by decide)
  have h2 : Lib.itoa 3 = [51] := by unfold Lib.itoa; rw [if_neg (by decide)]; exact dec_small (by decide)
  have h3 : Lib.itoa (-1) = [45, 49] := by unfold Lib.itoa; rw [if_pos (by decide)]; exact congrArg (45 :: ·) (dec_small (by decide))
  have hv : validB dEx = true := by
    unfold validB validKB dEx onlyB varB classB nameB inB
    simp only [Lib.toList_data]
    decide +kernel
  unfold fmtL
  rw [if_pos hv]
  unfold dEx tailW fixW argW
  simp only [List.map_cons, List.map_nil, h1, h2, h3]
  rfl
set_option maxRecDepth 100000 in
set_option maxHeartbeats 4000000 in
theorem awake5 (w : World) (hg : Gl w) : Calls Tryz.prog 5 #[] w fun e w' => e = .returned (.bool true) ∧ Below w.heap.size w w' := by
  have HG := Lib.hid hg
  have h1 := parseAct8 ⟨#[116, 117, 114, 110, 32, 48, 32, 49]⟩ w hg (by decide)
  unfold ParsePost at h1
  simp only [parse_turn] at h1
  have H1 := Lib.hid h1
  clear h1 hg
  go_enter Tryz.func5, Tryz.ntmps5
  go_wp2_with fail
  refine H1.out.mono ?_
  rintro e w1 ⟨v1, a1, rfl, _, hr1, _, _, b1⟩
  have B1 := Lib.hid b1
  clear hr1 b1
  unfold Av.cells
  go_upto_region 2 with fail
  obtain ⟨w2, hw2⟩ : ∃ w2, w1.alloc (.cells #[.int .i64 v1.k, .int .i64 v1.a, .int .i64 v1.b, .string v1.nm, .string v1.mt, .slice v1.A v1.n v1.c, .slice v1.A2 v1.n2 v1.c2] 25) = w2 := ⟨_, rfl⟩
  have B2 := Lib.hid (hw2 ▸ B1.out.alloc B1.out.size _ : Below w.heap.size w w2)
  rw [hw2]
  clear hw2
  have h2 := parseAct8 ⟨#[116, 105, 99, 107, 32, 32, 49]⟩ w2 (HG.out.below B2.out) (by decide)
  unfold ParsePost at h2
  simp only [parse_tick] at h2
  have H2 := Lib.hid h2
  clear h2
  go_wp2_with fail
  refine H2.out.mono ?_
  rintro e w3 ⟨v2, a2, rfl, _, hr2, _, _, b3⟩
  have B3 := Lib.hid (B2.out.trans (b3.mono B2.out.size))
  clear hr2 b3
  unfold Av.cells
  go_upto_region 3 with fail
  obtain ⟨w4, hw4⟩ : ∃ w4, w3.alloc (.cells #[.int .i64 v2.k, .int .i64 v2.a, .int .i64 v2.b, .string v2.nm, .string v2.mt, .slice v2.A v2.n v2.c, .slice v2.A2 v2.n2 v2.c2] 25) = w4 := ⟨_, rfl⟩
  have B4 := Lib.hid (hw4 ▸ B3.out.alloc B3.out.size _ : Below w.heap.size w w4)
  rw [hw4]
  clear hw4
  have b5 := B4.out.alloc B4.out.size (.cells #[.int .i64 3, .int .i64 (-1)] 2)
  have hq5 := Blk.new w4 2 #[.int .i64 3, .int .i64 (-1)]
  have hr : Reads (w4.alloc (.cells #[.int .i64 3, .int .i64 (-1)] 2)) (w4.alloc (.cells #[.int .i64 3, .int .i64 (-1)] 2)).heap.size ⟨11, 2, 0, ⟨#[97]⟩, ⟨#[82, 105, 110, 103]⟩, some ⟨w4.heap.size, 0, none⟩, 2, 2, none, 0, 0⟩ dEx :=
    ⟨rfl, rfl, rfl, rfl, rfl, ⟨rfl, fun _ => ⟨w4.heap.size, 0, rfl, by simp, fun j v hv => by rw [Nat.zero_add, hq5.cell]; simpa [dEx] using hv⟩⟩, Ints.none _ _⟩
  have hf := fmtAct6 _ dEx _ hr (HG.out.below b5) (by show 2 ≤ 1000; decide) (by show 0 ≤ 1000; decide) (by show 1 ≤ 1000; decide) (by show 4 ≤ 1000; decide) wf_ex
  rw [fmt_ex] at hf
  unfold Av.cells at hf
  have HF := Lib.hid hf
  have B5 := Lib.hid b5
  clear b5 hq5 hr hf
  go_wp2_with fail
  refine HF.out.mono ?_
  rintro e w6 ⟨rfl, b6⟩
  have B6 := Lib.hid (B5.out.trans (b6.mono B5.out.size))
  clear b6
  go_wp2_with fail
  go_ret
  exact ⟨rfl, B6.out⟩
end Go.Proofs.YtoejjboanggenaaGreatDoor
