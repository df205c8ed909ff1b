/-
ScriptParsesActs returns true for every text.
-/
import Derived.Test.YtoejjboanggenaaGreatDoorAW
import Derived.Test.YtoejjboanggenaaGreatDoorZ
import Derived.Test.YtoejjboanggenaaGreatDoorV3
import Derived.Test.YtoejjboanggenaaGreatDoorB2
import Derived.Test.YtoejjboanggenaaGreatDoorRC
import Derived.Test.YtoejjboanggenaaGreatDoorL1
import Derived.Test.YtoejjboanggenaaGreatDoorCards
import Derived.Test.YtoejjboanggenaaGreatDoorTie
import Derived.SevenTiedAt
namespace Go.Proofs.YtoejjboanggenaaGreatDoor
open Go.ChangeShapes Go.WideShapes Go.ChangeAt Go.RowKit
set_option linter.unusedVariables false
set_option linter.unusedSimpArgs false

section
open Go.RowKit
theorem sameAct_refl (d : Ad) : sameActB d d = true := by
  unfold sameActB
  simp
theorem both_read {s : ByteArray} {a : Ad} {code : Int} (h : (code = 0 ∧ validB a = true ∧ fmtL a = s.data.toList) ∨ (code = 3 ∧ a = zeroAd 0 ∧ ∀ d, validB d = true → fmtL d = s.data.toList → False)) :
    (if (parseW (wordsOf s)).isSome then (0 : Int) else 3) = code ∧ (parseW (wordsOf s)).getD (zeroAd 0) = a := by
  rcases h with ⟨rfl, hv, hf⟩ | ⟨rfl, rfl, hno⟩
  · have e : (⟨(fmtL a).toArray⟩ : ByteArray) = s := Go.WideShapes.bytes_inj (by simpa using hf)
    have h := parse_fmt a (valid_wf hv).1 hv
    rw [e] at h
    rw [h]
    exact ⟨rfl, rfl⟩
  · cases h : parseW (wordsOf s) with
    | none => exact ⟨rfl, rfl⟩
    | some d =>
      obtain ⟨h1, h2⟩ := parse_is h
      exact (hno d h1 h2).elim
set_option maxRecDepth 100000 in
set_option maxHeartbeats 16000000 in
theorem walk4 (s : ByteArray) (w : World) (hg : Gl w) : Calls Tryz.prog 4 #[.string s] w fun e w' => e = .returned (.bool true) ∧ Below w.heap.size w w' := by
  have HG := Lib.hid hg
  clear hg
  by_cases h3 : 300 < s.size
  · have g3 : decide ((300 : Int) < (s.size : Int)) = true := decide_eq_true (by omega)
    go_enter Tryz.func4, Tryz.ntmps4
    go_wp2_with fail
    refine (awake5 _ HG.out).mono ?_
    rintro e wa ⟨rfl, ba⟩
    have BA := Lib.hid ba
    clear ba
    go_wp2_with fail
    go_ret
    exact ⟨rfl, BA.out⟩
  · have g3 : decide ((300 : Int) < (s.size : Int)) = false := decide_eq_false (by omega)
    have H8 := Lib.hid (parseAct8 s w HG.out (by omega))
    have hs : s.size ≤ 100000 := by omega
    clear h3
    go_enter Tryz.func4, Tryz.ntmps4
    go_wp2_with fail
    refine H8.out.mono ?_
    rintro e w1 ⟨v, d, rfl, hd, hr, hn, hn2, b1⟩
    have B1 := Lib.hid b1
    have HR1 := Lib.hid hr
    have HD := Lib.hid hd
    clear hd hr b1 H8
    unfold Av.cells
    obtain ⟨ec, hec⟩ : ∃ ec : Int, (if (parseW (wordsOf s)).isSome = true then 0 else 3) = ec := ⟨_, rfl⟩
    rw [hec]
    have HEC := Lib.hid hec
    clear hec
    go_upto_region 4 with fail
    obtain ⟨w2, hw2⟩ : ∃ w2, w1.alloc (.cells #[.int .i64 v.k, .int .i64 v.a, .int .i64 v.b, .string v.nm, .string v.mt, .slice v.A v.n v.c, .slice v.A2 v.n2 v.c2] 25) = w2 := ⟨_, rfl⟩
    have b2 : Below w1.heap.size w1 w2 := hw2 ▸ (Below.refl _ _).alloc (Nat.le_refl _) _
    have hq2 := hw2 ▸ Blk.new w1 25 #[.int .i64 v.k, .int .i64 v.a, .int .i64 v.b, .string v.nm, .string v.mt, .slice v.A v.n v.c, .slice v.A2 v.n2 v.c2]
    have B2 := Lib.hid (B1.out.trans (b2.mono B1.out.size))
    have HR2 := Lib.hid ((HR1.out.below b2).more b2.size)
    have hL := Blk.lt hq2
    have QL2 := Lib.hid hq2
    rw [hw2]
    obtain ⟨L, hLL⟩ : ∃ L, w1.heap.size = L := ⟨_, rfl⟩
    rw [hLL] at QL2 hL ⊢
    have H11 := Lib.hid (ref11 s w2 hs)
    clear hw2 b2 hq2 HR1 B1 hLL
    go_wp2_with fail
    refine H11.out.mono ?_
    rintro e w3 ⟨v2, a, code, rfl, hr2, hm, hm2, b3, hcase⟩
    obtain ⟨hc1, hc2⟩ := both_read hcase
    rw [HEC.out] at hc1
    rw [← HD.out] at hc2
    subst hc1 hc2
    have B3 := Lib.hid (B2.out.trans (b3.mono B2.out.size))
    have QL3 := Lib.hid (QL2.out.below b3 hL)
    have HR3 := Lib.hid ((HR2.out.below b3).more b3.size)
    have HS3 := Lib.hid hr2
    clear b3 hr2 hcase QL2 HR2 B2 H11
    unfold Av.cells
    go_upto_region 5 with fail
    obtain ⟨w4, hw4⟩ : ∃ w4, w3.alloc (.cells #[.int .i64 v2.k, .int .i64 v2.a, .int .i64 v2.b, .string v2.nm, .string v2.mt, .slice v2.A v2.n v2.c, .slice v2.A2 v2.n2 v2.c2] 25) = w4 := ⟨_, rfl⟩
    have b4 : Below w3.heap.size w3 w4 := hw4 ▸ (Below.refl _ _).alloc (Nat.le_refl _) _
    have hq4 := hw4 ▸ Blk.new w3 25 #[.int .i64 v2.k, .int .i64 v2.a, .int .i64 v2.b, .string v2.nm, .string v2.mt, .slice v2.A v2.n v2.c, .slice v2.A2 v2.n2 v2.c2]
    have B4 := Lib.hid (B3.out.trans (b4.mono B3.out.size))
    have QL4 := Lib.hid (QL3.out.below b4 QL3.out.lt)
    have HR4 := Lib.hid ((HR3.out.below b4).more b4.size)
    have HS4 := Lib.hid ((HS3.out.below b4).more b4.size)
    have QM4 := Lib.hid hq4
    rw [hw4]
    obtain ⟨M, hMM⟩ : ∃ M, w3.heap.size = M := ⟨_, rfl⟩
    rw [hMM] at QM4 ⊢
    have H10 := Lib.hid (sameAct10 v v2 d d w4.heap.size w4 HR4.out HS4.out (Nat.le_refl _) hn hn2 hm hm2)
    rw [sameAct_refl] at H10
    clear hw4 b4 hq4 QL3 HR3 HS3 B3 hMM
    have c0 : w4.cell? ⟨L, 0, none⟩ = some (.int .i64 v.k) := QL4.out.cell 0
    have c1 : w4.cell? ⟨L, 1, none⟩ = some (.int .i64 v.a) := QL4.out.cell 1
    have c2 : w4.cell? ⟨L, 2, none⟩ = some (.int .i64 v.b) := QL4.out.cell 2
    have c3 : w4.cell? ⟨L, 3, none⟩ = some (.string v.nm) := QL4.out.cell 3
    have c4 : w4.cell? ⟨L, 4, none⟩ = some (.string v.mt) := QL4.out.cell 4
    have c5 : w4.cell? ⟨L, 5, none⟩ = some (.slice v.A v.n v.c) := QL4.out.cell 5
    have c6 : w4.cell? ⟨L, 6, none⟩ = some (.slice v.A2 v.n2 v.c2) := QL4.out.cell 6
    have m0 : w4.cell? ⟨M, 0, none⟩ = some (.int .i64 v2.k) := QM4.out.cell 0
    have m1 : w4.cell? ⟨M, 1, none⟩ = some (.int .i64 v2.a) := QM4.out.cell 1
    have m2 : w4.cell? ⟨M, 2, none⟩ = some (.int .i64 v2.b) := QM4.out.cell 2
    have m3 : w4.cell? ⟨M, 3, none⟩ = some (.string v2.nm) := QM4.out.cell 3
    have m4 : w4.cell? ⟨M, 4, none⟩ = some (.string v2.mt) := QM4.out.cell 4
    have m5 : w4.cell? ⟨M, 5, none⟩ = some (.slice v2.A v2.n v2.c) := QM4.out.cell 5
    have m6 : w4.cell? ⟨M, 6, none⟩ = some (.slice v2.A2 v2.n2 v2.c2) := QM4.out.cell 6
    have hee : (ec == ec) = true := beq_self_eq_true _
    go_wp2_with fail
    refine H10.out.mono ?_
    rintro e w5 ⟨rfl, b5⟩
    have B5 := Lib.hid (B4.out.trans (b5.mono B4.out.size))
    clear b5 c0 c1 c2 c3 c4 c5 c6 m0 m1 m2 m3 m4 m5 m6 H10
    go_wp2_with fail
    refine (awake5 _ (HG.out.below B5.out)).mono ?_
    rintro e wa ⟨rfl, ba⟩
    have BA := Lib.hid (B5.out.trans (ba.mono B5.out.size))
    clear ba
    go_wp2_with fail
    go_ret
    exact ⟨rfl, BA.out⟩
end

set_option maxRecDepth 100000 in
theorem lifted4 (os : Os) (started : os.Started) (H : Type) (enc : TypeId × Value → H) :
    ReturnsInHanded {} Tryz.checked os 4 .any (fun w args => (Rows.scriptParsesActsSpec.pre enc Tryz.prog Tryz.f4 [] false w args ∧ laidMetH Tryz.prog listed w) ∧ sizedMet enc Tryz.prog Tryz.f4 (OpenSpec.ofChange Rows.scriptParsesActsSpec) false w args)
      (Rows.scriptParsesActsSpec.post enc Tryz.prog Tryz.f4 false true false false) := by
  refine handed_laid (C := Tryz.checked) (X := fun w _ => laidMetH Tryz.prog listed w) (fun _ _ _ hh h => h.of_heap hh) own_ started (by kernel_rfl) Tryz.func4
    (ChangeSpec.witness_shaped (enc := enc) (C := Tryz.checked) (os := os) (X := fun w _ => laidMetH Tryz.prog listed w) false (World.laidAll Tryz.prog os listed) #[.string ⟨#[]⟩] 8 (World.laidAll_os _ _ _)
      (World.shaped_of_ZipB (by kernel_rfl) (by kernel_rfl)) (by kernel_rfl) (by kernel_rfl) (by kernel_rfl)
      (by rw [MakeChecks.laidMetH_plain _ _ _ (by kernel_rfl)]; exact laidMet_laidAll _ (by kernel_rfl) (by kernel_rfl))) ?_
  intro W base args ds gs before hval0 hW hL hsh
  have hval : ∀ (j : Nat) t v, Tryz.f4.params[j]? = some t → args[j]? = some v → Value.okWide Tryz.prog W .any base t v := hval0
  have hW' := hW
  obtain ⟨p, q, hA0, hV, rfl, hfz, hnd⟩ := hW
  have hA : DataW.TrodAll enc Tryz.prog W 0 (fun _ => true) true Tryz.f4.params.toList args.toList ds p := hA0
  rw [Tryz.params4] at hA hval
  obtain ⟨v0, vs0, d0, ds0, p0, q0, hargs, rfl, rfl, h0, r0⟩ := trodAll_cons hA
  obtain ⟨rfl, rfl, rfl⟩ := trodAll_nil r0
  obtain rfl : args = #[v0] := by cases args; simp_all
  obtain ⟨rfl, rfl⟩ := trodVars_none hV
  have k0 := h0
  have lt0 : ∀ x ∈ p0, x.block < W.heap.size := by obtain ⟨m, hm⟩ := k0; exact DataW.trod_lt m _ _ _ hm
  obtain ⟨s, rfl⟩ := okWide_string Tryz.underlying9 (hval 0 9 v0 rfl rfl)
  clear hA0 hval0
  refine (walk4 s W (gl_of hL hsh)).mono fun e W' ⟨he, bel⟩ => ?_
  subst he
  exact ⟨_, rfl, _, _, _, [], _, [], hW', trodAll_mk1 (shut_bool Tryz.underlying4 _), (trodAll_cons_mk (Below.trod laidOut_ (by kernel_rfl) (of_decide_eq_true (by kernel_rfl)) k0 bel lt0) trodAll_mk0), rfl, bel.frame _, fun h => by cases h⟩
theorem scriptParsesActs_holds : Rows.ScriptParsesActsSaid :=
  OpenClaim.holds_of_wide 4 Tryz.f4 rfl rfl rfl rfl rfl rfl rfl ⟨rfl, rfl, rfl, rfl, rfl⟩ rfl rfl rfl rfl rfl (by kernel_rfl) Tryz.func4 (by kernel_rfl)
    (of_decide_eq_true (by kernel_rfl)) (by unfold Func.isWrapper; first | (rw [if_pos (by decide +kernel)]; kernel_rfl) | (rw [if_neg (by decide +kernel)]; exact ⟨rfl, rfl⟩))
    (fun os started H enc _ => lifted4 os started H enc)
theorem scriptParsesActs_card : Rows.ScriptParsesActsCardSaid :=
  Claim7.holds_tied_plain_at .later [] [.data, .data, .data, .data, .sentinel, .sentinel, .widerDeep, .widerDeep, .pinned] true (true, "5765bb355efc68fb7ff57ceaf2d5ed8233ca838d0bedd69f5be3cb67ebb196cc") true
    scriptParsesActs_holds (fun _ h => by cases h) (by kernel_rfl) (fun _ h => by cases h) scriptParsesActs_row_tie rfl ⟨rfl, rfl⟩ (by kernel_rfl) rfl
    (fun f fn hf hfn => by
      obtain rfl : f = 4 := Option.some.inj ((show Tryz.prog.funcNamed "refmesh/refmeshlaw56.ScriptParsesActs" = some 4 by kernel_rfl).symm.trans hf) |>.symm
      obtain rfl : fn = Tryz.f4 := (Option.some.inj (Tryz.func4.symm.trans hfn)).symm
      exact ⟨by kernel_rfl, fun j t ht => by
        rw [Tryz.params4] at ht
        have hm : t ∈ [9] := by simpa using Array.mem_of_getElem? ht
        have hall : ([9].all fun u => !Tryz.prog.wantsStandIn u) = true := by kernel_rfl
        exact (show Tryz.prog.wantsStandIn t = false by simpa using List.all_eq_true.1 hall t hm)⟩)
    (by kernel_rfl)
end Go.Proofs.YtoejjboanggenaaGreatDoor
