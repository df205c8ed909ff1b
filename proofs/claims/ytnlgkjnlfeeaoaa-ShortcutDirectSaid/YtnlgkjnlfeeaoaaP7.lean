/-
ShortcutDirect returns true for every input, and the input reads as it did.
-/
import Derived.Test.YtnlgkjnlfeeaoaaOpenX
import Derived.WalkKit
import Derived.ProofKit
import Derived.OpenShut
import Derived.ShutString
import Derived.ChangeOld
import Derived.Below
import Derived.Lib.Hide
import Derived.Deep.RegionHeld3
import Derived.Deep.DeepCutAuto
import Derived.Deep.RegionWith
namespace Go.Proofs.Ytnlgkjnlfeeaoaa
open Go.ChangeShapes Go.WideShapes Go.ChangeAt Go.RowKit
set_option linter.unusedVariables false

set_option maxHeartbeats 1000000 in
theorem walk7 (A : Option Addr) (n cp : Nat) (es : List Ent) (r : Rf) (w : World) (he : Ents w w.heap.size A n es) (hn : n ≤ maxLen) :
    Calls Try.prog 7 #[.slice A n cp, .agg #[.int .i64 r.k, .int .i64 r.i, .int .i64 r.o, .int .u64 r.n, .int .i64 r.m, .int .i64 r.s, .int .i64 r.c, .bool r.w]] w fun e w' => e = .returned (.bool true) ∧ Below w.heap.size w w' := by
  unfold maxLen at hn
  by_cases h20 : n ≤ 20
  · have h20' : decide ((20 : Int) < (n : Int)) = false := by simp; omega
    have hq1 := eql31
    have hq2 := eql32
    have hq3 := neq31
    have hq4 := neq32
    go_enter Try.func7, Try.ntmps7
    go_wp2_with (go_at_call 10; refine (awake10 _).mono ?_; rintro v w1 ⟨rfl, hb⟩)
    have hbx := (Blk.new w 39 #[.int .i64 r.k, .int .i64 r.i, .int .i64 r.o, .int .u64 r.n, .int .i64 r.m, .int .i64 r.s, .int .i64 r.c, .bool r.w]).below hb (by simp)
    have hb1 : Below w.heap.size w w1 := ((Below.refl _ _).alloc (Nat.le_refl _) _).trans (hb.mono (by simp))
    have hz : w.heap.size < w1.heap.size := hbx.lt
    have hkb2 := hbx
    have hkc2 := hb1
    clear hb
    go_region_held3 (fun W => Blk W w.heap.size 39 #[.int .i64 r.k, .int .i64 r.i, .int .i64 r.o, .int .u64 r.n, .int .i64 r.m, .int .i64 r.s, .int .i64 r.c, .bool r.w] ∧ Below w.heap.size w W ∧ W.cell? ⟨w.heap.size, 0, none⟩ = some (.int .i64 r.k) ∧ W.cell? ⟨w.heap.size, 1, none⟩ = some (.int .i64 r.i) ∧ W.cell? ⟨w.heap.size, 2, none⟩ = some (.int .i64 r.o) ∧ W.cell? ⟨w.heap.size, 3, none⟩ = some (.int .u64 r.n) ∧
        W.cell? ⟨w.heap.size, 4, none⟩ = some (.int .i64 r.m) ∧ W.cell? ⟨w.heap.size, 5, none⟩ = some (.int .i64 r.s) ∧ W.cell? ⟨w.heap.size, 6, none⟩ = some (.int .i64 r.c) ∧ W.cell? ⟨w.heap.size, 7, none⟩ = some (.bool r.w)) (first
      | exact ⟨hkb2, hkc2, hkb2.cell 0, hkb2.cell 1, hkb2.cell 2, hkb2.cell 3, hkb2.cell 4, hkb2.cell 5, hkb2.cell 6, hkb2.cell 7⟩
      | exact ⟨hkb2, hkc2.drew, hkb2.cell 0, hkb2.cell 1, hkb2.cell 2, hkb2.cell 3, hkb2.cell 4, hkb2.cell 5, hkb2.cell 6, hkb2.cell 7⟩)
      (first
      | (go_at_call 17; obtain ⟨hkb, hkc, _⟩ : Blk _ w.heap.size 39 _ ∧ Below w.heap.size w _ ∧ _ := by assumption
         refine (direct17 _ _ _ es r _ ((he.below hkc).more hkc.size) (by omega)).mono ?_
         rintro v w2 ⟨rfl, hb2⟩
         have hkb2 := hkb.below hb2 hkb.lt
         have hkc2 := hkc.trans (hb2.mono hkc.size))
      | (go_at_call 18; obtain ⟨hkb, hkc, _⟩ : Blk _ w.heap.size 39 _ ∧ Below w.heap.size w _ ∧ _ := by assumption
         refine (direct18 _ _ _ es r _ ((he.below hkc).more hkc.size) (by omega)).mono ?_
         rintro v w2 ⟨rfl, hb2⟩
         have hkb2 := hkb.below hb2 hkb.lt
         have hkc2 := hkc.trans (hb2.mono hkc.size)))
    go_wp2_with fail
    go_ret
    exact ⟨ret_bool (by simp), hkc2⟩
  · have h20' : decide ((20 : Int) < (n : Int)) = true := by simp; omega
    have hq1 := eql31
    have hq2 := eql32
    have hq3 := neq31
    have hq4 := neq32
    go_enter Try.func7, Try.ntmps7
    go_wp2_with fail
    refine (awake10 _).mono ?_
    rintro v w1 ⟨rfl, hb⟩
    go_wp2_with fail
    refine (awake10 _).mono ?_
    rintro v w2 ⟨rfl, hb2⟩
    go_wp2_with fail
    go_ret
    have hb1 : Below w.heap.size w w1 := ((Below.refl _ _).alloc (Nat.le_refl _) _).trans (hb.mono (by simp))
    exact ⟨rfl, hb1.trans (hb2.mono hb1.size)⟩
set_option maxRecDepth 100000 in
theorem lifted7 (os : Os) (started : os.Started) (H : Type) (enc : TypeId × Value → H) :
    ReturnsInHanded {} Try.checked os 7 .any (Rows.shortcutDirectSpec.pre6 enc Try.prog Try.f7 Rows.shortcutDirectRow.domain false) (Rows.shortcutDirectSpec.post enc Try.prog Try.f7 false true false false) := by
  refine returnsInHanded_of_change (C := Try.checked) own_ started (by kernel_rfl) Try.func7
    (ChangeSpec.witness6 (enc := enc) (C := Try.checked) false ⟨#[], #[.slice none 0 0, .agg #[.int .i64 0, .int .i64 0, .int .i64 0, .int .u64 0, .int .i64 0, .int .i64 0, .int .i64 0, .bool false]], []⟩ 8 (by kernel_rfl) (by kernel_rfl) (by kernel_rfl) (by kernel_rfl)) ?_
  intro W base args ds gs before hval0 hW hcnd _
  have hval : ∀ (j : Nat) t v, Try.f7.params[j]? = some t → args[j]? = some v → Value.okWide Try.prog W .any base t v := hval0
  have hW' := hW
  obtain ⟨p, q, hA0, hV, rfl, hfz, hnd⟩ := hW
  have hA : DataW.TrodAll enc Try.prog W 0 (fun _ => true) true Try.f7.params.toList args.toList ds p := hA0
  rw [Try.params7] at hA hval
  obtain ⟨v0, vs0, d0, ds0, p0, q0, hargs, rfl, rfl, h0, r0⟩ := trodAll_cons hA
  obtain ⟨v1, vs1, d1, ds1, p1, q1, rfl, rfl, rfl, h1, r1⟩ := trodAll_cons r0
  obtain ⟨rfl, rfl, rfl⟩ := trodAll_nil r1
  obtain rfl : args = #[v0, v1] := by cases args; simp_all
  obtain ⟨rfl, rfl⟩ := trodVars_none hV
  have k0 := h0
  have lt0 : ∀ x ∈ p0, x.block < W.heap.size := by obtain ⟨m, hm⟩ := k0; exact DataW.trod_lt m _ _ _ hm
  obtain ⟨A0, n0, cp0, rfl⟩ := okWide_slice Try.underlying23 (hval 0 23 v0 rfl rfl)
  obtain ⟨hn0, hcp0, es0, he0⟩ : n0 ≤ maxLen ∧ n0 ≤ cp0 ∧ ∃ es, Ents W W.heap.size A0 n0 es := by
    obtain ⟨fuel, hf⟩ := h0
    exact ents_of_trod Try.underlying23 leaves36 (by kernel_rfl) hf
  have k1 := h1
  have lt1 : ∀ x ∈ p1, x.block < W.heap.size := by obtain ⟨m, hm⟩ := k1; exact DataW.trod_lt m _ _ _ hm
  obtain ⟨z1, rfl⟩ : ∃ x : Rf, v1 = .agg #[.int .i64 x.k, .int .i64 x.i, .int .i64 x.o, .int .u64 x.n, .int .i64 x.m, .int .i64 x.s, .int .i64 x.c, .bool x.w] := by
    obtain ⟨cs, rfl, hsz⟩ := okWide_struct Try.underlying39 (hval 1 39 v1 rfl rfl)
    obtain ⟨fuel, hf⟩ := h1
    obtain ⟨x, hx⟩ := rf_of_leaves (trod_leaves 5 39 _ _ _ _ leaves39 hf)
    exact ⟨x, by rw [show cs = cs.toList.toArray from rfl]; exact congrArg (fun l : List Value => Value.agg l.toArray) (by simpa [Value.cells, Ent.enc] using hx)⟩
  clear hA0 hval0
  refine (walk7 A0 n0 cp0 es0 z1 W he0 hn0).mono fun e W' ⟨he, bel⟩ => ?_
  subst he
  exact ⟨_, rfl, _, _, _, [], _, [], hW', trodAll_mk1 (shut_bool Try.underlying4 _), (trodAll_cons_mk (Below.trod laidOut_ (by kernel_rfl) (of_decide_eq_true (by kernel_rfl)) k0 bel lt0) (trodAll_cons_mk (Below.trod laidOut_ (by kernel_rfl) (of_decide_eq_true (by kernel_rfl)) k1 bel lt1) trodAll_mk0)), rfl, bel.frame _, fun h => by cases h⟩

theorem shortcutDirect_holds : Rows.ShortcutDirectSaid :=
  OpenClaim.holds_of_wide 7 Try.f7 rfl rfl rfl rfl rfl rfl rfl ⟨rfl, rfl, rfl, rfl, rfl⟩ rfl rfl rfl rfl rfl (by kernel_rfl) Try.func7 (by kernel_rfl)
    (of_decide_eq_true (by kernel_rfl)) (by unfold Func.isWrapper; first | (rw [if_pos (by decide +kernel)]; kernel_rfl) | (rw [if_neg (by decide +kernel)]; exact ⟨rfl, rfl⟩))
    (fun os started H enc _ => lifted7 os started H enc)

end Go.Proofs.Ytnlgkjnlfeeaoaa
