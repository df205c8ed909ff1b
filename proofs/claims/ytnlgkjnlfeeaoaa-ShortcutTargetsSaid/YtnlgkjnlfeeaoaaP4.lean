/-
ShortcutTargets returns true for every input, and the input reads as it did.
-/
import Derived.Test.YtnlgkjnlfeeaoaaM1
import Derived.Test.YtnlgkjnlfeeaoaaOpenX
import Derived.WalkKit
import Derived.ProofKit
import Derived.OpenShut
import Derived.ShutString
import Derived.ChangeOld
import Derived.Below
import Derived.Lib.Hide
import Derived.Deep.RegionHeld3
import Derived.Deep.DeepCutAuto
import Derived.Deep.RegionWith
import Derived.Deep.MidRow
namespace Go.Proofs.Ytnlgkjnlfeeaoaa
open Go.ChangeShapes Go.WideShapes Go.ChangeAt Go.RowKit
set_option linter.unusedVariables false

set_option maxHeartbeats 2000000 in
theorem walk4_few (A : Option Addr) (n cp : Nat) (es : List Ent) (A2 : Option Addr) (n2 cp2 : Nat) (ss : List Ent) (w : World) (he : Ents w w.heap.size A n es) (he2 : Ents w w.heap.size A2 n2 ss) (hn : n ≤ 20) (hn2 : n2 ≤ 20) :
    Calls Try.prog 4 #[.slice A n cp, .slice A2 n2 cp2] w fun v w' => v = .returned (.bool true) ∧ Below w.heap.size w w' := by
  have hd : decide (n ≤ 20 ∧ n2 ≤ 20) = true := by simpa using And.intro hn hn2
  have hq1 := eql31
  have hq2 := eql32
  have hq3 := neq31
  have hq4 := neq32
  go_enter Try.func4, Try.ntmps4
  go_wp2_with fail
  refine (awake10 _).mono ?_
  rintro v w1 ⟨rfl, hb1⟩
  go_wp2_with fail
  refine (few11 _ _ _ _ _ _ _ (by omega) (by omega)).mono ?_
  rintro v w1' ⟨rfl, rfl⟩
  rw [hd]
  go_wp2_with fail
  refine (targets16 _ _ _ _ _ _ es ss _ (by omega) (by omega) ((he.below hb1).more hb1.size) ((he2.below hb1).more hb1.size)).mono ?_
  rintro v w2 ⟨v, rfl, hown, hb2⟩
  obtain ⟨At, ct, rfl⟩ := slice_of_own hown
  have hbb2 := hb1.trans (hb2.mono hb1.size)
  go_wp2_with fail
  refine (chosen13 _ _ _ _ _ _ es ss _ ((he.below hbb2).more hbb2.size) ((he2.below hbb2).more hbb2.size) (by omega) (by omega)).mono ?_
  rintro v w3 ⟨Ac, cc, rfl, hch, hb3⟩
  have hown3 := own_below hown hb3
  have hbb3 := hbb2.trans (hb3.mono hbb2.size)
  clear hown hb2 hbb2 hb3 hb1
  go_wp2_with fail
  refine (wanted12 _ _ _ _ _ _ es ss _ (by omega) (by omega) ((he.below hbb3).more hbb3.size) ((he2.below hbb3).more hbb3.size)).mono ?_
  rintro v w4 ⟨v, rfl, hown4, hb4⟩
  obtain ⟨Aw, cw, rfl⟩ := slice_of_own hown4
  have hownT := own_below hown3 hb4
  have hchT := hch.below hb4
  have hbb4 := hbb3.trans (hb4.mono hbb3.size)
  have hs4 := (he2.below hbb4).more hbb4.size
  have hle := chosen_le ss es []
  rw [show es.foldl (chosenStep ss) [] = chosen es ss from rfl, he.1] at hle
  simp only [List.length_nil, Nat.zero_add] at hle
  have hcsz := hb4.size
  clear hown3 hown4 hch hb4 hbb3
  have hspot : ∀ k x, (chosen es ss)[k]? = some x → ∃ (j : Nat) (e : Ent), spot x ss = (j : Int) ∧ ss[j]? = some e ∧ stubAt ss x = e ∧ may x e = true := fun k x h => chosen_spot h
  have HS := Lib.hid hspot
  clear hspot
  generalize chosen es ss = ch at *
  go_wp2_with fail
  go_loopw [40] (fun i wr => ∃ k : Nat, k ≤ ch.length ∧ i = .int .i64 k ∧ Below w4.heap.size w4 wr) (fun i _ => ch.length - (intOf i).toNat)
  case atStart => exact ⟨0, Nat.zero_le _, rfl, Below.refl _ _⟩
  case round =>
    obtain ⟨k, hk, rfl, hbr⟩ := hrel
    by_cases hlt : k < ch.length
    · have hk0 : 0 ≤ (k : Int) := by omega
      have hk1 : (k : Int) < ch.length := by omega
      obtain ⟨b, off, x, rfl, hb2, hx, c0, c1, c2, c3, c4, c5, c6, c7, c8, c9, c10, c11⟩ := (hchT.below (hbr.mono hcsz)).cells hlt
      obtain ⟨j, e, hj, hje, hst, _⟩ := HS.out k x hx
      obtain ⟨g, capt, hAt⟩ : ∃ g cap, Value.slice At ch.length ct = .slice (some ⟨g, 0, none⟩) ch.length cap := by
        rcases hownT.2 with ⟨_, h0⟩ | ⟨g, cap, _, h1, _⟩
        · omega
        · exact ⟨g, cap, h1⟩
      simp only [Value.slice.injEq, true_and] at hAt
      obtain ⟨rfl, rfl⟩ := hAt
      have hownR := own_below hownT hbr
      have ht : wr.cell? ⟨g, k, none⟩ = some (.int .i64 e.a) := by
        rw [hownR.cellAt k (by omega), get_encT _ _ _ _ hx, hst]
      have hgl := (hownR.lt g rfl).2
      have hsr := (hs4.below hbr).more hbr.size
      have hjl : j < n2 := by rw [← he2.1]; exact (List.getElem?_eq_some_iff.1 hje).1
      obtain ⟨bs, os, e', rfl, hbs, hje', d0, _⟩ := hsr.cells hjl
      have hee : e' = e := by rw [hje] at hje'; simpa using hje'.symm
      subst hee
      have hj0 : 0 ≤ (j : Int) := by omega
      have hj1 : (j : Int) < n2 := by omega
      have HJ := Lib.hid hj
      have HX := Lib.hid hx
      clear hx hj hje hje' hst hownT hownR
      go_wp2_with fail
      have hb0 := (Blk.new wr 34 #[.int .i64 x.a, .int .u64 x.n, .int .i64 x.m, .int .i64 x.s, .int .i64 x.x, .int .i64 x.y, .int .i64 x.d, .bool x.t, .bool x.w, .bool x.g, .int .i64 x.p, .int .i64 x.q])
      have e2 : (wr.alloc (.cells #[.int .i64 x.a, .int .u64 x.n, .int .i64 x.m, .int .i64 x.s, .int .i64 x.x, .int .i64 x.y, .int .i64 x.d, .bool x.t, .bool x.w, .bool x.g, .int .i64 x.p, .int .i64 x.q] 34)).cell? ⟨wr.heap.size, 2, none⟩ = some (.int .i64 x.m) := hb0.cell 2
      have e3 : (wr.alloc (.cells #[.int .i64 x.a, .int .u64 x.n, .int .i64 x.m, .int .i64 x.s, .int .i64 x.x, .int .i64 x.y, .int .i64 x.d, .bool x.t, .bool x.w, .bool x.g, .int .i64 x.p, .int .i64 x.q] 34)).cell? ⟨wr.heap.size, 3, none⟩ = some (.int .i64 x.s) := hb0.cell 3
      have kS : ∀ W, Below (wr.heap.size + 1) (wr.alloc (.cells #[.int .i64 x.a, .int .u64 x.n, .int .i64 x.m, .int .i64 x.s, .int .i64 x.x, .int .i64 x.y, .int .i64 x.d, .bool x.t, .bool x.w, .bool x.g, .int .i64 x.p, .int .i64 x.q] 34)) W → (Below (wr.heap.size + 1) (wr.alloc (.cells #[.int .i64 x.a, .int .u64 x.n, .int .i64 x.m, .int .i64 x.s, .int .i64 x.x, .int .i64 x.y, .int .i64 x.d, .bool x.t, .bool x.w, .bool x.g, .int .i64 x.p, .int .i64 x.q] 34)) W ∧ W.cell? ⟨g, k, none⟩ = some (.int .i64 e'.a) ∧ W.cell? ⟨wr.heap.size, 2, none⟩ = some (.int .i64 x.m) ∧ W.cell? ⟨wr.heap.size, 3, none⟩ = some (.int .i64 x.s) ∧ W.cell? ⟨bs, os + j * 12, none⟩ = some (.int .i64 e'.a)) :=
        fun W h => ⟨h, (cells_below h (by omega) _).trans ((cells_below ((Below.refl _ _).alloc (Nat.le_refl _) _) hgl _).trans ht), (cells_below h (by omega) _).trans e2, (cells_below h (by omega) _).trans e3, (cells_below h (by omega) _).trans ((cells_below ((Below.refl _ _).alloc (Nat.le_refl _) _) hbs _).trans d0)⟩
      have KS := Lib.hid kS
      have hkk := Below.refl (wr.heap.size + 1) (wr.alloc (.cells #[.int .i64 x.a, .int .u64 x.n, .int .i64 x.m, .int .i64 x.s, .int .i64 x.x, .int .i64 x.y, .int .i64 x.d, .bool x.t, .bool x.w, .bool x.g, .int .i64 x.p, .int .i64 x.q] 34))
      have hss : ∀ o, Ents (wr.alloc o) (wr.heap.size + 1) (some ⟨bs, os, none⟩) n2 ss := fun o => (hsr.below ((Below.refl _ _).alloc (Nat.le_refl _) _)).more (by omega)
      have HSS := Lib.hid hss
      clear kS hss hb0 hsr
      go_region_held3 (fun W => Below (wr.heap.size + 1) (wr.alloc (.cells #[.int .i64 x.a, .int .u64 x.n, .int .i64 x.m, .int .i64 x.s, .int .i64 x.x, .int .i64 x.y, .int .i64 x.d, .bool x.t, .bool x.w, .bool x.g, .int .i64 x.p, .int .i64 x.q] 34)) W ∧ W.cell? ⟨g, k, none⟩ = some (.int .i64 e'.a) ∧ W.cell? ⟨wr.heap.size, 2, none⟩ = some (.int .i64 x.m) ∧ W.cell? ⟨wr.heap.size, 3, none⟩ = some (.int .i64 x.s) ∧ W.cell? ⟨bs, os + j * 12, none⟩ = some (.int .i64 e'.a)) ((refine KS.out _ ?_; first | exact hkk | exact hkk.drew))
        (first
        | (go_at_call 14
           obtain ⟨hkk3, _⟩ : Below (wr.heap.size + 1) (wr.alloc (.cells #[.int .i64 x.a, .int .u64 x.n, .int .i64 x.m, .int .i64 x.s, .int .i64 x.x, .int .i64 x.y, .int .i64 x.d, .bool x.t, .bool x.w, .bool x.g, .int .i64 x.p, .int .i64 x.q] 34)) _ ∧ _ := by assumption
           refine (stub14 _ _ _ ss x.m x.s _ (((HSS.out _).below hkk3).more (below_alloc_size hkk3)) (by omega)).mono ?_
           rintro v w5 ⟨rfl, hb5⟩
           have hkk := hkk3.trans (hb5.mono (below_alloc_size hkk3))
           rw [show idxFrom (fun e => idEq e.m e.s x.m x.s) ss 0 = spot x ss from rfl, HJ.out]))
      go_wp2_with fail
      go_roundw
      case rel => exact ⟨k + 1, by omega, by go_num, hbr.trans ((((Below.refl _ _).alloc (Nat.le_refl _) _).trans (hkk.mono (by omega))).mono hbr.size)⟩
      case measure => simp [intOf]; omega
    · go_wp2_with fail
      go_ret
      exact ⟨rfl, hbb4.trans (hbr.mono hbb4.size)⟩

set_option maxHeartbeats 1000000 in
theorem walk4_many (A : Option Addr) (n cp : Nat) (es : List Ent) (A2 : Option Addr) (n2 cp2 : Nat) (ss : List Ent) (w : World) (he : Ents w w.heap.size A n es) (hn : n ≤ maxLen) (he2 : Ents w w.heap.size A2 n2 ss) (hn2 : n2 ≤ maxLen) (hf : ¬ (n ≤ 20 ∧ n2 ≤ 20)) :
    Calls Try.prog 4 #[.slice A n cp, .slice A2 n2 cp2] w fun v w' => v = .returned (.bool true) ∧ Below w.heap.size w w' := by
  unfold maxLen at hn hn2
  have hd : decide (n ≤ 20 ∧ n2 ≤ 20) = false := by simpa using hf
  have hq1 := eql31
  have hq2 := eql32
  have hq3 := neq31
  have hq4 := neq32
  go_enter Try.func4, Try.ntmps4
  go_wp2_with fail
  refine (awake10 _).mono ?_
  rintro v w1 ⟨rfl, hb1⟩
  go_wp2_with fail
  refine (few11 _ _ _ _ _ _ _ (by omega) (by omega)).mono ?_
  rintro v w1' ⟨rfl, rfl⟩
  rw [hd]
  go_wp2_with fail
  refine (awake10 _).mono ?_
  rintro v w2 ⟨rfl, hb2⟩
  go_wp2_with fail
  go_ret
  exact ⟨rfl, hb1.trans (hb2.mono hb1.size)⟩
theorem walk4 (A : Option Addr) (n cp : Nat) (es : List Ent) (A2 : Option Addr) (n2 cp2 : Nat) (ss : List Ent) (w : World) (he : Ents w w.heap.size A n es) (hn : n ≤ maxLen) (he2 : Ents w w.heap.size A2 n2 ss) (hn2 : n2 ≤ maxLen) :
    Calls Try.prog 4 #[.slice A n cp, .slice A2 n2 cp2] w fun v w' => v = .returned (.bool true) ∧ Below w.heap.size w w' := by
  by_cases hf : n ≤ 20 ∧ n2 ≤ 20
  · exact walk4_few A n cp es A2 n2 cp2 ss w he he2 hf.1 hf.2
  · exact walk4_many A n cp es A2 n2 cp2 ss w he hn he2 hn2 hf
set_option maxRecDepth 100000 in
theorem lifted4 (os : Os) (started : os.Started) (H : Type) (enc : TypeId × Value → H) :
    ReturnsInHanded {} Try.checked os 4 .any (Rows.shortcutTargetsSpec.pre6 enc Try.prog Try.f4 Rows.shortcutTargetsRow.domain false) (Rows.shortcutTargetsSpec.post enc Try.prog Try.f4 false true false false) := by
  refine returnsInHanded_of_change (C := Try.checked) own_ started (by kernel_rfl) Try.func4
    (ChangeSpec.witness6 (enc := enc) (C := Try.checked) false ⟨#[], #[.slice none 0 0, .slice none 0 0], []⟩ 8 (by kernel_rfl) (by kernel_rfl) (by kernel_rfl) (by kernel_rfl)) ?_
  intro W base args ds gs before hval0 hW hcnd _
  have hval : ∀ (j : Nat) t v, Try.f4.params[j]? = some t → args[j]? = some v → Value.okWide Try.prog W .any base t v := hval0
  have hW' := hW
  obtain ⟨p, q, hA0, hV, rfl, hfz, hnd⟩ := hW
  have hA : DataW.TrodAll enc Try.prog W 0 (fun _ => true) true Try.f4.params.toList args.toList ds p := hA0
  rw [Try.params4] at hA hval
  obtain ⟨v0, vs0, d0, ds0, p0, q0, hargs, rfl, rfl, h0, r0⟩ := trodAll_cons hA
  obtain ⟨v1, vs1, d1, ds1, p1, q1, rfl, rfl, rfl, h1, r1⟩ := trodAll_cons r0
  obtain ⟨rfl, rfl, rfl⟩ := trodAll_nil r1
  obtain rfl : args = #[v0, v1] := by cases args; simp_all
  obtain ⟨rfl, rfl⟩ := trodVars_none hV
  have k0 := h0
  have lt0 : ∀ x ∈ p0, x.block < W.heap.size := by obtain ⟨m, hm⟩ := k0; exact DataW.trod_lt m _ _ _ hm
  obtain ⟨A0, n0, cp0, rfl⟩ := okWide_slice Try.underlying22 (hval 0 22 v0 rfl rfl)
  obtain ⟨hn0, hcp0, es0, he0⟩ : n0 ≤ maxLen ∧ n0 ≤ cp0 ∧ ∃ es, Ents W W.heap.size A0 n0 es := by
    obtain ⟨fuel, hf⟩ := h0
    exact ents_of_trod Try.underlying22 leaves34 (by kernel_rfl) hf
  have k1 := h1
  have lt1 : ∀ x ∈ p1, x.block < W.heap.size := by obtain ⟨m, hm⟩ := k1; exact DataW.trod_lt m _ _ _ hm
  obtain ⟨A1, n1, cp1, rfl⟩ := okWide_slice Try.underlying23 (hval 1 23 v1 rfl rfl)
  obtain ⟨hn1, hcp1, es1, he1⟩ : n1 ≤ maxLen ∧ n1 ≤ cp1 ∧ ∃ es, Ents W W.heap.size A1 n1 es := by
    obtain ⟨fuel, hf⟩ := h1
    exact ents_of_trod Try.underlying23 leaves36 (by kernel_rfl) hf
  clear hA0 hval0
  refine (walk4 A0 n0 cp0 es0 A1 n1 cp1 es1 W he0 hn0 he1 hn1).mono fun e W' ⟨he, bel⟩ => ?_
  subst he
  exact ⟨_, rfl, _, _, _, [], _, [], hW', trodAll_mk1 (shut_bool Try.underlying4 _), (trodAll_cons_mk (Below.trod laidOut_ (by kernel_rfl) (of_decide_eq_true (by kernel_rfl)) k0 bel lt0) (trodAll_cons_mk (Below.trod laidOut_ (by kernel_rfl) (of_decide_eq_true (by kernel_rfl)) k1 bel lt1) trodAll_mk0)), rfl, bel.frame _, fun h => by cases h⟩

theorem shortcutTargets_holds : Rows.ShortcutTargetsSaid :=
  OpenClaim.holds_of_wide 4 Try.f4 rfl rfl rfl rfl rfl rfl rfl ⟨rfl, rfl, rfl, rfl, rfl⟩ rfl rfl rfl rfl rfl (by kernel_rfl) Try.func4 (by kernel_rfl)
    (of_decide_eq_true (by kernel_rfl)) (by unfold Func.isWrapper; first | (rw [if_pos (by decide +kernel)]; kernel_rfl) | (rw [if_neg (by decide +kernel)]; exact ⟨rfl, rfl⟩))
    (fun os started H enc _ => lifted4 os started H enc)

end Go.Proofs.Ytnlgkjnlfeeaoaa
