/-
NetsimPurges returns true for every input, and the input reads as it did.
-/
import Derived.Test.YtledcmcpinjboaaM1
import Derived.Test.YtledcmcpinjboaaOpenX
import Derived.WalkKit
import Derived.ProofKit
import Derived.OpenShut
import Derived.ShutString
import Derived.ChangeOld
import Derived.Below
import Derived.Lib.Hide
import Derived.Deep.RegionHeld3
import Derived.Deep.DeepCutAuto
import Derived.Deep.RegionWith
import Derived.Deep.MidRow
import Derived.Deep.WholeRow
namespace Go.Proofs.Ytledcmcpinjboaa
open Go.ChangeShapes Go.WideShapes Go.ChangeAt Go.RowKit
set_option linter.unusedVariables false

set_option maxRecDepth 100000 in
set_option maxHeartbeats 8000000 in
theorem walk8_few (A : Option Addr) (n cp : Nat) (os : List Op5) (ds : List (List Int)) (t : Int) (w : World) (he : OpSl w w.heap.size A n os ds) (hn : n ≤ maxLen) (wf : (Lit.int .i64 t).wf = true) (hf : (os.all short && decide (n ≤ 30)) = true) :
    Calls Try.prog 8 #[.slice A n cp, .int .i64 t] w fun v w' => v = .returned (.bool true) ∧ Below w.heap.size w w' := by
  unfold maxLen at hn
  have HF := Lib.hid hf
  rw [Bool.and_eq_true, List.all_eq_true] at hf
  have hsm : ∀ o ∈ os, o.n ≤ 60 := fun o ho => by simpa [short] using hf.1 o ho
  have hn30 : n ≤ 30 := by simpa using hf.2
  have HSM := Lib.hid hsm
  clear hf hsm
  go_enter Try.func8, Try.ntmps8
  go_wp2_with fail
  refine (awake10 _).mono ?_
  rintro v w1 ⟨rfl, hb1⟩
  go_wp2_with fail
  refine (few17 w.heap.size A n cp os ds _ (he.keep fun b hb => hb1.block b hb) hn).mono ?_
  rintro v w1' ⟨rfl, rfl⟩
  rw [HF.out]
  go_wp2_with fail
  refine (run21 A n cp os ds _ (opsl_more (he.keep fun b hb => hb1.block b hb) hb1.size) HSM.out hn30).mono ?_
  rintro e w2 ⟨vw2, uw2, psw2, esw2, gsw2, rfl, stw2, bw2⟩
  have hinv := inv_run (os.zip ds)
  have hzl := zip_le he
  generalize aRun (os.zip ds) = s at *
  have hlp : psw2.length ≤ 30 := by have := stw2.dp.1; have := hinv.lp; omega
  have hb2 := hb1.trans (bw2.mono hb1.size)
  go_wp2_with fail
  refine (pending14 _ _ _ _ psw2 s.pend _ stw2.net (stw2.dp.imp fun b hb' => hb'.1) (by omega)).mono ?_
  rintro e w3 ⟨A3, c3, p3, rfl, sl3, rd3, b3⟩
  have st3 := stw2.below b3
  have hb3 := hb2.trans (b3.mono hb2.size)
  go_wp2_with fail
  refine (purge23 _ _ _ _ t _ _ st3.net (by omega)).mono ?_
  rintro e w4 ⟨rfl, v4, n4, t4⟩
  have r4 := Rds.filter t (st3.dp.keep fun b hb' => Ok.step t4 hb')
  have hb4 := hb3.trans ((st3.net.stepBelow t4 st3.hB).mono hb1.size)
  have sl4 := sl3.keep (w' := w4) (ok' := Away w4 _ v4) fun b hb' => ⟨t4.away (fresh_away stw2.net _ hb'.1 hb'.2), t4.same (fresh_away stw2.net _ hb'.1 hb'.2)⟩
  have rd4 := rd3.keep (w' := w4) (ok' := Away w4 _ v4) fun b hb' => ⟨t4.away (fresh_away stw2.net _ hb'.1 hb'.2), t4.same (fresh_away stw2.net _ hb'.1 hb'.2)⟩
  go_wp2_with fail
  refine (pending14 _ _ _ _ _ (s.pend.filter (fun q => !(q.dst == t))) _ n4 (r4.imp fun b hb' => hb'.1) (by have := List.length_filter_le (keep t) psw2; omega)).mono ?_
  rintro e w5 ⟨A5, c5, p5, rfl, sl5, rd5, b5⟩
  have hb5 := hb4.trans (b5.mono hb4.size)
  have sl5b := sl4.keep (w' := w5) (ok' := fun b => b < w5.heap.size) fun b hb' => ⟨Nat.lt_of_lt_of_le hb'.1 b5.size, b5.block b hb'.1⟩
  have rd5b := rd4.keep (w' := w5) (ok' := fun b => b < w5.heap.size) fun b hb' => ⟨Nat.lt_of_lt_of_le hb'.1 b5.size, b5.block b hb'.1⟩
  have n5 := n4.below b5
  have sl5a := sl5.keep (w' := w5) (ok' := fun b => b < w5.heap.size) fun b hb' => ⟨hb'.2, rfl⟩
  have rd5a := rd5.imp (ok' := fun b => b < w5.heap.size) fun b hb' => hb'.2
  have e1 := st3.dp.1
  have e2 := r4.1
  have hfl := List.length_filter_le (fun q : Pkt => !(q.dst == t)) s.pend
  have hpl : s.pend.length ≤ 30 := by omega
  rw [e2, e1]
  generalize hfs : s.pend.filter (fun q => !(q.dst == t)) = fs at *
  have HFS := Lib.hid hfs
  have HE2 := Lib.hid e2
  have HN5 := Lib.hid n5
  have HSLA := Lib.hid sl5a
  have HSLB := Lib.hid sl5b
  have HRA := Lib.hid rd5a
  have HRB := Lib.hid rd5b
  clear hfs e1 e2 n5 sl5 rd5 sl4 rd4 sl3 rd3 sl5a sl5b rd5a rd5b st3 stw2 n4 t4 r4 b3 b5 bw2 hb2 hb3 hb4 he HSM HF hinv hzl
  have hse : ((s.pend.length : Int) - fs.length != (s.pend.length : Int) - fs.length) = false := by simp
  go_wp2_with fail
  refine (len19 _ _ _ _ _ _ HN5.out).mono ?_
  rintro e w5' ⟨rfl, rfl⟩
  rw [HE2.out]
  clear hse
  go_wp2_with fail
  go_loopw [11, 51] (fun a i wr => ∃ k : Nat, k ≤ s.pend.length ∧ i = .int .i64 k ∧ a = .int .i64 (((s.pend.take k).filter (fun q => !(q.dst == t))).length) ∧ Below w5.heap.size w5 wr) (fun _ i _ => s.pend.length - (intOf i).toNat)
  case atStart => exact ⟨0, Nat.zero_le _, rfl, rfl, Below.refl _ _⟩
  case round =>
    obtain ⟨k, hk, rfl, rfl, hbr⟩ := hrel
    by_cases hlt : k < s.pend.length
    · have hkp : ∀ b, b < w5.heap.size → b < w5.heap.size ∧ wr.heap[b]? = w5.heap[b]? := fun b hb' => ⟨hb', hbr.block b hb'⟩
      have slb := HSLB.out.keep hkp
      have rdb := HRB.out.keep hkp
      have sla := HSLA.out.keep hkp
      have rda := HRA.out.keep hkp
      obtain ⟨b, off, p, rfl, hbb, hp, c0, c1, c2, c3'⟩ := slb.cells hlt
      obtain ⟨p', q, g1, g2, g3⟩ := rdb.at_ (i := k) (by rw [rdb.1]; exact hlt)
      obtain rfl : p = p' := by rw [hp] at g1; simpa using g1
      have hsn := filter_len_snoc (f := fun q : Pkt => !(q.dst == t)) g2
      have hk0 : 0 ≤ (k : Int) := by omega
      have hk1 : (k : Int) < s.pend.length := by omega
      have hsz := hbr.size
      by_cases hto : (p.dst == t) = true
      · have hqt : (!(q.dst == t)) = false := by rw [← g3.dst, hto]; rfl
        rw [hqt] at hsn
        have HSN := Lib.hid hsn
        clear hsn hqt g1 g2 g3 hp slb rdb sla rda hkp
        go_wp2_with fail
        go_roundw
        case rel => exact ⟨k + 1, by omega, by go_num, by rw [HSN.out]; simp, hbr.alloc hsz _⟩
        case measure => simp [intOf]; omega
      · rw [Bool.not_eq_true] at hto
        have hqt : (!(q.dst == t)) = true := by rw [← g3.dst, hto]; rfl
        have hat := filter_at (f := fun q : Pkt => !(q.dst == t)) g2 hqt
        rw [HFS.out] at hat
        rw [hqt] at hsn
        have hal := (List.getElem?_eq_some_iff.1 hat).1
        have hal2 : ((s.pend.take k).filter (fun q => !(q.dst == t))).length ≤ 30 := by omega
        generalize ((s.pend.take k).filter (fun q => !(q.dst == t))).length = a at *
        obtain ⟨b2, off2, p2, rfl, hbb2, hp2, d0, d1, d2, d3⟩ := sla.cells hal
        obtain ⟨p2', q2, j1, j2, j3⟩ := rda.at_ (i := a) (by rw [rda.1]; exact hal)
        obtain rfl : p2 = p2' := by rw [hp2] at j1; simpa using j1
        obtain rfl : q = q2 := by rw [hat] at j2; simpa using j2
        have ha0 : 0 ≤ (a : Int) := by omega
        have ha1 : (a : Int) < fs.length := by omega
        have ha2 : decide ((fs.length : Int) ≤ (a : Int)) = false := by simp; omega
        have ha3 : decide (fs.length ≤ a) = false := by simp; omega
        have HSN := Lib.hid hsn
        have g4 := g3.keep (w' := wr.alloc (.cells #[.int .i64 p.num, .int .i64 p.frm, .int .i64 p.dst, .slice p.A p.n p.c] 31)) (ok' := fun b => b < wr.heap.size) fun b hb' => ⟨Nat.lt_of_lt_of_le hb' hsz, Below.heap_alloc wr _ b (Nat.lt_of_lt_of_le hb' hsz)⟩
        have j4 := j3.keep (w' := wr.alloc (.cells #[.int .i64 p.num, .int .i64 p.frm, .int .i64 p.dst, .slice p.A p.n p.c] 31)) (ok' := fun b => b < wr.heap.size) fun b hb' => ⟨Nat.lt_of_lt_of_le hb' hsz, Below.heap_alloc wr _ b (Nat.lt_of_lt_of_le hb' hsz)⟩
        have HG4 := Lib.hid g4
        have HJ4 := Lib.hid j4
        have hb2w : b2 < wr.heap.size := Nat.lt_of_lt_of_le hbb2 hsz
        clear hsn hqt g1 g2 g3 hp slb rdb sla rda hkp hat hp2 j1 j2 j3 g4 j4
        go_wp2_with fail
        have kS : ∀ W, Below (wr.heap.size + 1) (wr.alloc (.cells #[.int .i64 p.num, .int .i64 p.frm, .int .i64 p.dst, .slice p.A p.n p.c] 31)) W → (Below (wr.heap.size + 1) (wr.alloc (.cells #[.int .i64 p.num, .int .i64 p.frm, .int .i64 p.dst, .slice p.A p.n p.c] 31)) W ∧ W.cell? ⟨b2, off2 + a * 4, none⟩ = some (.int .i64 p2.num) ∧ W.cell? ⟨b2, off2 + a * 4 + 1, none⟩ = some (.int .i64 p2.frm) ∧ W.cell? ⟨b2, off2 + a * 4 + 2, none⟩ = some (.int .i64 p2.dst) ∧ W.cell? ⟨b2, off2 + a * 4 + 3, none⟩ = some (.slice p2.A p2.n p2.c) ∧
            W.cell? ⟨wr.heap.size, 0, none⟩ = some (.int .i64 p.num) ∧ W.cell? ⟨wr.heap.size, 1, none⟩ = some (.int .i64 p.frm) ∧ W.cell? ⟨wr.heap.size, 2, none⟩ = some (.int .i64 p.dst) ∧ W.cell? ⟨wr.heap.size, 3, none⟩ = some (.slice p.A p.n p.c)) := fun W hW => by
          have e2 : ∀ i u, wr.cell? ⟨b2, i, none⟩ = some u → W.cell? ⟨b2, i, none⟩ = some u := fun i u hu => (cells_below hW (by omega) i).trans ((cells_below ((Below.refl _ _).alloc (Nat.le_refl _) _) hb2w i).trans hu)
          have eb := (Blk.new wr 31 #[.int .i64 p.num, .int .i64 p.frm, .int .i64 p.dst, .slice p.A p.n p.c]).below hW (by omega)
          exact ⟨hW, e2 _ _ d0, e2 _ _ d1, e2 _ _ d2, e2 _ _ d3, eb.cell 0, eb.cell 1, eb.cell 2, eb.cell 3⟩
        have KS := Lib.hid kS
        have hkk := Below.refl (wr.heap.size + 1) (wr.alloc (.cells #[.int .i64 p.num, .int .i64 p.frm, .int .i64 p.dst, .slice p.A p.n p.c] 31))
        clear kS c0 c1 c2 c3' d0 d1 d2 d3 HSLA HSLB HRA HRB HFS HE2 HN5 hb5 hbb
        go_region_held3 (fun W => Below (wr.heap.size + 1) (wr.alloc (.cells #[.int .i64 p.num, .int .i64 p.frm, .int .i64 p.dst, .slice p.A p.n p.c] 31)) W ∧ W.cell? ⟨b2, off2 + a * 4, none⟩ = some (.int .i64 p2.num) ∧ W.cell? ⟨b2, off2 + a * 4 + 1, none⟩ = some (.int .i64 p2.frm) ∧ W.cell? ⟨b2, off2 + a * 4 + 2, none⟩ = some (.int .i64 p2.dst) ∧ W.cell? ⟨b2, off2 + a * 4 + 3, none⟩ = some (.slice p2.A p2.n p2.c) ∧
            W.cell? ⟨wr.heap.size, 0, none⟩ = some (.int .i64 p.num) ∧ W.cell? ⟨wr.heap.size, 1, none⟩ = some (.int .i64 p.frm) ∧ W.cell? ⟨wr.heap.size, 2, none⟩ = some (.int .i64 p.dst) ∧ W.cell? ⟨wr.heap.size, 3, none⟩ = some (.slice p.A p.n p.c)) ((refine KS.out _ ?_; first | exact hkk | exact hkk.drew))
          (first
          | (go_at_call 22
             obtain ⟨hkk3, _⟩ : Below (wr.heap.size + 1) (wr.alloc (.cells #[.int .i64 p.num, .int .i64 p.frm, .int .i64 p.dst, .slice p.A p.n p.c] 31)) _ ∧ _ := by assumption
             refine (samePacket22 _ _ p2 p q _ (HJ4.out.keep (ok' := fun b => b < wr.heap.size) fun b hb' => ⟨hb', hkk3.block b (by omega)⟩) (HG4.out.keep (ok' := fun b => b < wr.heap.size) fun b hb' => ⟨hb', hkk3.block b (by omega)⟩) (fun b hb' => by have := below_alloc_size hkk3; omega) (fun b hb' => by have := below_alloc_size hkk3; omega)).mono ?_
             rintro e w6 ⟨rfl, hb6⟩
             have hkk := hkk3.trans (hb6.mono (by have := below_alloc_size hkk3; omega))))
        have hb7 : Below w5.heap.size w5 _ := (hbr.alloc hsz (.cells #[.int .i64 p.num, .int .i64 p.frm, .int .i64 p.dst, .slice p.A p.n p.c] 31)).trans (hkk.mono (by omega))
        go_wp2_with fail
        go_roundw
        case rel => exact ⟨k + 1, by omega, by go_num, by rw [HSN.out]; go_num, hb7⟩
        case measure => simp [intOf]; omega
    · obtain rfl : k = s.pend.length := by omega
      rw [List.take_of_length_le (Nat.le_refl _), HFS.out]
      go_wp2_with fail
      go_ret
      exact ⟨ret_bool (by simp), hb5.trans (hbr.mono hb5.size)⟩

set_option maxHeartbeats 1000000 in
theorem walk8_many (A : Option Addr) (n cp : Nat) (os : List Op5) (ds : List (List Int)) (t : Int) (w : World) (he : OpSl w w.heap.size A n os ds) (hn : n ≤ maxLen) (wf : (Lit.int .i64 t).wf = true) (hf : (os.all short && decide (n ≤ 30)) = false) :
    Calls Try.prog 8 #[.slice A n cp, .int .i64 t] w fun v w' => v = .returned (.bool true) ∧ Below w.heap.size w w' := by
  unfold maxLen at hn
  go_enter Try.func8, Try.ntmps8
  go_wp2_with fail
  refine (awake10 _).mono ?_
  rintro v w1 ⟨rfl, hb1⟩
  go_wp2_with fail
  refine (few17 w.heap.size A n cp os ds _ (he.keep fun b hb => hb1.block b hb) hn).mono ?_
  rintro v w1' ⟨rfl, rfl⟩
  rw [hf]
  go_wp2_with fail
  refine (awake10 _).mono ?_
  rintro v w2 ⟨rfl, hb2⟩
  go_wp2_with fail
  go_ret
  exact ⟨rfl, hb1.trans (hb2.mono hb1.size)⟩
theorem walk8 (A : Option Addr) (n cp : Nat) (os : List Op5) (ds : List (List Int)) (t : Int) (w : World) (he : OpSl w w.heap.size A n os ds) (hn : n ≤ maxLen) (wf : (Lit.int .i64 t).wf = true) :
    Calls Try.prog 8 #[.slice A n cp, .int .i64 t] w fun v w' => v = .returned (.bool true) ∧ Below w.heap.size w w' := by
  by_cases hf : (os.all short && decide (n ≤ 30)) = true
  · exact walk8_few A n cp os ds t w he hn wf hf
  · exact walk8_many A n cp os ds t w he hn wf (by rw [← Bool.not_eq_true]; exact hf)
set_option maxRecDepth 100000 in
theorem lifted8 (os : Os) (started : os.Started) (H : Type) (enc : TypeId × Value → H) :
    ReturnsInHanded {} Try.checked os 8 .any (Rows.netsimPurgesSpec.pre6 enc Try.prog Try.f8 Rows.netsimPurgesRow.domain false) (Rows.netsimPurgesSpec.post enc Try.prog Try.f8 false true false false) := by
  refine returnsInHanded_of_change (C := Try.checked) own_ started (by kernel_rfl) Try.func8
    (ChangeSpec.witness6 (enc := enc) (C := Try.checked) false ⟨#[], #[.slice none 0 0, .int .i64 0], []⟩ 8 (by kernel_rfl) (by kernel_rfl) (by kernel_rfl) (by kernel_rfl)) ?_
  intro W base args ds gs before hval0 hW hcnd _
  have hval : ∀ (j : Nat) t v, Try.f8.params[j]? = some t → args[j]? = some v → Value.okWide Try.prog W .any base t v := hval0
  have hW' := hW
  obtain ⟨p, q, hA0, hV, rfl, hfz, hnd⟩ := hW
  have hA : DataW.TrodAll enc Try.prog W 0 (fun _ => true) true Try.f8.params.toList args.toList ds p := hA0
  rw [Try.params8] at hA hval
  obtain ⟨v0, vs0, d0, ds0, p0, q0, hargs, rfl, rfl, h0, r0⟩ := trodAll_cons hA
  obtain ⟨v1, vs1, d1, ds1, p1, q1, rfl, rfl, rfl, h1, r1⟩ := trodAll_cons r0
  obtain ⟨rfl, rfl, rfl⟩ := trodAll_nil r1
  obtain rfl : args = #[v0, v1] := by cases args; simp_all
  obtain ⟨rfl, rfl⟩ := trodVars_none hV
  have k0 := h0
  have lt0 : ∀ x ∈ p0, x.block < W.heap.size := by obtain ⟨m, hm⟩ := k0; exact DataW.trod_lt m _ _ _ hm
  obtain ⟨A0, n0, cp0, rfl⟩ := okWide_slice Try.underlying36 (hval 0 36 v0 rfl rfl)
  obtain ⟨hn0, os0, dd0, he0⟩ : n0 ≤ maxLen ∧ ∃ os ds, OpSl W W.heap.size A0 n0 os ds := by
    obtain ⟨fuel, hf⟩ := h0
    exact ops_of_trod hf
  have k1 := h1
  have lt1 : ∀ x ∈ p1, x.block < W.heap.size := by obtain ⟨m, hm⟩ := k1; exact DataW.trod_lt m _ _ _ hm
  obtain ⟨a1, rfl, rfl, rfl, wf1⟩ := open_int Try.underlying3 (hval 1 3 v1 rfl rfl) h1
  clear hA0 hval0
  refine (walk8 A0 n0 cp0 os0 dd0 a1 W he0 hn0 wf1).mono fun e W' ⟨he, bel⟩ => ?_
  subst he
  exact ⟨_, rfl, _, _, _, [], _, [], hW', trodAll_mk1 (shut_bool Try.underlying4 _), (trodAll_cons_mk (Below.trod laidOut_ (by kernel_rfl) (of_decide_eq_true (by kernel_rfl)) k0 bel lt0) (trodAll_cons_mk (Below.trod laidOut_ (by kernel_rfl) (of_decide_eq_true (by kernel_rfl)) k1 bel lt1) trodAll_mk0)), rfl, bel.frame _, fun h => by cases h⟩

theorem netsimPurges_holds : Rows.NetsimPurgesSaid :=
  OpenClaim.holds_of_wide 8 Try.f8 rfl rfl rfl rfl rfl rfl rfl ⟨rfl, rfl, rfl, rfl, rfl⟩ rfl rfl rfl rfl rfl (by kernel_rfl) Try.func8 (by kernel_rfl)
    (of_decide_eq_true (by kernel_rfl)) (by unfold Func.isWrapper; first | (rw [if_pos (by decide +kernel)]; kernel_rfl) | (rw [if_neg (by decide +kernel)]; exact ⟨rfl, rfl⟩))
    (fun os started H enc _ => lifted8 os started H enc)

end Go.Proofs.Ytledcmcpinjboaa
