/-
NetsimAscending returns true for every input, and the input reads as it did.
-/
import Derived.Test.YtledcmcpinjboaaQ
import Derived.Test.YtledcmcpinjboaaOpenX
import Derived.WalkKit
import Derived.ProofKit
import Derived.OpenShut
import Derived.ShutString
import Derived.ChangeOld
import Derived.Below
import Derived.Lib.Hide
import Derived.Deep.RegionHeld3
import Derived.Deep.DeepCutAuto
import Derived.Deep.RegionWith
import Derived.Deep.MidRow
import Derived.Deep.WholeRow
namespace Go.Proofs.Ytledcmcpinjboaa
open Go.ChangeShapes Go.WideShapes Go.ChangeAt Go.RowKit
set_option linter.unusedVariables false

theorem drop_at {α : Type} {l : List α} {k : Nat} {x : α} (h : l[k]? = some x) : l.drop k = x :: l.drop (k + 1) := by
  obtain ⟨hk, rfl⟩ := List.getElem?_eq_some_iff.1 h
  exact List.drop_eq_getElem_cons hk
theorem asc_at {s : AR} {n k : Nat} {a b : Pkt} (h : Inv n s) (ha : s.pend[k]? = some a) (hb : s.pend[k + 1]? = some b) : a.num < b.num := by
  have h1 := h.asc
  rw [List.pairwise_iff_getElem] at h1
  obtain ⟨ha', rfl⟩ := List.getElem?_eq_some_iff.1 ha
  obtain ⟨hb', rfl⟩ := List.getElem?_eq_some_iff.1 hb
  exact h1 k (k + 1) ha' hb' (by omega)

set_option maxRecDepth 100000 in
set_option maxHeartbeats 8000000 in
theorem walk6_few (A : Option Addr) (n cp : Nat) (os : List Op5) (ds : List (List Int)) (w : World) (he : OpSl w w.heap.size A n os ds) (hn : n ≤ maxLen) (hf : (os.all short && decide (n ≤ 30)) = true) :
    Calls Try.prog 6 #[.slice A n cp] w fun v w' => v = .returned (.bool true) ∧ Below w.heap.size w w' := by
  unfold maxLen at hn
  have HF := Lib.hid hf
  rw [Bool.and_eq_true, List.all_eq_true] at hf
  have hsm : ∀ o ∈ os, o.n ≤ 60 := fun o ho => by simpa [short] using hf.1 o ho
  have hn30 : n ≤ 30 := by simpa using hf.2
  have HSM := Lib.hid hsm
  clear hf hsm
  go_enter Try.func6, Try.ntmps6
  go_wp2_with fail
  refine (awake10 _).mono ?_
  rintro v w1 ⟨rfl, hb1⟩
  go_wp2_with fail
  refine (few17 w.heap.size A n cp os ds _ (he.keep fun b hb => hb1.block b hb) hn).mono ?_
  rintro v w1' ⟨rfl, rfl⟩
  rw [HF.out]
  go_wp2_with fail
  refine (run21 A n cp os ds _ (opsl_more (he.keep fun b hb => hb1.block b hb) hb1.size) HSM.out hn30).mono ?_
  rintro e w2 ⟨vw2, uw2, psw2, esw2, gsw2, rfl, stw2, bw2⟩
  have hinv := inv_run (os.zip ds)
  have hzl := zip_le he
  generalize aRun (os.zip ds) = s at *
  have hasc : ∀ k a b, s.pend[k]? = some a → s.pend[k + 1]? = some b → a.num < b.num := fun k a b h1 h2 => asc_at hinv h1 h2
  have HASC := Lib.hid hasc
  have hlp : s.pend.length ≤ 30 := by have := hinv.lp; omega
  have hpl : psw2.length = s.pend.length := stw2.dp.1
  have hb2 := hb1.trans (bw2.mono hb1.size)
  go_wp2_with fail
  refine (pending14 _ _ _ _ psw2 s.pend _ stw2.net (stw2.dp.imp fun b hb' => hb'.1) (by omega)).mono ?_
  rintro e w3 ⟨A3, c3, p3, rfl, sl3, rd3, b3⟩
  have n3 := stw2.net.below b3
  have r3 := stw2.dp.keep (w' := w3) (ok' := Away w3 w1.heap.size vw2) fun b hb' => ⟨⟨Nat.lt_of_lt_of_le hb'.1.1 b3.size, hb'.1.2⟩, b3.block b hb'.1.1⟩
  have hb3 := hb2.trans (b3.mono hb2.size)
  have sl3' := sl3.keep (w' := w3) (ok' := Away w3 w1.heap.size vw2) fun b hb' => ⟨fresh_away stw2.net _ hb'.1 hb'.2, rfl⟩
  have rd3' := rd3.imp (ok' := Away w3 w1.heap.size vw2) fun b hb' => fresh_away stw2.net _ hb'.1 hb'.2
  have hB3 : w1.heap.size ≤ w3.heap.size := Nat.le_trans bw2.size b3.size
  have h13 := hb1.size
  clear sl3 rd3 b3 stw2 bw2 hinv hzl hasc hb2 he HF HSM
  go_wp2_with fail
  go_loopw [30] (fun i wr => ∃ (k : Nat) (v : Value) (ps : List Pk), k ≤ s.pend.length ∧ i = .int .i64 k ∧ NetW wr w1.heap.size w1.heap.size v s.last ps ∧ Rds wr (Away wr w1.heap.size v) ps (s.pend.drop k) ∧ Sl wr (Away wr w1.heap.size v) A3 s.pend.length p3 ∧ Rds wr (Away wr w1.heap.size v) p3 s.pend ∧ Below w.heap.size w wr ∧ w1.heap.size ≤ wr.heap.size) (fun i _ => s.pend.length - (intOf i).toNat)
  case atStart => exact ⟨0, _, _, Nat.zero_le _, rfl, n3, r3, sl3', rd3', hb3, hB3⟩
  case round =>
    obtain ⟨k, v, ps, hk, rfl, hn, hr, hsl, hrd, hb, hBr⟩ := hrel
    clear n3 r3 sl3' rd3' hb3 hB3
    have hpk : ps.length = s.pend.length - k := by rw [hr.1, List.length_drop]
    by_cases hlt : k < s.pend.length
    · have hk0 : 0 ≤ (k : Int) := by omega
      have hk1 : (k : Int) < s.pend.length := by omega
      have h0 : 0 < ps.length := by omega
      have hp0 : pos 0 ps.length = 0 := by unfold pos; simp
      have hps30 : ps.length ≤ 30 := by omega
      clear hpk
      go_wp2_with fail
      refine (deliver15 _ _ _ _ 0 ps _ hn h0 (by omega)).mono ?_
      rintro e w4 ⟨p, v4, hp4, rfl, d4⟩
      rw [hp0] at hp4 d4
      obtain ⟨l, q, e1, e2, e3⟩ := hrd.at_ (i := k) (by rw [hrd.1]; exact hlt)
      have hdr := drop_at e2
      rw [hdr] at hr
      obtain ⟨p', q', g1, g2, g3⟩ := hr.at_ h0
      obtain rfl : p = p' := by rw [hp4] at g1; simpa using g1
      obtain rfl : q = q' := by simpa using g2
      have ka : ∀ b, Away wr w1.heap.size v b → Away w4 w1.heap.size v4 b ∧ w4.heap[b]? = wr.heap[b]? := fun b hb' => ⟨d4.step.away hb', d4.step.same hb'⟩
      have hr4 := Rds.erase 0 (hr.keep ka)
      rw [List.eraseIdx_cons_zero] at hr4
      have hrp := (g3.keep ka).imp (ok' := fun b => b < w4.heap.size) fun b hb' => hb'.1
      have hrl := (e3.keep ka).imp (ok' := fun b => b < w4.heap.size) fun b hb' => hb'.1
      have hsl4 := hsl.keep ka
      have hrd4 := hrd.keep ka
      have hb4 := hb.trans ((hn.stepBelow d4.step hBr).mono h13)
      have hrel2 : ∀ W, Below (w4.heap.size + 1) (w4.alloc (.cells #[.int .i64 p.num, .int .i64 p.frm, .int .i64 p.dst, .slice p.A p.n p.c] 31)) W → ∃ (k' : Nat) (v : Value) (ps : List Pk), k' ≤ s.pend.length ∧ Value.int .i64 ((k : Int) + 1) = .int .i64 k' ∧ NetW W w1.heap.size w1.heap.size v s.last ps ∧ Rds W (Away W w1.heap.size v) ps (s.pend.drop k') ∧ Sl W (Away W w1.heap.size v) A3 s.pend.length p3 ∧ Rds W (Away W w1.heap.size v) p3 s.pend ∧ Below w.heap.size w W ∧ w1.heap.size ≤ W.heap.size := fun W hW => by
        have h5 : Below w4.heap.size w4 W := ((Below.refl _ _).alloc (Nat.le_refl _) _).trans (hW.mono (by omega))
        have k5 : ∀ b, Away w4 w1.heap.size v4 b → Away W w1.heap.size v4 b ∧ W.heap[b]? = w4.heap[b]? := fun b hb' => ⟨⟨Nat.lt_of_lt_of_le hb'.1 h5.size, hb'.2⟩, h5.block b hb'.1⟩
        exact ⟨k + 1, v4, _, by omega, by go_num, d4.net.below h5, hr4.keep k5, hsl4.keep k5, hrd4.keep k5, hb4.trans (h5.mono hb4.size), Nat.le_trans (Nat.le_trans hBr d4.step.size) h5.size⟩
      have HREL := Lib.hid hrel2
      have HRP := Lib.hid hrp
      have HRL := Lib.hid hrl
      have hnum : p.num = q.num := g3.num
      have hsl5 := hsl4.keep (w' := w4) (ok' := fun b => b < w4.heap.size) fun b hb' => ⟨hb'.1, rfl⟩
      obtain ⟨b, off, l', rfl, hbw, hl', c0, c1, c2, c3⟩ := hsl5.cells hlt
      obtain rfl : l = l' := by rw [e1] at hl'; simpa using hl'
      rcases Nat.eq_zero_or_pos k with hkz | hkp
      · have hg0 : decide ((0 : Int) < (k : Int)) = false := by simp; omega
        have hg1 : decide (0 < k) = false := by simp; omega
        clear hrel2 hrp hrl hsl4 hrd4 hr4 hdr ka d4 hp4 g1 g2 g3 e1 e2 e3 hl' hr hsl hrd hn hb hnum hsl5 HASC hkz hp0
        obtain ⟨T, f, hne, hf, hcov⟩ := quiet_class (w4.heap.size + 1) (w4.alloc (.cells #[.int .i64 p.num, .int .i64 p.frm, .int .i64 p.dst, .slice p.A p.n p.c] 31))
        have eb : ∀ x, Blk (f x) w4.heap.size 31 #[.int .i64 p.num, .int .i64 p.frm, .int .i64 p.dst, .slice p.A p.n p.c] := fun x => (Blk.new w4 31 #[.int .i64 p.num, .int .i64 p.frm, .int .i64 p.dst, .slice p.A p.n p.c]).below (hf x) (by omega)
        have e2 : ∀ x i u, w4.cell? ⟨b, i, none⟩ = some u → (f x).cell? ⟨b, i, none⟩ = some u := fun x i u hu => (cells_below (hf x) (by omega) i).trans ((cells_below ((Below.refl _ _).alloc (Nat.le_refl _) _) hbw i).trans hu)
        have a0 : ∀ x, (f x).cell? ⟨w4.heap.size, 0, none⟩ = some (.int .i64 p.num) := fun x => (eb x).cell 0
        have a1 : ∀ x, (f x).cell? ⟨w4.heap.size, 1, none⟩ = some (.int .i64 p.frm) := fun x => (eb x).cell 1
        have a2 : ∀ x, (f x).cell? ⟨w4.heap.size, 2, none⟩ = some (.int .i64 p.dst) := fun x => (eb x).cell 2
        have a3 : ∀ x, (f x).cell? ⟨w4.heap.size, 3, none⟩ = some (.slice p.A p.n p.c) := fun x => (eb x).cell 3
        have d0 := fun x => e2 x _ _ c0
        have d1 := fun x => e2 x _ _ c1
        have d2 := fun x => e2 x _ _ c2
        have d3 := fun x => e2 x _ _ c3
        skip
        have HF := Lib.hid hf
        have HCOV := Lib.hid hcov
        have hsame : ∀ x, Calls Try.prog 22 #[.agg #[.int .i64 p.num, .int .i64 p.frm, .int .i64 p.dst, .slice p.A p.n p.c], .agg #[.int .i64 l.num, .int .i64 l.frm, .int .i64 l.dst, .slice l.A l.n l.c]] (f x) (fun e w'' => e = .returned (.bool true) ∧ ∃ y, w'' = f y) := fun x =>
          (samePacket22 _ _ p l q _ (HRP.out.keep (ok' := fun b => b < w4.heap.size) fun b hb' => ⟨hb', ((hf x).block b (by omega)).trans (Below.heap_alloc _ _ _ hb')⟩) (HRL.out.keep (ok' := fun b => b < w4.heap.size) fun b hb' => ⟨hb', ((hf x).block b (by omega)).trans (Below.heap_alloc _ _ _ hb')⟩) (fun b hb' => by have := below_alloc_size (hf x); omega) (fun b hb' => by have := below_alloc_size (hf x); omega)).mono fun e w6 h6 => ⟨h6.1, hcov _ ((hf x).trans (h6.2.mono (below_alloc_size (hf x))))⟩
        have HSAME := Lib.hid hsame
        clear eb e2 hf hcov hsame c0 c1 c2 c3
        go_wp2_with fail
        refine wp_region_class f (by kernel_rfl) (by kernel_rfl) (HCOV.out _ (Below.refl _ _).drew) ?_
        repeat (go_big_quiet_step ((go_at_call 22; exact HSAME.out _)))
        refine wpQuiet_nil ?_
        intro _ hw'
        obtain ⟨xq, hw''⟩ := hw'
        subst hw''
        go_wp2_with fail
        go_roundw
        case rel => exact HREL.out _ (HF.out xq)
        case measure => simp [intOf]; omega
      · have hg0 : decide ((0 : Int) < (k : Int)) = true := by simp; omega
        have hg1 : decide (0 < k) = true := by simp; omega
        obtain ⟨b', off', l0, hA, _, hl0', m0, _⟩ := hsl5.cells (k := k - 1) (by omega)
        simp only [Option.some.injEq, Addr.mk.injEq, and_true] at hA
        obtain ⟨rfl, rfl⟩ := hA
        obtain ⟨l1, q0, f1, f2, f3⟩ := hrd.at_ (i := k - 1) (by rw [hrd.1]; omega)
        obtain rfl : l0 = l1 := by rw [hl0'] at f1; simpa using f1
        have hlt2 : l0.num < p.num := by
          rw [f3.num, hnum]
          exact HASC.out (k - 1) q0 q f2 (by rw [show k - 1 + 1 = k from by omega]; exact e2)
        have hge : decide (p.num ≤ l0.num) = false := by simp; omega
        have hw1 : IntKind.i64.wrap ((k : Int) - 1) = (k : Int) - 1 := by rw [IntKind.wrap_i64]; omega
        have hk2 : 0 ≤ (k : Int) - 1 := by omega
        have hk3 : (k : Int) - 1 < s.pend.length := by omega
        have hk4 : ((k : Int) - 1).toNat = k - 1 := by omega
        have hk5 : 1 ≤ (k : Int) := by omega
        clear hrel2 hrp hrl hsl4 hrd4 hr4 hdr ka d4 hp4 g1 g2 g3 e1 e2 e3 hl' hr hsl hrd hn hb hnum hsl5 HASC f1 f2 f3 hl0' hlt2 hp0
        obtain ⟨T, f, hne, hf, hcov⟩ := quiet_class (w4.heap.size + 1) (w4.alloc (.cells #[.int .i64 p.num, .int .i64 p.frm, .int .i64 p.dst, .slice p.A p.n p.c] 31))
        have eb : ∀ x, Blk (f x) w4.heap.size 31 #[.int .i64 p.num, .int .i64 p.frm, .int .i64 p.dst, .slice p.A p.n p.c] := fun x => (Blk.new w4 31 #[.int .i64 p.num, .int .i64 p.frm, .int .i64 p.dst, .slice p.A p.n p.c]).below (hf x) (by omega)
        have e2 : ∀ x i u, w4.cell? ⟨b, i, none⟩ = some u → (f x).cell? ⟨b, i, none⟩ = some u := fun x i u hu => (cells_below (hf x) (by omega) i).trans ((cells_below ((Below.refl _ _).alloc (Nat.le_refl _) _) hbw i).trans hu)
        have a0 : ∀ x, (f x).cell? ⟨w4.heap.size, 0, none⟩ = some (.int .i64 p.num) := fun x => (eb x).cell 0
        have a1 : ∀ x, (f x).cell? ⟨w4.heap.size, 1, none⟩ = some (.int .i64 p.frm) := fun x => (eb x).cell 1
        have a2 : ∀ x, (f x).cell? ⟨w4.heap.size, 2, none⟩ = some (.int .i64 p.dst) := fun x => (eb x).cell 2
        have a3 : ∀ x, (f x).cell? ⟨w4.heap.size, 3, none⟩ = some (.slice p.A p.n p.c) := fun x => (eb x).cell 3
        have d0 := fun x => e2 x _ _ c0
        have d1 := fun x => e2 x _ _ c1
        have d2 := fun x => e2 x _ _ c2
        have d3 := fun x => e2 x _ _ c3
        have dm := fun x => e2 x _ _ m0
        have HF := Lib.hid hf
        have HCOV := Lib.hid hcov
        have hsame : ∀ x, Calls Try.prog 22 #[.agg #[.int .i64 p.num, .int .i64 p.frm, .int .i64 p.dst, .slice p.A p.n p.c], .agg #[.int .i64 l.num, .int .i64 l.frm, .int .i64 l.dst, .slice l.A l.n l.c]] (f x) (fun e w'' => e = .returned (.bool true) ∧ ∃ y, w'' = f y) := fun x =>
          (samePacket22 _ _ p l q _ (HRP.out.keep (ok' := fun b => b < w4.heap.size) fun b hb' => ⟨hb', ((hf x).block b (by omega)).trans (Below.heap_alloc _ _ _ hb')⟩) (HRL.out.keep (ok' := fun b => b < w4.heap.size) fun b hb' => ⟨hb', ((hf x).block b (by omega)).trans (Below.heap_alloc _ _ _ hb')⟩) (fun b hb' => by have := below_alloc_size (hf x); omega) (fun b hb' => by have := below_alloc_size (hf x); omega)).mono fun e w6 h6 => ⟨h6.1, hcov _ ((hf x).trans (h6.2.mono (below_alloc_size (hf x))))⟩
        have HSAME := Lib.hid hsame
        clear eb e2 hf hcov hsame c0 c1 c2 c3 m0
        go_wp2_with fail
        refine wp_region_class f (by kernel_rfl) (by kernel_rfl) (HCOV.out _ (Below.refl _ _).drew) ?_
        repeat (go_big_quiet_step ((go_at_call 22; exact HSAME.out _)))
        refine wpQuiet_nil ?_
        intro _ hw'
        obtain ⟨xq, hw''⟩ := hw'
        subst hw''
        go_wp2_with fail
        go_roundw
        case rel => exact HREL.out _ (HF.out xq)
        case measure => simp [intOf]; omega
    · obtain rfl : ps = [] := List.eq_nil_of_length_eq_zero (by omega)
      clear hpk
      go_wp2_with fail
      refine (deliver15_0 _ _ _ _ 0 _ hn).mono ?_
      rintro e w4 ⟨rfl, b4⟩
      have n4 := (hn.below b4).alloc (.cells #[.int .i64 0, .int .i64 0, .int .i64 0, .slice none 0 0] 31)
      have hb4' := hb.trans (b4.mono hb.size)
      have hb4 := hb4'.alloc hb4'.size (.cells #[.int .i64 0, .int .i64 0, .int .i64 0, .slice none 0 0] 31)
      clear hn b4 hr hsl hrd
      go_wp2_with fail
      refine (len19 _ _ _ _ _ _ n4).mono ?_
      rintro e w5 ⟨rfl, rfl⟩
      go_wp2_with fail
      go_ret
      exact ⟨rfl, hb4⟩

set_option maxHeartbeats 1000000 in
theorem walk6_many (A : Option Addr) (n cp : Nat) (os : List Op5) (ds : List (List Int)) (w : World) (he : OpSl w w.heap.size A n os ds) (hn : n ≤ maxLen) (hf : (os.all short && decide (n ≤ 30)) = false) :
    Calls Try.prog 6 #[.slice A n cp] w fun v w' => v = .returned (.bool true) ∧ Below w.heap.size w w' := by
  unfold maxLen at hn
  go_enter Try.func6, Try.ntmps6
  go_wp2_with fail
  refine (awake10 _).mono ?_
  rintro v w1 ⟨rfl, hb1⟩
  go_wp2_with fail
  refine (few17 w.heap.size A n cp os ds _ (he.keep fun b hb => hb1.block b hb) hn).mono ?_
  rintro v w1' ⟨rfl, rfl⟩
  rw [hf]
  go_wp2_with fail
  refine (awake10 _).mono ?_
  rintro v w2 ⟨rfl, hb2⟩
  go_wp2_with fail
  go_ret
  exact ⟨rfl, hb1.trans (hb2.mono hb1.size)⟩
theorem walk6 (A : Option Addr) (n cp : Nat) (os : List Op5) (ds : List (List Int)) (w : World) (he : OpSl w w.heap.size A n os ds) (hn : n ≤ maxLen) :
    Calls Try.prog 6 #[.slice A n cp] w fun v w' => v = .returned (.bool true) ∧ Below w.heap.size w w' := by
  by_cases hf : (os.all short && decide (n ≤ 30)) = true
  · exact walk6_few A n cp os ds w he hn hf
  · exact walk6_many A n cp os ds w he hn (by rw [← Bool.not_eq_true]; exact hf)
set_option maxRecDepth 100000 in
theorem lifted6 (os : Os) (started : os.Started) (H : Type) (enc : TypeId × Value → H) :
    ReturnsInHanded {} Try.checked os 6 .any (Rows.netsimAscendingSpec.pre6 enc Try.prog Try.f6 Rows.netsimAscendingRow.domain false) (Rows.netsimAscendingSpec.post enc Try.prog Try.f6 false true false false) := by
  refine returnsInHanded_of_change (C := Try.checked) own_ started (by kernel_rfl) Try.func6
    (ChangeSpec.witness6 (enc := enc) (C := Try.checked) false ⟨#[], #[.slice none 0 0], []⟩ 8 (by kernel_rfl) (by kernel_rfl) (by kernel_rfl) (by kernel_rfl)) ?_
  intro W base args ds gs before hval0 hW hcnd _
  have hval : ∀ (j : Nat) t v, Try.f6.params[j]? = some t → args[j]? = some v → Value.okWide Try.prog W .any base t v := hval0
  have hW' := hW
  obtain ⟨p, q, hA0, hV, rfl, hfz, hnd⟩ := hW
  have hA : DataW.TrodAll enc Try.prog W 0 (fun _ => true) true Try.f6.params.toList args.toList ds p := hA0
  rw [Try.params6] at hA hval
  obtain ⟨v0, vs0, d0, ds0, p0, q0, hargs, rfl, rfl, h0, r0⟩ := trodAll_cons hA
  obtain ⟨rfl, rfl, rfl⟩ := trodAll_nil r0
  obtain rfl : args = #[v0] := by cases args; simp_all
  obtain ⟨rfl, rfl⟩ := trodVars_none hV
  have k0 := h0
  have lt0 : ∀ x ∈ p0, x.block < W.heap.size := by obtain ⟨m, hm⟩ := k0; exact DataW.trod_lt m _ _ _ hm
  obtain ⟨A0, n0, cp0, rfl⟩ := okWide_slice Try.underlying36 (hval 0 36 v0 rfl rfl)
  obtain ⟨hn0, os0, dd0, he0⟩ : n0 ≤ maxLen ∧ ∃ os ds, OpSl W W.heap.size A0 n0 os ds := by
    obtain ⟨fuel, hf⟩ := h0
    exact ops_of_trod hf
  clear hA0 hval0
  refine (walk6 A0 n0 cp0 os0 dd0 W he0 hn0).mono fun e W' ⟨he, bel⟩ => ?_
  subst he
  exact ⟨_, rfl, _, _, _, [], _, [], hW', trodAll_mk1 (shut_bool Try.underlying4 _), (trodAll_cons_mk (Below.trod laidOut_ (by kernel_rfl) (of_decide_eq_true (by kernel_rfl)) k0 bel lt0) trodAll_mk0), rfl, bel.frame _, fun h => by cases h⟩

theorem netsimAscending_holds : Rows.NetsimAscendingSaid :=
  OpenClaim.holds_of_wide 6 Try.f6 rfl rfl rfl rfl rfl rfl rfl ⟨rfl, rfl, rfl, rfl, rfl⟩ rfl rfl rfl rfl rfl (by kernel_rfl) Try.func6 (by kernel_rfl)
    (of_decide_eq_true (by kernel_rfl)) (by unfold Func.isWrapper; first | (rw [if_pos (by decide +kernel)]; kernel_rfl) | (rw [if_neg (by decide +kernel)]; exact ⟨rfl, rfl⟩))
    (fun os started H enc _ => lifted6 os started H enc)

end Go.Proofs.Ytledcmcpinjboaa
