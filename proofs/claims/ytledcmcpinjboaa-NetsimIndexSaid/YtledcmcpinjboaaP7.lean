/-
NetsimIndex returns true for every input, and the input reads as it did.
-/
import Derived.Test.YtledcmcpinjboaaM1
import Derived.Test.YtledcmcpinjboaaOpenX
import Derived.WalkKit
import Derived.ProofKit
import Derived.OpenShut
import Derived.ShutString
import Derived.ChangeOld
import Derived.Below
import Derived.Lib.Hide
import Derived.Deep.RegionHeld3
import Derived.Deep.DeepCutAuto
import Derived.Deep.RegionWith
import Derived.Deep.MidRow
import Derived.Deep.WholeRow
namespace Go.Proofs.Ytledcmcpinjboaa
open Go.ChangeShapes Go.WideShapes Go.ChangeAt Go.RowKit
set_option linter.unusedVariables false

theorem i8_range {a : Int} (ha : (Lit.int .i8 a).wf = true) : -128 ≤ a ∧ a ≤ 127 := by
  simp only [Lit.wf, Bool.and_eq_true, decide_eq_true_eq] at ha
  exact ha
theorem mul_bound {a : Int} {n : Nat} (h1 : -128 ≤ a) (h2 : a ≤ 127) (hn : n ≤ 30) : -3840 ≤ a * (n : Int) ∧ a * (n : Int) ≤ 3840 := by
  have h3 : a * (n : Int) ≤ 127 * (n : Int) := Int.mul_le_mul_of_nonneg_right h2 (by omega)
  have h4 : -128 * (n : Int) ≤ a * (n : Int) := Int.mul_le_mul_of_nonneg_right h1 (by omega)
  omega

set_option maxRecDepth 100000 in
set_option maxHeartbeats 8000000 in
theorem walk7_in_e (A : Option Addr) (n cp : Nat) (os : List Op5) (ds : List (List Int)) (t : Int) (t2 : Int) (w : World) (he : OpSl w w.heap.size A n os ds) (hn : n ≤ maxLen) (wf : (Lit.int .i64 t).wf = true) (wf2 : (Lit.int .i8 t2).wf = true) (hf : (os.all short && decide (n ≤ 30)) = true) (hi1 : -1099511627776 ≤ t) (hi2 : t ≤ 1099511627776) (hp : (aRun (os.zip ds)).pend = []) :
    Calls Try.prog 7 #[.slice A n cp, .int .i64 t, .int .i8 t2] w fun v w' => v = .returned (.bool true) ∧ Below w.heap.size w w' := by
  unfold maxLen at hn
  have HF := Lib.hid hf
  rw [Bool.and_eq_true, List.all_eq_true] at hf
  have hsm : ∀ o ∈ os, o.n ≤ 60 := fun o ho => by simpa [short] using hf.1 o ho
  have hn30 : n ≤ 30 := by simpa using hf.2
  have HSM := Lib.hid hsm
  clear hf hsm
  have hd1 : decide (t < -1099511627776) = false := by simp; omega
  have hd2 : decide (1099511627776 < t) = false := by simp; omega
  have hk8 := i8_range wf2
  have HP := Lib.hid hp
  clear hp
  go_enter Try.func7, Try.ntmps7
  go_wp2_with fail
  refine (awake10 _).mono ?_
  rintro v w1 ⟨rfl, hb1⟩
  go_wp2_with fail
  refine (few17 w.heap.size A n cp os ds _ (he.keep fun b hb => hb1.block b hb) hn).mono ?_
  rintro v w1' ⟨rfl, rfl⟩
  rw [HF.out]
  go_wp2_with fail
  refine (run21 A n cp os ds _ (opsl_more (he.keep fun b hb => hb1.block b hb) hb1.size) HSM.out hn30).mono ?_
  rintro e w2 ⟨vw2, uw2, psw2, esw2, gsw2, rfl, stw2, bw2⟩
  have hb2 := hb1.trans (bw2.mono hb1.size)
  go_wp2_with fail
  refine (run21 A n cp os ds _ (opsl_more (he.keep fun b hb => hb2.block b hb) hb2.size) HSM.out hn30).mono ?_
  rintro e w3 ⟨vw3, uw3, psw3, esw3, gsw3, rfl, stw3, bw3⟩
  have hinv := inv_run (os.zip ds)
  have hzl := zip_le he
  generalize aRun (os.zip ds) = s at *
  have hb3 := hb2.trans (bw3.mono hb2.size)
  have sta := stw2.below bw3
  have hla : psw2.length = s.pend.length := sta.dp.1
  have hlb : psw3.length = s.pend.length := stw3.dp.1
  have hlp : s.pend.length ≤ 30 := by have := hinv.lp; omega
  clear stw2 bw3 bw2 he HF HSM hinv hzl
  have hpe := HP.out
  obtain rfl : psw2 = [] := List.eq_nil_of_length_eq_zero (by rw [hla, hpe]; rfl)
  obtain rfl : psw3 = [] := List.eq_nil_of_length_eq_zero (by rw [hlb, hpe]; rfl)
  clear hpe
  go_wp2_with fail
  refine (deliver15_0 _ _ _ _ t _ sta.net).mono ?_
  rintro e w4 ⟨rfl, b4⟩
  have st4a := (sta.below b4).alloc (.cells #[.int .i64 0, .int .i64 0, .int .i64 0, .slice none 0 0] 31)
  have st4b := (stw3.below b4).alloc (.cells #[.int .i64 0, .int .i64 0, .int .i64 0, .slice none 0 0] 31)
  have bx4 := Blk.new w4 31 #[.int .i64 0, .int .i64 0, .int .i64 0, .slice none 0 0]
  have hb4 := (hb3.trans (b4.mono hb3.size)).alloc (hb3.trans (b4.mono hb3.size)).size (.cells #[.int .i64 0, .int .i64 0, .int .i64 0, .slice none 0 0] 31)
  clear sta stw3 b4
  go_wp2_with fail
  refine (len19 _ _ _ _ _ _ st4b.net).mono ?_
  rintro e w4' ⟨rfl, rfl⟩
  go_wp2_with fail
  refine (deliver15_0 _ _ _ _ _ _ st4b.net).mono ?_
  rintro e w5 ⟨rfl, b5⟩
  have st5a := (st4a.below b5).alloc (.cells #[.int .i64 0, .int .i64 0, .int .i64 0, .slice none 0 0] 31)
  have st5b := (st4b.below b5).alloc (.cells #[.int .i64 0, .int .i64 0, .int .i64 0, .slice none 0 0] 31)
  have bx5a := (bx4.below b5 bx4.lt).alloc (.cells #[.int .i64 0, .int .i64 0, .int .i64 0, .slice none 0 0] 31)
  have bx5b := Blk.new w5 31 #[.int .i64 0, .int .i64 0, .int .i64 0, .slice none 0 0]
  have hb5' := hb4.trans (b5.mono hb4.size)
  have hb5 := hb5'.alloc hb5'.size (.cells #[.int .i64 0, .int .i64 0, .int .i64 0, .slice none 0 0] 31)
  have hl5 := (bx4.below b5 bx4.lt).lt
  have rz : ∀ W : World, Rd W (fun b => b < W.heap.size) ⟨0, 0, 0, none, 0, 0⟩ ⟨0, 0, 0, []⟩ := fun W => ⟨rfl, rfl, rfl, ⟨rfl, fun h0 => absurd h0 (by decide)⟩, Nat.zero_le _⟩
  clear st4a st4b bx4 b5 hb4 hb5'
  have a0 := bx5a.cell 0
  have a1 := bx5a.cell 1
  have a2 := bx5a.cell 2
  have a3 := bx5a.cell 3
  have c0 := bx5b.cell 0
  have c1 := bx5b.cell 1
  have c2 := bx5b.cell 2
  have c3 := bx5b.cell 3
  go_wp2_with fail
  refine (samePacket22 _ _ ⟨0, 0, 0, none, 0, 0⟩ ⟨0, 0, 0, none, 0, 0⟩ ⟨0, 0, 0, []⟩ _ (rz _) (rz _) (fun b hb' => hb') (fun b hb' => hb')).mono ?_
  rintro e w6 ⟨rfl, b6⟩
  have st6a := st5a.below b6
  have st6b := st5b.below b6
  have hb6 := hb5.trans (b6.mono hb5.size)
  clear a0 a1 a2 a3 c0 c1 c2 c3 bx5a bx5b st5a st5b b6 hb5
  go_wp2_with fail
  refine (pending14 _ _ _ _ _ s.pend _ st6a.net (st6a.dp.imp fun b hb' => hb'.1) (by simp)).mono ?_
  rintro e w7 ⟨A7, c7, p7, rfl, sl7, rd7, b7⟩
  have st7b := st6b.below b7
  have hb7 := hb6.trans (b7.mono hb6.size)
  go_wp2_with fail
  refine (pending14 _ _ _ _ _ s.pend _ st7b.net (st7b.dp.imp fun b hb' => hb'.1) (by simp)).mono ?_
  rintro e w8 ⟨A8, c8, p8, rfl, sl8, rd8, b8⟩
  have hb8 := hb7.trans (b8.mono hb7.size)
  have sl7' := sl7.keep (w' := w8) (ok' := fun b => b < w8.heap.size) fun b hb' => ⟨Nat.lt_of_lt_of_le hb'.2 b8.size, b8.block b hb'.2⟩
  have rd7' := rd7.keep (w' := w8) (ok' := fun b => b < w8.heap.size) fun b hb' => ⟨Nat.lt_of_lt_of_le hb'.2 b8.size, b8.block b hb'.2⟩
  clear sl7 rd7 st6a st6b st7b
  go_wp2_with fail
  refine (samePackets20 _ _ A7 A8 _ c7 _ c8 p7 p8 s.pend _ sl7' sl8 rd7' rd8 (fun b hb' => hb') (fun b hb' => hb'.2) (by omega)).mono ?_
  rintro e w9 ⟨rfl, b9⟩
  go_wp2_with fail
  go_ret
  exact ⟨rfl, hb8.trans (b9.mono hb8.size)⟩

set_option maxRecDepth 100000 in
set_option maxHeartbeats 8000000 in
theorem walk7_in_n (A : Option Addr) (n cp : Nat) (os : List Op5) (ds : List (List Int)) (t : Int) (t2 : Int) (w : World) (he : OpSl w w.heap.size A n os ds) (hn : n ≤ maxLen) (wf : (Lit.int .i64 t).wf = true) (wf2 : (Lit.int .i8 t2).wf = true) (hf : (os.all short && decide (n ≤ 30)) = true) (hi1 : -1099511627776 ≤ t) (hi2 : t ≤ 1099511627776) (hp : 0 < (aRun (os.zip ds)).pend.length) :
    Calls Try.prog 7 #[.slice A n cp, .int .i64 t, .int .i8 t2] w fun v w' => v = .returned (.bool true) ∧ Below w.heap.size w w' := by
  unfold maxLen at hn
  have HF := Lib.hid hf
  rw [Bool.and_eq_true, List.all_eq_true] at hf
  have hsm : ∀ o ∈ os, o.n ≤ 60 := fun o ho => by simpa [short] using hf.1 o ho
  have hn30 : n ≤ 30 := by simpa using hf.2
  have HSM := Lib.hid hsm
  clear hf hsm
  have hd1 : decide (t < -1099511627776) = false := by simp; omega
  have hd2 : decide (1099511627776 < t) = false := by simp; omega
  have hk8 := i8_range wf2
  have HP := Lib.hid hp
  clear hp
  go_enter Try.func7, Try.ntmps7
  go_wp2_with fail
  refine (awake10 _).mono ?_
  rintro v w1 ⟨rfl, hb1⟩
  go_wp2_with fail
  refine (few17 w.heap.size A n cp os ds _ (he.keep fun b hb => hb1.block b hb) hn).mono ?_
  rintro v w1' ⟨rfl, rfl⟩
  rw [HF.out]
  go_wp2_with fail
  refine (run21 A n cp os ds _ (opsl_more (he.keep fun b hb => hb1.block b hb) hb1.size) HSM.out hn30).mono ?_
  rintro e w2 ⟨vw2, uw2, psw2, esw2, gsw2, rfl, stw2, bw2⟩
  have hb2 := hb1.trans (bw2.mono hb1.size)
  go_wp2_with fail
  refine (run21 A n cp os ds _ (opsl_more (he.keep fun b hb => hb2.block b hb) hb2.size) HSM.out hn30).mono ?_
  rintro e w3 ⟨vw3, uw3, psw3, esw3, gsw3, rfl, stw3, bw3⟩
  have hinv := inv_run (os.zip ds)
  have hzl := zip_le he
  generalize aRun (os.zip ds) = s at *
  have hb3 := hb2.trans (bw3.mono hb2.size)
  have ra2 := stw2.dp.imp (ok' := fun b => Away w2 w1.heap.size vw2 b ∧ b < w2.heap.size) fun b hb' => ⟨hb'.1, hb'.1.1⟩
  have ra3 := ra2.keep (w' := w3) (ok' := fun b => Away w3 w1.heap.size vw2 b ∧ b < w2.heap.size) fun b hb' => ⟨⟨⟨Nat.lt_of_lt_of_le hb'.2 bw3.size, hb'.1.2⟩, hb'.2⟩, bw3.block b hb'.2⟩
  have hNa := stw2.net.box.lt
  have hva := fun g hg => (stw2.net.row.lt g hg).2
  have na3 := stw2.net.below bw3
  have rb3 := (stw3.dp.imp (ok' := Away w3 w2.heap.size vw3) fun b hb' => hb'.1).fresh stw3.pB
  have nb3 := stw3.net
  have hvb := fun g hg => nb3.row.lt g hg
  have hNb := nb3.box.lt
  have sta := stw2.below bw3
  have hla : psw2.length = s.pend.length := sta.dp.1
  have hlb : psw3.length = s.pend.length := stw3.dp.1
  have hlp : s.pend.length ≤ 30 := by have := hinv.lp; omega
  clear stw2 stw3 sta ra2 bw3 bw2 he HF HSM hinv hzl
  have h0a : 0 < psw2.length := by rw [hla]; exact HP.out
  have h0b : 0 < psw3.length := by rw [hlb]; exact HP.out
  have hpl := pos_lt t h0a
  have hps : pos (t + t2 * (s.pend.length : Int)) s.pend.length = pos t s.pend.length := by unfold pos; rw [Int.add_mul_emod_self_right]
  go_wp2_with fail
  refine (deliver15 _ _ _ _ t psw2 _ na3 h0a (by omega)).mono ?_
  rintro e w4 ⟨p, v4, hp4, rfl, d4⟩
  obtain ⟨p', q, g1, g2, g3⟩ := ra3.at_ hpl
  obtain rfl : p = p' := by rw [hp4] at g1; simpa using g1
  have ka : ∀ b, Away w3 w1.heap.size vw2 b ∧ b < w2.heap.size → (Away w4 w1.heap.size v4 b ∧ b < w2.heap.size) ∧ w4.heap[b]? = w3.heap[b]? := fun b hb' => ⟨⟨d4.step.away hb'.1, hb'.2⟩, d4.step.same hb'.1⟩
  have ra4 := Rds.erase (pos t psw2.length) (ra3.keep ka)
  have rp4 := g3.keep ka
  have kb : ∀ b, w2.heap.size ≤ b → b < w3.heap.size → w4.heap[b]? = w3.heap[b]? := fun b h1 h2 => d4.step.block b h2 (by omega) (fun e => by have := hva b e.symm; omega)
  have nb4 : NetW w4 w2.heap.size w2.heap.size vw3 s.last psw3 := nb3.beside d4.step (by omega) (fun e => by have := hva _ e.symm; omega) (fun g hg => ⟨by have := (hvb g hg).1; omega, fun e => by have := hva g e.symm; have := (hvb g hg).1; omega⟩)
  have rb4 := rb3.keep (w' := w4) (ok' := fun b => Away w4 w2.heap.size vw3 b ∧ w2.heap.size ≤ b) fun b hb' => ⟨⟨⟨Nat.lt_of_lt_of_le hb'.1.1 d4.step.size, hb'.1.2⟩, hb'.2⟩, kb b hb'.2 hb'.1.1⟩
  have hb4 := hb3.trans ((na3.stepBelow d4.step (by have := hb3.size; omega)).mono hb1.size)
  have hv4 : ∀ g, v4.ownBlock = some g → g < w2.heap.size ∨ w3.heap.size ≤ g := fun g hg => by
    rcases d4.step.lies g hg with h | h
    · exact .inl (hva g h)
    · exact .inr h
  have na4 := d4.net
  have hz34 := d4.step.size
  rw [hla] at na4 ra4 g2 hp4
  clear d4 ka kb ra3 rb3 na3 nb3 g1 g3 hp4
  -- the box of the first packet
  have na5 := na4.alloc (.cells #[.int .i64 p.num, .int .i64 p.frm, .int .i64 p.dst, .slice p.A p.n p.c] 31)
  have nb5 := nb4.alloc (.cells #[.int .i64 p.num, .int .i64 p.frm, .int .i64 p.dst, .slice p.A p.n p.c] 31)
  have k5 : ∀ b, b < w4.heap.size → (w4.alloc (.cells #[.int .i64 p.num, .int .i64 p.frm, .int .i64 p.dst, .slice p.A p.n p.c] 31)).heap[b]? = w4.heap[b]? := fun b hb' => Below.heap_alloc _ _ _ hb'
  have ra5 := ra4.keep (w' := w4.alloc (.cells #[.int .i64 p.num, .int .i64 p.frm, .int .i64 p.dst, .slice p.A p.n p.c] 31)) (ok' := fun b => Away (w4.alloc (.cells #[.int .i64 p.num, .int .i64 p.frm, .int .i64 p.dst, .slice p.A p.n p.c] 31)) w1.heap.size v4 b ∧ b < w2.heap.size) fun b hb' => ⟨⟨⟨by have := hb'.1.1; simp; omega, hb'.1.2⟩, hb'.2⟩, k5 b hb'.1.1⟩
  have rb5 := rb4.keep (w' := w4.alloc (.cells #[.int .i64 p.num, .int .i64 p.frm, .int .i64 p.dst, .slice p.A p.n p.c] 31)) (ok' := fun b => Away (w4.alloc (.cells #[.int .i64 p.num, .int .i64 p.frm, .int .i64 p.dst, .slice p.A p.n p.c] 31)) w2.heap.size vw3 b ∧ w2.heap.size ≤ b) fun b hb' => ⟨⟨⟨by have := hb'.1.1; simp; omega, hb'.1.2⟩, hb'.2⟩, k5 b hb'.1.1⟩
  have rp5 := rp4.keep (w' := w4.alloc (.cells #[.int .i64 p.num, .int .i64 p.frm, .int .i64 p.dst, .slice p.A p.n p.c] 31)) (ok' := fun b => Away (w4.alloc (.cells #[.int .i64 p.num, .int .i64 p.frm, .int .i64 p.dst, .slice p.A p.n p.c] 31)) w1.heap.size v4 b ∧ b < w2.heap.size) fun b hb' => ⟨⟨⟨by have := hb'.1.1; simp; omega, hb'.1.2⟩, hb'.2⟩, k5 b hb'.1.1⟩
  have bx5 := Blk.new w4 31 #[.int .i64 p.num, .int .i64 p.frm, .int .i64 p.dst, .slice p.A p.n p.c]
  have hb5 := hb4.alloc hb4.size (.cells #[.int .i64 p.num, .int .i64 p.frm, .int .i64 p.dst, .slice p.A p.n p.c] 31)
  clear na4 nb4 ra4 rb4 rp4 k5 hb4
  have hm1 : -3840 ≤ t2 * (s.pend.length : Int) ∧ t2 * (s.pend.length : Int) ≤ 3840 := mul_bound hk8.1 hk8.2 hlp
  have HPS := Lib.hid hps
  clear hps
  go_wp2_with fail
  refine (len19 _ _ _ _ _ _ nb5).mono ?_
  rintro e w5' ⟨rfl, rfl⟩
  rw [hlb]
  have hw1 : IntKind.i64.wrap (t2 * (s.pend.length : Int)) = t2 * (s.pend.length : Int) := by rw [IntKind.wrap_i64]; omega
  go_wp2_with fail
  refine (deliver15 _ _ _ _ _ psw3 _ nb5 h0b (by omega)).mono ?_
  rintro e w6 ⟨p2, v6, hp6, rfl, d6⟩
  rw [hlb, HPS.out] at hp6 d6
  obtain ⟨p2', q2, j1, j2, j3⟩ := rb5.at_ (i := pos t s.pend.length) (by rw [hlb, ← hla]; exact hpl)
  obtain rfl : p2 = p2' := by rw [hp6] at j1; simpa using j1
  obtain rfl : q = q2 := by rw [g2] at j2; simpa using j2
  have kb6 : ∀ b, Away (w4.alloc (.cells #[.int .i64 p.num, .int .i64 p.frm, .int .i64 p.dst, .slice p.A p.n p.c] 31)) w2.heap.size vw3 b ∧ w2.heap.size ≤ b → (Away w6 w2.heap.size v6 b) ∧ w6.heap[b]? = (w4.alloc (.cells #[.int .i64 p.num, .int .i64 p.frm, .int .i64 p.dst, .slice p.A p.n p.c] 31)).heap[b]? := fun b hb' => ⟨d6.step.away hb'.1, d6.step.same hb'.1⟩
  have rb6 := Rds.erase (pos t s.pend.length) (rb5.keep kb6)
  have rq6 := j3.keep kb6
  have ka6 : ∀ b, Away (w4.alloc (.cells #[.int .i64 p.num, .int .i64 p.frm, .int .i64 p.dst, .slice p.A p.n p.c] 31)) w1.heap.size v4 b ∧ b < w2.heap.size → (Away w6 w1.heap.size v4 b) ∧ w6.heap[b]? = (w4.alloc (.cells #[.int .i64 p.num, .int .i64 p.frm, .int .i64 p.dst, .slice p.A p.n p.c] 31)).heap[b]? := fun b hb' => ⟨⟨Nat.lt_of_lt_of_le hb'.1.1 d6.step.size, hb'.1.2⟩, d6.step.block b hb'.1.1 (by omega) (fun e => by have := (hvb b e.symm).1; omega)⟩
  have ra6 := ra5.keep ka6
  have rp6 := rp5.keep ka6
  have na6 := na5.beside d6.step (by omega) (fun e => by have := (hvb _ e.symm).1; omega) (fun g hg => by
    rcases hv4 g hg with h | h
    · exact ⟨by omega, fun e => by have := (hvb g e.symm).1; omega⟩
    · exact ⟨by omega, fun e => by have := (hvb g e.symm).2; omega⟩)
  have bx6 : Blk w6 w4.heap.size 31 #[.int .i64 p.num, .int .i64 p.frm, .int .i64 p.dst, .slice p.A p.n p.c] := (d6.step.block _ bx5.lt (by omega) (fun e => by have := (hvb _ e.symm).2; omega)).trans bx5
  have nb6 := d6.net
  have hb6 := hb5.trans ((nb5.stepBelow d6.step (by simp; omega)).mono (by have := hb1.size; have := hb2.size; omega))
  clear d6 kb6 ka6 ra5 rb5 rp5 na5 nb5 bx5 hb5 j1 j2 j3 hp6 hw1 hm1 HPS
  -- the box of the second packet
  have bq : ∀ b, b < w6.heap.size → (w6.alloc (.cells #[.int .i64 p2.num, .int .i64 p2.frm, .int .i64 p2.dst, .slice p2.A p2.n p2.c] 31)).heap[b]? = w6.heap[b]? := fun b hb' => Below.heap_alloc _ _ _ hb'
  have rp7 := rp6.keep (w' := w6.alloc (.cells #[.int .i64 p2.num, .int .i64 p2.frm, .int .i64 p2.dst, .slice p2.A p2.n p2.c] 31)) (ok' := fun b => b < w6.heap.size) fun b hb' => ⟨hb'.1, bq b hb'.1⟩
  have rq7 := rq6.keep (w' := w6.alloc (.cells #[.int .i64 p2.num, .int .i64 p2.frm, .int .i64 p2.dst, .slice p2.A p2.n p2.c] 31)) (ok' := fun b => b < w6.heap.size) fun b hb' => ⟨hb'.1, bq b hb'.1⟩
  have ra7 := ra6.keep (w' := w6.alloc (.cells #[.int .i64 p2.num, .int .i64 p2.frm, .int .i64 p2.dst, .slice p2.A p2.n p2.c] 31)) (ok' := Away (w6.alloc (.cells #[.int .i64 p2.num, .int .i64 p2.frm, .int .i64 p2.dst, .slice p2.A p2.n p2.c] 31)) w1.heap.size v4) fun b hb' => ⟨⟨by have := hb'.1; simp; omega, hb'.2⟩, bq b hb'.1⟩
  have rb7 := rb6.keep (w' := w6.alloc (.cells #[.int .i64 p2.num, .int .i64 p2.frm, .int .i64 p2.dst, .slice p2.A p2.n p2.c] 31)) (ok' := Away (w6.alloc (.cells #[.int .i64 p2.num, .int .i64 p2.frm, .int .i64 p2.dst, .slice p2.A p2.n p2.c] 31)) w2.heap.size v6) fun b hb' => ⟨⟨by have := hb'.1; simp; omega, hb'.2⟩, bq b hb'.1⟩
  have na7 := na6.alloc (.cells #[.int .i64 p2.num, .int .i64 p2.frm, .int .i64 p2.dst, .slice p2.A p2.n p2.c] 31)
  have nb7 := nb6.alloc (.cells #[.int .i64 p2.num, .int .i64 p2.frm, .int .i64 p2.dst, .slice p2.A p2.n p2.c] 31)
  have bx7 := bx6.alloc (.cells #[.int .i64 p2.num, .int .i64 p2.frm, .int .i64 p2.dst, .slice p2.A p2.n p2.c] 31)
  have by7 := Blk.new w6 31 #[.int .i64 p2.num, .int .i64 p2.frm, .int .i64 p2.dst, .slice p2.A p2.n p2.c]
  have hb7 := hb6.alloc hb6.size (.cells #[.int .i64 p2.num, .int .i64 p2.frm, .int .i64 p2.dst, .slice p2.A p2.n p2.c] 31)
  have hl6 := bx6.lt
  have a0 : w6.cell? ⟨w4.heap.size, 0, none⟩ = some (.int .i64 p.num) := bx6.cell 0
  have a1 : w6.cell? ⟨w4.heap.size, 1, none⟩ = some (.int .i64 p.frm) := bx6.cell 1
  have a2 : w6.cell? ⟨w4.heap.size, 2, none⟩ = some (.int .i64 p.dst) := bx6.cell 2
  have a3 : w6.cell? ⟨w4.heap.size, 3, none⟩ = some (.slice p.A p.n p.c) := bx6.cell 3
  clear ra6 rb6 rp6 rq6 na6 nb6 bx6 hb6 bq
  go_wp2_with fail
  refine (samePacket22 _ _ p p2 q _ rp7 rq7 (fun b hb' => by simp; omega) (fun b hb' => by simp; omega)).mono ?_
  rintro e w8 ⟨rfl, b8⟩
  have na8 := na7.below b8
  have nb8 := nb7.below b8
  have ra8 := ra7.keep (w' := w8) (ok' := Away w8 w1.heap.size v4) fun b hb' => ⟨⟨Nat.lt_of_lt_of_le hb'.1 b8.size, hb'.2⟩, b8.block b hb'.1⟩
  have rb8 := rb7.keep (w' := w8) (ok' := Away w8 w2.heap.size v6) fun b hb' => ⟨⟨Nat.lt_of_lt_of_le hb'.1 b8.size, hb'.2⟩, b8.block b hb'.1⟩
  have hb8 := hb7.trans (b8.mono hb7.size)
  clear na7 nb7 ra7 rb7 rp7 rq7 bx7 by7 b8 hb7 a0 a1 a2 a3
  have hea : (psw2.eraseIdx (pos t s.pend.length)).length ≤ 30 := by have := List.length_eraseIdx_le psw2 (pos t s.pend.length); omega
  have heb : (psw3.eraseIdx (pos t s.pend.length)).length ≤ 30 := by have := List.length_eraseIdx_le psw3 (pos t s.pend.length); omega
  have hes : (s.pend.eraseIdx (pos t s.pend.length)).length ≤ 30 := by have := List.length_eraseIdx_le s.pend (pos t s.pend.length); omega
  generalize s.pend.eraseIdx (pos t s.pend.length) = qs at *
  go_wp2_with fail
  refine (pending14 _ _ _ _ _ qs _ na8 ra8 (by omega)).mono ?_
  rintro e w9 ⟨A9, c9, p9, rfl, sl9, rd9, b9⟩
  have nb9 := nb8.below b9
  have rb9 := rb8.keep (w' := w9) (ok' := Away w9 w2.heap.size v6) fun b hb' => ⟨⟨Nat.lt_of_lt_of_le hb'.1 b9.size, hb'.2⟩, b9.block b hb'.1⟩
  have hb9 := hb8.trans (b9.mono hb8.size)
  clear na8 nb8 ra8 rb8
  go_wp2_with fail
  refine (pending14 _ _ _ _ _ qs _ nb9 rb9 (by omega)).mono ?_
  rintro e w10 ⟨A10, c10, p10, rfl, sl10, rd10, b10⟩
  have hb10 := hb9.trans (b10.mono hb9.size)
  have sl9' := sl9.keep (w' := w10) (ok' := fun b => b < w10.heap.size) fun b hb' => ⟨Nat.lt_of_lt_of_le hb'.2 b10.size, b10.block b hb'.2⟩
  have rd9' := rd9.keep (w' := w10) (ok' := fun b => b < w10.heap.size) fun b hb' => ⟨Nat.lt_of_lt_of_le hb'.2 b10.size, b10.block b hb'.2⟩
  clear sl9 rd9 nb9 rb9
  go_wp2_with fail
  refine (samePackets20 _ _ A9 A10 _ c9 _ c10 p9 p10 qs _ sl9' sl10 rd9' rd10 (fun b hb' => hb') (fun b hb' => hb'.2) (by omega)).mono ?_
  rintro e w11 ⟨rfl, b11⟩
  go_wp2_with fail
  go_ret
  exact ⟨rfl, hb10.trans (b11.mono hb10.size)⟩

set_option maxRecDepth 100000 in
set_option maxHeartbeats 8000000 in
theorem walk7_out (A : Option Addr) (n cp : Nat) (os : List Op5) (ds : List (List Int)) (t : Int) (t2 : Int) (w : World) (he : OpSl w w.heap.size A n os ds) (hn : n ≤ maxLen) (wf : (Lit.int .i64 t).wf = true) (wf2 : (Lit.int .i8 t2).wf = true) (hf : (os.all short && decide (n ≤ 30)) = true) (hi : t < -1099511627776 ∨ 1099511627776 < t) :
    Calls Try.prog 7 #[.slice A n cp, .int .i64 t, .int .i8 t2] w fun v w' => v = .returned (.bool true) ∧ Below w.heap.size w w' := by
  unfold maxLen at hn
  have HF := Lib.hid hf
  rw [Bool.and_eq_true, List.all_eq_true] at hf
  have hsm : ∀ o ∈ os, o.n ≤ 60 := fun o ho => by simpa [short] using hf.1 o ho
  have hn30 : n ≤ 30 := by simpa using hf.2
  have HSM := Lib.hid hsm
  clear hf hsm
  rcases hi with hi | hi
  · have hd1 : decide (t < -1099511627776) = true := by simp; omega
    go_enter Try.func7, Try.ntmps7
    go_wp2_with fail
    refine (awake10 _).mono ?_
    rintro v w1 ⟨rfl, hb1⟩
    go_wp2_with fail
    refine (few17 w.heap.size A n cp os ds _ (he.keep fun b hb => hb1.block b hb) hn).mono ?_
    rintro v w1' ⟨rfl, rfl⟩
    rw [HF.out]
    go_wp2_with fail
    refine (awake10 _).mono ?_
    rintro v w2 ⟨rfl, hb2⟩
    go_wp2_with fail
    go_ret
    exact ⟨rfl, hb1.trans (hb2.mono hb1.size)⟩
  · have hd1 : decide (t < -1099511627776) = false := by simp; omega
    have hd2 : decide (1099511627776 < t) = true := by simp; omega
    go_enter Try.func7, Try.ntmps7
    go_wp2_with fail
    refine (awake10 _).mono ?_
    rintro v w1 ⟨rfl, hb1⟩
    go_wp2_with fail
    refine (few17 w.heap.size A n cp os ds _ (he.keep fun b hb => hb1.block b hb) hn).mono ?_
    rintro v w1' ⟨rfl, rfl⟩
    rw [HF.out]
    go_wp2_with fail
    refine (awake10 _).mono ?_
    rintro v w2 ⟨rfl, hb2⟩
    go_wp2_with fail
    go_ret
    exact ⟨rfl, hb1.trans (hb2.mono hb1.size)⟩

set_option maxHeartbeats 1000000 in
theorem walk7_many (A : Option Addr) (n cp : Nat) (os : List Op5) (ds : List (List Int)) (t : Int) (t2 : Int) (w : World) (he : OpSl w w.heap.size A n os ds) (hn : n ≤ maxLen) (wf : (Lit.int .i64 t).wf = true) (wf2 : (Lit.int .i8 t2).wf = true) (hf : (os.all short && decide (n ≤ 30)) = false) :
    Calls Try.prog 7 #[.slice A n cp, .int .i64 t, .int .i8 t2] w fun v w' => v = .returned (.bool true) ∧ Below w.heap.size w w' := by
  unfold maxLen at hn
  go_enter Try.func7, Try.ntmps7
  go_wp2_with fail
  refine (awake10 _).mono ?_
  rintro v w1 ⟨rfl, hb1⟩
  go_wp2_with fail
  refine (few17 w.heap.size A n cp os ds _ (he.keep fun b hb => hb1.block b hb) hn).mono ?_
  rintro v w1' ⟨rfl, rfl⟩
  rw [hf]
  go_wp2_with fail
  refine (awake10 _).mono ?_
  rintro v w2 ⟨rfl, hb2⟩
  go_wp2_with fail
  go_ret
  exact ⟨rfl, hb1.trans (hb2.mono hb1.size)⟩
theorem walk7 (A : Option Addr) (n cp : Nat) (os : List Op5) (ds : List (List Int)) (t : Int) (t2 : Int) (w : World) (he : OpSl w w.heap.size A n os ds) (hn : n ≤ maxLen) (wf : (Lit.int .i64 t).wf = true) (wf2 : (Lit.int .i8 t2).wf = true) :
    Calls Try.prog 7 #[.slice A n cp, .int .i64 t, .int .i8 t2] w fun v w' => v = .returned (.bool true) ∧ Below w.heap.size w w' := by
  by_cases hf : (os.all short && decide (n ≤ 30)) = true
  · by_cases hi : t < -1099511627776 ∨ 1099511627776 < t
    · exact walk7_out A n cp os ds t t2 w he hn wf wf2 hf hi
    · rcases Nat.eq_zero_or_pos (aRun (os.zip ds)).pend.length with hp | hp
      · exact walk7_in_e A n cp os ds t t2 w he hn wf wf2 hf (by omega) (by omega) (List.eq_nil_of_length_eq_zero hp)
      · exact walk7_in_n A n cp os ds t t2 w he hn wf wf2 hf (by omega) (by omega) hp
  · exact walk7_many A n cp os ds t t2 w he hn wf wf2 (by rw [← Bool.not_eq_true]; exact hf)
set_option maxRecDepth 100000 in
theorem lifted7 (os : Os) (started : os.Started) (H : Type) (enc : TypeId × Value → H) :
    ReturnsInHanded {} Try.checked os 7 .any (Rows.netsimIndexSpec.pre6 enc Try.prog Try.f7 Rows.netsimIndexRow.domain false) (Rows.netsimIndexSpec.post enc Try.prog Try.f7 false true false false) := by
  refine returnsInHanded_of_change (C := Try.checked) own_ started (by kernel_rfl) Try.func7
    (ChangeSpec.witness6 (enc := enc) (C := Try.checked) false ⟨#[], #[.slice none 0 0, .int .i64 0, .int .i8 0], []⟩ 8 (by kernel_rfl) (by kernel_rfl) (by kernel_rfl) (by kernel_rfl)) ?_
  intro W base args ds gs before hval0 hW hcnd _
  have hval : ∀ (j : Nat) t v, Try.f7.params[j]? = some t → args[j]? = some v → Value.okWide Try.prog W .any base t v := hval0
  have hW' := hW
  obtain ⟨p, q, hA0, hV, rfl, hfz, hnd⟩ := hW
  have hA : DataW.TrodAll enc Try.prog W 0 (fun _ => true) true Try.f7.params.toList args.toList ds p := hA0
  rw [Try.params7] at hA hval
  obtain ⟨v0, vs0, d0, ds0, p0, q0, hargs, rfl, rfl, h0, r0⟩ := trodAll_cons hA
  obtain ⟨v1, vs1, d1, ds1, p1, q1, rfl, rfl, rfl, h1, r1⟩ := trodAll_cons r0
  obtain ⟨v2, vs2, d2, ds2, p2, q2, rfl, rfl, rfl, h2, r2⟩ := trodAll_cons r1
  obtain ⟨rfl, rfl, rfl⟩ := trodAll_nil r2
  obtain rfl : args = #[v0, v1, v2] := by cases args; simp_all
  obtain ⟨rfl, rfl⟩ := trodVars_none hV
  have k0 := h0
  have lt0 : ∀ x ∈ p0, x.block < W.heap.size := by obtain ⟨m, hm⟩ := k0; exact DataW.trod_lt m _ _ _ hm
  obtain ⟨A0, n0, cp0, rfl⟩ := okWide_slice Try.underlying36 (hval 0 36 v0 rfl rfl)
  obtain ⟨hn0, os0, dd0, he0⟩ : n0 ≤ maxLen ∧ ∃ os ds, OpSl W W.heap.size A0 n0 os ds := by
    obtain ⟨fuel, hf⟩ := h0
    exact ops_of_trod hf
  have k1 := h1
  have lt1 : ∀ x ∈ p1, x.block < W.heap.size := by obtain ⟨m, hm⟩ := k1; exact DataW.trod_lt m _ _ _ hm
  obtain ⟨a1, rfl, rfl, rfl, wf1⟩ := open_int Try.underlying3 (hval 1 3 v1 rfl rfl) h1
  have k2 := h2
  have lt2 : ∀ x ∈ p2, x.block < W.heap.size := by obtain ⟨m, hm⟩ := k2; exact DataW.trod_lt m _ _ _ hm
  obtain ⟨a2, rfl, rfl, rfl, wf2⟩ := open_int Try.underlying51 (hval 2 51 v2 rfl rfl) h2
  clear hA0 hval0
  refine (walk7 A0 n0 cp0 os0 dd0 a1 a2 W he0 hn0 wf1 wf2).mono fun e W' ⟨he, bel⟩ => ?_
  subst he
  exact ⟨_, rfl, _, _, _, [], _, [], hW', trodAll_mk1 (shut_bool Try.underlying4 _), (trodAll_cons_mk (Below.trod laidOut_ (by kernel_rfl) (of_decide_eq_true (by kernel_rfl)) k0 bel lt0) (trodAll_cons_mk (Below.trod laidOut_ (by kernel_rfl) (of_decide_eq_true (by kernel_rfl)) k1 bel lt1) (trodAll_cons_mk (Below.trod laidOut_ (by kernel_rfl) (of_decide_eq_true (by kernel_rfl)) k2 bel lt2) trodAll_mk0))), rfl, bel.frame _, fun h => by cases h⟩

theorem netsimIndex_holds : Rows.NetsimIndexSaid :=
  OpenClaim.holds_of_wide 7 Try.f7 rfl rfl rfl rfl rfl rfl rfl ⟨rfl, rfl, rfl, rfl, rfl⟩ rfl rfl rfl rfl rfl (by kernel_rfl) Try.func7 (by kernel_rfl)
    (of_decide_eq_true (by kernel_rfl)) (by unfold Func.isWrapper; first | (rw [if_pos (by decide +kernel)]; kernel_rfl) | (rw [if_neg (by decide +kernel)]; exact ⟨rfl, rfl⟩))
    (fun os started H enc _ => lifted7 os started H enc)

end Go.Proofs.Ytledcmcpinjboaa
