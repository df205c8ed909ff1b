/-
NetsimLoses returns true for every input, and the input reads as it did.
-/
import Derived.Test.YtledcmcpinjboaaN2
import Derived.Test.YtledcmcpinjboaaQ
import Derived.Test.YtledcmcpinjboaaOpenX
import Derived.WalkKit
import Derived.ProofKit
import Derived.OpenShut
import Derived.ShutString
import Derived.ChangeOld
import Derived.Below
import Derived.Lib.Hide
import Derived.Deep.RegionHeld3
import Derived.Deep.DeepCutAuto
import Derived.Deep.RegionWith
import Derived.Deep.MidRow
import Derived.Deep.WholeRow
namespace Go.Proofs.Ytledcmcpinjboaa
open Go.ChangeShapes Go.WideShapes Go.ChangeAt Go.RowKit
set_option linter.unusedVariables false

theorem app_keep {B n : Nat} {xs : List Value} {w0 W W' : World} {v v' : Value} (hb : Below B w0 W) (hB : B ≤ W.heap.size) (hown : W.ownsRow B 31 4 v n xs) (hg : W.grownBy W' v.ownBlock) (hat : v'.ownBlock = v.ownBlock ∨ v'.ownBlock = some W.heap.size) :
    Below B w0 W' ∧ ∀ b, (b < W.heap.size ∧ v.ownBlock ≠ some b) → (b < W'.heap.size ∧ v'.ownBlock ≠ some b) ∧ W'.heap[b]? = W.heap[b]? := by
  refine ⟨⟨hg.os.trans hb.os, hg.tape.trans hb.tape, hg.output.trans hb.output, Nat.le_trans hb.size hg.size, fun k hk => ?_⟩, fun b hb' => ⟨⟨Nat.lt_of_lt_of_le hb'.1 hg.size, ?_⟩, hg.block b hb'.1 fun e => hb'.2 e.symm⟩⟩
  · by_cases hkW : k < W.heap.size
    · exact (hg.block k hkW fun e => by have := (hown.lt k e.symm).1; omega).trans (hb.block k hk)
    · omega
  · rcases hat with h | h
    · rw [h]; exact hb'.2
    · rw [h]; intro e; simp at e; omega
/-- the blocks that are none of the network's are as they were in w. -/
def KeepA (w : World) (N : Nat) (v : Value) (W : World) : Prop := w.heap.size ≤ W.heap.size ∧ ∀ b, Away w N v b → W.heap[b]? = w.heap[b]?
theorem KeepA.refl {w : World} {N : Nat} {v : Value} : KeepA w N v w := ⟨Nat.le_refl _, fun _ _ => rfl⟩
theorem KeepA.drew {w W : World} {N : Nat} {v : Value} (h : KeepA w N v W) : KeepA w N v W.drew := h
theorem KeepA.below {w W : World} {N : Nat} {v : Value} (h : Below w.heap.size w W) : KeepA w N v W := ⟨h.size, fun b hb => h.block b hb.1⟩
theorem KeepA.step {w W W' : World} {N : Nat} {v v' : Value} (h : Below w.heap.size w W) (t : NStep N v W v' W') : KeepA w N v W' :=
  ⟨Nat.le_trans h.size t.size, fun b hb => (t.block b (Nat.lt_of_lt_of_le hb.1 h.size) hb.2.1 hb.2.2).trans (h.block b hb.1)⟩

set_option maxRecDepth 100000 in
set_option maxHeartbeats 8000000 in
theorem walk9_e (A : Option Addr) (n cp : Nat) (os : List Op5) (ds : List (List Int)) (t : Int) (w : World) (he : OpSl w w.heap.size A n os ds) (hn : n ≤ maxLen) (wf : (Lit.int .i64 t).wf = true) (hf : (os.all short && decide (n ≤ 30)) = true) (hp : (aRun (os.zip ds)).pend = []) :
    Calls Try.prog 9 #[.slice A n cp, .int .i64 t] w fun v w' => v = .returned (.bool true) ∧ Below w.heap.size w w' := by
  unfold maxLen at hn
  have HF := Lib.hid hf
  rw [Bool.and_eq_true, List.all_eq_true] at hf
  have hsm : ∀ o ∈ os, o.n ≤ 60 := fun o ho => by simpa [short] using hf.1 o ho
  have hn30 : n ≤ 30 := by simpa using hf.2
  have HSM := Lib.hid hsm
  clear hf hsm
  have HP := Lib.hid hp
  clear hp
  go_enter Try.func9, Try.ntmps9
  go_wp2_with fail
  refine (awake10 _).mono ?_
  rintro v w1 ⟨rfl, hb1⟩
  go_wp2_with fail
  refine (few17 w.heap.size A n cp os ds _ (he.keep fun b hb => hb1.block b hb) hn).mono ?_
  rintro v w1' ⟨rfl, rfl⟩
  rw [HF.out]
  go_wp2_with fail
  refine (run21 A n cp os ds _ (opsl_more (he.keep fun b hb => hb1.block b hb) hb1.size) HSM.out hn30).mono ?_
  rintro e w2 ⟨vw2, uw2, psw2, esw2, gsw2, rfl, stw2, bw2⟩
  have hinv := inv_run (os.zip ds)
  have hzl := zip_le he
  generalize aRun (os.zip ds) = s at *
  have hlp : s.pend.length ≤ 30 := by have := hinv.lp; omega
  have hl0 : 0 ≤ s.last := by have := hinv.len; omega
  have hl1 : s.last ≤ 30 := by have := hinv.len; have := hinv.le; omega
  have hb2 := hb1.trans (bw2.mono hb1.size)
  have h1w := hb1.size
  have h12 := bw2.size
  clear hinv hzl he HF HSM
  go_wp2_with fail
  refine (pending14 _ _ _ _ psw2 s.pend _ stw2.net (stw2.dp.imp fun b hb' => hb'.1) (by have := stw2.dp.1; omega)).mono ?_
  rintro e w3 ⟨A3, c3, p3, rfl, sl3, rd3, b3⟩
  have hb3 := hb2.trans (b3.mono hb2.size)
  have n3 := stw2.net.below b3
  have r3 := stw2.dp.keep (w' := w3) (ok' := Away w3 w1.heap.size vw2) fun b hb' => ⟨⟨Nat.lt_of_lt_of_le hb'.1.1 b3.size, hb'.1.2⟩, b3.block b hb'.1.1⟩
  have sl3 := sl3.keep (w' := w3) (ok' := Away w3 w1.heap.size vw2) fun b hb' => ⟨fresh_away stw2.net _ hb'.1 hb'.2, rfl⟩
  have rd3 := rd3.imp (ok' := Away w3 w1.heap.size vw2) fun b hb' => fresh_away stw2.net _ hb'.1 hb'.2
  have h23 := b3.size
  have hlps : psw2.length = s.pend.length := stw2.dp.1
  have HLPS := Lib.hid hlps
  clear stw2 bw2 b3 hb2 hlps
  have hpe := HP.out
  obtain rfl : psw2 = [] := List.eq_nil_of_length_eq_zero (by rw [HLPS.out, hpe]; rfl)
  have h0 : ((s.pend.length : Int) == 0) = true := by rw [hpe]; rfl
  clear hpe
  go_wp2_with fail
  refine (drop24_0 _ _ _ _ t _ n3).mono ?_
  rintro e w4 ⟨rfl, b4⟩
  have n4 := n3.below b4
  have hb4 := hb3.trans (b4.mono hb3.size)
  go_wp2_with fail
  refine (double13_0 _ _ _ _ t _ n4).mono ?_
  rintro e w5 ⟨rfl, b5⟩
  go_wp2_with fail
  go_ret
  exact ⟨rfl, hb4.trans (b5.mono hb4.size)⟩

set_option maxRecDepth 100000 in
set_option maxHeartbeats 8000000 in
theorem walk9_n (A : Option Addr) (n cp : Nat) (os : List Op5) (ds : List (List Int)) (t : Int) (w : World) (he : OpSl w w.heap.size A n os ds) (hn : n ≤ maxLen) (wf : (Lit.int .i64 t).wf = true) (hf : (os.all short && decide (n ≤ 30)) = true) (hp : 0 < (aRun (os.zip ds)).pend.length) :
    Calls Try.prog 9 #[.slice A n cp, .int .i64 t] w fun v w' => v = .returned (.bool true) ∧ Below w.heap.size w w' := by
  unfold maxLen at hn
  have HF := Lib.hid hf
  rw [Bool.and_eq_true, List.all_eq_true] at hf
  have hsm : ∀ o ∈ os, o.n ≤ 60 := fun o ho => by simpa [short] using hf.1 o ho
  have hn30 : n ≤ 30 := by simpa using hf.2
  have HSM := Lib.hid hsm
  clear hf hsm
  have HP := Lib.hid hp
  clear hp
  go_enter Try.func9, Try.ntmps9
  go_wp2_with fail
  refine (awake10 _).mono ?_
  rintro v w1 ⟨rfl, hb1⟩
  go_wp2_with fail
  refine (few17 w.heap.size A n cp os ds _ (he.keep fun b hb => hb1.block b hb) hn).mono ?_
  rintro v w1' ⟨rfl, rfl⟩
  rw [HF.out]
  go_wp2_with fail
  refine (run21 A n cp os ds _ (opsl_more (he.keep fun b hb => hb1.block b hb) hb1.size) HSM.out hn30).mono ?_
  rintro e w2 ⟨vw2, uw2, psw2, esw2, gsw2, rfl, stw2, bw2⟩
  have hinv := inv_run (os.zip ds)
  have hzl := zip_le he
  generalize aRun (os.zip ds) = s at *
  have hlp : s.pend.length ≤ 30 := by have := hinv.lp; omega
  have hl0 : 0 ≤ s.last := by have := hinv.len; omega
  have hl1 : s.last ≤ 30 := by have := hinv.len; have := hinv.le; omega
  have hb2 := hb1.trans (bw2.mono hb1.size)
  have h1w := hb1.size
  have h12 := bw2.size
  clear hinv hzl he HF HSM
  go_wp2_with fail
  refine (pending14 _ _ _ _ psw2 s.pend _ stw2.net (stw2.dp.imp fun b hb' => hb'.1) (by have := stw2.dp.1; omega)).mono ?_
  rintro e w3 ⟨A3, c3, p3, rfl, sl3, rd3, b3⟩
  have hb3 := hb2.trans (b3.mono hb2.size)
  have n3 := stw2.net.below b3
  have r3 := stw2.dp.keep (w' := w3) (ok' := Away w3 w1.heap.size vw2) fun b hb' => ⟨⟨Nat.lt_of_lt_of_le hb'.1.1 b3.size, hb'.1.2⟩, b3.block b hb'.1.1⟩
  have sl3 := sl3.keep (w' := w3) (ok' := Away w3 w1.heap.size vw2) fun b hb' => ⟨fresh_away stw2.net _ hb'.1 hb'.2, rfl⟩
  have rd3 := rd3.imp (ok' := Away w3 w1.heap.size vw2) fun b hb' => fresh_away stw2.net _ hb'.1 hb'.2
  have h23 := b3.size
  have hlps : psw2.length = s.pend.length := stw2.dp.1
  have HLPS := Lib.hid hlps
  clear stw2 bw2 b3 hb2 hlps
  have h0 : ((s.pend.length : Int) == 0) = false := by rw [beq_eq_false_iff_ne]; have := HP.out; omega
  have hp0 : 0 < s.pend.length := HP.out
  have hpos := pos_lt t hp0
  have hps0 : 0 < psw2.length := by rw [HLPS.out]; exact hp0
  have hps30 : psw2.length ≤ 30 := by rw [HLPS.out]; exact hlp
  go_wp2_with fail
  refine (index25 A3 s.pend.length c3 0 t _ hp0 (by omega)).mono ?_
  rintro e w4 ⟨rfl, b4⟩
  have k4 : ∀ b, Away w3 w1.heap.size vw2 b → Away w4 w1.heap.size vw2 b ∧ w4.heap[b]? = w3.heap[b]? := fun b hb' => ⟨⟨Nat.lt_of_lt_of_le hb'.1 b4.size, hb'.2⟩, b4.block b hb'.1⟩
  have n4 := n3.below b4
  have r4 := r3.keep k4
  have sl4 := sl3.keep k4
  have rd4 := rd3.keep k4
  have hb4 := hb3.trans (b4.mono hb3.size)
  have h34 := b4.size
  clear n3 r3 sl3 rd3 k4 b4 hb3
  obtain ⟨pp, q, g1, g2, g3⟩ := r4.at_ (i := pos t psw2.length) (pos_lt t hps0)
  have hpe : pos t psw2.length = pos t s.pend.length := by rw [HLPS.out]
  rw [hpe] at g2
  have G2 := Lib.hid g2
  clear g2 hpe
  go_wp2_with fail
  refine (double13 w1.heap.size _ _ _ t psw2 _ n4 pp q.data g1 g3.data g3.small hl0 (by omega) hps0 (by omega) (by omega)).mono ?_
  rintro e w5 ⟨rfl, v5, dd, n5, hd0, hd1, t5⟩
  have k5 : ∀ b, Away w4 w1.heap.size vw2 b → Away w5 w1.heap.size v5 b ∧ w5.heap[b]? = w4.heap[b]? := fun b hb' => ⟨t5.away hb', t5.same hb'⟩
  have r5 := Rds.snoc (r4.keep k5) (q := ⟨s.last + 1, q.frm, q.dst, q.data⟩) (p := ⟨s.last + 1, pp.frm, pp.dst, some ⟨dd, 0, none⟩, pp.n, pp.n⟩) ⟨rfl, g3.frm, g3.dst, hd1, g3.small⟩
  have sl5 := sl4.keep k5
  have rd5 := rd4.keep k5
  have hb5 := hb4.trans ((n4.stepBelow t5 (by omega)).mono h1w)
  have h45 := t5.size
  clear n4 r4 sl4 rd4 k5 t5 hd1 g1 g3 hb4
  go_wp2_with fail
  refine (len19 _ _ _ _ _ _ n5).mono ?_
  rintro e w5' ⟨rfl, rfl⟩
  have hne : (((psw2 ++ [(⟨s.last + 1, pp.frm, pp.dst, some ⟨dd, 0, none⟩, pp.n, pp.n⟩ : Pk)]).length : Int) != (s.pend.length : Int) + 1) = false := by rw [List.length_append, HLPS.out]; simp
  have hl6 : (psw2 ++ [(⟨s.last + 1, pp.frm, pp.dst, some ⟨dd, 0, none⟩, pp.n, pp.n⟩ : Pk)]).length ≤ 31 := by rw [List.length_append]; simp; omega
  generalize psw2 ++ [(⟨s.last + 1, pp.frm, pp.dst, some ⟨dd, 0, none⟩, pp.n, pp.n⟩ : Pk)] = ps5 at *
  go_wp2_with fail
  clear hne
  refine (pending14c _ _ _ _ ps5 (s.pend ++ [⟨s.last + 1, q.frm, q.dst, q.data⟩]) _ n5 r5 (by omega)).mono ?_
  rintro e w6 ⟨A6, c6, p6, rfl, sl6, rd6, hc6, b6⟩
  have hlq : (s.pend ++ [(⟨s.last + 1, q.frm, q.dst, q.data⟩ : Pkt)]).length = s.pend.length + 1 := by simp
  rw [hlq] at sl6 hc6 ⊢
  clear hlq
  have k6 : ∀ b, Away w5 w1.heap.size v5 b → Away w6 w1.heap.size v5 b ∧ w6.heap[b]? = w5.heap[b]? := fun b hb' => ⟨⟨Nat.lt_of_lt_of_le hb'.1 b6.size, hb'.2⟩, b6.block b hb'.1⟩
  have n6 := n5.below b6
  have r6 := r5.keep k6
  have slb := sl5.keep k6
  have rdb := rd5.keep k6
  have sll := sl6.keep (w' := w6) (ok' := Away w6 w1.heap.size v5) fun b hb' => ⟨fresh_away n5 _ hb'.1 hb'.2, rfl⟩
  have rdl := rd6.imp (ok' := Away w6 w1.heap.size v5) fun b hb' => fresh_away n5 _ hb'.1 hb'.2
  have hb6 := hb5.trans (b6.mono hb5.size)
  have h56 := b6.size
  clear n5 r5 sl5 rd5 sl6 rd6 k6 b6 hb5
  -- the packets at hand
  obtain ⟨bl, offl, pl, rfl, hbl, hpl, l0, l1, l2, l3⟩ := sll.cells (k := s.pend.length) (by omega)
  obtain ⟨bb, offb, pb, rfl, hbb, hpb, m0, m1, m2, m3⟩ := slb.cells hpos
  have rpl : Rd w6 (Away w6 w1.heap.size v5) pl ⟨s.last + 1, q.frm, q.dst, q.data⟩ := rdl.2 s.pend.length pl _ hpl (by simp)
  have rpb : Rd w6 (Away w6 w1.heap.size v5) pb q := rdb.2 _ pb q hpb G2.out
  have rbox : Rd w6 (Away w6 w1.heap.size v5) ⟨pb.num, pl.frm, pl.dst, pl.A, pl.n, pl.c⟩ q := ⟨rpb.num, rpl.frm, rpl.dst, rpl.data, rpl.small⟩
  -- the world with the box
  have k7 : ∀ b, Away w6 w1.heap.size v5 b → Away (w6.alloc (.cells #[.int .i64 pb.num, .int .i64 pl.frm, .int .i64 pl.dst, .slice pl.A pl.n pl.c] 31)) w1.heap.size v5 b ∧ (w6.alloc (.cells #[.int .i64 pb.num, .int .i64 pl.frm, .int .i64 pl.dst, .slice pl.A pl.n pl.c] 31)).heap[b]? = w6.heap[b]? := fun b hb' => ⟨⟨by have := hb'.1; simp; omega, hb'.2⟩, Below.heap_alloc _ _ _ hb'.1⟩
  have n7 := n6.alloc (.cells #[.int .i64 pb.num, .int .i64 pl.frm, .int .i64 pl.dst, .slice pl.A pl.n pl.c] 31)
  have r7 := r6.keep k7
  have slb7 := slb.keep k7
  have rdb7 := rdb.keep k7
  have sll7 := sll.keep k7
  have rdl7 := rdl.keep k7
  have rbx7 := rbox.keep k7
  have rpb7 := rpb.keep k7
  have bx7 := Blk.new w6 31 #[.int .i64 pb.num, .int .i64 pl.frm, .int .i64 pl.dst, .slice pl.A pl.n pl.c]
  have awx : Away (w6.alloc (.cells #[.int .i64 pb.num, .int .i64 pl.frm, .int .i64 pl.dst, .slice pl.A pl.n pl.c] 31)) w1.heap.size v5 w6.heap.size := fresh_away n6 _ (Nat.le_refl _) bx7.lt
  have awb : Away (w6.alloc (.cells #[.int .i64 pb.num, .int .i64 pl.frm, .int .i64 pl.dst, .slice pl.A pl.n pl.c] 31)) w1.heap.size v5 bb := (k7 bb hbb).1
  have hb7 := hb6.alloc hb6.size (.cells #[.int .i64 pb.num, .int .i64 pl.frm, .int .i64 pl.dst, .slice pl.A pl.n pl.c] 31)
  have hpi0 : 0 ≤ ((pos t s.pend.length : Nat) : Int) := by omega
  have hpi1 : ((pos t s.pend.length : Nat) : Int) < s.pend.length := by omega
  have hwl : bb < w6.heap.size := hbb.1
  have e6 : ∀ i u, w6.cell? ⟨bb, i, none⟩ = some u → (w6.alloc (.cells #[.int .i64 pb.num, .int .i64 pl.frm, .int .i64 pl.dst, .slice pl.A pl.n pl.c] 31)).cell? ⟨bb, i, none⟩ = some u := fun i u hu => (World.cell?_of_block (Below.heap_alloc w6 _ bb hwl)).trans hu
  have m70 := e6 _ _ m0
  have m71 := e6 _ _ m1
  have m72 := e6 _ _ m2
  have m73 := e6 _ _ m3
  have H7 := Lib.hid (And.intro n7 (And.intro r7 (And.intro slb7 (And.intro rdb7 (And.intro sll7 (And.intro rdl7 (And.intro rbx7 (And.intro rpb7 (And.intro bx7 (And.intro awx (And.intro awb (And.intro hb7 (And.intro m70 (And.intro m71 (And.intro m72 m73)))))))))))))))
  clear m70 m71 m72 m73 e6 n7 r7 slb7 rdb7 sll7 rdl7 rbx7 rpb7 bx7 awx awb hb7 k7 rpl rpb rbox n6 r6 slb rdb sll rdl hb6 hpl hpb
  go_upto_region 13 with (fail)
  obtain ⟨w7, hw7⟩ : ∃ w7, w6.alloc (.cells #[.int .i64 pb.num, .int .i64 pl.frm, .int .i64 pl.dst, .slice pl.A pl.n pl.c] 31) = w7 := ⟨_, rfl⟩
  rw [hw7] at H7 ⊢
  obtain ⟨n7, r7, slb7, rdb7, sll7, rdl7, rbx7, rpb7, bx7, awx, awb, hb7, m70, m71, m72, m73⟩ := H7.out
  clear H7 hw7 l0 l1 l2 l3 m0 m1 m2 m3
  have hpl5 : ps5.length = s.pend.length + 1 := by have := r7.1; simpa using this
  have HPL5 := Lib.hid hpl5
  have hp5 : 0 < ps5.length := by omega
  have hp531 : ps5.length ≤ 31 := by omega
  have hcc : (s.pend.length : Int) ≤ c6 := by omega
  have hcc2 : s.pend.length ≤ c6 := by omega
  have hpp : pos ((pos t s.pend.length : Nat) : Int) ps5.length = pos t s.pend.length := by unfold pos at *; rw [Int.emod_eq_of_lt (by omega) (by omega)]; omega
  have HPP := Lib.hid hpp
  have slt := sll7.take (k := s.pend.length) (by omega)
  have rdt := rdl7.take s.pend.length
  rw [List.take_left] at rdt
  have hB7 : w1.heap.size ≤ w7.heap.size := by have := n7.box.lt; omega
  have kS : ∀ W, KeepA w7 w1.heap.size v5 W → (KeepA w7 w1.heap.size v5 W ∧ W.cell? ⟨w6.heap.size, 0, none⟩ = some (.int .i64 pb.num) ∧ W.cell? ⟨w6.heap.size, 1, none⟩ = some (.int .i64 pl.frm) ∧ W.cell? ⟨w6.heap.size, 2, none⟩ = some (.int .i64 pl.dst) ∧ W.cell? ⟨w6.heap.size, 3, none⟩ = some (.slice pl.A pl.n pl.c) ∧ W.cell? ⟨bb, offb + pos t s.pend.length * 4, none⟩ = some (.int .i64 pb.num) ∧ W.cell? ⟨bb, offb + pos t s.pend.length * 4 + 1, none⟩ = some (.int .i64 pb.frm) ∧ W.cell? ⟨bb, offb + pos t s.pend.length * 4 + 2, none⟩ = some (.int .i64 pb.dst) ∧ W.cell? ⟨bb, offb + pos t s.pend.length * 4 + 3, none⟩ = some (.slice pb.A pb.n pb.c)) := fun W hW => by
    have eb : Blk W w6.heap.size 31 #[.int .i64 pb.num, .int .i64 pl.frm, .int .i64 pl.dst, .slice pl.A pl.n pl.c] := (hW.2 _ awx).trans bx7
    have e2 : ∀ i u, w7.cell? ⟨bb, i, none⟩ = some u → W.cell? ⟨bb, i, none⟩ = some u := fun i u hu => (World.cell?_of_block (hW.2 bb awb)).trans hu
    exact ⟨hW, eb.cell 0, eb.cell 1, eb.cell 2, eb.cell 3, e2 _ _ m70, e2 _ _ m71, e2 _ _ m72, e2 _ _ m73⟩
  have KS := Lib.hid kS
  have hkk : KeepA w7 w1.heap.size v5 w7 := KeepA.refl
  have H7 := Lib.hid (And.intro n7 (And.intro r7 (And.intro slb7 (And.intro rdb7 (And.intro slt (And.intro rdt (And.intro rbx7 (And.intro rpb7 (And.intro sll7 (And.intro rdl7 hb7))))))))))
  clear kS n7 r7 slb7 rdb7 slt rdt rbx7 rpb7 sll7 rdl7 hb7 bx7 awx awb m70 m71 m72 m73 hpl5 hpp hbl hbb
  go_region_held3 (fun W => KeepA w7 w1.heap.size v5 W ∧ W.cell? ⟨w6.heap.size, 0, none⟩ = some (.int .i64 pb.num) ∧ W.cell? ⟨w6.heap.size, 1, none⟩ = some (.int .i64 pl.frm) ∧ W.cell? ⟨w6.heap.size, 2, none⟩ = some (.int .i64 pl.dst) ∧ W.cell? ⟨w6.heap.size, 3, none⟩ = some (.slice pl.A pl.n pl.c) ∧ W.cell? ⟨bb, offb + pos t s.pend.length * 4, none⟩ = some (.int .i64 pb.num) ∧ W.cell? ⟨bb, offb + pos t s.pend.length * 4 + 1, none⟩ = some (.int .i64 pb.frm) ∧ W.cell? ⟨bb, offb + pos t s.pend.length * 4 + 2, none⟩ = some (.int .i64 pb.dst) ∧ W.cell? ⟨bb, offb + pos t s.pend.length * 4 + 3, none⟩ = some (.slice pb.A pb.n pb.c)) ((refine KS.out _ ?_; first | exact hkk | exact hkk.drew))
    (first
    | (go_at_call 22
       refine (samePacket22 _ _ ⟨pb.num, pl.frm, pl.dst, pl.A, pl.n, pl.c⟩ pb q _ (H7.out.2.2.2.2.2.2.1.keep (w' := w7.drew) (ok' := fun b => b < w7.heap.size) fun b hb' => ⟨hb'.1, rfl⟩) (H7.out.2.2.2.2.2.2.2.1.keep (w' := w7.drew) (ok' := fun b => b < w7.heap.size) fun b hb' => ⟨hb'.1, rfl⟩) (fun b hb' => hb') (fun b hb' => hb')).mono ?_
       rintro e w8 ⟨rfl, b8⟩
       have hB8 : Below w7.heap.size w7 w8 := ⟨b8.os, b8.tape, b8.output, b8.size, b8.block⟩
       have hkk : KeepA w7 w1.heap.size v5 w8 := KeepA.below hB8
       clear b8)
    | (go_at_call 20
       refine (samePackets20 _ _ _ _ _ _ _ _ _ _ s.pend _ (H7.out.2.2.2.2.1.keep (w' := w8) (ok' := fun b => b < w8.heap.size) fun b hb' => ⟨Nat.lt_of_lt_of_le hb'.1 hB8.size, hB8.block b hb'.1⟩) (H7.out.2.2.1.keep (w' := w8) (ok' := fun b => b < w8.heap.size) fun b hb' => ⟨Nat.lt_of_lt_of_le hb'.1 hB8.size, hB8.block b hb'.1⟩) (H7.out.2.2.2.2.2.1.keep (w' := w8) (ok' := fun b => b < w8.heap.size) fun b hb' => ⟨Nat.lt_of_lt_of_le hb'.1 hB8.size, hB8.block b hb'.1⟩) (H7.out.2.2.2.1.keep (w' := w8) (ok' := fun b => b < w8.heap.size) fun b hb' => ⟨Nat.lt_of_lt_of_le hb'.1 hB8.size, hB8.block b hb'.1⟩) (fun b hb' => hb') (fun b hb' => hb') (by omega)).mono ?_
       rintro e w9 ⟨rfl, b9⟩
       have hB9 : Below w7.heap.size w7 w9 := hB8.trans (b9.mono hB8.size)
       have hkk : KeepA w7 w1.heap.size v5 w9 := KeepA.below hB9
       clear b9)
    | (go_at_call 24
       refine (drop24 w1.heap.size _ _ _ _ ps5 _ (H7.out.1.below hB9) hp5 (by omega)).mono ?_
       rintro e w10 ⟨rfl, v10, dl⟩
       have hkk : KeepA w7 w1.heap.size v5 w10 := KeepA.step hB9 dl.step
       have DL := Lib.hid dl
       clear dl))
  obtain ⟨n7, r7, _, _, _, _, _, _, sll7, rdl7, hb7⟩ := H7.out
  have dl := DL.out
  rw [HPP.out] at dl
  have k9 : ∀ b, Away w7 w1.heap.size v5 b → Away w10 w1.heap.size v10 b ∧ w10.heap[b]? = w7.heap[b]? := fun b hb' => ⟨dl.step.away ⟨Nat.lt_of_lt_of_le hb'.1 hB9.size, hb'.2⟩, hkk.2 b hb'⟩
  have n10 := dl.net
  have r10 := Rds.erase (pos t s.pend.length) (r7.keep k9)
  have sll10 := sll7.keep k9
  have rdl10 := rdl7.keep k9
  have hb10 := (hb7.trans (hB9.mono hb7.size)).trans (((n7.below hB9).stepBelow dl.step (by have := hB9.size; omega)).mono h1w)
  have he10 : (ps5.eraseIdx (pos t s.pend.length)).length ≤ 31 := by have := List.length_eraseIdx_le ps5 (pos t s.pend.length); omega
  have hlp6 : p6.length = s.pend.length + 1 := sll7.1
  generalize pos t s.pend.length = a at *
  generalize ps5.eraseIdx a = ps10 at *
  have slA := sll10.take (k := a) (by omega)
  have slB := sll10.drop (k := a + 1) (by omega)
  have rdA := Rds.append (rdl10.take a) (rdl10.drop (a + 1))
  rw [← List.eraseIdx_eq_take_drop_succ (s.pend ++ [(⟨s.last + 1, q.frm, q.dst, q.data⟩ : Pkt)]) a] at rdA
  have hqe : ((s.pend ++ [(⟨s.last + 1, q.frm, q.dst, q.data⟩ : Pkt)]).eraseIdx a).length = s.pend.length := by rw [List.length_eraseIdx_of_lt (by simp; omega)]; simp
  generalize (s.pend ++ [(⟨s.last + 1, q.frm, q.dst, q.data⟩ : Pkt)]).eraseIdx a = qs at *
  have hNB : ∀ W, Below w10.heap.size w10 W → NetW W w1.heap.size w1.heap.size v10 (s.last + 1) ps10 ∧ Rds W (Away W w1.heap.size v10) ps10 qs ∧ Sl W (fun b => b < w10.heap.size) (some ⟨bl, offl, none⟩) a (p6.take a) ∧ Sl W (fun b => b < w10.heap.size) (some ⟨bl, offl + (a + 1) * 4, none⟩) (s.pend.length + 1 - (a + 1)) (p6.drop (a + 1)) ∧ Rds W (fun b => b < w10.heap.size) (p6.take a ++ p6.drop (a + 1)) qs := fun W hW => by
    have kk : ∀ b, Away w10 w1.heap.size v10 b → b < w10.heap.size ∧ W.heap[b]? = w10.heap[b]? := fun b hb' => ⟨hb'.1, hW.block b hb'.1⟩
    exact ⟨n10.below hW, r10.keep fun b hb' => ⟨⟨Nat.lt_of_lt_of_le hb'.1 hW.size, hb'.2⟩, hW.block b hb'.1⟩, slA.keep kk, slB.keep kk, rdA.keep kk⟩
  have NB := Lib.hid hNB
  have hw1 : IntKind.i64.wrap ((a : Int) + 1) = (a : Int) + 1 := by rw [IntKind.wrap_i64]; omega
  have ha0 : 0 ≤ (a : Int) := by omega
  have ha1 : 0 ≤ (a : Int) + 1 := by omega
  have ha2 : (a : Int) + 1 ≤ (s.pend.length : Int) + 1 := by omega
  have ha3 : ((a : Int) + 1).toNat = a + 1 := by omega
  have ha4 : (a : Int) ≤ c6 := by omega
  have ha5 : a ≤ c6 := by omega
  have ha6 : ¬ c6 = a + 1 := by omega
  have ha7 : a + 1 ≤ s.pend.length + 1 := by omega
  have ha8 : (a : Int) + 1 ≤ c6 := by omega
  have HQE := Lib.hid hqe
  have HB10 := Lib.hid hb10
  have hqe30 : qs.length ≤ 30 := by omega
  have hps31 : ps10.length ≤ 31 := he10
  have hB10 : w1.heap.size ≤ w10.heap.size := by have := n10.box.lt; omega
  clear hNB n7 r7 sll7 rdl7 hb7 dl k9 n10 r10 sll10 rdl10 hb10 he10 slA slB rdA hqe H7 DL KS hkk HPP HPL5 G2 HLPS HP hB8 hB9 hlp6
  go_wp2_with fail
  go_region_law (first
    | (refine step_append_src rfl (.tmp 98) (.tmp 101) rfl w10.heap.size (.slice (some ⟨w10.heap.size, 0, none⟩) 0 0) 0 [] (by simp [Act.eval]) HOA.out (some ⟨bl, offl, none⟩) a c6 (p6.take a) (by simp [Act.eval]) (NB.out _ hbA).2.2.1 (by omega) (by omega) (by have := hbA.size; omega) ?_
       intro v12 w12 hown12 hg12 hat12
       obtain ⟨hb12, hk12⟩ := app_keep hbA hbA.size HOA.out hg12 hat12
       have sl12 := slA.keep hk12
       have rd12 := rdA.keep hk12
       have HOWN := Lib.hid hown12
       clear slA rdA hk12 hg12 hat12 hown12 hbA HOA)
    | (refine step_append_src rfl (.tmp 98) (.tmp 101) rfl w10.heap.size (.slice (some ⟨w11.heap.size, 0, none⟩) 0 0) 0 [] (by simp [Act.eval]) HOB.out (some ⟨bl, offl, none⟩) a c6 (p6.take a) (by simp [Act.eval]) (NB.out _ hbB).2.2.1 (by omega) (by omega) (by have := hbB.size; omega) ?_
       intro v12 w12 hown12 hg12 hat12
       obtain ⟨hb12, hk12⟩ := app_keep hbB hbB.size HOB.out hg12 hat12
       have sl12 := slB.keep hk12
       have rd12 := rdB.keep hk12
       have HOWN := Lib.hid hown12
       clear slB rdB hk12 hg12 hat12 hown12 hbB HOB)
    | (refine step_append_src rfl (.tmp 102) (.tmp 106) rfl w10.heap.size v12 (0 + a) ([] ++ (p6.take a).flatMap Pk.enc) (by simp [Act.eval]) HOWN.out (some ⟨bl, offl + (a + 1) * 4, none⟩) (s.pend.length + 1 - (a + 1)) (c6 - (a + 1)) (p6.drop (a + 1)) (by simp [Act.eval]) (NB.out _ hb12).2.2.2.1 (by omega) (by omega) (by have := hb12.size; omega) ?_
       intro v13 w13 hown13 hg13 hat13
       obtain ⟨hb13, hk13⟩ := app_keep hb12 hb12.size HOWN.out hg13 hat13
       have sl13 := sl12.keep hk13
       have rd13 := rd12.keep hk13
       clear sl12 rd12 hk13 hg13 hat13 HOWN hb12
       have e13 : 0 + a + (s.pend.length + 1 - (a + 1)) = s.pend.length := by omega
       have f13 : [] ++ (p6.take a).flatMap Pk.enc ++ (p6.drop (a + 1)).flatMap Pk.enc = (p6.take a ++ p6.drop (a + 1)).flatMap Pk.enc := by rw [List.flatMap_append]; rfl
       rw [e13, f13] at hown13
       clear e13 f13
       obtain ⟨A13, c13, rfl⟩ := slice_of_own hown13
       have sr13 := Sl.of_own hown13 (by have := (NB.out _ hb13).2.2.2.2.1; have := HQE.out; omega)
       clear hown13)
    | (go_simp; go_at_call 20
       refine (samePackets20 _ _ _ _ _ _ _ _ _ _ qs _ sl13 (sr13.keep (w' := w13) (ok' := fun b => b < w13.heap.size) fun b hb' => ⟨hb'.2.1, rfl⟩) rd13 ((NB.out _ hb13).2.2.2.2.imp fun b hb' => Nat.lt_of_lt_of_le hb' hb13.size) (fun b hb' => hb'.1) (fun b hb' => hb') (by omega)).mono ?_
       rintro e w14 ⟨rfl, b14⟩
       have hb14 := hb13.trans (b14.mono hb13.size)
       clear sl13 sr13 rd13 b14)
    | (go_simp; go_at_call 14
       refine (pending14 w1.heap.size _ _ _ _ qs _ (NB.out _ ((Below.refl _ _).drew)).1 (NB.out _ ((Below.refl _ _).drew)).2.1 (by omega)).mono ?_
       rintro e w11 ⟨A11, c11, p11, rfl, sl11, rd11, b11⟩
       have hb11 : Below w10.heap.size w10 w11 := ((Below.refl w10.heap.size w10).drew).trans (b11.mono (Nat.le_refl _))
       have hbB : Below w10.heap.size w10 (w11.alloc (.cells #[] 31)) := hb11.alloc hb11.size _
       have HOB : Hid ((w11.alloc (.cells #[] 31)).ownsRow w10.heap.size 31 4 (.slice (some ⟨w11.heap.size, 0, none⟩) 0 0) 0 []) := Lib.hid (World.ownsRow_made w11 #[] 0 hb11.size (Nat.zero_le _) rfl)
       have kB : ∀ b, (w10.drew.heap.size ≤ b ∧ b < w11.heap.size) → (b < (w11.alloc (.cells #[] 31)).heap.size ∧ (Value.slice (some ⟨w11.heap.size, 0, none⟩) 0 0).ownBlock ≠ some b) ∧ (w11.alloc (.cells #[] 31)).heap[b]? = w11.heap[b]? := fun b hb' => ⟨⟨by simp; omega, by simp [Value.ownBlock]; omega⟩, Below.heap_alloc _ _ _ hb'.2⟩
       have slB := sl11.keep kB
       have rdB := rd11.keep kB
       clear sl11 rd11 kB b11 hb11)
    | (go_simp; go_at_call 14
       refine (pending14 w1.heap.size _ _ _ _ qs _ (NB.out _ (((Below.refl _ _).alloc (Nat.le_refl _) _).drew)).1 (NB.out _ (((Below.refl _ _).alloc (Nat.le_refl _) _).drew)).2.1 (by omega)).mono ?_
       rintro e w11 ⟨A11, c11, p11, rfl, sl11, rd11, b11⟩
       have hbA : Below w10.heap.size w10 w11 := (((Below.refl w10.heap.size w10).alloc (Nat.le_refl _) (.cells #[] 31)).drew).trans (b11.mono (by simp))
       have hoa : (w10.alloc (.cells #[] 31)).drew.ownsRow w10.heap.size 31 4 (.slice (some ⟨w10.heap.size, 0, none⟩) 0 0) 0 [] := own_drew (World.ownsRow_made w10 #[] 0 (Nat.le_refl _) (Nat.zero_le _) rfl)
       have HOA : Hid (w11.ownsRow w10.heap.size 31 4 (.slice (some ⟨w10.heap.size, 0, none⟩) 0 0) 0 []) := Lib.hid (own_below hoa b11)
       have kA : ∀ b, ((w10.alloc (.cells #[] 31)).drew.heap.size ≤ b ∧ b < w11.heap.size) → (b < w11.heap.size ∧ (Value.slice (some ⟨w10.heap.size, 0, none⟩) 0 0).ownBlock ≠ some b) ∧ w11.heap[b]? = w11.heap[b]? := fun b hb' => ⟨⟨hb'.2, by have h1 := hb'.1; simp at h1; simp [Value.ownBlock]; omega⟩, rfl⟩
       have slA := sl11.keep kA
       have rdA := rd11.keep kA
       clear sl11 rd11 kA b11 hoa))
  all_goals go_wp2_with fail
  all_goals go_ret
  all_goals exact ⟨rfl, HB10.out.trans (hb14.mono (Nat.le_trans h1w hB10))⟩

set_option maxHeartbeats 1000000 in
theorem walk9_many (A : Option Addr) (n cp : Nat) (os : List Op5) (ds : List (List Int)) (t : Int) (w : World) (he : OpSl w w.heap.size A n os ds) (hn : n ≤ maxLen) (wf : (Lit.int .i64 t).wf = true) (hf : (os.all short && decide (n ≤ 30)) = false) :
    Calls Try.prog 9 #[.slice A n cp, .int .i64 t] w fun v w' => v = .returned (.bool true) ∧ Below w.heap.size w w' := by
  unfold maxLen at hn
  go_enter Try.func9, Try.ntmps9
  go_wp2_with fail
  refine (awake10 _).mono ?_
  rintro v w1 ⟨rfl, hb1⟩
  go_wp2_with fail
  refine (few17 w.heap.size A n cp os ds _ (he.keep fun b hb => hb1.block b hb) hn).mono ?_
  rintro v w1' ⟨rfl, rfl⟩
  rw [hf]
  go_wp2_with fail
  refine (awake10 _).mono ?_
  rintro v w2 ⟨rfl, hb2⟩
  go_wp2_with fail
  go_ret
  exact ⟨rfl, hb1.trans (hb2.mono hb1.size)⟩
theorem walk9 (A : Option Addr) (n cp : Nat) (os : List Op5) (ds : List (List Int)) (t : Int) (w : World) (he : OpSl w w.heap.size A n os ds) (hn : n ≤ maxLen) (wf : (Lit.int .i64 t).wf = true) :
    Calls Try.prog 9 #[.slice A n cp, .int .i64 t] w fun v w' => v = .returned (.bool true) ∧ Below w.heap.size w w' := by
  by_cases hf : (os.all short && decide (n ≤ 30)) = true
  · rcases Nat.eq_zero_or_pos (aRun (os.zip ds)).pend.length with hp | hp
    · exact walk9_e A n cp os ds t w he hn wf hf (List.eq_nil_of_length_eq_zero hp)
    · exact walk9_n A n cp os ds t w he hn wf hf hp
  · exact walk9_many A n cp os ds t w he hn wf (by rw [← Bool.not_eq_true]; exact hf)
set_option maxRecDepth 100000 in
theorem lifted9 (os : Os) (started : os.Started) (H : Type) (enc : TypeId × Value → H) :
    ReturnsInHanded {} Try.checked os 9 .any (Rows.netsimLosesSpec.pre6 enc Try.prog Try.f9 Rows.netsimLosesRow.domain false) (Rows.netsimLosesSpec.post enc Try.prog Try.f9 false true false false) := by
  refine returnsInHanded_of_change (C := Try.checked) own_ started (by kernel_rfl) Try.func9
    (ChangeSpec.witness6 (enc := enc) (C := Try.checked) false ⟨#[], #[.slice none 0 0, .int .i64 0], []⟩ 8 (by kernel_rfl) (by kernel_rfl) (by kernel_rfl) (by kernel_rfl)) ?_
  intro W base args ds gs before hval0 hW hcnd _
  have hval : ∀ (j : Nat) t v, Try.f9.params[j]? = some t → args[j]? = some v → Value.okWide Try.prog W .any base t v := hval0
  have hW' := hW
  obtain ⟨p, q, hA0, hV, rfl, hfz, hnd⟩ := hW
  have hA : DataW.TrodAll enc Try.prog W 0 (fun _ => true) true Try.f9.params.toList args.toList ds p := hA0
  rw [Try.params9] at hA hval
  obtain ⟨v0, vs0, d0, ds0, p0, q0, hargs, rfl, rfl, h0, r0⟩ := trodAll_cons hA
  obtain ⟨v1, vs1, d1, ds1, p1, q1, rfl, rfl, rfl, h1, r1⟩ := trodAll_cons r0
  obtain ⟨rfl, rfl, rfl⟩ := trodAll_nil r1
  obtain rfl : args = #[v0, v1] := by cases args; simp_all
  obtain ⟨rfl, rfl⟩ := trodVars_none hV
  have k0 := h0
  have lt0 : ∀ x ∈ p0, x.block < W.heap.size := by obtain ⟨m, hm⟩ := k0; exact DataW.trod_lt m _ _ _ hm
  obtain ⟨A0, n0, cp0, rfl⟩ := okWide_slice Try.underlying36 (hval 0 36 v0 rfl rfl)
  obtain ⟨hn0, os0, dd0, he0⟩ : n0 ≤ maxLen ∧ ∃ os ds, OpSl W W.heap.size A0 n0 os ds := by
    obtain ⟨fuel, hf⟩ := h0
    exact ops_of_trod hf
  have k1 := h1
  have lt1 : ∀ x ∈ p1, x.block < W.heap.size := by obtain ⟨m, hm⟩ := k1; exact DataW.trod_lt m _ _ _ hm
  obtain ⟨a1, rfl, rfl, rfl, wf1⟩ := open_int Try.underlying3 (hval 1 3 v1 rfl rfl) h1
  clear hA0 hval0
  refine (walk9 A0 n0 cp0 os0 dd0 a1 W he0 hn0 wf1).mono fun e W' ⟨he, bel⟩ => ?_
  subst he
  exact ⟨_, rfl, _, _, _, [], _, [], hW', trodAll_mk1 (shut_bool Try.underlying4 _), (trodAll_cons_mk (Below.trod laidOut_ (by kernel_rfl) (of_decide_eq_true (by kernel_rfl)) k0 bel lt0) (trodAll_cons_mk (Below.trod laidOut_ (by kernel_rfl) (of_decide_eq_true (by kernel_rfl)) k1 bel lt1) trodAll_mk0)), rfl, bel.frame _, fun h => by cases h⟩

theorem netsimLoses_holds : Rows.NetsimLosesSaid :=
  OpenClaim.holds_of_wide 9 Try.f9 rfl rfl rfl rfl rfl rfl rfl ⟨rfl, rfl, rfl, rfl, rfl⟩ rfl rfl rfl rfl rfl (by kernel_rfl) Try.func9 (by kernel_rfl)
    (of_decide_eq_true (by kernel_rfl)) (by unfold Func.isWrapper; first | (rw [if_pos (by decide +kernel)]; kernel_rfl) | (rw [if_neg (by decide +kernel)]; exact ⟨rfl, rfl⟩))
    (fun os started H enc _ => lifted9 os started H enc)

end Go.Proofs.Ytledcmcpinjboaa
