/-
NetsimOperations returns true for every input, and the input reads as it did.
-/
import Derived.Test.YtledcmcpinjboaaR10
import Derived.Test.YtledcmcpinjboaaOpenX
import Derived.WalkKit
import Derived.ProofKit
import Derived.OpenShut
import Derived.ShutString
import Derived.ChangeOld
import Derived.Below
import Derived.Lib.Hide
import Derived.Deep.RegionHeld3
import Derived.Deep.DeepCutAuto
import Derived.Deep.RegionWith
import Derived.Deep.MidRow
import Derived.Deep.WholeRow
namespace Go.Proofs.Ytledcmcpinjboaa
open Go.ChangeShapes Go.WideShapes Go.ChangeAt Go.RowKit
set_option linter.unusedVariables false

/-- the specification's box is none of the network's blocks. -/
theorem Bo.box {w : World} {B N : Nat} {v : Value} {ps : List Pk} {A : Option Addr} {m c : Nat} {s : AR} (h : Bo w B N v ps A m c s) (hN : B ≤ N) (j : Nat) (u : Value) : Bo (w.setCell ⟨N + 1, j, none⟩ u) B N v ps A m c s := by
  have k : ∀ b, OkQ w N v b → OkQ (w.setCell ⟨N + 1, j, none⟩ u) N v b ∧ (w.setCell ⟨N + 1, j, none⟩ u).heap[b]? = w.heap[b]? := fun b hb => ⟨⟨⟨by simpa using hb.1.1, hb.1.2⟩, hb.2⟩, Below.heap_setCell _ _ _ _ hb.2⟩
  obtain ⟨pk, h1, h2⟩ := h.ref
  exact ⟨h.net.other ⟨N + 1, j, none⟩ u (by show N ≠ N + 1; omega) h.qv, h.dp.keep k, ⟨pk, h1.keep k, h2.keep k⟩, h.cap, by simpa using h.hB, by simpa using h.hq, h.qv⟩
theorem Bo.boxBelow {w : World} {B N : Nat} {v : Value} {ps : List Pk} {A : Option Addr} {m c : Nat} {s : AR} (h : Bo w B N v ps A m c s) (w0 : World) (hb : Below B w0 w) (j : Nat) (u : Value) : Below B w0 (w.setCell ⟨N + 1, j, none⟩ u) := hb.setCell (by show B ≤ N + 1; have := h.net.le; omega) u
theorem Bo.init (w : World) : Bo ((w.alloc (.cells #[.int .i64 0, .slice none 0 0] 58)).alloc (.cells #[.slice none 0 0, .int .i64 0] 39)) w.heap.size w.heap.size (.slice none 0 0) [] none 0 0 ar0 where
  net := (NetW.new w w.heap.size (Nat.le_refl _)).alloc _
  dp := Rds.nil _ _
  ref := ⟨[], ⟨rfl, fun h => absurd h (Nat.lt_irrefl 0)⟩, Rds.nil _ _⟩
  cap := Nat.le_refl _
  hB := by simp; omega
  hq := by simp
  qv := by simp [Value.ownBlock]

set_option maxRecDepth 100000 in
set_option maxHeartbeats 8000000 in
theorem walk4_few (A : Option Addr) (n cp : Nat) (os : List Op5) (ds : List (List Int)) (w : World) (he : OpSl w w.heap.size A n os ds) (hn : n ≤ maxLen) (hf : (os.all short && decide (n ≤ 30)) = true) :
    Calls Try.prog 4 #[.slice A n cp] w fun v w' => v = .returned (.bool true) ∧ Below w.heap.size w w' := by
  unfold maxLen at hn
  have HF := Lib.hid hf
  rw [Bool.and_eq_true, List.all_eq_true] at hf
  have hsm : ∀ o ∈ os, o.n ≤ 60 := fun o ho => by simpa [short] using hf.1 o ho
  have hn30 : n ≤ 30 := by simpa using hf.2
  have HSM := Lib.hid hsm
  clear hf hsm
  go_enter Try.func4, Try.ntmps4
  go_wp2_with fail
  refine (awake10 _).mono ?_
  rintro v w1 ⟨rfl, hb1⟩
  go_wp2_with fail
  refine (few17 w.heap.size A n cp os ds _ (he.keep fun b hb => hb1.block b hb) hn).mono ?_
  rintro v w1' ⟨rfl, rfl⟩
  rw [HF.out]
  have hB1 := hb1.size
  have he1 := opsl_more (he.keep fun b hb => hb1.block b hb) hB1
  have HE := Lib.hid he
  clear he he1
  go_wp2_with fail
  refine (new11 _).mono ?_
  rintro e w2 ⟨rfl, rfl⟩
  go_wp2_with fail
  have hbo := Bo.init w1
  have hbx : Blk ((w1.alloc (.cells #[.int .i64 0, .slice none 0 0] 58)).alloc (.cells #[.slice none 0 0, .int .i64 0] 39)) (w1.heap.size + 1) 39 #[.slice none 0 0, .int .i64 0] := by
    have := Blk.new (w1.alloc (.cells #[.int .i64 0, .slice none 0 0] 58)) 39 #[.slice none 0 0, .int .i64 0]
    rwa [World.size_alloc] at this
  have hb2 : Below w1.heap.size w1 ((w1.alloc (.cells #[.int .i64 0, .slice none 0 0] 58)).alloc (.cells #[.slice none 0 0, .int .i64 0] 39)) := ((Below.refl _ _).alloc (Nat.le_refl _) _).alloc (by simp) _
  generalize (w1.alloc (.cells #[.int .i64 0, .slice none 0 0] 58)).alloc (.cells #[.slice none 0 0, .int .i64 0] 39) = w2 at *
  go_loopw [21] (fun i wr => ∃ (k : Nat) (v : Value) (ps : List Pk) (A' : Option Addr) (m c : Nat), k ≤ n ∧ i = .int .i64 k ∧ Bo wr w1.heap.size w1.heap.size v ps A' m c (aRun ((os.zip ds).take k)) ∧ Blk wr (w1.heap.size + 1) 39 #[.slice A' m c, .int .i64 (aRun ((os.zip ds).take k)).last] ∧ Below w1.heap.size w1 wr) (fun i _ => n - (intOf i).toNat)
  case atStart => exact ⟨0, _, _, _, _, _, Nat.zero_le _, rfl, hbo, hbx, hb2⟩
  case round =>
    obtain ⟨k, v, ps, A', m, c, hk, rfl, hbo', hbx', hb'⟩ := hrel
    clear hbo hbx hb2
    by_cases hlt : k < n
    · obtain ⟨b, off, o, d, rfl, hbB, ho, hd, hby, c0, c1, c2, c3, c4⟩ := (HE.out.keep (w' := wr) fun b hb => (hb'.block b (by omega)).trans (hb1.block b hb)).cells hlt
      have hz : (os.zip ds)[k]? = some (o, d) := by rw [List.getElem?_zip_eq_some]; exact ⟨ho, hd⟩
      have hsn := aRun_snoc hz
      have hinv := inv_run ((os.zip ds).take k)
      have hinv2 := inv_run ((os.zip ds).take (k + 1))
      have hlen : ((os.zip ds).take k).length ≤ k := List.length_take_le _ _
      have hlen2 : ((os.zip ds).take (k + 1)).length ≤ k + 1 := List.length_take_le _ _
      have hon := HSM.out o (List.mem_of_getElem? ho)
      rw [hsn] at hinv2
      generalize aRun ((os.zip ds).take k) = s at *
      have hk0 : 0 ≤ (k : Int) := by omega
      have hk1 : (k : Int) < n := by omega
      have hl0 : 0 ≤ s.last := by have := hinv.len; omega
      have hl1 : s.last ≤ 100 := by have := hinv.len; have := hinv.le; omega
      have hlp : s.pend.length ≤ 100 := by have := hinv.lp; omega
      have hlp2 : (aStep s (o, d)).pend.length ≤ 100 := by have := hinv2.lp; omega
      clear ho hd hz hinv hinv2 hlen hlen2
      have hbelO : Below wr.heap.size wr (wr.alloc (.cells #[.int .u8 o.kind, .int .i64 o.frm, .int .i64 o.dst, .slice o.A o.n o.c, .int .i64 o.i] 41)) := (Below.refl _ _).alloc (Nat.le_refl _) _
      have hboO := hbo'.below hbelO
      have hbxO := hbx'.below hbelO hbx'.lt
      have hbyO : Byts (wr.alloc (.cells #[.int .u8 o.kind, .int .i64 o.frm, .int .i64 o.dst, .slice o.A o.n o.c, .int .i64 o.i] 41)) (Away (wr.alloc (.cells #[.int .u8 o.kind, .int .i64 o.frm, .int .i64 o.dst, .slice o.A o.n o.c, .int .i64 o.i] 41)) w1.heap.size v) o.A o.n d := hby.keep fun b hb => ⟨⟨by have := hb'.size; simp; omega, by have := hbo'.net.le; omega, fun e => by have := hbo'.net.ge b e.symm; omega⟩, Below.heap_alloc _ _ _ (by have := hb'.size; omega)⟩
      have hbO := hb'.trans (hbelO.mono hb'.size)
      have x0 : (wr.alloc (.cells #[.int .u8 o.kind, .int .i64 o.frm, .int .i64 o.dst, .slice o.A o.n o.c, .int .i64 o.i] 41)).cell? ⟨w1.heap.size + 1, 0, none⟩ = some (.slice A' m c) := hbxO.cell 0
      have x1 : (wr.alloc (.cells #[.int .u8 o.kind, .int .i64 o.frm, .int .i64 o.dst, .slice o.A o.n o.c, .int .i64 o.i] 41)).cell? ⟨w1.heap.size + 1, 1, none⟩ = some (.int .i64 s.last) := hbxO.cell 1
      have y0 : (wr.alloc (.cells #[.int .u8 o.kind, .int .i64 o.frm, .int .i64 o.dst, .slice o.A o.n o.c, .int .i64 o.i] 41)).cell? ⟨wr.heap.size, 0, none⟩ = some (.int .u8 o.kind) := (Blk.new wr 41 #[.int .u8 o.kind, .int .i64 o.frm, .int .i64 o.dst, .slice o.A o.n o.c, .int .i64 o.i]).cell 0
      have y1 : (wr.alloc (.cells #[.int .u8 o.kind, .int .i64 o.frm, .int .i64 o.dst, .slice o.A o.n o.c, .int .i64 o.i] 41)).cell? ⟨wr.heap.size, 1, none⟩ = some (.int .i64 o.frm) := (Blk.new wr 41 #[.int .u8 o.kind, .int .i64 o.frm, .int .i64 o.dst, .slice o.A o.n o.c, .int .i64 o.i]).cell 1
      have y2 : (wr.alloc (.cells #[.int .u8 o.kind, .int .i64 o.frm, .int .i64 o.dst, .slice o.A o.n o.c, .int .i64 o.i] 41)).cell? ⟨wr.heap.size, 2, none⟩ = some (.int .i64 o.dst) := (Blk.new wr 41 #[.int .u8 o.kind, .int .i64 o.frm, .int .i64 o.dst, .slice o.A o.n o.c, .int .i64 o.i]).cell 2
      have y3 : (wr.alloc (.cells #[.int .u8 o.kind, .int .i64 o.frm, .int .i64 o.dst, .slice o.A o.n o.c, .int .i64 o.i] 41)).cell? ⟨wr.heap.size, 3, none⟩ = some (.slice o.A o.n o.c) := (Blk.new wr 41 #[.int .u8 o.kind, .int .i64 o.frm, .int .i64 o.dst, .slice o.A o.n o.c, .int .i64 o.i]).cell 3
      have y4 : (wr.alloc (.cells #[.int .u8 o.kind, .int .i64 o.frm, .int .i64 o.dst, .slice o.A o.n o.c, .int .i64 o.i] 41)).cell? ⟨wr.heap.size, 4, none⟩ = some (.int .i64 o.i) := (Blk.new wr 41 #[.int .u8 o.kind, .int .i64 o.frm, .int .i64 o.dst, .slice o.A o.n o.c, .int .i64 o.i]).cell 4
      have HSN := Lib.hid hsn
      have HBO := Lib.hid hboO
      have HBY := Lib.hid hbyO
      have HB0 := Lib.hid hbO
      have HBX := Lib.hid hbxO
      clear hsn hboO hbyO hbO hbxO hbx' hbo' hby hbelO hb'
      go_wp2_with fail
      refine (step18 w1.heap.size w1.heap.size v ps A' m c s o d _ HBO.out HBY.out hon hl0 hl1 hlp).mono ?_
      rintro e w5 ⟨v5, ps5, A5, m5, c5, rfl, bo5, b5, k5⟩
      generalize aStep s (o, d) = s' at *
      have bx5 := k5.trans HBX.out
      have hb5 := HB0.out.trans b5
      have hpl5 : ps5.length = s'.pend.length := bo5.dp.1
      have hm5 : m5 = s'.pend.length := bo5.len
      have hne : ((ps5.length : Int) != (m5 : Int)) = false := by rw [hpl5, hm5]; simp
      have hps5 : ps5.length ≤ 100 := by omega
      have HM5 := Lib.hid hm5
      clear hpl5 hm5 x0 x1 y0 y1 y2 y3 y4 HBO HBY HB0 HBX k5 b5
      have h12 := hb5.size
      go_upto_region 8 with (fail)
      have bel8 : Below w5.heap.size w5 (w5.alloc (.cells #[.slice A5 m5 c5, .int .i64 s'.last] 39)) := (Below.refl _ _).alloc (Nat.le_refl _) _
      have vx := Blk.new w5 39 #[.slice A5 m5 c5, .int .i64 s'.last]
      have bo8 := bo5.below bel8
      have bx8 : Blk (w5.alloc (.cells #[.slice A5 m5 c5, .int .i64 s'.last] 39)) (w1.heap.size + 1) 39 #[.slice A' m c, .int .i64 s.last] := Blk.below bx5 bel8 (Blk.lt bx5)
      have hb8 := hb5.trans (bel8.mono h12)
      clear bel8 bo5 bx5 hb5
      generalize w5.alloc (.cells #[.slice A5 m5 c5, .int .i64 s'.last] 39) = w8 at *
      have hvl := vx.lt
      have hv0 : ∀ W, Below w8.heap.size w8 W → (Below w8.heap.size w8 W ∧ W.cell? ⟨w5.heap.size, 0, none⟩ = some (.slice A5 m5 c5)) := fun W hW => ⟨hW, (vx.below hW hvl).cell 0⟩
      have KS := Lib.hid hv0
      have hkk : Below w8.heap.size w8 w8 := Below.refl _ _
      have H8 := Lib.hid (And.intro bo8 (And.intro bx8 (And.intro vx hb8)))
      clear hv0 bo8 bx8 vx hb8
      go_region_held3 (fun W => Below w8.heap.size w8 W ∧ W.cell? ⟨w5.heap.size, 0, none⟩ = some (.slice A5 m5 c5)) ((refine KS.out _ ?_; first | with_reducible exact hkk | with_reducible exact hkk.drew))
        (first
        | (go_at_call 19
           refine (len19 w1.heap.size w1.heap.size v5 s'.last ps5 _ (H8.out.1.net.below hkk.drew)).mono ?_
           rintro e w9 ⟨rfl, rfl⟩)
        | (go_at_call 14
           refine (pending14 w1.heap.size w1.heap.size v5 s'.last ps5 s'.pend _ (H8.out.1.net.below hkk.drew) (H8.out.1.dp.keep (w' := w8.drew) fun b hb => ⟨hb.1, rfl⟩) (by omega)).mono ?_
           rintro e w10 ⟨A10, c10, p10, rfl, sl10, rd10, b10⟩
           have hkk : Below w8.heap.size w8 w10 := ⟨b10.os, b10.tape, b10.output, b10.size, b10.block⟩
           have H10 := Lib.hid (And.intro sl10 rd10)
           clear b10 sl10 rd10)
        | (go_at_call 20
           obtain ⟨pk, r1, r2⟩ := H8.out.1.ref
           refine (samePackets20 _ _ _ _ _ _ _ _ _ _ s'.pend _ H10.out.1 (r1.keep (w' := w10) (ok' := fun b => b < w10.heap.size) fun b hb => ⟨Nat.lt_of_lt_of_le hb.1.1 hkk.size, hkk.block b hb.1.1⟩) H10.out.2 (r2.keep (w' := w10) (ok' := fun b => b < w10.heap.size) fun b hb => ⟨Nat.lt_of_lt_of_le hb.1.1 hkk.size, hkk.block b hb.1.1⟩) (fun b hb => hb.2) (fun b hb => hb) (by omega)).mono ?_
           rintro e w11 ⟨rfl, b11⟩
           have hkk : Below w8.heap.size w8 w11 := hkk.trans (b11.mono hkk.size)
           clear b11))
      have b11 := hkk
      have bo11 := H8.out.1.below b11
      have bx11 : Blk w11 (w1.heap.size + 1) 39 #[.slice A' m c, .int .i64 s.last] := Blk.below H8.out.2.1 b11 (Blk.lt H8.out.2.1)
      have vx11 : Blk w11 w5.heap.size 39 #[.slice A5 m5 c5, .int .i64 s'.last] := H8.out.2.2.1.below b11 hvl
      have hb11 := H8.out.2.2.2.trans (b11.mono H8.out.2.2.2.size)
      have z0 : w11.cell? ⟨w5.heap.size, 0, none⟩ = some (.slice A5 m5 c5) := vx11.cell 0
      have z1 : w11.cell? ⟨w5.heap.size, 1, none⟩ = some (.int .i64 s'.last) := vx11.cell 1
      have z2 : w11.cell? ⟨w1.heap.size + 1, 0, none⟩ = some (.slice A' m c) := bx11.cell 0
      have z3 : w11.cell? ⟨w1.heap.size + 1, 1, none⟩ = some (.int .i64 s.last) := bx11.cell 1
      have z4 := bx11.frozen 0
      have z5 := bx11.frozen 1
      have HEND := Lib.hid (show Bo ((w11.setCell ⟨w1.heap.size + 1, 0, none⟩ (.slice A5 m5 c5)).setCell ⟨w1.heap.size + 1, 1, none⟩ (.int .i64 s'.last)) w1.heap.size w1.heap.size v5 ps5 A5 m5 c5 s' ∧ Blk ((w11.setCell ⟨w1.heap.size + 1, 0, none⟩ (.slice A5 m5 c5)).setCell ⟨w1.heap.size + 1, 1, none⟩ (.int .i64 s'.last)) (w1.heap.size + 1) 39 #[.slice A5 m5 c5, .int .i64 s'.last] ∧ Below w1.heap.size w1 ((w11.setCell ⟨w1.heap.size + 1, 0, none⟩ (.slice A5 m5 c5)).setCell ⟨w1.heap.size + 1, 1, none⟩ (.int .i64 s'.last)) from
        ⟨(bo11.box (Nat.le_refl _) 0 _).box (Nat.le_refl _) 1 _, by simpa using (bx11.set 0 (.slice A5 m5 c5)).set 1 (.int .i64 s'.last), (hb11.setCell (by show w1.heap.size ≤ w1.heap.size + 1; omega) _).setCell (by show w1.heap.size ≤ w1.heap.size + 1; omega) _⟩)
      clear b11 bo11 bx11 vx11 hb11 hkk H8 H10 KS
      go_wp2_with fail
      go_roundw
      case rel => exact ⟨k + 1, _, _, _, _, _, by omega, by go_num, by rw [HSN.out]; exact HEND.out.1, by rw [HSN.out]; exact HEND.out.2.1, HEND.out.2.2⟩
      case measure => simp [intOf]; omega
    · obtain rfl : k = n := by omega
      clear hbo' hbx'
      go_wp2_with fail
      go_ret
      exact ⟨rfl, hb1.trans (hb'.mono hB1)⟩

set_option maxHeartbeats 1000000 in
theorem walk4_many (A : Option Addr) (n cp : Nat) (os : List Op5) (ds : List (List Int)) (w : World) (he : OpSl w w.heap.size A n os ds) (hn : n ≤ maxLen) (hf : (os.all short && decide (n ≤ 30)) = false) :
    Calls Try.prog 4 #[.slice A n cp] w fun v w' => v = .returned (.bool true) ∧ Below w.heap.size w w' := by
  unfold maxLen at hn
  go_enter Try.func4, Try.ntmps4
  go_wp2_with fail
  refine (awake10 _).mono ?_
  rintro v w1 ⟨rfl, hb1⟩
  go_wp2_with fail
  refine (few17 w.heap.size A n cp os ds _ (he.keep fun b hb => hb1.block b hb) hn).mono ?_
  rintro v w1' ⟨rfl, rfl⟩
  rw [hf]
  go_wp2_with fail
  refine (awake10 _).mono ?_
  rintro v w2 ⟨rfl, hb2⟩
  go_wp2_with fail
  go_ret
  exact ⟨rfl, hb1.trans (hb2.mono hb1.size)⟩
theorem walk4 (A : Option Addr) (n cp : Nat) (os : List Op5) (ds : List (List Int)) (w : World) (he : OpSl w w.heap.size A n os ds) (hn : n ≤ maxLen) :
    Calls Try.prog 4 #[.slice A n cp] w fun v w' => v = .returned (.bool true) ∧ Below w.heap.size w w' := by
  by_cases hf : (os.all short && decide (n ≤ 30)) = true
  · exact walk4_few A n cp os ds w he hn hf
  · exact walk4_many A n cp os ds w he hn (by rw [← Bool.not_eq_true]; exact hf)
set_option maxRecDepth 100000 in
theorem lifted4 (os : Os) (started : os.Started) (H : Type) (enc : TypeId × Value → H) :
    ReturnsInHanded {} Try.checked os 4 .any (Rows.netsimOperationsSpec.pre6 enc Try.prog Try.f4 Rows.netsimOperationsRow.domain false) (Rows.netsimOperationsSpec.post enc Try.prog Try.f4 false true false false) := by
  refine returnsInHanded_of_change (C := Try.checked) own_ started (by kernel_rfl) Try.func4
    (ChangeSpec.witness6 (enc := enc) (C := Try.checked) false ⟨#[], #[.slice none 0 0], []⟩ 8 (by kernel_rfl) (by kernel_rfl) (by kernel_rfl) (by kernel_rfl)) ?_
  intro W base args ds gs before hval0 hW hcnd _
  have hval : ∀ (j : Nat) t v, Try.f4.params[j]? = some t → args[j]? = some v → Value.okWide Try.prog W .any base t v := hval0
  have hW' := hW
  obtain ⟨p, q, hA0, hV, rfl, hfz, hnd⟩ := hW
  have hA : DataW.TrodAll enc Try.prog W 0 (fun _ => true) true Try.f4.params.toList args.toList ds p := hA0
  rw [Try.params4] at hA hval
  obtain ⟨v0, vs0, d0, ds0, p0, q0, hargs, rfl, rfl, h0, r0⟩ := trodAll_cons hA
  obtain ⟨rfl, rfl, rfl⟩ := trodAll_nil r0
  obtain rfl : args = #[v0] := by cases args; simp_all
  obtain ⟨rfl, rfl⟩ := trodVars_none hV
  have k0 := h0
  have lt0 : ∀ x ∈ p0, x.block < W.heap.size := by obtain ⟨m, hm⟩ := k0; exact DataW.trod_lt m _ _ _ hm
  obtain ⟨A0, n0, cp0, rfl⟩ := okWide_slice Try.underlying36 (hval 0 36 v0 rfl rfl)
  obtain ⟨hn0, os0, dd0, he0⟩ : n0 ≤ maxLen ∧ ∃ os ds, OpSl W W.heap.size A0 n0 os ds := by
    obtain ⟨fuel, hf⟩ := h0
    exact ops_of_trod hf
  clear hA0 hval0
  refine (walk4 A0 n0 cp0 os0 dd0 W he0 hn0).mono fun e W' ⟨he, bel⟩ => ?_
  subst he
  exact ⟨_, rfl, _, _, _, [], _, [], hW', trodAll_mk1 (shut_bool Try.underlying4 _), (trodAll_cons_mk (Below.trod laidOut_ (by kernel_rfl) (of_decide_eq_true (by kernel_rfl)) k0 bel lt0) trodAll_mk0), rfl, bel.frame _, fun h => by cases h⟩

theorem netsimOperations_holds : Rows.NetsimOperationsSaid :=
  OpenClaim.holds_of_wide 4 Try.f4 rfl rfl rfl rfl rfl rfl rfl ⟨rfl, rfl, rfl, rfl, rfl⟩ rfl rfl rfl rfl rfl (by kernel_rfl) Try.func4 (by kernel_rfl)
    (of_decide_eq_true (by kernel_rfl)) (by unfold Func.isWrapper; first | (rw [if_pos (by decide +kernel)]; kernel_rfl) | (rw [if_neg (by decide +kernel)]; exact ⟨rfl, rfl⟩))
    (fun os started H enc _ => lifted4 os started H enc)

end Go.Proofs.Ytledcmcpinjboaa
