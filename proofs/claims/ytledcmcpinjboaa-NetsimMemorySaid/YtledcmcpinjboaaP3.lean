/-
NetsimMemory returns true for every input, and the input reads as it did.
-/
import Derived.Test.YtledcmcpinjboaaN1
import Derived.Test.YtledcmcpinjboaaOpenX
import Derived.WalkKit
import Derived.ProofKit
import Derived.OpenShut
import Derived.ShutString
import Derived.ChangeOld
import Derived.Below
import Derived.Lib.Hide
import Derived.Deep.RegionHeld3
import Derived.Deep.DeepCutAuto
import Derived.Deep.RegionWith
import Derived.Deep.MidRow
import Derived.Deep.WholeRow
namespace Go.Proofs.Ytledcmcpinjboaa
open Go.ChangeShapes Go.WideShapes Go.ChangeAt Go.RowKit
set_option linter.unusedVariables false

set_option maxHeartbeats 1000000 in
theorem walk3_out (A : Option Addr) (n cp : Nat) (bs : List Int) (w : World) (he : Byts w (· < w.heap.size) A n bs) (hn : n ≤ maxLen) (hf : n = 0 ∨ 40 < n) :
    Calls Try.prog 3 #[.slice A n cp] w fun v w' => v = .returned (.bool true) ∧ Below w.heap.size w w' := by
  unfold maxLen at hn
  rcases hf with h0 | h0
  · have g0 : ((n : Int) == 0) = true := by simp; omega
    clear h0
    go_enter Try.func3, Try.ntmps3
    go_wp2_with fail
    refine (awake10 _).mono ?_
    rintro v w1 ⟨rfl, hb⟩
    go_wp2_with fail
    refine (awake10 _).mono ?_
    rintro v w2 ⟨rfl, hb2⟩
    go_wp2_with fail
    go_ret
    exact ⟨rfl, hb.trans (hb2.mono hb.size)⟩
  · have g0 : ((n : Int) == 0) = false := by rw [beq_eq_false_iff_ne]; omega
    have g40 : decide ((40 : Int) < (n : Int)) = true := by simp; omega
    clear h0
    go_enter Try.func3, Try.ntmps3
    go_wp2_with fail
    refine (awake10 _).mono ?_
    rintro v w1 ⟨rfl, hb⟩
    go_wp2_with fail
    refine (awake10 _).mono ?_
    rintro v w2 ⟨rfl, hb2⟩
    go_wp2_with fail
    go_ret
    exact ⟨rfl, hb.trans (hb2.mono hb.size)⟩
theorem blk_byts {w : World} {ok : Nat → Prop} {d n : Nat} {bs : List Int} (h : Blk w d 5 (cellsB bs)) (hn : bs.length = n) (hk : ok d) : Byts w ok (some ⟨d, 0, none⟩) n bs := Byts.of_blk h hk hn
theorem blk_cell0 {w : World} {d : Nat} {b0 : Int} {bs : List Int} (h : Blk w d 5 (cellsB (b0 :: bs))) : w.cell? ⟨d, 0, none⟩ = some (.int .u8 b0) := by rw [h.cell]; simp [cellsB]
set_option maxRecDepth 100000 in
set_option maxHeartbeats 4000000 in
theorem walk3_mid (A : Option Addr) (n cp : Nat) (b0 : Int) (bt : List Int) (w : World) (he : Byts w (· < w.heap.size) A n (b0 :: bt)) (h1 : 1 ≤ n) (h40 : n ≤ 40) :
    Calls Try.prog 3 #[.slice A n cp] w fun v w' => v = .returned (.bool true) ∧ Below w.heap.size w w' := by
  obtain ⟨i0, hi, hz0, hz1, hz2⟩ := info_parts info5
  have g0 : ((n : Int) == 0) = false := by rw [beq_eq_false_iff_ne]; omega
  have g40 : decide ((40 : Int) < (n : Int)) = false := by simp; omega
  have hl : (b0 :: bt).length = n := he.1
  have HL := Lib.hid hl
  clear hl
  obtain ⟨ab, aoff, rfl, hab, hac⟩ := he.2 (by omega)
  go_enter Try.func3, Try.ntmps3
  go_wp2_with fail
  refine (awake10 _).mono ?_
  rintro v w1 ⟨rfl, hb1⟩
  go_wp2_with fail
  refine (new11 _).mono ?_
  rintro e w2 ⟨rfl, rfl⟩
  have hn2 := NetW.new w1 w1.heap.size (Nat.le_refl _)
  have hb2 : Below w.heap.size w (w1.alloc (.cells #[.int .i64 0, .slice none 0 0] 58)) := hb1.alloc hb1.size _
  have hN2 : w1.heap.size < (w1.alloc (.cells #[.int .i64 0, .slice none 0 0] 58)).heap.size := by simp
  generalize w1.alloc (.cells #[.int .i64 0, .slice none 0 0] 58) = w2 at *
  have hown0 : (w2.alloc (.cells #[] 5)).ownsRow w1.heap.size 5 1 (.slice (some ⟨w2.heap.size, 0, none⟩) 0 0) 0 [] := World.ownsRow_made w2 #[] 0 (by omega) (Nat.zero_le _) rfl
  have hsrc : ∀ (j : Nat) (u : Value), ((b0 :: bt).map (Value.int .u8))[j]? = some u → (w2.alloc (.cells #[] 5)).cell? ((⟨ab, aoff, none⟩ : Addr).add j) = some u := fun j u hu => by
    rw [List.getElem?_map] at hu
    obtain ⟨x, hx, rfl⟩ := Option.map_eq_some_iff.1 hu
    rw [add_none]
    exact (World.cell?_of_block (Below.heap_alloc _ _ _ (by show ab < _; have := hb2.size; omega))).trans ((cells_below hb2 hab _).trans (hac j x hx))
  have HSRC := Lib.hid hsrc
  have HO0 := Lib.hid hown0
  have hlm : ((b0 :: bt).map (Value.int .u8)).length = n * 1 := by rw [List.length_map, HL.out, Nat.mul_one]
  have HLM := Lib.hid hlm
  clear hsrc hown0 hlm hac
  go_wp2_with (at_builtin; refine wpList_append_lies _ rfl (.tmp 24) (.tmp 25) 22 rfl w1.heap.size 5 i0 _ 1 1 Try.underlying22 hi hz0 hz1 hz2 rfl (by decide) _ _ _ rfl HO0.out ⟨ab, aoff, none⟩ n cp ((b0 :: bt).map (Value.int .u8)) rfl HLM.out HSRC.out (by intro u hu; obtain ⟨x, _, rfl⟩ := List.mem_map.1 hu; rfl) (by omega) (by unfold maxLen; omega) (by omega) (by simp; omega) _ rfl ?_)
  intro g cap w3 hown3 hgrow hat hlt3
  have hgN : g ≠ w1.heap.size := by
    rcases hat with h | h
    · simp [Value.ownBlock] at h; omega
    · omega
  have hn3 : NetW w3 w1.heap.size w1.heap.size (.slice none 0 0) 0 [] := ⟨(hn2.box.alloc _).grown hgrow (by simp [Value.ownBlock]; omega), World.ownsRow_nil _ _ _ _, by simp [Value.ownBlock], Nat.le_refl _⟩
  have hb3 : Below w.heap.size w w3 := (hb2.alloc hb2.size _).grown hgrow (by have := hb2.size; simp; omega) (fun r hr => by simp [Value.ownBlock] at hr; have := hb2.size; omega)
  have hby3 : Byts w3 (Away w3 w1.heap.size (.slice none 0 0)) (some ⟨g, 0, none⟩) n (b0 :: bt) := ⟨HL.out, fun _ => ⟨g, 0, rfl, ⟨hlt3, hgN, by simp [Value.ownBlock]⟩, fun j v hv => by
    have hj := (List.getElem?_eq_some_iff.1 hv).1
    rw [HL.out] at hj
    have h9 : ((b0 :: bt).map (Value.int .u8))[j]? = some (.int .u8 v) := by rw [List.getElem?_map, hv]; rfl
    rw [Nat.zero_add, hown3.cellAt j (by omega)]; exact h9⟩⟩
  have hz3 : w2.heap.size + 1 ≤ w3.heap.size := by have := hgrow.size; simpa using this
  have h1w := hb1.size
  clear hgrow hat hn2
  go_wp2_with fail
  refine (send12b w1.heap.size _ _ 0 1 2 _ n cap (b0 :: bt) [] _ hn3 hby3 (by omega) (by omega) (by omega) (by simp) (by have := hb3.size; omega)).mono ?_
  rintro e w4 ⟨v4, d1, rfl, hn4, hd1, bk1, aw1, t4⟩
  have ag4 := t4.away ⟨hlt3, hgN, by simp [Value.ownBlock]⟩
  have hown4 := own_same hown3 (w' := w4) fun q hq => by simp [Value.ownBlock] at hq; subst hq; exact t4.same ⟨hlt3, hgN, by simp [Value.ownBlock]⟩
  have hb4 := hb3.trans ((hn3.stepBelow t4 (by have := hb3.size; omega)).mono h1w)
  have hB4 := t4.size
  clear t4 hn3 hown3 hby3 hb3
  go_wp2_with fail
  refine (double13b w1.heap.size _ _ _ 0 _ _ hn4 ⟨0 + 1, 1, 2, some ⟨d1, 0, none⟩, n, n⟩ (b0 :: bt) rfl (blk_byts bk1 HL.out aw1) (by show n ≤ 1000; omega) (by omega) (by omega) (by simp) (by simp) (by omega)).mono ?_
  rintro e w5 ⟨rfl, v5, d2, hn5, hd2, bk2, aw2, t5⟩
  have hd12 : d2 ≠ d1 := by have := aw1.1; omega
  have bk1 : Blk w5 d1 5 (cellsB (b0 :: bt)) := (t5.same aw1).trans bk1
  have aw1 := t5.away aw1
  have hown5 := own_same hown4 (w' := w5) fun q hq => by simp [Value.ownBlock] at hq; subst hq; exact t5.same ag4
  have ag5 := t5.away ag4
  have hb5 := hb4.trans ((hn4.stepBelow t5 (by omega)).mono h1w)
  have hB5 := t5.size
  have x0 : w5.cell? ⟨g, 0, none⟩ = some (.int .u8 b0) := hown5.cellAt 0 (by omega)
  have f0 := hown5.frozenAt 0
  clear t5 hn4 hown4 hb4
  -- x[0]++
  have hd1g : d1 ≠ g := by omega
  have hd2g : d2 ≠ g := by omega
  have hn6 : ∀ u, NetW (w5.setCell ⟨g, 0, none⟩ u) w1.heap.size w1.heap.size v5 (0 + 1 + 1) ([] ++ [⟨0 + 1, 1, 2, some ⟨d1, 0, none⟩, n, n⟩] ++ [⟨0 + 1 + 1, 1, 2, some ⟨d2, 0, none⟩, n, n⟩]) := fun u => hn5.other _ u (Ne.symm ag5.2.1) ag5.2.2
  have bk61 : ∀ u, Blk (w5.setCell ⟨g, 0, none⟩ u) d1 5 (cellsB (b0 :: bt)) := fun u => bk1.other _ u hd1g
  have bk62 : ∀ u, Blk (w5.setCell ⟨g, 0, none⟩ u) d2 5 (cellsB (b0 :: bt)) := fun u => bk2.other _ u hd2g
  have aw61 : ∀ u, Away (w5.setCell ⟨g, 0, none⟩ u) w1.heap.size v5 d1 := fun u => ⟨by simpa using aw1.1, aw1.2⟩
  have aw62 : ∀ u, Away (w5.setCell ⟨g, 0, none⟩ u) w1.heap.size v5 d2 := fun u => ⟨by simpa using aw2.1, aw2.2⟩
  have hb6 : ∀ u, Below w.heap.size w (w5.setCell ⟨g, 0, none⟩ u) := fun u => hb5.setCell (by show w.heap.size ≤ g; have := (hown5.lt g rfl).1; omega) u
  have hz6 : ∀ u, (w5.setCell ⟨g, 0, none⟩ u).heap.size = w5.heap.size := fun u => by simp
  have H6 := Lib.hid (And.intro hn6 (And.intro bk61 (And.intro bk62 (And.intro aw61 (And.intro aw62 (And.intro hb6 hz6))))))
  clear hn6 bk61 bk62 aw61 aw62 hb6 hz6 hn5 bk1 bk2 aw1 aw2 hb5 hown5
  go_wp2_with fail
  generalize hw6 : w5.setCell ⟨g, 0, none⟩ _ = w6 at *
  obtain ⟨hn6, bk1, bk2, aw1, aw2, hb6, hz6⟩ : NetW w6 w1.heap.size w1.heap.size v5 (0 + 1 + 1) ([] ++ [⟨0 + 1, 1, 2, some ⟨d1, 0, none⟩, n, n⟩] ++ [⟨0 + 1 + 1, 1, 2, some ⟨d2, 0, none⟩, n, n⟩]) ∧ Blk w6 d1 5 (cellsB (b0 :: bt)) ∧ Blk w6 d2 5 (cellsB (b0 :: bt)) ∧ Away w6 w1.heap.size v5 d1 ∧ Away w6 w1.heap.size v5 d2 ∧ Below w.heap.size w w6 ∧ w6.heap.size = w5.heap.size := by
    rw [← hw6]
    obtain ⟨a1, a2, a3, a4, a5, a6, a7⟩ := H6.out
    exact ⟨a1 _, a2 _, a3 _, a4 _, a5 _, a6 _, a7 _⟩
  clear hw6 H6 x0 f0
  have hB6 : w1.heap.size ≤ w6.heap.size := by omega
  have hz65 : w5.heap.size ≤ w6.heap.size := by omega
  clear hz6
  have r6 : Rds w6 (Away w6 w1.heap.size v5) ([] ++ [⟨0 + 1, 1, 2, some ⟨d1, 0, none⟩, n, n⟩] ++ [⟨0 + 1 + 1, 1, 2, some ⟨d2, 0, none⟩, n, n⟩]) [⟨0 + 1, 1, 2, b0 :: bt⟩, ⟨0 + 1 + 1, 1, 2, b0 :: bt⟩] :=
    Rds.cons ⟨rfl, rfl, rfl, blk_byts bk1 HL.out aw1, by show n ≤ 1000; omega⟩ (Rds.cons ⟨rfl, rfl, rfl, blk_byts bk2 HL.out aw2, by show n ≤ 1000; omega⟩ (Rds.nil _ _))
  refine (pending14b w1.heap.size _ _ _ _ _ _ hn6 r6 (by simp)).mono ?_
  rintro e w7 ⟨A7, c7, p7, rfl, sl7, rd7, fr7, b7⟩
  obtain ⟨b, off, l0, rfl, hbb, hl0, l00, l01, l02, l03⟩ := sl7.cells (k := 0) (by simp)
  obtain ⟨e0, hA0, bk0⟩ := fr7 0 l0 _ hl0 rfl
  have hl0n : l0.n = n := by have := (rd7.2 0 l0 _ hl0 rfl).data.1; rw [← this]; exact HL.out
  rw [hA0, hl0n] at l03
  have he0 : w6.heap.size ≤ e0 := by
    obtain ⟨b', off', e1, e2, _⟩ := (rd7.2 0 l0 _ hl0 rfl).data.2 (by rw [hl0n]; omega)
    rw [hA0] at e1; simp only [Option.some.injEq, Addr.mk.injEq, and_true] at e1
    omega
  have q0 := blk_cell0 bk0
  have q1 := bk0.frozen 0
  have n7 := hn6.below b7
  have bk71 := bk1.below b7 aw1.1
  have bk72 := bk2.below b7 aw2.1
  have aw71 : Away w7 w1.heap.size v5 d1 := ⟨Nat.lt_of_lt_of_le aw1.1 b7.size, aw1.2⟩
  have aw72 : Away w7 w1.heap.size v5 d2 := ⟨Nat.lt_of_lt_of_le aw2.1 b7.size, aw2.2⟩
  have ae7 : Away w7 w1.heap.size v5 e0 := fresh_away hn6 _ he0 bk0.lt
  have hb7 := hb6.trans (b7.mono hb6.size)
  have hd1e : d1 ≠ e0 := by have := aw1.1; omega
  have hd2e : d2 ≠ e0 := by have := aw2.1; omega
  have hz7 := b7.size
  have hn8 : ∀ u, NetW (w7.setCell ⟨e0, 0, none⟩ u) w1.heap.size w1.heap.size v5 (0 + 1 + 1) ([] ++ [⟨0 + 1, 1, 2, some ⟨d1, 0, none⟩, n, n⟩] ++ [⟨0 + 1 + 1, 1, 2, some ⟨d2, 0, none⟩, n, n⟩]) := fun u => n7.other _ u (Ne.symm ae7.2.1) ae7.2.2
  have H8 := Lib.hid (And.intro hn8 (And.intro (fun u => bk71.other ⟨e0, 0, none⟩ u hd1e) (And.intro (fun u => bk72.other ⟨e0, 0, none⟩ u hd2e) (And.intro (fun u => hb7.setCell (p := ⟨e0, 0, none⟩) (by show w.heap.size ≤ e0; have := hb6.size; omega) u) (fun u => (show (w7.setCell ⟨e0, 0, none⟩ u).heap.size = w7.heap.size by simp))))))
  clear hn6 n7 bk71 bk72 ae7 hb7 hn8 sl7 rd7 fr7 r6 bk0 bk1 bk2 hl0 hA0 b7 hb6
  go_wp2_with fail
  generalize hw8 : w7.setCell ⟨e0, 0, none⟩ _ = w8 at *
  obtain ⟨hn8, bk1, bk2, hb8, hz8⟩ : NetW w8 w1.heap.size w1.heap.size v5 (0 + 1 + 1) ([] ++ [⟨0 + 1, 1, 2, some ⟨d1, 0, none⟩, n, n⟩] ++ [⟨0 + 1 + 1, 1, 2, some ⟨d2, 0, none⟩, n, n⟩]) ∧ Blk w8 d1 5 (cellsB (b0 :: bt)) ∧ Blk w8 d2 5 (cellsB (b0 :: bt)) ∧ Below w.heap.size w w8 ∧ w8.heap.size = w7.heap.size := by
    rw [← hw8]
    obtain ⟨a1, a2, a3, a4, a5⟩ := H8.out
    exact ⟨a1 _, a2 _, a3 _, a4 _, a5 _⟩
  have aw81 : Away w8 w1.heap.size v5 d1 := ⟨by rw [hz8]; exact aw71.1, aw71.2⟩
  have aw82 : Away w8 w1.heap.size v5 d2 := ⟨by rw [hz8]; exact aw72.1, aw72.2⟩
  have hz87 : w7.heap.size ≤ w8.heap.size := by omega
  clear hw8 H8 q0 q1 hz8 l00 l01 l02 l03
  refine (deliver15 w1.heap.size _ _ _ 0 _ _ hn8 (by simp) (by simp)).mono ?_
  rintro e w9 ⟨p, v9, hp9, rfl, dl⟩
  obtain rfl : p = ⟨0 + 1, 1, 2, some ⟨d1, 0, none⟩, n, n⟩ := by simpa [pos] using hp9.symm
  have n9 := dl.net
  have bk91 : Blk w9 d1 5 (cellsB (b0 :: bt)) := (dl.step.same aw81).trans bk1
  have bk92 : Blk w9 d2 5 (cellsB (b0 :: bt)) := (dl.step.same aw82).trans bk2
  have aw91 := dl.step.away aw81
  have aw92 := dl.step.away aw82
  have hb9 := hb8.trans ((hn8.stepBelow dl.step (by omega)).mono h1w)
  have hz9 := dl.step.size
  simp [pos] at n9
  clear dl hn8 bk1 bk2 hb8 hp9 aw81 aw82
  dsimp only
  have q0 := blk_cell0 bk91
  have q1 := bk91.frozen 0
  have hl9 := bk91.lt
  have H10 := Lib.hid (And.intro (fun u => n9.other ⟨d1, 0, none⟩ u (Ne.symm aw91.2.1) aw91.2.2) (And.intro (fun u => bk92.other ⟨d1, 0, none⟩ u hd12) (And.intro (fun u => hb9.setCell (p := ⟨d1, 0, none⟩) (by show w.heap.size ≤ d1; omega) u) (fun u => (show (w9.setCell ⟨d1, 0, none⟩ u).heap.size = w9.heap.size by simp)))))
  clear n9 bk91 bk92 hb9
  go_wp2_with fail
  generalize hw10 : World.setCell _ ⟨d1, 0, none⟩ _ = w10 at *
  obtain ⟨n10, bk2, hb10, hz10⟩ : NetW w10 w1.heap.size w1.heap.size v9 2 [⟨2, 1, 2, some ⟨d2, 0, none⟩, n, n⟩] ∧ Blk w10 d2 5 (cellsB (b0 :: bt)) ∧ Below w.heap.size w w10 ∧ w10.heap.size = w9.heap.size := by
    rw [← hw10]
    obtain ⟨a1, a2, a3, a4⟩ := H10.out
    exact ⟨a1 _, a2 _, a3 _, a4 _⟩
  have n10 := n10.alloc (.cells #[.int .i64 1, .int .i64 1, .int .i64 2, .slice (some ⟨d1, 0, none⟩) n n] 31)
  have bk2 := bk2.alloc (.cells #[.int .i64 1, .int .i64 1, .int .i64 2, .slice (some ⟨d1, 0, none⟩) n n] 31)
  have hb10 := hb10.alloc hb10.size (.cells #[.int .i64 1, .int .i64 1, .int .i64 2, .slice (some ⟨d1, 0, none⟩) n n] 31)
  have aw10 : Away (w10.alloc (.cells #[.int .i64 1, .int .i64 1, .int .i64 2, .slice (some ⟨d1, 0, none⟩) n n] 31)) w1.heap.size v9 d2 := ⟨bk2.lt, aw92.2⟩
  have hz109 : w9.heap.size ≤ w10.heap.size := by omega
  clear hw10 H10 q0 q1 hz10
  refine (deliver15 w1.heap.size _ _ _ 0 _ _ n10 (by simp) (by simp)).mono ?_
  rintro e w11 ⟨p, v11, hp11, rfl, dl⟩
  obtain rfl : p = ⟨2, 1, 2, some ⟨d2, 0, none⟩, n, n⟩ := by simpa [pos] using hp11.symm
  have bk11 : Blk w11 d2 5 (cellsB (b0 :: bt)) := (dl.step.same aw10).trans bk2
  have hb11 := hb10.trans ((n10.stepBelow dl.step (by simp; omega)).mono h1w)
  dsimp only
  have HBK := Lib.hid bk11
  have HHE := Lib.hid he
  have HB11 := Lib.hid hb11
  clear dl n10 bk2 hb10 hp11 aw10 aw91 aw92 bk11 he hb11
  go_wp2_with fail
  have hb12 := HB11.out.alloc HB11.out.size (.cells #[.int .i64 2, .int .i64 1, .int .i64 2, .slice (some ⟨d2, 0, none⟩) n n] 31)
  refine (same16 (fun _ => True) (fun b => b < w.heap.size) (some ⟨d2, 0, none⟩) (some ⟨ab, aoff, none⟩) n n n cp (b0 :: bt) _ (blk_byts (HBK.out.alloc _) HL.out trivial) (HHE.out.keep fun b hb' => ⟨hb', hb12.block b hb'⟩) (by omega)).mono ?_
  rintro e w13 ⟨rfl, dd, rfl⟩
  go_wp2_with fail
  go_ret
  exact ⟨rfl, below_drewN hb12 dd⟩
theorem walk3 (A : Option Addr) (n cp : Nat) (bs : List Int) (w : World) (he : Byts w (· < w.heap.size) A n bs) (hn : n ≤ maxLen) :
    Calls Try.prog 3 #[.slice A n cp] w fun v w' => v = .returned (.bool true) ∧ Below w.heap.size w w' := by
  by_cases hf : n = 0 ∨ 40 < n
  · exact walk3_out A n cp bs w he hn hf
  · cases bs with
    | nil => have := he.1; simp at this; omega
    | cons b0 bt => exact walk3_mid A n cp b0 bt w he (by omega) (by omega)
set_option maxRecDepth 100000 in
theorem lifted3 (os : Os) (started : os.Started) (H : Type) (enc : TypeId × Value → H) :
    ReturnsInHanded {} Try.checked os 3 .any (Rows.netsimMemorySpec.pre6 enc Try.prog Try.f3 Rows.netsimMemoryRow.domain false) (Rows.netsimMemorySpec.post enc Try.prog Try.f3 false true false false) := by
  refine returnsInHanded_of_change (C := Try.checked) own_ started (by kernel_rfl) Try.func3
    (ChangeSpec.witness6 (enc := enc) (C := Try.checked) false ⟨#[], #[.slice none 0 0], []⟩ 8 (by kernel_rfl) (by kernel_rfl) (by kernel_rfl) (by kernel_rfl)) ?_
  intro W base args ds gs before hval0 hW hcnd _
  have hval : ∀ (j : Nat) t v, Try.f3.params[j]? = some t → args[j]? = some v → Value.okWide Try.prog W .any base t v := hval0
  have hW' := hW
  obtain ⟨p, q, hA0, hV, rfl, hfz, hnd⟩ := hW
  have hA : DataW.TrodAll enc Try.prog W 0 (fun _ => true) true Try.f3.params.toList args.toList ds p := hA0
  rw [Try.params3] at hA hval
  obtain ⟨v0, vs0, d0, ds0, p0, q0, hargs, rfl, rfl, h0, r0⟩ := trodAll_cons hA
  obtain ⟨rfl, rfl, rfl⟩ := trodAll_nil r0
  obtain rfl : args = #[v0] := by cases args; simp_all
  obtain ⟨rfl, rfl⟩ := trodVars_none hV
  have k0 := h0
  have lt0 : ∀ x ∈ p0, x.block < W.heap.size := by obtain ⟨m, hm⟩ := k0; exact DataW.trod_lt m _ _ _ hm
  obtain ⟨A0, n0, cp0, rfl⟩ := okWide_slice Try.underlying22 (hval 0 22 v0 rfl rfl)
  obtain ⟨hn0, bs0, he0⟩ : n0 ≤ maxLen ∧ ∃ bs, Byts W (· < W.heap.size) A0 n0 bs := by
    obtain ⟨fuel, hf⟩ := h0
    exact bytes_of_trod hf
  clear hA0 hval0
  refine (walk3 A0 n0 cp0 bs0 W he0 hn0).mono fun e W' ⟨he, bel⟩ => ?_
  subst he
  exact ⟨_, rfl, _, _, _, [], _, [], hW', trodAll_mk1 (shut_bool Try.underlying4 _), (trodAll_cons_mk (Below.trod laidOut_ (by kernel_rfl) (of_decide_eq_true (by kernel_rfl)) k0 bel lt0) trodAll_mk0), rfl, bel.frame _, fun h => by cases h⟩

theorem netsimMemory_holds : Rows.NetsimMemorySaid :=
  OpenClaim.holds_of_wide 3 Try.f3 rfl rfl rfl rfl rfl rfl rfl ⟨rfl, rfl, rfl, rfl, rfl⟩ rfl rfl rfl rfl rfl (by kernel_rfl) Try.func3 (by kernel_rfl)
    (of_decide_eq_true (by kernel_rfl)) (by unfold Func.isWrapper; first | (rw [if_pos (by decide +kernel)]; kernel_rfl) | (rw [if_neg (by decide +kernel)]; exact ⟨rfl, rfl⟩))
    (fun os started H enc _ => lifted3 os started H enc)

end Go.Proofs.Ytledcmcpinjboaa
