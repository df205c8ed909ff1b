/-
Contracts of the specification's functions: Double.
-/
import Derived.Test.YtledcmcpinjboaaR4
namespace Go.Proofs.Ytledcmcpinjboaa
open Go.RowKit
set_option linter.unusedVariables false
set_option linter.unusedSimpArgs false

/-- the two boxes of Double, Purge. -/
structure B2 (w W : World) (x y : Array Value) : Prop where
  x : Blk W w.heap.size 39 x
  y : Blk W (w.heap.size + 1) 39 y
  below : Below w.heap.size w W
theorem B2.to {w W W' : World} {x y : Array Value} (h : B2 w W x y) (hb : Below W.heap.size W W') : B2 w W' x y :=
  ⟨h.x.below hb h.x.lt, h.y.below hb h.y.lt, h.below.trans (hb.mono h.below.size)⟩
theorem B2.new (w : World) (x y : Array Value) : B2 w ((w.alloc (.cells x 39)).alloc (.cells y 39)) x y := by
  refine ⟨(Blk.new _ _ _).alloc _, ?_, ((Below.refl _ _).alloc (Nat.le_refl _) _).alloc (by simp) _⟩
  have := Blk.new (w.alloc (.cells x 39)) 39 y
  rwa [World.size_alloc] at this

set_option maxHeartbeats 1000000 in
theorem refDouble33_0 (A : Option Addr) (c : Nat) (l i : Int) (w : World) :
    Calls Try.prog 33 #[.agg #[.slice A 0 c, .int .i64 l], .int .i64 i] w fun e w' => e = .returned (.tuple #[.agg #[.slice A 0 c, .int .i64 l], .bool false]) ∧ Below w.heap.size w w' := by
  have hB := B2.new w #[.slice A 0 c, .int .i64 l] zeroN
  unfold zeroN at hB
  go_enter Try.func33, Try.ntmps33
  go_wp2_with fail
  generalize (w.alloc (.cells #[.slice A 0 c, .int .i64 l] 39)).alloc (.cells #[.slice none 0 0, .int .i64 0] 39) = w3 at *
  refine (index25_0 _ _ _ _ _).mono ?_
  rintro e w1 ⟨rfl, b1⟩
  have h1 := hB.to b1
  have x0 : w1.cell? ⟨w.heap.size, 0, none⟩ = some (.slice A 0 c) := h1.x.cell 0
  have x1 : w1.cell? ⟨w.heap.size, 1, none⟩ = some (.int .i64 l) := h1.x.cell 1
  have y0 : w1.cell? ⟨w.heap.size + 1, 0, none⟩ = some (.slice none 0 0) := h1.y.cell 0
  have y1 : w1.cell? ⟨w.heap.size + 1, 1, none⟩ = some (.int .i64 0) := h1.y.cell 1
  have f0 := h1.y.frozen 0
  have f1 := h1.y.frozen 1
  have HB := Lib.hid h1.below
  clear h1 hB b1
  go_wp2_with fail
  refine bodyPost_ret (v := .tuple #[.agg #[.slice A 0 c, .int .i64 l], .bool false]) (by simp [results, Try.results33, go_sem, y0, y1]) rfl ⟨rfl, ?_⟩
  exact (HB.out.setCell (by simp) _).setCell (by simp) _
set_option maxHeartbeats 2000000 in
theorem refDouble33 (ok : Nat → Prop) (A : Option Addr) (m c : Nat) (l i : Int) (ps : List Pk) (qs : List Pkt) (q : Pkt) (w : World) (h : Sl w ok A (m + 1) ps) (hr : Rds w ok ps qs) (hok : ∀ b, ok b → b < w.heap.size) (hq : qs[pos i (m + 1)]? = some q) (hm : m ≤ 999) (hl0 : 0 ≤ l) (hl1 : l ≤ 1000) :
    Calls Try.prog 33 #[.agg #[.slice A (m + 1) c, .int .i64 l], .int .i64 i] w fun e w' => ∃ A' c', e = .returned (.tuple #[.agg #[.slice A' (m + 1 + 1) c', .int .i64 (l + 1)], .bool true]) ∧ RefN w w' ok A' (m + 1 + 1) c' (qs ++ [⟨l + 1, q.frm, q.dst, q.data⟩]) := by
  have hpos := pos_lt i (n := m + 1) (by omega)
  have hB := B2.new w #[.slice A (m + 1) c, .int .i64 l] zeroN
  unfold zeroN at hB
  obtain ⟨b0, off, p, rfl, hb0, hp, c0, c1, c2, c3⟩ := h.cells hpos
  have hpq := hr.2 _ _ _ hp hq
  have hfrm := hpq.frm
  have hdst := hpq.dst
  have HP := Lib.hid (And.intro hpq.data hpq.small)
  have HS := Lib.hid (And.intro h hr)
  clear hp hq h hr hpq
  go_enter Try.func33, Try.ntmps33
  go_wp2_with fail
  generalize (w.alloc (.cells #[.slice (some ⟨b0, off, none⟩) (m + 1) c, .int .i64 l] 39)).alloc (.cells #[.slice none 0 0, .int .i64 0] 39) = w3 at *
  refine (index25 _ _ _ _ _ _ (by omega) (by omega)).mono ?_
  rintro e w1 ⟨rfl, b1⟩
  have h1 := hB.to b1
  generalize hK : pos i (m + 1) = k at *
  clear hK
  have hbz := hok b0 hb0
  have e2 : ∀ i u, w.cell? ⟨b0, i, none⟩ = some u → w1.cell? ⟨b0, i, none⟩ = some u := fun i u hu => (World.cell?_of_block (h1.below.block b0 hbz)).trans hu
  have d0 := e2 _ _ c0
  have d1 := e2 _ _ c1
  have d2 := e2 _ _ c2
  have d3 := e2 _ _ c3
  have x0 : w1.cell? ⟨w.heap.size, 0, none⟩ = some (.slice (some ⟨b0, off, none⟩) (m + 1) c) := h1.x.cell 0
  have x1 : w1.cell? ⟨w.heap.size, 1, none⟩ = some (.int .i64 l) := h1.x.cell 1
  have hk0 : 0 ≤ (k : Int) := by omega
  have hk1 : (k : Int) < (m : Int) + 1 := by omega
  have HB := Lib.hid h1
  clear e2 c0 c1 c2 c3 h1 hB b1
  go_upto_region 5 with (fail)
  have hB2 := HB.out.to ((Below.refl _ _).alloc (Nat.le_refl _) (.cells #[.int .i64 p.num, .int .i64 q.frm, .int .i64 q.dst, .slice p.A p.n p.c] 31))
  have hbz' := Blk.new w1 31 #[.int .i64 p.num, .int .i64 q.frm, .int .i64 q.dst, .slice p.A p.n p.c]
  have hs1 := HB.out.y.lt
  generalize w1.alloc (.cells #[.int .i64 p.num, .int .i64 q.frm, .int .i64 q.dst, .slice p.A p.n p.c] 31) = w2 at *
  have hs2 := hbz'.lt
  have kk : ∀ b, ok b → ok b ∧ w2.heap[b]? = w.heap[b]? := fun b hb' => ⟨hb', hB2.below.block b (hok b hb')⟩
  have HS2 := Lib.hid (And.intro (HS.out.1.keep kk) (And.intro (HS.out.2.keep kk) (HP.out.1.keep kk)))
  have x0 : w2.cell? ⟨w.heap.size, 0, none⟩ = some (.slice (some ⟨b0, off, none⟩) (m + 1) c) := hB2.x.cell 0
  have x1 : w2.cell? ⟨w.heap.size, 1, none⟩ = some (.int .i64 l) := hB2.x.cell 1
  have z1 : w2.cell? ⟨w1.heap.size, 1, none⟩ = some (.int .i64 q.frm) := hbz'.cell 1
  have z2 : w2.cell? ⟨w1.heap.size, 2, none⟩ = some (.int .i64 q.dst) := hbz'.cell 2
  have z3 : w2.cell? ⟨w1.heap.size, 3, none⟩ = some (.slice p.A p.n p.c) := hbz'.cell 3
  have H2 := Lib.hid hB2
  clear hB2 hbz' d0 d1 d2 d3 kk HS
  go_wp2_with fail
  refine (refSend31 ok ok _ _ (m + 1) c p.n p.c l q.frm q.dst q.data ps qs w2 HS2.out.1 HS2.out.2.1 HS2.out.2.2 (fun b hb' => Nat.lt_of_lt_of_le (hok b hb') H2.out.below.size) (fun b hb' => Nat.lt_of_lt_of_le (hok b hb') H2.out.below.size) (by omega) HP.out.2 hl0 hl1).mono ?_
  rintro e w4 ⟨A4, c4, rfl, r4⟩
  have h4 := H2.out.to r4.below
  have x0 : w4.cell? ⟨w.heap.size, 0, none⟩ = some (.slice (some ⟨b0, off, none⟩) (m + 1) c) := h4.x.cell 0
  have x1 : w4.cell? ⟨w.heap.size, 1, none⟩ = some (.int .i64 l) := h4.x.cell 1
  have y0 : w4.cell? ⟨w.heap.size + 1, 0, none⟩ = some (.slice none 0 0) := h4.y.cell 0
  have y1 : w4.cell? ⟨w.heap.size + 1, 1, none⟩ = some (.int .i64 0) := h4.y.cell 1
  have f0 := h4.x.frozen 0
  have f1 := h4.x.frozen 1
  have g0 := h4.y.frozen 0
  have g1 := h4.y.frozen 1
  have HR := Lib.hid (And.intro r4 h4.below)
  clear r4 h4
  go_wp2_with fail
  refine bodyPost_ret (v := .tuple #[.agg #[.slice A4 (m + 1 + 1) c4, .int .i64 (l + 1)], .bool true]) (by simp [results, Try.results33, go_sem, y0, y1]) rfl ?_
  obtain ⟨r4, hb4⟩ := HR.out
  obtain ⟨ps4, sl4, rd4⟩ := r4.reads
  have k2 : ∀ b, b ≠ w.heap.size → b ≠ w.heap.size + 1 → ((((w4.setCell ⟨w.heap.size, 0, none⟩ (.slice A4 (m + 1 + 1) c4)).setCell ⟨w.heap.size, 1, none⟩ (.int .i64 (l + 1))).setCell ⟨w.heap.size + 1, 0, none⟩ (.slice A4 (m + 1 + 1) c4)).setCell ⟨w.heap.size + 1, 1, none⟩ (.int .i64 (l + 1))).heap[b]? = w4.heap[b]? := fun b h1 h2 => by
    rw [Below.heap_setCell _ _ _ _ h2, Below.heap_setCell _ _ _ _ h2, Below.heap_setCell _ _ _ _ h1, Below.heap_setCell _ _ _ _ h1]
  have k3 : ∀ b, Gets w2 w4 ok b → Gets w ((((w4.setCell ⟨w.heap.size, 0, none⟩ (.slice A4 (m + 1 + 1) c4)).setCell ⟨w.heap.size, 1, none⟩ (.int .i64 (l + 1))).setCell ⟨w.heap.size + 1, 0, none⟩ (.slice A4 (m + 1 + 1) c4)).setCell ⟨w.heap.size + 1, 1, none⟩ (.int .i64 (l + 1))) ok b ∧ ((((w4.setCell ⟨w.heap.size, 0, none⟩ (.slice A4 (m + 1 + 1) c4)).setCell ⟨w.heap.size, 1, none⟩ (.int .i64 (l + 1))).setCell ⟨w.heap.size + 1, 0, none⟩ (.slice A4 (m + 1 + 1) c4)).setCell ⟨w.heap.size + 1, 1, none⟩ (.int .i64 (l + 1))).heap[b]? = w4.heap[b]? := fun b hb' => by
    rcases hb' with h | h
    · exact ⟨.inl h, k2 b (by have := hok b h; omega) (by have := hok b h; omega)⟩
    · have h1 : w2.heap.size ≤ b := h.1
      exact ⟨.inr ⟨by omega, by simp; exact h.2⟩, k2 b (by omega) (by omega)⟩
  exact ⟨A4, c4, rfl, r4.cap, (((hb4.setCell (by simp) _).setCell (by simp) _).setCell (by simp) _).setCell (by simp) _, ps4, sl4.keep k3, rd4.keep k3⟩
end Go.Proofs.Ytledcmcpinjboaa
