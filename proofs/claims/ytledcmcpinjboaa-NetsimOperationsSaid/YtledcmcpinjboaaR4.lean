/-
Contracts of the specification's functions: Deliver, Double.
-/
import Derived.Test.YtledcmcpinjboaaR3
namespace Go.Proofs.Ytledcmcpinjboaa
open Go.RowKit
set_option linter.unusedVariables false
set_option linter.unusedSimpArgs false

def zeroN : Array Value := #[.slice none 0 0, .int .i64 0]
def zeroP : Array Value := #[.int .i64 0, .int .i64 0, .int .i64 0, .slice none 0 0]
/-- the three boxes of Deliver and Double. -/
structure B3 (w W : World) (x y z : Array Value) : Prop where
  x : Blk W w.heap.size 39 x
  y : Blk W (w.heap.size + 1) 39 y
  z : Blk W (w.heap.size + 2) 31 z
  below : Below w.heap.size w W
theorem B3.to {w W W' : World} {x y z : Array Value} (h : B3 w W x y z) (hb : Below W.heap.size W W') : B3 w W' x y z :=
  ⟨h.x.below hb h.x.lt, h.y.below hb h.y.lt, h.z.below hb h.z.lt, h.below.trans (hb.mono h.below.size)⟩
theorem B3.new (w : World) (x y z : Array Value) : B3 w (((w.alloc (.cells x 39)).alloc (.cells y 39)).alloc (.cells z 31)) x y z := by
  refine ⟨((Blk.new _ _ _).alloc _).alloc _, ?_, ?_, (((Below.refl _ _).alloc (Nat.le_refl _) _).alloc (by simp) _).alloc (by simp; omega) _⟩
  · have := (Blk.new (w.alloc (.cells x 39)) 39 y).alloc (.cells z 31)
    rwa [World.size_alloc] at this
  · have := Blk.new ((w.alloc (.cells x 39)).alloc (.cells y 39)) 31 z
    rwa [World.size_alloc, World.size_alloc] at this

/-- but for the two blocks behind w's, all is as it was in w1. -/
def KD (w w1 W : World) : Prop := w1.heap.size ≤ W.heap.size ∧ ∀ b, b < w1.heap.size → b ≠ w.heap.size + 1 → b ≠ w.heap.size + 1 + 1 → W.heap[b]? = w1.heap[b]?
theorem KD.refl {w w1 : World} : KD w w1 w1 := ⟨Nat.le_refl _, fun _ _ _ _ => rfl⟩
theorem KD.drew {w w1 W : World} (h : KD w w1 W) : KD w w1 W.drew := h
theorem KD.of {w w1 W : World} (h : Below w1.heap.size w1 W) : KD w w1 W := ⟨h.size, fun b hb _ _ => h.block b hb⟩
theorem KD.y {w w1 W : World} (h : KD w w1 W) {j : Nat} {v : Value} : KD w w1 (W.setCell ⟨w.heap.size + 1, j, none⟩ v) := ⟨by have := h.1; simpa using this, fun b hb h1 h2 => (Below.heap_setCell _ _ _ _ h1).trans (h.2 b hb h1 h2)⟩
theorem KD.z {w w1 W : World} (h : KD w w1 W) {j : Nat} {v : Value} : KD w w1 (W.setCell ⟨w.heap.size + 1 + 1, j, none⟩ v) := ⟨by have := h.1; simpa using this, fun b hb h1 h2 => (Below.heap_setCell _ _ _ _ h2).trans (h.2 b hb h1 h2)⟩

set_option maxHeartbeats 1000000 in
theorem refDeliver32_0 (A : Option Addr) (c : Nat) (l i : Int) (w : World) :
    Calls Try.prog 32 #[.agg #[.slice A 0 c, .int .i64 l], .int .i64 i] w fun e w' => e = .returned (.tuple #[.agg #[.slice A 0 c, .int .i64 l], .agg #[.int .i64 0, .int .i64 0, .int .i64 0, .slice none 0 0], .bool false]) ∧ Below w.heap.size w w' := by
  have hB := B3.new w #[.slice A 0 c, .int .i64 l] zeroN zeroP
  unfold zeroN zeroP at hB
  go_enter Try.func32, Try.ntmps32
  go_wp2_with fail
  generalize ((w.alloc (.cells #[.slice A 0 c, .int .i64 l] 39)).alloc (.cells #[.slice none 0 0, .int .i64 0] 39)).alloc (.cells #[.int .i64 0, .int .i64 0, .int .i64 0, .slice none 0 0] 31) = w3 at *
  refine (index25_0 _ _ _ _ _).mono ?_
  rintro e w1 ⟨rfl, b1⟩
  have h1 := hB.to b1
  have x0 : w1.cell? ⟨w.heap.size, 0, none⟩ = some (.slice A 0 c) := h1.x.cell 0
  have x1 : w1.cell? ⟨w.heap.size, 1, none⟩ = some (.int .i64 l) := h1.x.cell 1
  have y0 : w1.cell? ⟨w.heap.size + 1, 0, none⟩ = some (.slice none 0 0) := h1.y.cell 0
  have y1 : w1.cell? ⟨w.heap.size + 1, 1, none⟩ = some (.int .i64 0) := h1.y.cell 1
  have z0 : w1.cell? ⟨w.heap.size + 2, 0, none⟩ = some (.int .i64 0) := h1.z.cell 0
  have z1 : w1.cell? ⟨w.heap.size + 2, 1, none⟩ = some (.int .i64 0) := h1.z.cell 1
  have z2 : w1.cell? ⟨w.heap.size + 2, 2, none⟩ = some (.int .i64 0) := h1.z.cell 2
  have z3 : w1.cell? ⟨w.heap.size + 2, 3, none⟩ = some (.slice none 0 0) := h1.z.cell 3
  have f0 := h1.y.frozen 0
  have f1 := h1.y.frozen 1
  have g0 := h1.z.frozen 0
  have g1 := h1.z.frozen 1
  have g2 := h1.z.frozen 2
  have g3 := h1.z.frozen 3
  have HB := Lib.hid h1.below
  clear h1 hB b1
  go_wp2_with fail
  refine bodyPost_ret (v := .tuple #[.agg #[.slice A 0 c, .int .i64 l], .agg #[.int .i64 0, .int .i64 0, .int .i64 0, .slice none 0 0], .bool false]) (by simp [results, Try.results32, go_sem, y0, y1, z0, z1, z2, z3]) rfl ⟨rfl, ?_⟩
  exact (((((HB.out.setCell (by simp) _).setCell (by simp) _).setCell (by dsimp only; omega) _).setCell (by dsimp only; omega) _).setCell (by dsimp only; omega) _).setCell (by dsimp only; omega) _
set_option maxHeartbeats 2000000 in
theorem refDeliver32 (ok : Nat → Prop) (A : Option Addr) (m c : Nat) (l i : Int) (ps : List Pk) (qs : List Pkt) (w : World) (h : Sl w ok A (m + 1) ps) (hr : Rds w ok ps qs) (hok : ∀ b, ok b → b < w.heap.size) (hc : m + 1 ≤ c) (hm : m ≤ 1000) :
    Calls Try.prog 32 #[.agg #[.slice A (m + 1) c, .int .i64 l], .int .i64 i] w fun e w' => ∃ A' c' p, ps[pos i (m + 1)]? = some p ∧ e = .returned (.tuple #[.agg #[.slice A' m c', .int .i64 l], .agg #[.int .i64 p.num, .int .i64 p.frm, .int .i64 p.dst, .slice p.A p.n p.c], .bool true]) ∧ RefN w w' ok A' m c' (qs.eraseIdx (pos i (m + 1))) := by
  have hpos := pos_lt i (n := m + 1) (by omega)
  have hB := B3.new w #[.slice A (m + 1) c, .int .i64 l] zeroN zeroP
  unfold zeroN zeroP at hB
  obtain ⟨b0, off, p, rfl, hb0, hp, _⟩ := h.cells hpos
  have HP := Lib.hid hp
  clear hp
  go_enter Try.func32, Try.ntmps32
  go_wp2_with fail
  generalize ((w.alloc (.cells #[.slice (some ⟨b0, off, none⟩) (m + 1) c, .int .i64 l] 39)).alloc (.cells #[.slice none 0 0, .int .i64 0] 39)).alloc (.cells #[.int .i64 0, .int .i64 0, .int .i64 0, .slice none 0 0] 31) = w3 at *
  refine (index25 _ _ _ _ _ _ (by omega) (by omega)).mono ?_
  rintro e w1 ⟨rfl, b1⟩
  have h1 := hB.to b1
  generalize hK : pos i (m + 1) = k at *
  have HKK := Lib.hid hK
  clear hK
  have kk : ∀ b, ok b → ok b ∧ w1.heap[b]? = w.heap[b]? := fun b hb' => ⟨hb', h1.below.block b (hok b hb')⟩
  have sl1 := h.keep kk
  have rd1 := hr.keep kk
  have hk0 : 0 ≤ (k : Int) := by omega
  have hk1 : (k : Int) < (m : Int) + 1 := by omega
  have hz1 : w.heap.size + 2 < w1.heap.size := h1.z.lt
  have HS := Lib.hid (And.intro sl1 rd1)
  have HB := Lib.hid h1
  have hbz : b0 < w1.heap.size := by have := hok b0 hb0; omega
  have hS : ∀ W, KD w w1 W → W.cell? ⟨w.heap.size, 0, none⟩ = some (.slice (some ⟨b0, off, none⟩) (m + 1) c) ∧ W.cell? ⟨w.heap.size, 1, none⟩ = some (.int .i64 l) ∧ W.cell? ⟨b0, off + k * 4, none⟩ = some (.int .i64 p.num) ∧ W.cell? ⟨b0, off + k * 4 + 1, none⟩ = some (.int .i64 p.frm) ∧ W.cell? ⟨b0, off + k * 4 + 2, none⟩ = some (.int .i64 p.dst) ∧ W.cell? ⟨b0, off + k * 4 + 3, none⟩ = some (.slice p.A p.n p.c) := fun W hW => by
    obtain ⟨b', off', p', e1, _, hp', c0, c1, c2, c3⟩ := sl1.cells (k := k) (by omega)
    simp only [Option.some.injEq, Addr.mk.injEq, and_true] at e1
    obtain ⟨rfl, rfl⟩ := e1
    obtain rfl : p = p' := by have := HP.out; rw [this] at hp'; simpa using hp'
    have e2 : ∀ i u, w1.cell? ⟨b0, i, none⟩ = some u → W.cell? ⟨b0, i, none⟩ = some u := fun i u hu => (World.cell?_of_block (hW.2 b0 hbz (by have := hok b0 hb0; omega) (by have := hok b0 hb0; omega))).trans hu
    have h2 : Blk W w.heap.size 39 _ := (hW.2 _ (by omega) (by omega) (by omega)).trans h1.x
    exact ⟨h2.cell 0, h2.cell 1, e2 _ _ c0, e2 _ _ c1, e2 _ _ c2, e2 _ _ c3⟩
  have KS := Lib.hid hS
  have hkk : KD w w1 w1 := KD.refl
  clear hS h hr sl1 rd1 h1 hB b1 kk
  go_upto_region 4 with (fail)
  go_region_held3 (fun W => W.cell? ⟨w.heap.size, 0, none⟩ = some (.slice (some ⟨b0, off, none⟩) (m + 1) c) ∧ W.cell? ⟨w.heap.size, 1, none⟩ = some (.int .i64 l) ∧ W.cell? ⟨b0, off + k * 4, none⟩ = some (.int .i64 p.num) ∧ W.cell? ⟨b0, off + k * 4 + 1, none⟩ = some (.int .i64 p.frm) ∧ W.cell? ⟨b0, off + k * 4 + 2, none⟩ = some (.int .i64 p.dst) ∧ W.cell? ⟨b0, off + k * 4 + 3, none⟩ = some (.slice p.A p.n p.c)) ((refine KS.out _ ?_; first | with_reducible exact hkk | with_reducible exact hkk.drew | with_reducible exact hkk.y.y | with_reducible exact hkk.y.y.z.z.z.z))
    (first
    | (go_at_call 37
       refine (remove37 ok _ m c k l ps qs _ (HS.out.1.keep (w' := w1.drew) fun b hb' => ⟨hb', rfl⟩) (HS.out.2.keep (w' := w1.drew) fun b hb' => ⟨hb', rfl⟩) (fun b hb' => Nat.lt_trans (hok b hb') (by show w.heap.size < w1.heap.size; omega)) hc (by omega) hm).mono ?_
       rintro e w4 ⟨A4, c4, rfl, r4⟩
       have hb4 : Below w1.heap.size w1 w4 := ⟨r4.below.os, r4.below.tape, r4.below.output, r4.below.size, r4.below.block⟩
       have hkk : KD w w1 w4 := KD.of hb4
       have h4 := HB.out.to hb4
       have y0 : w4.cell? ⟨w.heap.size + 1, 0, none⟩ = some (.slice none 0 0) := h4.y.cell 0
       have y1 : w4.cell? ⟨w.heap.size + 1, 1, none⟩ = some (.int .i64 0) := h4.y.cell 1
       have z0 : w4.cell? ⟨w.heap.size + 1 + 1, 0, none⟩ = some (.int .i64 0) := h4.z.cell 0
       have z1 : w4.cell? ⟨w.heap.size + 1 + 1, 1, none⟩ = some (.int .i64 0) := h4.z.cell 1
       have z2 : w4.cell? ⟨w.heap.size + 1 + 1, 2, none⟩ = some (.int .i64 0) := h4.z.cell 2
       have z3 : w4.cell? ⟨w.heap.size + 1 + 1, 3, none⟩ = some (.slice none 0 0) := h4.z.cell 3
       have f0 := h4.y.frozen 0
       have f1 := h4.y.frozen 1
       have g0 : w4.frozen? ⟨w.heap.size + 1 + 1, 0, none⟩ = false := h4.z.frozen 0
       have g1 : w4.frozen? ⟨w.heap.size + 1 + 1, 1, none⟩ = false := h4.z.frozen 1
       have g2 : w4.frozen? ⟨w.heap.size + 1 + 1, 2, none⟩ = false := h4.z.frozen 2
       have g3 : w4.frozen? ⟨w.heap.size + 1 + 1, 3, none⟩ = false := h4.z.frozen 3
       have HR := Lib.hid (And.intro r4 h4.below)
       clear r4 h4 hb4))
  all_goals
    go_wp2_with fail
    refine bodyPost_ret (v := .tuple #[.agg #[.slice A4 m c4, .int .i64 l], .agg #[.int .i64 p.num, .int .i64 p.frm, .int .i64 p.dst, .slice p.A p.n p.c], .bool true]) (by simp [results, Try.results32, go_sem, y0, y1, z0, z1, z2, z3]) rfl ?_
    obtain ⟨r4, hb4⟩ := HR.out
    obtain ⟨ps4, sl4, rd4⟩ := r4.reads
    have k2 : ∀ b, b ≠ w.heap.size + 1 → b ≠ w.heap.size + 1 + 1 → ((((((w4.setCell ⟨w.heap.size + 1, 0, none⟩ (.slice A4 m c4)).setCell ⟨w.heap.size + 1, 1, none⟩ (.int .i64 l)).setCell ⟨w.heap.size + 1 + 1, 0, none⟩ (.int .i64 p.num)).setCell ⟨w.heap.size + 1 + 1, 1, none⟩ (.int .i64 p.frm)).setCell ⟨w.heap.size + 1 + 1, 2, none⟩ (.int .i64 p.dst)).setCell ⟨w.heap.size + 1 + 1, 3, none⟩ (.slice p.A p.n p.c)).heap[b]? = w4.heap[b]? := fun b h1 h2 => by
      rw [Below.heap_setCell _ _ _ _ h2, Below.heap_setCell _ _ _ _ h2, Below.heap_setCell _ _ _ _ h2, Below.heap_setCell _ _ _ _ h2, Below.heap_setCell _ _ _ _ h1, Below.heap_setCell _ _ _ _ h1]
    have k3 : ∀ b, Gets w1.drew w4 ok b → Gets w ((((((w4.setCell ⟨w.heap.size + 1, 0, none⟩ (.slice A4 m c4)).setCell ⟨w.heap.size + 1, 1, none⟩ (.int .i64 l)).setCell ⟨w.heap.size + 1 + 1, 0, none⟩ (.int .i64 p.num)).setCell ⟨w.heap.size + 1 + 1, 1, none⟩ (.int .i64 p.frm)).setCell ⟨w.heap.size + 1 + 1, 2, none⟩ (.int .i64 p.dst)).setCell ⟨w.heap.size + 1 + 1, 3, none⟩ (.slice p.A p.n p.c)) ok b ∧ ((((((w4.setCell ⟨w.heap.size + 1, 0, none⟩ (.slice A4 m c4)).setCell ⟨w.heap.size + 1, 1, none⟩ (.int .i64 l)).setCell ⟨w.heap.size + 1 + 1, 0, none⟩ (.int .i64 p.num)).setCell ⟨w.heap.size + 1 + 1, 1, none⟩ (.int .i64 p.frm)).setCell ⟨w.heap.size + 1 + 1, 2, none⟩ (.int .i64 p.dst)).setCell ⟨w.heap.size + 1 + 1, 3, none⟩ (.slice p.A p.n p.c)).heap[b]? = w4.heap[b]? := fun b hb' => by
      rcases hb' with h | h
      · exact ⟨.inl h, k2 b (by have := hok b h; omega) (by have := hok b h; omega)⟩
      · have h1 : w1.heap.size ≤ b := h.1
        exact ⟨.inr ⟨by omega, by simp; exact h.2⟩, k2 b (by omega) (by omega)⟩
    rw [HKK.out]
    exact ⟨A4, c4, p, HP.out, rfl, r4.cap, (((((hb4.setCell (by dsimp only; omega) _).setCell (by dsimp only; omega) _).setCell (by dsimp only; omega) _).setCell (by dsimp only; omega) _).setCell (by dsimp only; omega) _).setCell (by dsimp only; omega) _, ps4, sl4.keep k3, rd4.keep k3⟩
end Go.Proofs.Ytledcmcpinjboaa
