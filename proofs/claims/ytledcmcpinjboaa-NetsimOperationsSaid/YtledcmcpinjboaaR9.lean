/-
step of the law: the network and the specification agree (deliver).
-/
import Derived.Test.YtledcmcpinjboaaR8
namespace Go.Proofs.Ytledcmcpinjboaa
open Go.RowKit
set_option linter.unusedVariables false
set_option linter.unusedSimpArgs false

/-- but for block z, all is as it was in w1. -/
def KZ (z : Nat) (w1 W : World) : Prop := w1.heap.size ≤ W.heap.size ∧ ∀ b, b < w1.heap.size → b ≠ z → W.heap[b]? = w1.heap[b]?
theorem KZ.refl {z : Nat} {w1 : World} : KZ z w1 w1 := ⟨Nat.le_refl _, fun _ _ _ => rfl⟩
theorem KZ.drew {z : Nat} {w1 W : World} (h : KZ z w1 W) : KZ z w1 W.drew := h
theorem KZ.of {z : Nat} {w1 W : World} (h : Below w1.heap.size w1 W) : KZ z w1 W := ⟨h.size, fun b hb _ => h.block b hb⟩
theorem KZ.z {z : Nat} {w1 W : World} (h : KZ z w1 W) {j : Nat} {v : Value} : KZ z w1 (W.setCell ⟨z, j, none⟩ v) := ⟨by have := h.1; simpa using this, fun b hb h1 => (Below.heap_setCell _ _ _ _ h1).trans (h.2 b hb h1)⟩

set_option maxHeartbeats 4000000 in
theorem step_deliver0 (B N : Nat) (v : Value) (ps : List Pk) (A : Option Addr) (m c : Nat) (s : AR) (o : Op5) (d : List Int) (w : World) (h : Bo w B N v ps A m c s) (hd : Byts w (Away w N v) o.A o.n d) (hon : o.n ≤ 60) (hl0 : 0 ≤ s.last) (hl1 : s.last ≤ 100) (hp : s.pend.length ≤ 100) (hE : s.pend = [])
    (k0 : (o.kind == 0) = false) (k1 : (o.kind == 1) = false) (k2 : (o.kind == 2) = false) (k3 : (o.kind == 3) = true) :
    Calls Try.prog 18 #[.pointer (some ⟨N, 0, none⟩), .agg #[.slice A m c, .int .i64 s.last], .agg #[.int .u8 o.kind, .int .i64 o.frm, .int .i64 o.dst, .slice o.A o.n o.c, .int .i64 o.i]] w (Post18 w B N (s)) := by
  have hps : ps.length = s.pend.length := h.dp.1
  have hm : m = s.pend.length := h.len
  rw [hE] at hps hm
  obtain rfl : m = 0 := hm
  obtain rfl : ps = [] := List.eq_nil_of_length_eq_zero hps
  have hbx := B18.new w A 0 c s.last o
  have hz : Bz w (((w.alloc (.cells #[.slice A 0 c, .int .i64 s.last] 39)).alloc (.cells #[.int .u8 o.kind, .int .i64 o.frm, .int .i64 o.dst, .slice o.A o.n o.c, .int .i64 o.i] 41)).alloc (.cells #[.slice none 0 0, .int .i64 0] 39)) B N v [] A 0 c s.last s.pend s.pend := Bz.init h ((((Below.refl _ _).alloc (Nat.le_refl _) _).alloc (by simp) _).alloc (by simp; omega) _) (by simp)
  have HE := Lib.hid hE
  have KW := Lib.hid (show ∀ b, b < w.heap.size → (((w.alloc (.cells #[.slice A 0 c, .int .i64 s.last] 39)).alloc (.cells #[.int .u8 o.kind, .int .i64 o.frm, .int .i64 o.dst, .slice o.A o.n o.c, .int .i64 o.i] 41)).alloc (.cells #[.slice none 0 0, .int .i64 0] 39)).heap[b]? = w.heap[b]? from fun b hb => ((((Below.refl _ _).alloc (Nat.le_refl _) _).alloc (by simp) _).alloc (by simp; omega) _ : Below w.heap.size w (((w.alloc (.cells #[.slice A 0 c, .int .i64 s.last] 39)).alloc (.cells #[.int .u8 o.kind, .int .i64 o.frm, .int .i64 o.dst, .slice o.A o.n o.c, .int .i64 o.i] 41)).alloc (.cells #[.slice none 0 0, .int .i64 0] 39))).block b hb)
  clear hps hE
  have HD := Lib.hid hd
  clear hd h
  go_enter Try.func18, Try.ntmps18
  go_wp2_with fail
  generalize ((w.alloc (.cells #[.slice A 0 c, .int .i64 s.last] 39)).alloc (.cells #[.int .u8 o.kind, .int .i64 o.frm, .int .i64 o.dst, .slice o.A o.n o.c, .int .i64 o.i] 41)).alloc (.cells #[.slice none 0 0, .int .i64 0] 39) = wA at *
  have hsA := hz.size
  refine (deliver15_0 B _ _ _ _ _ hz.net).mono ?_
  rintro e w1' ⟨rfl, b1⟩
  have h1' := hz.below b1
  have hb1' := hbx.below b1
  go_upto_region 10 with (fail)
  have bel1 := (Below.refl w1'.heap.size w1').alloc (Nat.le_refl _) (.cells #[.int .i64 0, .int .i64 0, .int .i64 0, .slice none 0 0] 31)
  have h1 := h1'.below bel1
  have hb1 := hb1'.below bel1
  have hP := Blk.new w1' 31 #[.int .i64 0, .int .i64 0, .int .i64 0, .slice none 0 0]
  generalize w1'.alloc (.cells #[.int .i64 0, .int .i64 0, .int .i64 0, .slice none 0 0] 31) = w1 at *
  have hPl := hP.lt
  have hs1' := h1'.size
  have HP := Lib.hid hP
  have x0 : w1.cell? ⟨w.heap.size, 0, none⟩ = some (.slice A 0 c) := hb1.x.cell 0
  have x1 : w1.cell? ⟨w.heap.size, 1, none⟩ = some (.int .i64 s.last) := hb1.x.cell 1
  have y0 : w1.cell? ⟨w.heap.size + 1, 0, none⟩ = some (.int .u8 o.kind) := hb1.y.cell 0
  have y1 : w1.cell? ⟨w.heap.size + 1, 1, none⟩ = some (.int .i64 o.frm) := hb1.y.cell 1
  have y2 : w1.cell? ⟨w.heap.size + 1, 2, none⟩ = some (.int .i64 o.dst) := hb1.y.cell 2
  have y3 : w1.cell? ⟨w.heap.size + 1, 3, none⟩ = some (.slice o.A o.n o.c) := hb1.y.cell 3
  have y4 : w1.cell? ⟨w.heap.size + 1, 4, none⟩ = some (.int .i64 o.i) := hb1.y.cell 4
  have H1 := Lib.hid h1
  have HB1 := Lib.hid hb1
  have hs1 := h1.size
  clear h1 hb1 hz hbx HD h1' hb1' bel1 hP b1
  go_wp2_with fail
  refine (refDeliver32_0 A c s.last o.i w1).mono ?_
  rintro e w2 ⟨rfl, b2⟩
  have h2 := H1.out.below b2
  have hb2 := HB1.out.below b2
  have hP2 := HP.out.below b2 hPl
  go_upto_region 11 with (fail)
  have bel3 := ((Below.refl w2.heap.size w2).alloc (Nat.le_refl _) (.cells #[.slice A 0 c, .int .i64 s.last] 39)).alloc (by simp) (.cells #[.int .i64 0, .int .i64 0, .int .i64 0, .slice none 0 0] 31)
  have hb3 := hb2.below bel3
  have hn3 := (Blk.new w2 39 #[.slice A 0 c, .int .i64 s.last]).alloc (.cells #[.int .i64 0, .int .i64 0, .int .i64 0, .slice none 0 0] 31)
  have hq3 : Blk ((w2.alloc (.cells #[.slice A 0 c, .int .i64 s.last] 39)).alloc (.cells #[.int .i64 0, .int .i64 0, .int .i64 0, .slice none 0 0] 31)) (w2.heap.size + 1) 31 #[.int .i64 0, .int .i64 0, .int .i64 0, .slice none 0 0] := by
    have := Blk.new (w2.alloc (.cells #[.slice A 0 c, .int .i64 s.last] 39)) 31 #[.int .i64 0, .int .i64 0, .int .i64 0, .slice none 0 0]
    rwa [World.size_alloc] at this
  have hs2 := b2.size
  have hP3 := hP2.below bel3 (by omega)
  generalize (w2.alloc (.cells #[.slice A 0 c, .int .i64 s.last] 39)).alloc (.cells #[.int .i64 0, .int .i64 0, .int .i64 0, .slice none 0 0] 31) = w3 at *
  have hq3l := hq3.lt
  have hS : ∀ W, KZ (w.heap.size + 2) w3 W → W.cell? ⟨w2.heap.size, 0, none⟩ = some (.slice A 0 c) ∧ W.cell? ⟨w2.heap.size, 1, none⟩ = some (.int .i64 s.last) ∧ W.cell? ⟨w1'.heap.size, 0, none⟩ = some (.int .i64 0) ∧ W.cell? ⟨w1'.heap.size, 1, none⟩ = some (.int .i64 0) ∧ W.cell? ⟨w1'.heap.size, 2, none⟩ = some (.int .i64 0) ∧ W.cell? ⟨w1'.heap.size, 3, none⟩ = some (.slice none 0 0) ∧ W.cell? ⟨w2.heap.size + 1, 0, none⟩ = some (.int .i64 0) ∧ W.cell? ⟨w2.heap.size + 1, 1, none⟩ = some (.int .i64 0) ∧ W.cell? ⟨w2.heap.size + 1, 2, none⟩ = some (.int .i64 0) ∧ W.cell? ⟨w2.heap.size + 1, 3, none⟩ = some (.slice none 0 0) := fun W hW => by
    have e1 : Blk W w2.heap.size 39 _ := (hW.2 _ (by omega) (by omega)).trans hn3
    have e2 : Blk W w1'.heap.size 31 _ := (hW.2 _ (by omega) (by omega)).trans hP3
    have e3 : Blk W (w2.heap.size + 1) 31 _ := (hW.2 _ (by omega) (by omega)).trans hq3
    exact ⟨e1.cell 0, e1.cell 1, e2.cell 0, e2.cell 1, e2.cell 2, e2.cell 3, e3.cell 0, e3.cell 1, e3.cell 2, e3.cell 3⟩
  have KS := Lib.hid hS
  have hkk : KZ (w.heap.size + 2) w3 w3 := KZ.refl
  have HB3 := Lib.hid hb3
  have HZ := Lib.hid h2
  have BEL := Lib.hid bel3
  clear hS hb3 hn3 hq3 hP3 h2 bel3 hb2 hP2 b2
  go_region_held3 (fun W => W.cell? ⟨w2.heap.size, 0, none⟩ = some (.slice A 0 c) ∧ W.cell? ⟨w2.heap.size, 1, none⟩ = some (.int .i64 s.last) ∧ W.cell? ⟨w1'.heap.size, 0, none⟩ = some (.int .i64 0) ∧ W.cell? ⟨w1'.heap.size, 1, none⟩ = some (.int .i64 0) ∧ W.cell? ⟨w1'.heap.size, 2, none⟩ = some (.int .i64 0) ∧ W.cell? ⟨w1'.heap.size, 3, none⟩ = some (.slice none 0 0) ∧ W.cell? ⟨w2.heap.size + 1, 0, none⟩ = some (.int .i64 0) ∧ W.cell? ⟨w2.heap.size + 1, 1, none⟩ = some (.int .i64 0) ∧ W.cell? ⟨w2.heap.size + 1, 2, none⟩ = some (.int .i64 0) ∧ W.cell? ⟨w2.heap.size + 1, 3, none⟩ = some (.slice none 0 0)) ((refine KS.out _ ?_; first | with_reducible exact hkk | with_reducible exact hkk.drew | with_reducible exact hkk.z.z))
    (first
    | (go_at_call 22
       refine (samePacket22 (fun _ => False) (fun _ => False) ⟨0, 0, 0, none, 0, 0⟩ ⟨0, 0, 0, none, 0, 0⟩ ⟨0, 0, 0, []⟩ _ ⟨rfl, rfl, rfl, ⟨rfl, fun h => by simp at h⟩, Nat.zero_le _⟩ ⟨rfl, rfl, rfl, ⟨rfl, fun h => by simp at h⟩, Nat.zero_le _⟩ (fun _ h => h.elim) (fun _ h => h.elim)).mono ?_
       rintro e w4 ⟨rfl, b4'⟩
       have b4 : Below w3.heap.size w3 w4 := ⟨b4'.os, b4'.tape, b4'.output, b4'.size, b4'.block⟩
       have hkk : KZ (w.heap.size + 2) w3 w4 := KZ.of b4
       have hb4 := HB3.out.below b4
       have z0 : w4.cell? ⟨w.heap.size + 2, 0, none⟩ = some (.slice none 0 0) := hb4.z.cell 0
       have z1 : w4.cell? ⟨w.heap.size + 2, 1, none⟩ = some (.int .i64 0) := hb4.z.cell 1
       have f0 : w4.frozen? ⟨w.heap.size + 2, 0, none⟩ = false := hb4.z.frozen 0
       have f1 : w4.frozen? ⟨w.heap.size + 2, 1, none⟩ = false := hb4.z.frozen 1
       have BEL4 := Lib.hid (BEL.out.trans (b4.mono BEL.out.size))
       clear b4 b4' hb4))
  all_goals
    go_wp2_with fail
    refine bodyPost_ret (v := .tuple #[.agg #[.slice A 0 c, .int .i64 s.last], .bool true]) (by simp [results, Try.results18, go_sem, z0, z1]) rfl ?_
    obtain ⟨hF1, hF2⟩ := HZ.out.fin (s := s) BEL4.out rfl rfl
    exact ⟨_, _, _, _, _, rfl, hF1, hF2⟩

set_option maxHeartbeats 4000000 in
theorem step_deliver (B N : Nat) (v : Value) (ps : List Pk) (A : Option Addr) (m c : Nat) (s : AR) (o : Op5) (d : List Int) (w : World) (h : Bo w B N v ps A m c s) (hd : Byts w (Away w N v) o.A o.n d) (hon : o.n ≤ 60) (hl0 : 0 ≤ s.last) (hl1 : s.last ≤ 100) (hp : s.pend.length ≤ 100) (q : Pkt) (hq : s.pend[pos o.i s.pend.length]? = some q)
    (k0 : (o.kind == 0) = false) (k1 : (o.kind == 1) = false) (k2 : (o.kind == 2) = false) (k3 : (o.kind == 3) = true) :
    Calls Try.prog 18 #[.pointer (some ⟨N, 0, none⟩), .agg #[.slice A m c, .int .i64 s.last], .agg #[.int .u8 o.kind, .int .i64 o.frm, .int .i64 o.dst, .slice o.A o.n o.c, .int .i64 o.i]] w (Post18 w B N ({ s with pend := s.pend.eraseIdx (pos o.i s.pend.length), got := s.got ++ [q] })) := by
  have hps : ps.length = s.pend.length := h.dp.1
  have hm : m = s.pend.length := h.len
  have hE : 0 < s.pend.length := by have := (List.getElem?_eq_some_iff.1 hq).1; omega
  obtain ⟨m, rfl⟩ : ∃ m1, m = m1 + 1 := ⟨m - 1, by omega⟩
  have hbx := B18.new w A (m + 1) c s.last o
  have hz : Bz w (((w.alloc (.cells #[.slice A (m + 1) c, .int .i64 s.last] 39)).alloc (.cells #[.int .u8 o.kind, .int .i64 o.frm, .int .i64 o.dst, .slice o.A o.n o.c, .int .i64 o.i] 41)).alloc (.cells #[.slice none 0 0, .int .i64 0] 39)) B N v ps A (m + 1) c s.last s.pend s.pend := Bz.init h ((((Below.refl _ _).alloc (Nat.le_refl _) _).alloc (by simp) _).alloc (by simp; omega) _) (by simp)
  have HPS := Lib.hid hps
  have HM := Lib.hid hm
  have hps100 : ps.length ≤ 100 := by omega
  have hm100 : m ≤ 100 := by omega
  have KW := Lib.hid (show ∀ b, b < w.heap.size → (((w.alloc (.cells #[.slice A (m + 1) c, .int .i64 s.last] 39)).alloc (.cells #[.int .u8 o.kind, .int .i64 o.frm, .int .i64 o.dst, .slice o.A o.n o.c, .int .i64 o.i] 41)).alloc (.cells #[.slice none 0 0, .int .i64 0] 39)).heap[b]? = w.heap[b]? from fun b hb => ((((Below.refl _ _).alloc (Nat.le_refl _) _).alloc (by simp) _).alloc (by simp; omega) _ : Below w.heap.size w (((w.alloc (.cells #[.slice A (m + 1) c, .int .i64 s.last] 39)).alloc (.cells #[.int .u8 o.kind, .int .i64 o.frm, .int .i64 o.dst, .slice o.A o.n o.c, .int .i64 o.i] 41)).alloc (.cells #[.slice none 0 0, .int .i64 0] 39))).block b hb)
  have hps0 : 0 < ps.length := by omega
  have hmc : m + 1 ≤ c := h.cap
  clear hps hm
  have HD := Lib.hid hd
  clear hd h
  have HQ := Lib.hid hq
  clear hq
  go_enter Try.func18, Try.ntmps18
  go_wp2_with fail
  generalize ((w.alloc (.cells #[.slice A (m + 1) c, .int .i64 s.last] 39)).alloc (.cells #[.int .u8 o.kind, .int .i64 o.frm, .int .i64 o.dst, .slice o.A o.n o.c, .int .i64 o.i] 41)).alloc (.cells #[.slice none 0 0, .int .i64 0] 39) = wA at *
  have hsA := hz.size
  refine (deliver15 B _ _ _ _ _ _ hz.net hps0 (by omega)).mono ?_
  rintro e w1' ⟨p, v1, g1, rfl, d1⟩
  obtain ⟨p', q', g1', g2, g3⟩ := hz.dp.at_ (pos_lt o.i hps0)
  obtain rfl : p = p' := by rw [g1] at g1'; simpa using g1'
  obtain rfl : q = q' := by have := HQ.out; rw [← HPS.out] at this; rw [this] at g2; simpa using g2
  have h1' := hz.op d1.net d1.step (Rds.erase (pos o.i ps.length) (hz.dp.keep fun b hb => OkZ.step d1.step hb))
  have hb1' := hbx.step hz d1.step
  have RP' := g3.keep fun b hb => OkZ.step d1.step hb
  go_upto_region 10 with (fail)
  have bel1 := (Below.refl w1'.heap.size w1').alloc (Nat.le_refl _) (.cells #[.int .i64 p.num, .int .i64 p.frm, .int .i64 p.dst, .slice p.A p.n p.c] 31)
  have h1 := h1'.below bel1
  have hb1 := hb1'.below bel1
  have hP := Blk.new w1' 31 #[.int .i64 p.num, .int .i64 p.frm, .int .i64 p.dst, .slice p.A p.n p.c]
  have RP := Lib.hid (RP'.keep (ok' := fun b => b < w1'.heap.size) fun b hb => ⟨hb.1.1, bel1.block b hb.1.1⟩)
  generalize w1'.alloc (.cells #[.int .i64 p.num, .int .i64 p.frm, .int .i64 p.dst, .slice p.A p.n p.c] 31) = w1 at *
  have hPl := hP.lt
  have hs1' := h1'.size
  have HP := Lib.hid hP
  have x0 : w1.cell? ⟨w.heap.size, 0, none⟩ = some (.slice A (m + 1) c) := hb1.x.cell 0
  have x1 : w1.cell? ⟨w.heap.size, 1, none⟩ = some (.int .i64 s.last) := hb1.x.cell 1
  have y0 : w1.cell? ⟨w.heap.size + 1, 0, none⟩ = some (.int .u8 o.kind) := hb1.y.cell 0
  have y1 : w1.cell? ⟨w.heap.size + 1, 1, none⟩ = some (.int .i64 o.frm) := hb1.y.cell 1
  have y2 : w1.cell? ⟨w.heap.size + 1, 2, none⟩ = some (.int .i64 o.dst) := hb1.y.cell 2
  have y3 : w1.cell? ⟨w.heap.size + 1, 3, none⟩ = some (.slice o.A o.n o.c) := hb1.y.cell 3
  have y4 : w1.cell? ⟨w.heap.size + 1, 4, none⟩ = some (.int .i64 o.i) := hb1.y.cell 4
  obtain ⟨pk, r1, r2⟩ := h1.ref
  have HA := Lib.hid (And.intro r1 r2)
  have H1 := Lib.hid h1
  have HB1 := Lib.hid hb1
  have hs1 := h1.size
  clear h1 hb1 hz hbx HD h1' hb1' bel1 hP r1 r2 d1 g1 g1' g2 g3 RP'
  go_wp2_with fail
  refine (refDeliver32 _ A m c s.last o.i pk s.pend w1 HA.out.1 HA.out.2 (fun b hb => hb.1.1) (by omega) (by omega)).mono ?_
  rintro e w2 ⟨A2, c2, p2, hp2, rfl, r2⟩
  have h2 := H1.out.refN r2
  rw [HPS.out, ← HM.out] at h2
  have hb2 := HB1.out.below r2.below
  have hP2 := HP.out.below r2.below hPl
  have RP2 := Lib.hid (RP.out.keep (w' := w2) (ok' := fun b => b < w2.heap.size) fun b hb => ⟨by have := r2.below.size; omega, r2.below.block b (by omega)⟩)
  have RQ2 := Lib.hid ((HA.out.2.2 _ _ _ hp2 (by rw [HM.out]; exact HQ.out)).keep (w' := w2) (ok' := fun b => b < w2.heap.size) fun b hb => ⟨by have := r2.below.size; have := hb.1.1; omega, r2.below.block b hb.1.1⟩)
  have b2 := r2.below
  clear r2 hp2
  go_upto_region 11 with (fail)
  have bel3 := ((Below.refl w2.heap.size w2).alloc (Nat.le_refl _) (.cells #[.slice A2 m c2, .int .i64 s.last] 39)).alloc (by simp) (.cells #[.int .i64 p2.num, .int .i64 p2.frm, .int .i64 p2.dst, .slice p2.A p2.n p2.c] 31)
  have hb3 := hb2.below bel3
  have hn3 := (Blk.new w2 39 #[.slice A2 m c2, .int .i64 s.last]).alloc (.cells #[.int .i64 p2.num, .int .i64 p2.frm, .int .i64 p2.dst, .slice p2.A p2.n p2.c] 31)
  have hq3 : Blk ((w2.alloc (.cells #[.slice A2 m c2, .int .i64 s.last] 39)).alloc (.cells #[.int .i64 p2.num, .int .i64 p2.frm, .int .i64 p2.dst, .slice p2.A p2.n p2.c] 31)) (w2.heap.size + 1) 31 #[.int .i64 p2.num, .int .i64 p2.frm, .int .i64 p2.dst, .slice p2.A p2.n p2.c] := by
    have := Blk.new (w2.alloc (.cells #[.slice A2 m c2, .int .i64 s.last] 39)) 31 #[.int .i64 p2.num, .int .i64 p2.frm, .int .i64 p2.dst, .slice p2.A p2.n p2.c]
    rwa [World.size_alloc] at this
  have hs2 := b2.size
  have hP3 := hP2.below bel3 (by omega)
  have RP3 := Lib.hid (RP2.out.keep (ok' := fun b => b < w2.heap.size) fun b hb => ⟨hb, bel3.block b hb⟩)
  have RQ3 := Lib.hid (RQ2.out.keep (ok' := fun b => b < w2.heap.size) fun b hb => ⟨hb, bel3.block b hb⟩)
  generalize (w2.alloc (.cells #[.slice A2 m c2, .int .i64 s.last] 39)).alloc (.cells #[.int .i64 p2.num, .int .i64 p2.frm, .int .i64 p2.dst, .slice p2.A p2.n p2.c] 31) = w3 at *
  have hq3l := hq3.lt
  have hS : ∀ W, KZ (w.heap.size + 2) w3 W → W.cell? ⟨w2.heap.size, 0, none⟩ = some (.slice A2 m c2) ∧ W.cell? ⟨w2.heap.size, 1, none⟩ = some (.int .i64 s.last) ∧ W.cell? ⟨w1'.heap.size, 0, none⟩ = some (.int .i64 p.num) ∧ W.cell? ⟨w1'.heap.size, 1, none⟩ = some (.int .i64 p.frm) ∧ W.cell? ⟨w1'.heap.size, 2, none⟩ = some (.int .i64 p.dst) ∧ W.cell? ⟨w1'.heap.size, 3, none⟩ = some (.slice p.A p.n p.c) ∧ W.cell? ⟨w2.heap.size + 1, 0, none⟩ = some (.int .i64 p2.num) ∧ W.cell? ⟨w2.heap.size + 1, 1, none⟩ = some (.int .i64 p2.frm) ∧ W.cell? ⟨w2.heap.size + 1, 2, none⟩ = some (.int .i64 p2.dst) ∧ W.cell? ⟨w2.heap.size + 1, 3, none⟩ = some (.slice p2.A p2.n p2.c) := fun W hW => by
    have e1 : Blk W w2.heap.size 39 _ := (hW.2 _ (by omega) (by omega)).trans hn3
    have e2 : Blk W w1'.heap.size 31 _ := (hW.2 _ (by omega) (by omega)).trans hP3
    have e3 : Blk W (w2.heap.size + 1) 31 _ := (hW.2 _ (by omega) (by omega)).trans hq3
    exact ⟨e1.cell 0, e1.cell 1, e2.cell 0, e2.cell 1, e2.cell 2, e2.cell 3, e3.cell 0, e3.cell 1, e3.cell 2, e3.cell 3⟩
  have KS := Lib.hid hS
  have hkk : KZ (w.heap.size + 2) w3 w3 := KZ.refl
  have HB3 := Lib.hid hb3
  have HZ := Lib.hid h2
  have BEL := Lib.hid bel3
  clear hS hb3 hn3 hq3 hP3 h2 bel3 hb2 hP2 b2
  go_region_held3 (fun W => W.cell? ⟨w2.heap.size, 0, none⟩ = some (.slice A2 m c2) ∧ W.cell? ⟨w2.heap.size, 1, none⟩ = some (.int .i64 s.last) ∧ W.cell? ⟨w1'.heap.size, 0, none⟩ = some (.int .i64 p.num) ∧ W.cell? ⟨w1'.heap.size, 1, none⟩ = some (.int .i64 p.frm) ∧ W.cell? ⟨w1'.heap.size, 2, none⟩ = some (.int .i64 p.dst) ∧ W.cell? ⟨w1'.heap.size, 3, none⟩ = some (.slice p.A p.n p.c) ∧ W.cell? ⟨w2.heap.size + 1, 0, none⟩ = some (.int .i64 p2.num) ∧ W.cell? ⟨w2.heap.size + 1, 1, none⟩ = some (.int .i64 p2.frm) ∧ W.cell? ⟨w2.heap.size + 1, 2, none⟩ = some (.int .i64 p2.dst) ∧ W.cell? ⟨w2.heap.size + 1, 3, none⟩ = some (.slice p2.A p2.n p2.c)) ((refine KS.out _ ?_; first | with_reducible exact hkk | with_reducible exact hkk.drew | with_reducible exact hkk.z.z))
    (first
    | (go_at_call 22
       refine (samePacket22 _ _ p p2 q _ RP3.out.drew RQ3.out.drew (fun b hb => by have hb' : b < w2.heap.size := hb; show b < w3.heap.size; omega) (fun b hb => by have hb' : b < w2.heap.size := hb; show b < w3.heap.size; omega)).mono ?_
       rintro e w4 ⟨rfl, b4'⟩
       have b4 : Below w3.heap.size w3 w4 := ⟨b4'.os, b4'.tape, b4'.output, b4'.size, b4'.block⟩
       have hkk : KZ (w.heap.size + 2) w3 w4 := KZ.of b4
       have hb4 := HB3.out.below b4
       have z0 : w4.cell? ⟨w.heap.size + 2, 0, none⟩ = some (.slice none 0 0) := hb4.z.cell 0
       have z1 : w4.cell? ⟨w.heap.size + 2, 1, none⟩ = some (.int .i64 0) := hb4.z.cell 1
       have f0 : w4.frozen? ⟨w.heap.size + 2, 0, none⟩ = false := hb4.z.frozen 0
       have f1 : w4.frozen? ⟨w.heap.size + 2, 1, none⟩ = false := hb4.z.frozen 1
       have BEL4 := Lib.hid (BEL.out.trans (b4.mono BEL.out.size))
       clear b4 b4' hb4))
  all_goals
    go_wp2_with fail
    refine bodyPost_ret (v := .tuple #[.agg #[.slice A2 m c2, .int .i64 s.last], .bool true]) (by simp [results, Try.results18, go_sem, z0, z1]) rfl ?_
    obtain ⟨hF1, hF2⟩ := HZ.out.fin (s := { s with pend := s.pend.eraseIdx (pos o.i s.pend.length), got := s.got ++ [q] }) BEL4.out rfl (by rw [← HM.out])
    exact ⟨_, _, _, _, _, rfl, hF1, hF2⟩
end Go.Proofs.Ytledcmcpinjboaa
