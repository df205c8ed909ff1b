/-
step of the law: the network and the specification agree (all kinds but deliver).
-/
import Derived.Test.YtledcmcpinjboaaR7
namespace Go.Proofs.Ytledcmcpinjboaa
open Go.RowKit
set_option linter.unusedVariables false
set_option linter.unusedSimpArgs false

set_option maxHeartbeats 4000000 in
theorem step_send0 (B N : Nat) (v : Value) (ps : List Pk) (A : Option Addr) (m c : Nat) (s : AR) (o : Op5) (d : List Int) (w : World) (h : Bo w B N v ps A m c s) (hd : Byts w (Away w N v) o.A o.n d) (hon : o.n ≤ 60) (hl0 : 0 ≤ s.last) (hl1 : s.last ≤ 100) (hp : s.pend.length ≤ 100)
     (k0 : (o.kind == 0) = true) :
    Calls Try.prog 18 #[.pointer (some ⟨N, 0, none⟩), .agg #[.slice A m c, .int .i64 s.last], .agg #[.int .u8 o.kind, .int .i64 o.frm, .int .i64 o.dst, .slice o.A o.n o.c, .int .i64 o.i]] w (Post18 w B N (addQ s o.frm o.dst d)) := by
  have hps : ps.length = s.pend.length := h.dp.1
  have hm : m = s.pend.length := h.len
  have hbx := B18.new w A m c s.last o
  have hz : Bz w (((w.alloc (.cells #[.slice A m c, .int .i64 s.last] 39)).alloc (.cells #[.int .u8 o.kind, .int .i64 o.frm, .int .i64 o.dst, .slice o.A o.n o.c, .int .i64 o.i] 41)).alloc (.cells #[.slice none 0 0, .int .i64 0] 39)) B N v ps A m c s.last s.pend s.pend := Bz.init h ((((Below.refl _ _).alloc (Nat.le_refl _) _).alloc (by simp) _).alloc (by simp; omega) _) (by simp)
  have HPS := Lib.hid hps
  have HM := Lib.hid hm
  have hps100 : ps.length ≤ 100 := by omega
  have hm100 : m ≤ 100 := by omega
  have KW := Lib.hid (show ∀ b, b < w.heap.size → (((w.alloc (.cells #[.slice A m c, .int .i64 s.last] 39)).alloc (.cells #[.int .u8 o.kind, .int .i64 o.frm, .int .i64 o.dst, .slice o.A o.n o.c, .int .i64 o.i] 41)).alloc (.cells #[.slice none 0 0, .int .i64 0] 39)).heap[b]? = w.heap[b]? from fun b hb => ((((Below.refl _ _).alloc (Nat.le_refl _) _).alloc (by simp) _).alloc (by simp; omega) _ : Below w.heap.size w (((w.alloc (.cells #[.slice A m c, .int .i64 s.last] 39)).alloc (.cells #[.int .u8 o.kind, .int .i64 o.frm, .int .i64 o.dst, .slice o.A o.n o.c, .int .i64 o.i] 41)).alloc (.cells #[.slice none 0 0, .int .i64 0] 39))).block b hb)
  clear hps hm
  have HD := Lib.hid hd
  clear hd h
  go_enter Try.func18, Try.ntmps18
  go_wp2_with fail
  generalize ((w.alloc (.cells #[.slice A m c, .int .i64 s.last] 39)).alloc (.cells #[.int .u8 o.kind, .int .i64 o.frm, .int .i64 o.dst, .slice o.A o.n o.c, .int .i64 o.i] 41)).alloc (.cells #[.slice none 0 0, .int .i64 0] 39) = wA at *
  have hsA := hz.size
  have hda : Byts wA (Away wA N v) o.A o.n d := HD.out.keep fun b hb => ⟨⟨by have := hb.1; omega, hb.2⟩, KW.out b hb.1⟩
  refine (send12 B N v s.last o.frm o.dst o.A o.n o.c d ps wA hz.net hda hl0 (by omega) (by omega) (by omega) (by have := hz.hB; omega)).mono ?_
  rintro e w1 ⟨v1, dd, rfl, hn1, hd0, hd1, t1⟩
  have h1 := hz.op hn1 t1 (Rds.snoc (hz.dp.keep fun b hb => OkZ.step t1 hb) (q := ⟨s.last + 1, o.frm, o.dst, d⟩) ⟨rfl, rfl, rfl, hz.dataZ hd1 hd0, by show o.n ≤ 1000; omega⟩)
  have hb1 := hbx.step hz t1
  have hda1 := hda.keep (w' := w1) (ok' := Away w1 N v1) fun b hb => ⟨t1.away hb, t1.same hb⟩
  have x0 : w1.cell? ⟨w.heap.size, 0, none⟩ = some (.slice A m c) := hb1.x.cell 0
  have x1 : w1.cell? ⟨w.heap.size, 1, none⟩ = some (.int .i64 s.last) := hb1.x.cell 1
  have y0 : w1.cell? ⟨w.heap.size + 1, 0, none⟩ = some (.int .u8 o.kind) := hb1.y.cell 0
  have y1 : w1.cell? ⟨w.heap.size + 1, 1, none⟩ = some (.int .i64 o.frm) := hb1.y.cell 1
  have y2 : w1.cell? ⟨w.heap.size + 1, 2, none⟩ = some (.int .i64 o.dst) := hb1.y.cell 2
  have y3 : w1.cell? ⟨w.heap.size + 1, 3, none⟩ = some (.slice o.A o.n o.c) := hb1.y.cell 3
  have y4 : w1.cell? ⟨w.heap.size + 1, 4, none⟩ = some (.int .i64 o.i) := hb1.y.cell 4
  obtain ⟨pk, r1, r2⟩ := h1.ref
  have HA := Lib.hid (And.intro hda1 (And.intro r1 r2))
  have H1 := Lib.hid h1
  have HB1 := Lib.hid hb1
  have hs1 := h1.size
  clear hda hda1 r1 r2 h1 hb1 hz hbx hn1 hd1 t1 hd0 HD
  go_wp2_with fail
  refine (refSend31 _ _ A o.A m c o.n o.c s.last o.frm o.dst d pk s.pend w1 HA.out.2.1 HA.out.2.2 HA.out.1 (fun b hb => hb.1.1) (fun b hb => hb.1) (by omega) (by omega) hl0 (by omega)).mono ?_
  rintro e w2 ⟨A2, c2, rfl, r2⟩
  have h2 := H1.out.refN r2
  have hb2 := HB1.out.below r2.below
  clear r2
  go_upto_region 7 with (fail)
  have bel3 := ((Below.refl w2.heap.size w2).alloc (Nat.le_refl _) (.cells #[.slice A2 (m + 1) c2, .int .i64 (s.last + 1)] 39))
  have hb3 := hb2.below bel3
  have hn3 := Blk.new w2 39 #[.slice A2 (m + 1) c2, .int .i64 (s.last + 1)]
  generalize w2.alloc (.cells #[.slice A2 (m + 1) c2, .int .i64 (s.last + 1)] 39) = w3 at *
  have z0 : w3.cell? ⟨w.heap.size + 2, 0, none⟩ = some (.slice none 0 0) := hb3.z.cell 0
  have z1 : w3.cell? ⟨w.heap.size + 2, 1, none⟩ = some (.int .i64 0) := hb3.z.cell 1
  have f0 : w3.frozen? ⟨w.heap.size + 2, 0, none⟩ = false := hb3.z.frozen 0
  have f1 : w3.frozen? ⟨w.heap.size + 2, 1, none⟩ = false := hb3.z.frozen 1
  have n0 : w3.cell? ⟨w2.heap.size, 0, none⟩ = some (.slice A2 (m + 1) c2) := hn3.cell 0
  have n1 : w3.cell? ⟨w2.heap.size, 1, none⟩ = some (.int .i64 (s.last + 1)) := hn3.cell 1
  have hs2 := h2.size
  have HZ := Lib.hid h2
  have BEL := Lib.hid bel3
  clear h2 hb2 hb3 bel3 hn3
  go_wp2_with fail
  refine bodyPost_ret (v := .tuple #[.agg #[.slice A2 (m + 1) c2, .int .i64 (s.last + 1)], .bool true]) (by simp [results, Try.results18, go_sem, z0, z1]) rfl ?_
  obtain ⟨hF1, hF2⟩ := HZ.out.fin (s := addQ s o.frm o.dst d) BEL.out rfl rfl
  exact ⟨_, _, _, _, _, rfl, hF1, hF2⟩

set_option maxHeartbeats 4000000 in
theorem step_send1 (B N : Nat) (v : Value) (ps : List Pk) (A : Option Addr) (m c : Nat) (s : AR) (o : Op5) (d : List Int) (w : World) (h : Bo w B N v ps A m c s) (hd : Byts w (Away w N v) o.A o.n d) (hon : o.n ≤ 60) (hl0 : 0 ≤ s.last) (hl1 : s.last ≤ 100) (hp : s.pend.length ≤ 100)
    (k0 : (o.kind == 0) = false) (k1 : (o.kind == 1) = true) :
    Calls Try.prog 18 #[.pointer (some ⟨N, 0, none⟩), .agg #[.slice A m c, .int .i64 s.last], .agg #[.int .u8 o.kind, .int .i64 o.frm, .int .i64 o.dst, .slice o.A o.n o.c, .int .i64 o.i]] w (Post18 w B N (addQ s o.frm o.dst d)) := by
  have hps : ps.length = s.pend.length := h.dp.1
  have hm : m = s.pend.length := h.len
  have hbx := B18.new w A m c s.last o
  have hz : Bz w (((w.alloc (.cells #[.slice A m c, .int .i64 s.last] 39)).alloc (.cells #[.int .u8 o.kind, .int .i64 o.frm, .int .i64 o.dst, .slice o.A o.n o.c, .int .i64 o.i] 41)).alloc (.cells #[.slice none 0 0, .int .i64 0] 39)) B N v ps A m c s.last s.pend s.pend := Bz.init h ((((Below.refl _ _).alloc (Nat.le_refl _) _).alloc (by simp) _).alloc (by simp; omega) _) (by simp)
  have HPS := Lib.hid hps
  have HM := Lib.hid hm
  have hps100 : ps.length ≤ 100 := by omega
  have hm100 : m ≤ 100 := by omega
  have KW := Lib.hid (show ∀ b, b < w.heap.size → (((w.alloc (.cells #[.slice A m c, .int .i64 s.last] 39)).alloc (.cells #[.int .u8 o.kind, .int .i64 o.frm, .int .i64 o.dst, .slice o.A o.n o.c, .int .i64 o.i] 41)).alloc (.cells #[.slice none 0 0, .int .i64 0] 39)).heap[b]? = w.heap[b]? from fun b hb => ((((Below.refl _ _).alloc (Nat.le_refl _) _).alloc (by simp) _).alloc (by simp; omega) _ : Below w.heap.size w (((w.alloc (.cells #[.slice A m c, .int .i64 s.last] 39)).alloc (.cells #[.int .u8 o.kind, .int .i64 o.frm, .int .i64 o.dst, .slice o.A o.n o.c, .int .i64 o.i] 41)).alloc (.cells #[.slice none 0 0, .int .i64 0] 39))).block b hb)
  clear hps hm
  have HD := Lib.hid hd
  clear hd h
  go_enter Try.func18, Try.ntmps18
  go_wp2_with fail
  generalize ((w.alloc (.cells #[.slice A m c, .int .i64 s.last] 39)).alloc (.cells #[.int .u8 o.kind, .int .i64 o.frm, .int .i64 o.dst, .slice o.A o.n o.c, .int .i64 o.i] 41)).alloc (.cells #[.slice none 0 0, .int .i64 0] 39) = wA at *
  have hsA := hz.size
  have hda : Byts wA (Away wA N v) o.A o.n d := HD.out.keep fun b hb => ⟨⟨by have := hb.1; omega, hb.2⟩, KW.out b hb.1⟩
  refine (send12 B N v s.last o.frm o.dst o.A o.n o.c d ps wA hz.net hda hl0 (by omega) (by omega) (by omega) (by have := hz.hB; omega)).mono ?_
  rintro e w1 ⟨v1, dd, rfl, hn1, hd0, hd1, t1⟩
  have h1 := hz.op hn1 t1 (Rds.snoc (hz.dp.keep fun b hb => OkZ.step t1 hb) (q := ⟨s.last + 1, o.frm, o.dst, d⟩) ⟨rfl, rfl, rfl, hz.dataZ hd1 hd0, by show o.n ≤ 1000; omega⟩)
  have hb1 := hbx.step hz t1
  have hda1 := hda.keep (w' := w1) (ok' := Away w1 N v1) fun b hb => ⟨t1.away hb, t1.same hb⟩
  have x0 : w1.cell? ⟨w.heap.size, 0, none⟩ = some (.slice A m c) := hb1.x.cell 0
  have x1 : w1.cell? ⟨w.heap.size, 1, none⟩ = some (.int .i64 s.last) := hb1.x.cell 1
  have y0 : w1.cell? ⟨w.heap.size + 1, 0, none⟩ = some (.int .u8 o.kind) := hb1.y.cell 0
  have y1 : w1.cell? ⟨w.heap.size + 1, 1, none⟩ = some (.int .i64 o.frm) := hb1.y.cell 1
  have y2 : w1.cell? ⟨w.heap.size + 1, 2, none⟩ = some (.int .i64 o.dst) := hb1.y.cell 2
  have y3 : w1.cell? ⟨w.heap.size + 1, 3, none⟩ = some (.slice o.A o.n o.c) := hb1.y.cell 3
  have y4 : w1.cell? ⟨w.heap.size + 1, 4, none⟩ = some (.int .i64 o.i) := hb1.y.cell 4
  obtain ⟨pk, r1, r2⟩ := h1.ref
  have HA := Lib.hid (And.intro hda1 (And.intro r1 r2))
  have H1 := Lib.hid h1
  have HB1 := Lib.hid hb1
  have hs1 := h1.size
  clear hda hda1 r1 r2 h1 hb1 hz hbx hn1 hd1 t1 hd0 HD
  go_wp2_with fail
  refine (refSend31 _ _ A o.A m c o.n o.c s.last o.frm o.dst d pk s.pend w1 HA.out.2.1 HA.out.2.2 HA.out.1 (fun b hb => hb.1.1) (fun b hb => hb.1) (by omega) (by omega) hl0 (by omega)).mono ?_
  rintro e w2 ⟨A2, c2, rfl, r2⟩
  have h2 := H1.out.refN r2
  have hb2 := HB1.out.below r2.below
  clear r2
  go_upto_region 7 with (fail)
  have bel3 := ((Below.refl w2.heap.size w2).alloc (Nat.le_refl _) (.cells #[.slice A2 (m + 1) c2, .int .i64 (s.last + 1)] 39))
  have hb3 := hb2.below bel3
  have hn3 := Blk.new w2 39 #[.slice A2 (m + 1) c2, .int .i64 (s.last + 1)]
  generalize w2.alloc (.cells #[.slice A2 (m + 1) c2, .int .i64 (s.last + 1)] 39) = w3 at *
  have z0 : w3.cell? ⟨w.heap.size + 2, 0, none⟩ = some (.slice none 0 0) := hb3.z.cell 0
  have z1 : w3.cell? ⟨w.heap.size + 2, 1, none⟩ = some (.int .i64 0) := hb3.z.cell 1
  have f0 : w3.frozen? ⟨w.heap.size + 2, 0, none⟩ = false := hb3.z.frozen 0
  have f1 : w3.frozen? ⟨w.heap.size + 2, 1, none⟩ = false := hb3.z.frozen 1
  have n0 : w3.cell? ⟨w2.heap.size, 0, none⟩ = some (.slice A2 (m + 1) c2) := hn3.cell 0
  have n1 : w3.cell? ⟨w2.heap.size, 1, none⟩ = some (.int .i64 (s.last + 1)) := hn3.cell 1
  have hs2 := h2.size
  have HZ := Lib.hid h2
  have BEL := Lib.hid bel3
  clear h2 hb2 hb3 bel3 hn3
  go_wp2_with fail
  refine bodyPost_ret (v := .tuple #[.agg #[.slice A2 (m + 1) c2, .int .i64 (s.last + 1)], .bool true]) (by simp [results, Try.results18, go_sem, z0, z1]) rfl ?_
  obtain ⟨hF1, hF2⟩ := HZ.out.fin (s := addQ s o.frm o.dst d) BEL.out rfl rfl
  exact ⟨_, _, _, _, _, rfl, hF1, hF2⟩

set_option maxHeartbeats 4000000 in
theorem step_send2 (B N : Nat) (v : Value) (ps : List Pk) (A : Option Addr) (m c : Nat) (s : AR) (o : Op5) (d : List Int) (w : World) (h : Bo w B N v ps A m c s) (hd : Byts w (Away w N v) o.A o.n d) (hon : o.n ≤ 60) (hl0 : 0 ≤ s.last) (hl1 : s.last ≤ 100) (hp : s.pend.length ≤ 100)
    (k0 : (o.kind == 0) = false) (k1 : (o.kind == 1) = false) (k2 : (o.kind == 2) = true) :
    Calls Try.prog 18 #[.pointer (some ⟨N, 0, none⟩), .agg #[.slice A m c, .int .i64 s.last], .agg #[.int .u8 o.kind, .int .i64 o.frm, .int .i64 o.dst, .slice o.A o.n o.c, .int .i64 o.i]] w (Post18 w B N (addQ s o.frm o.dst d)) := by
  have hps : ps.length = s.pend.length := h.dp.1
  have hm : m = s.pend.length := h.len
  have hbx := B18.new w A m c s.last o
  have hz : Bz w (((w.alloc (.cells #[.slice A m c, .int .i64 s.last] 39)).alloc (.cells #[.int .u8 o.kind, .int .i64 o.frm, .int .i64 o.dst, .slice o.A o.n o.c, .int .i64 o.i] 41)).alloc (.cells #[.slice none 0 0, .int .i64 0] 39)) B N v ps A m c s.last s.pend s.pend := Bz.init h ((((Below.refl _ _).alloc (Nat.le_refl _) _).alloc (by simp) _).alloc (by simp; omega) _) (by simp)
  have HPS := Lib.hid hps
  have HM := Lib.hid hm
  have hps100 : ps.length ≤ 100 := by omega
  have hm100 : m ≤ 100 := by omega
  have KW := Lib.hid (show ∀ b, b < w.heap.size → (((w.alloc (.cells #[.slice A m c, .int .i64 s.last] 39)).alloc (.cells #[.int .u8 o.kind, .int .i64 o.frm, .int .i64 o.dst, .slice o.A o.n o.c, .int .i64 o.i] 41)).alloc (.cells #[.slice none 0 0, .int .i64 0] 39)).heap[b]? = w.heap[b]? from fun b hb => ((((Below.refl _ _).alloc (Nat.le_refl _) _).alloc (by simp) _).alloc (by simp; omega) _ : Below w.heap.size w (((w.alloc (.cells #[.slice A m c, .int .i64 s.last] 39)).alloc (.cells #[.int .u8 o.kind, .int .i64 o.frm, .int .i64 o.dst, .slice o.A o.n o.c, .int .i64 o.i] 41)).alloc (.cells #[.slice none 0 0, .int .i64 0] 39))).block b hb)
  clear hps hm
  have HD := Lib.hid hd
  clear hd h
  go_enter Try.func18, Try.ntmps18
  go_wp2_with fail
  generalize ((w.alloc (.cells #[.slice A m c, .int .i64 s.last] 39)).alloc (.cells #[.int .u8 o.kind, .int .i64 o.frm, .int .i64 o.dst, .slice o.A o.n o.c, .int .i64 o.i] 41)).alloc (.cells #[.slice none 0 0, .int .i64 0] 39) = wA at *
  have hsA := hz.size
  have hda : Byts wA (Away wA N v) o.A o.n d := HD.out.keep fun b hb => ⟨⟨by have := hb.1; omega, hb.2⟩, KW.out b hb.1⟩
  refine (send12 B N v s.last o.frm o.dst o.A o.n o.c d ps wA hz.net hda hl0 (by omega) (by omega) (by omega) (by have := hz.hB; omega)).mono ?_
  rintro e w1 ⟨v1, dd, rfl, hn1, hd0, hd1, t1⟩
  have h1 := hz.op hn1 t1 (Rds.snoc (hz.dp.keep fun b hb => OkZ.step t1 hb) (q := ⟨s.last + 1, o.frm, o.dst, d⟩) ⟨rfl, rfl, rfl, hz.dataZ hd1 hd0, by show o.n ≤ 1000; omega⟩)
  have hb1 := hbx.step hz t1
  have hda1 := hda.keep (w' := w1) (ok' := Away w1 N v1) fun b hb => ⟨t1.away hb, t1.same hb⟩
  have x0 : w1.cell? ⟨w.heap.size, 0, none⟩ = some (.slice A m c) := hb1.x.cell 0
  have x1 : w1.cell? ⟨w.heap.size, 1, none⟩ = some (.int .i64 s.last) := hb1.x.cell 1
  have y0 : w1.cell? ⟨w.heap.size + 1, 0, none⟩ = some (.int .u8 o.kind) := hb1.y.cell 0
  have y1 : w1.cell? ⟨w.heap.size + 1, 1, none⟩ = some (.int .i64 o.frm) := hb1.y.cell 1
  have y2 : w1.cell? ⟨w.heap.size + 1, 2, none⟩ = some (.int .i64 o.dst) := hb1.y.cell 2
  have y3 : w1.cell? ⟨w.heap.size + 1, 3, none⟩ = some (.slice o.A o.n o.c) := hb1.y.cell 3
  have y4 : w1.cell? ⟨w.heap.size + 1, 4, none⟩ = some (.int .i64 o.i) := hb1.y.cell 4
  obtain ⟨pk, r1, r2⟩ := h1.ref
  have HA := Lib.hid (And.intro hda1 (And.intro r1 r2))
  have H1 := Lib.hid h1
  have HB1 := Lib.hid hb1
  have hs1 := h1.size
  clear hda hda1 r1 r2 h1 hb1 hz hbx hn1 hd1 t1 hd0 HD
  go_wp2_with fail
  refine (refSend31 _ _ A o.A m c o.n o.c s.last o.frm o.dst d pk s.pend w1 HA.out.2.1 HA.out.2.2 HA.out.1 (fun b hb => hb.1.1) (fun b hb => hb.1) (by omega) (by omega) hl0 (by omega)).mono ?_
  rintro e w2 ⟨A2, c2, rfl, r2⟩
  have h2 := H1.out.refN r2
  have hb2 := HB1.out.below r2.below
  clear r2
  go_upto_region 7 with (fail)
  have bel3 := ((Below.refl w2.heap.size w2).alloc (Nat.le_refl _) (.cells #[.slice A2 (m + 1) c2, .int .i64 (s.last + 1)] 39))
  have hb3 := hb2.below bel3
  have hn3 := Blk.new w2 39 #[.slice A2 (m + 1) c2, .int .i64 (s.last + 1)]
  generalize w2.alloc (.cells #[.slice A2 (m + 1) c2, .int .i64 (s.last + 1)] 39) = w3 at *
  have z0 : w3.cell? ⟨w.heap.size + 2, 0, none⟩ = some (.slice none 0 0) := hb3.z.cell 0
  have z1 : w3.cell? ⟨w.heap.size + 2, 1, none⟩ = some (.int .i64 0) := hb3.z.cell 1
  have f0 : w3.frozen? ⟨w.heap.size + 2, 0, none⟩ = false := hb3.z.frozen 0
  have f1 : w3.frozen? ⟨w.heap.size + 2, 1, none⟩ = false := hb3.z.frozen 1
  have n0 : w3.cell? ⟨w2.heap.size, 0, none⟩ = some (.slice A2 (m + 1) c2) := hn3.cell 0
  have n1 : w3.cell? ⟨w2.heap.size, 1, none⟩ = some (.int .i64 (s.last + 1)) := hn3.cell 1
  have hs2 := h2.size
  have HZ := Lib.hid h2
  have BEL := Lib.hid bel3
  clear h2 hb2 hb3 bel3 hn3
  go_wp2_with fail
  refine bodyPost_ret (v := .tuple #[.agg #[.slice A2 (m + 1) c2, .int .i64 (s.last + 1)], .bool true]) (by simp [results, Try.results18, go_sem, z0, z1]) rfl ?_
  obtain ⟨hF1, hF2⟩ := HZ.out.fin (s := addQ s o.frm o.dst d) BEL.out rfl rfl
  exact ⟨_, _, _, _, _, rfl, hF1, hF2⟩

set_option maxHeartbeats 4000000 in
theorem step_drop0 (B N : Nat) (v : Value) (ps : List Pk) (A : Option Addr) (m c : Nat) (s : AR) (o : Op5) (d : List Int) (w : World) (h : Bo w B N v ps A m c s) (hd : Byts w (Away w N v) o.A o.n d) (hon : o.n ≤ 60) (hl0 : 0 ≤ s.last) (hl1 : s.last ≤ 100) (hp : s.pend.length ≤ 100) (hE : s.pend = [])
    (k0 : (o.kind == 0) = false) (k1 : (o.kind == 1) = false) (k2 : (o.kind == 2) = false) (k3 : (o.kind == 3) = false) (k4 : (o.kind == 4) = true) :
    Calls Try.prog 18 #[.pointer (some ⟨N, 0, none⟩), .agg #[.slice A m c, .int .i64 s.last], .agg #[.int .u8 o.kind, .int .i64 o.frm, .int .i64 o.dst, .slice o.A o.n o.c, .int .i64 o.i]] w (Post18 w B N (s)) := by
  have hps : ps.length = s.pend.length := h.dp.1
  have hm : m = s.pend.length := h.len
  rw [hE] at hps hm
  obtain rfl : m = 0 := hm
  obtain rfl : ps = [] := List.eq_nil_of_length_eq_zero hps
  have hbx := B18.new w A 0 c s.last o
  have hz : Bz w (((w.alloc (.cells #[.slice A 0 c, .int .i64 s.last] 39)).alloc (.cells #[.int .u8 o.kind, .int .i64 o.frm, .int .i64 o.dst, .slice o.A o.n o.c, .int .i64 o.i] 41)).alloc (.cells #[.slice none 0 0, .int .i64 0] 39)) B N v [] A 0 c s.last s.pend s.pend := Bz.init h ((((Below.refl _ _).alloc (Nat.le_refl _) _).alloc (by simp) _).alloc (by simp; omega) _) (by simp)
  have HE := Lib.hid hE
  have KW := Lib.hid (show ∀ b, b < w.heap.size → (((w.alloc (.cells #[.slice A 0 c, .int .i64 s.last] 39)).alloc (.cells #[.int .u8 o.kind, .int .i64 o.frm, .int .i64 o.dst, .slice o.A o.n o.c, .int .i64 o.i] 41)).alloc (.cells #[.slice none 0 0, .int .i64 0] 39)).heap[b]? = w.heap[b]? from fun b hb => ((((Below.refl _ _).alloc (Nat.le_refl _) _).alloc (by simp) _).alloc (by simp; omega) _ : Below w.heap.size w (((w.alloc (.cells #[.slice A 0 c, .int .i64 s.last] 39)).alloc (.cells #[.int .u8 o.kind, .int .i64 o.frm, .int .i64 o.dst, .slice o.A o.n o.c, .int .i64 o.i] 41)).alloc (.cells #[.slice none 0 0, .int .i64 0] 39))).block b hb)
  clear hps hE
  have HD := Lib.hid hd
  clear hd h
  go_enter Try.func18, Try.ntmps18
  go_wp2_with fail
  generalize ((w.alloc (.cells #[.slice A 0 c, .int .i64 s.last] 39)).alloc (.cells #[.int .u8 o.kind, .int .i64 o.frm, .int .i64 o.dst, .slice o.A o.n o.c, .int .i64 o.i] 41)).alloc (.cells #[.slice none 0 0, .int .i64 0] 39) = wA at *
  have hsA := hz.size
  refine (drop24_0 B _ _ _ _ _ hz.net).mono ?_
  rintro e w1 ⟨rfl, b1⟩
  have h1 := hz.below b1
  have hb1 := hbx.below b1
  have x0 : w1.cell? ⟨w.heap.size, 0, none⟩ = some (.slice A 0 c) := hb1.x.cell 0
  have x1 : w1.cell? ⟨w.heap.size, 1, none⟩ = some (.int .i64 s.last) := hb1.x.cell 1
  have y0 : w1.cell? ⟨w.heap.size + 1, 0, none⟩ = some (.int .u8 o.kind) := hb1.y.cell 0
  have y1 : w1.cell? ⟨w.heap.size + 1, 1, none⟩ = some (.int .i64 o.frm) := hb1.y.cell 1
  have y2 : w1.cell? ⟨w.heap.size + 1, 2, none⟩ = some (.int .i64 o.dst) := hb1.y.cell 2
  have y3 : w1.cell? ⟨w.heap.size + 1, 3, none⟩ = some (.slice o.A o.n o.c) := hb1.y.cell 3
  have y4 : w1.cell? ⟨w.heap.size + 1, 4, none⟩ = some (.int .i64 o.i) := hb1.y.cell 4
  have H1 := Lib.hid h1
  have HB1 := Lib.hid hb1
  have hs1 := h1.size
  clear h1 hb1 hz hbx b1 HD
  go_wp2_with fail
  refine (refDeliver32_0 A c s.last o.i w1).mono ?_
  rintro e w2 ⟨rfl, b2⟩
  have h2 := H1.out.below b2
  have hb2 := HB1.out.below b2
  clear b2
  go_upto_region 15 with (fail)
  have bel3 := (((Below.refl w2.heap.size w2).alloc (Nat.le_refl _) (.cells #[.slice A 0 c, .int .i64 s.last] 39)).alloc (by simp) (.cells #[.int .i64 0, .int .i64 0, .int .i64 0, .slice none 0 0] 31))
  have hb3 := hb2.below bel3
  have hn3 := (Blk.new w2 39 #[.slice A 0 c, .int .i64 s.last]).alloc (.cells #[.int .i64 0, .int .i64 0, .int .i64 0, .slice none 0 0] 31)
  generalize (w2.alloc (.cells #[.slice A 0 c, .int .i64 s.last] 39)).alloc (.cells #[.int .i64 0, .int .i64 0, .int .i64 0, .slice none 0 0] 31) = w3 at *
  have z0 : w3.cell? ⟨w.heap.size + 2, 0, none⟩ = some (.slice none 0 0) := hb3.z.cell 0
  have z1 : w3.cell? ⟨w.heap.size + 2, 1, none⟩ = some (.int .i64 0) := hb3.z.cell 1
  have f0 : w3.frozen? ⟨w.heap.size + 2, 0, none⟩ = false := hb3.z.frozen 0
  have f1 : w3.frozen? ⟨w.heap.size + 2, 1, none⟩ = false := hb3.z.frozen 1
  have n0 : w3.cell? ⟨w2.heap.size, 0, none⟩ = some (.slice A 0 c) := hn3.cell 0
  have n1 : w3.cell? ⟨w2.heap.size, 1, none⟩ = some (.int .i64 s.last) := hn3.cell 1
  have hs2 := h2.size
  have HZ := Lib.hid h2
  have BEL := Lib.hid bel3
  clear h2 hb2 hb3 bel3 hn3
  go_wp2_with fail
  refine bodyPost_ret (v := .tuple #[.agg #[.slice A 0 c, .int .i64 s.last], .bool true]) (by simp [results, Try.results18, go_sem, z0, z1]) rfl ?_
  obtain ⟨hF1, hF2⟩ := HZ.out.fin (s := s) BEL.out rfl rfl
  exact ⟨_, _, _, _, _, rfl, hF1, hF2⟩

set_option maxHeartbeats 4000000 in
theorem step_drop (B N : Nat) (v : Value) (ps : List Pk) (A : Option Addr) (m c : Nat) (s : AR) (o : Op5) (d : List Int) (w : World) (h : Bo w B N v ps A m c s) (hd : Byts w (Away w N v) o.A o.n d) (hon : o.n ≤ 60) (hl0 : 0 ≤ s.last) (hl1 : s.last ≤ 100) (hp : s.pend.length ≤ 100) (hE : 0 < s.pend.length)
    (k0 : (o.kind == 0) = false) (k1 : (o.kind == 1) = false) (k2 : (o.kind == 2) = false) (k3 : (o.kind == 3) = false) (k4 : (o.kind == 4) = true) :
    Calls Try.prog 18 #[.pointer (some ⟨N, 0, none⟩), .agg #[.slice A m c, .int .i64 s.last], .agg #[.int .u8 o.kind, .int .i64 o.frm, .int .i64 o.dst, .slice o.A o.n o.c, .int .i64 o.i]] w (Post18 w B N ({ s with pend := s.pend.eraseIdx (pos o.i s.pend.length) })) := by
  have hps : ps.length = s.pend.length := h.dp.1
  have hm : m = s.pend.length := h.len
  obtain ⟨m, rfl⟩ : ∃ m1, m = m1 + 1 := ⟨m - 1, by omega⟩
  have hbx := B18.new w A (m + 1) c s.last o
  have hz : Bz w (((w.alloc (.cells #[.slice A (m + 1) c, .int .i64 s.last] 39)).alloc (.cells #[.int .u8 o.kind, .int .i64 o.frm, .int .i64 o.dst, .slice o.A o.n o.c, .int .i64 o.i] 41)).alloc (.cells #[.slice none 0 0, .int .i64 0] 39)) B N v ps A (m + 1) c s.last s.pend s.pend := Bz.init h ((((Below.refl _ _).alloc (Nat.le_refl _) _).alloc (by simp) _).alloc (by simp; omega) _) (by simp)
  have HPS := Lib.hid hps
  have HM := Lib.hid hm
  have hps100 : ps.length ≤ 100 := by omega
  have hm100 : m ≤ 100 := by omega
  have KW := Lib.hid (show ∀ b, b < w.heap.size → (((w.alloc (.cells #[.slice A (m + 1) c, .int .i64 s.last] 39)).alloc (.cells #[.int .u8 o.kind, .int .i64 o.frm, .int .i64 o.dst, .slice o.A o.n o.c, .int .i64 o.i] 41)).alloc (.cells #[.slice none 0 0, .int .i64 0] 39)).heap[b]? = w.heap[b]? from fun b hb => ((((Below.refl _ _).alloc (Nat.le_refl _) _).alloc (by simp) _).alloc (by simp; omega) _ : Below w.heap.size w (((w.alloc (.cells #[.slice A (m + 1) c, .int .i64 s.last] 39)).alloc (.cells #[.int .u8 o.kind, .int .i64 o.frm, .int .i64 o.dst, .slice o.A o.n o.c, .int .i64 o.i] 41)).alloc (.cells #[.slice none 0 0, .int .i64 0] 39))).block b hb)
  have hps0 : 0 < ps.length := by omega
  have hmc : m + 1 ≤ c := h.cap
  clear hps hm
  have HD := Lib.hid hd
  clear hd h
  go_enter Try.func18, Try.ntmps18
  go_wp2_with fail
  generalize ((w.alloc (.cells #[.slice A (m + 1) c, .int .i64 s.last] 39)).alloc (.cells #[.int .u8 o.kind, .int .i64 o.frm, .int .i64 o.dst, .slice o.A o.n o.c, .int .i64 o.i] 41)).alloc (.cells #[.slice none 0 0, .int .i64 0] 39) = wA at *
  have hsA := hz.size
  refine (drop24 B _ _ _ _ _ _ hz.net hps0 (by omega)).mono ?_
  rintro e w1 ⟨rfl, v1, d1⟩
  have h1 := hz.op d1.net d1.step (Rds.erase (pos o.i ps.length) (hz.dp.keep fun b hb => OkZ.step d1.step hb))
  have hb1 := hbx.step hz d1.step
  have x0 : w1.cell? ⟨w.heap.size, 0, none⟩ = some (.slice A (m + 1) c) := hb1.x.cell 0
  have x1 : w1.cell? ⟨w.heap.size, 1, none⟩ = some (.int .i64 s.last) := hb1.x.cell 1
  have y0 : w1.cell? ⟨w.heap.size + 1, 0, none⟩ = some (.int .u8 o.kind) := hb1.y.cell 0
  have y1 : w1.cell? ⟨w.heap.size + 1, 1, none⟩ = some (.int .i64 o.frm) := hb1.y.cell 1
  have y2 : w1.cell? ⟨w.heap.size + 1, 2, none⟩ = some (.int .i64 o.dst) := hb1.y.cell 2
  have y3 : w1.cell? ⟨w.heap.size + 1, 3, none⟩ = some (.slice o.A o.n o.c) := hb1.y.cell 3
  have y4 : w1.cell? ⟨w.heap.size + 1, 4, none⟩ = some (.int .i64 o.i) := hb1.y.cell 4
  obtain ⟨pk, r1, r2⟩ := h1.ref
  have HA := Lib.hid (And.intro r1 r2)
  have H1 := Lib.hid h1
  have HB1 := Lib.hid hb1
  have hs1 := h1.size
  clear r1 r2 h1 hb1 hz hbx d1 HD
  go_wp2_with fail
  refine (refDeliver32 _ A m c s.last o.i pk s.pend w1 HA.out.1 HA.out.2 (fun b hb => hb.1.1) (by omega) (by omega)).mono ?_
  rintro e w2 ⟨A2, c2, p2, hp2, rfl, r2⟩
  have h2 := H1.out.refN r2
  rw [HPS.out, ← HM.out] at h2
  have hb2 := HB1.out.below r2.below
  clear r2 hp2
  go_upto_region 15 with (fail)
  have bel3 := (((Below.refl w2.heap.size w2).alloc (Nat.le_refl _) (.cells #[.slice A2 m c2, .int .i64 s.last] 39)).alloc (by simp) (.cells #[.int .i64 p2.num, .int .i64 p2.frm, .int .i64 p2.dst, .slice p2.A p2.n p2.c] 31))
  have hb3 := hb2.below bel3
  have hn3 := (Blk.new w2 39 #[.slice A2 m c2, .int .i64 s.last]).alloc (.cells #[.int .i64 p2.num, .int .i64 p2.frm, .int .i64 p2.dst, .slice p2.A p2.n p2.c] 31)
  generalize (w2.alloc (.cells #[.slice A2 m c2, .int .i64 s.last] 39)).alloc (.cells #[.int .i64 p2.num, .int .i64 p2.frm, .int .i64 p2.dst, .slice p2.A p2.n p2.c] 31) = w3 at *
  have z0 : w3.cell? ⟨w.heap.size + 2, 0, none⟩ = some (.slice none 0 0) := hb3.z.cell 0
  have z1 : w3.cell? ⟨w.heap.size + 2, 1, none⟩ = some (.int .i64 0) := hb3.z.cell 1
  have f0 : w3.frozen? ⟨w.heap.size + 2, 0, none⟩ = false := hb3.z.frozen 0
  have f1 : w3.frozen? ⟨w.heap.size + 2, 1, none⟩ = false := hb3.z.frozen 1
  have n0 : w3.cell? ⟨w2.heap.size, 0, none⟩ = some (.slice A2 m c2) := hn3.cell 0
  have n1 : w3.cell? ⟨w2.heap.size, 1, none⟩ = some (.int .i64 s.last) := hn3.cell 1
  have hs2 := h2.size
  have HZ := Lib.hid h2
  have BEL := Lib.hid bel3
  clear h2 hb2 hb3 bel3 hn3
  go_wp2_with fail
  refine bodyPost_ret (v := .tuple #[.agg #[.slice A2 m c2, .int .i64 s.last], .bool true]) (by simp [results, Try.results18, go_sem, z0, z1]) rfl ?_
  obtain ⟨hF1, hF2⟩ := HZ.out.fin (s := { s with pend := s.pend.eraseIdx (pos o.i s.pend.length) }) BEL.out rfl (by rw [← HM.out])
  exact ⟨_, _, _, _, _, rfl, hF1, hF2⟩

set_option maxHeartbeats 4000000 in
theorem step_double0 (B N : Nat) (v : Value) (ps : List Pk) (A : Option Addr) (m c : Nat) (s : AR) (o : Op5) (d : List Int) (w : World) (h : Bo w B N v ps A m c s) (hd : Byts w (Away w N v) o.A o.n d) (hon : o.n ≤ 60) (hl0 : 0 ≤ s.last) (hl1 : s.last ≤ 100) (hp : s.pend.length ≤ 100) (hE : s.pend = [])
    (k0 : (o.kind == 0) = false) (k1 : (o.kind == 1) = false) (k2 : (o.kind == 2) = false) (k3 : (o.kind == 3) = false) (k4 : (o.kind == 4) = false) (k5 : (o.kind == 5) = true) :
    Calls Try.prog 18 #[.pointer (some ⟨N, 0, none⟩), .agg #[.slice A m c, .int .i64 s.last], .agg #[.int .u8 o.kind, .int .i64 o.frm, .int .i64 o.dst, .slice o.A o.n o.c, .int .i64 o.i]] w (Post18 w B N (s)) := by
  have hps : ps.length = s.pend.length := h.dp.1
  have hm : m = s.pend.length := h.len
  rw [hE] at hps hm
  obtain rfl : m = 0 := hm
  obtain rfl : ps = [] := List.eq_nil_of_length_eq_zero hps
  have hbx := B18.new w A 0 c s.last o
  have hz : Bz w (((w.alloc (.cells #[.slice A 0 c, .int .i64 s.last] 39)).alloc (.cells #[.int .u8 o.kind, .int .i64 o.frm, .int .i64 o.dst, .slice o.A o.n o.c, .int .i64 o.i] 41)).alloc (.cells #[.slice none 0 0, .int .i64 0] 39)) B N v [] A 0 c s.last s.pend s.pend := Bz.init h ((((Below.refl _ _).alloc (Nat.le_refl _) _).alloc (by simp) _).alloc (by simp; omega) _) (by simp)
  have HE := Lib.hid hE
  have KW := Lib.hid (show ∀ b, b < w.heap.size → (((w.alloc (.cells #[.slice A 0 c, .int .i64 s.last] 39)).alloc (.cells #[.int .u8 o.kind, .int .i64 o.frm, .int .i64 o.dst, .slice o.A o.n o.c, .int .i64 o.i] 41)).alloc (.cells #[.slice none 0 0, .int .i64 0] 39)).heap[b]? = w.heap[b]? from fun b hb => ((((Below.refl _ _).alloc (Nat.le_refl _) _).alloc (by simp) _).alloc (by simp; omega) _ : Below w.heap.size w (((w.alloc (.cells #[.slice A 0 c, .int .i64 s.last] 39)).alloc (.cells #[.int .u8 o.kind, .int .i64 o.frm, .int .i64 o.dst, .slice o.A o.n o.c, .int .i64 o.i] 41)).alloc (.cells #[.slice none 0 0, .int .i64 0] 39))).block b hb)
  clear hps hE
  have HD := Lib.hid hd
  clear hd h
  go_enter Try.func18, Try.ntmps18
  go_wp2_with fail
  generalize ((w.alloc (.cells #[.slice A 0 c, .int .i64 s.last] 39)).alloc (.cells #[.int .u8 o.kind, .int .i64 o.frm, .int .i64 o.dst, .slice o.A o.n o.c, .int .i64 o.i] 41)).alloc (.cells #[.slice none 0 0, .int .i64 0] 39) = wA at *
  have hsA := hz.size
  refine (double13_0 B _ _ _ _ _ hz.net).mono ?_
  rintro e w1 ⟨rfl, b1⟩
  have h1 := hz.below b1
  have hb1 := hbx.below b1
  have x0 : w1.cell? ⟨w.heap.size, 0, none⟩ = some (.slice A 0 c) := hb1.x.cell 0
  have x1 : w1.cell? ⟨w.heap.size, 1, none⟩ = some (.int .i64 s.last) := hb1.x.cell 1
  have y0 : w1.cell? ⟨w.heap.size + 1, 0, none⟩ = some (.int .u8 o.kind) := hb1.y.cell 0
  have y1 : w1.cell? ⟨w.heap.size + 1, 1, none⟩ = some (.int .i64 o.frm) := hb1.y.cell 1
  have y2 : w1.cell? ⟨w.heap.size + 1, 2, none⟩ = some (.int .i64 o.dst) := hb1.y.cell 2
  have y3 : w1.cell? ⟨w.heap.size + 1, 3, none⟩ = some (.slice o.A o.n o.c) := hb1.y.cell 3
  have y4 : w1.cell? ⟨w.heap.size + 1, 4, none⟩ = some (.int .i64 o.i) := hb1.y.cell 4
  have H1 := Lib.hid h1
  have HB1 := Lib.hid hb1
  have hs1 := h1.size
  clear h1 hb1 hz hbx b1 HD
  go_wp2_with fail
  refine (refDouble33_0 A c s.last o.i w1).mono ?_
  rintro e w2 ⟨rfl, b2⟩
  have h2 := H1.out.below b2
  have hb2 := HB1.out.below b2
  clear b2
  go_upto_region 19 with (fail)
  have bel3 := ((Below.refl w2.heap.size w2).alloc (Nat.le_refl _) (.cells #[.slice A 0 c, .int .i64 s.last] 39))
  have hb3 := hb2.below bel3
  have hn3 := Blk.new w2 39 #[.slice A 0 c, .int .i64 s.last]
  generalize w2.alloc (.cells #[.slice A 0 c, .int .i64 s.last] 39) = w3 at *
  have z0 : w3.cell? ⟨w.heap.size + 2, 0, none⟩ = some (.slice none 0 0) := hb3.z.cell 0
  have z1 : w3.cell? ⟨w.heap.size + 2, 1, none⟩ = some (.int .i64 0) := hb3.z.cell 1
  have f0 : w3.frozen? ⟨w.heap.size + 2, 0, none⟩ = false := hb3.z.frozen 0
  have f1 : w3.frozen? ⟨w.heap.size + 2, 1, none⟩ = false := hb3.z.frozen 1
  have n0 : w3.cell? ⟨w2.heap.size, 0, none⟩ = some (.slice A 0 c) := hn3.cell 0
  have n1 : w3.cell? ⟨w2.heap.size, 1, none⟩ = some (.int .i64 s.last) := hn3.cell 1
  have hs2 := h2.size
  have HZ := Lib.hid h2
  have BEL := Lib.hid bel3
  clear h2 hb2 hb3 bel3 hn3
  go_wp2_with fail
  refine bodyPost_ret (v := .tuple #[.agg #[.slice A 0 c, .int .i64 s.last], .bool true]) (by simp [results, Try.results18, go_sem, z0, z1]) rfl ?_
  obtain ⟨hF1, hF2⟩ := HZ.out.fin (s := s) BEL.out rfl rfl
  exact ⟨_, _, _, _, _, rfl, hF1, hF2⟩

set_option maxHeartbeats 4000000 in
theorem step_double (B N : Nat) (v : Value) (ps : List Pk) (A : Option Addr) (m c : Nat) (s : AR) (o : Op5) (d : List Int) (w : World) (h : Bo w B N v ps A m c s) (hd : Byts w (Away w N v) o.A o.n d) (hon : o.n ≤ 60) (hl0 : 0 ≤ s.last) (hl1 : s.last ≤ 100) (hp : s.pend.length ≤ 100) (q : Pkt) (hq : s.pend[pos o.i s.pend.length]? = some q)
    (k0 : (o.kind == 0) = false) (k1 : (o.kind == 1) = false) (k2 : (o.kind == 2) = false) (k3 : (o.kind == 3) = false) (k4 : (o.kind == 4) = false) (k5 : (o.kind == 5) = true) :
    Calls Try.prog 18 #[.pointer (some ⟨N, 0, none⟩), .agg #[.slice A m c, .int .i64 s.last], .agg #[.int .u8 o.kind, .int .i64 o.frm, .int .i64 o.dst, .slice o.A o.n o.c, .int .i64 o.i]] w (Post18 w B N (addQ s q.frm q.dst q.data)) := by
  have hps : ps.length = s.pend.length := h.dp.1
  have hm : m = s.pend.length := h.len
  have hE : 0 < s.pend.length := by have := (List.getElem?_eq_some_iff.1 hq).1; omega
  obtain ⟨m, rfl⟩ : ∃ m1, m = m1 + 1 := ⟨m - 1, by omega⟩
  have hbx := B18.new w A (m + 1) c s.last o
  have hz : Bz w (((w.alloc (.cells #[.slice A (m + 1) c, .int .i64 s.last] 39)).alloc (.cells #[.int .u8 o.kind, .int .i64 o.frm, .int .i64 o.dst, .slice o.A o.n o.c, .int .i64 o.i] 41)).alloc (.cells #[.slice none 0 0, .int .i64 0] 39)) B N v ps A (m + 1) c s.last s.pend s.pend := Bz.init h ((((Below.refl _ _).alloc (Nat.le_refl _) _).alloc (by simp) _).alloc (by simp; omega) _) (by simp)
  have HPS := Lib.hid hps
  have HM := Lib.hid hm
  have hps100 : ps.length ≤ 100 := by omega
  have hm100 : m ≤ 100 := by omega
  have KW := Lib.hid (show ∀ b, b < w.heap.size → (((w.alloc (.cells #[.slice A (m + 1) c, .int .i64 s.last] 39)).alloc (.cells #[.int .u8 o.kind, .int .i64 o.frm, .int .i64 o.dst, .slice o.A o.n o.c, .int .i64 o.i] 41)).alloc (.cells #[.slice none 0 0, .int .i64 0] 39)).heap[b]? = w.heap[b]? from fun b hb => ((((Below.refl _ _).alloc (Nat.le_refl _) _).alloc (by simp) _).alloc (by simp; omega) _ : Below w.heap.size w (((w.alloc (.cells #[.slice A (m + 1) c, .int .i64 s.last] 39)).alloc (.cells #[.int .u8 o.kind, .int .i64 o.frm, .int .i64 o.dst, .slice o.A o.n o.c, .int .i64 o.i] 41)).alloc (.cells #[.slice none 0 0, .int .i64 0] 39))).block b hb)
  have hps0 : 0 < ps.length := by omega
  have hmc : m + 1 ≤ c := h.cap
  clear hps hm
  have HD := Lib.hid hd
  clear hd h
  have HQ := Lib.hid hq
  clear hq
  go_enter Try.func18, Try.ntmps18
  go_wp2_with fail
  generalize ((w.alloc (.cells #[.slice A (m + 1) c, .int .i64 s.last] 39)).alloc (.cells #[.int .u8 o.kind, .int .i64 o.frm, .int .i64 o.dst, .slice o.A o.n o.c, .int .i64 o.i] 41)).alloc (.cells #[.slice none 0 0, .int .i64 0] 39) = wA at *
  have hsA := hz.size
  obtain ⟨p, q', g1, g2, g3⟩ := hz.dp.at_ (pos_lt o.i hps0)
  obtain rfl : q = q' := by have := HQ.out; rw [← HPS.out] at this; rw [this] at g2; simpa using g2
  refine (double13 B _ _ _ _ _ _ hz.net p q.data g1 (g3.data.imp fun b hb => hb.1) g3.small hl0 (by omega) hps0 (by omega) (by have := hz.hB; omega)).mono ?_
  rintro e w1 ⟨rfl, v1, dd, hn1, hd0, hd1, t1⟩
  have h1 := hz.op hn1 t1 (Rds.snoc (hz.dp.keep fun b hb => OkZ.step t1 hb) (q := ⟨s.last + 1, q.frm, q.dst, q.data⟩) ⟨rfl, g3.frm, g3.dst, hz.dataZ hd1 hd0, g3.small⟩)
  have hb1 := hbx.step hz t1
  have x0 : w1.cell? ⟨w.heap.size, 0, none⟩ = some (.slice A (m + 1) c) := hb1.x.cell 0
  have x1 : w1.cell? ⟨w.heap.size, 1, none⟩ = some (.int .i64 s.last) := hb1.x.cell 1
  have y0 : w1.cell? ⟨w.heap.size + 1, 0, none⟩ = some (.int .u8 o.kind) := hb1.y.cell 0
  have y1 : w1.cell? ⟨w.heap.size + 1, 1, none⟩ = some (.int .i64 o.frm) := hb1.y.cell 1
  have y2 : w1.cell? ⟨w.heap.size + 1, 2, none⟩ = some (.int .i64 o.dst) := hb1.y.cell 2
  have y3 : w1.cell? ⟨w.heap.size + 1, 3, none⟩ = some (.slice o.A o.n o.c) := hb1.y.cell 3
  have y4 : w1.cell? ⟨w.heap.size + 1, 4, none⟩ = some (.int .i64 o.i) := hb1.y.cell 4
  obtain ⟨pk, r1, r2⟩ := h1.ref
  have HA := Lib.hid (And.intro r1 r2)
  have H1 := Lib.hid h1
  have HB1 := Lib.hid hb1
  have hs1 := h1.size
  clear r1 r2 h1 hb1 hz hbx hn1 hd0 hd1 t1 g1 g2 g3 HD
  go_wp2_with fail
  refine (refDouble33 _ A m c s.last o.i pk s.pend q w1 HA.out.1 HA.out.2 (fun b hb => hb.1.1) (by rw [HM.out]; exact HQ.out) (by omega) hl0 (by omega)).mono ?_
  rintro e w2 ⟨A2, c2, rfl, r2⟩
  have h2 := H1.out.refN r2
  have hb2 := HB1.out.below r2.below
  clear r2
  go_upto_region 19 with (fail)
  have bel3 := ((Below.refl w2.heap.size w2).alloc (Nat.le_refl _) (.cells #[.slice A2 (m + 1 + 1) c2, .int .i64 (s.last + 1)] 39))
  have hb3 := hb2.below bel3
  have hn3 := Blk.new w2 39 #[.slice A2 (m + 1 + 1) c2, .int .i64 (s.last + 1)]
  generalize w2.alloc (.cells #[.slice A2 (m + 1 + 1) c2, .int .i64 (s.last + 1)] 39) = w3 at *
  have z0 : w3.cell? ⟨w.heap.size + 2, 0, none⟩ = some (.slice none 0 0) := hb3.z.cell 0
  have z1 : w3.cell? ⟨w.heap.size + 2, 1, none⟩ = some (.int .i64 0) := hb3.z.cell 1
  have f0 : w3.frozen? ⟨w.heap.size + 2, 0, none⟩ = false := hb3.z.frozen 0
  have f1 : w3.frozen? ⟨w.heap.size + 2, 1, none⟩ = false := hb3.z.frozen 1
  have n0 : w3.cell? ⟨w2.heap.size, 0, none⟩ = some (.slice A2 (m + 1 + 1) c2) := hn3.cell 0
  have n1 : w3.cell? ⟨w2.heap.size, 1, none⟩ = some (.int .i64 (s.last + 1)) := hn3.cell 1
  have hs2 := h2.size
  have HZ := Lib.hid h2
  have BEL := Lib.hid bel3
  clear h2 hb2 hb3 bel3 hn3
  go_wp2_with fail
  refine bodyPost_ret (v := .tuple #[.agg #[.slice A2 (m + 1 + 1) c2, .int .i64 (s.last + 1)], .bool true]) (by simp [results, Try.results18, go_sem, z0, z1]) rfl ?_
  obtain ⟨hF1, hF2⟩ := HZ.out.fin (s := addQ s q.frm q.dst q.data) BEL.out rfl rfl
  exact ⟨_, _, _, _, _, rfl, hF1, hF2⟩

set_option maxHeartbeats 4000000 in
theorem step_purge (B N : Nat) (v : Value) (ps : List Pk) (A : Option Addr) (m c : Nat) (s : AR) (o : Op5) (d : List Int) (w : World) (h : Bo w B N v ps A m c s) (hd : Byts w (Away w N v) o.A o.n d) (hon : o.n ≤ 60) (hl0 : 0 ≤ s.last) (hl1 : s.last ≤ 100) (hp : s.pend.length ≤ 100)
    (k0 : (o.kind == 0) = false) (k1 : (o.kind == 1) = false) (k2 : (o.kind == 2) = false) (k3 : (o.kind == 3) = false) (k4 : (o.kind == 4) = false) (k5 : (o.kind == 5) = false) (k6 : (o.kind == 6) = true) :
    Calls Try.prog 18 #[.pointer (some ⟨N, 0, none⟩), .agg #[.slice A m c, .int .i64 s.last], .agg #[.int .u8 o.kind, .int .i64 o.frm, .int .i64 o.dst, .slice o.A o.n o.c, .int .i64 o.i]] w (Post18 w B N ({ s with pend := s.pend.filter (fun q => !(q.dst == o.dst)) })) := by
  have hps : ps.length = s.pend.length := h.dp.1
  have hm : m = s.pend.length := h.len
  have hbx := B18.new w A m c s.last o
  have hz : Bz w (((w.alloc (.cells #[.slice A m c, .int .i64 s.last] 39)).alloc (.cells #[.int .u8 o.kind, .int .i64 o.frm, .int .i64 o.dst, .slice o.A o.n o.c, .int .i64 o.i] 41)).alloc (.cells #[.slice none 0 0, .int .i64 0] 39)) B N v ps A m c s.last s.pend s.pend := Bz.init h ((((Below.refl _ _).alloc (Nat.le_refl _) _).alloc (by simp) _).alloc (by simp; omega) _) (by simp)
  have HPS := Lib.hid hps
  have HM := Lib.hid hm
  have hps100 : ps.length ≤ 100 := by omega
  have hm100 : m ≤ 100 := by omega
  have KW := Lib.hid (show ∀ b, b < w.heap.size → (((w.alloc (.cells #[.slice A m c, .int .i64 s.last] 39)).alloc (.cells #[.int .u8 o.kind, .int .i64 o.frm, .int .i64 o.dst, .slice o.A o.n o.c, .int .i64 o.i] 41)).alloc (.cells #[.slice none 0 0, .int .i64 0] 39)).heap[b]? = w.heap[b]? from fun b hb => ((((Below.refl _ _).alloc (Nat.le_refl _) _).alloc (by simp) _).alloc (by simp; omega) _ : Below w.heap.size w (((w.alloc (.cells #[.slice A m c, .int .i64 s.last] 39)).alloc (.cells #[.int .u8 o.kind, .int .i64 o.frm, .int .i64 o.dst, .slice o.A o.n o.c, .int .i64 o.i] 41)).alloc (.cells #[.slice none 0 0, .int .i64 0] 39))).block b hb)
  clear hps hm
  have HD := Lib.hid hd
  clear hd h
  go_enter Try.func18, Try.ntmps18
  go_wp2_with fail
  generalize ((w.alloc (.cells #[.slice A m c, .int .i64 s.last] 39)).alloc (.cells #[.int .u8 o.kind, .int .i64 o.frm, .int .i64 o.dst, .slice o.A o.n o.c, .int .i64 o.i] 41)).alloc (.cells #[.slice none 0 0, .int .i64 0] 39) = wA at *
  have hsA := hz.size
  have hfl := Rds.filter o.dst hz.dp
  refine (purge23 B _ _ _ o.dst ps _ hz.net (by omega)).mono ?_
  rintro e w1 ⟨he, v1, hn1, t1⟩
  rw [hfl.1, show ((ps.length : Nat) : Int) = (m : Nat) from by have := HPS.out; have := HM.out; omega] at he
  subst he
  have h1 := hz.op hn1 t1 (hfl.keep fun b hb => OkZ.step t1 hb)
  have hb1 := hbx.step hz t1
  have x0 : w1.cell? ⟨w.heap.size, 0, none⟩ = some (.slice A m c) := hb1.x.cell 0
  have x1 : w1.cell? ⟨w.heap.size, 1, none⟩ = some (.int .i64 s.last) := hb1.x.cell 1
  have y0 : w1.cell? ⟨w.heap.size + 1, 0, none⟩ = some (.int .u8 o.kind) := hb1.y.cell 0
  have y1 : w1.cell? ⟨w.heap.size + 1, 1, none⟩ = some (.int .i64 o.frm) := hb1.y.cell 1
  have y2 : w1.cell? ⟨w.heap.size + 1, 2, none⟩ = some (.int .i64 o.dst) := hb1.y.cell 2
  have y3 : w1.cell? ⟨w.heap.size + 1, 3, none⟩ = some (.slice o.A o.n o.c) := hb1.y.cell 3
  have y4 : w1.cell? ⟨w.heap.size + 1, 4, none⟩ = some (.int .i64 o.i) := hb1.y.cell 4
  obtain ⟨pk, r1, r2⟩ := h1.ref
  have HA := Lib.hid (And.intro r1 r2)
  have H1 := Lib.hid h1
  have HB1 := Lib.hid hb1
  have hs1 := h1.size
  clear r1 r2 h1 hb1 hz hbx hn1 t1 hfl HD
  go_wp2_with fail
  refine (refPurge34 _ A m c s.last o.dst pk s.pend w1 HA.out.1 HA.out.2 (fun b hb => hb.1.1) (by omega)).mono ?_
  rintro e w2 ⟨A2, c2, rfl, r2⟩
  have h2 := H1.out.refN r2
  have hb2 := HB1.out.below r2.below
  clear r2
  go_upto_region 23 with (fail)
  have bel3 := ((Below.refl w2.heap.size w2).alloc (Nat.le_refl _) (.cells #[.slice A2 (s.pend.filter (fun q => !(q.dst == o.dst))).length c2, .int .i64 s.last] 39))
  have hb3 := hb2.below bel3
  have hn3 := Blk.new w2 39 #[.slice A2 (s.pend.filter (fun q => !(q.dst == o.dst))).length c2, .int .i64 s.last]
  generalize w2.alloc (.cells #[.slice A2 (s.pend.filter (fun q => !(q.dst == o.dst))).length c2, .int .i64 s.last] 39) = w3 at *
  have z0 : w3.cell? ⟨w.heap.size + 2, 0, none⟩ = some (.slice none 0 0) := hb3.z.cell 0
  have z1 : w3.cell? ⟨w.heap.size + 2, 1, none⟩ = some (.int .i64 0) := hb3.z.cell 1
  have f0 : w3.frozen? ⟨w.heap.size + 2, 0, none⟩ = false := hb3.z.frozen 0
  have f1 : w3.frozen? ⟨w.heap.size + 2, 1, none⟩ = false := hb3.z.frozen 1
  have n0 : w3.cell? ⟨w2.heap.size, 0, none⟩ = some (.slice A2 (s.pend.filter (fun q => !(q.dst == o.dst))).length c2) := hn3.cell 0
  have n1 : w3.cell? ⟨w2.heap.size, 1, none⟩ = some (.int .i64 s.last) := hn3.cell 1
  have hs2 := h2.size
  have HZ := Lib.hid h2
  have BEL := Lib.hid bel3
  clear h2 hb2 hb3 bel3 hn3
  go_wp2_with fail
  refine bodyPost_ret (v := .tuple #[.agg #[.slice A2 (s.pend.filter (fun q => !(q.dst == o.dst))).length c2, .int .i64 s.last], .bool true]) (by simp [results, Try.results18, go_sem, z0, z1]) rfl ?_
  obtain ⟨hF1, hF2⟩ := HZ.out.fin (s := { s with pend := s.pend.filter (fun q => !(q.dst == o.dst)) }) BEL.out rfl rfl
  exact ⟨_, _, _, _, _, rfl, hF1, hF2⟩

set_option maxHeartbeats 4000000 in
theorem step_none (B N : Nat) (v : Value) (ps : List Pk) (A : Option Addr) (m c : Nat) (s : AR) (o : Op5) (d : List Int) (w : World) (h : Bo w B N v ps A m c s) (hd : Byts w (Away w N v) o.A o.n d) (hon : o.n ≤ 60) (hl0 : 0 ≤ s.last) (hl1 : s.last ≤ 100) (hp : s.pend.length ≤ 100)
    (k0 : (o.kind == 0) = false) (k1 : (o.kind == 1) = false) (k2 : (o.kind == 2) = false) (k3 : (o.kind == 3) = false) (k4 : (o.kind == 4) = false) (k5 : (o.kind == 5) = false) (k6 : (o.kind == 6) = false) :
    Calls Try.prog 18 #[.pointer (some ⟨N, 0, none⟩), .agg #[.slice A m c, .int .i64 s.last], .agg #[.int .u8 o.kind, .int .i64 o.frm, .int .i64 o.dst, .slice o.A o.n o.c, .int .i64 o.i]] w (Post18 w B N (s)) := by
  have hps : ps.length = s.pend.length := h.dp.1
  have hm : m = s.pend.length := h.len
  have hbx := B18.new w A m c s.last o
  have hz : Bz w (((w.alloc (.cells #[.slice A m c, .int .i64 s.last] 39)).alloc (.cells #[.int .u8 o.kind, .int .i64 o.frm, .int .i64 o.dst, .slice o.A o.n o.c, .int .i64 o.i] 41)).alloc (.cells #[.slice none 0 0, .int .i64 0] 39)) B N v ps A m c s.last s.pend s.pend := Bz.init h ((((Below.refl _ _).alloc (Nat.le_refl _) _).alloc (by simp) _).alloc (by simp; omega) _) (by simp)
  have HPS := Lib.hid hps
  have HM := Lib.hid hm
  have hps100 : ps.length ≤ 100 := by omega
  have hm100 : m ≤ 100 := by omega
  have KW := Lib.hid (show ∀ b, b < w.heap.size → (((w.alloc (.cells #[.slice A m c, .int .i64 s.last] 39)).alloc (.cells #[.int .u8 o.kind, .int .i64 o.frm, .int .i64 o.dst, .slice o.A o.n o.c, .int .i64 o.i] 41)).alloc (.cells #[.slice none 0 0, .int .i64 0] 39)).heap[b]? = w.heap[b]? from fun b hb => ((((Below.refl _ _).alloc (Nat.le_refl _) _).alloc (by simp) _).alloc (by simp; omega) _ : Below w.heap.size w (((w.alloc (.cells #[.slice A m c, .int .i64 s.last] 39)).alloc (.cells #[.int .u8 o.kind, .int .i64 o.frm, .int .i64 o.dst, .slice o.A o.n o.c, .int .i64 o.i] 41)).alloc (.cells #[.slice none 0 0, .int .i64 0] 39))).block b hb)
  clear hps hm
  have HD := Lib.hid hd
  clear hd h
  go_enter Try.func18, Try.ntmps18
  go_upto_region 24 with (fail)
  generalize ((w.alloc (.cells #[.slice A m c, .int .i64 s.last] 39)).alloc (.cells #[.int .u8 o.kind, .int .i64 o.frm, .int .i64 o.dst, .slice o.A o.n o.c, .int .i64 o.i] 41)).alloc (.cells #[.slice none 0 0, .int .i64 0] 39) = wA at *
  have hsA := hz.size
  have x0 : wA.cell? ⟨w.heap.size, 0, none⟩ = some (.slice A m c) := hbx.x.cell 0
  have x1 : wA.cell? ⟨w.heap.size, 1, none⟩ = some (.int .i64 s.last) := hbx.x.cell 1
  have y0 : wA.cell? ⟨w.heap.size + 1, 0, none⟩ = some (.int .u8 o.kind) := hbx.y.cell 0
  have y1 : wA.cell? ⟨w.heap.size + 1, 1, none⟩ = some (.int .i64 o.frm) := hbx.y.cell 1
  have y2 : wA.cell? ⟨w.heap.size + 1, 2, none⟩ = some (.int .i64 o.dst) := hbx.y.cell 2
  have y3 : wA.cell? ⟨w.heap.size + 1, 3, none⟩ = some (.slice o.A o.n o.c) := hbx.y.cell 3
  have y4 : wA.cell? ⟨w.heap.size + 1, 4, none⟩ = some (.int .i64 o.i) := hbx.y.cell 4
  have z0 : wA.cell? ⟨w.heap.size + 2, 0, none⟩ = some (.slice none 0 0) := hbx.z.cell 0
  have z1 : wA.cell? ⟨w.heap.size + 2, 1, none⟩ = some (.int .i64 0) := hbx.z.cell 1
  have f0 : wA.frozen? ⟨w.heap.size + 2, 0, none⟩ = false := hbx.z.frozen 0
  have f1 : wA.frozen? ⟨w.heap.size + 2, 1, none⟩ = false := hbx.z.frozen 1
  have HZ := Lib.hid hz
  clear hz hbx
  go_wp2_with fail
  refine bodyPost_ret (v := .tuple #[.agg #[.slice A m c, .int .i64 s.last], .bool true]) (by simp [results, Try.results18, go_sem, z0, z1]) rfl ?_
  obtain ⟨hF1, hF2⟩ := HZ.out.fin (s := s) (Below.refl _ _) rfl rfl
  exact ⟨_, _, _, _, _, rfl, hF1, hF2⟩
end Go.Proofs.Ytledcmcpinjboaa
