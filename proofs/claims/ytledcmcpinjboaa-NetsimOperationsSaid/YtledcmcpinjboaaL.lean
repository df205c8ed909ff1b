/-
The contract of run.
-/
import Derived.Test.YtledcmcpinjboaaK
namespace Go.Proofs.Ytledcmcpinjboaa
open Go.RowKit
set_option linter.unusedVariables false

/-- the keys of the map are the numbers that were given. -/
theorem keys_of {w : World} {ok : Nat → Prop} {n : Nat} {es : List Pk} {s : AR} (hds : Rds w ok es s.sent) (hi : Inv n s) : ∀ o ∈ es.map kv, o.1 ≠ s.last + 1 := by
  intro o ho e
  obtain ⟨p, hp, rfl⟩ := List.mem_map.1 ho
  obtain ⟨i, hi2⟩ := List.getElem?_of_mem hp
  have hil : i < es.length := (List.getElem?_eq_some_iff.1 hi2).1
  obtain ⟨p', q, h1, h2, h3⟩ := hds.at_ hil
  obtain rfl : p = p' := by rw [hi2] at h1; simpa using h1
  have h4 := hi.nums i q h2
  have h5 := h3.num
  have h6 := hi.len
  have h7 := hds.1
  have h8 : (kv p).1 = p.num := rfl
  omega
theorem St.keys {w : World} {B N m n : Nat} {v u : Value} {ps es gs : List Pk} {s : AR} (h : St w B N m v u ps es gs s) (hi : Inv n s) : ∀ o ∈ es.map kv, o.1 ≠ s.last + 1 := keys_of h.ds hi
theorem St.len {w : World} {B N m n : Nat} {v u : Value} {ps es gs : List Pk} {s : AR} (h : St w B N m v u ps es gs s) (hi : Inv n s) : (((es.map kv).length : Nat) : Int) = s.last := by
  rw [List.length_map, h.ds.1]; exact hi.len
theorem fresh_away {w : World} {B N : Nat} {v : Value} {last : Int} {ps : List Pk} {b : Nat} (h : NetW w B N v last ps) (w' : World) (hb : w.heap.size ≤ b) (hb2 : b < w'.heap.size) : Away w' N v b :=
  ⟨hb2, by have := h.box.lt; omega, fun e => by have := (h.row.lt b e.symm).2; omega⟩
def opBox (o : Op5) : Array Value := #[.int .u8 o.kind, .int .i64 o.frm, .int .i64 o.dst, .slice o.A o.n o.c, .int .i64 o.i]

theorem St.dataFresh {w w' : World} {B N m dd n : Nat} {v v' u : Value} {ps ps' es gs : List Pk} {s : AR} {last : Int} {bs : List Int} (h : St w B N m v u ps es gs s) (hn : NetW w' B N v' last ps') (t : NStep N v w v' w') (hd : Byts w' (Away w' N v') (some ⟨dd, 0, none⟩) n bs) (hb : w.heap.size ≤ dd) : Byts w' (Ok w' N m v' u) (some ⟨dd, 0, none⟩) n bs :=
  ⟨hd.1, fun h0 => by
    obtain ⟨b', off', e1, e2, e3⟩ := hd.2 h0
    simp only [Option.some.injEq, Addr.mk.injEq, and_true] at e1
    obtain ⟨rfl, rfl⟩ := e1
    exact ⟨_, _, rfl, h.fresh hn t hb e2, e3⟩⟩
theorem news_at {w : World} {g g' : Nat} {t : TypeId} {cs : Array Value} {news : List Value} (h : Blk w g t cs) (hg : g = g') (he : cs = news.toArray) : ∀ j u, news[j]? = some u → w.cell? ((⟨g', 0, none⟩ : Addr).add j) = some u := hg ▸ news_blk h news he
theorem kind_cases (k : Int) : ((k == 0) = true) ∨ ((k == 0) = false ∧ (k == 1) = true) ∨ ((k == 0) = false ∧ (k == 1) = false ∧ (k == 2) = true) ∨ ((k == 0) = false ∧ (k == 1) = false ∧ (k == 2) = false ∧ (k == 3) = true) ∨
    ((k == 0) = false ∧ (k == 1) = false ∧ (k == 2) = false ∧ (k == 3) = false ∧ (k == 4) = true) ∨ ((k == 0) = false ∧ (k == 1) = false ∧ (k == 2) = false ∧ (k == 3) = false ∧ (k == 4) = false ∧ (k == 5) = true) ∨
    ((k == 0) = false ∧ (k == 1) = false ∧ (k == 2) = false ∧ (k == 3) = false ∧ (k == 4) = false ∧ (k == 5) = false ∧ (k == 6) = true) ∨ ((k == 0) = false ∧ (k == 1) = false ∧ (k == 2) = false ∧ (k == 3) = false ∧ (k == 4) = false ∧ (k == 5) = false ∧ (k == 6) = false) := by
  simp only [beq_iff_eq, beq_eq_false_iff_ne]; omega
set_option maxRecDepth 100000 in
set_option maxHeartbeats 8000000 in
theorem run21 (A : Option Addr) (n c : Nat) (os : List Op5) (ds : List (List Int)) (w : World) (h : OpSl w w.heap.size A n os ds) (hsm : ∀ o ∈ os, o.n ≤ 60) (hn : n ≤ 30) :
    Calls Try.prog 21 #[.slice A n c] w fun e w' => ∃ v u ps es gs, e = .returned (.tuple #[.pointer (some ⟨w.heap.size, 0, none⟩), .map (some (w.heap.size + 1)), u]) ∧ St w' w.heap.size w.heap.size (w.heap.size + 1) v u ps es gs (aRun (os.zip ds)) ∧ Below w.heap.size w w' := by
  have hmm := @run_makeMap Try.prog
  go_enter Try.func21, Try.ntmps21
  go_wp2_with fail
  refine (new11 _).mono ?_
  rintro e w1 ⟨rfl, rfl⟩
  go_wp2_with fail
  have hin := St.init w
  have hbi : Below w.heap.size w ((w.alloc (.cells #[.int .i64 0, .slice none 0 0] 58)).alloc (.map #[] 0)) := ((Below.refl _ _).alloc (Nat.le_refl _) _).alloc (by simp) _
  generalize (w.alloc (.cells #[.int .i64 0, .slice none 0 0] 58)).alloc (.map #[] 0) = w1 at *
  clear hmm
  go_loopw [7, 21] (fun u i wr => ∃ (k : Nat) (v : Value) (ps es gs : List Pk), k ≤ n ∧ i = .int .i64 k ∧ St wr w.heap.size w.heap.size (w.heap.size + 1) v u ps es gs (aRun ((os.zip ds).take k)) ∧ Below w.heap.size w wr) (fun _ i _ => n - (intOf i).toNat)
  case atStart => exact ⟨0, _, _, _, _, Nat.zero_le _, rfl, hin, hbi⟩
  case round =>
    obtain ⟨k, v, ps, es, gs, hk, rfl, hst, hb⟩ := hrel
    by_cases hlt : k < n
    · obtain ⟨b, off, o, d, rfl, hbB, ho, hd, hby, c0, c1, c2, c3, c4⟩ := (h.keep (w' := wr) fun b hb' => hb.block b hb').cells hlt
      have hz : (os.zip ds)[k]? = some (o, d) := by rw [List.getElem?_zip_eq_some]; exact ⟨ho, hd⟩
      have hsn := aRun_snoc hz
      have hinv := inv_run ((os.zip ds).take k)
      have hlen : ((os.zip ds).take k).length ≤ k := List.length_take_le _ _
      have hon := hsm o (List.mem_of_getElem? ho)
      generalize aRun ((os.zip ds).take k) = s at *
      have hk0 : 0 ≤ (k : Int) := by omega
      have hk1 : (k : Int) < n := by omega
      have hl0 : 0 ≤ s.last := by have := hinv.len; omega
      have hl1 : s.last ≤ 30 := by have := hinv.len; have := hinv.le; omega
      have hlp : ps.length ≤ 30 := by have := hst.dp.1; have := hinv.lp; omega
      have hlg : gs.length ≤ 30 := by have := hst.dg.1; have := hinv.lg; omega
      clear ho hd hz hin hbi
      obtain ⟨Au, cu, rfl⟩ := slice_of_own hst.row
      rcases kind_cases o.kind with k0 | ⟨k0, k1⟩ | ⟨k0, k1, k2⟩ | ⟨k0, k1, k2, k3⟩ | ⟨k0, k1, k2, k3, k4⟩ | ⟨k0, k1, k2, k3, k4, k5⟩ | ⟨k0, k1, k2, k3, k4, k5, k6⟩ | ⟨k0, k1, k2, k3, k4, k5, k6⟩
      · -- send (0)
        have hst0 : aStep s (o, d) = addQ s o.frm o.dst d := by simp [aStep, kindSend, k0]
        rw [hst0] at hsn
        have HSN := Lib.hid hsn
        clear hsn hst0
        have hstb := hst.alloc (.cells #[.int .u8 o.kind, .int .i64 o.frm, .int .i64 o.dst, .slice o.A o.n o.c, .int .i64 o.i] 41)
        have hda : Byts (wr.alloc (.cells #[.int .u8 o.kind, .int .i64 o.frm, .int .i64 o.dst, .slice o.A o.n o.c, .int .i64 o.i] 41)) (Away (wr.alloc (.cells #[.int .u8 o.kind, .int .i64 o.frm, .int .i64 o.dst, .slice o.A o.n o.c, .int .i64 o.i] 41)) w.heap.size v) o.A o.n d := hby.keep fun b hb' => ⟨(hstb.arg hb').1, Below.heap_alloc _ _ _ (Nat.lt_of_lt_of_le hb' hst.hB)⟩
        go_wp2_with fail
        refine (send12 w.heap.size w.heap.size v s.last o.frm o.dst o.A o.n o.c d ps _ hstb.net hda hl0 (by omega) (by omega) (by omega) hstb.hB).mono ?_
        rintro e w2 ⟨v', dd, rfl, hn2, hd0, hd1, ht2⟩
        have hst2 := hstb.op hn2 ht2 (Rds.snoc (hstb.dp.keep fun b hb' => Ok.step ht2 hb') (q := ⟨s.last + 1, o.frm, o.dst, d⟩) ⟨rfl, rfl, rfl, hstb.dataFresh hn2 ht2 hd1 hd0, by show o.n ≤ 1000; omega⟩) (hstb.pB.snoc (Nat.le_trans hstb.hB hd0))
        have hbx : Blk w2 wr.heap.size 41 #[.int .u8 o.kind, .int .i64 o.frm, .int .i64 o.dst, .slice o.A o.n o.c, .int .i64 o.i] := (ht2.same (fresh_away hst.net _ (Nat.le_refl _) (by simp))).trans (Blk.new wr 41 _)
        have x0 : w2.cell? ⟨wr.heap.size, 0, none⟩ = some (.int .u8 o.kind) := hbx.cell 0
        have x1 : w2.cell? ⟨wr.heap.size, 1, none⟩ = some (.int .i64 o.frm) := hbx.cell 1
        have x2 : w2.cell? ⟨wr.heap.size, 2, none⟩ = some (.int .i64 o.dst) := hbx.cell 2
        have x3 : w2.cell? ⟨wr.heap.size, 3, none⟩ = some (.slice o.A o.n o.c) := hbx.cell 3
        have x4 : w2.cell? ⟨wr.heap.size, 4, none⟩ = some (.int .i64 o.i) := hbx.cell 4
        obtain ⟨w3, hup, hm3, hg3⟩ := update_new und46 hst2.map (s.last + 1) (.agg #[.int .i64 (s.last + 1), .int .i64 o.frm, .int .i64 o.dst, .slice o.A o.n o.c]) (hst.keys hinv)
        have hst3 := hst2.mapAdd (p := ⟨s.last + 1, o.frm, o.dst, o.A, o.n, o.c⟩) (q := ⟨s.last + 1, o.frm, o.dst, d⟩) hm3 hg3 ⟨rfl, rfl, rfl, hby.keep fun b hb' => ⟨hst2.arg hb', (ht2.same (hstb.arg hb').1).trans (Below.heap_alloc _ _ _ (Nat.lt_of_lt_of_le hb' hst.hB))⟩, by show o.n ≤ 1000; omega⟩
        have hb2 := (hb.alloc hb.size (.cells #[.int .u8 o.kind, .int .i64 o.frm, .int .i64 o.dst, .slice o.A o.n o.c, .int .i64 o.i] 41)).trans (hstb.net.stepBelow ht2 hstb.hB)
        have hb3 := hb2.grown hg3 hb2.size (fun r hr => by cases hr; omega)
        have HST := Lib.hid hst3
        clear hm3 hg3 hst2 hst3 hstb hn2 hd1 ht2 hda hbx hb2
        go_wp2_with fail
        go_roundw
        case rel => exact ⟨k + 1, _, _, _, _, by omega, by go_num, by rw [HSN.out]; exact HST.out, hb3⟩
        case measure => simp [intOf]; omega
      · -- send (1)
        have hst0 : aStep s (o, d) = addQ s o.frm o.dst d := by simp [aStep, kindSend, k1]
        rw [hst0] at hsn
        have HSN := Lib.hid hsn
        clear hsn hst0
        have hstb := hst.alloc (.cells #[.int .u8 o.kind, .int .i64 o.frm, .int .i64 o.dst, .slice o.A o.n o.c, .int .i64 o.i] 41)
        have hda : Byts (wr.alloc (.cells #[.int .u8 o.kind, .int .i64 o.frm, .int .i64 o.dst, .slice o.A o.n o.c, .int .i64 o.i] 41)) (Away (wr.alloc (.cells #[.int .u8 o.kind, .int .i64 o.frm, .int .i64 o.dst, .slice o.A o.n o.c, .int .i64 o.i] 41)) w.heap.size v) o.A o.n d := hby.keep fun b hb' => ⟨(hstb.arg hb').1, Below.heap_alloc _ _ _ (Nat.lt_of_lt_of_le hb' hst.hB)⟩
        go_wp2_with fail
        refine (send12 w.heap.size w.heap.size v s.last o.frm o.dst o.A o.n o.c d ps _ hstb.net hda hl0 (by omega) (by omega) (by omega) hstb.hB).mono ?_
        rintro e w2 ⟨v', dd, rfl, hn2, hd0, hd1, ht2⟩
        have hst2 := hstb.op hn2 ht2 (Rds.snoc (hstb.dp.keep fun b hb' => Ok.step ht2 hb') (q := ⟨s.last + 1, o.frm, o.dst, d⟩) ⟨rfl, rfl, rfl, hstb.dataFresh hn2 ht2 hd1 hd0, by show o.n ≤ 1000; omega⟩) (hstb.pB.snoc (Nat.le_trans hstb.hB hd0))
        have hbx : Blk w2 wr.heap.size 41 #[.int .u8 o.kind, .int .i64 o.frm, .int .i64 o.dst, .slice o.A o.n o.c, .int .i64 o.i] := (ht2.same (fresh_away hst.net _ (Nat.le_refl _) (by simp))).trans (Blk.new wr 41 _)
        have x0 : w2.cell? ⟨wr.heap.size, 0, none⟩ = some (.int .u8 o.kind) := hbx.cell 0
        have x1 : w2.cell? ⟨wr.heap.size, 1, none⟩ = some (.int .i64 o.frm) := hbx.cell 1
        have x2 : w2.cell? ⟨wr.heap.size, 2, none⟩ = some (.int .i64 o.dst) := hbx.cell 2
        have x3 : w2.cell? ⟨wr.heap.size, 3, none⟩ = some (.slice o.A o.n o.c) := hbx.cell 3
        have x4 : w2.cell? ⟨wr.heap.size, 4, none⟩ = some (.int .i64 o.i) := hbx.cell 4
        obtain ⟨w3, hup, hm3, hg3⟩ := update_new und46 hst2.map (s.last + 1) (.agg #[.int .i64 (s.last + 1), .int .i64 o.frm, .int .i64 o.dst, .slice o.A o.n o.c]) (hst.keys hinv)
        have hst3 := hst2.mapAdd (p := ⟨s.last + 1, o.frm, o.dst, o.A, o.n, o.c⟩) (q := ⟨s.last + 1, o.frm, o.dst, d⟩) hm3 hg3 ⟨rfl, rfl, rfl, hby.keep fun b hb' => ⟨hst2.arg hb', (ht2.same (hstb.arg hb').1).trans (Below.heap_alloc _ _ _ (Nat.lt_of_lt_of_le hb' hst.hB))⟩, by show o.n ≤ 1000; omega⟩
        have hb2 := (hb.alloc hb.size (.cells #[.int .u8 o.kind, .int .i64 o.frm, .int .i64 o.dst, .slice o.A o.n o.c, .int .i64 o.i] 41)).trans (hstb.net.stepBelow ht2 hstb.hB)
        have hb3 := hb2.grown hg3 hb2.size (fun r hr => by cases hr; omega)
        have HST := Lib.hid hst3
        clear hm3 hg3 hst2 hst3 hstb hn2 hd1 ht2 hda hbx hb2
        go_wp2_with fail
        go_roundw
        case rel => exact ⟨k + 1, _, _, _, _, by omega, by go_num, by rw [HSN.out]; exact HST.out, hb3⟩
        case measure => simp [intOf]; omega
      · -- send (2)
        have hst0 : aStep s (o, d) = addQ s o.frm o.dst d := by simp [aStep, kindSend, k2]
        rw [hst0] at hsn
        have HSN := Lib.hid hsn
        clear hsn hst0
        have hstb := hst.alloc (.cells #[.int .u8 o.kind, .int .i64 o.frm, .int .i64 o.dst, .slice o.A o.n o.c, .int .i64 o.i] 41)
        have hda : Byts (wr.alloc (.cells #[.int .u8 o.kind, .int .i64 o.frm, .int .i64 o.dst, .slice o.A o.n o.c, .int .i64 o.i] 41)) (Away (wr.alloc (.cells #[.int .u8 o.kind, .int .i64 o.frm, .int .i64 o.dst, .slice o.A o.n o.c, .int .i64 o.i] 41)) w.heap.size v) o.A o.n d := hby.keep fun b hb' => ⟨(hstb.arg hb').1, Below.heap_alloc _ _ _ (Nat.lt_of_lt_of_le hb' hst.hB)⟩
        go_wp2_with fail
        refine (send12 w.heap.size w.heap.size v s.last o.frm o.dst o.A o.n o.c d ps _ hstb.net hda hl0 (by omega) (by omega) (by omega) hstb.hB).mono ?_
        rintro e w2 ⟨v', dd, rfl, hn2, hd0, hd1, ht2⟩
        have hst2 := hstb.op hn2 ht2 (Rds.snoc (hstb.dp.keep fun b hb' => Ok.step ht2 hb') (q := ⟨s.last + 1, o.frm, o.dst, d⟩) ⟨rfl, rfl, rfl, hstb.dataFresh hn2 ht2 hd1 hd0, by show o.n ≤ 1000; omega⟩) (hstb.pB.snoc (Nat.le_trans hstb.hB hd0))
        have hbx : Blk w2 wr.heap.size 41 #[.int .u8 o.kind, .int .i64 o.frm, .int .i64 o.dst, .slice o.A o.n o.c, .int .i64 o.i] := (ht2.same (fresh_away hst.net _ (Nat.le_refl _) (by simp))).trans (Blk.new wr 41 _)
        have x0 : w2.cell? ⟨wr.heap.size, 0, none⟩ = some (.int .u8 o.kind) := hbx.cell 0
        have x1 : w2.cell? ⟨wr.heap.size, 1, none⟩ = some (.int .i64 o.frm) := hbx.cell 1
        have x2 : w2.cell? ⟨wr.heap.size, 2, none⟩ = some (.int .i64 o.dst) := hbx.cell 2
        have x3 : w2.cell? ⟨wr.heap.size, 3, none⟩ = some (.slice o.A o.n o.c) := hbx.cell 3
        have x4 : w2.cell? ⟨wr.heap.size, 4, none⟩ = some (.int .i64 o.i) := hbx.cell 4
        obtain ⟨w3, hup, hm3, hg3⟩ := update_new und46 hst2.map (s.last + 1) (.agg #[.int .i64 (s.last + 1), .int .i64 o.frm, .int .i64 o.dst, .slice o.A o.n o.c]) (hst.keys hinv)
        have hst3 := hst2.mapAdd (p := ⟨s.last + 1, o.frm, o.dst, o.A, o.n, o.c⟩) (q := ⟨s.last + 1, o.frm, o.dst, d⟩) hm3 hg3 ⟨rfl, rfl, rfl, hby.keep fun b hb' => ⟨hst2.arg hb', (ht2.same (hstb.arg hb').1).trans (Below.heap_alloc _ _ _ (Nat.lt_of_lt_of_le hb' hst.hB))⟩, by show o.n ≤ 1000; omega⟩
        have hb2 := (hb.alloc hb.size (.cells #[.int .u8 o.kind, .int .i64 o.frm, .int .i64 o.dst, .slice o.A o.n o.c, .int .i64 o.i] 41)).trans (hstb.net.stepBelow ht2 hstb.hB)
        have hb3 := hb2.grown hg3 hb2.size (fun r hr => by cases hr; omega)
        have HST := Lib.hid hst3
        clear hm3 hg3 hst2 hst3 hstb hn2 hd1 ht2 hda hbx hb2
        go_wp2_with fail
        go_roundw
        case rel => exact ⟨k + 1, _, _, _, _, by omega, by go_num, by rw [HSN.out]; exact HST.out, hb3⟩
        case measure => simp [intOf]; omega
      · -- deliver
        have hstb := hst.alloc (.cells #[.int .u8 o.kind, .int .i64 o.frm, .int .i64 o.dst, .slice o.A o.n o.c, .int .i64 o.i] 41)
        have hbb := hb.alloc hb.size (.cells #[.int .u8 o.kind, .int .i64 o.frm, .int .i64 o.dst, .slice o.A o.n o.c, .int .i64 o.i] 41)
        rcases Nat.eq_zero_or_pos ps.length with hp0 | hp0
        · obtain rfl : ps = [] := List.eq_nil_of_length_eq_zero hp0
          have hpe : s.pend = [] := List.eq_nil_of_length_eq_zero (by rw [← hst.dp.1]; rfl)
          have hst0 : aStep s (o, d) = s := by simp [aStep, kindSend, k0, k1, k2, k3, hpe]
          rw [hst0] at hsn
          have HSN := Lib.hid hsn
          clear hsn hst0 hpe
          go_wp2_with fail
          refine (deliver15_0 w.heap.size _ _ _ _ _ hstb.net).mono ?_
          rintro e w2 ⟨rfl, hb2⟩
          have HST := Lib.hid ((hstb.below hb2).alloc (.cells #[.int .i64 0, .int .i64 0, .int .i64 0, .slice none 0 0] 31))
          have hb2' := hbb.trans (hb2.mono hbb.size)
          have hb3 := hb2'.alloc hb2'.size (.cells #[.int .i64 0, .int .i64 0, .int .i64 0, .slice none 0 0] 31)
          clear hb2 hstb hbb
          go_wp2_with fail
          go_roundw
          case rel => exact ⟨k + 1, _, _, _, _, by omega, by go_num, by rw [HSN.out]; exact HST.out, hb3⟩
          case measure => simp [intOf]; omega
        · go_wp2_with fail
          refine (deliver15 w.heap.size _ _ _ _ _ _ hstb.net hp0 (by omega)).mono ?_
          rintro e w2 ⟨p, v', hpk, rfl, hd2⟩
          have hdr := hst.dp.1
          obtain ⟨p', q, g1, g2, g3⟩ := hstb.dp.at_ (pos_lt o.i hp0)
          obtain rfl : p = p' := by rw [hpk] at g1; simpa using g1
          rw [hdr] at g2
          have hst0 : aStep s (o, d) = { s with pend := s.pend.eraseIdx (pos o.i s.pend.length), got := s.got ++ [q] } := by simp [aStep, kindSend, k0, k1, k2, k3, g2]
          rw [hst0] at hsn
          have HSN := Lib.hid hsn
          clear hsn hst0
          have hst2 := hstb.op hd2.net hd2.step (Rds.erase (pos o.i ps.length) (hstb.dp.keep fun b hb' => Ok.step hd2.step hb')) (hstb.pB.sub fun p hp => List.mem_of_mem_eraseIdx hp)
          have hst2a := hst2.alloc (.cells #[.int .i64 p.num, .int .i64 p.frm, .int .i64 p.dst, .slice p.A p.n p.c] 31)
          have hrd2 := g3.keep fun b hb' => Ok.step hd2.step hb'
          have hrd2a := hrd2.keep (w' := w2.alloc (.cells #[.int .i64 p.num, .int .i64 p.frm, .int .i64 p.dst, .slice p.A p.n p.c] 31)) (ok' := Ok (w2.alloc (.cells #[.int .i64 p.num, .int .i64 p.frm, .int .i64 p.dst, .slice p.A p.n p.c] 31)) w.heap.size (w.heap.size + 1) v' (.slice Au gs.length cu)) fun b hb' => Ok.step (NStep.of_below ((Below.refl _ _).alloc (Nat.le_refl _) _)) hb'
          have hb2 := hbb.trans (hstb.net.stepBelow hd2.step hstb.hB)
          have hb2a := hb2.alloc hb2.size (.cells #[.int .i64 p.num, .int .i64 p.frm, .int .i64 p.dst, .slice p.A p.n p.c] 31)
          have HRD := Lib.hid hrd2a
          have HS2 := Lib.hid hst2a
          have hsz := hb2.size
          rw [hdr] at HS2
          clear hst2 hst2a hrd2 hrd2a hd2 g3 g1 g2 hpk hstb hbb hb2
          obtain ⟨i0, hi, hz0, hz1, hz2⟩ := info_parts info31
          go_wp2_with (at_builtin; refine wpList_append_lies _ rfl (.tmp 59) (.tmp 61) 28 rfl w.heap.size 31 i0 _ 4 48 Try.underlying28 hi hz0 hz1 hz2 rfl (by decide) _ _ _ rfl (HS2.out.row.alloc _) ⟨w2.heap.size + 1, 0, none⟩ 1 1 p.enc rfl rfl (news_at (Blk.new (w2.alloc (.cells #[.int .i64 p.num, .int .i64 p.frm, .int .i64 p.dst, .slice p.A p.n p.c] 31)) 31 #[.int .i64 p.num, .int .i64 p.frm, .int .i64 p.dst, .slice p.A p.n p.c]) (by simp) rfl) (by simp [Pk.enc, Value.oneCell']) (by decide) (by unfold maxLen; omega) (by omega) (by simp; omega) _ rfl ?_)
          intro g cap w3 hown3 hgrow hat hlt3
          have hst3 := HS2.out.gotAdd hown3 hgrow (by simpa using hat) HRD.out
          have hb3 := (hb2a.alloc hb2a.size _).grown hgrow (by simp; omega) (fun r hr => (HS2.out.row.lt r hr).1)
          have HST := Lib.hid hst3
          clear hst3 hown3 hgrow hat hb2a
          go_wp2_with fail
          go_roundw
          case rel => exact ⟨k + 1, _, _, _, _, by omega, by go_num, by rw [HSN.out]; exact HST.out, hb3⟩
          case measure => simp [intOf]; omega
      · -- drop
        have hstb := hst.alloc (.cells #[.int .u8 o.kind, .int .i64 o.frm, .int .i64 o.dst, .slice o.A o.n o.c, .int .i64 o.i] 41)
        have hbb := hb.alloc hb.size (.cells #[.int .u8 o.kind, .int .i64 o.frm, .int .i64 o.dst, .slice o.A o.n o.c, .int .i64 o.i] 41)
        have hst0 : aStep s (o, d) = { s with pend := s.pend.eraseIdx (pos o.i s.pend.length) } := by simp [aStep, kindSend, k0, k1, k2, k3, k4]
        rw [hst0, ← hst.dp.1] at hsn
        have HSN := Lib.hid hsn
        clear hsn hst0
        rcases Nat.eq_zero_or_pos ps.length with hp0 | hp0
        · obtain rfl : ps = [] := List.eq_nil_of_length_eq_zero hp0
          have hpe : s.pend = [] := List.eq_nil_of_length_eq_zero (by rw [← hst.dp.1]; rfl)
          have HPE := Lib.hid hpe
          clear hpe
          go_wp2_with fail
          refine (drop24_0 w.heap.size _ _ _ _ _ hstb.net).mono ?_
          rintro e w2 ⟨rfl, hb2⟩
          have HST := Lib.hid (hstb.below hb2)
          have hb3 := hbb.trans (hb2.mono hbb.size)
          clear hb2 hstb hbb
          go_wp2_with fail
          go_roundw
          case rel => exact ⟨k + 1, _, _, _, _, by omega, by go_num, by rw [HSN.out, HPE.out]; have h9 := HST.out; rw [show s = { s with pend := ([] : List Pkt).eraseIdx (pos o.i ([] : List Pk).length) } from by rw [List.eraseIdx_nil, ← HPE.out]] at h9; exact h9, hb3⟩
          case measure => simp [intOf]; omega
        · go_wp2_with fail
          refine (drop24 w.heap.size _ _ _ _ _ _ hstb.net hp0 (by omega)).mono ?_
          rintro e w2 ⟨rfl, v', hd2⟩
          have HST := Lib.hid (hstb.op hd2.net hd2.step (Rds.erase (pos o.i ps.length) (hstb.dp.keep fun b hb' => Ok.step hd2.step hb')) (hstb.pB.sub fun p hp => List.mem_of_mem_eraseIdx hp))
          have hb3 := hbb.trans (hstb.net.stepBelow hd2.step hstb.hB)
          clear hd2 hstb hbb
          go_wp2_with fail
          go_roundw
          case rel => exact ⟨k + 1, _, _, _, _, by omega, by go_num, by rw [HSN.out]; exact HST.out, hb3⟩
          case measure => simp [intOf]; omega
      · -- double
        have hstb := hst.alloc (.cells #[.int .u8 o.kind, .int .i64 o.frm, .int .i64 o.dst, .slice o.A o.n o.c, .int .i64 o.i] 41)
        have hbb := hb.alloc hb.size (.cells #[.int .u8 o.kind, .int .i64 o.frm, .int .i64 o.dst, .slice o.A o.n o.c, .int .i64 o.i] 41)
        go_wp2_with fail
        refine (pending14 w.heap.size _ _ _ ps s.pend _ hstb.net (hstb.dp.imp fun b hb' => hb'.1) (by omega)).mono ?_
        rintro e w2 ⟨Ap, cp, pp, rfl, hsl, hrp, hb2⟩
        have hst2 := hstb.below hb2
        have hbb2 := hbb.trans (hb2.mono hbb.size)
        have hbx : Blk w2 wr.heap.size 41 #[.int .u8 o.kind, .int .i64 o.frm, .int .i64 o.dst, .slice o.A o.n o.c, .int .i64 o.i] := (Blk.new wr 41 _).below hb2 (by simp)
        have x0 : w2.cell? ⟨wr.heap.size, 0, none⟩ = some (.int .u8 o.kind) := hbx.cell 0
        have x1 : w2.cell? ⟨wr.heap.size, 1, none⟩ = some (.int .i64 o.frm) := hbx.cell 1
        have x2 : w2.cell? ⟨wr.heap.size, 2, none⟩ = some (.int .i64 o.dst) := hbx.cell 2
        have x3 : w2.cell? ⟨wr.heap.size, 3, none⟩ = some (.slice o.A o.n o.c) := hbx.cell 3
        have x4 : w2.cell? ⟨wr.heap.size, 4, none⟩ = some (.int .i64 o.i) := hbx.cell 4
        have HK := Lib.hid (show ∀ (W : World) (v1 u1 : Value) (ps1 es1 gs1 : List Pk) (l1 : Int) (pe : List Pkt), St W w.heap.size w.heap.size (w.heap.size + 1) v1 u1 ps1 es1 gs1 { s with last := l1, pend := pe } → ∀ o' ∈ es1.map kv, o'.1 ≠ s.last + 1 from fun W v1 u1 ps1 es1 gs1 l1 pe hh => keys_of hh.ds hinv)
        rcases Nat.eq_zero_or_pos ps.length with hp0 | hp0
        · obtain rfl : ps = [] := List.eq_nil_of_length_eq_zero hp0
          have hpe : s.pend = [] := List.eq_nil_of_length_eq_zero (by rw [← hst.dp.1]; rfl)
          have hst0 : aStep s (o, d) = s := by simp [aStep, kindSend, k0, k1, k2, k3, k4, k5, hpe]
          rw [hst0] at hsn
          have HSN := Lib.hid hsn
          clear hsn hst0 hpe hsl hrp
          go_wp2_with fail
          refine (double13_0 w.heap.size _ _ _ _ _ hst2.net).mono ?_
          rintro e w3 ⟨rfl, hb3'⟩
          have HST := Lib.hid (hst2.below hb3')
          have hb3 := hbb2.trans (hb3'.mono hbb2.size)
          clear hb3' hstb hst2 hbb hbb2
          go_wp2_with fail
          go_roundw
          case rel => exact ⟨k + 1, _, _, _, _, by omega, by go_num, by rw [HSN.out]; exact HST.out, hb3⟩
          case measure => simp [intOf]; omega
        · have hdr := hst.dp.1
          obtain ⟨p, q, g1, g2, g3⟩ := hst2.dp.at_ (pos_lt o.i hp0)
          rw [hdr] at g2
          have hst0 : aStep s (o, d) = addQ s q.frm q.dst q.data := by simp [aStep, kindSend, k0, k1, k2, k3, k4, k5, g2]
          rw [hst0] at hsn
          have HSN := Lib.hid hsn
          clear hsn hst0
          go_wp2_with fail
          refine (double13 w.heap.size _ _ _ _ _ _ hst2.net p q.data g1 (g3.data.imp fun b hb' => hb'.1) g3.small hl0 (by omega) hp0 (by omega) hst2.hB).mono ?_
          rintro e w3 ⟨rfl, v', dd, hn3, hd0, hd1, ht3⟩
          have hst3 := hst2.op hn3 ht3 (Rds.snoc (hst2.dp.keep fun b hb' => Ok.step ht3 hb') (q := ⟨s.last + 1, q.frm, q.dst, q.data⟩) ⟨rfl, g3.frm, g3.dst, hst2.dataFresh hn3 ht3 hd1 hd0, g3.small⟩) (hst2.pB.snoc (Nat.le_trans hst2.hB hd0))
          have hb3 := hbb2.trans (hst2.net.stepBelow ht3 hst2.hB)
          have hbx3 : Blk w3 wr.heap.size 41 #[.int .u8 o.kind, .int .i64 o.frm, .int .i64 o.dst, .slice o.A o.n o.c, .int .i64 o.i] := (ht3.same (fresh_away hst.net _ (Nat.le_refl _) hbx.lt)).trans hbx
          have y0 : w3.cell? ⟨wr.heap.size, 0, none⟩ = some (.int .u8 o.kind) := hbx3.cell 0
          have y1 : w3.cell? ⟨wr.heap.size, 1, none⟩ = some (.int .i64 o.frm) := hbx3.cell 1
          have y2 : w3.cell? ⟨wr.heap.size, 2, none⟩ = some (.int .i64 o.dst) := hbx3.cell 2
          have y3 : w3.cell? ⟨wr.heap.size, 3, none⟩ = some (.slice o.A o.n o.c) := hbx3.cell 3
          have y4 : w3.cell? ⟨wr.heap.size, 4, none⟩ = some (.int .i64 o.i) := hbx3.cell 4
          have hokp : ∀ b, (wr.alloc (.cells #[.int .u8 o.kind, .int .i64 o.frm, .int .i64 o.dst, .slice o.A o.n o.c, .int .i64 o.i] 41)).heap.size ≤ b ∧ b < w2.heap.size → Ok w2 w.heap.size (w.heap.size + 1) v (.slice Au gs.length cu) b := fun b hb' => hstb.fresh hst2.net (NStep.of_below hb2) hb'.1 (fresh_away hstb.net _ hb'.1 hb'.2)
          have hpl : s.pend.length ≤ 30 := by rw [← hdr]; exact hlp
          have hpl0 : 0 < s.pend.length := by rw [← hdr]; exact hp0
          obtain ⟨p', q', r1, r2, r3⟩ := hrp.at_ (i := pos o.i s.pend.length) (by rw [hrp.1]; exact pos_lt o.i hpl0)
          obtain rfl : q = q' := by rw [g2] at r2; simpa using r2
          have r4 := (r3.keep (w' := w3) (ok' := Ok w3 w.heap.size (w.heap.size + 1) v' (.slice Au gs.length cu)) fun b hb' => Ok.step ht3 (hokp b hb'))
          have hsl3 := hsl.keep (w' := w3) (ok' := fun b => b < w3.heap.size) fun b hb' => ⟨(ht3.away (hokp b hb').1).1, ht3.same (hokp b hb').1⟩
          have HR4 := Lib.hid r4
          have HR1 := Lib.hid r1
          have HS3 := Lib.hid hst3
          have HSL := Lib.hid hsl3
          have HRF := Lib.hid (show p'.frm = q.frm ∧ p'.dst = q.dst from ⟨r3.frm, r3.dst⟩)
          clear r1 r2 r3 r4 hsl3 hst3 hst2 hstb hsl hrp hokp g1 g2 g3 hn3 hd1 ht3 hbx hbx3 hb2 hbb hbb2 hst hby
          go_wp2_with fail
          refine (index25 Ap s.pend.length cp 0 o.i _ hpl0 (by omega)).mono ?_
          rintro e w4 ⟨rfl, hb4⟩
          have hst4 := HS3.out.below hb4
          obtain ⟨b4, off4, p4, rfl, _, hp4, a0, a1, a2, a3⟩ := (HSL.out.keep (w' := w4) (ok' := fun b => b < w3.heap.size) fun b hb' => ⟨hb', hb4.block b hb'⟩).cells (pos_lt o.i hpl0)
          obtain rfl : p' = p4 := by have := HR1.out; rw [this] at hp4; simpa using hp4
          have r5 := HR4.out.keep (w' := w4) (ok' := Ok w4 w.heap.size (w.heap.size + 1) v' (.slice Au gs.length cu)) fun b hb' => Ok.step (NStep.of_below hb4) hb'
          have hpos := pos_lt o.i hpl0
          have hb4' := hb3.trans (hb4.mono hb3.size)
          have hpi0 : 0 ≤ ((pos o.i s.pend.length : Nat) : Int) := by omega
          have hpi1 : ((pos o.i s.pend.length : Nat) : Int) < s.pend.length := by omega
          have hln : ∀ ty o', (Builtin.len_ #[46] ty #[.map (some (w.heap.size + 1))]).run Try.prog (w4.alloc o') = .ok (.int .i64 s.last) (w4.alloc o') := fun ty o' => by
            have h7 := len_imap (hst4.alloc o').map ty
            rw [List.length_map, hst4.ds.1, hinv.len] at h7
            exact h7
          have hst5 := hst4.alloc (.cells #[.int .i64 (s.last + 1), .int .i64 p'.frm, .int .i64 p'.dst, .slice p'.A p'.n p'.c] 31)
          obtain ⟨w6, hup, hm6, hg6⟩ := update_new und46 hst5.map (s.last + 1) (.agg #[.int .i64 (s.last + 1), .int .i64 p'.frm, .int .i64 p'.dst, .slice p'.A p'.n p'.c]) (HK.out _ _ _ _ _ _ _ _ hst5)
          have r6 := r5.keep (w' := w4.alloc (.cells #[.int .i64 (s.last + 1), .int .i64 p'.frm, .int .i64 p'.dst, .slice p'.A p'.n p'.c] 31)) (ok' := Ok (w4.alloc (.cells #[.int .i64 (s.last + 1), .int .i64 p'.frm, .int .i64 p'.dst, .slice p'.A p'.n p'.c] 31)) w.heap.size (w.heap.size + 1) v' (.slice Au gs.length cu)) fun b hb' => Ok.step (NStep.of_below ((Below.refl _ _).alloc (Nat.le_refl _) _)) hb'
          have hst6 := hst5.mapAdd (p := ⟨s.last + 1, p'.frm, p'.dst, p'.A, p'.n, p'.c⟩) (q := ⟨s.last + 1, q.frm, q.dst, q.data⟩) hm6 hg6 ⟨rfl, HRF.out.1, HRF.out.2, r6.data, r6.small⟩
          have hb5 := hb4'.alloc hb4'.size (.cells #[.int .i64 (s.last + 1), .int .i64 p'.frm, .int .i64 p'.dst, .slice p'.A p'.n p'.c] 31)
          have hb6 := hb5.grown hg6 hb5.size (fun r hr => by cases hr; omega)
          have hw4 : ∀ i u, (w3.cell? ⟨wr.heap.size, i, none⟩ = some u) → w4.cell? ⟨wr.heap.size, i, none⟩ = some u := fun i u hu => (cells_below hb4 (World.block_lt_of_cell? w3 _ hu) i).trans hu
          have HST := Lib.hid hst6
          clear hst4 hst5 hst6 hm6 hg6 r5 r6 hp4 hb4 hb4' hb5 hw4 y0 y1 y2 y3 y4
          go_wp2_with fail
          go_roundw
          case rel => exact ⟨k + 1, _, _, _, _, by omega, by go_num, by rw [HSN.out]; exact HST.out, hb6⟩
          case measure => simp [intOf]; omega
      · -- purge
        have hstb := hst.alloc (.cells #[.int .u8 o.kind, .int .i64 o.frm, .int .i64 o.dst, .slice o.A o.n o.c, .int .i64 o.i] 41)
        have hbb := hb.alloc hb.size (.cells #[.int .u8 o.kind, .int .i64 o.frm, .int .i64 o.dst, .slice o.A o.n o.c, .int .i64 o.i] 41)
        have hst0 : aStep s (o, d) = { s with pend := s.pend.filter (fun q => !(q.dst == o.dst)) } := by simp [aStep, kindSend, k0, k1, k2, k3, k4, k5, k6]
        rw [hst0] at hsn
        have HSN := Lib.hid hsn
        clear hsn hst0
        go_wp2_with fail
        refine (purge23 w.heap.size _ _ _ o.dst _ _ hstb.net (by omega)).mono ?_
        rintro e w2 ⟨rfl, v', hn2, ht2⟩
        have HST := Lib.hid (hstb.op hn2 ht2 (Rds.filter o.dst (hstb.dp.keep fun b hb' => Ok.step ht2 hb')) (hstb.pB.sub fun p hp => (List.mem_filter.1 hp).1))
        have hb3 := hbb.trans (hstb.net.stepBelow ht2 hstb.hB)
        clear hn2 ht2 hstb hbb
        go_wp2_with fail
        go_roundw
        case rel => exact ⟨k + 1, _, _, _, _, by omega, by go_num, by rw [HSN.out]; exact HST.out, hb3⟩
        case measure => simp [intOf]; omega
      · -- any other kind
        have HST := Lib.hid (hst.alloc (.cells #[.int .u8 o.kind, .int .i64 o.frm, .int .i64 o.dst, .slice o.A o.n o.c, .int .i64 o.i] 41))
        have hb3 := hb.alloc hb.size (.cells #[.int .u8 o.kind, .int .i64 o.frm, .int .i64 o.dst, .slice o.A o.n o.c, .int .i64 o.i] 41)
        have hst0 : aStep s (o, d) = s := by simp [aStep, kindSend, k0, k1, k2, k3, k4, k5, k6]
        rw [hst0] at hsn
        have HSN := Lib.hid hsn
        clear hsn hst0
        go_wp2_with fail
        go_roundw
        case rel => exact ⟨k + 1, _, _, _, _, by omega, by go_num, by rw [HSN.out]; exact HST.out, hb3⟩
        case measure => simp [intOf]; omega
    · have hfull : (os.zip ds).take k = os.zip ds := List.take_of_length_le (by rw [List.length_zip, h.1, h.2.1]; omega)
      rw [hfull] at hst
      obtain ⟨Au, cu, rfl⟩ := slice_of_own hst.row
      go_wp2_with fail
      go_ret3
      exact ⟨_, _, _, _, _, rfl, hst, hb⟩
end Go.Proofs.Ytledcmcpinjboaa
