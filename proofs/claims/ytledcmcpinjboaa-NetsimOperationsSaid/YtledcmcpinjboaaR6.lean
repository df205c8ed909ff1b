/-
Contracts of the specification's functions: Purge.
-/
import Derived.Test.YtledcmcpinjboaaR5
namespace Go.Proofs.Ytledcmcpinjboaa
open Go.RowKit
set_option linter.unusedVariables false
set_option linter.unusedSimpArgs false

set_option maxHeartbeats 2000000 in
theorem refPurge34 (ok : Nat → Prop) (A : Option Addr) (m c : Nat) (l t : Int) (ps : List Pk) (qs : List Pkt) (w : World) (h : Sl w ok A m ps) (hr : Rds w ok ps qs) (hok : ∀ b, ok b → b < w.heap.size) (hm : m ≤ 1000) :
    Calls Try.prog 34 #[.agg #[.slice A m c, .int .i64 l], .int .i64 t] w fun e w' => ∃ A' c', e = .returned (.tuple #[.agg #[.slice A' (qs.filter (fun q => !(q.dst == t))).length c', .int .i64 l], .int .i64 ((m : Int) - (qs.filter (fun q => !(q.dst == t))).length)]) ∧ RefN w w' ok A' (qs.filter (fun q => !(q.dst == t))).length c' (qs.filter (fun q => !(q.dst == t))) := by
  obtain ⟨i0, hi, hz0, hz1, hz2⟩ := info_parts info31
  have hB := B2.new w #[.slice A m c, .int .i64 l] zeroN
  unfold zeroN at hB
  have hfl := Rds.filter t hr
  have hlen := h.1
  have HS := Lib.hid h
  have HR := Lib.hid hfl
  have HLEN := Lib.hid hlen
  have hFL := Lib.hid hfl.1
  clear hr hfl h hlen
  generalize qs.filter (fun q => !(q.dst == t)) = qf at *
  go_enter Try.func34, Try.ntmps34
  go_upto_region 1 with (fail)
  generalize (w.alloc (.cells #[.slice A m c, .int .i64 l] 39)).alloc (.cells #[.slice none 0 0, .int .i64 0] 39) = w2 at *
  have hxl := hB.y.lt
  have H2 := Lib.hid hB
  clear hB
  have hown0 : (w2.alloc (.cells #[] 31)).ownsRow w2.heap.size 31 4 (.slice (some ⟨w2.heap.size, 0, none⟩) 0 0) 0 [] := World.ownsRow_made w2 #[] 0 (Nat.le_refl _) (Nat.zero_le _) rfl
  have hb0 : Below w2.heap.size w2 (w2.alloc (.cells #[] 31)) := (Below.refl w2.heap.size w2).alloc (Nat.le_refl _) _
  have H0 := Lib.hid (And.intro hown0 hb0)
  clear hown0 hb0
  go_wp2_with fail
  go_loopw [6, 7] (fun u i wr => ∃ (k : Nat), k ≤ m ∧ i = .int .i64 k ∧ Below w2.heap.size w2 wr ∧ wr.ownsRow w2.heap.size 31 4 u ((ps.take k).filter (keep t)).length (((ps.take k).filter (keep t)).flatMap Pk.enc)) (fun _ i _ => m - (intOf i).toNat)
  case atStart => exact ⟨0, Nat.zero_le _, rfl, H0.out.2, by simpa using H0.out.1⟩
  case round =>
    obtain ⟨k, hk, rfl, hb, hown⟩ := hrel
    obtain ⟨Av, cv, rfl⟩ := slice_of_own hown
    have hx := H2.out.x.below hb (by omega)
    have x0 : wr.cell? ⟨w.heap.size, 0, none⟩ = some (.slice A m c) := hx.cell 0
    have x1 : wr.cell? ⟨w.heap.size, 1, none⟩ = some (.int .i64 l) := hx.cell 1
    have hsz := hb.size
    have hfle : ((ps.take k).filter (keep t)).length ≤ 1000 := Nat.le_trans (List.length_filter_le _ _) (by rw [List.length_take]; omega)
    by_cases hlt : k < m
    · have hslr := HS.out.keep (w' := wr) (ok' := fun b => b < w.heap.size) fun b hb' => ⟨hok b hb', (hb.block b (by have := hok b hb'; omega)).trans (H2.out.below.block b (hok b hb'))⟩
      obtain ⟨b, off, p, rfl, hb2, hpk, a0, a1, a2, a3⟩ := hslr.cells hlt
      have hfs := Lib.hid (filter_snoc (t := t) hpk)
      have hk0 : 0 ≤ (k : Int) := by omega
      have hk1 : (k : Int) < m := by omega
      have hkw : IntKind.i64.wrap ((k : Int) + 1) = (k : Int) + 1 := by rw [IntKind.wrap_i64]; omega
      clear hslr hpk hx H0
      by_cases hdt : p.dst = t
      · have hbe : (p.dst == t) = true := by simpa using hdt
        have HO := Lib.hid hown
        clear hown
        go_wp2_with fail
        go_roundw
        case rel =>
          refine ⟨k + 1, by omega, by go_num, hb, ?_⟩
          have : keep t p = false := by simp [keep, hdt]
          rw [hfs.out, this]; simpa using HO.out
        case measure => simp [intOf]; omega
      · have hbe : (p.dst == t) = false := by simpa using hdt
        generalize hG : (ps.take k).filter (keep t) = pf at *
        have HG := Lib.hid hG
        clear hG
        go_wp2_with (at_builtin; refine wpList_append_lies _ rfl (.tmp 25) (.tmp 31) 28 rfl w2.heap.size 31 i0 _ 4 48 Try.underlying28 hi hz0 hz1 hz2 rfl (by decide) _ _ _ rfl (hown.alloc _) ⟨wr.heap.size, 0, none⟩ 1 1 (Pk.enc ⟨p.num, p.frm, p.dst, p.A, p.n, p.c⟩) rfl rfl (news_blk (Blk.new wr 31 #[.int .i64 p.num, .int .i64 p.frm, .int .i64 p.dst, .slice p.A p.n p.c]) _ rfl) (by simp [Pk.enc, Value.oneCell']) (by decide) (by unfold maxLen; omega) (by omega) (by simp; omega) _ rfl ?_)
        intro g cap w3 hown3 hgrow hat hlt3
        have hb3 : Below w2.heap.size w2 w3 := (hb.alloc (by omega) _).grown hgrow (by simp; omega) (fun r hr => (hown.lt r hr).1)
        have HO := Lib.hid hown3
        clear hown hgrow hat hown3
        go_wp2_with fail
        go_roundw
        case rel =>
          refine ⟨k + 1, by omega, by go_num, hb3, ?_⟩
          have : keep t p = true := by simp [keep, hdt]
          rw [hfs.out, this]
          simpa using HO.out
        case measure => simp [intOf]; omega
    · obtain rfl : k = m := by omega
      have htk : ps.take k = ps := List.take_of_length_le (by rw [HLEN.out]; exact Nat.le_refl _)
      have hL : ((ps.take k).filter (keep t)).length = qf.length := by rw [htk]; exact hFL.out
      rw [hL] at hown hfle
      rw [htk] at hown
      rw [hL]
      have hqf : qf.length ≤ k := by rw [← hFL.out, ← HLEN.out]; exact List.length_filter_le _ _
      have hy := H2.out.y.below hb (by omega)
      have y0 : wr.cell? ⟨w.heap.size + 1, 0, none⟩ = some (.slice none 0 0) := hy.cell 0
      have y1 : wr.cell? ⟨w.heap.size + 1, 1, none⟩ = some (.int .i64 0) := hy.cell 1
      have f0 := hx.frozen 0
      have f1 := hx.frozen 1
      have g0 := hy.frozen 0
      have g1 := hy.frozen 1
      have hsw : IntKind.i64.wrap ((k : Int) - (qf.length : Int)) = (k : Int) - (qf.length : Int) := by rw [IntKind.wrap_i64]; omega
      have HO := Lib.hid hown
      clear hown hx hy
      go_wp2_with fail
      have hnb : (Value.slice Av qf.length cv).ownBlock ≠ some w.heap.size ∧ (Value.slice Av qf.length cv).ownBlock ≠ some (w.heap.size + 1) := ⟨fun e => by have := HO.out.lt _ e; omega, fun e => by have := HO.out.lt _ e; omega⟩
      refine bodyPost_ret (v := .tuple #[.agg #[.slice Av qf.length cv, .int .i64 l], .int .i64 ((k : Int) - (qf.length : Int))]) (by simp [results, Try.results34, go_sem, y0, y1, hsw]) rfl ?_
      have hbw := H2.out.below.trans (hb.mono H2.out.below.size)
      have k2 : ∀ b, b ≠ w.heap.size → b ≠ w.heap.size + 1 → (((wr.setCell ⟨w.heap.size, 0, none⟩ (.slice Av qf.length cv)).setCell ⟨w.heap.size + 1, 0, none⟩ (.slice Av qf.length cv)).setCell ⟨w.heap.size + 1, 1, none⟩ (.int .i64 l)).heap[b]? = wr.heap[b]? := fun b h1 h2 => by
        rw [Below.heap_setCell _ _ _ _ h2, Below.heap_setCell _ _ _ _ h2, Below.heap_setCell _ _ _ _ h1]
      refine ⟨Av, cv, rfl, own_capv HO.out, ((hbw.setCell (by simp) _).setCell (by simp) _).setCell (by simp) _, ps.filter (keep t), (Sl.of_own HO.out hFL.out).keep fun b hb' => ⟨.inr ⟨by have := hb'.1; omega, by simp; exact hb'.2.1⟩, k2 b (by have := hb'.1; omega) (by have := hb'.1; omega)⟩, HR.out.keep fun b hb' => ⟨.inl hb', ?_⟩⟩
      have := hok b hb'
      exact (k2 b (by omega) (by omega)).trans (hbw.block b this)
end Go.Proofs.Ytledcmcpinjboaa
