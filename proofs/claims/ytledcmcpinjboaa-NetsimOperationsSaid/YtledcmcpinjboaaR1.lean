/-
Contracts of the specification's functions.
-/
import Derived.Test.YtledcmcpinjboaaN2
namespace Go.Proofs.Ytledcmcpinjboaa
open Go.RowKit
set_option linter.unusedVariables false
set_option linter.unusedSimpArgs false

/-- what was at hand in w, or was made since. -/
def Gets (w w' : World) (ok : Nat → Prop) (b : Nat) : Prop := ok b ∨ (w.heap.size ≤ b ∧ b < w'.heap.size)
/-- a slice of packets made in w' reads as qs. -/
structure RefN (w w' : World) (ok : Nat → Prop) (A : Option Addr) (m c : Nat) (qs : List Pkt) : Prop where
  cap : m ≤ c
  below : Below w.heap.size w w'
  reads : ∃ ps, Sl w' (Gets w w' ok) A m ps ∧ Rds w' (Gets w w' ok) ps qs
theorem own_capv {w : World} {B n m cap : Nat} {A : Option Addr} {xs : List Value} (h : w.ownsRow B 31 4 (.slice A m cap) n xs) : n ≤ cap := by
  rcases h.2 with ⟨h1, rfl⟩ | ⟨g, c, cur, hv, _, _, hc, _⟩
  · exact Nat.zero_le _
  · simp only [Value.slice.injEq] at hv
    obtain ⟨_, _, rfl⟩ := hv
    exact hc
theorem app_keep {B n : Nat} {xs : List Value} {w0 W W' : World} {v v' : Value} (hb : Below B w0 W) (hB : B ≤ W.heap.size) (hown : W.ownsRow B 31 4 v n xs) (hg : W.grownBy W' v.ownBlock) (hat : v'.ownBlock = v.ownBlock ∨ v'.ownBlock = some W.heap.size) :
    Below B w0 W' ∧ ∀ b, (b < W.heap.size ∧ v.ownBlock ≠ some b) → (b < W'.heap.size ∧ v'.ownBlock ≠ some b) ∧ W'.heap[b]? = W.heap[b]? := by
  refine ⟨⟨hg.os.trans hb.os, hg.tape.trans hb.tape, hg.output.trans hb.output, Nat.le_trans hb.size hg.size, fun k hk => ?_⟩, fun b hb' => ⟨⟨Nat.lt_of_lt_of_le hb'.1 hg.size, ?_⟩, hg.block b hb'.1 fun e => hb'.2 e.symm⟩⟩
  · by_cases hkW : k < W.heap.size
    · exact (hg.block k hkW fun e => by have := (hown.lt k e.symm).1; omega).trans (hb.block k hk)
    · omega
  · rcases hat with h | h
    · rw [h]; exact hb'.2
    · rw [h]; intro e; simp at e; omega

set_option maxHeartbeats 2000000 in
theorem remove37 (ok : Nat → Prop) (A : Option Addr) (m c k : Nat) (l : Int) (ps : List Pk) (qs : List Pkt) (w : World) (h : Sl w ok A (m + 1) ps) (hr : Rds w ok ps qs) (hok : ∀ b, ok b → b < w.heap.size) (hc : m + 1 ≤ c) (hk : k ≤ m) (hm : m ≤ 1000) :
    Calls Try.prog 37 #[.agg #[.slice A (m + 1) c, .int .i64 l], .int .i64 k] w fun e w' => ∃ A' c', e = .returned (.agg #[.slice A' m c', .int .i64 l]) ∧ RefN w w' ok A' m c' (qs.eraseIdx k) := by
  obtain ⟨b0, off, rfl, _⟩ := h.2 (by omega)
  have slT := h.take (k := k) (by omega)
  have slD : Sl w ok (if c = k + 1 then some ⟨b0, off, none⟩ else some ⟨b0, off + (k + 1) * 4, none⟩) (m - k) (ps.drop (k + 1)) := by
    split
    · exact ⟨by rw [List.length_drop, h.1]; omega, fun h0 => by omega⟩
    · have := h.drop (k := k + 1) (by omega)
      rwa [show m + 1 - (k + 1) = m - k from by omega] at this
  have rdE := Rds.append (hr.take k) (hr.drop (k + 1))
  rw [← List.eraseIdx_eq_take_drop_succ qs k] at rdE
  have hNB : ∀ W, Below w.heap.size w W → Sl W (fun b => b < w.heap.size) (some ⟨b0, off, none⟩) k (ps.take k) ∧ Sl W (fun b => b < w.heap.size) (if c = k + 1 then some ⟨b0, off, none⟩ else some ⟨b0, off + (k + 1) * 4, none⟩) (m - k) (ps.drop (k + 1)) ∧ Rds W ok (ps.take k ++ ps.drop (k + 1)) (qs.eraseIdx k) := fun W hW => by
    have kk : ∀ b, ok b → b < w.heap.size ∧ W.heap[b]? = w.heap[b]? := fun b hb' => ⟨hok b hb', hW.block b (hok b hb')⟩
    exact ⟨slT.keep kk, slD.keep kk, rdE.keep fun b hb' => ⟨hb', (kk b hb').2⟩⟩
  have NB := Lib.hid hNB
  have HLEN := Lib.hid h.1
  have hw1 : IntKind.i64.wrap ((k : Int) + 1) = (k : Int) + 1 := by rw [IntKind.wrap_i64]; omega
  have ha0 : 0 ≤ (k : Int) := by omega
  have ha1 : 0 ≤ (k : Int) + 1 := by omega
  have ha2 : (k : Int) + 1 ≤ (m : Int) + 1 := by omega
  have ha3 : ((k : Int) + 1).toNat = k + 1 := by omega
  have ha4 : (k : Int) ≤ c := by omega
  have ha5 : k ≤ c := by omega
  have ha7 : k + 1 ≤ m + 1 := by omega
  have ha8 : (k : Int) + 1 ≤ c := by omega
  clear hNB h hr slT slD rdE
  go_enter Try.func37, Try.ntmps37
  go_wp2_with fail
  have hx := (Blk.new w 39 #[.slice (some ⟨b0, off, none⟩) (m + 1) c, .int .i64 l]).alloc (.cells #[.slice none 0 0, .int .i64 0] 39)
  have hy := Blk.new (w.alloc (.cells #[.slice (some ⟨b0, off, none⟩) (m + 1) c, .int .i64 l] 39)) 39 #[.slice none 0 0, .int .i64 0]
  have hb2 := ((Below.refl w.heap.size w).alloc (Nat.le_refl _) (.cells #[.slice (some ⟨b0, off, none⟩) (m + 1) c, .int .i64 l] 39)).alloc (by simp) (.cells #[.slice none 0 0, .int .i64 0] 39)
  rw [World.size_alloc] at hy
  generalize (w.alloc (.cells #[.slice (some ⟨b0, off, none⟩) (m + 1) c, .int .i64 l] 39)).alloc (.cells #[.slice none 0 0, .int .i64 0] 39) = w2 at *
  have hxl := hx.lt
  have hyl := hy.lt
  have hown3 : (w2.drew.alloc (.cells #[] 31)).ownsRow w2.heap.size 31 4 (.slice (some ⟨w2.heap.size, 0, none⟩) 0 0) 0 [] := World.ownsRow_made w2.drew #[] 0 (Nat.le_refl _) (Nat.zero_le _) rfl
  have hb3 : Below w2.heap.size w2 (w2.drew.alloc (.cells #[] 31)) := (Below.refl w2.heap.size w2).drew.alloc (Nat.le_refl _) _
  have hx0 : w2.cell? ⟨w.heap.size, 0, none⟩ = some (.slice (some ⟨b0, off, none⟩) (m + 1) c) := hx.cell 0
  have hx03 : (w2.drew.alloc (.cells #[] 31)).cell? ⟨w.heap.size, 0, none⟩ = some (.slice (some ⟨b0, off, none⟩) (m + 1) c) := (cells_below hb3 hxl 0).trans hx0
  have H3 := Lib.hid (And.intro hown3 hb3)
  have HB2 := Lib.hid hb2
  have HX := Lib.hid (And.intro hx hy)
  clear hown3 hb3 hb2 hx hy
  go_region_law (first
    | (refine step_append_src rfl (.tmp 5) (.tmp 9) rfl w2.heap.size (.slice (some ⟨w2.heap.size, 0, none⟩) 0 0) 0 [] (by simp [Act.eval, Act.put]) H3.out.1 (some ⟨b0, off, none⟩) k c (ps.take k) (by simp [Act.eval, Act.put]) (NB.out _ (HB2.out.trans (H3.out.2.mono (by omega)))).1 (by omega) (by omega) H3.out.2.size ?_
       intro v12 w12 hown12 hg12 hat12
       obtain ⟨hb12, hk12⟩ := app_keep H3.out.2 H3.out.2.size H3.out.1 hg12 hat12
       have HO12 := Lib.hid (And.intro hown12 hb12)
       have hx012 := (cells_below hb12 hxl 0).trans hx0
       clear hk12 hg12 hat12 hown12 hb12)
    | (refine step_append_src rfl (.tmp 10) (.tmp 15) rfl w2.heap.size v12 (0 + k) ([] ++ (ps.take k).flatMap Pk.enc) (by simp [Act.eval, Act.put]) HO12.out.1 (if c = k + 1 then some ⟨b0, off, none⟩ else some ⟨b0, off + (k + 1) * 4, none⟩) (m - k) (c - (k + 1)) (ps.drop (k + 1)) (by simp [Act.eval, Act.put]) (NB.out _ (HB2.out.trans (HO12.out.2.mono (by omega)))).2.1 (by omega) (by omega) HO12.out.2.size ?_
       intro v13 w13 hown13 hg13 hat13
       obtain ⟨hb13, hk13⟩ := app_keep HO12.out.2 HO12.out.2.size HO12.out.1 hg13 hat13
       have hx013 := (cells_below hb13 hxl 0).trans hx0
       have hxf := (HX.out.1.below hb13 hxl).frozen 0
       have e13 : 0 + k + (m - k) = m := by omega
       have f13 : [] ++ (ps.take k).flatMap Pk.enc ++ (ps.drop (k + 1)).flatMap Pk.enc = (ps.take k ++ ps.drop (k + 1)).flatMap Pk.enc := by rw [List.flatMap_append]; rfl
       rw [e13, f13] at hown13
       clear e13 f13
       obtain ⟨A13, c13, rfl⟩ := slice_of_own hown13
       have HO13 := Lib.hid (And.intro hown13 hb13)
       clear hk13 hg13 hat13 hown13 hb13))
  all_goals
    obtain ⟨hown, hb13⟩ := HO13.out
    obtain ⟨hx, hy⟩ := HX.out
    have gx := (hx.below hb13 hxl).set 0 (.slice A13 m c13)
    have gy := (hy.below hb13 hyl).other ⟨w.heap.size, 0, none⟩ (.slice A13 m c13) (by simp)
    have hbw := HB2.out.trans (hb13.mono (by omega))
    have hbW := hbw.setCell (p := ⟨w.heap.size, 0, none⟩) (Nat.le_refl _) (.slice A13 m c13)
    have hsz : (w13.setCell ⟨w.heap.size, 0, none⟩ (.slice A13 m c13)).heap.size = w13.heap.size := by simp
    have hm13 := own_capv hown
    have kk : ∀ b, (b ≠ w.heap.size) → (w13.setCell ⟨w.heap.size, 0, none⟩ (.slice A13 m c13)).heap[b]? = w13.heap[b]? := fun b hb' => Below.heap_setCell _ _ _ _ hb'
    have sl := (Sl.of_own hown (by rw [List.length_append, List.length_take, List.length_drop, HLEN.out]; omega)).keep (w' := w13.setCell ⟨w.heap.size, 0, none⟩ (.slice A13 m c13)) (ok' := fun b => w.heap.size + 2 ≤ b ∧ b < w13.heap.size) fun b hb' => ⟨⟨by omega, hb'.2.1⟩, kk b (by omega)⟩
    have rd := (NB.out _ hbw).2.2.keep (w' := w13.setCell ⟨w.heap.size, 0, none⟩ (.slice A13 m c13)) (ok' := ok) fun b hb' => ⟨hb', kk b (by have := hok b hb'; omega)⟩
    have hs13 := hb13.size
    generalize w13.setCell ⟨w.heap.size, 0, none⟩ (.slice A13 m c13) = W at *
    have c0 : W.cell? ⟨w.heap.size, 0, none⟩ = some (.slice A13 m c13) := gx.cell 0
    have c1 : W.cell? ⟨w.heap.size, 1, none⟩ = some (.int .i64 l) := gx.cell 1
    have d0 : W.cell? ⟨w.heap.size + 1, 0, none⟩ = some (.slice none 0 0) := gy.cell 0
    have d1 : W.cell? ⟨w.heap.size + 1, 1, none⟩ = some (.int .i64 0) := gy.cell 1
    have e0 := gy.frozen 0
    have e1 := gy.frozen 1
    have HK := Lib.hid (And.intro hbW (And.intro sl rd))
    clear hx hy gx gy hbw hbW kk sl rd hown hb13 hx0 hx03 hx012 hx013 hxf
    go_wp2_with fail
    all_goals
      refine bodyPost_ret (v := .agg #[.slice A13 m c13, .int .i64 l]) (by simp [results, Try.results37, go_sem, d0, d1]) rfl ?_
      obtain ⟨hbW, sl, rd⟩ := HK.out
      have k2 : ∀ b, b ≠ w.heap.size + 1 → ((W.setCell ⟨w.heap.size + 1, 0, none⟩ (.slice A13 m c13)).setCell ⟨w.heap.size + 1, 1, none⟩ (.int .i64 l)).heap[b]? = W.heap[b]? := fun b hb' => (Below.heap_setCell _ _ _ _ hb').trans (Below.heap_setCell _ _ _ _ hb')
      exact ⟨A13, c13, rfl, hm13, (hbW.setCell (by simp) _).setCell (by simp) _, ps.take k ++ ps.drop (k + 1), sl.keep fun b hb' => ⟨.inr ⟨by omega, by simp; omega⟩, k2 b (by omega)⟩, rd.keep fun b hb' => ⟨.inl hb', k2 b (by have := hok b hb'; omega)⟩⟩
end Go.Proofs.Ytledcmcpinjboaa
