/-
Contracts of the specification's functions: Send.
-/
import Derived.Test.YtledcmcpinjboaaR2
namespace Go.Proofs.Ytledcmcpinjboaa
open Go.RowKit
set_option linter.unusedVariables false
set_option linter.unusedSimpArgs false

/-- what the region leaves. -/
def Left31 (w : World) (ok : Nat → Prop) (m : Nat) (l : Int) (qs : List Pkt) (W : World) : Prop :=
  ∃ A' c', Blk W w.heap.size 39 #[.slice A' (m + 1) c', .int .i64 (l + 1)] ∧ Blk W (w.heap.size + 1) 39 #[.slice none 0 0, .int .i64 0] ∧ m + 1 ≤ c' ∧ Below w.heap.size w W ∧
    ∃ ps, Sl W (fun b => ok b ∨ (w.heap.size + 2 ≤ b ∧ b < W.heap.size)) A' (m + 1) ps ∧ Rds W (fun b => ok b ∨ (w.heap.size + 2 ≤ b ∧ b < W.heap.size)) ps qs
theorem left31 {w w2 w14 : World} {ok : Nat → Prop} {m nd c c14 c13 : Nat} {l f t : Int} {A A13 A14 : Option Addr} {bs : List Int} {ps : List Pk} {qs : List Pkt} (hok : ∀ b, ok b → b < w.heap.size) (hb2 : Below w.heap.size w w2)
    (hx : Blk w2 w.heap.size 39 #[.slice A m c, .int .i64 (l + 1)]) (hy : Blk w2 (w.heap.size + 1) 39 #[.slice none 0 0, .int .i64 0])
    (T : Two w2 w14 (.slice A14 (m + 1) c14) (.slice A13 nd c13) (m + 1) nd ((ps ++ [(⟨l + 1, f, t, A13, nd, c13⟩ : Pk)]).flatMap Pk.enc) ([] ++ bs.map (Value.int .u8)))
    (hlen : ps.length = m) (hbl : bs.length = nd) (hnd : nd ≤ 1000) (hr : ∀ W, Below w.heap.size w W → Rds W ok ps qs) : Left31 w ok m l (qs ++ [⟨l + 1, f, t, bs⟩]) (w14.setCell ⟨w.heap.size, 0, none⟩ (.slice A14 (m + 1) c14)) := by
  have hxl := hx.lt
  have hyl := hy.lt
  have hb14 := hb2.trans (T.below.mono (by omega))
  have kk : ∀ b, b ≠ w.heap.size → (w14.setCell ⟨w.heap.size, 0, none⟩ (.slice A14 (m + 1) c14)).heap[b]? = w14.heap[b]? := fun b hb' => Below.heap_setCell _ _ _ _ hb'
  have hsz : (w14.setCell ⟨w.heap.size, 0, none⟩ (.slice A14 (m + 1) c14)).heap.size = w14.heap.size := by simp
  have hs := T.below.size
  refine ⟨A14, c14, (hx.below T.below hxl).set 0 _, (hy.below T.below hyl).other _ _ (by simp), own_capv T.own, hb14.setCell (Nat.le_refl _) _, ps ++ [⟨l + 1, f, t, A13, nd, c13⟩],
    (Sl.of_own T.own (by simp [hlen])).keep fun b hb' => ⟨.inr ⟨by omega, by rw [hsz]; exact hb'.2.1⟩, kk b (by omega)⟩, ?_⟩
  refine Rds.snoc ((hr _ hb14).keep fun b hb' => ⟨.inl hb', kk b (by have := hok b hb'; omega)⟩) ⟨rfl, rfl, rfl, ?_, hnd⟩
  exact (Byts.of_own (by simpa using T.ownb) hbl).keep fun b hb' => ⟨.inr ⟨by omega, by rw [hsz]; exact hb'.2.1⟩, kk b (by omega)⟩

set_option maxHeartbeats 4000000 in
theorem refSend31 (ok okd : Nat → Prop) (A Ad : Option Addr) (m c nd cd : Nat) (l f t : Int) (bs : List Int) (ps : List Pk) (qs : List Pkt) (w : World) (h : Sl w ok A m ps) (hr : Rds w ok ps qs) (hd : Byts w okd Ad nd bs) (hok : ∀ b, ok b → b < w.heap.size) (hokd : ∀ b, okd b → b < w.heap.size) (hm : m ≤ 1000) (hnd : nd ≤ 1000) (hl0 : 0 ≤ l) (hl1 : l ≤ 1000) :
    Calls Try.prog 31 #[.agg #[.slice A m c, .int .i64 l], .int .i64 f, .int .i64 t, .slice Ad nd cd] w fun e w' => ∃ A' c', e = .returned (.tuple #[.agg #[.slice A' (m + 1) c', .int .i64 (l + 1)], .int .i64 (l + 1)]) ∧ RefN w w' ok A' (m + 1) c' (qs ++ [⟨l + 1, f, t, bs⟩]) := by
  have hw1 : IntKind.i64.wrap (l + 1) = l + 1 := by rw [IntKind.wrap_i64]; omega
  have hNB : ∀ W, Below w.heap.size w W → Sl W ok A m ps ∧ Rds W ok ps qs ∧ Byts W okd Ad nd bs := fun W hW =>
    ⟨h.keep fun b hb' => ⟨hb', hW.block b (hok b hb')⟩, hr.keep fun b hb' => ⟨hb', hW.block b (hok b hb')⟩, hd.keep fun b hb' => ⟨hb', hW.block b (hokd b hb')⟩⟩
  have NB := Lib.hid hNB
  have HLEN := Lib.hid (And.intro h.1 hd.1)
  clear hNB h hr hd
  go_enter Try.func31, Try.ntmps31
  go_upto_region 2 with (fail)
  have hx := (Blk.new w 39 #[.slice A m c, .int .i64 (l + 1)]).alloc (.cells #[.slice none 0 0, .int .i64 0] 39)
  have hy := Blk.new (w.alloc (.cells #[.slice A m c, .int .i64 (l + 1)] 39)) 39 #[.slice none 0 0, .int .i64 0]
  have hb2 := ((Below.refl w.heap.size w).alloc (Nat.le_refl _) (.cells #[.slice A m c, .int .i64 (l + 1)] 39)).alloc (by simp) (.cells #[.slice none 0 0, .int .i64 0] 39)
  rw [World.size_alloc] at hy
  generalize (w.alloc (.cells #[.slice A m c, .int .i64 (l + 1)] 39)).alloc (.cells #[.slice none 0 0, .int .i64 0] 39) = w2 at *
  have hxl := hx.lt
  have hyl := hy.lt
  go_cut [] (fun W => Left31 w ok m l (qs ++ [⟨l + 1, f, t, bs⟩]) W)
  case first =>
    have hbP : Below w2.heap.size w2 (w2.drew.alloc (.cells #[] 31)) := (Below.refl w2.heap.size w2).drew.alloc (Nat.le_refl _) _
    have hbB : Below w2.heap.size w2 (w2.drew.alloc (.cells #[] 5)) := (Below.refl w2.heap.size w2).drew.alloc (Nat.le_refl _) _
    have oP : (w2.drew.alloc (.cells #[] 31)).ownsRow w2.heap.size 31 4 (.slice (some ⟨w2.heap.size, 0, none⟩) 0 0) 0 [] := World.ownsRow_made w2.drew #[] 0 (Nat.le_refl _) (Nat.zero_le _) rfl
    have oB : (w2.drew.alloc (.cells #[] 5)).ownsRow w2.heap.size 5 1 (.slice (some ⟨w2.heap.size, 0, none⟩) 0 0) 0 [] := World.ownsRow_made w2.drew #[] 0 (Nat.le_refl _) (Nat.zero_le _) rfl
    have oPB := World.ownsRow_made (base := w2.heap.size) (e := 5) (size := 1) (w2.drew.alloc (.cells #[] 31)) #[] 0 hbP.size (Nat.zero_le _) rfl
    have oBP := World.ownsRow_made (base := w2.heap.size) (e := 31) (size := 4) (w2.drew.alloc (.cells #[] 5)) #[] 0 hbB.size (Nat.zero_le _) rfl
    have sP : (w2.drew.alloc (.cells #[] 31)).heap.size = w2.heap.size + 1 := by simp
    have sB : (w2.drew.alloc (.cells #[] 5)).heap.size = w2.heap.size + 1 := by simp
    rw [sP] at oPB
    rw [sB] at oBP
    have T1 : Two w2 ((w2.drew.alloc (.cells #[] 31)).alloc (.cells #[] 5)) (.slice (some ⟨w2.heap.size, 0, none⟩) 0 0) (.slice (some ⟨w2.heap.size + 1, 0, none⟩) 0 0) 0 0 [] [] :=
      ⟨hbP.alloc hbP.size _, oP.alloc _, oPB, fun g hg => by simp [Value.ownBlock] at hg ⊢; omega⟩
    have T2 : Two w2 ((w2.drew.alloc (.cells #[] 5)).alloc (.cells #[] 31)) (.slice (some ⟨w2.heap.size + 1, 0, none⟩) 0 0) (.slice (some ⟨w2.heap.size, 0, none⟩) 0 0) 0 0 [] [] :=
      ⟨hbB.alloc hbB.size _, oBP, oB.alloc _, fun g hg => by simp [Value.ownBlock] at hg ⊢; omega⟩
    have hx0 : w2.cell? ⟨w.heap.size, 0, none⟩ = some (.slice A m c) := hx.cell 0
    have hx1 : w2.cell? ⟨w.heap.size, 1, none⟩ = some (.int .i64 (l + 1)) := hx.cell 1
    have p0 := (cells_below hbP hxl 0).trans hx0
    have p1 := (cells_below hbP hxl 1).trans hx1
    have q0 := (cells_below hbB hxl 0).trans hx0
    have q1 := (cells_below hbB hxl 1).trans hx1
    have r0 := (cells_below T1.below hxl 0).trans hx0
    have r1 := (cells_below T1.below hxl 1).trans hx1
    have s0 := (cells_below T2.below hxl 0).trans hx0
    have s1 := (cells_below T2.below hxl 1).trans hx1
    have H1 := Lib.hid T1
    have H2 := Lib.hid T2
    have H3 := Lib.hid (And.intro oP hbP)
    have HB2 := Lib.hid hb2
    have HX := Lib.hid (And.intro hx hy)
    clear T1 T2 oP oB oPB oBP hbP hbB hb2 hx hy sP sB
    go_region_law (first
      | (refine step_append_src rfl (.tmp 14) (.tmp 16) rfl w2.heap.size _ 0 [] (by simp [Act.eval, Act.put]) H1.out.own A m c ps (by simp [Act.eval, Act.put]) (NB.out _ (HB2.out.trans (H1.out.below.mono (by omega)))).1 (by omega) (by omega) H1.out.below.size ?_
         intro v12 w12 hown12 hg12 hat12
         have T := H1.out.app hown12 hg12 hat12
         clear p0 p1 q0 q1 r0 r1 s0 s1 H1 H2 H3
         have t0 := (cells_below T.below hxl 0).trans hx0
         have t1 := (cells_below T.below hxl 1).trans hx1
         have HT := Lib.hid T
         clear hown12 hg12 hat12 T)
      | (refine step_append_src rfl (.tmp 14) (.tmp 16) rfl w2.heap.size _ 0 [] (by simp [Act.eval, Act.put]) H2.out.own A m c ps (by simp [Act.eval, Act.put]) (NB.out _ (HB2.out.trans (H2.out.below.mono (by omega)))).1 (by omega) (by omega) H2.out.below.size ?_
         intro v12 w12 hown12 hg12 hat12
         have T := H2.out.app hown12 hg12 hat12
         clear p0 p1 q0 q1 r0 r1 s0 s1 H1 H2 H3
         have t0 := (cells_below T.below hxl 0).trans hx0
         have t1 := (cells_below T.below hxl 1).trans hx1
         have HT := Lib.hid T
         clear hown12 hg12 hat12 T)
      | (refine step_append_src rfl (.tmp 14) (.tmp 16) rfl w2.heap.size _ 0 [] (by simp [Act.eval, Act.put]) H3.out.1 A m c ps (by simp [Act.eval, Act.put]) (NB.out _ (HB2.out.trans (H3.out.2.mono (by omega)))).1 (by omega) (by omega) H3.out.2.size ?_
         intro v12 w12 hown12 hg12 hat12
         obtain ⟨hb12, hk12⟩ := app_keep H3.out.2 H3.out.2.size H3.out.1 hg12 hat12
         have T : Two w2 (w12.alloc (.cells #[] 5)) v12 (.slice (some ⟨w12.heap.size, 0, none⟩) 0 0) (0 + m) 0 ([] ++ ps.flatMap Pk.enc) [] := ⟨hb12.alloc hb12.size _, hown12.alloc _, World.ownsRow_made w12 #[] 0 hb12.size (Nat.zero_le _) rfl, fun g hg => by have := (hown12.lt g hg).2; simp [Value.ownBlock]; omega⟩
         clear p0 p1 q0 q1 r0 r1 s0 s1 H1 H2 H3
         have u0 := (cells_below hb12 hxl 0).trans hx0
         have u1 := (cells_below hb12 hxl 1).trans hx1
         have t0 := (cells_below T.below hxl 0).trans hx0
         have t1 := (cells_below T.below hxl 1).trans hx1
         have HT := Lib.hid T
         clear hown12 hg12 hat12 T hb12 hk12)
      | (refine step_append_byts rfl (.tmp 22) (.tmp 23) rfl w2.heap.size _ 0 [] (by simp [Act.eval, Act.put]) HT.out.ownb Ad nd cd bs (by simp [Act.eval, Act.put]) (NB.out _ (HB2.out.trans (HT.out.below.mono (by omega)))).2.2 (by omega) (by omega) HT.out.below.size ?_
         intro v13 w13 hown13 hg13 hat13
         rw [Nat.zero_add] at hown13
         obtain ⟨A13, c13, rfl⟩ := slice_of_own hown13
         have T := HT.out.appb hown13 hg13 hat13
         clear t0 t1
         have y0 := (cells_below T.below hxl 0).trans hx0
         have y1 := (cells_below T.below hxl 1).trans hx1
         have HU := Lib.hid (T.alloc (.cells #[.int .i64 (l + 1), .int .i64 f, .int .i64 t, .slice A13 nd c13] 31))
         clear hown13 hg13 hat13 T HT)
      | (refine step_append_src rfl (.tmp 17) (.tmp 26) rfl w2.heap.size _ _ _ (by simp [Act.eval, Act.put]) HU.out.own (some ⟨w13.heap.size, 0, none⟩) 1 1 [⟨l + 1, f, t, A13, nd, c13⟩] (by simp [Act.eval, Act.put]) (Sl.one w13 ⟨l + 1, f, t, A13, nd, c13⟩) (by omega) (by omega) HU.out.below.size ?_
         intro v14 w14 hown14 hg14 hat14
         have e14 : 0 + m + 1 = m + 1 := by omega
         have f14 : [] ++ ps.flatMap Pk.enc ++ [(⟨l + 1, f, t, A13, nd, c13⟩ : Pk)].flatMap Pk.enc = (ps ++ [(⟨l + 1, f, t, A13, nd, c13⟩ : Pk)]).flatMap Pk.enc := by rw [List.flatMap_append]; rfl
         rw [e14, f14] at hown14
         clear e14 f14
         obtain ⟨A14, c14, rfl⟩ := slice_of_own hown14
         have T := HU.out.app hown14 hg14 hat14
         clear y0 y1
         have z0 := (cells_below T.below hxl 0).trans hx0
         have hxf := (HX.out.1.below T.below hxl).frozen 0
         have HV := Lib.hid T
         clear hown14 hg14 hat14 T HU))
    all_goals
      go_wp2_with fail
      go_meet
      exact left31 hok HB2.out HX.out.1 HX.out.2 HV.out HLEN.out.1 HLEN.out.2 hnd (fun W hW => (NB.out W hW).2.1)
  case rest =>
    obtain ⟨A', c', bx, by', hc', hbW, ps', sl, rd⟩ := hcut
    have x0 : wc.cell? ⟨w.heap.size, 0, none⟩ = some (.slice A' (m + 1) c') := bx.cell 0
    have x1 : wc.cell? ⟨w.heap.size, 1, none⟩ = some (.int .i64 (l + 1)) := bx.cell 1
    have d0 : wc.cell? ⟨w.heap.size + 1, 0, none⟩ = some (.slice none 0 0) := by'.cell 0
    have d1 : wc.cell? ⟨w.heap.size + 1, 1, none⟩ = some (.int .i64 0) := by'.cell 1
    have e0 := by'.frozen 0
    have e1 := by'.frozen 1
    have HK := Lib.hid (And.intro hbW (And.intro sl rd))
    clear sl rd bx by' hbW
    go_wp2_with fail
    go_region_law (fail)
    all_goals
      go_wp2_with fail
      refine bodyPost_ret (v := .tuple #[.agg #[.slice A' (m + 1) c', .int .i64 (l + 1)], .int .i64 (l + 1)]) (by simp [results, Try.results31, go_sem, d0, d1]) rfl ?_
      obtain ⟨hbW, sl, rd⟩ := HK.out
      have k2 : ∀ b, b ≠ w.heap.size + 1 → ((wc.drew.setCell ⟨w.heap.size + 1, 0, none⟩ (.slice A' (m + 1) c')).setCell ⟨w.heap.size + 1, 1, none⟩ (.int .i64 (l + 1))).heap[b]? = wc.heap[b]? := fun b hb' => (Below.heap_setCell _ _ _ _ hb').trans (Below.heap_setCell _ _ _ _ hb')
      have k3 : ∀ b, (ok b ∨ w.heap.size + 2 ≤ b ∧ b < wc.heap.size) → Gets w ((wc.drew.setCell ⟨w.heap.size + 1, 0, none⟩ (.slice A' (m + 1) c')).setCell ⟨w.heap.size + 1, 1, none⟩ (.int .i64 (l + 1))) ok b ∧ ((wc.drew.setCell ⟨w.heap.size + 1, 0, none⟩ (.slice A' (m + 1) c')).setCell ⟨w.heap.size + 1, 1, none⟩ (.int .i64 (l + 1))).heap[b]? = wc.heap[b]? := fun b hb' => by
        rcases hb' with h | h
        · exact ⟨.inl h, k2 b (by have := hok b h; omega)⟩
        · exact ⟨.inr ⟨by omega, by simp; omega⟩, k2 b (by omega)⟩
      exact ⟨A', c', rfl, hc', (hbW.drew.setCell (by simp) _).setCell (by simp) _, ps', sl.keep k3, rd.keep k3⟩
end Go.Proofs.Ytledcmcpinjboaa
