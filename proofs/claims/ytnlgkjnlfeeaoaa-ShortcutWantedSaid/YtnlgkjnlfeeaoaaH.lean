/-
shortcut.Wanted and shortcut.Targets: what they return, for all entries.
-/
import Derived.Test.YtnlgkjnlfeeaoaaG
import Derived.WalkKit
import Derived.WalkSpells
import Derived.WalkLawsBesides
import Derived.Lib.Hide
import Derived.Deep.QuietTactic
import Derived.BigQuiet
import Derived.RangeFuncNested
import Derived.RangeFuncBound
import Derived.RangeFuncCalls
import Derived.RangeFuncLeaves
import Derived.Shelf.Abstract
import Derived.Shelf.RegionOpen
import Derived.OwnWalkIn
import Derived.TacticsInMore
import Derived.LoopNIn
import Derived.LoopIn
import Derived.Maps.OwnIn
import Derived.Maps.AppendAt
namespace Go.Proofs.Ytnlgkjnlfeeaoaa
open Go.RowKit Go.Shelf
attribute [local go_sem] Oper.semAt_some

theorem Keeps.tr {n0 Bs Bt : Nat} {X Y Z : World} (h : Keeps n0 Bs Bt X Y) (k : Keeps n0 Bs Bt Y Z) : Keeps n0 Bs Bt X Z :=
  ⟨h.below.trans k.below, k.s.trans h.s, k.t.trans h.t, h.walks.trans k.walks⟩
theorem keeps_b {n0 Bs Bt : Nat} {w : World} (hn : n0 ≤ w.heap.size) (hs : Bs < w.heap.size) (ht : Bt < w.heap.size) (W : World) (l : Nat) (o o' : Obj) (hl : w.heap.size ≤ l) (h : W.heap[l]? = some o) (ho : o.isCells = false) (hw : o.isWalk = false) : Keeps n0 Bs Bt W (W.putObj l o') :=
  ⟨belowK_b hn W l o o' hl h ho hw, World.putObj_heap_other (by omega), World.putObj_heap_other (by omega), walksK_b W l o o' hl h ho hw⟩
theorem Blk.ownFrom {W W' : World} {g : Nat} {t : TypeId} {cs : Array Value} {B : Nat} {row : Option Nat} (h : Blk W g t cs) (hg : W.grownBy W' row) (hr : ∀ r, row = some r → B ≤ r ∧ ∃ o : Obj, W.heap[r]? = some o ∧ o.isCells = false) : Blk W' g t cs :=
  h.grown hg (fun e => by
    obtain ⟨_, o, ho, hc⟩ := hr g e.symm
    rw [show W.heap[g]? = _ from h] at ho; cases ho; cases hc)

set_option maxHeartbeats 400000 in
theorem wanted22 (A A2 : Option Addr) (n n2 cp cp2 : Nat) (w : World) :
    Calls Try.prog 22 #[.slice A n cp, .slice A2 n2 cp2] w fun e w' => e = .returned (.func (.func 28) #[] #[.pointer (some ⟨w.heap.size, 0, none⟩), .pointer (some ⟨w.heap.size + 1, 0, none⟩)]) ∧ (w.alloc (.cells #[.slice A n cp] 22)).alloc (.cells #[.slice A2 n2 cp2] 23) = w' := by
  have hq1 := eql31
  have hq2 := eql32
  have hq3 := neq31
  have hq4 := neq32
  go_enter Try.func22, Try.ntmps22
  go_wp2
  go_ret
  exact ⟨rfl, rfl⟩

def encT (z : Ent × Ent) : List Value := [.int .i64 z.2.a]
def encM (z : Ent × Ent) : List Value := [.int .i64 6, .int .u64 z.2.n, .int .i64 z.1.a, .string ⟨#[]⟩, .int .i64 0, .int .i64 0, .int .i64 0, .int .u64 0, .int .i64 0, .int .i64 0, .int .i64 0, .bool false, .int .i64 0, .int .i64 0, .string ⟨#[]⟩, .slice none 0 0, .int .u64 0, .int .i64 0, .int .i64 0, .int .i64 0, .int .i64 0, .slice none 0 0, .slice none 0 0, .slice none 0 0, .int .i64 0, .int .i64 0, .int .i64 0, .int .i64 0, .int .u64 0, .int .i64 0, .bool false, .bool false, .int .i64 0, .slice none 0 0, .int .i64 0, .int .i64 0, .slice none 0 0, .slice none 0 0, .slice none 0 0]

theorem info3 : (Try.prog.info? 3).map (fun i => (i.zero, i.size, i.bytes)) = some (some (.int .i64 0), 1, 8) := by kernel_rfl
set_option maxRecDepth 100000 in
set_option maxHeartbeats 2000000 in
theorem targets16 (A A2 : Option Addr) (n n2 cp cp2 : Nat) (es ss : List Ent) (w : World) (hn : n ≤ 1000000) (hn2 : n2 ≤ 1000000) (he : Ents w w.heap.size A n es) (hee : Ents w w.heap.size A2 n2 ss) :
    Calls Try.prog 16 #[.slice A n cp, .slice A2 n2 cp2] w fun e W' => ∃ v, e = .returned v ∧ W'.ownsRow w.heap.size 3 1 v (chosen es ss).length (((chosen es ss).map (pair ss)).flatMap encT) ∧ Below w.heap.size w W' := by
  obtain ⟨i0, hi, hz0, hz1, hz2⟩ := info_parts info3
  refine (callsIn_wide (n := 5)).1 ?_
  refine callsIn_of_wp_marks Try.func16 rfl trivial ?_ rfl
  simp only [Try.ntmps16, List.size_toArray, List.length_cons, List.length_nil, Nat.reduceAdd, Nat.reduceSub, Array.replicate_succ, Array.replicate_zero, List.push_toArray, List.append_toArray, List.nil_append, List.cons_append]
  gi_wp2_with fail
  refine ⟨trivial, ?_⟩
  refine (callsIn_wide.2 (wanted22 _ _ _ _ _ _ _)).mono ?_
  rintro v w1 ⟨rfl, rfl⟩
  gi_wp2_with fail
  have b0 := Blk.new w 56 #[.slice none 0 0]
  have b1 := Blk.new (w.alloc (.cells #[.slice none 0 0] 56)) 22 #[.slice A n cp]
  have b2 := Blk.new ((w.alloc (.cells #[.slice none 0 0] 56)).alloc (.cells #[.slice A n cp] 22)) 23 #[.slice A2 n2 cp2]
  have hB0 : Below w.heap.size w (((w.alloc (.cells #[.slice none 0 0] 56)).alloc (.cells #[.slice A n cp] 22)).alloc (.cells #[.slice A2 n2 cp2] 23)) := (((Below.refl _ w).alloc (Nat.le_refl _) _).alloc (by simp) _).alloc (by simp; omega) _
  rw [World.size_alloc] at b1
  rw [World.size_alloc, World.size_alloc] at b2
  refine wpIn_rangeFunc_ownH rfl (by omega) (gf := 28) (lb := #[.pointer (some ⟨w.heap.size + 1, 0, none⟩), .pointer (some ⟨w.heap.size + 2, 0, none⟩)]) rfl trivial (enters_of Try.func28 (by kernel_rfl) rfl)
    (iter28 w.heap.size (w.heap.size + 1) (w.heap.size + 2) A A2 n n2 cp cp2 _ es ss _ hn hn2 (by simp; omega) (b1.alloc _) b2 (he.below hB0) (hee.below hB0)) Keeps.tr (keeps_b (by simp; omega) (by simp) (by simp)) (Below.refl _ _) (fun _ => rfl)
    (fun pre W => (∃ v, Boxed W w.heap.size 56 v ∧ W.ownsRow w.heap.size 3 1 v pre.length (pre.flatMap encT) ∧ True) ∧ Blk W (w.heap.size + 1) 22 #[.slice A n cp] ∧ Blk W (w.heap.size + 2) 23 #[.slice A2 n2 cp2] ∧ Below w.heap.size w W)
    (fun _ _ _ => False)
    (OwnFrom.and (Own.from (holdsRow_own w.heap.size w.heap.size 56 3 1 (fun pre : List (Ent × Ent) => pre.length) (fun pre => pre.flatMap encT) (fun _ _ => True)) _)
      (OwnFrom.and (fun _ _ _ _ hs hg hr => Blk.ownFrom hs hg hr) (OwnFrom.and (fun _ _ _ _ hs hg hr => Blk.ownFrom hs hg hr) (ownFrom_below (Nat.le_refl _) (by simp; omega)))))
    (fun _ _ _ _ _ hs _ _ => hs)
    ⟨⟨_, (b0.alloc _).alloc _, World.ownsRow_nil _ _ _ _, trivial⟩, b1.alloc _, b2, hB0⟩
    (fun x a' W => ∃ By, Blk W By 36 #[.int .i64 x.2.a, .int .u64 x.2.n, .int .i64 x.2.m, .int .i64 x.2.s, .int .i64 x.2.x, .int .i64 x.2.y, .int .i64 x.2.d, .bool x.2.t, .bool x.2.w, .bool x.2.g, .int .i64 x.2.p, .int .i64 x.2.q] ∧ a' = { tmps := #[.slice A n cp, .slice A2 n2 cp2, undef, undef, .slice none 0 0, .pointer (some ⟨w.heap.size, 0, none⟩), undef, .pointer (some ⟨By, 0, none⟩), .slice A n cp, .slice A2 n2 cp2, .func (.func 28) #[] #[.pointer (some ⟨w.heap.size + 1, 0, none⟩), .pointer (some ⟨w.heap.size + 2, 0, none⟩)], .agg #[.int .i64 x.1.a, .int .u64 x.1.n, .int .i64 x.1.m, .int .i64 x.1.s, .int .i64 x.1.x, .int .i64 x.1.y, .int .i64 x.1.d, .bool x.1.t, .bool x.1.w, .bool x.1.g, .int .i64 x.1.p, .int .i64 x.1.q], .agg #[.int .i64 x.2.a, .int .u64 x.2.n, .int .i64 x.2.m, .int .i64 x.2.s, .int .i64 x.2.x, .int .i64 x.2.y, .int .i64 x.2.d, .bool x.2.t, .bool x.2.w, .bool x.2.g, .int .i64 x.2.p, .int .i64 x.2.q], undef, undef, undef, undef, undef, undef], defers := [] })
    (fun x a' _ X Y row hs hg hr => by
      obtain ⟨By, hy, rfl⟩ := hs
      exact ⟨By, hy.ownFrom hg hr, rfl⟩) ?assign ?body ?done ?stop
  case assign =>
    rintro l pre x W K ⟨⟨v, hv, hrow, _⟩, h1, h2, hB⟩ hK
    dsimp only [encs2]
    gi_wp2_with fail
    exact hK _ _ ((KeepsOthers.alloc _ _).from _) ⟨(Below.refl _ _).alloc hB.size _, Below.heap_alloc _ _ _ h1.lt, Below.heap_alloc _ _ _ h2.lt, KeepsWalks.alloc _ _⟩ ⟨⟨v, hv.alloc _, hrow.alloc _, trivial⟩, h1.alloc _, h2.alloc _, hB.alloc hB.size _⟩ ⟨_, Blk.new _ _ _, rfl⟩
  case body =>
    rintro l pre x a' W hl ⟨r, hr⟩ ⟨⟨v, hv, hrow, _⟩, h1, h2, hB⟩ ⟨By, hy, rfl⟩ hlt
    have hc := hv.cell
    have z0 : W.cell? ⟨By, 0, none⟩ = some (.int .i64 x.2.a) := hy.cell 0
    have hsz := hB.size
    obtain ⟨Ao, co, rfl⟩ := slice_of_own hrow
    clear hr hl
    gi_wp2_with (gi_at_builtin; refine wpListIn_append_own _ rfl _ _ 56 rfl w.heap.size 3 i0 _ 1 8 Try.underlying56 hi hz0 hz1 hz2 rfl (by decide) _ _ _ rfl (hrow.alloc _) ⟨W.heap.size, 0, none⟩ 1 1 (encT x) rfl rfl ?d1 ?d2 ?d3 ?d4 ?d5 ?_)
    case d1 => intro j u hu; rw [show ((⟨W.heap.size, 0, none⟩ : Addr).add j) = ⟨W.heap.size, j, none⟩ from by unfold Addr.add; split <;> simp_all, (Blk.new W 3 _).cell j]; simpa [encT] using hu
    case d2 => simp [encT, Value.oneCell']
    case d3 => unfold maxLen; omega
    case d4 => omega
    case d5 => simp; omega
    intro v' w1 hown' hgrow _
    obtain ⟨g', cap', rfl⟩ := ownsRow_succ hown'
    have h1' : Blk w1 (w.heap.size + 1) 22 #[.slice A n cp] := (h1.alloc _).grown hgrow (Boxed.not_row (W := W) h1 (by decide) hrow)
    have h2' : Blk w1 (w.heap.size + 2) 23 #[.slice A2 n2 cp2] := (h2.alloc _).grown hgrow (Boxed.not_row (W := W) h2 (by decide) hrow)
    obtain ⟨hv1, hv2, hr2, hk2, hb2⟩ := hv.appended (by decide) hrow hB.size (Nat.le_refl _) hown' hgrow
    have hc1 := hv1.cell
    have hf1 := hv1.frozen
    clear hc
    gi_wp2_with fail
    have e1 := Below.heap_setCell w1 ⟨w.heap.size, 0, none⟩ (.slice (some ⟨g', 0, none⟩) (pre.length + 1) cap') (w.heap.size + 1) (by simp)
    have e2 := Below.heap_setCell w1 ⟨w.heap.size, 0, none⟩ (.slice (some ⟨g', 0, none⟩) (pre.length + 1) cap') (w.heap.size + 2) (by simp)
    refine ⟨hk2.from _, ⟨hb2, (e1.trans h1').trans h1.symm, (e2.trans h2').trans h2.symm, hk2.size, fun k o h hw => hk2.same k o h (Obj.not_cells_of_walk hw)⟩, ⟨⟨_, hv2, ?_, trivial⟩, e1.trans h1', e2.trans h2', hB.trans hb2⟩⟩
    rw [List.length_append, List.flatMap_append]; simpa using hr2
  case done =>
    rintro D ys W hD rfl ⟨⟨v, hv, hrow, _⟩, _, _, hB⟩ hK
    have hc := hv.cell
    rw [List.length_map] at hrow
    obtain ⟨Ao, co, rfl⟩ := slice_of_own hrow
    gi_wp2_with fail
    refine ⟨by simp, .inl ⟨_, _, rfl, run_takeDeferred hK, ?_⟩⟩
    exact ⟨_, results_tmp rfl _ _ _, _, rfl, ownsRow_putObj hrow _ hK rfl, hB.trans (belowK_b (w := w) (Nat.le_refl _) W D _ _ (by simp at hD; omega) hK rfl rfl)⟩
  case stop =>
    rintro D c pre W _ _ h _
    exact h.elim

theorem info54 : (Try.prog.info? 54).map (fun i => (i.zero, i.size, i.bytes)) = some (some (.agg #[.int .i64 0, .int .u64 0, .int .i64 0, .string ⟨#[]⟩, .int .i64 0, .int .i64 0, .int .i64 0, .int .u64 0, .int .i64 0, .int .i64 0, .int .i64 0, .bool false, .int .i64 0, .int .i64 0, .string ⟨#[]⟩, .slice none 0 0, .int .u64 0, .int .i64 0, .int .i64 0, .int .i64 0, .int .i64 0, .slice none 0 0, .slice none 0 0, .slice none 0 0, .int .i64 0, .int .i64 0, .int .i64 0, .int .i64 0, .int .u64 0, .int .i64 0, .bool false, .bool false, .int .i64 0, .slice none 0 0, .int .i64 0, .int .i64 0, .slice none 0 0, .slice none 0 0, .slice none 0 0]), 39, 448) := by kernel_rfl
set_option maxRecDepth 100000 in
set_option maxHeartbeats 2000000 in
theorem wanted12 (A A2 : Option Addr) (n n2 cp cp2 : Nat) (es ss : List Ent) (w : World) (hn : n ≤ 1000000) (hn2 : n2 ≤ 1000000) (he : Ents w w.heap.size A n es) (hee : Ents w w.heap.size A2 n2 ss) :
    Calls Try.prog 12 #[.slice A n cp, .slice A2 n2 cp2] w fun e W' => ∃ v, e = .returned v ∧ W'.ownsRow w.heap.size 54 39 v (chosen es ss).length (((chosen es ss).map (pair ss)).flatMap encM) ∧ Below w.heap.size w W' := by
  obtain ⟨i0, hi, hz0, hz1, hz2⟩ := info_parts info54
  refine (callsIn_wide (n := 5)).1 ?_
  refine callsIn_of_wp_marks Try.func12 rfl trivial ?_ rfl
  simp only [Try.ntmps12, List.size_toArray, List.length_cons, List.length_nil, Nat.reduceAdd, Nat.reduceSub, Array.replicate_succ, Array.replicate_zero, List.push_toArray, List.append_toArray, List.nil_append, List.cons_append]
  gi_wp2_with fail
  refine ⟨trivial, ?_⟩
  refine (callsIn_wide.2 (wanted22 _ _ _ _ _ _ _)).mono ?_
  rintro v w1 ⟨rfl, rfl⟩
  gi_wp2_with fail
  have b0 := Blk.new w 26 #[.slice none 0 0]
  have b1 := Blk.new (w.alloc (.cells #[.slice none 0 0] 26)) 22 #[.slice A n cp]
  have b2 := Blk.new ((w.alloc (.cells #[.slice none 0 0] 26)).alloc (.cells #[.slice A n cp] 22)) 23 #[.slice A2 n2 cp2]
  have hB0 : Below w.heap.size w (((w.alloc (.cells #[.slice none 0 0] 26)).alloc (.cells #[.slice A n cp] 22)).alloc (.cells #[.slice A2 n2 cp2] 23)) := (((Below.refl _ w).alloc (Nat.le_refl _) _).alloc (by simp) _).alloc (by simp; omega) _
  rw [World.size_alloc] at b1
  rw [World.size_alloc, World.size_alloc] at b2
  refine wpIn_rangeFunc_ownH rfl (by omega) (gf := 28) (lb := #[.pointer (some ⟨w.heap.size + 1, 0, none⟩), .pointer (some ⟨w.heap.size + 2, 0, none⟩)]) rfl trivial (enters_of Try.func28 (by kernel_rfl) rfl)
    (iter28 w.heap.size (w.heap.size + 1) (w.heap.size + 2) A A2 n n2 cp cp2 _ es ss _ hn hn2 (by simp; omega) (b1.alloc _) b2 (he.below hB0) (hee.below hB0)) Keeps.tr (keeps_b (by simp; omega) (by simp) (by simp)) (Below.refl _ _) (fun _ => rfl)
    (fun pre W => (∃ v, Boxed W w.heap.size 26 v ∧ W.ownsRow w.heap.size 54 39 v pre.length (pre.flatMap encM) ∧ True) ∧ Blk W (w.heap.size + 1) 22 #[.slice A n cp] ∧ Blk W (w.heap.size + 2) 23 #[.slice A2 n2 cp2] ∧ Below w.heap.size w W)
    (fun _ _ _ => False)
    (OwnFrom.and (Own.from (holdsRow_own w.heap.size w.heap.size 26 54 39 (fun pre : List (Ent × Ent) => pre.length) (fun pre => pre.flatMap encM) (fun _ _ => True)) _)
      (OwnFrom.and (fun _ _ _ _ hs hg hr => Blk.ownFrom hs hg hr) (OwnFrom.and (fun _ _ _ _ hs hg hr => Blk.ownFrom hs hg hr) (ownFrom_below (Nat.le_refl _) (by simp; omega)))))
    (fun _ _ _ _ _ hs _ _ => hs)
    ⟨⟨_, (b0.alloc _).alloc _, World.ownsRow_nil _ _ _ _, trivial⟩, b1.alloc _, b2, hB0⟩
    (fun x a' W => ∃ Bx By, Blk W Bx 34 #[.int .i64 x.1.a, .int .u64 x.1.n, .int .i64 x.1.m, .int .i64 x.1.s, .int .i64 x.1.x, .int .i64 x.1.y, .int .i64 x.1.d, .bool x.1.t, .bool x.1.w, .bool x.1.g, .int .i64 x.1.p, .int .i64 x.1.q] ∧ Blk W By 36 #[.int .i64 x.2.a, .int .u64 x.2.n, .int .i64 x.2.m, .int .i64 x.2.s, .int .i64 x.2.x, .int .i64 x.2.y, .int .i64 x.2.d, .bool x.2.t, .bool x.2.w, .bool x.2.g, .int .i64 x.2.p, .int .i64 x.2.q] ∧ a' = { tmps := #[.slice A n cp, .slice A2 n2 cp2, undef, undef, .slice none 0 0, .pointer (some ⟨w.heap.size, 0, none⟩), .pointer (some ⟨Bx, 0, none⟩), .pointer (some ⟨By, 0, none⟩), .slice A n cp, .slice A2 n2 cp2, .func (.func 28) #[] #[.pointer (some ⟨w.heap.size + 1, 0, none⟩), .pointer (some ⟨w.heap.size + 2, 0, none⟩)], .agg #[.int .i64 x.1.a, .int .u64 x.1.n, .int .i64 x.1.m, .int .i64 x.1.s, .int .i64 x.1.x, .int .i64 x.1.y, .int .i64 x.1.d, .bool x.1.t, .bool x.1.w, .bool x.1.g, .int .i64 x.1.p, .int .i64 x.1.q], .agg #[.int .i64 x.2.a, .int .u64 x.2.n, .int .i64 x.2.m, .int .i64 x.2.s, .int .i64 x.2.x, .int .i64 x.2.y, .int .i64 x.2.d, .bool x.2.t, .bool x.2.w, .bool x.2.g, .int .i64 x.2.p, .int .i64 x.2.q], undef, undef, undef, undef, undef, undef, undef, undef, undef], defers := [] })
    (fun x a' _ X Y row hs hg hr => by
      obtain ⟨Bx, By, hx, hy, rfl⟩ := hs
      exact ⟨Bx, By, hx.ownFrom hg hr, hy.ownFrom hg hr, rfl⟩) ?assign ?body ?done ?stop
  case assign =>
    rintro l pre x W K ⟨⟨v, hv, hrow, _⟩, h1, h2, hB⟩ hK
    dsimp only [encs2]
    gi_wp2_with fail
    have hz : w.heap.size ≤ (W.alloc (.cells #[.int .i64 x.1.a, .int .u64 x.1.n, .int .i64 x.1.m, .int .i64 x.1.s, .int .i64 x.1.x, .int .i64 x.1.y, .int .i64 x.1.d, .bool x.1.t, .bool x.1.w, .bool x.1.g, .int .i64 x.1.p, .int .i64 x.1.q] 34)).heap.size := by have := hB.size; simp; omega
    exact hK _ _ (((KeepsOthers.alloc _ _).from _).trans ((KeepsOthers.alloc _ _).from _)) ⟨((Below.refl _ _).alloc hB.size _).alloc hz _, (Below.heap_alloc _ _ _ (h1.alloc _).lt).trans (Below.heap_alloc _ _ _ h1.lt), (Below.heap_alloc _ _ _ (h2.alloc _).lt).trans (Below.heap_alloc _ _ _ h2.lt), (KeepsWalks.alloc _ _).trans (KeepsWalks.alloc _ _)⟩ ⟨⟨v, (hv.alloc _).alloc _, (hrow.alloc _).alloc _, trivial⟩, (h1.alloc _).alloc _, (h2.alloc _).alloc _, (hB.alloc hB.size _).alloc hz _⟩ ⟨_, _, (Blk.new _ _ _).alloc _, by simpa using Blk.new (W.alloc (.cells #[.int .i64 x.1.a, .int .u64 x.1.n, .int .i64 x.1.m, .int .i64 x.1.s, .int .i64 x.1.x, .int .i64 x.1.y, .int .i64 x.1.d, .bool x.1.t, .bool x.1.w, .bool x.1.g, .int .i64 x.1.p, .int .i64 x.1.q] 34)) 36 #[.int .i64 x.2.a, .int .u64 x.2.n, .int .i64 x.2.m, .int .i64 x.2.s, .int .i64 x.2.x, .int .i64 x.2.y, .int .i64 x.2.d, .bool x.2.t, .bool x.2.w, .bool x.2.g, .int .i64 x.2.p, .int .i64 x.2.q], by simp⟩
  case body =>
    rintro l pre x a' W hl ⟨r, hr⟩ ⟨⟨v, hv, hrow, _⟩, h1, h2, hB⟩ ⟨Bx, By, hx, hy, rfl⟩ hlt
    have hc := hv.cell
    have z0 : W.cell? ⟨Bx, 0, none⟩ = some (.int .i64 x.1.a) := hx.cell 0
    have z1 : W.cell? ⟨By, 1, none⟩ = some (.int .u64 x.2.n) := hy.cell 1
    have hsz := hB.size
    obtain ⟨Ao, co, rfl⟩ := slice_of_own hrow
    clear hr hl
    gi_wp2_with (gi_at_builtin; refine wpListIn_append_own _ rfl _ _ 26 rfl w.heap.size 54 i0 _ 39 448 Try.underlying26 hi hz0 hz1 hz2 rfl (by decide) _ _ _ rfl (hrow.alloc _) ⟨W.heap.size, 0, none⟩ 1 1 (encM x) rfl rfl ?d1 ?d2 ?d3 ?d4 ?d5 ?_)
    case d1 => intro j u hu; rw [show ((⟨W.heap.size, 0, none⟩ : Addr).add j) = ⟨W.heap.size, j, none⟩ from by unfold Addr.add; split <;> simp_all, (Blk.new W 54 _).cell j]; simpa [encM] using hu
    case d2 => simp [encM, Value.oneCell']
    case d3 => unfold maxLen; omega
    case d4 => omega
    case d5 => simp; omega
    intro v' w1 hown' hgrow _
    obtain ⟨g', cap', rfl⟩ := ownsRow_succ hown'
    have h1' : Blk w1 (w.heap.size + 1) 22 #[.slice A n cp] := (h1.alloc _).grown hgrow (Boxed.not_row (W := W) h1 (by decide) hrow)
    have h2' : Blk w1 (w.heap.size + 2) 23 #[.slice A2 n2 cp2] := (h2.alloc _).grown hgrow (Boxed.not_row (W := W) h2 (by decide) hrow)
    obtain ⟨hv1, hv2, hr2, hk2, hb2⟩ := hv.appended (by decide) hrow hB.size (Nat.le_refl _) hown' hgrow
    have hc1 := hv1.cell
    have hf1 := hv1.frozen
    clear hc
    gi_wp2_with fail
    have e1 := Below.heap_setCell w1 ⟨w.heap.size, 0, none⟩ (.slice (some ⟨g', 0, none⟩) (pre.length + 1) cap') (w.heap.size + 1) (by simp)
    have e2 := Below.heap_setCell w1 ⟨w.heap.size, 0, none⟩ (.slice (some ⟨g', 0, none⟩) (pre.length + 1) cap') (w.heap.size + 2) (by simp)
    refine ⟨hk2.from _, ⟨hb2, (e1.trans h1').trans h1.symm, (e2.trans h2').trans h2.symm, hk2.size, fun k o h hw => hk2.same k o h (Obj.not_cells_of_walk hw)⟩, ⟨⟨_, hv2, ?_, trivial⟩, e1.trans h1', e2.trans h2', hB.trans hb2⟩⟩
    rw [List.length_append, List.flatMap_append]; simpa using hr2
  case done =>
    rintro D ys W hD rfl ⟨⟨v, hv, hrow, _⟩, _, _, hB⟩ hK
    have hc := hv.cell
    rw [List.length_map] at hrow
    obtain ⟨Ao, co, rfl⟩ := slice_of_own hrow
    gi_wp2_with fail
    refine ⟨by simp, .inl ⟨_, _, rfl, run_takeDeferred hK, ?_⟩⟩
    exact ⟨_, results_tmp rfl _ _ _, _, rfl, ownsRow_putObj hrow _ hK rfl, hB.trans (belowK_b (w := w) (Nat.le_refl _) W D _ _ (by simp at hD; omega) hK rfl rfl)⟩
  case stop =>
    rintro D c pre W _ _ h _
    exact h.elim

end Go.Proofs.Ytnlgkjnlfeeaoaa
