/-
The iterator of wanted: its contract for every loop body.
-/
import Derived.Test.YtnlgkjnlfeeaoaaF
import Derived.WalkKit
import Derived.WalkSpells
import Derived.WalkLawsBesides
import Derived.Lib.Hide
import Derived.Deep.QuietTactic
import Derived.BigQuiet
import Derived.RangeFuncNested
import Derived.RangeFuncBound
import Derived.RangeFuncCalls
import Derived.RangeFuncLeaves
import Derived.Shelf.Abstract
import Derived.Shelf.RegionOpen
import Derived.OwnWalkIn
import Derived.TacticsInMore
import Derived.LoopNIn
import Derived.LoopIn
import Derived.Maps.OwnIn
import Derived.Maps.AppendAt
namespace Go.Proofs.Ytnlgkjnlfeeaoaa
open Go.RowKit Go.Shelf
attribute [local go_sem] Oper.semAt_some

instance : Inhabited Ent := ⟨⟨0, 0, 0, 0, 0, 0, 0, false, false, false, 0, 0⟩⟩
/-- the stub of a scion. -/
def stubAt (ss : List Ent) (x : Ent) : Ent := ss.getD (spot x ss).toNat default
def pair (ss : List Ent) (x : Ent) : Ent × Ent := (x, stubAt ss x)
def encs2 (z : Ent × Ent) : Array Value := #[.agg #[.int .i64 z.1.a, .int .u64 z.1.n, .int .i64 z.1.m, .int .i64 z.1.s, .int .i64 z.1.x, .int .i64 z.1.y, .int .i64 z.1.d, .bool z.1.t, .bool z.1.w, .bool z.1.g, .int .i64 z.1.p, .int .i64 z.1.q], .agg #[.int .i64 z.2.a, .int .u64 z.2.n, .int .i64 z.2.m, .int .i64 z.2.s, .int .i64 z.2.x, .int .i64 z.2.y, .int .i64 z.2.d, .bool z.2.t, .bool z.2.w, .bool z.2.g, .int .i64 z.2.p, .int .i64 z.2.q]]
/-- what a round must keep. -/
structure Keeps (n0 Bs Bt : Nat) (W W' : World) : Prop where
  below : Below n0 W W'
  s : W'.heap[Bs]? = W.heap[Bs]?
  t : W'.heap[Bt]? = W.heap[Bt]?
  walks : KeepsWalks W W'

theorem grown_below {w w' : World} (h : Below w.heap.size w w') : w.grownBy w' none := ⟨h.os, h.tape, h.output, h.size, fun k hk _ => h.block k hk⟩
theorem DoneMap.grown {w w' : World} {r : Nat} {os : List Ent} (h : DoneMap w r os) (hg : w.grownBy w' none) : DoneMap w' r os := (hg.block r (Array.getElem?_eq_some_iff.1 h).1 (by simp)).trans h

set_option maxHeartbeats 1000000 in
theorem iter28 (n0 Bs Bt : Nat) (A A2 : Option Addr) (n n2 cp cp2 nF : Nat) (es ss : List Ent) (w : World) (hn : n ≤ 1000000) (hn2 : n2 ≤ 1000000) (h0 : n0 ≤ w.heap.size)
    (hs : Blk w Bs 22 #[.slice A n cp]) (ht : Blk w Bt 23 #[.slice A2 n2 cp2]) (he : Ents w n0 A n es) (hee : Ents w n0 A2 n2 ss) :
    SeqStopsK Fence.wide nF Try.prog 28 #[.pointer (some ⟨Bs, 0, none⟩), .pointer (some ⟨Bt, 0, none⟩)] encs2 (Keeps n0 Bs Bt) (fun xs => xs = (chosen es ss).map (pair ss)) (fun _ => True) n w := by
  intro l J Jx W hW hJ hJx hY hJ0
  have hq1 := eql31
  have hq2 := eql32
  have hq3 := neq31
  have hq4 := neq32
  refine callsIn_of_wp Try.func28 rfl trivial ?_ rfl
  have hmm := @run_makeMap Try.prog
  have hsW := hs.below hW hs.lt
  have htW := ht.below hW ht.lt
  have heW := he.below (hW.mono h0)
  have heeW := hee.below (hW.mono h0)
  have h0W : n0 ≤ W.heap.size := Nat.le_trans h0 hW.size
  clear hs ht he hee hW h0
  have hcs : ∀ o, (W.alloc o).cell? ⟨Bs, 0, none⟩ = some (.slice A n cp) := fun o => (hsW.alloc o).cell 0
  simp only [Try.ntmps28, List.size_toArray, List.length_cons, List.length_nil, Nat.reduceAdd, Nat.reduceSub, Array.replicate_succ, Array.replicate_zero, List.push_toArray, List.append_toArray, List.nil_append, List.cons_append]
  gi_wp2_with fail
  have hm0 : DoneMap (W.alloc (.map #[] 0)) W.heap.size [] := heap_alloc_new W _
  have hg0 : W.grownBy (W.alloc (.map #[] 0)) none := World.grownBy_alloc W _ none
  gi_loopw [12] (fun i wr => ∃ k : Nat, k ≤ n ∧ i = .int .i64 k ∧ J (((es.take k).foldl (chosenStep ss) []).map (pair ss)) wr ∧ DoneMap wr W.heap.size ((es.take k).foldl (chosenStep ss) []) ∧
      Blk wr Bs 22 #[.slice A n cp] ∧ Blk wr Bt 23 #[.slice A2 n2 cp2] ∧ Ents wr n0 A n es ∧ Ents wr n0 A2 n2 ss ∧ n0 ≤ wr.heap.size) (fun i _ => n - (intOf i).toNat)
  case atStart =>
    refine ⟨0, Nat.zero_le _, rfl, hJ _ _ _ none hJ0 hg0 (by simp), hm0, hsW.alloc _, htW.alloc _, heW.below ((Below.refl _ _).alloc h0W _), heeW.below ((Below.refl _ _).alloc h0W _), by simp; omega⟩
  case round =>
    obtain ⟨k, hk, rfl, hJk, hmk, hsk, htk, hek, heek, h0k⟩ := hrel
    clear hsW htW heW heeW hcs hJ0 hm0 hg0 hmm
    by_cases hlt : k < n
    · have hlen : es.length = n := hek.1
      obtain ⟨b, off, x, rfl, hb2, he, c0, c1, c2, c3, c4, c5, c6, c7, c8, c9, c10, c11⟩ := hek.cells hlt
      have hk0 : 0 ≤ (k : Int) := by omega
      have hk1 : (k : Int) < n := by omega
      have hfold := Lib.hid (foldl_take (f := chosenStep ss) (b := []) he)
      have hle := chosen_le ss (es.take k) []
      simp only [List.length_nil, Nat.zero_add, List.length_take] at hle
      generalize (es.take k).foldl (chosenStep ss) [] = out at *
      clear he
      have hct : ∀ o, (wr.alloc o).cell? ⟨Bt, 0, none⟩ = some (.slice A2 n2 cp2) := fun o => (htk.alloc o).cell 0
      gi_wp2_with fail
      refine ⟨trivial, fun h => by simp [Fence.wide] at h, ?_⟩
      have hbox := Blk.new wr 34 #[.int .i64 x.a, .int .u64 x.n, .int .i64 x.m, .int .i64 x.s, .int .i64 x.x, .int .i64 x.y, .int .i64 x.d, .bool x.t, .bool x.w, .bool x.g, .int .i64 x.p, .int .i64 x.q]
      have hek1 : ∀ o, Ents (wr.alloc o) n0 (some ⟨b, off, none⟩) n es := fun o => hek.below ((Below.refl _ _).alloc h0k _)
      have heek1 : ∀ o, Ents (wr.alloc o) n0 A2 n2 ss := fun o => heek.below ((Below.refl _ _).alloc h0k _)
      refine (callsIn_wide.2 (indexFunc29_30 _ _ _ _ x _ _ ((heek1 _).more (by simp; omega)) hn2 hbox)).mono ?_
      rintro v w1 ⟨rfl, hb⟩
      rw [show idxFrom (fun e => idEq e.m e.s x.m x.s) ss 0 = spot x ss from rfl]
      have hg1 : wr.grownBy w1 none := (World.grownBy_alloc wr _ none).trans (grown_below hb)
      have hbox1 := hbox.grown (grown_below hb) (by simp)
      have hmk1 := hmk.grown hg1
      have hsk1 := hsk.grown hg1 (by simp)
      have htk1 := htk.grown hg1 (by simp)
      have hek2 := (hek1 _).below (hb.mono (by simp; omega))
      have heek2 := (heek1 _).below (hb.mono (by simp; omega))
      have h0k1 : n0 ≤ w1.heap.size := Nat.le_trans h0k hg1.size
      have hJ1 := hJ _ _ _ none hJk hg1 (by simp)
      have hlk := run_lookup hmk1 x
      clear hbox hek1 heek1 hb hg1 hJk hmk hsk htk hek heek h0k c0 c1 c2 c3 c4 c5 c6 c7 c8 c9 c10 c11 hct
      have hx : Hid (freeB x ss = (!(idEq x.m x.s 0 0) && !x.g && idEq x.p x.q 0 0 && (if spot x ss < 0 then false else match ss[(spot x ss).toNat]? with | some e => may x e | none => false))) := rfl
      have hp : Hid (pair ss x = (x, ss.getD (spot x ss).toNat default)) := rfl
      have hr : spot x ss = -1 ∨ (((0 : Nat) : Int) ≤ spot x ss ∧ spot x ss < ((0 : Nat) : Int) + ss.length) := idx_range (fun e => idEq e.m e.s x.m x.s) ss 0
      generalize spot x ss = i at *
      generalize hdone : out.any (sameChain x) = dn at *
      have HD := Lib.hid hdone
      clear hdone
      have x0 : w1.cell? ⟨wr.heap.size, 0, none⟩ = some (.int .i64 x.a) := hbox1.cell 0
      have x1 : w1.cell? ⟨wr.heap.size, 1, none⟩ = some (.int .u64 x.n) := hbox1.cell 1
      have x2 : w1.cell? ⟨wr.heap.size, 2, none⟩ = some (.int .i64 x.m) := hbox1.cell 2
      have x3 : w1.cell? ⟨wr.heap.size, 3, none⟩ = some (.int .i64 x.s) := hbox1.cell 3
      have x4 : w1.cell? ⟨wr.heap.size, 4, none⟩ = some (.int .i64 x.x) := hbox1.cell 4
      have x5 : w1.cell? ⟨wr.heap.size, 5, none⟩ = some (.int .i64 x.y) := hbox1.cell 5
      have x6 : w1.cell? ⟨wr.heap.size, 6, none⟩ = some (.int .i64 x.d) := hbox1.cell 6
      have x7 : w1.cell? ⟨wr.heap.size, 7, none⟩ = some (.bool x.t) := hbox1.cell 7
      have x8 : w1.cell? ⟨wr.heap.size, 8, none⟩ = some (.bool x.w) := hbox1.cell 8
      have x9 : w1.cell? ⟨wr.heap.size, 9, none⟩ = some (.bool x.g) := hbox1.cell 9
      have x10 : w1.cell? ⟨wr.heap.size, 10, none⟩ = some (.int .i64 x.p) := hbox1.cell 10
      have x11 : w1.cell? ⟨wr.heap.size, 11, none⟩ = some (.int .i64 x.q) := hbox1.cell 11
      by_cases hi : i < 0
      · rw [if_pos hi, Bool.and_false] at hx
        clear hr
        gi_wp2_with fail
        all_goals
          go_roundw
          case rel => exact ⟨k + 1, by omega, by go_num, by rw [hfold.out, chosenStep, hx.out]; exact hJ1, by rw [hfold.out, chosenStep, hx.out]; exact hmk1, hsk1, htk1, hek2, heek2, h0k1⟩
          case measure => simp [intOf]; omega
      · obtain ⟨j, rfl⟩ := Int.eq_ofNat_of_zero_le (by omega : 0 ≤ i)
        have hjlt : j < n2 := by rw [← heek2.1]; simp at hr; omega
        obtain ⟨bs, os, e, rfl, hbs2, hej, d0, d1, d2, d3, d4, d5, d6, d7, d8, d9, d10, d11⟩ := heek2.cells hjlt
        rw [if_neg hi, Int.toNat_natCast, hej] at hx
        have hgd : ss.getD j default = e := by simp [List.getD_eq_getElem?_getD, hej]
        rw [Int.toNat_natCast, hgd] at hp
        have hk2 : 0 ≤ (j : Int) := by omega
        have hk3 : (j : Int) < n2 := by omega
        have ht0 : w1.cell? ⟨Bt, 0, none⟩ = some (.slice (some ⟨bs, os, none⟩) n2 cp2) := htk1.cell 0
        have hz : wr.heap.size < w1.heap.size := hbox1.lt
        clear hr hi hej hgd
        by_cases hgo : (freeB x ss && !dn) = true
        · have hst : chosenStep ss out x = out ++ [x] := by rw [chosenStep, HD.out, if_pos hgo]
          have HG := Lib.hid hst
          rw [Bool.and_eq_true, hx.out] at hgo
          simp only [Bool.and_eq_true, Bool.not_eq_true', may] at hgo
          obtain ⟨⟨⟨⟨t1, t2⟩, t3⟩, ⟨⟨t6, t7⟩, t8⟩⟩, t5⟩ := hgo
          have HD2 := HD.out
          rw [t5] at HD2
          have hga := World.grownBy_alloc w1 (.cells #[.int .i64 e.a, .int .u64 e.n, .int .i64 e.m, .int .i64 e.s, .int .i64 e.x, .int .i64 e.y, .int .i64 e.d, .bool e.t, .bool e.w, .bool e.g, .int .i64 e.p, .int .i64 e.q] 36) none
          obtain ⟨W2, hup, hm2, hg2⟩ := run_update (hmk1.grown hga) x HD2
          have HD3 := Lib.hid HD2
          have hsr : W.heap.size < W2.heap.size := (Array.getElem?_eq_some_iff.1 hm2).1
          have hisw : ∀ r, some W.heap.size = some r → W.heap.size ≤ r ∧ ∃ o : Obj, (w1.alloc (.cells #[.int .i64 e.a, .int .u64 e.n, .int .i64 e.m, .int .i64 e.s, .int .i64 e.x, .int .i64 e.y, .int .i64 e.d, .bool e.t, .bool e.w, .bool e.g, .int .i64 e.p, .int .i64 e.q] 36)).heap[r]? = some o ∧ o.isWalk = true := by
            rintro r h; cases h; exact ⟨Nat.le_refl _, _, hmk1.grown hga, rfl⟩
          have hJ2 := hJ _ _ _ _ (hJ _ _ _ none hJ1 hga (by simp)) hg2 hisw
          have hne : ∀ g t cs, Blk w1 g t cs → some g ≠ some W.heap.size := by
            rintro g t cs h e; cases e; exact absurd ((show w1.heap[W.heap.size]? = _ from h).symm.trans hmk1) (by simp)
          have hsk2 := (hsk1.grown hga (by simp)).grown hg2 (hne _ _ _ hsk1)
          have htk2 := (htk1.grown hga (by simp)).grown hg2 (hne _ _ _ htk1)
          have hbox2 := (hbox1.grown hga (by simp)).grown hg2 (hne _ _ _ hbox1)
          have hboxe := (Blk.new w1 36 #[.int .i64 e.a, .int .u64 e.n, .int .i64 e.m, .int .i64 e.s, .int .i64 e.x, .int .i64 e.y, .int .i64 e.d, .bool e.t, .bool e.w, .bool e.g, .int .i64 e.p, .int .i64 e.q]).grown hg2 (by
            intro e; injection e with e; have := (Array.getElem?_eq_some_iff.1 hmk1).1; omega)
          have hbb : Below n0 w1 W2 := ((Below.refl _ _).alloc h0k1 _).grown hg2 (by simp; omega) (fun r h => by cases h; exact h0W)
          have hek3 := hek2.below hbb
          have heek3 := heek2.below hbb
          have h0k2 : n0 ≤ W2.heap.size := Nat.le_trans h0k1 hbb.size
          obtain ⟨fn, tmps, assign, body, hy, hR⟩ := hY _ (x, e) W2 hJ2 (by simp; omega)
          dsimp only [encs2] at hy
          rw [t6] at hup
          rw [t2, t6] at hy
          have y0 : W2.cell? ⟨wr.heap.size, 0, none⟩ = some (.int .i64 x.a) := hbox2.cell 0
          have y1 : W2.cell? ⟨wr.heap.size, 1, none⟩ = some (.int .u64 x.n) := hbox2.cell 1
          have y2 : W2.cell? ⟨wr.heap.size, 2, none⟩ = some (.int .i64 x.m) := hbox2.cell 2
          have y3 : W2.cell? ⟨wr.heap.size, 3, none⟩ = some (.int .i64 x.s) := hbox2.cell 3
          have y4 : W2.cell? ⟨wr.heap.size, 4, none⟩ = some (.int .i64 x.x) := hbox2.cell 4
          have y5 : W2.cell? ⟨wr.heap.size, 5, none⟩ = some (.int .i64 x.y) := hbox2.cell 5
          have y6 : W2.cell? ⟨wr.heap.size, 6, none⟩ = some (.int .i64 x.d) := hbox2.cell 6
          have y7 : W2.cell? ⟨wr.heap.size, 7, none⟩ = some (.bool x.t) := hbox2.cell 7
          have y8 : W2.cell? ⟨wr.heap.size, 8, none⟩ = some (.bool x.w) := hbox2.cell 8
          have y9 : W2.cell? ⟨wr.heap.size, 9, none⟩ = some (.bool x.g) := hbox2.cell 9
          have y10 : W2.cell? ⟨wr.heap.size, 10, none⟩ = some (.int .i64 x.p) := hbox2.cell 10
          have y11 : W2.cell? ⟨wr.heap.size, 11, none⟩ = some (.int .i64 x.q) := hbox2.cell 11
          have z0 : W2.cell? ⟨w1.heap.size, 0, none⟩ = some (.int .i64 e.a) := hboxe.cell 0
          have z1 : W2.cell? ⟨w1.heap.size, 1, none⟩ = some (.int .u64 e.n) := hboxe.cell 1
          have z2 : W2.cell? ⟨w1.heap.size, 2, none⟩ = some (.int .i64 e.m) := hboxe.cell 2
          have z3 : W2.cell? ⟨w1.heap.size, 3, none⟩ = some (.int .i64 e.s) := hboxe.cell 3
          have z4 : W2.cell? ⟨w1.heap.size, 4, none⟩ = some (.int .i64 e.x) := hboxe.cell 4
          have z5 : W2.cell? ⟨w1.heap.size, 5, none⟩ = some (.int .i64 e.y) := hboxe.cell 5
          have z6 : W2.cell? ⟨w1.heap.size, 6, none⟩ = some (.int .i64 e.d) := hboxe.cell 6
          have z7 : W2.cell? ⟨w1.heap.size, 7, none⟩ = some (.bool e.t) := hboxe.cell 7
          have z8 : W2.cell? ⟨w1.heap.size, 8, none⟩ = some (.bool e.w) := hboxe.cell 8
          have z9 : W2.cell? ⟨w1.heap.size, 9, none⟩ = some (.bool e.g) := hboxe.cell 9
          have z10 : W2.cell? ⟨w1.heap.size, 10, none⟩ = some (.int .i64 e.p) := hboxe.cell 10
          have z11 : W2.cell? ⟨w1.heap.size, 11, none⟩ = some (.int .i64 e.q) := hboxe.cell 11
          clear hmk1 hga hg2 hisw hne hsk1 htk1 hbox1 hJ1 HD2 hek2 heek2 hst HD hx
          gi_wp2_with fail
          refine ⟨fun h => by simp [Fence.wide] at h, ?_⟩
          refine hR.mono ?_
          rintro v W3 (⟨rfl, hJ3, hk3⟩ | ⟨rfl, hJx3⟩)
          · gi_wp2_with fail
            go_roundw
            case rel =>
              refine ⟨k + 1, by omega, by go_num, ?_, ?_, hk3.s.trans hsk2, hk3.t.trans htk2, hek3.below hk3.below, heek3.below hk3.below, Nat.le_trans h0k2 hk3.below.size⟩
              · rw [hfold.out, HG.out, List.map_append]; simpa [hp.out] using hJ3
              · rw [hfold.out, HG.out]; exact hk3.walks.same _ _ hm2 rfl
            case measure => simp [intOf]; omega
          · gi_wp2_with fail
            refine bodyPost_ret (results_none rfl _ _ _) rfl ?_
            exact ⟨⟨_, rfl⟩, .inr ⟨_, trivial, hJx3⟩⟩
        · have hst : chosenStep ss out x = out := by rw [chosenStep, HD.out, if_neg hgo]
          have HG := Lib.hid hst
          clear hst
          rw [hx.out] at hgo
          have HN := Lib.hid hgo
          clear hgo
          have hga : ∀ o, w1.grownBy (w1.alloc o) none := fun o => World.grownBy_alloc w1 o none
          gi_wp2_with fail
          all_goals first
            | (exfalso; refine HN.out ?_; simp [*, may]; done)
            | skip
          all_goals
            go_roundw
            case rel => first
              | exact ⟨k + 1, by omega, by go_num, by rw [hfold.out, HG.out]; exact hJ1, by rw [hfold.out, HG.out]; exact hmk1, hsk1, htk1, hek2, heek2, h0k1⟩
              | exact ⟨k + 1, by omega, by go_num, by rw [hfold.out, HG.out]; exact hJ _ _ _ none hJ1 (hga _) (by simp), by rw [hfold.out, HG.out]; exact hmk1.grown (hga _), hsk1.alloc _, htk1.alloc _, hek2.below ((Below.refl _ _).alloc h0k1 _), heek2.below ((Below.refl _ _).alloc h0k1 _), by simp; omega⟩
            case measure => simp [intOf]; omega
    · gi_wp2_with fail
      go_end0
      refine ⟨⟨_, rfl⟩, .inl ⟨_, ?_, hJk⟩⟩
      rw [List.take_of_length_le (by rw [hek.1]; omega)]; rfl
end Go.Proofs.Ytnlgkjnlfeeaoaa
