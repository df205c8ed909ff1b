/-
ShortcutArrives returns true for every input, and the input reads as it did.
-/
import Derived.Test.YtnlgkjnlfeeaoaaL
import Derived.Test.YtnlgkjnlfeeaoaaOpenX
import Derived.WalkKit
import Derived.ProofKit
import Derived.OpenShut
import Derived.ShutString
import Derived.ChangeOld
import Derived.Below
import Derived.Lib.Hide
import Derived.Deep.RegionHeld3
import Derived.Deep.DeepCutAuto
import Derived.Deep.RegionWith
import Derived.Deep.MidRow
import Derived.Deep.WholeRow
namespace Go.Proofs.Ytnlgkjnlfeeaoaa
open Go.ChangeShapes Go.WideShapes Go.ChangeAt Go.RowKit
set_option linter.unusedVariables false

theorem info36 : (Try.prog.info? 36).map (fun i => (i.zero, i.size, i.bytes)) = some (some (.agg #[.int .i64 0, .int .u64 0, .int .i64 0, .int .i64 0, .int .i64 0, .int .i64 0, .int .i64 0, .bool false, .bool false, .bool false, .int .i64 0, .int .i64 0]), 12, 80) := by kernel_rfl
theorem Blk.atEnd {X : World} {t : TypeId} {cs : Array Value} {n : Nat} (h : X.heap.size = n) : Blk (X.alloc (.cells cs t)) n t cs := h ▸ Blk.new X t cs
theorem keepAll {w w2 W : World} {t : TypeId} {cs : Array Value} {g n cap : Nat} {xs : List Value} (hb2 : Below w.heap.size w w2) (hb : Blk w2 w.heap.size t cs) (ho : w2.ownsRow w.heap.size 36 12 (.slice (some ⟨g, 0, none⟩) n cap) n xs)
    (h : Below w2.heap.size w2 W) : Below w.heap.size w W ∧ Blk W w.heap.size t cs ∧ W.ownsRow w.heap.size 36 12 (.slice (some ⟨g, 0, none⟩) n cap) n xs :=
  ⟨hb2.trans (h.mono hb2.size), hb.below h hb.lt, own_below ho h⟩
theorem there_own {W : World} {B g n cap k : Nat} {es : List Ent} (h : W.ownsRow B 36 12 (.slice (some ⟨g, 0, none⟩) n cap) n (es.flatMap Ent.enc)) (hk : k < n) : W.there g (k * 12) 12 := by
  intro j hj
  have hl : (es.flatMap Ent.enc).length = n * 12 := h.1
  refine ⟨?_, h.frozenAt _⟩
  rw [h.cellAt _ (by omega), List.getElem?_eq_getElem (by omega)]; rfl
def setL : List Value → Nat → List Value → List Value
  | xs, _, [] => xs
  | xs, o, v :: vs => setL (xs.set o v) (o + 1) vs
theorem own_setCells {B g n cap : Nat} : ∀ (vs xs : List Value) (o : Nat) (W : World), W.ownsRow B 36 12 (.slice (some ⟨g, 0, none⟩) n cap) n xs →
    (W.setCells g o vs).ownsRow B 36 12 (.slice (some ⟨g, 0, none⟩) n cap) n (setL xs o vs) ∧ W.grownBy (W.setCells g o vs) (some g)
  | [], xs, o, W, h => ⟨h, World.grownBy.refl W _⟩
  | v :: vs, xs, o, W, h => by
    obtain ⟨h1, h2⟩ := h.stored o v
    obtain ⟨h3, h4⟩ := own_setCells vs _ (o + 1) _ h1
    exact ⟨h3, h2.trans h4⟩
theorem setL_app : ∀ (vs a b : List Value) (o : Nat), setL (a ++ b) (a.length + o) vs = a ++ setL b o vs
  | [], a, b, o => rfl
  | v :: vs, a, b, o => by
    rw [setL, setL, List.set_append_right _ _ (by omega), Nat.add_sub_cancel_left, Nat.add_assoc]
    exact setL_app vs a (b.set o v) (o + 1)
theorem setL_enc : ∀ (es : List Ent) (k : Nat) (x : Ent), k < es.length → setL (es.flatMap Ent.enc) (k * 12) x.enc = (es.set k x).flatMap Ent.enc
  | [], k, x, h => by simp at h
  | e :: es, 0, x, h => rfl
  | e :: es, k + 1, x, h => by
    rw [List.flatMap_cons, List.set_cons_succ, List.flatMap_cons, ← setL_enc es k x (by simpa using h), show (k + 1) * 12 = e.enc.length + k * 12 from by show _ = 12 + _; omega]
    exact setL_app _ _ _ _
theorem reroute19c (e : Ent) (r : Rf) (w : World) (t1 : directRef r = true) (t2 : idEq e.m e.s r.m r.s = true) (t3 : (e.x == r.c) = true) :
    Calls Try.prog 19 #[.agg #[.int .i64 r.o, .int .u64 r.n, .int .i64 e.m, .int .i64 e.s, .int .i64 e.x, .int .i64 (newUse e r), .int .i64 e.d, .bool true, .bool e.w, .bool false, .int .i64 0, .int .i64 0], .agg #[.int .i64 r.k, .int .i64 r.i, .int .i64 r.o, .int .u64 r.n, .int .i64 r.m, .int .i64 r.s, .int .i64 r.c, .bool r.w]] w fun v w' => v = .returned (.tuple #[.agg #[.int .i64 r.o, .int .u64 r.n, .int .i64 e.m, .int .i64 e.s, .int .i64 e.x, .int .i64 (newUse e r), .int .i64 e.d, .bool true, .bool e.w, .bool false, .int .i64 0, .int .i64 0], .int .i64 0]) ∧ Below w.heap.size w w' := by
  have h := reroute19b_0 ⟨r.o, r.n, e.m, e.s, e.x, newUse e r, e.d, true, e.w, false, 0, 0⟩ r w t1 t2 t3 rfl
  rw [show newUse ⟨r.o, r.n, e.m, e.s, e.x, newUse e r, e.d, true, e.w, false, 0, 0⟩ r = newUse e r from if_pos (by simp)] at h
  exact h
theorem any_put {es : List Ent} {k : Nat} {e : Ent} {r : Rf} (hk : k < es.length) (t2 : idEq e.m e.s r.m r.s = true) : (es.set k ⟨r.o, r.n, e.m, e.s, e.x, newUse e r, e.d, true, e.w, false, 0, 0⟩).any (sameRoute r) = true := by
  rw [List.any_eq_true]
  exact ⟨_, List.mem_set hk _, by simp [sameRoute, t2]⟩
theorem own_put {W : World} {B g n cap k : Nat} {es : List Ent} (h : W.ownsRow B 36 12 (.slice (some ⟨g, 0, none⟩) n cap) n (es.flatMap Ent.enc)) (hk : k < n) (hl : es.length = n) (x : Ent) :
    (W.setCells g (k * 12) x.enc).ownsRow B 36 12 (.slice (some ⟨g, 0, none⟩) n cap) n ((es.set k x).flatMap Ent.enc) ∧ W.grownBy (W.setCells g (k * 12) x.enc) (some g) := by
  have := own_setCells x.enc _ (k * 12) W h
  rwa [setL_enc es k x (by omega)] at this
theorem own_ne {W : World} {B g n cap b : Nat} {t : TypeId} {xs : List Value} {cs : Array Value} (h : W.ownsRow B 36 12 (.slice (some ⟨g, 0, none⟩) n cap) n xs) (hb : Blk W b t cs) (hne : (36 : Nat) ≠ t) : g ≠ b := by
  rintro rfl
  rcases h.2 with ⟨h1, _⟩ | ⟨g', cap', cur, h1, _, hg, _⟩
  · cases h1
  · simp only [Value.slice.injEq, Option.some.injEq, Addr.mk.injEq, and_true, true_and] at h1
    obtain ⟨rfl, rfl⟩ := h1
    have := (show W.heap[g]? = _ from hb).symm.trans hg
    simp at this
    exact hne this.2.symm
theorem oneCell_enc (es : List Ent) : ∀ u ∈ es.flatMap Ent.enc, u.oneCell' = true := by
  intro u hu
  rw [List.mem_flatMap] at hu
  obtain ⟨e, _, he⟩ := hu
  simp [Ent.enc] at he
  rcases he with rfl | rfl | rfl | rfl | rfl | rfl | rfl | rfl | rfl | rfl | rfl | rfl <;> rfl
/-- the cells of entries, one after the other. -/
theorem Ents.flat {w : World} {B b off n : Nat} {es : List Ent} (h : Ents w B (some ⟨b, off, none⟩) n es) (h0 : 0 < n) (j : Nat) (u : Value) (hu : (es.flatMap Ent.enc)[j]? = some u) : w.cell? ((⟨b, off, none⟩ : Addr).add j) = some u := by
  have hj := (List.getElem?_eq_some_iff.1 hu).1
  rw [length_enc] at hj
  obtain ⟨b', off', hA, _, hc⟩ := h.2 h0
  simp only [Option.some.injEq, Addr.mk.injEq, and_true] at hA
  obtain ⟨rfl, rfl⟩ := hA
  have hi : j / 12 < es.length := by omega
  have hl : j % 12 < (es[j / 12]).enc.length := by show j % 12 < 12; omega
  have h1 := hc (j / 12) es[j / 12] (List.getElem?_eq_getElem hi) (j % 12) _ (List.getElem?_eq_getElem hl)
  have h2 := get_enc es (j / 12) es[j / 12] (List.getElem?_eq_getElem hi) (j % 12) _ (List.getElem?_eq_getElem hl)
  rw [show j / 12 * 12 + j % 12 = j from by omega, hu] at h2
  rw [← h2] at h1
  rw [← h1]
  congr 1
  unfold Addr.add
  split
  · simp_all
  · simp; omega

set_option maxRecDepth 100000 in
set_option maxHeartbeats 2000000 in
theorem walk9_1 (A : Option Addr) (n cp : Nat) (es : List Ent) (a : Int) (r : Rf) (w : World) (k : Nat) (e : Ent) (he : Ents w w.heap.size A n es) (h1 : 1 ≤ n) (h20 : n ≤ 20) (ha0 : 0 ≤ a) (ha1 : a ≤ 255)
    (hk : a % (n : Int) = (k : Int)) (hkn : k < n) (hke : es[k]? = some e) (t1 : directRef r = false) :
    Calls Try.prog 9 #[.slice A n cp, .int .u8 a, .agg #[.int .i64 r.k, .int .i64 r.i, .int .i64 r.o, .int .u64 r.n, .int .i64 r.m, .int .i64 r.s, .int .i64 r.c, .bool r.w]] w fun v w' => v = .returned (.bool true) ∧ Below w.heap.size w w' := by
    have T1 := Lib.hid t1
    clear t1
    have HK := Lib.hid hk
    have HE := Lib.hid hke
    clear hk hke
    obtain ⟨i0, hi, hz0, hz1, hz2⟩ := info_parts info36
    have g20 : decide ((20 : Int) < (n : Int)) = false := by simp; omega
    have g0 : ((n : Int) == 0) = false := by simp; omega
    obtain ⟨b, off, _, rfl, hb0, _, _⟩ := he.at_ (k := 0) (by omega)
    have hlen := he.1
    have hq1 := eql31
    have hq2 := eql32
    have hq3 := neq31
    have hq4 := neq32
    go_enter Try.func9, Try.ntmps9
    go_wp2_with fail
    refine (awake10 _).mono ?_
    rintro v w1 ⟨rfl, hb⟩
    have hbx := (Blk.new w 39 #[.int .i64 r.k, .int .i64 r.i, .int .i64 r.o, .int .u64 r.n, .int .i64 r.m, .int .i64 r.s, .int .i64 r.c, .bool r.w]).below hb (by simp)
    have hb1 : Below w.heap.size w w1 := ((Below.refl _ _).alloc (Nat.le_refl _) _).trans (hb.mono (by simp))
    clear hb
    have hown0 : (w1.alloc (.cells #[] 36)).ownsRow w.heap.size 36 12 (.slice (some ⟨w1.heap.size, 0, none⟩) 0 0) 0 [] := World.ownsRow_made w1 #[] 0 hb1.size (Nat.zero_le _) rfl
    have hsrc : ∀ (j : Nat) (u : Value), (es.flatMap Ent.enc)[j]? = some u → (w1.alloc (.cells #[] 36)).cell? ((⟨b, off, none⟩ : Addr).add j) = some u := by
      have he1 := he.below (hb1.alloc hb1.size (.cells #[] 36))
      intro j u hu
      exact he1.flat (by omega) j u hu
    go_wp2_with (at_builtin; refine wpList_append_own _ rfl (.tmp 27) (.tmp 28) 23 rfl w.heap.size 36 i0 _ 12 80 Try.underlying23 hi hz0 hz1 hz2 rfl (by decide) _ _ _ rfl hown0 ⟨b, off, none⟩ n cp (es.flatMap Ent.enc) rfl ?d0 ?d1 ?d2 ?d3 ?d4 ?d5 ?_)
    case d0 => rw [length_enc, hlen]
    case d1 => exact hsrc
    case d2 => exact oneCell_enc es
    case d3 => unfold maxLen; omega
    case d4 => omega
    case d5 => have := hb1.size; simp; omega
    intro v' w2 hown hg2 _
    obtain ⟨g, cap, rfl⟩ : ∃ g cap, v' = .slice (some ⟨g, 0, none⟩) n cap := by
      rcases hown.2 with ⟨_, h0⟩ | ⟨g, cap, _, rfl, _⟩
      · omega
      · exact ⟨g, cap, rfl⟩
    have hb2 : Below w.heap.size w w2 := (hb1.alloc hb1.size _).grown hg2 (by have := hb1.size; simp; omega) (fun q hq => by simp [Value.ownBlock] at hq; have := hb1.size; omega)
    have hbx2 := (hbx.alloc (.cells #[] 36)).grown hg2 (by simp [Value.ownBlock]; have := hbx.lt; omega)
    have hgl := hown.lt g rfl
    clear hown0 hsrc hg2 hbx hb1
    go_upto_region 5 with (fail)
    rw [HK.out]
    have hk0 : 0 ≤ (k : Int) := by omega
    have hk1 : (k : Int) < n := by omega
    go_cut [9, 10] (fun s9 s10 W => ∃ x : Nat, s9 = .pointer (some ⟨x, 0, none⟩) ∧ w2.heap.size ≤ x ∧ Blk W x 36 #[.int .i64 0, .int .u64 0, .int .i64 0, .int .i64 0, .int .i64 0, .int .i64 0, .int .i64 0, .bool false, .bool false, .bool false, .int .i64 0, .int .i64 0] ∧ s10 = .int .i64 1 ∧ Below w.heap.size w W ∧ Blk W w.heap.size 39 #[.int .i64 r.k, .int .i64 r.i, .int .i64 r.o, .int .u64 r.n, .int .i64 r.m, .int .i64 r.s, .int .i64 r.c, .bool r.w] ∧ W.ownsRow w.heap.size 36 12 (.slice (some ⟨g, 0, none⟩) n cap) n (es.flatMap Ent.enc))
    case first =>
      obtain ⟨b', off', e', hA, hb', he', c0, c1, c2, c3, c4, c5, c6, c7, c8, c9, c10, c11⟩ := (Ents.of_own hown hlen).cells hkn
      simp only [Option.some.injEq, Addr.mk.injEq, and_true] at hA
      obtain ⟨rfl, rfl⟩ := hA
      have hee : e' = e := by rw [HE.out] at he'; simpa using he'.symm
      subst hee
      clear he'
      simp only [Nat.zero_add] at c0 c1 c2 c3 c4 c5 c6 c7 c8 c9 c10 c11
      have b0 : w2.cell? ⟨w.heap.size, 0, none⟩ = some (.int .i64 r.k) := hbx2.cell 0
      have b1 : w2.cell? ⟨w.heap.size, 1, none⟩ = some (.int .i64 r.i) := hbx2.cell 1
      have b2 : w2.cell? ⟨w.heap.size, 2, none⟩ = some (.int .i64 r.o) := hbx2.cell 2
      have b3 : w2.cell? ⟨w.heap.size, 3, none⟩ = some (.int .u64 r.n) := hbx2.cell 3
      have b4 : w2.cell? ⟨w.heap.size, 4, none⟩ = some (.int .i64 r.m) := hbx2.cell 4
      have b5 : w2.cell? ⟨w.heap.size, 5, none⟩ = some (.int .i64 r.s) := hbx2.cell 5
      have b6 : w2.cell? ⟨w.heap.size, 6, none⟩ = some (.int .i64 r.c) := hbx2.cell 6
      have b7 : w2.cell? ⟨w.heap.size, 7, none⟩ = some (.bool r.w) := hbx2.cell 7
      have hg2 := hgl.2
      have hw2 := hbx2.lt
      have HB := Lib.hid hbx2
      have HO := Lib.hid hown
      clear hbx2 hown
      go_region_with (go_at_call 19; refine (reroute19_1 e' r _ T1.out).mono ?_; rintro v w3 ⟨rfl, rfl⟩)
      all_goals
        go_wp2_with fail
        go_meet
        refine ⟨_, rfl, ?_, ?_, rfl, keepAll hb2 HB.out HO.out ?_⟩
        · first | exact Nat.le_refl _ | omega | (simp; omega)
        · first | exact Blk.atEnd (by simp) | exact ((((Blk.new w2 _ _).alloc _).alloc _).alloc _).alloc _
        · repeat (first | exact Below.refl _ _ | refine Below.drew ?_ | refine Below.alloc ?_ (by first | exact Nat.le_refl _ | (simp; done) | (simp; omega)) _)
    case rest =>
      obtain ⟨x, rfl, hxl, hx, rfl, hb3, hbx3, hown3⟩ := hcut
      have v0 : wc.cell? ⟨x, 0, none⟩ = some (.int .i64 0) := hx.cell 0
      have v1 : wc.cell? ⟨x, 1, none⟩ = some (.int .u64 0) := hx.cell 1
      have v2 : wc.cell? ⟨x, 2, none⟩ = some (.int .i64 0) := hx.cell 2
      have v3 : wc.cell? ⟨x, 3, none⟩ = some (.int .i64 0) := hx.cell 3
      have v4 : wc.cell? ⟨x, 4, none⟩ = some (.int .i64 0) := hx.cell 4
      have v5 : wc.cell? ⟨x, 5, none⟩ = some (.int .i64 0) := hx.cell 5
      have v6 : wc.cell? ⟨x, 6, none⟩ = some (.int .i64 0) := hx.cell 6
      have v7 : wc.cell? ⟨x, 7, none⟩ = some (.bool false) := hx.cell 7
      have v8 : wc.cell? ⟨x, 8, none⟩ = some (.bool false) := hx.cell 8
      have v9 : wc.cell? ⟨x, 9, none⟩ = some (.bool false) := hx.cell 9
      have v10 : wc.cell? ⟨x, 10, none⟩ = some (.int .i64 0) := hx.cell 10
      have v11 : wc.cell? ⟨x, 11, none⟩ = some (.int .i64 0) := hx.cell 11
      go_wp2_with fail
      go_ret
      exact ⟨rfl, hb3⟩

set_option maxRecDepth 100000 in
set_option maxHeartbeats 2000000 in
theorem walk9_7 (A : Option Addr) (n cp : Nat) (es : List Ent) (a : Int) (r : Rf) (w : World) (k : Nat) (e : Ent) (he : Ents w w.heap.size A n es) (h1 : 1 ≤ n) (h20 : n ≤ 20) (ha0 : 0 ≤ a) (ha1 : a ≤ 255)
    (hk : a % (n : Int) = (k : Int)) (hkn : k < n) (hke : es[k]? = some e) (t1 : directRef r = true) (t2 : (idEq e.m e.s r.m r.s && e.x == r.c) = false) :
    Calls Try.prog 9 #[.slice A n cp, .int .u8 a, .agg #[.int .i64 r.k, .int .i64 r.i, .int .i64 r.o, .int .u64 r.n, .int .i64 r.m, .int .i64 r.s, .int .i64 r.c, .bool r.w]] w fun v w' => v = .returned (.bool true) ∧ Below w.heap.size w w' := by
    have T1 := Lib.hid t1
    clear t1
    have T2 := Lib.hid t2
    clear t2
    have HK := Lib.hid hk
    have HE := Lib.hid hke
    clear hk hke
    obtain ⟨i0, hi, hz0, hz1, hz2⟩ := info_parts info36
    have g20 : decide ((20 : Int) < (n : Int)) = false := by simp; omega
    have g0 : ((n : Int) == 0) = false := by simp; omega
    obtain ⟨b, off, _, rfl, hb0, _, _⟩ := he.at_ (k := 0) (by omega)
    have hlen := he.1
    have hq1 := eql31
    have hq2 := eql32
    have hq3 := neq31
    have hq4 := neq32
    go_enter Try.func9, Try.ntmps9
    go_wp2_with fail
    refine (awake10 _).mono ?_
    rintro v w1 ⟨rfl, hb⟩
    have hbx := (Blk.new w 39 #[.int .i64 r.k, .int .i64 r.i, .int .i64 r.o, .int .u64 r.n, .int .i64 r.m, .int .i64 r.s, .int .i64 r.c, .bool r.w]).below hb (by simp)
    have hb1 : Below w.heap.size w w1 := ((Below.refl _ _).alloc (Nat.le_refl _) _).trans (hb.mono (by simp))
    clear hb
    have hown0 : (w1.alloc (.cells #[] 36)).ownsRow w.heap.size 36 12 (.slice (some ⟨w1.heap.size, 0, none⟩) 0 0) 0 [] := World.ownsRow_made w1 #[] 0 hb1.size (Nat.zero_le _) rfl
    have hsrc : ∀ (j : Nat) (u : Value), (es.flatMap Ent.enc)[j]? = some u → (w1.alloc (.cells #[] 36)).cell? ((⟨b, off, none⟩ : Addr).add j) = some u := by
      have he1 := he.below (hb1.alloc hb1.size (.cells #[] 36))
      intro j u hu
      exact he1.flat (by omega) j u hu
    go_wp2_with (at_builtin; refine wpList_append_own _ rfl (.tmp 27) (.tmp 28) 23 rfl w.heap.size 36 i0 _ 12 80 Try.underlying23 hi hz0 hz1 hz2 rfl (by decide) _ _ _ rfl hown0 ⟨b, off, none⟩ n cp (es.flatMap Ent.enc) rfl ?d0 ?d1 ?d2 ?d3 ?d4 ?d5 ?_)
    case d0 => rw [length_enc, hlen]
    case d1 => exact hsrc
    case d2 => exact oneCell_enc es
    case d3 => unfold maxLen; omega
    case d4 => omega
    case d5 => have := hb1.size; simp; omega
    intro v' w2 hown hg2 _
    obtain ⟨g, cap, rfl⟩ : ∃ g cap, v' = .slice (some ⟨g, 0, none⟩) n cap := by
      rcases hown.2 with ⟨_, h0⟩ | ⟨g, cap, _, rfl, _⟩
      · omega
      · exact ⟨g, cap, rfl⟩
    have hb2 : Below w.heap.size w w2 := (hb1.alloc hb1.size _).grown hg2 (by have := hb1.size; simp; omega) (fun q hq => by simp [Value.ownBlock] at hq; have := hb1.size; omega)
    have hbx2 := (hbx.alloc (.cells #[] 36)).grown hg2 (by simp [Value.ownBlock]; have := hbx.lt; omega)
    have hgl := hown.lt g rfl
    clear hown0 hsrc hg2 hbx hb1
    go_upto_region 5 with (fail)
    rw [HK.out]
    have hk0 : 0 ≤ (k : Int) := by omega
    have hk1 : (k : Int) < n := by omega
    go_cut [9, 10] (fun s9 s10 W => ∃ x : Nat, s9 = .pointer (some ⟨x, 0, none⟩) ∧ w2.heap.size ≤ x ∧ Blk W x 36 #[.int .i64 0, .int .u64 0, .int .i64 0, .int .i64 0, .int .i64 0, .int .i64 0, .int .i64 0, .bool false, .bool false, .bool false, .int .i64 0, .int .i64 0] ∧ s10 = .int .i64 7 ∧ Below w.heap.size w W ∧ Blk W w.heap.size 39 #[.int .i64 r.k, .int .i64 r.i, .int .i64 r.o, .int .u64 r.n, .int .i64 r.m, .int .i64 r.s, .int .i64 r.c, .bool r.w] ∧ W.ownsRow w.heap.size 36 12 (.slice (some ⟨g, 0, none⟩) n cap) n (es.flatMap Ent.enc))
    case first =>
      obtain ⟨b', off', e', hA, hb', he', c0, c1, c2, c3, c4, c5, c6, c7, c8, c9, c10, c11⟩ := (Ents.of_own hown hlen).cells hkn
      simp only [Option.some.injEq, Addr.mk.injEq, and_true] at hA
      obtain ⟨rfl, rfl⟩ := hA
      have hee : e' = e := by rw [HE.out] at he'; simpa using he'.symm
      subst hee
      clear he'
      simp only [Nat.zero_add] at c0 c1 c2 c3 c4 c5 c6 c7 c8 c9 c10 c11
      have b0 : w2.cell? ⟨w.heap.size, 0, none⟩ = some (.int .i64 r.k) := hbx2.cell 0
      have b1 : w2.cell? ⟨w.heap.size, 1, none⟩ = some (.int .i64 r.i) := hbx2.cell 1
      have b2 : w2.cell? ⟨w.heap.size, 2, none⟩ = some (.int .i64 r.o) := hbx2.cell 2
      have b3 : w2.cell? ⟨w.heap.size, 3, none⟩ = some (.int .u64 r.n) := hbx2.cell 3
      have b4 : w2.cell? ⟨w.heap.size, 4, none⟩ = some (.int .i64 r.m) := hbx2.cell 4
      have b5 : w2.cell? ⟨w.heap.size, 5, none⟩ = some (.int .i64 r.s) := hbx2.cell 5
      have b6 : w2.cell? ⟨w.heap.size, 6, none⟩ = some (.int .i64 r.c) := hbx2.cell 6
      have b7 : w2.cell? ⟨w.heap.size, 7, none⟩ = some (.bool r.w) := hbx2.cell 7
      have hg2 := hgl.2
      have hw2 := hbx2.lt
      have HB := Lib.hid hbx2
      have HO := Lib.hid hown
      clear hbx2 hown
      go_region_with (go_at_call 19; refine (reroute19_7 e' r _ T1.out T2.out).mono ?_; rintro v w3 ⟨rfl, rfl⟩)
      all_goals
        go_wp2_with fail
        go_meet
        refine ⟨_, rfl, ?_, ?_, rfl, keepAll hb2 HB.out HO.out ?_⟩
        · first | exact Nat.le_refl _ | omega | (simp; omega)
        · first | exact Blk.atEnd (by simp) | exact ((((Blk.new w2 _ _).alloc _).alloc _).alloc _).alloc _
        · repeat (first | exact Below.refl _ _ | refine Below.drew ?_ | refine Below.alloc ?_ (by first | exact Nat.le_refl _ | (simp; done) | (simp; omega)) _)
    case rest =>
      obtain ⟨x, rfl, hxl, hx, rfl, hb3, hbx3, hown3⟩ := hcut
      have v0 : wc.cell? ⟨x, 0, none⟩ = some (.int .i64 0) := hx.cell 0
      have v1 : wc.cell? ⟨x, 1, none⟩ = some (.int .u64 0) := hx.cell 1
      have v2 : wc.cell? ⟨x, 2, none⟩ = some (.int .i64 0) := hx.cell 2
      have v3 : wc.cell? ⟨x, 3, none⟩ = some (.int .i64 0) := hx.cell 3
      have v4 : wc.cell? ⟨x, 4, none⟩ = some (.int .i64 0) := hx.cell 4
      have v5 : wc.cell? ⟨x, 5, none⟩ = some (.int .i64 0) := hx.cell 5
      have v6 : wc.cell? ⟨x, 6, none⟩ = some (.int .i64 0) := hx.cell 6
      have v7 : wc.cell? ⟨x, 7, none⟩ = some (.bool false) := hx.cell 7
      have v8 : wc.cell? ⟨x, 8, none⟩ = some (.bool false) := hx.cell 8
      have v9 : wc.cell? ⟨x, 9, none⟩ = some (.bool false) := hx.cell 9
      have v10 : wc.cell? ⟨x, 10, none⟩ = some (.int .i64 0) := hx.cell 10
      have v11 : wc.cell? ⟨x, 11, none⟩ = some (.int .i64 0) := hx.cell 11
      go_wp2_with fail
      go_ret
      exact ⟨rfl, hb3⟩

set_option maxRecDepth 100000 in
set_option maxHeartbeats 2000000 in
theorem walk9_9 (A : Option Addr) (n cp : Nat) (es : List Ent) (a : Int) (r : Rf) (w : World) (k : Nat) (e : Ent) (he : Ents w w.heap.size A n es) (h1 : 1 ≤ n) (h20 : n ≤ 20) (ha0 : 0 ≤ a) (ha1 : a ≤ 255)
    (hk : a % (n : Int) = (k : Int)) (hkn : k < n) (hke : es[k]? = some e) (t1 : directRef r = true) (t2 : idEq e.m e.s r.m r.s = true) (t3 : (e.x == r.c) = true) (t4 : e.g = true) :
    Calls Try.prog 9 #[.slice A n cp, .int .u8 a, .agg #[.int .i64 r.k, .int .i64 r.i, .int .i64 r.o, .int .u64 r.n, .int .i64 r.m, .int .i64 r.s, .int .i64 r.c, .bool r.w]] w fun v w' => v = .returned (.bool true) ∧ Below w.heap.size w w' := by
    have T1 := Lib.hid t1
    clear t1
    have T2 := Lib.hid t2
    clear t2
    have T3 := Lib.hid t3
    clear t3
    have T4 := Lib.hid t4
    clear t4
    have HK := Lib.hid hk
    have HE := Lib.hid hke
    clear hk hke
    obtain ⟨i0, hi, hz0, hz1, hz2⟩ := info_parts info36
    have g20 : decide ((20 : Int) < (n : Int)) = false := by simp; omega
    have g0 : ((n : Int) == 0) = false := by simp; omega
    obtain ⟨b, off, _, rfl, hb0, _, _⟩ := he.at_ (k := 0) (by omega)
    have hlen := he.1
    have hq1 := eql31
    have hq2 := eql32
    have hq3 := neq31
    have hq4 := neq32
    go_enter Try.func9, Try.ntmps9
    go_wp2_with fail
    refine (awake10 _).mono ?_
    rintro v w1 ⟨rfl, hb⟩
    have hbx := (Blk.new w 39 #[.int .i64 r.k, .int .i64 r.i, .int .i64 r.o, .int .u64 r.n, .int .i64 r.m, .int .i64 r.s, .int .i64 r.c, .bool r.w]).below hb (by simp)
    have hb1 : Below w.heap.size w w1 := ((Below.refl _ _).alloc (Nat.le_refl _) _).trans (hb.mono (by simp))
    clear hb
    have hown0 : (w1.alloc (.cells #[] 36)).ownsRow w.heap.size 36 12 (.slice (some ⟨w1.heap.size, 0, none⟩) 0 0) 0 [] := World.ownsRow_made w1 #[] 0 hb1.size (Nat.zero_le _) rfl
    have hsrc : ∀ (j : Nat) (u : Value), (es.flatMap Ent.enc)[j]? = some u → (w1.alloc (.cells #[] 36)).cell? ((⟨b, off, none⟩ : Addr).add j) = some u := by
      have he1 := he.below (hb1.alloc hb1.size (.cells #[] 36))
      intro j u hu
      exact he1.flat (by omega) j u hu
    go_wp2_with (at_builtin; refine wpList_append_own _ rfl (.tmp 27) (.tmp 28) 23 rfl w.heap.size 36 i0 _ 12 80 Try.underlying23 hi hz0 hz1 hz2 rfl (by decide) _ _ _ rfl hown0 ⟨b, off, none⟩ n cp (es.flatMap Ent.enc) rfl ?d0 ?d1 ?d2 ?d3 ?d4 ?d5 ?_)
    case d0 => rw [length_enc, hlen]
    case d1 => exact hsrc
    case d2 => exact oneCell_enc es
    case d3 => unfold maxLen; omega
    case d4 => omega
    case d5 => have := hb1.size; simp; omega
    intro v' w2 hown hg2 _
    obtain ⟨g, cap, rfl⟩ : ∃ g cap, v' = .slice (some ⟨g, 0, none⟩) n cap := by
      rcases hown.2 with ⟨_, h0⟩ | ⟨g, cap, _, rfl, _⟩
      · omega
      · exact ⟨g, cap, rfl⟩
    have hb2 : Below w.heap.size w w2 := (hb1.alloc hb1.size _).grown hg2 (by have := hb1.size; simp; omega) (fun q hq => by simp [Value.ownBlock] at hq; have := hb1.size; omega)
    have hbx2 := (hbx.alloc (.cells #[] 36)).grown hg2 (by simp [Value.ownBlock]; have := hbx.lt; omega)
    have hgl := hown.lt g rfl
    clear hown0 hsrc hg2 hbx hb1
    go_upto_region 5 with (fail)
    rw [HK.out]
    have hk0 : 0 ≤ (k : Int) := by omega
    have hk1 : (k : Int) < n := by omega
    go_cut [9, 10] (fun s9 s10 W => ∃ x : Nat, s9 = .pointer (some ⟨x, 0, none⟩) ∧ w2.heap.size ≤ x ∧ Blk W x 36 #[.int .i64 0, .int .u64 0, .int .i64 0, .int .i64 0, .int .i64 0, .int .i64 0, .int .i64 0, .bool false, .bool false, .bool false, .int .i64 0, .int .i64 0] ∧ s10 = .int .i64 9 ∧ Below w.heap.size w W ∧ Blk W w.heap.size 39 #[.int .i64 r.k, .int .i64 r.i, .int .i64 r.o, .int .u64 r.n, .int .i64 r.m, .int .i64 r.s, .int .i64 r.c, .bool r.w] ∧ W.ownsRow w.heap.size 36 12 (.slice (some ⟨g, 0, none⟩) n cap) n (es.flatMap Ent.enc))
    case first =>
      obtain ⟨b', off', e', hA, hb', he', c0, c1, c2, c3, c4, c5, c6, c7, c8, c9, c10, c11⟩ := (Ents.of_own hown hlen).cells hkn
      simp only [Option.some.injEq, Addr.mk.injEq, and_true] at hA
      obtain ⟨rfl, rfl⟩ := hA
      have hee : e' = e := by rw [HE.out] at he'; simpa using he'.symm
      subst hee
      clear he'
      simp only [Nat.zero_add] at c0 c1 c2 c3 c4 c5 c6 c7 c8 c9 c10 c11
      have b0 : w2.cell? ⟨w.heap.size, 0, none⟩ = some (.int .i64 r.k) := hbx2.cell 0
      have b1 : w2.cell? ⟨w.heap.size, 1, none⟩ = some (.int .i64 r.i) := hbx2.cell 1
      have b2 : w2.cell? ⟨w.heap.size, 2, none⟩ = some (.int .i64 r.o) := hbx2.cell 2
      have b3 : w2.cell? ⟨w.heap.size, 3, none⟩ = some (.int .u64 r.n) := hbx2.cell 3
      have b4 : w2.cell? ⟨w.heap.size, 4, none⟩ = some (.int .i64 r.m) := hbx2.cell 4
      have b5 : w2.cell? ⟨w.heap.size, 5, none⟩ = some (.int .i64 r.s) := hbx2.cell 5
      have b6 : w2.cell? ⟨w.heap.size, 6, none⟩ = some (.int .i64 r.c) := hbx2.cell 6
      have b7 : w2.cell? ⟨w.heap.size, 7, none⟩ = some (.bool r.w) := hbx2.cell 7
      have hg2 := hgl.2
      have hw2 := hbx2.lt
      have HB := Lib.hid hbx2
      have HO := Lib.hid hown
      clear hbx2 hown
      go_region_with (go_at_call 19; refine (reroute19_9 e' r _ T1.out T2.out T3.out T4.out).mono ?_; rintro v w3 ⟨rfl, rfl⟩)
      all_goals
        go_wp2_with fail
        go_meet
        refine ⟨_, rfl, ?_, ?_, rfl, keepAll hb2 HB.out HO.out ?_⟩
        · first | exact Nat.le_refl _ | omega | (simp; omega)
        · first | exact Blk.atEnd (by simp) | exact ((((Blk.new w2 _ _).alloc _).alloc _).alloc _).alloc _
        · repeat (first | exact Below.refl _ _ | refine Below.drew ?_ | refine Below.alloc ?_ (by first | exact Nat.le_refl _ | (simp; done) | (simp; omega)) _)
    case rest =>
      obtain ⟨x, rfl, hxl, hx, rfl, hb3, hbx3, hown3⟩ := hcut
      have v0 : wc.cell? ⟨x, 0, none⟩ = some (.int .i64 0) := hx.cell 0
      have v1 : wc.cell? ⟨x, 1, none⟩ = some (.int .u64 0) := hx.cell 1
      have v2 : wc.cell? ⟨x, 2, none⟩ = some (.int .i64 0) := hx.cell 2
      have v3 : wc.cell? ⟨x, 3, none⟩ = some (.int .i64 0) := hx.cell 3
      have v4 : wc.cell? ⟨x, 4, none⟩ = some (.int .i64 0) := hx.cell 4
      have v5 : wc.cell? ⟨x, 5, none⟩ = some (.int .i64 0) := hx.cell 5
      have v6 : wc.cell? ⟨x, 6, none⟩ = some (.int .i64 0) := hx.cell 6
      have v7 : wc.cell? ⟨x, 7, none⟩ = some (.bool false) := hx.cell 7
      have v8 : wc.cell? ⟨x, 8, none⟩ = some (.bool false) := hx.cell 8
      have v9 : wc.cell? ⟨x, 9, none⟩ = some (.bool false) := hx.cell 9
      have v10 : wc.cell? ⟨x, 10, none⟩ = some (.int .i64 0) := hx.cell 10
      have v11 : wc.cell? ⟨x, 11, none⟩ = some (.int .i64 0) := hx.cell 11
      go_wp2_with fail
      go_ret
      exact ⟨rfl, hb3⟩

set_option maxRecDepth 100000 in
set_option maxHeartbeats 2000000 in
theorem walk9_0 (A : Option Addr) (n cp : Nat) (es : List Ent) (a : Int) (r : Rf) (w : World) (k : Nat) (e : Ent) (he : Ents w w.heap.size A n es) (h1 : 1 ≤ n) (h20 : n ≤ 20) (ha0 : 0 ≤ a) (ha1 : a ≤ 255)
    (hk : a % (n : Int) = (k : Int)) (hkn : k < n) (hke : es[k]? = some e) (t1 : directRef r = true) (t2 : idEq e.m e.s r.m r.s = true) (t3 : (e.x == r.c) = true) (t4 : e.g = false) :
    Calls Try.prog 9 #[.slice A n cp, .int .u8 a, .agg #[.int .i64 r.k, .int .i64 r.i, .int .i64 r.o, .int .u64 r.n, .int .i64 r.m, .int .i64 r.s, .int .i64 r.c, .bool r.w]] w fun v w' => v = .returned (.bool true) ∧ Below w.heap.size w w' := by
    have T1 := Lib.hid t1
    clear t1
    have T2 := Lib.hid t2
    clear t2
    have T3 := Lib.hid t3
    clear t3
    have T4 := Lib.hid t4
    clear t4
    have HK := Lib.hid hk
    have HE := Lib.hid hke
    clear hk hke
    obtain ⟨i0, hi, hz0, hz1, hz2⟩ := info_parts info36
    have g20 : decide ((20 : Int) < (n : Int)) = false := by simp; omega
    have g0 : ((n : Int) == 0) = false := by simp; omega
    obtain ⟨b, off, _, rfl, hb0, _, _⟩ := he.at_ (k := 0) (by omega)
    have hlen := he.1
    have hq1 := eql31
    have hq2 := eql32
    have hq3 := neq31
    have hq4 := neq32
    go_enter Try.func9, Try.ntmps9
    go_wp2_with fail
    refine (awake10 _).mono ?_
    rintro v w1 ⟨rfl, hb⟩
    have hbx := (Blk.new w 39 #[.int .i64 r.k, .int .i64 r.i, .int .i64 r.o, .int .u64 r.n, .int .i64 r.m, .int .i64 r.s, .int .i64 r.c, .bool r.w]).below hb (by simp)
    have hb1 : Below w.heap.size w w1 := ((Below.refl _ _).alloc (Nat.le_refl _) _).trans (hb.mono (by simp))
    clear hb
    have hown0 : (w1.alloc (.cells #[] 36)).ownsRow w.heap.size 36 12 (.slice (some ⟨w1.heap.size, 0, none⟩) 0 0) 0 [] := World.ownsRow_made w1 #[] 0 hb1.size (Nat.zero_le _) rfl
    have hsrc : ∀ (j : Nat) (u : Value), (es.flatMap Ent.enc)[j]? = some u → (w1.alloc (.cells #[] 36)).cell? ((⟨b, off, none⟩ : Addr).add j) = some u := by
      have he1 := he.below (hb1.alloc hb1.size (.cells #[] 36))
      intro j u hu
      exact he1.flat (by omega) j u hu
    go_wp2_with (at_builtin; refine wpList_append_own _ rfl (.tmp 27) (.tmp 28) 23 rfl w.heap.size 36 i0 _ 12 80 Try.underlying23 hi hz0 hz1 hz2 rfl (by decide) _ _ _ rfl hown0 ⟨b, off, none⟩ n cp (es.flatMap Ent.enc) rfl ?d0 ?d1 ?d2 ?d3 ?d4 ?d5 ?_)
    case d0 => rw [length_enc, hlen]
    case d1 => exact hsrc
    case d2 => exact oneCell_enc es
    case d3 => unfold maxLen; omega
    case d4 => omega
    case d5 => have := hb1.size; simp; omega
    intro v' w2 hown hg2 _
    obtain ⟨g, cap, rfl⟩ : ∃ g cap, v' = .slice (some ⟨g, 0, none⟩) n cap := by
      rcases hown.2 with ⟨_, h0⟩ | ⟨g, cap, _, rfl, _⟩
      · omega
      · exact ⟨g, cap, rfl⟩
    have hb2 : Below w.heap.size w w2 := (hb1.alloc hb1.size _).grown hg2 (by have := hb1.size; simp; omega) (fun q hq => by simp [Value.ownBlock] at hq; have := hb1.size; omega)
    have hbx2 := (hbx.alloc (.cells #[] 36)).grown hg2 (by simp [Value.ownBlock]; have := hbx.lt; omega)
    have hgl := hown.lt g rfl
    clear hown0 hsrc hg2 hbx hb1
    go_upto_region 5 with (fail)
    rw [HK.out]
    have hk0 : 0 ≤ (k : Int) := by omega
    have hk1 : (k : Int) < n := by omega
    go_cut [9, 10] (fun s9 s10 W => ∃ x : Nat, s9 = .pointer (some ⟨x, 0, none⟩) ∧ w2.heap.size ≤ x ∧ Blk W x 36 #[.int .i64 r.o, .int .u64 r.n, .int .i64 e.m, .int .i64 e.s, .int .i64 e.x, .int .i64 (newUse e r), .int .i64 e.d, .bool true, .bool e.w, .bool false, .int .i64 0, .int .i64 0] ∧ s10 = .int .i64 0 ∧ Below w.heap.size w W ∧ Blk W w.heap.size 39 #[.int .i64 r.k, .int .i64 r.i, .int .i64 r.o, .int .u64 r.n, .int .i64 r.m, .int .i64 r.s, .int .i64 r.c, .bool r.w] ∧ W.ownsRow w.heap.size 36 12 (.slice (some ⟨g, 0, none⟩) n cap) n (es.flatMap Ent.enc))
    case first =>
      obtain ⟨b', off', e', hA, hb', he', c0, c1, c2, c3, c4, c5, c6, c7, c8, c9, c10, c11⟩ := (Ents.of_own hown hlen).cells hkn
      simp only [Option.some.injEq, Addr.mk.injEq, and_true] at hA
      obtain ⟨rfl, rfl⟩ := hA
      have hee : e' = e := by rw [HE.out] at he'; simpa using he'.symm
      subst hee
      clear he'
      simp only [Nat.zero_add] at c0 c1 c2 c3 c4 c5 c6 c7 c8 c9 c10 c11
      have b0 : w2.cell? ⟨w.heap.size, 0, none⟩ = some (.int .i64 r.k) := hbx2.cell 0
      have b1 : w2.cell? ⟨w.heap.size, 1, none⟩ = some (.int .i64 r.i) := hbx2.cell 1
      have b2 : w2.cell? ⟨w.heap.size, 2, none⟩ = some (.int .i64 r.o) := hbx2.cell 2
      have b3 : w2.cell? ⟨w.heap.size, 3, none⟩ = some (.int .u64 r.n) := hbx2.cell 3
      have b4 : w2.cell? ⟨w.heap.size, 4, none⟩ = some (.int .i64 r.m) := hbx2.cell 4
      have b5 : w2.cell? ⟨w.heap.size, 5, none⟩ = some (.int .i64 r.s) := hbx2.cell 5
      have b6 : w2.cell? ⟨w.heap.size, 6, none⟩ = some (.int .i64 r.c) := hbx2.cell 6
      have b7 : w2.cell? ⟨w.heap.size, 7, none⟩ = some (.bool r.w) := hbx2.cell 7
      have hg2 := hgl.2
      have hw2 := hbx2.lt
      have HB := Lib.hid hbx2
      have HO := Lib.hid hown
      clear hbx2 hown
      go_region_with (go_at_call 19; refine (reroute19_0 e' r _ T1.out T2.out T3.out T4.out).mono ?_; rintro v w3 ⟨rfl, rfl⟩)
      all_goals
        go_wp2_with fail
        go_meet
        refine ⟨_, rfl, ?_, ?_, rfl, keepAll hb2 HB.out HO.out ?_⟩
        · first | exact Nat.le_refl _ | omega | (simp; omega)
        · first | exact Blk.atEnd (by simp) | exact ((((Blk.new w2 _ _).alloc _).alloc _).alloc _).alloc _
        · repeat (first | exact Below.refl _ _ | refine Below.drew ?_ | refine Below.alloc ?_ (by first | exact Nat.le_refl _ | (simp; done) | (simp; omega)) _)
    case rest =>
      obtain ⟨x, rfl, hxl, hx, rfl, hb3, hbx3, hown3⟩ := hcut
      have v0 : wc.cell? ⟨x, 0, none⟩ = some (.int .i64 r.o) := hx.cell 0
      have v1 : wc.cell? ⟨x, 1, none⟩ = some (.int .u64 r.n) := hx.cell 1
      have v2 : wc.cell? ⟨x, 2, none⟩ = some (.int .i64 e.m) := hx.cell 2
      have v3 : wc.cell? ⟨x, 3, none⟩ = some (.int .i64 e.s) := hx.cell 3
      have v4 : wc.cell? ⟨x, 4, none⟩ = some (.int .i64 e.x) := hx.cell 4
      have v5 : wc.cell? ⟨x, 5, none⟩ = some (.int .i64 (newUse e r)) := hx.cell 5
      have v6 : wc.cell? ⟨x, 6, none⟩ = some (.int .i64 e.d) := hx.cell 6
      have v7 : wc.cell? ⟨x, 7, none⟩ = some (.bool true) := hx.cell 7
      have v8 : wc.cell? ⟨x, 8, none⟩ = some (.bool e.w) := hx.cell 8
      have v9 : wc.cell? ⟨x, 9, none⟩ = some (.bool false) := hx.cell 9
      have v10 : wc.cell? ⟨x, 10, none⟩ = some (.int .i64 0) := hx.cell 10
      have v11 : wc.cell? ⟨x, 11, none⟩ = some (.int .i64 0) := hx.cell 11
      obtain ⟨b', off', e', hA, hb', he', c0, c1, c2, c3, c4, c5, c6, c7, c8, c9, c10, c11⟩ := (Ents.of_own hown3 hlen).cells hkn
      simp only [Option.some.injEq, Addr.mk.injEq, and_true] at hA
      obtain ⟨rfl, rfl⟩ := hA
      have hee : e' = e := by rw [HE.out] at he'; simpa using he'.symm
      subst hee
      clear he'
      simp only [Nat.zero_add] at c0 c1 c2 c3 c4 c5 c6 c7 c8 c9 c10 c11
      have hg3 := (hown3.lt g rfl).2
      have hxl3 := hx.lt
      have HX := Lib.hid hx
      have HB := Lib.hid hbx3
      have HO := Lib.hid hown3
      have hid : idEq e'.m e'.s e'.m e'.s = true := by rw [idEq_true]; exact ⟨rfl, rfl⟩
      clear hx hbx3 hown3
      obtain ⟨ownB, grB⟩ := own_put (HO.out.alloc (.cells #[.int .i64 e'.a, .int .u64 e'.n, .int .i64 e'.m, .int .i64 e'.s, .int .i64 e'.x, .int .i64 e'.y, .int .i64 e'.d, .bool e'.t, .bool e'.w, .bool e'.g, .int .i64 e'.p, .int .i64 e'.q] 36)) hkn hlen ⟨r.o, r.n, e'.m, e'.s, e'.x, newUse e' r, e'.d, true, e'.w, false, 0, 0⟩
      have hxB := (HX.out.alloc (.cells #[.int .i64 e'.a, .int .u64 e'.n, .int .i64 e'.m, .int .i64 e'.s, .int .i64 e'.x, .int .i64 e'.y, .int .i64 e'.d, .bool e'.t, .bool e'.w, .bool e'.g, .int .i64 e'.p, .int .i64 e'.q] 36)).grown grB (by intro h; injection h with h; omega)
      have hbB := (HB.out.alloc (.cells #[.int .i64 e'.a, .int .u64 e'.n, .int .i64 e'.m, .int .i64 e'.s, .int .i64 e'.x, .int .i64 e'.y, .int .i64 e'.d, .bool e'.t, .bool e'.w, .bool e'.g, .int .i64 e'.p, .int .i64 e'.q] 36)).grown grB (by intro h; injection h with h; exact own_ne HO.out HB.out (by decide) h.symm)
      have heB := (Blk.new wc 36 #[.int .i64 e'.a, .int .u64 e'.n, .int .i64 e'.m, .int .i64 e'.s, .int .i64 e'.x, .int .i64 e'.y, .int .i64 e'.d, .bool e'.t, .bool e'.w, .bool e'.g, .int .i64 e'.p, .int .i64 e'.q]).grown grB (by intro h; injection h with h; omega)
      have hbeB : Below w.heap.size w _ := (hb3.alloc hb3.size (.cells #[.int .i64 e'.a, .int .u64 e'.n, .int .i64 e'.m, .int .i64 e'.s, .int .i64 e'.x, .int .i64 e'.y, .int .i64 e'.d, .bool e'.t, .bool e'.w, .bool e'.g, .int .i64 e'.p, .int .i64 e'.q] 36)).grown grB (by have := hb3.size; simp; omega) (fun q hq => by cases hq; exact hgl.1)
      have HTH := Lib.hid (there_own (HO.out.alloc (.cells #[.int .i64 e'.a, .int .u64 e'.n, .int .i64 e'.m, .int .i64 e'.s, .int .i64 e'.x, .int .i64 e'.y, .int .i64 e'.d, .bool e'.t, .bool e'.w, .bool e'.g, .int .i64 e'.p, .int .i64 e'.q] 36)) hkn)
      clear grB
      obtain ⟨wd, rfl⟩ : ∃ wd : World, wd = wc := ⟨_, rfl⟩
      go_upto_region 9 with (fail)
      go_cut [] (fun W => Blk W x 36 #[.int .i64 r.o, .int .u64 r.n, .int .i64 e'.m, .int .i64 e'.s, .int .i64 e'.x, .int .i64 (newUse e' r), .int .i64 e'.d, .bool true, .bool e'.w, .bool false, .int .i64 0, .int .i64 0] ∧ Blk W wd.heap.size 36 #[.int .i64 e'.a, .int .u64 e'.n, .int .i64 e'.m, .int .i64 e'.s, .int .i64 e'.x, .int .i64 e'.y, .int .i64 e'.d, .bool e'.t, .bool e'.w, .bool e'.g, .int .i64 e'.p, .int .i64 e'.q] ∧ Blk W w.heap.size 39 #[.int .i64 r.k, .int .i64 r.i, .int .i64 r.o, .int .u64 r.n, .int .i64 r.m, .int .i64 r.s, .int .i64 r.c, .bool r.w] ∧ Below w.heap.size w W ∧
          W.ownsRow w.heap.size 36 12 (.slice (some ⟨g, 0, none⟩) n cap) n ((es.set k ⟨r.o, r.n, e'.m, e'.s, e'.x, newUse e' r, e'.d, true, e'.w, false, 0, 0⟩).flatMap Ent.enc))
      case first =>
        go_wp2_with (refine wpList_store_mid (op := ⟨none, .store 36 _ _, _, _, _, _⟩) rfl 36 (.tmp 56) (.tmp 55) rfl g (k * 12) #[.int .i64 r.o, .int .u64 r.n, .int .i64 e'.m, .int .i64 e'.s, .int .i64 e'.x, .int .i64 (newUse e' r), .int .i64 e'.d, .bool true, .bool e'.w, .bool false, .int .i64 0, .int .i64 0] rfl rfl HTH.out (by kernel_rfl) (by simp [Value.oneCell']) ?_)
        go_meet
        exact ⟨hxB, heB, hbB, hbeB, ownB⟩
      case rest =>
        obtain ⟨hx4, he4, hr4, hb4, ho4⟩ := hcut
        clear hxB heB hbB hbeB ownB HTH HX HB HO hb3 hg3 hxl3 v0 v1 v2 v3 v4 v5 v6 v7 v8 v9 v10 v11 c0 c1 c2 c3 c4 c5 c6 c7 c8 c9 c10 c11
        have y0 : wc.cell? ⟨x, 0, none⟩ = some (.int .i64 r.o) := hx4.cell 0
        have y1 : wc.cell? ⟨x, 1, none⟩ = some (.int .u64 r.n) := hx4.cell 1
        have y2 : wc.cell? ⟨x, 2, none⟩ = some (.int .i64 e'.m) := hx4.cell 2
        have y3 : wc.cell? ⟨x, 3, none⟩ = some (.int .i64 e'.s) := hx4.cell 3
        have y4 : wc.cell? ⟨x, 4, none⟩ = some (.int .i64 e'.x) := hx4.cell 4
        have y5 : wc.cell? ⟨x, 5, none⟩ = some (.int .i64 (newUse e' r)) := hx4.cell 5
        have y6 : wc.cell? ⟨x, 6, none⟩ = some (.int .i64 e'.d) := hx4.cell 6
        have y7 : wc.cell? ⟨x, 7, none⟩ = some (.bool true) := hx4.cell 7
        have y8 : wc.cell? ⟨x, 8, none⟩ = some (.bool e'.w) := hx4.cell 8
        have y9 : wc.cell? ⟨x, 9, none⟩ = some (.bool false) := hx4.cell 9
        have y10 : wc.cell? ⟨x, 10, none⟩ = some (.int .i64 0) := hx4.cell 10
        have y11 : wc.cell? ⟨x, 11, none⟩ = some (.int .i64 0) := hx4.cell 11
        have b0 : wc.cell? ⟨w.heap.size, 0, none⟩ = some (.int .i64 r.k) := hr4.cell 0
        have b1 : wc.cell? ⟨w.heap.size, 1, none⟩ = some (.int .i64 r.i) := hr4.cell 1
        have b2 : wc.cell? ⟨w.heap.size, 2, none⟩ = some (.int .i64 r.o) := hr4.cell 2
        have b3 : wc.cell? ⟨w.heap.size, 3, none⟩ = some (.int .u64 r.n) := hr4.cell 3
        have b4 : wc.cell? ⟨w.heap.size, 4, none⟩ = some (.int .i64 r.m) := hr4.cell 4
        have b5 : wc.cell? ⟨w.heap.size, 5, none⟩ = some (.int .i64 r.s) := hr4.cell 5
        have b6 : wc.cell? ⟨w.heap.size, 6, none⟩ = some (.int .i64 r.c) := hr4.cell 6
        have b7 : wc.cell? ⟨w.heap.size, 7, none⟩ = some (.bool r.w) := hr4.cell 7
        go_wp2_with fail
        refine (reroute19c e' r _ T1.out T2.out T3.out).mono ?_
        rintro v w5 ⟨rfl, hb5⟩
        have hx5 := hx4.below hb5 hx4.lt
        have he5 := he4.below hb5 he4.lt
        have hr5 := hr4.below hb5 hr4.lt
        have ho5 := own_below ho4 hb5
        have hb45 := hb4.trans (hb5.mono hb4.size)
        have hl1 := hx5.lt
        have hl2 := he5.lt
        have hl3 := hr5.lt
        clear hx4 he4 hr4 ho4 hb4 hb5 y0 y1 y2 y3 y4 y5 y6 y7 y8 y9 y10 y11 b0 b1 b2 b3 b4 b5 b6 b7
        have b0 : w5.cell? ⟨w.heap.size, 0, none⟩ = some (.int .i64 r.k) := hr5.cell 0
        have b1 : w5.cell? ⟨w.heap.size, 1, none⟩ = some (.int .i64 r.i) := hr5.cell 1
        have b2 : w5.cell? ⟨w.heap.size, 2, none⟩ = some (.int .i64 r.o) := hr5.cell 2
        have b3 : w5.cell? ⟨w.heap.size, 3, none⟩ = some (.int .u64 r.n) := hr5.cell 3
        have b4 : w5.cell? ⟨w.heap.size, 4, none⟩ = some (.int .i64 r.m) := hr5.cell 4
        have b5 : w5.cell? ⟨w.heap.size, 5, none⟩ = some (.int .i64 r.s) := hr5.cell 5
        have b6 : w5.cell? ⟨w.heap.size, 6, none⟩ = some (.int .i64 r.c) := hr5.cell 6
        have b7 : w5.cell? ⟨w.heap.size, 7, none⟩ = some (.bool r.w) := hr5.cell 7
        go_wp2_with fail
        refine (direct17 _ _ _ _ r _ (Ents.of_own (ho5.alloc _) (by simp [hlen])) (by omega)).mono ?_
        rintro v w6 ⟨rfl, hb6⟩
        rw [any_put (by omega) T2.out]
        have hx6 := (hx5.alloc _).below hb6 (hx5.alloc _).lt
        have he6 := (he5.alloc _).below hb6 (he5.alloc _).lt
        have hy6 := (Blk.new w5 36 #[.int .i64 r.o, .int .u64 r.n, .int .i64 e'.m, .int .i64 e'.s, .int .i64 e'.x, .int .i64 (newUse e' r), .int .i64 e'.d, .bool true, .bool e'.w, .bool false, .int .i64 0, .int .i64 0]).below hb6 (by simp)
        have hb16 := (hb45.alloc hb45.size _).trans (hb6.mono (by have := hb45.size; simp; omega))
        clear hx5 he5 hr5 ho5 hb45 hb6 b0 b1 b2 b3 b4 b5 b6 b7
        have y0 : w6.cell? ⟨x, 0, none⟩ = some (.int .i64 r.o) := hx6.cell 0
        have y1 : w6.cell? ⟨x, 1, none⟩ = some (.int .u64 r.n) := hx6.cell 1
        have y2 : w6.cell? ⟨x, 2, none⟩ = some (.int .i64 e'.m) := hx6.cell 2
        have y3 : w6.cell? ⟨x, 3, none⟩ = some (.int .i64 e'.s) := hx6.cell 3
        have y4 : w6.cell? ⟨x, 4, none⟩ = some (.int .i64 e'.x) := hx6.cell 4
        have y5 : w6.cell? ⟨x, 5, none⟩ = some (.int .i64 (newUse e' r)) := hx6.cell 5
        have y6 : w6.cell? ⟨x, 6, none⟩ = some (.int .i64 e'.d) := hx6.cell 6
        have y7 : w6.cell? ⟨x, 7, none⟩ = some (.bool true) := hx6.cell 7
        have y8 : w6.cell? ⟨x, 8, none⟩ = some (.bool e'.w) := hx6.cell 8
        have y9 : w6.cell? ⟨x, 9, none⟩ = some (.bool false) := hx6.cell 9
        have y10 : w6.cell? ⟨x, 10, none⟩ = some (.int .i64 0) := hx6.cell 10
        have y11 : w6.cell? ⟨x, 11, none⟩ = some (.int .i64 0) := hx6.cell 11
        have z0 : w6.cell? ⟨w5.heap.size, 0, none⟩ = some (.int .i64 r.o) := hy6.cell 0
        have z1 : w6.cell? ⟨w5.heap.size, 1, none⟩ = some (.int .u64 r.n) := hy6.cell 1
        have z2 : w6.cell? ⟨w5.heap.size, 2, none⟩ = some (.int .i64 e'.m) := hy6.cell 2
        have z3 : w6.cell? ⟨w5.heap.size, 3, none⟩ = some (.int .i64 e'.s) := hy6.cell 3
        have z4 : w6.cell? ⟨w5.heap.size, 4, none⟩ = some (.int .i64 e'.x) := hy6.cell 4
        have z5 : w6.cell? ⟨w5.heap.size, 5, none⟩ = some (.int .i64 (newUse e' r)) := hy6.cell 5
        have z6 : w6.cell? ⟨w5.heap.size, 6, none⟩ = some (.int .i64 e'.d) := hy6.cell 6
        have z7 : w6.cell? ⟨w5.heap.size, 7, none⟩ = some (.bool true) := hy6.cell 7
        have z8 : w6.cell? ⟨w5.heap.size, 8, none⟩ = some (.bool e'.w) := hy6.cell 8
        have z9 : w6.cell? ⟨w5.heap.size, 9, none⟩ = some (.bool false) := hy6.cell 9
        have z10 : w6.cell? ⟨w5.heap.size, 10, none⟩ = some (.int .i64 0) := hy6.cell 10
        have z11 : w6.cell? ⟨w5.heap.size, 11, none⟩ = some (.int .i64 0) := hy6.cell 11
        have a0 : w6.cell? ⟨wd.heap.size, 0, none⟩ = some (.int .i64 e'.a) := he6.cell 0
        have a1 : w6.cell? ⟨wd.heap.size, 1, none⟩ = some (.int .u64 e'.n) := he6.cell 1
        have a2 : w6.cell? ⟨wd.heap.size, 2, none⟩ = some (.int .i64 e'.m) := he6.cell 2
        have a3 : w6.cell? ⟨wd.heap.size, 3, none⟩ = some (.int .i64 e'.s) := he6.cell 3
        have a4 : w6.cell? ⟨wd.heap.size, 4, none⟩ = some (.int .i64 e'.x) := he6.cell 4
        have a5 : w6.cell? ⟨wd.heap.size, 5, none⟩ = some (.int .i64 e'.y) := he6.cell 5
        have a6 : w6.cell? ⟨wd.heap.size, 6, none⟩ = some (.int .i64 e'.d) := he6.cell 6
        have a7 : w6.cell? ⟨wd.heap.size, 7, none⟩ = some (.bool e'.t) := he6.cell 7
        have a8 : w6.cell? ⟨wd.heap.size, 8, none⟩ = some (.bool e'.w) := he6.cell 8
        have a9 : w6.cell? ⟨wd.heap.size, 9, none⟩ = some (.bool e'.g) := he6.cell 9
        have a10 : w6.cell? ⟨wd.heap.size, 10, none⟩ = some (.int .i64 e'.p) := he6.cell 10
        have a11 : w6.cell? ⟨wd.heap.size, 11, none⟩ = some (.int .i64 e'.q) := he6.cell 11
        go_wp2_with fail
        go_ret
        exact ⟨rfl, hb16⟩

set_option maxHeartbeats 1000000 in
theorem walk9_out (A : Option Addr) (n cp : Nat) (a : Int) (r : Rf) (w : World) (hn : n ≤ maxLen) (hf : n = 0 ∨ 20 < n) :
    Calls Try.prog 9 #[.slice A n cp, .int .u8 a, .agg #[.int .i64 r.k, .int .i64 r.i, .int .i64 r.o, .int .u64 r.n, .int .i64 r.m, .int .i64 r.s, .int .i64 r.c, .bool r.w]] w fun v w' => v = .returned (.bool true) ∧ Below w.heap.size w w' := by
  unfold maxLen at hn
  rcases hf with h0 | h0
  · have g20 : decide ((20 : Int) < (n : Int)) = false := by simp; omega
    have g0 : ((n : Int) == 0) = true := by simp; omega
    clear h0
    have hq1 := eql31
    have hq2 := eql32
    have hq3 := neq31
    have hq4 := neq32
    go_enter Try.func9, Try.ntmps9
    go_wp2_with fail
    refine (awake10 _).mono ?_
    rintro v w1 ⟨rfl, hb⟩
    go_wp2_with fail
    refine (awake10 _).mono ?_
    rintro v w2 ⟨rfl, hb2⟩
    go_wp2_with fail
    go_ret
    have hb1 : Below w.heap.size w w1 := ((Below.refl _ _).alloc (Nat.le_refl _) _).trans (hb.mono (by simp))
    exact ⟨rfl, hb1.trans (hb2.mono hb1.size)⟩
  · have g20 : decide ((20 : Int) < (n : Int)) = true := by simp; omega
    clear h0
    have hq1 := eql31
    have hq2 := eql32
    have hq3 := neq31
    have hq4 := neq32
    go_enter Try.func9, Try.ntmps9
    go_wp2_with fail
    refine (awake10 _).mono ?_
    rintro v w1 ⟨rfl, hb⟩
    go_wp2_with fail
    refine (awake10 _).mono ?_
    rintro v w2 ⟨rfl, hb2⟩
    go_wp2_with fail
    go_ret
    have hb1 : Below w.heap.size w w1 := ((Below.refl _ _).alloc (Nat.le_refl _) _).trans (hb.mono (by simp))
    exact ⟨rfl, hb1.trans (hb2.mono hb1.size)⟩
theorem u8_range {a : Int} (ha : (Lit.int .u8 a).wf = true) : 0 ≤ a ∧ a ≤ 255 := by
  simp only [Lit.wf, Bool.and_eq_true, decide_eq_true_eq] at ha
  exact ha
theorem walk9 (A : Option Addr) (n cp : Nat) (es : List Ent) (a : Int) (r : Rf) (w : World) (he : Ents w w.heap.size A n es) (hn : n ≤ maxLen) (ha : (Lit.int .u8 a).wf = true) :
    Calls Try.prog 9 #[.slice A n cp, .int .u8 a, .agg #[.int .i64 r.k, .int .i64 r.i, .int .i64 r.o, .int .u64 r.n, .int .i64 r.m, .int .i64 r.s, .int .i64 r.c, .bool r.w]] w fun v w' => v = .returned (.bool true) ∧ Below w.heap.size w w' := by
  obtain ⟨ha0, ha1⟩ := u8_range ha
  by_cases hf : n = 0 ∨ 20 < n
  · exact walk9_out A n cp a r w hn hf
  · have h1 : 1 ≤ n := by omega
    have h20 : n ≤ 20 := by omega
    obtain ⟨k, hk⟩ := Int.eq_ofNat_of_zero_le (Int.emod_nonneg a (by omega : (n : Int) ≠ 0))
    have hlt := Int.emod_lt_of_pos a (by omega : 0 < (n : Int))
    have hkn : k < n := by omega
    obtain ⟨e, hke⟩ : ∃ e, es[k]? = some e := ⟨_, List.getElem?_eq_getElem (by rw [he.1]; exact hkn)⟩
    by_cases t1 : directRef r = true
    · by_cases t2 : (idEq e.m e.s r.m r.s && e.x == r.c) = true
      · rw [Bool.and_eq_true] at t2
        by_cases t4 : e.g = true
        · exact walk9_9 A n cp es a r w k e he h1 h20 ha0 ha1 hk hkn hke t1 t2.1 t2.2 t4
        · exact walk9_0 A n cp es a r w k e he h1 h20 ha0 ha1 hk hkn hke t1 t2.1 t2.2 (by rw [← Bool.not_eq_true]; exact t4)
      · exact walk9_7 A n cp es a r w k e he h1 h20 ha0 ha1 hk hkn hke t1 (by rw [← Bool.not_eq_true]; exact t2)
    · exact walk9_1 A n cp es a r w k e he h1 h20 ha0 ha1 hk hkn hke (by rw [← Bool.not_eq_true]; exact t1)
set_option maxRecDepth 100000 in
theorem lifted9 (os : Os) (started : os.Started) (H : Type) (enc : TypeId × Value → H) :
    ReturnsInHanded {} Try.checked os 9 .any (Rows.shortcutArrivesSpec.pre6 enc Try.prog Try.f9 Rows.shortcutArrivesRow.domain false) (Rows.shortcutArrivesSpec.post enc Try.prog Try.f9 false true false false) := by
  refine returnsInHanded_of_change (C := Try.checked) own_ started (by kernel_rfl) Try.func9
    (ChangeSpec.witness6 (enc := enc) (C := Try.checked) false ⟨#[], #[.slice none 0 0, .int .u8 0, .agg #[.int .i64 0, .int .i64 0, .int .i64 0, .int .u64 0, .int .i64 0, .int .i64 0, .int .i64 0, .bool false]], []⟩ 8 (by kernel_rfl) (by kernel_rfl) (by kernel_rfl) (by kernel_rfl)) ?_
  intro W base args ds gs before hval0 hW hcnd _
  have hval : ∀ (j : Nat) t v, Try.f9.params[j]? = some t → args[j]? = some v → Value.okWide Try.prog W .any base t v := hval0
  have hW' := hW
  obtain ⟨p, q, hA0, hV, rfl, hfz, hnd⟩ := hW
  have hA : DataW.TrodAll enc Try.prog W 0 (fun _ => true) true Try.f9.params.toList args.toList ds p := hA0
  rw [Try.params9] at hA hval
  obtain ⟨v0, vs0, d0, ds0, p0, q0, hargs, rfl, rfl, h0, r0⟩ := trodAll_cons hA
  obtain ⟨v1, vs1, d1, ds1, p1, q1, rfl, rfl, rfl, h1, r1⟩ := trodAll_cons r0
  obtain ⟨v2, vs2, d2, ds2, p2, q2, rfl, rfl, rfl, h2, r2⟩ := trodAll_cons r1
  obtain ⟨rfl, rfl, rfl⟩ := trodAll_nil r2
  obtain rfl : args = #[v0, v1, v2] := by cases args; simp_all
  obtain ⟨rfl, rfl⟩ := trodVars_none hV
  have k0 := h0
  have lt0 : ∀ x ∈ p0, x.block < W.heap.size := by obtain ⟨m, hm⟩ := k0; exact DataW.trod_lt m _ _ _ hm
  obtain ⟨A0, n0, cp0, rfl⟩ := okWide_slice Try.underlying23 (hval 0 23 v0 rfl rfl)
  obtain ⟨hn0, hcp0, es0, he0⟩ : n0 ≤ maxLen ∧ n0 ≤ cp0 ∧ ∃ es, Ents W W.heap.size A0 n0 es := by
    obtain ⟨fuel, hf⟩ := h0
    exact ents_of_trod Try.underlying23 leaves36 (by kernel_rfl) hf
  have k1 := h1
  have lt1 : ∀ x ∈ p1, x.block < W.heap.size := by obtain ⟨m, hm⟩ := k1; exact DataW.trod_lt m _ _ _ hm
  obtain ⟨a1, rfl, rfl, rfl, wf1⟩ := open_int Try.underlying5 (hval 1 5 v1 rfl rfl) h1
  have k2 := h2
  have lt2 : ∀ x ∈ p2, x.block < W.heap.size := by obtain ⟨m, hm⟩ := k2; exact DataW.trod_lt m _ _ _ hm
  obtain ⟨z2, rfl⟩ : ∃ x : Rf, v2 = .agg #[.int .i64 x.k, .int .i64 x.i, .int .i64 x.o, .int .u64 x.n, .int .i64 x.m, .int .i64 x.s, .int .i64 x.c, .bool x.w] := by
    obtain ⟨cs, rfl, hsz⟩ := okWide_struct Try.underlying39 (hval 2 39 v2 rfl rfl)
    obtain ⟨fuel, hf⟩ := h2
    obtain ⟨x, hx⟩ := rf_of_leaves (trod_leaves 5 39 _ _ _ _ leaves39 hf)
    exact ⟨x, by rw [show cs = cs.toList.toArray from rfl]; exact congrArg (fun l : List Value => Value.agg l.toArray) (by simpa [Value.cells, Ent.enc] using hx)⟩
  clear hA0 hval0
  refine (walk9 A0 n0 cp0 es0 a1 z2 W he0 hn0 wf1).mono fun e W' ⟨he, bel⟩ => ?_
  subst he
  exact ⟨_, rfl, _, _, _, [], _, [], hW', trodAll_mk1 (shut_bool Try.underlying4 _), (trodAll_cons_mk (Below.trod laidOut_ (by kernel_rfl) (of_decide_eq_true (by kernel_rfl)) k0 bel lt0) (trodAll_cons_mk (Below.trod laidOut_ (by kernel_rfl) (of_decide_eq_true (by kernel_rfl)) k1 bel lt1) (trodAll_cons_mk (Below.trod laidOut_ (by kernel_rfl) (of_decide_eq_true (by kernel_rfl)) k2 bel lt2) trodAll_mk0))), rfl, bel.frame _, fun h => by cases h⟩

theorem shortcutArrives_holds : Rows.ShortcutArrivesSaid :=
  OpenClaim.holds_of_wide 9 Try.f9 rfl rfl rfl rfl rfl rfl rfl ⟨rfl, rfl, rfl, rfl, rfl⟩ rfl rfl rfl rfl rfl (by kernel_rfl) Try.func9 (by kernel_rfl)
    (of_decide_eq_true (by kernel_rfl)) (by unfold Func.isWrapper; first | (rw [if_pos (by decide +kernel)]; kernel_rfl) | (rw [if_neg (by decide +kernel)]; exact ⟨rfl, rfl⟩))
    (fun os started H enc _ => lifted9 os started H enc)

end Go.Proofs.Ytnlgkjnlfeeaoaa
