/-
Contracts: the reference's free and Chosen, entry, few.
-/
import Derived.Test.YtnlgkjnlfeeaoaaC
import Derived.WalkKit
import Derived.WalkSpells
import Derived.WalkLawsBesides
import Derived.Lib.Hide
import Derived.Deep.QuietTactic
import Derived.BigQuiet
import Derived.Maps.AppendAt
namespace Go.Proofs.Ytnlgkjnlfeeaoaa
open Go.RowKit

/-- the place of the stub of a scion. -/
def spot (x : Ent) (stubs : List Ent) : Int := idxFrom (fun e => idEq e.m e.s x.m x.s) stubs 0
/-- a short-cut may be asked through the stub e for the scion x. -/
def may (x e : Ent) : Bool := !e.g && idEq e.p e.q 0 0 && !(e.a == x.a)
def freeB (x : Ent) (stubs : List Ent) : Bool :=
  !(idEq x.m x.s 0 0) && !x.g && idEq x.p x.q 0 0 && (if spot x stubs < 0 then false else match stubs[(spot x stubs).toNat]? with | some e => may x e | none => false)

theorem cells_below {B : Nat} {w w' : World} (hb : Below B w w') {b : Nat} (h : b < B) (o : Nat) : w'.cell? ⟨b, o, none⟩ = w.cell? ⟨b, o, none⟩ := hb.cell (p := ⟨b, o, none⟩) h

set_option maxHeartbeats 400000 in
theorem free23 (A : Option Addr) (n c : Nat) (es : List Ent) (x : Ent) (w : World) (h : Ents w w.heap.size A n es) (hn : n ≤ 1000000) :
    Calls Try.prog 23 #[.agg #[.int .i64 x.a, .int .u64 x.n, .int .i64 x.m, .int .i64 x.s, .int .i64 x.x, .int .i64 x.y, .int .i64 x.d, .bool x.t, .bool x.w, .bool x.g, .int .i64 x.p, .int .i64 x.q], .slice A n c] w fun e w' => e = .returned (.bool (freeB x es)) ∧ Below w.heap.size w w' := by
  have h1 : ∀ o, Ents (w.alloc o) (w.alloc o).heap.size A n es := fun o => (h.below ((Below.refl _ _).alloc (Nat.le_refl _) _)).more (by simp)
  have hq1 := eql31
  have hq2 := eql32
  have hq3 := neq31
  have hq4 := neq32
  go_enter Try.func23, Try.ntmps23
  go_wp2_with fail
  case _ => go_ret; exact ⟨ret_bool (by simp_all [freeB]), (Below.refl _ _).alloc (Nat.le_refl _) _⟩
  case _ => go_ret; exact ⟨ret_bool (by simp_all [freeB]), (Below.refl _ _).alloc (Nat.le_refl _) _⟩
  case _ => go_ret; exact ⟨ret_bool (by simp_all [freeB]), (Below.refl _ _).alloc (Nat.le_refl _) _⟩
  refine (stub14 _ _ _ _ _ _ _ (h1 _) hn).mono ?_
  rintro v w1 ⟨rfl, hb⟩
  have t1 : idEq x.m x.s 0 0 = false := by rw [← Bool.not_eq_true]; assumption
  have t2 : x.g = false := by rw [← Bool.not_eq_true]; assumption
  have t3 : (!idEq x.p x.q 0 0) = false := by assumption
  have t3' : idEq x.p x.q 0 0 = true := by simpa using t3
  have hb1 : Below w.heap.size w w1 := ((Below.refl _ _).alloc (Nat.le_refl _) _).trans (hb.mono (by simp))
  have HF : Hid (freeB x es = (if spot x es < 0 then false else match es[(spot x es).toNat]? with | some e => may x e | none => false)) := by
    show _ = _
    simp [freeB, t1, t2, t3']
  have hr := idx_range (fun e => idEq e.m e.s x.m x.s) es 0
  change spot x es = -1 ∨ (((0 : Nat) : Int) ≤ spot x es ∧ spot x es < ((0 : Nat) : Int) + es.length) at hr
  rw [show idxFrom (fun e => idEq e.m e.s x.m x.s) es 0 = spot x es from rfl]
  generalize spot x es = i at *
  by_cases hi : i < 0
  · clear hr
    go_wp2_with fail
    go_ret
    exact ⟨ret_bool (by rw [HF.out, if_pos hi]), hb1⟩
  · obtain ⟨k, rfl⟩ := Int.eq_ofNat_of_zero_le (by omega : 0 ≤ i)
    have hlt : k < n := by rw [← h.1]; simp at hr; omega
    obtain ⟨b, off, e, rfl, hb2, he, c0, c1, c2, c3, c4, c5, c6, c7, c8, c9, c10, c11⟩ := (h.below hb1).cells hlt
    have x0 : w1.cell? ⟨w.heap.size, 0, none⟩ = some (.int .i64 x.a) := by rw [cells_below hb (by simp) 0]; go_simp
    rw [if_neg hi, Int.toNat_natCast, he] at HF
    have hk0 : 0 ≤ (k : Int) := by omega
    have hk1 : (k : Int) < n := by omega
    have hz : w.heap.size < w1.heap.size := by have := hb.size; simp at this; omega
    clear h he hr hi h1 t1 t2 t3' t3
    go_wp2_with fail
    all_goals
      go_ret
      refine ⟨ret_bool ?_, hb1.alloc hb1.size _⟩
      rw [HF.out]
      first | (simp_all [may]; done) | (simp_all [may]; rfl)

theorem own_below {w w' : World} {base : Nat} {t : TypeId} {v : Value} {n size : Nat} {xs : List Value} (h : w.ownsRow base t size v n xs) (hb : Below w.heap.size w w') : w'.ownsRow base t size v n xs :=
  h.kept (row := none) ⟨hb.os, hb.tape, hb.output, hb.size, fun k hk _ => hb.block k hk⟩ (by cases v.ownBlock <;> simp)
/-- one more scion. -/
def sameChain (x o : Ent) : Bool := o.a == x.a && idEq o.m o.s x.m x.s
def chosenStep (stubs out : List Ent) (x : Ent) : List Ent := if freeB x stubs && !(out.any (sameChain x)) then out ++ [x] else out
def chosen (scions stubs : List Ent) : List Ent := scions.foldl (chosenStep stubs) []

theorem length_enc (es : List Ent) : (es.flatMap Ent.enc).length = es.length * 12 := by
  induction es with
  | nil => rfl
  | cons e es ih => simp only [List.flatMap_cons, List.length_append, ih, List.length_cons]; simp [Ent.enc]; omega
theorem get_enc : ∀ (es : List Ent) (i : Nat) (e : Ent), es[i]? = some e → ∀ j v, e.enc[j]? = some v → (es.flatMap Ent.enc)[i * 12 + j]? = some v
  | [], i, e, h, j, v, hv => by simp at h
  | x :: es, 0, e, h, j, v, hv => by
    simp at h; subst h
    have : j < x.enc.length := (List.getElem?_eq_some_iff.1 hv).1
    rw [List.flatMap_cons, List.getElem?_append_left (by simpa using this)]
    simpa using hv
  | x :: es, i + 1, e, h, j, v, hv => by
    have hl : x.enc.length = 12 := rfl
    rw [List.flatMap_cons, List.getElem?_append_right (by omega), hl, show (i + 1) * 12 + j - 12 = i * 12 + j from by omega]
    exact get_enc es i e (by simpa using h) j v hv
/-- an owned row of entries reads as entries. -/
theorem Ents.of_own {w : World} {base : Nat} {t : TypeId} {A : Option Addr} {n c : Nat} {es : List Ent} (h : w.ownsRow base t 12 (.slice A n c) n (es.flatMap Ent.enc)) (hn : es.length = n) : Ents w w.heap.size A n es := by
  refine ⟨hn, fun h0 => ?_⟩
  rcases h.2 with ⟨h1, h2⟩ | ⟨g, cap, cur, hv, _, hg, _⟩
  · omega
  · simp only [Value.slice.injEq] at hv
    obtain ⟨rfl, _, rfl⟩ := hv
    have hlt : g < w.heap.size := (h.lt g rfl).2
    refine ⟨g, 0, rfl, hlt, fun i e he j v hv => ?_⟩
    have h1 := get_enc es i e he j v hv
    have hj := (List.getElem?_eq_some_iff.1 h1).1
    rw [length_enc, hn] at hj
    rw [show (0 + i * 12 + j) = i * 12 + j from by omega, h.cellAt _ hj, h1]
theorem slice_of_own {w : World} {base : Nat} {t : TypeId} {v : Value} {n size : Nat} {xs : List Value} (h : w.ownsRow base t size v n xs) : ∃ A c, v = .slice A n c := by
  rcases h.2 with ⟨rfl, rfl⟩ | ⟨g, cap, _, rfl, _⟩
  · exact ⟨_, _, rfl⟩
  · exact ⟨_, _, rfl⟩

theorem info34 : (Try.prog.info? 34).map (fun i => (i.zero, i.size, i.bytes)) = some (some (.agg #[.int .i64 0, .int .u64 0, .int .i64 0, .int .i64 0, .int .i64 0, .int .i64 0, .int .i64 0, .bool false, .bool false, .bool false, .int .i64 0, .int .i64 0]), 12, 80) := by kernel_rfl

theorem any_take {p : Ent → Bool} {es : List Ent} {k : Nat} {e : Ent} (h : es[k]? = some e) : (es.take (k + 1)).any p = ((es.take k).any p || p e) := by
  obtain ⟨hk, rfl⟩ := List.getElem?_eq_some_iff.1 h
  rw [List.take_succ_eq_append_getElem hk, List.any_append]; simp
theorem foldl_take {β : Type} {f : β → Ent → β} {b : β} {es : List Ent} {k : Nat} {e : Ent} (h : es[k]? = some e) : (es.take (k + 1)).foldl f b = f ((es.take k).foldl f b) e := by
  obtain ⟨hk, rfl⟩ := List.getElem?_eq_some_iff.1 h
  rw [List.take_succ_eq_append_getElem hk, List.foldl_append]; rfl
theorem step_le (stubs out : List Ent) (x : Ent) : (chosenStep stubs out x).length ≤ out.length + 1 := by
  unfold chosenStep; split <;> simp
theorem chosen_le (stubs : List Ent) : ∀ (es out : List Ent), (es.foldl (chosenStep stubs) out).length ≤ out.length + es.length
  | [], out => by simp
  | e :: es, out => by
    have h1 := chosen_le stubs es (chosenStep stubs out e)
    have h2 := step_le stubs out e
    simp only [List.foldl_cons, List.length_cons]; omega

set_option maxHeartbeats 1000000 in
theorem chosen13 (A A2 : Option Addr) (n n2 c c2 : Nat) (es ss : List Ent) (w : World) (h : Ents w w.heap.size A n es) (hs : Ents w w.heap.size A2 n2 ss) (hn : n ≤ 1000000) (hn2 : n2 ≤ 1000000) :
    Calls Try.prog 13 #[.slice A n c, .slice A2 n2 c2] w fun e w' => ∃ A' c', e = .returned (.slice A' (chosen es ss).length c') ∧ Ents w' w'.heap.size A' (chosen es ss).length (chosen es ss) ∧ Below w.heap.size w w' := by
  obtain ⟨i0, hi, hz0, hz1, hz2⟩ := info_parts info34
  have hq1 := eql31
  have hq2 := eql32
  have hq3 := neq31
  have hq4 := neq32
  go_enter Try.func13, Try.ntmps13
  go_wp2
  go_loopw [5, 6] (fun v i wr => ∃ k : Nat, k ≤ n ∧ i = .int .i64 k ∧ Below w.heap.size w wr ∧
      wr.ownsRow w.heap.size 34 12 v ((es.take k).foldl (chosenStep ss) []).length (((es.take k).foldl (chosenStep ss) []).flatMap Ent.enc)) (fun _ i _ => n - (intOf i).toNat)
  case atStart =>
    exact ⟨0, Nat.zero_le _, rfl, (Below.refl _ _).alloc (Nat.le_refl _) _, World.ownsRow_made w #[] 0 (Nat.le_refl _) (Nat.zero_le _) rfl⟩
  case round =>
    obtain ⟨k, hk, rfl, hb, hown⟩ := hrel
    by_cases hlt : k < n
    · obtain ⟨b, off, x, rfl, hb2, he, c0, c1, c2, c3, c4, c5, c6, c7, c8, c9, c10, c11⟩ := (h.below hb).cells hlt
      have hk0 : 0 ≤ (k : Int) := by omega
      have hk1 : (k : Int) < n := by omega
      have hfold := Lib.hid (foldl_take (f := chosenStep ss) (b := []) he)
      have hle := chosen_le ss (es.take k) []
      simp only [List.length_nil, Nat.zero_add, List.length_take] at hle
      generalize (es.take k).foldl (chosenStep ss) [] = out at *
      obtain ⟨Ao, co, rfl⟩ := slice_of_own hown
      clear he
      go_wp2_with fail
      refine (free23 _ _ _ _ _ _ ((hs.below hb).more hb.size) hn2).mono ?_
      rintro v w1 ⟨rfl, hb1⟩
      have hown1 := own_below hown hb1
      have hb' : Below w.heap.size w w1 := hb.trans (hb1.mono hb.size)
      rw [← cells_below hb1 (by have := hb.size; omega)] at c0 c1 c2 c3 c4 c5 c6 c7 c8 c9 c10 c11
      clear hown hb hb1
      go_wp2_with fail
      go_loopw [7, 8] (fun f i wr => ∃ j : Nat, j ≤ out.length ∧ i = .int .i64 j ∧ f = .bool (freeB x ss && !((out.take j).any (sameChain x))) ∧ ∃ d, wr = w1.drewN d) (fun _ i _ => out.length - (intOf i).toNat)
      case atStart => exact ⟨0, Nat.zero_le _, rfl, by simp, 0, rfl⟩
      case round =>
        obtain ⟨j, hj, rfl, rfl, d, rfl⟩ := hrel
        by_cases hjl : j < out.length
        · obtain ⟨bo, oo, o, rfl, ho2, ho, e0, e1, e2, e3, e4, e5, e6, e7, e8, e9, e10, e11⟩ := (Ents.of_own hown1 rfl).cells hjl
          have hj0 : 0 ≤ (j : Int) := by omega
          have hj1 : (j : Int) < out.length := by omega
          have hst : Hid ((freeB x ss && !((out.take (j + 1)).any (sameChain x))) = ((freeB x ss && !((out.take j).any (sameChain x))) && !sameChain x o)) := by
            show _ = _
            rw [any_take ho]; cases freeB x ss <;> cases (out.take j).any (sameChain x) <;> cases sameChain x o <;> rfl
          generalize (freeB x ss && !((out.take j).any (sameChain x))) = f at *
          clear hown1 h hs ho e4 e5 e6 e7 e8 e9 e10 e11 c4 c5 c6 c7 c8 c9 c10 c11
          cases f with
          | false =>
            go_wp2_with fail
            go_quiet (fail)
            go_wp2_with fail
            go_roundw
            case rel => exact ⟨j + 1, by omega, by go_num, by rw [hst.out]; rfl, _, rfl⟩
            case measure => simp [intOf]; omega
          | true =>
            by_cases t1 : (o.a == x.a) = true
            · have t1' : (o.a != x.a) = false := by simpa using t1
              by_cases t2 : idEq o.m o.s x.m x.s = true
              · go_wp2_with fail
                go_quiet (fail)
                go_wp2_with fail
                go_roundw
                case rel => exact ⟨j + 1, by omega, by go_num, by rw [hst.out]; simp [sameChain, t1, t2], _, rfl⟩
                case measure => simp [intOf]; omega
              · rw [Bool.not_eq_true] at t2
                go_wp2_with fail
                go_quiet (fail)
                go_wp2_with fail
                go_roundw
                case rel => exact ⟨j + 1, by omega, by go_num, by rw [hst.out]; simp [sameChain, t2], _, rfl⟩
                case measure => simp [intOf]; omega
            · rw [Bool.not_eq_true] at t1
              have t1' : (o.a != x.a) = true := by simpa using t1
              go_wp2_with fail
              go_quiet (fail)
              go_wp2_with fail
              go_roundw
              case rel => exact ⟨j + 1, by omega, by go_num, by rw [hst.out]; simp [sameChain, t1], _, rfl⟩
              case measure => simp [intOf]; omega
        · have hfull : Hid (chosenStep ss out x = if (freeB x ss && !((out.take j).any (sameChain x))) then out ++ [x] else out) := by
            show _ = _
            rw [List.take_of_length_le (by omega)]; rfl
          generalize (freeB x ss && !((out.take j).any (sameChain x))) = f at *
          cases f with
          | false =>
            go_wp2_with fail
            go_roundw
            case rel =>
              refine ⟨k + 1, by omega, by go_num, below_drewN hb' _, ?_⟩
              rw [hfold.out, hfull.out]
              exact hown1
            case measure => simp [intOf]; omega
          | true =>
            go_wp2_with (at_builtin; refine wpList_append_own _ rfl (.tmp 56) (.tmp 61) 22 rfl w.heap.size 34 i0 _ 12 80 Try.underlying22 hi hz0 hz1 hz2 rfl (by decide) _ _ _ rfl (hown1.alloc _) ⟨w1.heap.size, 0, none⟩ 1 1 x.enc rfl rfl ?d1 ?d2 ?d3 ?d4 ?d5 ?_)
            case d1 => intro j u hu; rw [show ({ block := w1.heap.size, off := j } : Addr) = ⟨(w1.drewN d).heap.size, j, none⟩ from rfl, (Blk.new (w1.drewN d) 34 _).cell j]; simpa [Ent.enc] using hu
            case d2 => simp [Ent.enc, Value.oneCell']
            case d3 => unfold maxLen; omega
            case d4 => omega
            case d5 => have := hb'.size; omega
            intro v' w2 hown2 hg2 _
            have hb2' : Below w.heap.size w w2 := ((below_drewN hb' d).alloc (by have := hb'.size; simpa using this) _).grown hg2 (by have := hb'.size; simp; omega) (fun g hg => (hown1.lt g hg).1)
            have hown3 : w2.ownsRow w.heap.size 34 12 v' (out ++ [x]).length ((out ++ [x]).flatMap Ent.enc) := by
              rw [List.length_append, List.flatMap_append]; simpa using hown2
            clear hown2 hg2
            obtain ⟨A', c', rfl⟩ := slice_of_own hown3
            go_wp2_with fail
            go_roundw
            case rel =>
              refine ⟨k + 1, by omega, by go_num, hb2', ?_⟩
              rw [hfold.out, hfull.out]
              exact hown3
            case measure => simp [intOf]; omega
    · go_wp2
      go_ret
      obtain ⟨Ao, co, rfl⟩ := slice_of_own hown
      have hk' : es.take k = es := List.take_of_length_le (by rw [h.1]; omega)
      rw [hk'] at hown
      refine ⟨Ao, co, ?_, Ents.of_own hown rfl, hb⟩
      rw [hk']; rfl
end Go.Proofs.Ytnlgkjnlfeeaoaa
