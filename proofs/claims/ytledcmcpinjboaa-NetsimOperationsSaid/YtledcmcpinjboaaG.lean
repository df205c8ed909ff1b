/-
Contracts: slices.IndexFunc, slices.DeleteFunc with Purge's closure; Purge.
-/
import Derived.Test.YtledcmcpinjboaaF
namespace Go.Proofs.Ytledcmcpinjboaa
open Go.RowKit
set_option linter.unusedVariables false

set_option maxHeartbeats 400000 in
theorem closure36 (p : Pk) (t : Int) (bt : Nat) (w : World) (hs : Blk w bt 3 #[.int .i64 t]) :
    Calls Try.prog 36 #[.agg #[.int .i64 p.num, .int .i64 p.frm, .int .i64 p.dst, .slice p.A p.n p.c], .pointer (some ⟨bt, 0, none⟩)] w fun r w' => r = .returned (.bool (p.dst == t)) ∧ Below w.heap.size w w' := by
  have hg := hs.lt
  have c0 : w.cell? ⟨bt, 0, none⟩ = some (.int .i64 t) := hs.cell 0
  go_enter Try.func36, Try.ntmps36
  go_wp2_with fail
  go_ret
  exact ⟨rfl, (Below.refl _ _).alloc (Nat.le_refl _) _⟩

/-- the index of the first packet to t, from k on; or -1. -/
def idxFrom (t : Int) : List Pk → Nat → Int
  | [], _ => -1
  | e :: es, k => if e.dst == t then k else idxFrom t es (k + 1)
theorem idxFrom_step {t : Int} {es : List Pk} {k : Nat} {e : Pk} (h : es[k]? = some e) : idxFrom t (es.drop k) k = if e.dst == t then (k : Int) else idxFrom t (es.drop (k + 1)) (k + 1) := by
  obtain ⟨hk, rfl⟩ := List.getElem?_eq_some_iff.1 h
  rw [List.drop_eq_getElem_cons hk]; rfl
theorem idxFrom_end {t : Int} {es : List Pk} {k : Nat} (h : es.length ≤ k) : idxFrom t (es.drop k) k = -1 := by
  rw [List.drop_eq_nil_of_le h]; rfl
def keep (t : Int) (p : Pk) : Bool := !(p.dst == t)
/-- what the first index says of the filter. -/
theorem idx_cases (t : Int) : ∀ (es : List Pk) (k : Nat), (idxFrom t es k = -1 ∧ es.filter (keep t) = es) ∨ ∃ j, idxFrom t es k = ((k + j : Nat) : Int) ∧ j < es.length ∧ (es.take (j + 1)).filter (keep t) = es.take j
  | [], k => .inl ⟨rfl, rfl⟩
  | e :: es, k => by
    unfold idxFrom
    by_cases h : (e.dst == t) = true
    · exact .inr ⟨0, by simp [h], by simp, by simp [keep, h]⟩
    · rcases idx_cases t es (k + 1) with ⟨h1, h2⟩ | ⟨j, h1, h2, h3⟩
      · exact .inl ⟨by rw [if_neg h, h1], by simp [keep, h, h2]⟩
      · refine .inr ⟨j + 1, by rw [if_neg h, h1]; omega, by simpa using h2, ?_⟩
        rw [List.take_succ_cons, List.filter_cons, if_pos (by simp [keep, h]), h3, List.take_succ_cons]

set_option maxHeartbeats 1000000 in
theorem indexFunc38 (B : Nat) (v : Value) (ps : List Pk) (t : Int) (bt : Nat) (w : World) (h : w.ownsRow B 31 4 v ps.length (ps.flatMap Pk.enc)) (hn : ps.length ≤ 1000000) (hs : Blk w bt 3 #[.int .i64 t]) :
    Calls Try.prog 38 #[v, .func (.func 36) #[] #[.pointer (some ⟨bt, 0, none⟩)]] w fun e w' => e = .returned (.int .i64 (idxFrom t ps 0)) ∧ Below w.heap.size w w' := by
  have hg := hs.lt
  obtain ⟨A, c, rfl⟩ := slice_of_own h
  have hsl := (Sl.of_own h rfl).keep (w' := w) (ok' := fun b => b < w.heap.size) fun b hb => ⟨hb.2.1, rfl⟩
  go_enter Try.func38, Try.ntmps38
  go_wp2
  go_loopw [8] (fun i wr => ∃ k : Nat, k ≤ ps.length ∧ i = .int .i64 k ∧ Below w.heap.size w wr ∧ Hid (idxFrom t ps 0 = idxFrom t (ps.drop k) k)) (fun i _ => ps.length - (intOf i).toNat)
  case atStart => exact ⟨0, Nat.zero_le _, rfl, Below.refl _ _, rfl⟩
  case round =>
    obtain ⟨k, hk, rfl, hb, HI⟩ := hrel
    by_cases hlt : k < ps.length
    · have hsw := hs.below hb hg
      obtain ⟨b, off, e, rfl, hb2, he, c0, c1, c2, c3⟩ := (hsl.keep (w' := wr) (ok' := fun b => b < w.heap.size) fun b hb' => ⟨hb', hb.block b hb'⟩).cells hlt
      have hst := Lib.hid (idxFrom_step (t := t) he)
      have hk0 : 0 ≤ (k : Int) := by omega
      have hk1 : (k : Int) < ps.length := by omega
      clear h he hsl
      go_wp2_with (go_at_call 36; refine (closure36 e t bt _ hsw).mono ?_; rintro v w1 ⟨rfl, hb1⟩)
      · go_ret
        refine ⟨ret_int ?_, hb.trans (hb1.mono hb.size)⟩
        rw [HI.out, hst.out]; simp [*]
      · go_roundw
        case rel => exact ⟨k + 1, by omega, by go_num, hb.trans (hb1.mono hb.size), Lib.hid (by rw [HI.out, hst.out]; simp [*])⟩
        case measure => simp [intOf]; omega
    · go_wp2
      go_ret
      refine ⟨ret_int ?_, hb⟩
      rw [HI.out, idxFrom_end (by omega)]

theorem setL_enc : ∀ (es : List Pk) (k : Nat) (x : Pk), k < es.length → setL (es.flatMap Pk.enc) (k * 4) x.enc = (es.set k x).flatMap Pk.enc
  | [], k, x, h => by simp at h
  | e :: es, 0, x, h => rfl
  | e :: es, k + 1, x, h => by
    rw [List.flatMap_cons, List.set_cons_succ, List.flatMap_cons, ← setL_enc es k x (by simpa using h), show (k + 1) * 4 = e.enc.length + k * 4 from by show _ = 4 + _; omega]
    exact setL_app _ _ _ _
theorem take_enc (ps : List Pk) (k : Nat) (hk : k ≤ ps.length) : (ps.flatMap Pk.enc).take (k * 4) = (ps.take k).flatMap Pk.enc := by
  conv => lhs; rw [← List.take_append_drop k ps, List.flatMap_append]
  rw [List.take_left' (by rw [length_enc, List.length_take]; omega)]
/-- what is left when the rest is cleared. -/
theorem cleared {B g n cap i : Nat} {L : List Pk} {W : World} (h : W.ownsRow B 31 4 (.slice (some ⟨g, 0, none⟩) n cap) n (L.flatMap Pk.enc)) (hl : L.length = n) (hi : i ≤ n) :
    (W.setCells g (i * 4) (zeros (n - i))).ownsRow B 31 4 (.slice (some ⟨g, 0, none⟩) i cap) i ((L.take i).flatMap Pk.enc) ∧ W.grownBy (W.setCells g (i * 4) (zeros (n - i))) (some g) := by
  obtain ⟨h1, h2⟩ := own_setCells (zeros (n - i)) _ (i * 4) _ h
  refine ⟨?_, h2⟩
  have h3 := own_shrink h1 hi
  have hz := zeros_length (n - i)
  have hl2 := length_enc L
  rwa [setL_eq _ _ _ (by omega), List.take_left' (by rw [List.length_take]; omega), take_enc L i (by omega)] at h3
theorem filter_snoc {t : Int} {ps : List Pk} {j : Nat} {p : Pk} (h : ps[j]? = some p) : (ps.take (j + 1)).filter (keep t) = (ps.take j).filter (keep t) ++ (if keep t p then [p] else []) := by
  rw [take_snoc h, List.filter_append]; simp [List.filter_cons]
set_option maxHeartbeats 4000000 in
theorem deleteFunc35 (B : Nat) (v : Value) (ps : List Pk) (t : Int) (bt : Nat) (w : World) (h : w.ownsRow B 31 4 v ps.length (ps.flatMap Pk.enc)) (hn : ps.length ≤ 1000000) (hs : Blk w bt 3 #[.int .i64 t]) (hbt : some bt ≠ v.ownBlock) :
    Calls Try.prog 35 #[v, .func (.func 36) #[] #[.pointer (some ⟨bt, 0, none⟩)]] w fun e w' => ∃ v', e = .returned v' ∧ w'.ownsRow B 31 4 v' (ps.filter (keep t)).length ((ps.filter (keep t)).flatMap Pk.enc) ∧ v'.ownBlock = v.ownBlock ∧ w.grownBy w' v.ownBlock := by
  rcases idx_cases t ps 0 with ⟨h1, h2⟩ | ⟨j0, h1, h2, h3⟩
  · rw [h2]
    have H1 := Lib.hid h1
    clear h1 h2
    obtain ⟨A, c, rfl⟩ := slice_of_own h
    go_enter Try.func35, Try.ntmps35
    go_wp2_with fail
    refine (indexFunc38 B _ ps t bt _ h hn hs).mono ?_
    rintro e w1 ⟨rfl, hb1⟩
    rw [H1.out]
    go_wp2_with fail
    go_ret
    exact ⟨_, rfl, own_below h hb1, rfl, ⟨hb1.os, hb1.tape, hb1.output, hb1.size, fun k hk _ => hb1.block k hk⟩⟩
  · obtain ⟨g, cap, rfl, _, hgl⟩ := h.form (by omega)
    rw [Nat.zero_add] at h1
    have H1 := Lib.hid h1
    have hj0 : ((j0 : Int) == -1) = false := beq_eq_false_iff_ne.2 (by omega)
    have hcap := own_cap h
    clear h1
    have hstart : (ps.take (j0 + 1)).filter (keep t) = ps.take j0 := h3
    have HST := Lib.hid hstart
    clear h3 hstart
    go_enter Try.func35, Try.ntmps35
    go_wp2_with fail
    refine (indexFunc38 B _ ps t bt _ h hn hs).mono ?_
    rintro e w1 ⟨rfl, hb1⟩
    rw [H1.out]
    go_wp2_with fail
    go_loopw [5, 6] (fun a b wr => ∃ (i j : Nat) (L : List Pk), i < j ∧ j ≤ ps.length ∧ a = .int .i64 i ∧ b = .int .i64 j ∧ L.length = ps.length ∧ Hid (L.take i = (ps.take j).filter (keep t)) ∧ Hid (L.drop j = ps.drop j) ∧
        wr.ownsRow B 31 4 (.slice (some ⟨g, 0, none⟩) ps.length cap) ps.length (L.flatMap Pk.enc) ∧ w.grownBy wr (some g)) (fun _ b _ => ps.length - (intOf b).toNat)
    case atStart => exact ⟨j0, j0 + 1, ps, by omega, by omega, rfl, by go_num, rfl, Lib.hid HST.out.symm, Lib.hid rfl, own_below h hb1, ⟨hb1.os, hb1.tape, hb1.output, hb1.size, fun k hk _ => hb1.block k hk⟩⟩
    case round =>
      obtain ⟨i, j, L, hij, hj, rfl, rfl, hL, HT, HD, hown, hgr⟩ := hrel
      by_cases hlt : j < ps.length
      · obtain ⟨b', off', p, hA, _, hpk, e0, e1, e2, e3⟩ := (Sl.of_own hown hL).cells hlt
        simp only [Option.some.injEq, Addr.mk.injEq, and_true] at hA
        obtain ⟨rfl, rfl⟩ := hA
        simp only [Nat.zero_add] at e0 e1 e2 e3
        have hpk2 : ps[j]? = some p := by
          have := congrArg (fun l : List Pk => l[0]?) HD.out
          simp only [List.getElem?_drop, Nat.add_zero] at this
          rw [← this]; exact hpk
        have hfs := Lib.hid (filter_snoc (t := t) hpk2)
        have hbtr : Blk wr bt 3 #[.int .i64 t] := hs.grown hgr hbt
        have hgl2 := (hown.lt g rfl).2
        have hk0 : 0 ≤ (j : Int) := by omega
        have hk1 : (j : Int) < ps.length := by omega
        have hi0 : 0 ≤ (i : Int) := by omega
        have hi1 : (i : Int) < ps.length := by omega
        have HPK := Lib.hid hpk2
        clear hpk hpk2
        by_cases hto : (p.dst == t) = true
        · go_wp2_with (go_at_call 36; refine (closure36 p t bt _ (hbtr.alloc _)).mono ?_; rintro v2 w2 ⟨rfl, hb2⟩; rw [hto])
          have hbb : Below wr.heap.size wr w2 := ((Below.refl _ _).alloc (Nat.le_refl _) _).trans (hb2.mono (by simp))
          go_roundw
          case rel => exact ⟨i, j + 1, L, by omega, by omega, rfl, by go_num, hL, Lib.hid (by rw [HT.out, hfs.out, if_neg (by simp [keep, hto])]; simp), Lib.hid (by rw [← List.drop_drop, HD.out, List.drop_drop]), own_below hown hbb, hgr.trans ⟨hbb.os, hbb.tape, hbb.output, hbb.size, fun k hk _ => hbb.block k hk⟩⟩
          case measure => simp [intOf]; omega
        · rw [Bool.not_eq_true] at hto
          go_wp2_with (first
            | (go_at_call 36
               refine (closure36 p t bt _ (hbtr.alloc _)).mono ?_
               rintro v2 w2 ⟨rfl, hb2⟩
               rw [hto]
               have hbb : Below wr.heap.size wr w2 := ((Below.refl _ _).alloc (Nat.le_refl _) _).trans (hb2.mono (by simp))
               have hown2 := own_below hown hbb
               have kb := (Blk.new wr 31 #[.int .i64 p.num, .int .i64 p.frm, .int .i64 p.dst, .slice p.A p.n p.c]).below hb2 (by simp)
               have k0 : w2.cell? ⟨wr.heap.size, 0, none⟩ = some (.int .i64 p.num) := kb.cell 0
               have k1 : w2.cell? ⟨wr.heap.size, 1, none⟩ = some (.int .i64 p.frm) := kb.cell 1
               have k2 : w2.cell? ⟨wr.heap.size, 2, none⟩ = some (.int .i64 p.dst) := kb.cell 2
               have k3 : w2.cell? ⟨wr.heap.size, 3, none⟩ = some (.slice p.A p.n p.c) := kb.cell 3
               have HTH := Lib.hid (there_own hown2 (o := i * 4) (m := 4) (by omega))
               have HO2 := Lib.hid hown2
               have HBB := Lib.hid hbb
               clear hown2 hbb hb2 kb)
            | (refine wpList_store_mid (op := ⟨none, .store 31 _ _, _, _, _, _⟩) rfl 31 (.tmp 33) (.tmp 32) rfl g (i * 4) #[.int .i64 p.num, .int .i64 p.frm, .int .i64 p.dst, .slice p.A p.n p.c] rfl rfl HTH.out (by kernel_rfl) (by simp [Value.oneCell']) ?_))
          obtain ⟨h7, h8⟩ := own_setCells p.enc _ (i * 4) _ HO2.out
          rw [setL_enc L i p (by omega)] at h7
          have hbb := HBB.out
          go_roundw
          case rel =>
            refine ⟨i + 1, j + 1, L.set i p, by omega, by omega, by go_num, by go_num, by simpa using hL, Lib.hid ?_, Lib.hid ?_, h7, (hgr.trans ⟨hbb.os, hbb.tape, hbb.output, hbb.size, fun k hk _ => hbb.block k hk⟩).trans h8⟩
            · rw [hfs.out, if_pos (by simp [keep, hto]), ← HT.out, take_snoc (x := p) (by rw [List.getElem?_set_self (by omega)]), List.take_set_of_le (Nat.le_refl _)]
            · rw [List.drop_set_of_lt (by omega), ← List.drop_drop, HD.out, List.drop_drop]
          case measure => simp [intOf]; omega
      · obtain rfl : j = ps.length := by omega
        have hT : L.take i = ps.filter (keep t) := by rw [HT.out, List.take_of_length_le (Nat.le_refl _)]
        have hil : (ps.filter (keep t)).length = i := by rw [← hT, List.length_take]; omega
        have hcl : ∀ ty c, (Builtin.clear_ #[28] ty #[.slice (some ⟨g, i * 4, none⟩) (ps.length - i) c]).run Try.prog wr = .ok (.tuple #[]) (wr.setCells g (i * 4) (zeros (ps.length - i))) :=
          fun ty c => run_clear4 wr ty g _ _ c (by omega) (there_own hown (by omega))
        obtain ⟨h5, h6⟩ := cleared hown hL (i := i) (by omega)
        rw [hT] at h5
        have H5 := Lib.hid h5
        have H6 := Lib.hid h6
        have HIL := Lib.hid hil
        have hi0 : 0 ≤ (i : Int) := by omega
        have hi1 : (i : Int) < ps.length := by omega
        clear h5 h6 hT hil
        go_wp2_with fail
        go_ret
        exact ⟨_, rfl, by rw [HIL.out]; exact H5.out, rfl, hgr.trans H6.out⟩

set_option maxHeartbeats 2000000 in
theorem purge23 (B N : Nat) (v : Value) (last t : Int) (ps : List Pk) (w : World) (h : NetW w B N v last ps) (hl : ps.length ≤ 1000000) :
    Calls Try.prog 23 #[.pointer (some ⟨N, 0, none⟩), .int .i64 t] w fun e w' => e = .returned (.int .i64 ((ps.length : Int) - (ps.filter (keep t)).length)) ∧ ∃ v', NetW w' B N v' last (ps.filter (keep t)) ∧ NStep N v w v' w' := by
  obtain ⟨A, c, rfl⟩ := slice_of_own h.row
  have hN := h.box.lt
  have c1 : w.cell? ⟨N, 1, none⟩ = some (.slice A ps.length c) := h.box.cell 1
  have hbt : some w.heap.size ≠ (Value.slice A ps.length c).ownBlock := fun e => by have := (h.row.lt _ e.symm).2; omega
  have h1 := h.alloc (.cells #[.int .i64 t] 3)
  have hlf := List.length_filter_le (keep t) ps
  go_enter Try.func23, Try.ntmps23
  go_wp2_with fail
  refine (deleteFunc35 B _ ps t _ _ h1.row hl (Blk.new _ _ _) hbt).mono ?_
  rintro e w2 ⟨v', rfl, q1, q2, q3⟩
  have hnet := h1.put q3 q1 q2
  have hst : NStep N (.slice A ps.length c) w v' w2 := ⟨q3.os, q3.tape, q3.output, by have := q3.size; simp at this; omega, fun k hk k1 k2 => (q3.block k (by simp; omega) k2).trans (Below.heap_alloc _ _ _ hk), fun g hg => .inl (by rw [← q2]; exact hg)⟩
  have hst2 := hst.setCell 1 v'
  have hb2 := h1.box.grown q3 h1.ne
  have d1 : w2.cell? ⟨N, 1, none⟩ = some (.slice A ps.length c) := hb2.cell 1
  have f1 := hb2.frozen 1
  obtain ⟨A', c', rfl⟩ := slice_of_own q1
  have HN := Lib.hid hnet
  have HS := Lib.hid hst2
  clear hnet hst hst2 hb2 q1 q2 q3
  go_wp2_with fail
  go_ret
  exact ⟨rfl, _, HN.out, HS.out⟩
end Go.Proofs.Ytledcmcpinjboaa
