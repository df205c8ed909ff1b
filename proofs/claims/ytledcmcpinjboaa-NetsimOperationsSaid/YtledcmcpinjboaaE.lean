/-
Contracts: with, Deliver, Drop, Double.
-/
import Derived.Test.YtledcmcpinjboaaD
import Derived.Deep.RegionWith
namespace Go.Proofs.Ytledcmcpinjboaa
open Go.RowKit
set_option linter.unusedVariables false

/-- the position that an index means. -/
def pos (i : Int) (n : Nat) : Nat := (i % (n : Int)).toNat
theorem pos_lt (i : Int) {n : Nat} (h : 0 < n) : pos i n < n := by
  have h1 := Int.emod_nonneg i (by omega : (n : Int) ≠ 0)
  have h2 := Int.emod_lt_of_pos i (by omega : 0 < (n : Int))
  unfold pos; omega
theorem pos_cast (i : Int) {n : Nat} (h : 0 < n) : ((pos i n : Nat) : Int) = i % (n : Int) := by
  have h1 := Int.emod_nonneg i (by omega : (n : Int) ≠ 0)
  unfold pos; omega
theorem tmod_pos (i : Int) {n : Nat} (h : 0 < n) : (0 ≤ i.tmod n → i.tmod n = (pos i n : Int)) ∧ (i.tmod n < 0 → i.tmod n + n = (pos i n : Int)) := by
  rw [pos_cast i h]
  have h1 := Int.emod_nonneg i (by omega : (n : Int) ≠ 0)
  have h2 := Int.emod_lt_of_pos i (by omega : 0 < (n : Int))
  have h3 := Int.tmod_eq_emod (a := i) (b := (n : Int))
  constructor
  · intro h4
    rw [h3] at h4 ⊢
    split at h4 <;> split <;> simp_all <;> omega
  · intro h4
    rw [h3] at h4 ⊢
    split at h4 <;> split <;> simp_all <;> omega

theorem NetW.other {w : World} {B N : Nat} {v : Value} {last : Int} {ps : List Pk} (h : NetW w B N v last ps) (q : Addr) (u : Value) (h1 : N ≠ q.block) (h2 : some q.block ≠ v.ownBlock) : NetW (w.setCell q u) B N v last ps :=
  ⟨h.box.other q u h1, h.row.kept (row := some q.block) ⟨rfl, rfl, rfl, by simp, fun k _ hk => Below.heap_setCell w _ _ k (fun e => hk (by rw [e]))⟩ (by
    cases hv : v.ownBlock with
    | none => exact .inl rfl
    | some g => right; intro e; exact h2 (by rw [hv, e])), h.ne, h.le⟩
/-- the row of pending packets is turned, and stored back. -/
theorem NetW.put {w w' : World} {B N : Nat} {v v' : Value} {last : Int} {ps ps' : List Pk} (h : NetW w B N v last ps) (hg : w.grownBy w' v.ownBlock) (hr : w'.ownsRow B 31 4 v' ps'.length (ps'.flatMap Pk.enc)) (ho : v'.ownBlock = v.ownBlock) : NetW (w'.setCell ⟨N, 1, none⟩ v') B N v' last ps' := by
  have hb : Blk w' N 58 #[.int .i64 last, v] := h.box.grown hg h.ne
  refine ⟨by have := hb.set 1 v'; simpa using this, ?_, by rw [ho]; exact h.ne, h.le⟩
  refine hr.kept (row := some N) ⟨rfl, rfl, rfl, by simp, fun k _ hk => Below.heap_setCell w' _ _ k (fun e => hk (by rw [e]))⟩ ?_
  rw [ho]
  cases hv : v.ownBlock with
  | none => exact .inl rfl
  | some g => right; intro e; exact h.ne (by rw [hv, e])

/-- Deliver's closure. -/
structure Dlv (B N bn bp : Nat) (v : Value) (last : Int) (ps : List Pk) (k : Nat) (w : World) (v' : Value) (w' : World) : Prop where
  net : NetW w' B N v' last (ps.eraseIdx k)
  own : v'.ownBlock = v.ownBlock
  out : ∃ p, ps[k]? = some p ∧ Blk w' bp 31 #[.int .i64 p.num, .int .i64 p.frm, .int .i64 p.dst, .slice p.A p.n p.c]
  os : w'.os = w.os
  tape : w'.tape = w.tape
  output : w'.output = w.output
  size : w.heap.size ≤ w'.heap.size
  block : ∀ j, j < w.heap.size → j ≠ N → j ≠ bp → some j ≠ v.ownBlock → w'.heap[j]? = w.heap[j]?

set_option maxHeartbeats 2000000 in
theorem closure29 (B N bn bp k : Nat) (v : Value) (last : Int) (ps : List Pk) (a b c d : Value) (w : World) (h : NetW w B N v last ps) (hn : Blk w bn 24 #[.pointer (some ⟨N, 0, none⟩)]) (hp : Blk w bp 31 #[a, b, c, d])
    (h1 : Away w N v bn) (h2 : Away w N v bp) (h3 : bn ≠ bp) (hk : k < ps.length) (hl : ps.length ≤ 1000000) :
    Calls Try.prog 29 #[.int .i64 k, .pointer (some ⟨bn, 0, none⟩), .pointer (some ⟨bp, 0, none⟩)] w fun e w' => (∃ r, e = .returned r) ∧ ∃ v', Dlv B N bn bp v last ps k w v' w' := by
  obtain ⟨g, cap, rfl, _, hgl⟩ := h.row.form (by omega)
  obtain ⟨b', off', p, hA, _, hpk, e0, e1, e2, e3⟩ := (Sl.of_own h.row rfl).cells hk
  simp only [Option.some.injEq, Addr.mk.injEq, and_true] at hA
  obtain ⟨rfl, rfl⟩ := hA
  simp only [Nat.zero_add] at e0 e1 e2 e3
  have hk0 : 0 ≤ (k : Int) := by omega
  have hk1 : (k : Int) < ps.length := by omega
  have c0 : w.cell? ⟨bn, 0, none⟩ = some (.pointer (some ⟨N, 0, none⟩)) := hn.cell 0
  have c1 : w.cell? ⟨N, 1, none⟩ = some (.slice (some ⟨g, 0, none⟩) ps.length cap) := h.box.cell 1
  have p0 : w.cell? ⟨bp, 0, none⟩ = some a := hp.cell 0
  have p1 : w.cell? ⟨bp, 1, none⟩ = some b := hp.cell 1
  have p2 : w.cell? ⟨bp, 2, none⟩ = some c := hp.cell 2
  have p3 : w.cell? ⟨bp, 3, none⟩ = some d := hp.cell 3
  have f0 := hp.frozen 0
  have f1 := hp.frozen 1
  have f2 := hp.frozen 2
  have f3 := hp.frozen 3
  go_enter Try.func29, Try.ntmps29
  go_wp2_with fail
  have hbN : bp ≠ N := h2.2.1
  have hbg : some bp ≠ (Value.slice (some ⟨g, 0, none⟩) ps.length cap).ownBlock := h2.2.2
  have n1 := (((h.other ⟨bp, 0, none⟩ (.int .i64 p.num) (Ne.symm hbN) hbg).other ⟨bp, 1, none⟩ (.int .i64 p.frm) (Ne.symm hbN) hbg).other ⟨bp, 2, none⟩ (.int .i64 p.dst) (Ne.symm hbN) hbg).other ⟨bp, 3, none⟩ (.slice p.A p.n p.c) (Ne.symm hbN) hbg
  have b1 := (((hp.set 0 (.int .i64 p.num)).set 1 (.int .i64 p.frm)).set 2 (.int .i64 p.dst)).set 3 (.slice p.A p.n p.c)
  have m1 := (((hn.other ⟨bp, 0, none⟩ (.int .i64 p.num) h3).other ⟨bp, 1, none⟩ (.int .i64 p.frm) h3).other ⟨bp, 2, none⟩ (.int .i64 p.dst) h3).other ⟨bp, 3, none⟩ (.slice p.A p.n p.c) h3
  have s1 : ∀ j, j ≠ bp → ((((w.setCell ⟨bp, 0, none⟩ (.int .i64 p.num)).setCell ⟨bp, 1, none⟩ (.int .i64 p.frm)).setCell ⟨bp, 2, none⟩ (.int .i64 p.dst)).setCell ⟨bp, 3, none⟩ (.slice p.A p.n p.c)).heap[j]? = w.heap[j]? := fun j hj =>
    (Below.heap_setCell _ ⟨bp, 3, none⟩ _ j hj).trans ((Below.heap_setCell _ ⟨bp, 2, none⟩ _ j hj).trans ((Below.heap_setCell _ ⟨bp, 1, none⟩ _ j hj).trans (Below.heap_setCell _ ⟨bp, 0, none⟩ _ j hj)))
  have z1 : ((((w.setCell ⟨bp, 0, none⟩ (.int .i64 p.num)).setCell ⟨bp, 1, none⟩ (.int .i64 p.frm)).setCell ⟨bp, 2, none⟩ (.int .i64 p.dst)).setCell ⟨bp, 3, none⟩ (.slice p.A p.n p.c)).heap.size = w.heap.size := by simp
  have o1 : ((((w.setCell ⟨bp, 0, none⟩ (.int .i64 p.num)).setCell ⟨bp, 1, none⟩ (.int .i64 p.frm)).setCell ⟨bp, 2, none⟩ (.int .i64 p.dst)).setCell ⟨bp, 3, none⟩ (.slice p.A p.n p.c)).os = w.os := rfl
  have o2 : ((((w.setCell ⟨bp, 0, none⟩ (.int .i64 p.num)).setCell ⟨bp, 1, none⟩ (.int .i64 p.frm)).setCell ⟨bp, 2, none⟩ (.int .i64 p.dst)).setCell ⟨bp, 3, none⟩ (.slice p.A p.n p.c)).tape = w.tape := rfl
  have o3 : ((((w.setCell ⟨bp, 0, none⟩ (.int .i64 p.num)).setCell ⟨bp, 1, none⟩ (.int .i64 p.frm)).setCell ⟨bp, 2, none⟩ (.int .i64 p.dst)).setCell ⟨bp, 3, none⟩ (.slice p.A p.n p.c)).output = w.output := rfl
  generalize ((((w.setCell ⟨bp, 0, none⟩ (.int .i64 p.num)).setCell ⟨bp, 1, none⟩ (.int .i64 p.frm)).setCell ⟨bp, 2, none⟩ (.int .i64 p.dst)).setCell ⟨bp, 3, none⟩ (.slice p.A p.n p.c)) = w1 at *
  have b2 : Blk w1 bp 31 #[.int .i64 p.num, .int .i64 p.frm, .int .i64 p.dst, .slice p.A p.n p.c] := by simpa using b1
  have q0 : w1.cell? ⟨bn, 0, none⟩ = some (.pointer (some ⟨N, 0, none⟩)) := m1.cell 0
  have q1 : w1.cell? ⟨N, 1, none⟩ = some (.slice (some ⟨g, 0, none⟩) ps.length cap) := n1.box.cell 1
  have hw : IntKind.i64.wrap ((k : Int) + 1) = (k : Int) + 1 := by rw [IntKind.wrap_i64]; omega
  have hgn : some bn ≠ some g := h1.2.2
  have hNg : some N ≠ some g := h.ne
  have hbg' : some bp ≠ some g := hbg
  have HN := Lib.hid n1
  have HB := Lib.hid b2
  have HM := Lib.hid m1
  have HS := Lib.hid s1
  have HZ := Lib.hid z1
  have HO1 := Lib.hid o1
  have HO2 := Lib.hid o2
  have HO3 := Lib.hid o3
  have HPK := Lib.hid hpk
  clear n1 b1 b2 m1 s1 z1 o1 o2 o3 hpk e0 e1 e2 e3 c0 c1 p0 p1 p2 p3 f0 f1 f2 f3 h1 h2 h hn hp
  go_region_with (go_at_call 30; refine (delete30 B g cap k ps _ (own_drew HN.out.row) hk hl).mono ?_; rintro e w2 ⟨rfl, hown, hgr⟩; have hq0 := (HM.out.drew.grown hgr hgn).cell 0; have hq1 := (HN.out.box.drew.grown hgr hNg).cell 1; have hf1 := (HN.out.box.drew.grown hgr hNg).frozen 1; have HOW := Lib.hid hown; have HGR := Lib.hid hgr; clear hown hgr)
  all_goals
    go_end0
    refine ⟨⟨_, rfl⟩, .slice (some ⟨g, 0, none⟩) (ps.length - 1) cap, ?_⟩
    have hgr := HGR.out
    have hlen : (ps.eraseIdx k).length = ps.length - 1 := by rw [List.length_eraseIdx_of_lt hk]
    refine ⟨HN.out.put ⟨hgr.os, hgr.tape, hgr.output, hgr.size, hgr.block⟩ (by rw [hlen]; exact HOW.out) rfl, rfl, ⟨p, HPK.out, (HB.out.drew.grown hgr hbg').other _ _ (by simpa using hbN)⟩, hgr.os.trans HO1.out, hgr.tape.trans HO2.out, hgr.output.trans HO3.out, ?_, ?_⟩
    · have h4 := hgr.size
      have h5 := HZ.out
      simp at h4 ⊢; omega
    · intro j hj h1 h2 h3
      refine (Below.heap_setCell w2 ⟨N, 1, none⟩ _ j (by simpa using h1)).trans ?_
      exact (hgr.block j (by show j < w1.heap.size; rw [HZ.out]; exact hj) h3).trans (HS.out j h2)

set_option maxHeartbeats 2000000 in
theorem with27_0 (fn : Fn) (cap : Array Value) (B N : Nat) (v : Value) (last i : Int) (w : World) (h : NetW w B N v last []) :
    Calls Try.prog 27 #[.pointer (some ⟨N, 0, none⟩), .int .i64 i, .func fn #[] cap] w fun e w' => e = .returned (.bool false) ∧ w = w' := by
  obtain ⟨Ao, co, rfl⟩ := slice_of_own h.row
  have c1 : w.cell? ⟨N, 1, none⟩ = some (.slice Ao 0 co) := h.box.cell 1
  go_enter Try.func27, Try.ntmps27
  go_wp2_with fail
  go_ret
  exact ⟨rfl, rfl⟩

set_option maxHeartbeats 2000000 in
theorem with27_29 (B N bn bp : Nat) (v : Value) (last i : Int) (ps : List Pk) (a b c d : Value) (w : World) (h : NetW w B N v last ps) (hn : Blk w bn 24 #[.pointer (some ⟨N, 0, none⟩)]) (hp : Blk w bp 31 #[a, b, c, d])
    (h1 : Away w N v bn) (h2 : Away w N v bp) (h3 : bn ≠ bp) (hl0 : 0 < ps.length) (hl : ps.length ≤ 1000000) :
    Calls Try.prog 27 #[.pointer (some ⟨N, 0, none⟩), .int .i64 i, .func (.func 29) #[] #[.pointer (some ⟨bn, 0, none⟩), .pointer (some ⟨bp, 0, none⟩)]] w fun e w' => e = .returned (.bool true) ∧ ∃ v', Dlv B N bn bp v last ps (pos i ps.length) w v' w' := by
  obtain ⟨Ao, co, rfl⟩ := slice_of_own h.row
  have c1 : w.cell? ⟨N, 1, none⟩ = some (.slice Ao ps.length co) := h.box.cell 1
  have hz : ((ps.length : Int) == 0) = false := beq_eq_false_iff_ne.2 (by omega)
  obtain ⟨t1, t2⟩ := tmod_pos i hl0
  have hpl := pos_lt i hl0
  go_enter Try.func27, Try.ntmps27
  go_wp2_with fail
  all_goals
    try rw [t1 (by omega)]
    refine (closure29 B N bn bp _ _ last ps a b c d _ h hn hp h1 h2 h3 hpl hl).mono ?_
    rintro e w2 ⟨⟨r, rfl⟩, hv⟩
    have HV := Lib.hid hv
    clear hv
    go_wp2_with fail
    go_ret
    exact ⟨rfl, HV.out⟩

set_option maxHeartbeats 2000000 in
theorem deliver15_0 (B N : Nat) (v : Value) (last i : Int) (w : World) (h : NetW w B N v last []) :
    Calls Try.prog 15 #[.pointer (some ⟨N, 0, none⟩), .int .i64 i] w fun e w' => e = .returned (.tuple #[.agg #[.int .i64 0, .int .i64 0, .int .i64 0, .slice none 0 0], .bool false]) ∧ Below w.heap.size w w' := by
  have h' := fun a b => (h.alloc a).alloc b
  go_enter Try.func15, Try.ntmps15
  go_wp2_with fail
  refine (with27_0 _ _ B N v last i _ (h' _ _)).mono ?_
  rintro e w2 ⟨rfl, rfl⟩
  go_wp2_with fail
  exact bodyPost_ret (v := .tuple #[.agg #[.int .i64 0, .int .i64 0, .int .i64 0, .slice none 0 0], .bool false]) (by simp [results, Try.results15, go_sem]) rfl ⟨rfl, ((Below.refl _ _).alloc (Nat.le_refl _) _).alloc (by simp) _⟩

/-- what a delivery leaves. -/
structure Dlv2 (B N : Nat) (v : Value) (last : Int) (ps : List Pk) (k : Nat) (w : World) (v' : Value) (w' : World) : Prop where
  net : NetW w' B N v' last (ps.eraseIdx k)
  step : NStep N v w v' w'
theorem Dlv.fin {B N : Nat} {v v' : Value} {last : Int} {ps : List Pk} {k : Nat} {w w' : World} {o1 o2 : Obj} (h : Dlv B N w.heap.size (w.heap.size + 1) v last ps k ((w.alloc o1).alloc o2) v' w') : NStep N v w v' w' := by
  have hb : Below w.heap.size w ((w.alloc o1).alloc o2) := ((Below.refl _ _).alloc (Nat.le_refl _) _).alloc (by simp) _
  have hz : ((w.alloc o1).alloc o2).heap.size = w.heap.size + 2 := by simp
  refine ⟨h.os.trans hb.os, h.tape.trans hb.tape, h.output.trans hb.output, by have := h.size; omega, fun j hj h1 h2 => ?_, fun g hg => .inl (by rw [← h.own]; exact hg)⟩
  exact (h.block j (by omega) h1 (by omega) h2).trans (hb.block j hj)
theorem NStep.setNew {N : Nat} {v v' : Value} {w w' : World} (h : NStep N v w v' w') (q : Addr) (u : Value) (hq : w.heap.size ≤ q.block) : NStep N v w v' (w'.setCell q u) :=
  ⟨h.os, h.tape, h.output, by simpa using h.size, fun k hk h1 h2 => (Below.heap_setCell w' _ _ k (by omega)).trans (h.block k hk h1 h2), h.lies⟩
theorem away_new {w : World} {B N : Nat} {v : Value} {last : Int} {ps : List Pk} {o1 o2 : Obj} (h : NetW w B N v last ps) (j : Nat) (hj : j = w.heap.size ∨ j = w.heap.size + 1) : Away ((w.alloc o1).alloc o2) N v j := by
  have h1 := h.box.lt
  refine ⟨by simp; omega, by omega, fun e => ?_⟩
  have := (h.row.lt j e.symm).2
  omega
theorem blk_two (w : World) (t1 t2 : TypeId) (c1 c2 : Array Value) : Blk ((w.alloc (.cells c1 t1)).alloc (.cells c2 t2)) w.heap.size t1 c1 ∧ Blk ((w.alloc (.cells c1 t1)).alloc (.cells c2 t2)) (w.heap.size + 1) t2 c2 := by
  refine ⟨(Blk.new _ _ _).alloc _, ?_⟩
  have := Blk.new (w.alloc (.cells c1 t1)) t2 c2
  rwa [World.size_alloc] at this

set_option maxHeartbeats 2000000 in
theorem deliver15 (B N : Nat) (v : Value) (last i : Int) (ps : List Pk) (w : World) (h : NetW w B N v last ps) (hl0 : 0 < ps.length) (hl : ps.length ≤ 1000000) :
    Calls Try.prog 15 #[.pointer (some ⟨N, 0, none⟩), .int .i64 i] w fun e w' => ∃ p v', ps[pos i ps.length]? = some p ∧ e = .returned (.tuple #[.agg #[.int .i64 p.num, .int .i64 p.frm, .int .i64 p.dst, .slice p.A p.n p.c], .bool true]) ∧ Dlv2 B N v last ps (pos i ps.length) w v' w' := by
  obtain ⟨k1, k2⟩ := blk_two w 24 31 #[.pointer (some ⟨N, 0, none⟩)] #[.int .i64 0, .int .i64 0, .int .i64 0, .slice none 0 0]
  have HK1 := Lib.hid k1
  have HK2 := Lib.hid k2
  clear k1 k2
  go_enter Try.func15, Try.ntmps15
  go_wp2_with fail
  refine (with27_29 B N _ _ v last i ps _ _ _ _ _ ((h.alloc _).alloc _) HK1.out HK2.out (away_new h _ (.inl rfl)) (away_new h _ (.inr rfl)) (by omega) hl0 hl).mono ?_
  rintro e w2 ⟨rfl, v', hv⟩
  obtain ⟨p, hp, hbp⟩ := hv.out
  have b0 : w2.cell? ⟨w.heap.size + 1, 0, none⟩ = some (.int .i64 p.num) := hbp.cell 0
  have b1 : w2.cell? ⟨w.heap.size + 1, 1, none⟩ = some (.int .i64 p.frm) := hbp.cell 1
  have b2 : w2.cell? ⟨w.heap.size + 1, 2, none⟩ = some (.int .i64 p.dst) := hbp.cell 2
  have b3 : w2.cell? ⟨w.heap.size + 1, 3, none⟩ = some (.slice p.A p.n p.c) := hbp.cell 3
  have f0 := hbp.frozen 0
  have f1 := hbp.frozen 1
  have f2 := hbp.frozen 2
  have f3 := hbp.frozen 3
  have HV := Lib.hid hv
  have HP := Lib.hid hp
  clear hv hp hbp
  go_wp2_with fail
  have hN := h.box.lt
  have hne : N ≠ w.heap.size + 1 := by omega
  have hne2 : some (w.heap.size + 1) ≠ v'.ownBlock := fun e => by rw [HV.out.own] at e; have := (h.row.lt _ e.symm).2; omega
  refine bodyPost_ret (v := .tuple #[.agg #[.int .i64 p.num, .int .i64 p.frm, .int .i64 p.dst, .slice p.A p.n p.c], .bool true]) (by simp [results, Try.results15, go_sem, b0, b1, b2, b3]) rfl ⟨p, v', HP.out, rfl, ?_, ?_⟩
  · exact (((HV.out.net.other _ _ hne hne2).other _ _ hne hne2).other _ _ hne hne2).other _ _ hne hne2
  · exact (((HV.out.fin.setNew _ _ (by simp)).setNew _ _ (by simp)).setNew _ _ (by simp)).setNew _ _ (by simp)
end Go.Proofs.Ytledcmcpinjboaa
