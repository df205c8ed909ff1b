/-
How an act that came in reads in memory; what the listed variables give.
-/
import Derived.Test.YtoejjboanggenaaGreatDoorOpen
import Derived.Test.YtoejjboanggenaaGreatDoorH
import Derived.Test.YtoejjboanggenaaGreatDoorG
import Derived.Lib.LaidU8
namespace Go.Proofs.YtoejjboanggenaaGreatDoor
open Go.RowKit Go.ChangeShapes Go.WideShapes Go.Deep
set_option linter.unusedVariables false

theorem leaves25 : leavesF Tryz.prog 5 25 = some [3, 3, 3, 9, 9, 22, 23] := by kernel_rfl
theorem wf_I64 {n : Int} (h : (Lit.int .i64 n).wf = true) : I64 n := by
  unfold I64
  simpa [Lit.wf, IntKind.min, IntKind.max, IntKind.signed, IntKind.bits] using h
section
variable {H : Type} {enc : TypeId × Value → H} {w : World} {base : Nat} {spare : Nat → Bool} {held : Bool}
theorem leaf_i64 {m : Nat} {v : Value} {y : DataW H × List MemPlace} (h : DataW.trod enc Tryz.prog w base spare held m 3 [v] = some y) : ∃ n, v = .int .i64 n ∧ I64 n := by
  obtain ⟨n, hn, _, hw⟩ := DataW.trod_int Tryz.underlying3 h
  exact ⟨n, by simpa using hn, wf_I64 hw⟩
theorem leaf_i64b {m : Nat} {v : Value} {y : DataW H × List MemPlace} (h : DataW.trod enc Tryz.prog w base spare held m 2 [v] = some y) : ∃ n, v = .int .i64 n ∧ I64 n := by
  obtain ⟨n, hn, _, hw⟩ := DataW.trod_int Tryz.underlying2 h
  exact ⟨n, by simpa using hn, wf_I64 hw⟩
theorem leaf_str {m : Nat} {v : Value} {y : DataW H × List MemPlace} (h : DataW.trod enc Tryz.prog w base spare held m 9 [v] = some y) : ∃ s, v = .string s ∧ s.size ≤ maxLen := by
  obtain ⟨s, hs, _, hl⟩ := DataW.trod_string Tryz.underlying9 h
  exact ⟨s, by simpa using hs, hl⟩
theorem ints_of_trod {t e : TypeId} {c : Nat} (ht : Tryz.prog.underlying t = some (.slice e)) (he : Tryz.prog.underlying e = some (.int .i64)) (hce : Tryz.prog.cellsOf e = 1) {m : Nat} {v : Value} {y : DataW H × List MemPlace} (h : DataW.trod enc Tryz.prog w 0 spare held m t [v] = some y) :
    ∃ A n c zs, v = .slice A n c ∧ n ≤ maxLen ∧ Ints w w.heap.size A n zs ∧ ∀ z ∈ zs, I64 z := by
  rcases open_slice ht h with ⟨hcs, _⟩ | ⟨a, len, cap, m, n', D, Pl, hcs, _, hl, hm, hmm, _, hi⟩
  · simp at hcs
    subst hcs
    exact ⟨none, 0, 0, [], rfl, Nat.zero_le _, ⟨rfl, fun h => absurd h (by omega)⟩, by simp⟩
  · simp at hcs
    subst hcs
    have hle : len ≤ m := by rw [hmm]; split <;> omega
    obtain ⟨zs, hel, hes⟩ := choose_list (n := len) (Q := fun i (z : Int) => w.cell? (a.add i) = some (.int .i64 z) ∧ I64 z) (fun i hin => by
      obtain ⟨cs', h1, h2⟩ := hi i (by omega)
      rw [hce, Nat.mul_one] at h1
      obtain ⟨_, _, h3⟩ := World.cells?_some h1
      obtain ⟨z, rfl, _, hw⟩ := DataW.trod_int he h2
      refine ⟨z, ?_, wf_I64 hw⟩
      have := h3 0 (by simp)
      rw [show ((a.add i).add 0) = a.add i from by unfold Addr.add; simp] at this
      simpa using this)
    refine ⟨some a, len, cap, zs, rfl, by omega, ⟨by simpa using hel, fun h0 => ?_⟩, fun z hz => ?_⟩
    · have h00 : 0 < zs.length := by omega
      have hc0 := (hes 0 zs[0] (List.getElem?_eq_getElem h00)).1
      obtain ⟨b, off, spot⟩ := a
      have hspot : spot = none := by simpa [Addr.add] using World.cell?_spot hc0
      subst hspot
      refine ⟨b, off, rfl, by simpa [Addr.add] using World.block_lt_of_cell? w _ hc0, fun j v hv => ?_⟩
      rw [List.getElem?_map] at hv
      obtain ⟨z, hz, rfl⟩ := Option.map_eq_some_iff.1 hv
      have := (hes j z hz).1
      rwa [show ((⟨b, off, none⟩ : Addr).add j) = ⟨b, off + j, none⟩ from by unfold Addr.add; split <;> simp_all] at this
    · obtain ⟨j, hj⟩ := List.mem_iff_getElem?.1 hz
      exact (hes j z hj).2
theorem list7 {cs : List Value} {a b c d e f g : Value} (hl : cs.length = 7) (h0 : cs[0]? = some a) (h1 : cs[1]? = some b) (h2 : cs[2]? = some c) (h3 : cs[3]? = some d) (h4 : cs[4]? = some e) (h5 : cs[5]? = some f) (h6 : cs[6]? = some g) : cs = [a, b, c, d, e, f, g] := by
  apply List.ext_getElem?
  intro n
  rcases Nat.lt_or_ge n 7 with hn | hn
  · rcases n with _ | _ | _ | _ | _ | _ | _ | n <;> first | assumption | omega
  · rw [List.getElem?_eq_none (by omega), List.getElem?_eq_none (by simpa using hn)]
theorem act_of_leaves {cs : List Value} (h : LeafRead enc Tryz.prog w 0 spare held [3, 3, 3, 9, 9, 22, 23] cs) :
    ∃ (v : Av) (d : Ad), cs = v.cells.toList ∧ Reads w w.heap.size v d ∧ Wf d ∧ v.n ≤ maxLen ∧ v.n2 ≤ maxLen ∧ v.nm.size ≤ maxLen ∧ v.mt.size ≤ maxLen := by
  obtain ⟨hl, hr⟩ := h
  obtain ⟨v0, _, _, c0, t0⟩ := hr 0 3 rfl
  obtain ⟨v1, _, _, c1, t1⟩ := hr 1 3 rfl
  obtain ⟨v2, _, _, c2, t2⟩ := hr 2 3 rfl
  obtain ⟨v3, _, _, c3, t3⟩ := hr 3 9 rfl
  obtain ⟨v4, _, _, c4, t4⟩ := hr 4 9 rfl
  obtain ⟨v5, _, _, c5, t5⟩ := hr 5 22 rfl
  obtain ⟨v6, _, _, c6, t6⟩ := hr 6 23 rfl
  obtain ⟨k, rfl, _⟩ := leaf_i64 t0
  obtain ⟨a, rfl, ha⟩ := leaf_i64 t1
  obtain ⟨b, rfl, hb⟩ := leaf_i64 t2
  obtain ⟨nm, rfl, hnm⟩ := leaf_str t3
  obtain ⟨mt, rfl, hmt⟩ := leaf_str t4
  obtain ⟨A, n, c, zs, rfl, hn, hz, hzI⟩ := ints_of_trod (c := 0) Tryz.underlying22 Tryz.underlying2 (by kernel_rfl) t5
  obtain ⟨A2, n2, cc2, ys, rfl, hn2, hy, hyI⟩ := ints_of_trod (c := 0) Tryz.underlying23 Tryz.underlying3 (by kernel_rfl) t6
  exact ⟨⟨k, a, b, nm, mt, A, n, c, A2, n2, cc2⟩, ⟨k, a, b, nm, mt, zs, ys⟩, list7 hl c0 c1 c2 c3 c4 c5 c6, ⟨rfl, rfl, rfl, rfl, rfl, hz, hy⟩, ⟨ha, hb, hzI, hyI⟩, hn, hn2, hnm, hmt⟩
theorem act_of_trod {fuel : Nat} {v0 : Value} {x : DataW H × List MemPlace} (hs : ∃ cs, v0 = .agg cs) (h : DataW.trod enc Tryz.prog w 0 spare held fuel 25 v0.cells.toList = some x) :
    ∃ (v : Av) (d : Ad), v0 = .agg v.cells ∧ Reads w w.heap.size v d ∧ Wf d ∧ v.n ≤ maxLen ∧ v.n2 ≤ maxLen ∧ v.nm.size ≤ maxLen ∧ v.mt.size ≤ maxLen := by
  obtain ⟨cs, rfl⟩ := hs
  obtain ⟨v, d, h1, h2⟩ := act_of_leaves (trod_leaves 5 25 _ _ _ _ leaves25 h)
  refine ⟨v, d, ?_, h2⟩
  rw [show cs = v.cells from Array.toList_inj.1 h1]
end
theorem own_ : ownKnob Tryz.prog.godebug = none := by kernel_rfl
theorem laidOut_ : laidOutB Tryz.prog = true := by kernel_rfl

/-! ### The listed variables -/
theorem tabIs_of_reads {P : Program} {W : World} {name : String} {k : IntKind} {zs : List Int} {g : Nat} {t e : TypeId} {n : Nat}
    (hg : P.globalNamed name = some g) (hty : (P.globals[g]?).map (·.type) = some t) (ht : P.underlying t = some (.array n e)) (he : P.underlying e = some (.int k)) (hce : P.cellsOf e = 1) (hct : P.cellsOf t = n)
    (h : Lib.VarReads P W name (Lib.tabData k zs)) : Lib.TabIs P W name k zs := by
  obtain ⟨g', t', cs, fuel, p, h1, h2, h3, h4⟩ := h
  rw [hg] at h1
  obtain rfl := Option.some.inj h1
  rw [hty] at h2
  obtain rfl := Option.some.inj h2
  have := Lib.cells_of_tab ht he hce hct h4
  unfold Lib.TabIs
  rw [h3, ← this]
theorem iface_of_reads {P : Program} {W : World} {name nm : String} {d : DataW Unit} {g : Nat} {t : TypeId} {ms : Array (String × TypeId)} (hg : P.globalNamed name = some g) (hty : (P.globals[g]?).map (·.type) = some t) (ht : P.underlying t = some (.interface ms))
    (h : Lib.VarReads P W name (.iface nm d)) : ∃ tp p, W.var? P name = some #[.iface tp p] := by
  obtain ⟨g', t', cs, fuel, p, h1, h2, h3, h4⟩ := h
  rw [hg] at h1
  obtain rfl := Option.some.inj h1
  rw [hty] at h2
  obtain rfl := Option.some.inj h2
  obtain ⟨_, u, v, hcs, _⟩ := iface_of_trod ht h4
  refine ⟨u, v, ?_⟩
  rw [h3]
  congr 1
  exact Array.toList_inj.1 hcs
theorem strs_of_reads {W : World} {name : String} {ss : List (List UInt8)} {g n : Nat} {t : TypeId} (hg : Tryz.prog.globalNamed name = some g) (hty : (Tryz.prog.globals[g]?).map (·.type) = some t) (ht : Tryz.prog.underlying t = some (.slice 9)) (hn : ss.length = n + 1)
    (h : Lib.VarReads Tryz.prog W name (.slice (ss.map fun s => .lit (.string s)) [])) : ∃ A c, W.cell? ⟨g, 0, none⟩ = some (.slice A (n + 1) c) ∧ Strs W W.heap.size A (n + 1) (ss.map fun s => ⟨s.toArray⟩) := by
  obtain ⟨g', t', cs, fuel, p, h1, h2, h3, h4⟩ := h
  rw [hg] at h1
  obtain rfl := Option.some.inj h1
  rw [hty] at h2
  obtain rfl := Option.some.inj h2
  rcases DataW.trod_slice ht h4 with ⟨hcs, hx⟩ | ⟨a, len, cap, elems, rest, m, rfl, hcs, hx, _, _, _, hel, hi, _⟩
  · simp at hx
  · simp only [Prod.mk.injEq, DataW.slice.injEq] at hx
    obtain ⟨⟨hx1, _⟩, _⟩ := hx
    have hlen : len = n + 1 := by
      have := congrArg List.length hx1
      simp only [List.length_map] at this
      omega
    subst hlen
    have hcell : W.cell? ⟨g, 0, none⟩ = some (.slice (some a) (n + 1) cap) := by
      have := World.var?_cell hg h3 0
      rw [show cs = #[.slice (some a) (n + 1) cap] from Array.toList_inj.1 hcs] at this
      simpa using this
    have hc9 : Tryz.prog.cellsOf 9 = 1 := by kernel_rfl
    have hes : ∀ i s, ss[i]? = some s → W.cell? (a.add i) = some (.string ⟨s.toArray⟩) := fun i s hs => by
      have hil : i < n + 1 := by rw [← hn]; exact (List.getElem?_eq_some_iff.1 hs).1
      have h5 := hi i hil
      have hel' : i < elems.length := by omega
      rw [List.getElem?_eq_getElem hel', hc9, Nat.mul_one] at h5
      obtain ⟨cs', h6, h7⟩ := Option.bind_eq_some_iff.1 h5
      obtain ⟨s', rfl, h8, _⟩ := DataW.trod_string Tryz.underlying9 h7
      have h9 : (elems.map (·.1))[i]? = some (.lit (.string s'.data.toList)) := by
        rw [List.getElem?_map, List.getElem?_eq_getElem hel', h8]
        rfl
      rw [← hx1, List.getElem?_map, hs] at h9
      simp only [Option.map_some, Option.some.injEq, DataW.lit.injEq, Lit.string.injEq] at h9
      obtain ⟨_, _, h10⟩ := World.cells?_some h6
      have := h10 0 (by simp)
      rw [show ((a.add i).add 0) = a.add i from by unfold Addr.add; simp] at this
      rw [this]
      simp [h9]
    refine ⟨some a, cap, hcell, by simp [hn], fun h0 => ?_⟩
    have h00 : 0 < ss.length := by omega
    have hc0 := hes 0 ss[0] (List.getElem?_eq_getElem h00)
    obtain ⟨b, off, spot⟩ := a
    have hspot : spot = none := by simpa [Addr.add] using World.cell?_spot hc0
    subst hspot
    refine ⟨b, off, rfl, by simpa [Addr.add] using World.block_lt_of_cell? W _ hc0, fun j v hv => ?_⟩
    rw [List.map_map, List.getElem?_map] at hv
    obtain ⟨s, hs, rfl⟩ := Option.map_eq_some_iff.1 hv
    have := hes j s hs
    rwa [show ((⟨b, off, none⟩ : Addr).add j) = ⟨b, off + j, none⟩ from by unfold Addr.add; split <;> simp_all] at this
end Go.Proofs.YtoejjboanggenaaGreatDoor
