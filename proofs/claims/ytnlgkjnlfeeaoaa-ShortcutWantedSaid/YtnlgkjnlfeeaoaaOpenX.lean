/-
Arguments of the statements of refmeshlaw29: entries, references.
-/
import Derived.Test.YtnlgkjnlfeeaoaaOpen
import Derived.Test.YtnlgkjnlfeeaoaaK
namespace Go.Proofs.Ytnlgkjnlfeeaoaa
open Go.RowKit Go.ChangeShapes Go.WideShapes Go.Deep

theorem leaves34 : leavesF Try.prog 5 34 = some [3, 29, 3, 3, 3, 3, 3, 4, 4, 4, 3, 3] := by kernel_rfl
theorem leaves36 : leavesF Try.prog 5 36 = some [3, 29, 3, 3, 3, 3, 3, 4, 4, 4, 3, 3] := by kernel_rfl
theorem leaves39 : leavesF Try.prog 5 39 = some [3, 2, 3, 29, 3, 3, 3, 4] := by kernel_rfl
section
variable {H : Type} {enc : TypeId × Value → H} {w : World} {base : Nat} {spare : Nat → Bool} {held : Bool}
theorem leaf_i64 {m : Nat} {v : Value} {y : DataW H × List MemPlace} (h : DataW.trod enc Try.prog w base spare held m 3 [v] = some y) : ∃ n, v = .int .i64 n := by
  obtain ⟨n, hn, _⟩ := DataW.trod_int Try.underlying3 h
  exact ⟨n, by simpa using hn⟩
theorem leaf_int64 {m : Nat} {v : Value} {y : DataW H × List MemPlace} (h : DataW.trod enc Try.prog w base spare held m 2 [v] = some y) : ∃ n, v = .int .i64 n := by
  obtain ⟨n, hn, _⟩ := DataW.trod_int Try.underlying2 h
  exact ⟨n, by simpa using hn⟩
theorem leaf_u64 {m : Nat} {v : Value} {y : DataW H × List MemPlace} (h : DataW.trod enc Try.prog w base spare held m 29 [v] = some y) : ∃ n, v = .int .u64 n := by
  obtain ⟨n, hn, _⟩ := DataW.trod_int Try.underlying29 h
  exact ⟨n, by simpa using hn⟩
theorem leaf_bool {m : Nat} {v : Value} {y : DataW H × List MemPlace} (h : DataW.trod enc Try.prog w base spare held m 4 [v] = some y) : ∃ n, v = .bool n := by
  obtain ⟨n, hn, _⟩ := DataW.trod_bool Try.underlying4 h
  exact ⟨n, by simpa using hn⟩
theorem list12 {cs : List Value} {a b c d e f g h i j k l : Value} (hl : cs.length = 12) (h0 : cs[0]? = some a) (h1 : cs[1]? = some b) (h2 : cs[2]? = some c) (h3 : cs[3]? = some d) (h4 : cs[4]? = some e) (h5 : cs[5]? = some f)
    (h6 : cs[6]? = some g) (h7 : cs[7]? = some h) (h8 : cs[8]? = some i) (h9 : cs[9]? = some j) (h10 : cs[10]? = some k) (h11 : cs[11]? = some l) : cs = [a, b, c, d, e, f, g, h, i, j, k, l] := by
  apply List.ext_getElem?
  intro n
  rcases Nat.lt_or_ge n 12 with hn | hn
  · rcases n with _ | _ | _ | _ | _ | _ | _ | _ | _ | _ | _ | _ | n <;> first | assumption | omega
  · rw [List.getElem?_eq_none (by omega), List.getElem?_eq_none (by simpa using hn)]
theorem list8 {cs : List Value} {a b c d e f g h : Value} (hl : cs.length = 8) (h0 : cs[0]? = some a) (h1 : cs[1]? = some b) (h2 : cs[2]? = some c) (h3 : cs[3]? = some d) (h4 : cs[4]? = some e) (h5 : cs[5]? = some f)
    (h6 : cs[6]? = some g) (h7 : cs[7]? = some h) : cs = [a, b, c, d, e, f, g, h] := by
  apply List.ext_getElem?
  intro n
  rcases Nat.lt_or_ge n 8 with hn | hn
  · rcases n with _ | _ | _ | _ | _ | _ | _ | _ | n <;> first | assumption | omega
  · rw [List.getElem?_eq_none (by omega), List.getElem?_eq_none (by simpa using hn)]
theorem ent_of_leaves {cs : List Value} (h : LeafRead enc Try.prog w base spare held [3, 29, 3, 3, 3, 3, 3, 4, 4, 4, 3, 3] cs) : ∃ e : Ent, cs = e.enc := by
  obtain ⟨hl, hr⟩ := h
  obtain ⟨v0, _, _, c0, t0⟩ := hr 0 3 rfl
  obtain ⟨v1, _, _, c1, t1⟩ := hr 1 29 rfl
  obtain ⟨v2, _, _, c2, t2⟩ := hr 2 3 rfl
  obtain ⟨v3, _, _, c3, t3⟩ := hr 3 3 rfl
  obtain ⟨v4, _, _, c4, t4⟩ := hr 4 3 rfl
  obtain ⟨v5, _, _, c5, t5⟩ := hr 5 3 rfl
  obtain ⟨v6, _, _, c6, t6⟩ := hr 6 3 rfl
  obtain ⟨v7, _, _, c7, t7⟩ := hr 7 4 rfl
  obtain ⟨v8, _, _, c8, t8⟩ := hr 8 4 rfl
  obtain ⟨v9, _, _, c9, t9⟩ := hr 9 4 rfl
  obtain ⟨v10, _, _, c10, t10⟩ := hr 10 3 rfl
  obtain ⟨v11, _, _, c11, t11⟩ := hr 11 3 rfl
  obtain ⟨a, rfl⟩ := leaf_i64 t0
  obtain ⟨n, rfl⟩ := leaf_u64 t1
  obtain ⟨m, rfl⟩ := leaf_i64 t2
  obtain ⟨s, rfl⟩ := leaf_i64 t3
  obtain ⟨x, rfl⟩ := leaf_i64 t4
  obtain ⟨y, rfl⟩ := leaf_i64 t5
  obtain ⟨d, rfl⟩ := leaf_i64 t6
  obtain ⟨t, rfl⟩ := leaf_bool t7
  obtain ⟨w, rfl⟩ := leaf_bool t8
  obtain ⟨g, rfl⟩ := leaf_bool t9
  obtain ⟨p, rfl⟩ := leaf_i64 t10
  obtain ⟨q, rfl⟩ := leaf_i64 t11
  exact ⟨⟨a, n, m, s, x, y, d, t, w, g, p, q⟩, list12 hl c0 c1 c2 c3 c4 c5 c6 c7 c8 c9 c10 c11⟩
theorem rf_of_leaves {cs : List Value} (h : LeafRead enc Try.prog w base spare held [3, 2, 3, 29, 3, 3, 3, 4] cs) : ∃ r : Rf, cs = [.int .i64 r.k, .int .i64 r.i, .int .i64 r.o, .int .u64 r.n, .int .i64 r.m, .int .i64 r.s, .int .i64 r.c, .bool r.w] := by
  obtain ⟨hl, hr⟩ := h
  obtain ⟨v0, _, _, c0, t0⟩ := hr 0 3 rfl
  obtain ⟨v1, _, _, c1, t1⟩ := hr 1 2 rfl
  obtain ⟨v2, _, _, c2, t2⟩ := hr 2 3 rfl
  obtain ⟨v3, _, _, c3, t3⟩ := hr 3 29 rfl
  obtain ⟨v4, _, _, c4, t4⟩ := hr 4 3 rfl
  obtain ⟨v5, _, _, c5, t5⟩ := hr 5 3 rfl
  obtain ⟨v6, _, _, c6, t6⟩ := hr 6 3 rfl
  obtain ⟨v7, _, _, c7, t7⟩ := hr 7 4 rfl
  obtain ⟨k, rfl⟩ := leaf_i64 t0
  obtain ⟨i, rfl⟩ := leaf_int64 t1
  obtain ⟨o, rfl⟩ := leaf_i64 t2
  obtain ⟨n, rfl⟩ := leaf_u64 t3
  obtain ⟨m, rfl⟩ := leaf_i64 t4
  obtain ⟨s, rfl⟩ := leaf_i64 t5
  obtain ⟨c, rfl⟩ := leaf_i64 t6
  obtain ⟨w, rfl⟩ := leaf_bool t7
  exact ⟨⟨k, i, o, n, m, s, c, w⟩, list8 hl c0 c1 c2 c3 c4 c5 c6 c7⟩

theorem ents_of_trod {t e : TypeId} {fuel : Nat} {A : Option Addr} {n cp : Nat} {x : DataW H × List MemPlace} (ht : Try.prog.underlying t = some (.slice e)) (hlv : leavesF Try.prog 5 e = some [3, 29, 3, 3, 3, 3, 3, 4, 4, 4, 3, 3]) (hc : Try.prog.cellsOf e = 12)
    (h : DataW.trod enc Try.prog w 0 spare held fuel t [.slice A n cp] = some x) : n ≤ maxLen ∧ n ≤ cp ∧ ∃ es, Ents w w.heap.size A n es := by
  rcases open_slice ht h with ⟨hcs, _⟩ | ⟨a, len, cap, m, n', D, Pl, hcs, _, hl, hm, hmm, _, hi⟩
  · simp at hcs
    obtain ⟨rfl, rfl, rfl⟩ := hcs
    exact ⟨Nat.zero_le _, Nat.le_refl _, [], rfl, fun h => absurd h (by omega)⟩
  · simp at hcs
    obtain ⟨rfl, rfl, rfl⟩ := hcs
    have hle : n ≤ m := by rw [hmm]; split <;> omega
    obtain ⟨es, hel, hes⟩ := choose_list (n := n) (Q := fun i (e' : Ent) => ∃ cs', w.cells? 0 (a.add (i * 12)) 12 = some cs' ∧ cs' = e'.enc) (fun i hin => by
      obtain ⟨cs', h1, h2⟩ := hi i (by omega)
      obtain ⟨e', he'⟩ := ent_of_leaves (trod_leaves 5 e _ _ _ _ hlv h2)
      exact ⟨e', cs', by rw [← hc]; exact h1, he'⟩)
    refine ⟨by omega, hl, es, hel, fun h0 => ?_⟩
    have hcell : ∀ (i : Nat) (e' : Ent), es[i]? = some e' → ∀ (j : Nat) (v : Value), e'.enc[j]? = some v → w.cell? ((a.add (i * 12)).add j) = some v := by
      intro i e' he' j v hv
      obtain ⟨cs', h1, rfl⟩ := hes i e' he'
      obtain ⟨_, _, h3⟩ := World.cells?_some h1
      have : j < e'.enc.length := (List.getElem?_eq_some_iff.1 hv).1
      rw [h3 j this, hv]
    have h00 : 0 < es.length := by omega
    have hc0 := hcell 0 es[0] (List.getElem?_eq_getElem h00) 0 _ rfl
    obtain ⟨b, off, spot⟩ := a
    have hspot : spot = none := by simpa [Addr.add] using World.cell?_spot hc0
    subst hspot
    refine ⟨b, off, rfl, by simpa [Addr.add] using World.block_lt_of_cell? w _ hc0, fun i e' he' j v hv => ?_⟩
    rw [← hcell i e' he' j v hv]
    congr 1
    unfold Addr.add
    by_cases hi0 : i * 12 = 0 <;> by_cases hj0 : j = 0 <;> simp_all
end
theorem own_ : ownKnob Try.prog.godebug = none := by kernel_rfl
theorem laidOut_ : laidOutB Try.prog = true := by kernel_rfl
end Go.Proofs.Ytnlgkjnlfeeaoaa
