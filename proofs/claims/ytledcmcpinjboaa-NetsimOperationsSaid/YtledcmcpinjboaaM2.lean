/-
append of packets, from whatever slice of packets.
-/
import Derived.Test.YtledcmcpinjboaaM1
namespace Go.Proofs.Ytledcmcpinjboaa
open Go.RowKit
set_option linter.unusedVariables false

theorem Sl.flat {w : World} {ok : Nat → Prop} {b off n : Nat} {ps : List Pk} (h : Sl w ok (some ⟨b, off, none⟩) n ps) (h0 : 0 < n) (j : Nat) (u : Value) (hu : (ps.flatMap Pk.enc)[j]? = some u) : w.cell? ((⟨b, off, none⟩ : Addr).add j) = some u := by
  have hj := (List.getElem?_eq_some_iff.1 hu).1
  rw [length_enc] at hj
  obtain ⟨b', off', hA, _, hc⟩ := h.2 h0
  simp only [Option.some.injEq, Addr.mk.injEq, and_true] at hA
  obtain ⟨rfl, rfl⟩ := hA
  have hi : j / 4 < ps.length := by omega
  have hl : j % 4 < (ps[j / 4]).enc.length := by show j % 4 < 4; omega
  have h1 := hc (j / 4) ps[j / 4] (List.getElem?_eq_getElem hi) (j % 4) _ (List.getElem?_eq_getElem hl)
  have h2 := get_enc ps (j / 4) ps[j / 4] (List.getElem?_eq_getElem hi) (j % 4) _ (List.getElem?_eq_getElem hl)
  rw [show j / 4 * 4 + j % 4 = j from by omega, hu] at h2
  rw [← h2] at h1
  rw [← h1, add_none]
  congr 1
  simp
theorem run_append_src {ok : Nat → Prop} (w : World) (ty : TypeId) (B : Nat) (v : Value) (n : Nat) (xs : List Value) (hown : w.ownsRow B 31 4 v n xs) (A : Option Addr) (m c : Nat) (ps : List Pk) (hsl : Sl w ok A m ps) (hn : n ≤ 1000000) (hm : m ≤ 1000000) (hB : B ≤ w.heap.size) :
    ∃ v' w', (Builtin.append_ #[28, 28] ty #[v, .slice A m c]).run Try.prog w = .ok v' w' ∧ w'.ownsRow B 31 4 v' (n + m) (xs ++ ps.flatMap Pk.enc) ∧ w.grownBy w' v.ownBlock ∧ (v'.ownBlock = v.ownBlock ∨ v'.ownBlock = some w.heap.size) := by
  obtain ⟨i0, hi, hz0, hz1, hz2⟩ := info_parts info31
  cases A with
  | none =>
    obtain rfl : m = 0 := by
      rcases Nat.eq_zero_or_pos m with h | h
      · exact h
      · obtain ⟨_, _, h1, _⟩ := hsl.2 h; cases h1
    obtain rfl : ps = [] := List.eq_nil_of_length_eq_zero hsl.1
    refine ⟨v, w, ?_, by simpa using hown, World.grownBy.refl w _, .inl rfl⟩
    rcases hown.2 with ⟨rfl, rfl⟩ | ⟨g, cap, cur, rfl, _, _, hnc, _⟩
    · simp [Builtin.append_, run_underlying Try.underlying28, sizeOf, typeInfo, hi, Builtin.lenOf, Builtin.firstCells]
    · simp [Builtin.append_, run_underlying Try.underlying28, sizeOf, typeInfo, hi, Builtin.lenOf, Builtin.firstCells, hnc, storeCells]
  | some ad =>
    have hnews : ∀ j u, (ps.flatMap Pk.enc)[j]? = some u → w.cell? (ad.add j) = some u := by
      intro j u hu
      rcases Nat.eq_zero_or_pos m with h | h
      · subst h
        obtain rfl : ps = [] := List.eq_nil_of_length_eq_zero hsl.1
        simp at hu
      · obtain ⟨b, off, h1, _⟩ := hsl.2 h
        simp only [Option.some.injEq] at h1
        subst h1
        exact hsl.flat h j u hu
    obtain ⟨v', w', h1, h2, h3, _, h5⟩ := run_append_own_at (P := Try.prog) w B 28 ty 31 i0 _ 4 48 Try.underlying28 hi hz0 hz1 hz2 rfl (by decide) v n xs hown ad m c (ps.flatMap Pk.enc) (by rw [length_enc, hsl.1]) hnews (oneCell_enc ps) (by unfold maxLen; omega) (by omega) hB
    exact ⟨v', w', h1, h2, h3, h5⟩
theorem wpList_append_src {ok : Nat → Prop} {w : World} {ops : Array Oper} {rest : List Oper} {o : Oper} {a : Act} {Q : Exit → Act → World → Prop} (hgd : o.guard = none) (s x : Operand) (ho : o.op = .call { callee := .builtin .append, args := #[s, x], argTypes := #[28, 28] })
    (B : Nat) (v : Value) (n : Nat) (xs : List Value) (hs : a.eval s = v) (hown : w.ownsRow B 31 4 v n xs) (A : Option Addr) (m c : Nat) (ps : List Pk) (hx : a.eval x = .slice A m c) (hsl : Sl w ok A m ps) (hn : n ≤ 1000000) (hm : m ≤ 1000000) (hB : B ≤ w.heap.size)
    (h : ∀ v' w', w'.ownsRow B 31 4 v' (n + m) (xs ++ ps.flatMap Pk.enc) → w.grownBy w' v.ownBlock → (v'.ownBlock = v.ownBlock ∨ v'.ownBlock = some w.heap.size) → wpList Try.prog ops Q rest (a.put o.dst v') w') : wpList Try.prog ops Q (o :: rest) a w := by
  refine wpList_plain hgd fun K hK => ?_
  obtain ⟨v', w', hr, h2, h3, h4⟩ := run_append_src w o.type B v n xs hown A m c ps hsl hn hm hB
  unfold Oper.wp execOp
  simp only [ho, resolve, invoke, builtin, Sem.run_bind, Sem.run_pure, Result.andThen_ok, List.map_toArray, List.map_cons, List.map_nil, hs, hx, hr]
  exact hK _ _ (h v' w' h2 h3 h4)
theorem step_append_src {ok : Nat → Prop} {w : World} {ops : Array Oper} {o : Oper} {a : Act} {K : Act → World → Prop} {Q : Exit → Act → World → Prop} {E : Prop} (hgd : o.guard = none) (s x : Operand) (ho : o.op = .call { callee := .builtin .append, args := #[s, x], argTypes := #[28, 28] })
    (B : Nat) (v : Value) (n : Nat) (xs : List Value) (hs : a.eval s = v) (hown : w.ownsRow B 31 4 v n xs) (A : Option Addr) (m c : Nat) (ps : List Pk) (hx : a.eval x = .slice A m c) (hsl : Sl w ok A m ps) (hn : n ≤ 1000000) (hm : m ≤ 1000000) (hB : B ≤ w.heap.size)
    (h : ∀ v' w', w'.ownsRow B 31 4 v' (n + m) (xs ++ ps.flatMap Pk.enc) → w.grownBy w' v.ownBlock → (v'.ownBlock = v.ownBlock ∨ v'.ownBlock = some w.heap.size) → K (a.put o.dst v') w') :
    if Region.wanted o (yielded ops a.tmps) = true then Oper.wp Try.prog o a w K Q else E := by
  have hw : Region.wanted o (yielded ops a.tmps) = true := by simp [Region.wanted, hgd]
  rw [if_pos hw]
  obtain ⟨v', w', hr, h2, h3, h4⟩ := run_append_src w o.type B v n xs hown A m c ps hsl hn hm hB
  unfold Oper.wp execOp
  simp only [ho, resolve, invoke, builtin, Sem.run_bind, Sem.run_pure, Result.andThen_ok, List.map_toArray, List.map_cons, List.map_nil, hs, hx, hr]
  exact h v' w' h2 h3 h4
theorem Rds.append {w : World} {ok : Nat → Prop} : ∀ {ps ps' : List Pk} {qs qs' : List Pkt}, Rds w ok ps qs → Rds w ok ps' qs' → Rds w ok (ps ++ ps') (qs ++ qs')
  | [], _, [], _, _, h => h
  | [], _, q :: qs, _, h, _ => by have := h.1; simp at this
  | p :: ps, _, [], _, h, _ => by have := h.1; simp at this
  | p :: ps, _, q :: qs, _, h, h' => Rds.cons h.uncons.1 (Rds.append h.uncons.2 h')
end Go.Proofs.Ytledcmcpinjboaa
