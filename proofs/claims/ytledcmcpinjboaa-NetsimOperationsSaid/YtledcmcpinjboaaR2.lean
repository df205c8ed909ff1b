/-
Contracts of the specification's functions: Send.
-/
import Derived.Test.YtledcmcpinjboaaR1
namespace Go.Proofs.Ytledcmcpinjboaa
open Go.RowKit
set_option linter.unusedVariables false
set_option linter.unusedSimpArgs false

theorem run_append_byts {ok : Nat → Prop} (w : World) (ty : TypeId) (B : Nat) (v : Value) (n : Nat) (xs : List Value) (hown : w.ownsRow B 5 1 v n xs) (A : Option Addr) (m c : Nat) (bs : List Int) (hsl : Byts w ok A m bs) (hn : n ≤ 1000000) (hm : m ≤ 1000000) (hB : B ≤ w.heap.size) :
    ∃ v' w', (Builtin.append_ #[22, 22] ty #[v, .slice A m c]).run Try.prog w = .ok v' w' ∧ w'.ownsRow B 5 1 v' (n + m) (xs ++ bs.map (Value.int .u8)) ∧ w.grownBy w' v.ownBlock ∧ (v'.ownBlock = v.ownBlock ∨ v'.ownBlock = some w.heap.size) := by
  obtain ⟨i0, hi, hz0, hz1, hz2⟩ := info_parts info5
  cases A with
  | none =>
    obtain rfl : m = 0 := by
      rcases Nat.eq_zero_or_pos m with h | h
      · exact h
      · obtain ⟨_, _, h1, _⟩ := hsl.2 h; cases h1
    obtain rfl : bs = [] := List.eq_nil_of_length_eq_zero hsl.1
    refine ⟨v, w, ?_, by simpa using hown, World.grownBy.refl w _, .inl rfl⟩
    rcases hown.2 with ⟨rfl, rfl⟩ | ⟨g, cap, cur, rfl, _, _, hnc, _⟩
    · simp [Builtin.append_, run_underlying Try.underlying22, sizeOf, typeInfo, hi, Builtin.lenOf, Builtin.firstCells]
    · simp [Builtin.append_, run_underlying Try.underlying22, sizeOf, typeInfo, hi, Builtin.lenOf, Builtin.firstCells, hnc, storeCells]
  | some ad =>
    have hnews : ∀ j u, (bs.map (Value.int .u8))[j]? = some u → w.cell? (ad.add j) = some u := by
      intro j u hu
      rw [List.getElem?_map] at hu
      obtain ⟨x, hx, rfl⟩ := Option.map_eq_some_iff.1 hu
      have hj := (List.getElem?_eq_some_iff.1 hx).1
      obtain ⟨b, off, h1, _, h3⟩ := hsl.2 (by have := hsl.1; omega)
      simp only [Option.some.injEq] at h1
      subst h1
      rw [show ((⟨b, off, none⟩ : Addr).add j) = ⟨b, off + j, none⟩ from by unfold Addr.add; split <;> simp_all]
      exact h3 j x hx
    obtain ⟨v', w', h1, h2, h3, _, h5⟩ := run_append_own_at (P := Try.prog) w B 22 ty 5 i0 _ 1 1 Try.underlying22 hi hz0 hz1 hz2 rfl (by decide) v n xs hown ad m c (bs.map (Value.int .u8)) (by rw [List.length_map, hsl.1]; omega) hnews (by intro u hu; obtain ⟨x, _, rfl⟩ := List.mem_map.1 hu; rfl) (by unfold maxLen; omega) (by omega) hB
    exact ⟨v', w', h1, h2, h3, h5⟩
theorem step_append_byts {ok : Nat → Prop} {w : World} {ops : Array Oper} {o : Oper} {a : Act} {K : Act → World → Prop} {Q : Exit → Act → World → Prop} {E : Prop} (hgd : o.guard = none) (s x : Operand) (ho : o.op = .call { callee := .builtin .append, args := #[s, x], argTypes := #[22, 22] })
    (B : Nat) (v : Value) (n : Nat) (xs : List Value) (hs : a.eval s = v) (hown : w.ownsRow B 5 1 v n xs) (A : Option Addr) (m c : Nat) (bs : List Int) (hx : a.eval x = .slice A m c) (hsl : Byts w ok A m bs) (hn : n ≤ 1000000) (hm : m ≤ 1000000) (hB : B ≤ w.heap.size)
    (h : ∀ v' w', w'.ownsRow B 5 1 v' (n + m) (xs ++ bs.map (Value.int .u8)) → w.grownBy w' v.ownBlock → (v'.ownBlock = v.ownBlock ∨ v'.ownBlock = some w.heap.size) → K (a.put o.dst v') w') :
    if Region.wanted o (yielded ops a.tmps) = true then Oper.wp Try.prog o a w K Q else E := by
  have hw : Region.wanted o (yielded ops a.tmps) = true := by simp [Region.wanted, hgd]
  rw [if_pos hw]
  obtain ⟨v', w', hr, h2, h3, h4⟩ := run_append_byts w o.type B v n xs hown A m c bs hsl hn hm hB
  unfold Oper.wp execOp
  simp only [ho, resolve, invoke, builtin, Sem.run_bind, Sem.run_pure, Result.andThen_ok, List.map_toArray, List.map_cons, List.map_nil, hs, hx, hr]
  exact h v' w' h2 h3 h4

/-- a row of packets and a row of bytes, both made since w0, each in a block of its own. -/
structure Two (w0 W : World) (v vb : Value) (m nb : Nat) (xs ys : List Value) : Prop where
  below : Below w0.heap.size w0 W
  own : W.ownsRow w0.heap.size 31 4 v m xs
  ownb : W.ownsRow w0.heap.size 5 1 vb nb ys
  ne : ∀ g, v.ownBlock = some g → vb.ownBlock ≠ some g
theorem grown_keep {B : Nat} {w0 W W' : World} {v v' : Value} (hb : Below B w0 W) (hB : B ≤ W.heap.size) (hge : ∀ k, v.ownBlock = some k → B ≤ k) (hg : W.grownBy W' v.ownBlock) (hat : v'.ownBlock = v.ownBlock ∨ v'.ownBlock = some W.heap.size) :
    Below B w0 W' ∧ ∀ b, (b < W.heap.size ∧ v.ownBlock ≠ some b) → (b < W'.heap.size ∧ v'.ownBlock ≠ some b) ∧ W'.heap[b]? = W.heap[b]? := by
  refine ⟨⟨hg.os.trans hb.os, hg.tape.trans hb.tape, hg.output.trans hb.output, Nat.le_trans hb.size hg.size, fun k hk => ?_⟩, fun b hb' => ⟨⟨Nat.lt_of_lt_of_le hb'.1 hg.size, ?_⟩, hg.block b hb'.1 fun e => hb'.2 e.symm⟩⟩
  · exact (hg.block k (by omega) fun e => by have := hge k e.symm; omega).trans (hb.block k hk)
  · rcases hat with h | h
    · rw [h]; exact hb'.2
    · rw [h]; intro e; simp at e; omega
theorem own_same5 {w w' : World} {base size n : Nat} {e : TypeId} {u : Value} {xs : List Value} (h : w.ownsRow base e size u n xs) (hs : ∀ g, u.ownBlock = some g → w'.heap[g]? = w.heap[g]?) : w'.ownsRow base e size u n xs := own_same h hs
theorem Two.app {w0 W W' : World} {v v' vb : Value} {m m' nb : Nat} {xs xs' ys : List Value} (h : Two w0 W v vb m nb xs ys) (hown : W'.ownsRow w0.heap.size 31 4 v' m' xs') (hg : W.grownBy W' v.ownBlock) (hat : v'.ownBlock = v.ownBlock ∨ v'.ownBlock = some W.heap.size) : Two w0 W' v' vb m' nb xs' ys := by
  obtain ⟨h1, h2⟩ := grown_keep h.below h.below.size (fun k hk => (h.own.lt k hk).1) hg hat
  have h3 : ∀ g, vb.ownBlock = some g → (g < W'.heap.size ∧ v'.ownBlock ≠ some g) ∧ W'.heap[g]? = W.heap[g]? := fun g hg' => h2 g ⟨(h.ownb.lt g hg').2, fun e => h.ne g e hg'⟩
  exact ⟨h1, hown, own_same h.ownb fun g hg' => (h3 g hg').2, fun g hg' hb' => (h3 g hb').1.2 hg'⟩
theorem Two.appb {w0 W W' : World} {v vb vb' : Value} {m nb nb' : Nat} {xs ys ys' : List Value} (h : Two w0 W v vb m nb xs ys) (hown : W'.ownsRow w0.heap.size 5 1 vb' nb' ys') (hg : W.grownBy W' vb.ownBlock) (hat : vb'.ownBlock = vb.ownBlock ∨ vb'.ownBlock = some W.heap.size) : Two w0 W' v vb' m nb' xs ys' := by
  obtain ⟨h1, h2⟩ := grown_keep h.below h.below.size (fun k hk => (h.ownb.lt k hk).1) hg hat
  have h3 : ∀ g, v.ownBlock = some g → (g < W'.heap.size ∧ vb'.ownBlock ≠ some g) ∧ W'.heap[g]? = W.heap[g]? := fun g hg' => h2 g ⟨(h.own.lt g hg').2, h.ne g hg'⟩
  exact ⟨h1, own_same h.own fun g hg' => (h3 g hg').2, hown, fun g hg' => (h3 g hg').1.2⟩
theorem Two.alloc {w0 W : World} {v vb : Value} {m nb : Nat} {xs ys : List Value} (h : Two w0 W v vb m nb xs ys) (o : Obj) : Two w0 (W.alloc o) v vb m nb xs ys :=
  ⟨h.below.alloc h.below.size o, h.own.alloc o, h.ownb.alloc o, h.ne⟩
theorem Sl.one (w : World) (p : Pk) : Sl (w.alloc (.cells #[.int .i64 p.num, .int .i64 p.frm, .int .i64 p.dst, .slice p.A p.n p.c] 31)) (fun b => b = w.heap.size) (some ⟨w.heap.size, 0, none⟩) 1 [p] := by
  refine ⟨rfl, fun _ => ⟨w.heap.size, 0, rfl, rfl, fun i p' hp j v hv => ?_⟩⟩
  have hi : i = 0 := by have := (List.getElem?_eq_some_iff.1 hp).1; simp at this; omega
  subst hi
  simp at hp
  subst hp
  have := (Blk.new w 31 #[.int .i64 p.num, .int .i64 p.frm, .int .i64 p.dst, .slice p.A p.n p.c]).cell j
  rw [show 0 + 0 * 4 + j = j from by omega, this]
  simpa [Pk.enc] using hv
theorem Byts.of_own {w : World} {B n cap : Nat} {A : Option Addr} {bs : List Int} (h : w.ownsRow B 5 1 (.slice A n cap) n (bs.map (Value.int .u8))) (hn : bs.length = n) : Byts w (fun b => B ≤ b ∧ b < w.heap.size ∧ (Value.slice A n cap).ownBlock = some b) A n bs := by
  refine ⟨hn, fun h0 => ?_⟩
  rcases h.2 with ⟨h1, h2⟩ | ⟨g, cap, cur, hv, _, hg, _⟩
  · omega
  · simp only [Value.slice.injEq] at hv
    obtain ⟨rfl, _, rfl⟩ := hv
    have hlt := h.lt g rfl
    refine ⟨g, 0, rfl, ⟨hlt.1, hlt.2, rfl⟩, fun j v hv => ?_⟩
    have hj := (List.getElem?_eq_some_iff.1 hv).1
    rw [show (0 + j) = j from by omega, h.cellAt _ (by omega), List.getElem?_map, hv]; rfl
end Go.Proofs.Ytledcmcpinjboaa
