/-
What the first token is.
-/
import Derived.Test.YtoejjboanggenaaGreatDoorP
namespace Go.Proofs.YtoejjboanggenaaGreatDoor
open Go.RowKit
set_option linter.unusedVariables false
set_option linter.unusedSimpArgs false

/-- a string begins with a name: its text and its kind. -/
def NameAt (R : ByteArray) (k : Int) (t : ByteArray) : Prop :=
  ∃ c l, R.data.toList = c :: l ∧ LETS.data.toList.contains c = true ∧ t = runB R WORD ∧ t.size ≤ 31 ∧ inB kwL t = false ∧ k = if isUp t then 3 else 2
def TokPost (R : ByteArray) (w : World) (e' : Ending) (w' : World) : Prop :=
  ∃ k t v e, e' = .returned (.tuple #[tokV k t v 0, .int .i64 e]) ∧ Below w.heap.size w w' ∧
    (e = 0 → 1 ≤ t.size ∧ t.size ≤ R.size ∧ (k = 2 ∨ k = 3 → NameAt R k t)) ∧ (∀ k' t', NameAt R k' t' → e = 0 ∧ k = k' ∧ t = t')
theorem dig_let (c : UInt8) (h : DIG.data.toList.contains c = true) : LETS.data.toList.contains c = false := by
  have hm := List.contains_iff_mem.1 h
  unfold DIG at hm
  simp only [List.mem_cons, List.not_mem_nil, or_false] at hm
  rcases hm with rfl | rfl | rfl | rfl | rfl | rfl | rfl | rfl | rfl | rfl <;> decide
theorem first_tok (R : ByteArray) (w : World) (hg : Gl w) (hs : R.size ≤ 1000000) (c : UInt8) (l : List UInt8) (hR : R.data.toList = c :: l) :
    (pick c = .nilFunc ∧ ∀ k t, ¬ NameAt R k t) ∨ ∃ f, pick c = fnv f ∧ (f = 111 ∨ f = 112 ∨ f = 113) ∧ Calls Tryz.prog f #[.string R] w (TokPost R w) := by
  have hn : LETS.data.toList.contains c = false → ∀ k t, ¬ NameAt R k t := fun h k t ⟨c', l', h1, h2, _⟩ => by
    rw [hR] at h1
    simp only [List.cons.injEq] at h1
    rw [← h1.1, h] at h2
    cases h2
  have h1s : 1 ≤ R.size := by
    change 1 ≤ R.data.toList.length
    rw [hR]; simp
  unfold pick
  cases h1 : DIG.data.toList.contains c with
  | true =>
    have hl := dig_let c h1
    refine .inr ⟨111, rfl, .inl rfl, (number111 R w hg hs (runB_pos hR h1)).mono ?_⟩
    rintro e' w' ⟨k, t, v, e, rfl, hb, he⟩
    exact ⟨k, t, v, e, rfl, hb, fun h0 => ⟨(he h0).2.1, (he h0).2.2, fun hk => by have := (he h0).1; omega⟩, fun k' t' h => absurd h (hn hl k' t')⟩
  | false =>
    cases h2 : LETS.data.toList.contains c with
    | true =>
      have hp := runB_pos hR (let_word c h2)
      refine .inr ⟨112, rfl, .inr (.inl rfl), (name112 R w hg hs hp).mono ?_⟩
      rintro e' w' ⟨k, t, e, rfl, hb, he⟩
      refine ⟨k, t, 0, e, rfl, hb, fun h0 => ?_, fun k' t' h => ?_⟩
      · split at he
        · omega
        · rename_i h31
          obtain ⟨_, rfl, hk⟩ := he
          refine ⟨hp, runB_le R WORD, fun hk2 => ⟨c, l, hR, h2, rfl, by omega, ?_, ?_⟩⟩
          · cases hw : inB kwL (runB R WORD) with
            | false => rfl
            | true =>
              rw [hw] at hk
              simp only [if_true] at hk
              omega
          · cases hw : inB kwL (runB R WORD) with
            | false =>
              rw [hw] at hk
              simpa using hk
            | true =>
              rw [hw] at hk
              simp only [if_true] at hk
              omega
      · obtain ⟨c', l', _, _, rfl, h31, hw, hk⟩ := h
        rw [if_neg (by omega), hw] at he
        obtain ⟨he0, ht, hk3⟩ := he
        refine ⟨he0, ?_, ht⟩
        rw [hk]
        simpa using hk3
    | false =>
      cases h3 : SYMS.data.toList.contains c with
      | true =>
        refine .inr ⟨113, rfl, .inr (.inr rfl), (symbol113 R w hg hs h1s).mono ?_⟩
        rintro e' w' ⟨k, t, e, rfl, hb, he⟩
        exact ⟨k, t, 0, e, rfl, hb, fun h0 => ⟨(he h0).2.1, (he h0).2.2, fun hk => by have := (he h0).1; omega⟩, fun k' t' h => absurd h (hn h2 k' t')⟩
      | false => exact .inl ⟨rfl, hn h2⟩
end Go.Proofs.YtoejjboanggenaaGreatDoor
