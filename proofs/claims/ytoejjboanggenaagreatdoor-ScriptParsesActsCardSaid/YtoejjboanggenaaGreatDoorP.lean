/-
The lexer's table, read; what the first token is.
-/
import Derived.Test.YtoejjboanggenaaGreatDoorO2
namespace Go.Proofs.YtoejjboanggenaaGreatDoor
open Go.RowKit
set_option linter.unusedVariables false
set_option linter.unusedSimpArgs false

theorem find_tab (c : UInt8) (f : Nat) (rest : List (Value × Value)) : ∀ (l : List UInt8) (j i : Nat),
    (l.contains c = true → ∃ n, Instr.findNow (.int .u8) (.int .u8 c.toNat) (kents (tab l f ++ rest) j) i = some (some (n, fnv f))) ∧
    (l.contains c = false → ∃ j' i', Instr.findNow (.int .u8) (.int .u8 c.toNat) (kents (tab l f ++ rest) j) i = Instr.findNow (.int .u8) (.int .u8 c.toNat) (kents rest j') i')
  | [], j, i => ⟨fun h => by simp at h, fun _ => ⟨j, i, rfl⟩⟩
  | d :: l, j, i => by
    obtain ⟨h1, h2⟩ := find_tab c f rest l (j + 1) (i + 1)
    by_cases hcd : c = d
    · subst hcd
      refine ⟨fun _ => ⟨i, ?_⟩, fun h => by simp at h⟩
      simp [tab, kents, Instr.findNow, Instr.sameNow]
    · have hs : Instr.sameNow (.int .u8) (.int .u8 c.toNat) (.int .u8 d.toNat) = some false := by
        have h3 : c.toNat ≠ d.toNat := fun e => hcd (UInt8.toNat_inj.1 e)
        simp [Instr.sameNow]
        omega
      have hf : Instr.findNow (.int .u8) (.int .u8 c.toNat) (kents (tab (d :: l) f ++ rest) j) i = Instr.findNow (.int .u8) (.int .u8 c.toNat) (kents (tab l f ++ rest) (j + 1)) (i + 1) := by
        change Instr.findNow (.int .u8) (.int .u8 c.toNat) ({ key := .int .u8 d.toNat, val := fnv f, born := j } :: kents (tab l f ++ rest) (j + 1)) i = _
        simp only [Instr.findNow, hs]
      rw [hf]
      have hcl : (d :: l).contains c = l.contains c := by
        rw [List.contains_cons, beq_eq_false_iff_ne.2 hcd, Bool.false_or]
      rw [hcl]
      exact ⟨h1, h2⟩
/-- which function reads a token that begins with a byte. -/
def pick (c : UInt8) : Value := if DIG.data.toList.contains c then fnv 111 else if LETS.data.toList.contains c then fnv 112 else if SYMS.data.toList.contains c then fnv 113 else .nilFunc
theorem pick_tab {w : World} {m : Nat} (h : KMap w m table) (c : UInt8) : (Instr.lookup 119 (.map (some m)) (.int .u8 c.toNat) false).run Tryz.prog w = .ok (pick c) w := by
  have hfind : (pick c = .nilFunc ∧ Instr.findNow (.int .u8) (.int .u8 c.toNat) (kents table 0) 0 = some none) ∨ ∃ n, Instr.findNow (.int .u8) (.int .u8 c.toNat) (kents table 0) 0 = some (some (n, pick c)) := by
    unfold table pick
    rw [List.append_assoc]
    cases h1 : DIG.data.toList.contains c with
    | true =>
      obtain ⟨n, hn⟩ := (find_tab c 111 (tab LETS.data.toList 112 ++ tab SYMS.data.toList 113) DIG.data.toList 0 0).1 h1
      exact .inr ⟨n, hn⟩
    | false =>
      obtain ⟨j, i, hj⟩ := (find_tab c 111 (tab LETS.data.toList 112 ++ tab SYMS.data.toList 113) DIG.data.toList 0 0).2 h1
      rw [hj]
      cases h2 : LETS.data.toList.contains c with
      | true =>
        obtain ⟨n, hn⟩ := (find_tab c 112 (tab SYMS.data.toList 113) LETS.data.toList j i).1 h2
        exact .inr ⟨n, hn⟩
      | false =>
        obtain ⟨j, i, hj⟩ := (find_tab c 112 (tab SYMS.data.toList 113) LETS.data.toList j i).2 h2
        rw [hj]
        cases h3 : SYMS.data.toList.contains c with
        | true =>
          obtain ⟨n, hn⟩ := (find_tab c 113 [] SYMS.data.toList j i).1 h3
          rw [List.append_nil] at hn
          exact .inr ⟨n, hn⟩
        | false =>
          obtain ⟨j, i, hj⟩ := (find_tab c 113 [] SYMS.data.toList j i).2 h3
          rw [List.append_nil] at hj
          exact .inl ⟨rfl, hj⟩
  rcases hfind with ⟨hp, hf⟩ | ⟨n, hf⟩
  · rw [hp]
    simp only [Instr.lookup, Sem.run_bind, und119, Result.andThen_ok, getObj_kmap h, check5, Instr.findKey, und5, hf, Sem.run_pure, zero122]
    rfl
  · simp only [Instr.lookup, Sem.run_bind, und119, Result.andThen_ok, getObj_kmap h, check5, Instr.findKey, und5, hf, Sem.run_pure]
    rfl
/-- a prefix of bytes of a set is not empty where the first byte is in the set. -/
theorem runB_list (s set : ByteArray) : (runB s set).data.toList = s.data.toList.takeWhile (set.data.toList.contains ·) := by
  unfold runB
  have h := List.takeWhile_append_dropWhile (p := (set.data.toList.contains ·)) (l := s.data.toList)
  have hsz : s.size - (trimB s set).size = (s.data.toList.takeWhile (set.data.toList.contains ·)).length := by
    have h2 := congrArg List.length h
    rw [List.length_append] at h2
    change s.data.toList.length - (Lib.trimLeftS s.data.toList set.data.toList).length = _
    unfold Lib.trimLeftS
    omega
  rw [hsz, ByteArray.data_extract, Array.toList_extract, List.extract_eq_take_drop, List.drop_zero, Nat.sub_zero]
  have h4 := List.take_left (l₁ := s.data.toList.takeWhile (set.data.toList.contains ·)) (l₂ := s.data.toList.dropWhile (set.data.toList.contains ·))
  rw [h] at h4
  exact h4
theorem runB_pos {s set : ByteArray} {c : UInt8} {l : List UInt8} (hs : s.data.toList = c :: l) (hc : set.data.toList.contains c = true) : 1 ≤ (runB s set).size := by
  change 1 ≤ (runB s set).data.toList.length
  rw [runB_list, hs, List.takeWhile_cons_of_pos hc]
  simp
/-- letters are bytes of words. -/
theorem let_word (c : UInt8) (h : LETS.data.toList.contains c = true) : WORD.data.toList.contains c = true := by
  have hm := List.contains_iff_mem.1 h
  refine List.contains_iff_mem.2 ?_
  unfold LETS at hm
  unfold WORD
  simp only [List.mem_cons, List.not_mem_nil, or_false] at hm ⊢
  rcases hm with h | h | h | h | h | h | h | h | h | h | h | h | h | h | h | h | h | h | h | h | h | h | h | h | h | h | h | h | h | h | h | h | h | h | h | h | h | h | h | h | h | h | h | h | h | h | h | h | h | h | h | h <;> simp [h]
end Go.Proofs.YtoejjboanggenaaGreatDoor
