/-
Plain laws: reading the text of an act gives the act; what is read is the text of a valid act.
-/
import Derived.Test.YtoejjboanggenaaGreatDoorZ
namespace Go.Proofs.YtoejjboanggenaaGreatDoor
open Go.RowKit
set_option linter.unusedVariables false
set_option linter.unusedSimpArgs false

theorem lists_inj : ∀ {xs ys : List ByteArray}, lists xs = lists ys → xs = ys
  | [], [], _ => rfl
  | [], y :: ys, h => by cases h
  | x :: xs, [], h => by cases h
  | x :: xs, y :: ys, h => by
    simp only [lists, List.map_cons, List.cons.injEq] at h
    rw [Go.WideShapes.bytes_inj h.1, lists_inj (show lists xs = lists ys from h.2)]
theorem forms_nosp {i : Nat} {fd : FD} (h : formsFD[i]? = some fd) : ∀ c ∈ fd.word.data.toList, c ≠ 32 := by
  have hm := List.mem_of_getElem? h
  unfold formsFD at hm
  simp only [List.mem_cons, List.not_mem_nil, or_false] at hm
  rcases hm with rfl | rfl | rfl | rfl | rfl | rfl | rfl | rfl | rfl | rfl | rfl | rfl | rfl | rfl | rfl | rfl <;> decide
theorem wr_nosp {d : Ad} {p : PD} (h : okPD d p = true) : ∀ x ∈ lists (wrPD d p), ∀ c ∈ x, c ≠ 32 := by
  intro x hx
  obtain ⟨y, hy, rfl⟩ := List.mem_map.1 hx
  cases p with
  | numA => simp only [wrPD, List.mem_cons, List.not_mem_nil, or_false] at hy; subst hy; exact itoa_nosp _
  | numB => simp only [wrPD, List.mem_cons, List.not_mem_nil, or_false] at hy; subst hy; exact itoa_nosp _
  | nam k => simp only [wrPD, List.mem_cons, List.not_mem_nil, or_false] at hy; subst hy; exact isB_nosp h
  | met k => simp only [wrPD, List.mem_cons, List.not_mem_nil, or_false] at hy; subst hy; exact isB_nosp h
  | surv => obtain ⟨z, _, rfl⟩ := List.mem_map.1 hy; exact itoa_nosp _
  | rest => obtain ⟨z, _, rfl⟩ := List.mem_map.1 hy; exact itoa_nosp _
theorem text_nosp {d : Ad} {f : FD} (hf : formAt d.k = some f) (h : okFD d f = true) : ∀ x ∈ f.word.data.toList :: lists (f.pds.flatMap (wrPD d)), ∀ c ∈ x, c ≠ 32 := by
  intro x hx
  rcases List.mem_cons.1 hx with rfl | hx
  · exact forms_nosp (formsAt_idx hf)
  · obtain ⟨y, hy, rfl⟩ := List.mem_map.1 hx
    obtain ⟨p, hp, hy⟩ := List.mem_flatMap.1 hy
    unfold okFD at h
    rw [Bool.and_eq_true] at h
    exact wr_nosp (List.all_eq_true.1 h.1 p hp) _ (List.mem_map.2 ⟨y, hy, rfl⟩)
theorem words_fmt {d : Ad} {f : FD} (hf : formAt d.k = some f) (h : okFD d f = true) : wordsOf ⟨(fmtL d).toArray⟩ = textW d f := by
  have h1 := text_fmt d f hf h
  have h2 := text_nosp hf h
  refine lists_inj ?_
  rw [wordsOf_lists]
  have h3 : fmtL d = f.word.data.toList ++ spaced (lists (f.pds.flatMap (wrPD d))) := by
    rw [← h1, show lists (textW d f) = f.word.data.toList :: lists (f.pds.flatMap (wrPD d)) from rfl, Lib.join_cons, joinTail_spaced]
  have h4 : Lib.countB ⟨(fmtL d).toArray⟩ ⟨#[32]⟩ = (lists (f.pds.flatMap (wrPD d))).length := by
    rw [← count_join _ _ h2, ← h3]
  rw [h4]
  show Lib.splitK [32] 0 _ (fmtL d) = _
  rw [h3, split_join _ _ h2]
  rfl
theorem valid_form {d : Ad} (h : validB d = true) : ∃ f, formAt d.k = some f ∧ okFD d f = true := by
  rw [← okD_valid] at h
  unfold okD at h
  cases hf : formAt d.k with
  | none => rw [hf] at h; cases h
  | some f =>
    rw [hf] at h
    exact ⟨f, rfl, h⟩
theorem parse_fmt (d : Ad) (hw : Wf d) (hv : validB d = true) : parseW (wordsOf ⟨(fmtL d).toArray⟩) = some d := by
  obtain ⟨f, hf, h⟩ := valid_form hv
  rw [words_fmt hf h]
  exact parse_text d f hw hf h
theorem parse_is {s : ByteArray} {a : Ad} (h : parseW (wordsOf s) = some a) : validB a = true ∧ fmtL a = s.data.toList := by
  cases hs : wordsOf s with
  | nil => rw [hs] at h; cases h
  | cons w0 wt =>
    rw [hs] at h
    obtain ⟨f, hf, hok, ht⟩ := parse_sound w0 wt a h
    have hv : validB a = true := by
      rw [← okD_valid]
      unfold okD
      rw [hf]
      exact hok
    refine ⟨hv, ?_⟩
    rw [← text_fmt a f hf hok, ht, ← wordsOf_join s hs]
    show Lib.join (w0.data.toList :: lists wt) [32] = _
    rw [Lib.join_cons, joinTail_spaced]
theorem fmt_ne {a : Ad} (h : validB a = true) : fmtL a ≠ [] := by
  obtain ⟨f, hf, hok⟩ := valid_form h
  obtain ⟨q, hq, hk⟩ := validB_kind h
  unfold fmtL
  rw [if_pos h, hk, Int.toNat_natCast]
  intro e
  have h2 := congrArg List.length e
  rw [List.length_append] at h2
  obtain rfl | rfl | rfl | rfl | rfl | rfl | rfl | rfl | rfl | rfl | rfl | rfl | rfl | rfl | rfl | rfl : q = 0 ∨ q = 1 ∨ q = 2 ∨ q = 3 ∨ q = 4 ∨ q = 5 ∨ q = 6 ∨ q = 7 ∨ q = 8 ∨ q = 9 ∨ q = 10 ∨ q = 11 ∨ q = 12 ∨ q = 13 ∨ q = 14 ∨ q = 15 := by omega
  all_goals
    simp [wordOf, wordsL] at h2
theorem parse_empty : parseW (wordsOf ⟨#[]⟩) = none := by
  cases h : parseW (wordsOf ⟨#[]⟩) with
  | none => rfl
  | some a =>
    obtain ⟨h1, h2⟩ := parse_is h
    exact absurd h2 (fmt_ne h1)
end Go.Proofs.YtoejjboanggenaaGreatDoor
