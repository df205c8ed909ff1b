/-
Plain laws: numerals, names, what a valid act is.
-/
import Derived.Test.YtoejjboanggenaaGreatDoorP2
import Derived.Test.YtoejjboanggenaaGreatDoorM2
import Derived.Test.YtoejjboanggenaaGreatDoorG
import Derived.Lib.ParseIntBTie
import Derived.Lib.SplitLaws
import Derived.Lib.Join
namespace Go.Proofs.YtoejjboanggenaaGreatDoor
open Go.RowKit
set_option linter.unusedVariables false
set_option linter.unusedSimpArgs false

theorem puM_snoc (M : Nat) : ∀ (l : List UInt8) (acc u d : Nat), Lib.parseUintM M acc l = .ok u → d < 10 → u < 1844674407370955162 → u * 10 + d ≤ M → Lib.parseUintM M acc (l ++ [UInt8.ofNat (48 + d)]) = .ok (u * 10 + d)
  | [], acc, u, d, h, hd, hu, hM => by
    simp only [Lib.parseUintM] at h
    injection h with h
    subst h
    have e : (UInt8.ofNat (48 + d)).toNat = 48 + d := by simp; omega
    simp only [List.nil_append, Lib.parseUintM, e]
    rw [if_pos (by omega), if_neg (by omega), if_neg (by omega)]
    congr 1
    omega
  | c :: r, acc, u, d, h, hd, hu, hM => by
    simp only [List.cons_append, Lib.parseUintM] at h ⊢
    split at h
    · rename_i h1
      rw [if_pos h1]
      split at h
      · cases h
      · rename_i h2
        rw [if_neg h2]
        split at h
        · cases h
        · rename_i h3
          rw [if_neg h3]
          exact puM_snoc M r _ u d h hd hu hM
    · cases h
theorem puM_dec (M : Nat) (hM : M < 18446744073709551616) (n : Nat) : n ≤ M → Lib.parseUintM M 0 (Lib.decDigits n) = .ok n := by
  induction n using Nat.strongRecOn with
  | _ n ih =>
    intro hn
    by_cases h : n < 10
    · have e : (UInt8.ofNat (48 + n)).toNat = 48 + n := by simp; omega
      rw [dec_small h]
      simp only [Lib.parseUintM, e]
      rw [if_pos (by omega), if_neg (by omega), if_neg (by omega)]
      congr 1
      omega
    · rw [dec_step (by omega), puM_snoc M _ 0 (n / 10) (n % 10) (ih _ (by omega) (by omega)) (by omega) (by omega) (by omega)]
      congr 1
      omega
theorem dec_digits (n : Nat) : ∀ c ∈ Lib.decDigits n, 48 ≤ c.toNat ∧ c.toNat ≤ 57 := by
  induction n using Nat.strongRecOn with
  | _ n ih =>
    intro c hc
    by_cases h : n < 10
    · rw [dec_small h] at hc
      simp only [List.mem_cons, List.not_mem_nil, or_false] at hc
      subst hc
      have e : (UInt8.ofNat (48 + n)).toNat = 48 + n := by simp; omega
      omega
    · rw [dec_step (by omega)] at hc
      rcases List.mem_append.1 hc with hc | hc
      · exact ih _ (by omega) c hc
      · simp only [List.mem_cons, List.not_mem_nil, or_false] at hc
        subst hc
        have e : (UInt8.ofNat (48 + n % 10)).toNat = 48 + n % 10 := by simp; omega
        omega
theorem dec_ne (n : Nat) : Lib.decDigits n ≠ [] := by
  by_cases h : n < 10
  · rw [dec_small h]; simp
  · rw [dec_step (by omega)]; simp
theorem dec_cons (n : Nat) : ∃ c r, Lib.decDigits n = c :: r ∧ 48 ≤ c.toNat ∧ c.toNat ≤ 57 := by
  cases h : Lib.decDigits n with
  | nil => exact absurd h (dec_ne n)
  | cons c r => exact ⟨c, r, rfl, dec_digits n c (by rw [h]; simp)⟩
theorem puB_dec (n : Nat) (h : n < 18446744073709551616) : Lib.parseUintB 64 (Lib.decDigits n) = .ok n := by
  unfold Lib.parseUintB
  rw [if_neg (dec_ne n)]
  exact puM_dec _ (by decide) n (by omega)
theorem parse_itoa (n : Int) (h : I64 n) : Lib.parseIntB 64 (Lib.itoa n) = .ok n := by
  unfold I64 at h
  by_cases h0 : 0 ≤ n
  · obtain ⟨u, rfl⟩ := Int.eq_ofNat_of_zero_le h0
    rw [Lib.itoa_nonneg]
    obtain ⟨c, r, hc, h1, h2⟩ := dec_cons u
    have hp := puB_dec u (by omega)
    rw [hc] at hp ⊢
    rw [Lib.parseIntB_plain 64 c r (by omega) (by omega), hp]
    simp only [Lib.signlessC]
    rw [if_neg (by omega)]
  · obtain ⟨u, rfl⟩ : ∃ u : Nat, n = -(u : Int) := ⟨n.natAbs, by omega⟩
    rw [Lib.itoa_neg u (by omega), Lib.parseIntB_minus, puB_dec u (by omega)]
    simp only [Lib.signedC]
    rw [if_neg (by omega)]
theorem numV_istr {n : Int} (h : I64 n) : numV (istr n) = n := by
  unfold numV
  rw [show (istr n).data.toList = Lib.itoa n from rfl, parse_itoa n h]
theorem numOk_istr {n : Int} (h : I64 n) : numOk (istr n) = true := by
  unfold numOk
  rw [show (istr n).data.toList = Lib.itoa n from rfl, parse_itoa n h]
  simp
theorem istr_numV {s : ByteArray} (h : numOk s = true) : istr (numV s) = s := by
  unfold numOk at h
  unfold numV
  rcases hp : Lib.parseIntB 64 s.data.toList with v | _ | _
  · rw [hp] at h
    exact ba_ext (by simpa using h)
  · rw [hp] at h; cases h
  · rw [hp] at h; cases h
/-- no space lies in a numeral. -/
theorem itoa_nosp (n : Int) : ∀ c ∈ Lib.itoa n, c ≠ 32 := by
  intro c hc he
  subst he
  unfold Lib.itoa at hc
  split at hc
  · rcases List.mem_cons.1 hc with hc | hc
    · cases hc
    · have := dec_digits _ _ hc
      simp at this
  · have := dec_digits _ _ hc
    simp at this

/-! ### Names -/
theorem up_fin : ∀ n, n < 256 → Lib.contains UP.data.toList [UInt8.ofNat n] = (decide (65 ≤ n) && decide (n ≤ 90)) := by decide +kernel
theorem let_fin : ∀ n, n < 256 → LETS.data.toList.contains (UInt8.ofNat n) = ((decide (65 ≤ n) && decide (n ≤ 90)) || (decide (97 ≤ n) && decide (n ≤ 122))) := by decide +kernel
theorem word_fin : ∀ n, n < 256 → WORD.data.toList.contains (UInt8.ofNat n) = wordB (UInt8.ofNat n) := by decide +kernel
theorem up_of (c : UInt8) : Lib.contains UP.data.toList [c] = (decide (65 ≤ c.toNat) && decide (c.toNat ≤ 90)) := by
  have := up_fin c.toNat (UInt8.toNat_lt c)
  rwa [UInt8.ofNat_toNat] at this
theorem let_of (c : UInt8) : LETS.data.toList.contains c = ((decide (65 ≤ c.toNat) && decide (c.toNat ≤ 90)) || (decide (97 ≤ c.toNat) && decide (c.toNat ≤ 122))) := by
  have := let_fin c.toNat (UInt8.toNat_lt c)
  rwa [UInt8.ofNat_toNat] at this
theorem word_of (c : UInt8) : WORD.data.toList.contains c = wordB c := by
  have := word_fin c.toNat (UInt8.toNat_lt c)
  rwa [UInt8.ofNat_toNat] at this
theorem isUp_of {s : ByteArray} {c : UInt8} {l : List UInt8} (h : s.data.toList = c :: l) : isUp s = (decide (65 ≤ c.toNat) && decide (c.toNat ≤ 90)) := by
  unfold isUp
  have : (s.extract 0 1).data.toList = [c] := by
    rw [ByteArray.data_extract, Array.toList_extract, List.extract_eq_take_drop, h]
    simp
  rw [this, up_of]
theorem tw_all {α : Type} (p : α → Bool) : ∀ l : List α, l = l.takeWhile p ↔ l.all p = true
  | [] => by simp
  | c :: l => by
    cases h : p c with
    | true =>
      rw [List.takeWhile_cons_of_pos h, List.all_cons, h, Bool.true_and]
      simpa using tw_all p l
    | false =>
      rw [List.takeWhile_cons_of_neg (by simp [h]), List.all_cons, h]
      simp
theorem run_all (s : ByteArray) : s = runB s WORD ↔ s.data.toList.all wordB = true := by
  have hr := runB_list s WORD
  have hw : (WORD.data.toList.contains ·) = wordB := by
    funext c
    exact word_of c
  rw [hw] at hr
  rw [← tw_all wordB s.data.toList]
  constructor
  · intro h
    rw [← h] at hr
    exact hr
  · intro h
    refine Go.WideShapes.bytes_inj ?_
    rw [hr]
    exact h
/-- a name of a kind: 2: a variable, 3: a class. -/
def isB (s : ByteArray) (k : Int) : Bool := if k = 2 then varB s else classB s
theorem name_iff (s : ByteArray) (k : Int) (hk : k = 2 ∨ k = 3) : NameAt s k s ↔ isB s k = true := by
  unfold NameAt isB varB classB nameB
  cases hs : s.data.toList with
  | nil => rcases hk with rfl | rfl <;> simp
  | cons c l =>
    have hu := isUp_of hs
    have hl := let_of c
    have hr := run_all s
    rw [hs] at hr
    constructor
    · rintro ⟨c', l', h1, h2, h3, h4, h5, h6⟩
      simp only [List.cons.injEq] at h1
      obtain ⟨rfl, rfl⟩ := h1
      have h7 := hr.1 h3
      rw [h2] at hl
      rw [hu] at h6
      rcases hk with rfl | rfl
      · rw [if_pos rfl]
        simp only [h7, h5, h4, decide_true, Bool.true_and, Bool.not_false, Bool.and_true, Bool.and_eq_true, decide_eq_true_eq]
        have h8 : ¬ (65 ≤ c.toNat ∧ c.toNat ≤ 90) := fun h => by
          simp [h] at h6
        simp at hl
        omega
      · rw [if_neg (by decide)]
        simp only [h7, h5, h4, decide_true, Bool.true_and, Bool.not_false, Bool.and_true, Bool.and_eq_true, decide_eq_true_eq]
        have h8 : (65 ≤ c.toNat ∧ c.toNat ≤ 90) := by
          by_cases h9 : 65 ≤ c.toNat ∧ c.toNat ≤ 90
          · exact h9
          · have : (decide (65 ≤ c.toNat) && decide (c.toNat ≤ 90)) = false := by simpa using h9
            rw [this] at h6
            simp at h6
        omega
    · intro h
      refine ⟨c, l, rfl, ?_⟩
      rcases hk with rfl | rfl
      · rw [if_pos rfl] at h
        simp only [Bool.and_eq_true, decide_eq_true_eq, Bool.not_eq_true'] at h
        obtain ⟨⟨⟨⟨h1, h2⟩, h3⟩, h4⟩, h5⟩ := h
        refine ⟨?_, hr.2 h5, h1, h4, ?_⟩
        · rw [hl]; simp; omega
        · rw [hu, if_neg]
          simp; omega
      · rw [if_neg (by decide)] at h
        simp only [Bool.and_eq_true, decide_eq_true_eq, Bool.not_eq_true'] at h
        obtain ⟨⟨⟨⟨h1, h2⟩, h3⟩, h4⟩, h5⟩ := h
        refine ⟨?_, hr.2 h5, h1, h4, ?_⟩
        · rw [hl]; simp; omega
        · rw [hu, if_pos]
          simp; omega
theorem isB_nosp {s : ByteArray} {k : Int} (h : isB s k = true) : ∀ c ∈ s.data.toList, c ≠ 32 := by
  have hall : s.data.toList.all wordB = true := by
    unfold isB varB classB nameB at h
    split at h <;> (cases hs : s.data.toList with
      | nil => rfl
      | cons c l =>
        rw [hs] at h
        simp only [Bool.and_eq_true] at h
        exact h.2)
  intro c hc he
  subst he
  have := List.all_eq_true.1 hall _ hc
  revert this
  decide

/-! ### What a valid act is -/
/-- what the part asks. -/
def okPD (d : Ad) : PD → Bool
  | .numA lo hi => decide (lo ≤ d.a) && decide (d.a ≤ hi)
  | .numB lo hi => decide (lo ≤ d.b) && decide (d.b ≤ hi)
  | .nam k => isB d.nm k
  | .met k => isB d.mt k
  | .surv => decide (d.surv.length ≤ 20) && d.surv.all countB
  | .rest most => decide ((d.args.length : Int) ≤ most) && rangeB d.args
/-- the act without the part. -/
def clr (d : Ad) : PD → Ad
  | .numA _ _ => { d with a := 0 }
  | .numB _ _ => { d with b := 0 }
  | .nam _ => { d with nm := ⟨#[]⟩ }
  | .met _ => { d with mt := ⟨#[]⟩ }
  | .surv => { d with surv := [] }
  | .rest _ => { d with args := [] }
def plainB (d : Ad) : Bool := onlyB d false false false false false false
def okFD (d : Ad) (fd : FD) : Bool := fd.pds.all (okPD d) && plainB (fd.pds.foldl clr d)
def formAt (k : Int) : Option FD := formsFD.find? fun f => f.k == k
def okD (d : Ad) : Bool := match formAt d.k with | none => false | some f => okFD d f
theorem and_cc {a b c : Bool} (h : a = c) : (a && b) = (b && c) := by subst h; exact Bool.and_comm a b
theorem formAt_some {k : Int} {f : FD} (h : formAt k = some f) : 0 ≤ k ∧ k ≤ 15 := by
  have h1 := List.mem_of_find?_eq_some h
  have h2 := List.find?_some h
  have h3 : f.k = k := by simpa using h2
  subst h3
  unfold formsFD at h1
  simp only [List.mem_cons, List.not_mem_nil, or_false] at h1
  rcases h1 with rfl | rfl | rfl | rfl | rfl | rfl | rfl | rfl | rfl | rfl | rfl | rfl | rfl | rfl | rfl | rfl <;> decide
set_option maxHeartbeats 4000000 in
theorem okD_valid (d : Ad) : okD d = validB d := by
  by_cases hk : 0 ≤ d.k ∧ d.k ≤ 15
  · obtain ⟨k, a, b, nm, mt, zs, ys⟩ := d
    dsimp only at hk
    obtain ⟨q, rfl⟩ := Int.eq_ofNat_of_zero_le hk.1
    obtain rfl | rfl | rfl | rfl | rfl | rfl | rfl | rfl | rfl | rfl | rfl | rfl | rfl | rfl | rfl | rfl : q = 0 ∨ q = 1 ∨ q = 2 ∨ q = 3 ∨ q = 4 ∨ q = 5 ∨ q = 6 ∨ q = 7 ∨ q = 8 ∨ q = 9 ∨ q = 10 ∨ q = 11 ∨ q = 12 ∨ q = 13 ∨ q = 14 ∨ q = 15 := by omega
    all_goals
      simp (decide := true) [okD, formAt, formsFD, okFD, List.find?, okPD, clr, plainB, onlyB, validB, validKB, machineB, countB, isB]
      try generalize varB nm = x1
      try generalize classB mt = x2
      try generalize varB mt = x3
      try generalize rangeB zs = x4
      try generalize ys.all countB = x5
      grind
  · have h1 : formAt d.k = none := by
      cases h : formAt d.k with
      | none => rfl
      | some f => exact absurd (formAt_some h) hk
    unfold okD
    rw [h1]
    cases hv : validB d with
    | false => rfl
    | true =>
      obtain ⟨q, h2, h3⟩ := validB_kind hv
      omega
end Go.Proofs.YtoejjboanggenaaGreatDoor
