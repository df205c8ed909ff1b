/-
Plain laws: the text of an act, cut and joined; reading it back.
-/
import Derived.Test.YtoejjboanggenaaGreatDoorV
namespace Go.Proofs.YtoejjboanggenaaGreatDoor
open Go.RowKit
set_option linter.unusedVariables false
set_option linter.unusedSimpArgs false

/-- the words that a part writes. -/
def wrPD (d : Ad) : PD → List ByteArray
  | .numA _ _ => [istr d.a]
  | .numB _ _ => [istr d.b]
  | .nam _ => [d.nm]
  | .met _ => [d.mt]
  | .surv => d.surv.map istr
  | .rest _ => d.args.map istr
def textW (d : Ad) (f : FD) : List ByteArray := f.word :: f.pds.flatMap (wrPD d)
def lists (ws : List ByteArray) : List (List UInt8) := ws.map (·.data.toList)
theorem joinTail_spaced (r : List (List UInt8)) : Lib.joinTail [32] r = spaced r := by
  unfold Lib.joinTail spaced
  rw [List.flatMap_def]
  rfl
theorem lists_istr (zs : List Int) : lists (zs.map istr) = argW zs := by
  unfold lists argW
  rw [List.map_map]
  rfl
theorem formAt_nat {q : Nat} (h : q ≤ 15) : formAt (q : Int) = formsFD[q]? := by
  obtain rfl | rfl | rfl | rfl | rfl | rfl | rfl | rfl | rfl | rfl | rfl | rfl | rfl | rfl | rfl | rfl : q = 0 ∨ q = 1 ∨ q = 2 ∨ q = 3 ∨ q = 4 ∨ q = 5 ∨ q = 6 ∨ q = 7 ∨ q = 8 ∨ q = 9 ∨ q = 10 ∨ q = 11 ∨ q = 12 ∨ q = 13 ∨ q = 14 ∨ q = 15 := by omega
  all_goals rfl
theorem formAt_kind {d : Ad} {f : FD} (h : formAt d.k = some f) : ∃ q : Nat, q ≤ 15 ∧ d.k = (q : Int) := by
  obtain ⟨h0, h1⟩ := formAt_some h
  obtain ⟨q, hq⟩ := Int.eq_ofNat_of_zero_le h0
  exact ⟨q, by omega, hq⟩
theorem empty_list {z : ByteArray} (h : z.toList = []) : z.data.toList = [] := by rw [← Lib.toList_data]; exact h
set_option maxHeartbeats 8000000 in
theorem text_fmt (d : Ad) (f : FD) (hf : formAt d.k = some f) (h : okFD d f = true) : Lib.join (lists (textW d f)) [32] = fmtL d := by
  have hv : validB d = true := by rw [← okD_valid]; unfold okD; rw [hf]; exact h
  obtain ⟨q, hq, hk⟩ := formAt_kind hf
  unfold fmtL
  rw [if_pos hv, hk, Int.toNat_natCast]
  unfold textW lists
  rw [List.map_cons, Lib.join_cons, joinTail_spaced]
  have he : f.word.data.toList = wordOf q ∧ lists (f.pds.flatMap (wrPD d)) = tailW d := by
    obtain ⟨k, a, b, nm, mt, zs, ys⟩ := d
    dsimp only at hk
    subst hk
    clear h
    dsimp only at hf
    rw [formAt_nat hq] at hf
    obtain rfl | rfl | rfl | rfl | rfl | rfl | rfl | rfl | rfl | rfl | rfl | rfl | rfl | rfl | rfl | rfl : q = 0 ∨ q = 1 ∨ q = 2 ∨ q = 3 ∨ q = 4 ∨ q = 5 ∨ q = 6 ∨ q = 7 ∨ q = 8 ∨ q = 9 ∨ q = 10 ∨ q = 11 ∨ q = 12 ∨ q = 13 ∨ q = 14 ∨ q = 15 := by omega
    all_goals
      simp only [formsFD, List.getElem?_cons_succ, List.getElem?_cons_zero, Option.some.injEq] at hf
      subst hf
      refine ⟨rfl, ?_⟩
      simp only [validB, validKB, onlyB, Int.toNat_natCast, Bool.and_eq_true, decide_eq_true_eq, Bool.or_eq_true, Bool.false_or, Bool.true_or, Bool.true_and, List.length_eq_zero_iff] at hv
      simp [tailW, fixW, wrPD, lists, argW, istr, Function.comp_def, hv]
  rw [he.1]
  exact congrArg (wordOf q ++ spaced ·) he.2

/-! ### Cut and joined -/
theorem index_at (w r : List UInt8) (h : ∀ c ∈ w, c ≠ 32) : Lib.index (w ++ 32 :: r) [32] = (w.length : Int) := by
  rw [Lib.index_one]
  induction w with
  | nil => simp [Lib.indexByte]
  | cons c w ih =>
    have hc := h c (by simp)
    have := ih (fun x hx => h x (by simp [hx]))
    simp only [List.cons_append, Lib.indexByte]
    rw [this]
    simp [hc]
theorem split_join : ∀ (ws : List (List UInt8)) (w : List UInt8), (∀ x ∈ w :: ws, ∀ c ∈ x, c ≠ 32) → Lib.splitK [32] 0 ws.length (w ++ spaced ws) = w :: ws
  | [], w, h => by simp [Lib.splitK, spaced]
  | y :: ys, w, h => by
    have hi := index_at w (y ++ spaced ys) (h w (by simp))
    have hs : spaced (y :: ys) = 32 :: (y ++ spaced ys) := by simp [spaced]
    rw [hs, List.length_cons, Lib.splitK, hi, if_neg (by simp), Int.toNat_natCast]
    have ih := split_join ys y (fun x hx => h x (by simp only [List.mem_cons] at hx ⊢; exact .inr hx))
    have hd : List.drop (w.length + 1) w = [] := List.drop_eq_nil_of_le (by omega)
    rw [List.drop_append, List.take_append]
    simp [hd, ih]
theorem count_join : ∀ (ws : List (List UInt8)) (w : List UInt8), (∀ x ∈ w :: ws, ∀ c ∈ x, c ≠ 32) → Lib.count (w ++ spaced ws) [32] = ws.length
  | [], w, h => by
    rw [Lib.count_one]
    simp only [spaced, List.flatMap_nil, List.append_nil, List.length_nil]
    exact List.count_eq_zero.2 fun hm => h w (by simp) 32 hm rfl
  | y :: ys, w, h => by
    have ih := count_join ys y (fun x hx => h x (by simp only [List.mem_cons] at hx ⊢; exact .inr hx))
    rw [Lib.count_one] at ih ⊢
    have hs : spaced (y :: ys) = 32 :: (y ++ spaced ys) := by simp [spaced]
    have hw : List.count 32 w = 0 := List.count_eq_zero.2 fun hm => h w (by simp) 32 hm rfl
    rw [hs, List.count_append, List.count_cons, ih, hw]
    simp
theorem join_split : ∀ (k : Nat) (s : List UInt8), ∃ x r, Lib.splitK [32] 0 k s = x :: r ∧ x ++ spaced r = s
  | 0, s => ⟨s, [], rfl, by simp [spaced]⟩
  | k + 1, s => by
    rw [Lib.splitK]
    by_cases hi : Lib.index s [32] = -1
    · rw [if_pos (by simpa using hi)]
      exact ⟨s, [], rfl, by simp [spaced]⟩
    · rw [if_neg (by simpa using hi)]
      obtain ⟨x, r, h1, h2⟩ := join_split k (s.drop ((Lib.index s [32]).toNat + [(32 : UInt8)].length))
      refine ⟨_, _, rfl, ?_⟩
      rw [h1]
      rw [Lib.index_one] at hi h2 ⊢
      have hge := Lib.indexByte_ge s 32
      obtain ⟨j, hj⟩ : ∃ j : Nat, Lib.indexByte s 32 = (j : Int) := ⟨(Lib.indexByte s 32).toNat, by omega⟩
      obtain ⟨h3, _⟩ := Lib.indexByte_some hj
      rw [hj] at h2 ⊢
      simp only [Int.toNat_natCast, List.length_cons, List.length_nil, Nat.zero_add, Nat.add_zero] at h2 ⊢
      obtain ⟨h4, h5⟩ := List.getElem?_eq_some_iff.1 h3
      have hs : spaced (x :: r) = 32 :: s.drop (j + 1) := by
        rw [← h2]; simp [spaced]
      rw [hs, ← h5, ← List.drop_eq_getElem_cons h4, List.take_append_drop]

/-! ### Reading back -/
/-- a part reads words into an act. -/
def rdPD (a : Ad) (ws : List ByteArray) : PD → Option (Ad × List ByteArray)
  | .numA _ _ => match ws with | [] => none | w :: r => if numOk w = true then some ({ a with a := numV w }, r) else none
  | .numB _ _ => match ws with | [] => none | w :: r => if numOk w = true then some ({ a with b := numV w }, r) else none
  | .nam _ => match ws with | [] => none | w :: r => some ({ a with nm := w }, r)
  | .met _ => match ws with | [] => none | w :: r => some ({ a with mt := w }, r)
  | .surv => if ws.all numOk = true then some ({ a with surv := ws.map numV }, []) else none
  | .rest _ => if ws.all numOk = true then some ({ a with args := ws.map numV }, []) else none
def rdPDs (a : Ad) (ws : List ByteArray) : List PD → Option (Ad × List ByteArray)
  | [] => some (a, ws)
  | p :: ps => match rdPD a ws p with | none => none | some (a', ws') => rdPDs a' ws' ps
def formBy (w : ByteArray) : Option FD := formsFD.find? fun f => f.word.data.toList == w.data.toList
theorem formBy_nat {q : Nat} {f : FD} (h : q ≤ 15) (hf : formsFD[q]? = some f) : formBy f.word = some f := by
  obtain rfl | rfl | rfl | rfl | rfl | rfl | rfl | rfl | rfl | rfl | rfl | rfl | rfl | rfl | rfl | rfl : q = 0 ∨ q = 1 ∨ q = 2 ∨ q = 3 ∨ q = 4 ∨ q = 5 ∨ q = 6 ∨ q = 7 ∨ q = 8 ∨ q = 9 ∨ q = 10 ∨ q = 11 ∨ q = 12 ∨ q = 13 ∨ q = 14 ∨ q = 15 := by omega
  all_goals
    simp only [formsFD, List.getElem?_cons_succ, List.getElem?_cons_zero, Option.some.injEq] at hf
    subst hf
    kernel_rfl
def zeroAd (k : Int) : Ad := ⟨k, 0, 0, ⟨#[]⟩, ⟨#[]⟩, [], []⟩
def parseW (ws : List ByteArray) : Option Ad :=
  match ws with
  | [] => none
  | w :: r =>
    match formBy w with
    | none => none
    | some f => match rdPDs (zeroAd f.k) r f.pds with
      | none => none
      | some (a, rest) => if okD a = true ∧ rest = [] then some a else none
theorem all_istr {zs : List Int} (h : ∀ z ∈ zs, I64 z) : (zs.map istr).all numOk = true := by
  rw [List.all_eq_true]
  intro x hx
  obtain ⟨z, hz, rfl⟩ := List.mem_map.1 hx
  exact numOk_istr (h z hz)
theorem map_istr {zs : List Int} (h : ∀ z ∈ zs, I64 z) : (zs.map istr).map numV = zs := by
  rw [List.map_map]
  conv => rhs; rw [← List.map_id zs]
  exact List.map_congr_left fun z hz => numV_istr (h z hz)
theorem map_numV {ss : List ByteArray} (h : ss.all numOk = true) : (ss.map numV).map istr = ss := by
  rw [List.map_map]
  conv => rhs; rw [← List.map_id ss]
  exact List.map_congr_left fun s hs => istr_numV (List.all_eq_true.1 h s hs)
theorem empty_ba {z : ByteArray} (h : z.toList = []) : z = ⟨#[]⟩ := Go.WideShapes.bytes_inj (empty_list h)
theorem ite_some {X d : Ad} (h : X = d) (ho : okD d = true) : (if okD X = true ∧ True then some X else none) = some d := by
  subst h
  rw [if_pos ⟨ho, trivial⟩]
set_option maxHeartbeats 8000000 in
theorem parse_text (d : Ad) (f : FD) (hw : Wf d) (hf : formAt d.k = some f) (h : okFD d f = true) : parseW (textW d f) = some d := by
  have ho : okD d = true := by unfold okD; rw [hf]; exact h
  have hv : validB d = true := by rw [← okD_valid]; exact ho
  obtain ⟨q, hq, hk⟩ := formAt_kind hf
  obtain ⟨k, a, b, nm, mt, zs, ys⟩ := d
  obtain ⟨w1, w2, w3, w4⟩ := hw
  dsimp only at hk w1 w2 w3 w4
  subst hk
  clear h
  dsimp only at hf
  rw [formAt_nat hq] at hf
  have n1 := numOk_istr w1
  have n2 := numOk_istr w2
  have n3 := numV_istr w1
  have n4 := numV_istr w2
  have n5 := all_istr w3
  have n6 := all_istr w4
  have n7 := map_istr w3
  have n8 := map_istr w4
  have hby := formBy_nat hq hf
  obtain rfl | rfl | rfl | rfl | rfl | rfl | rfl | rfl | rfl | rfl | rfl | rfl | rfl | rfl | rfl | rfl : q = 0 ∨ q = 1 ∨ q = 2 ∨ q = 3 ∨ q = 4 ∨ q = 5 ∨ q = 6 ∨ q = 7 ∨ q = 8 ∨ q = 9 ∨ q = 10 ∨ q = 11 ∨ q = 12 ∨ q = 13 ∨ q = 14 ∨ q = 15 := by omega
  all_goals
    simp only [formsFD, List.getElem?_cons_succ, List.getElem?_cons_zero, Option.some.injEq] at hf
    subst hf
    simp only [validB, validKB, onlyB, Int.toNat_natCast, Bool.and_eq_true, decide_eq_true_eq, Bool.or_eq_true, Bool.false_or, Bool.true_or, Bool.true_and, List.length_eq_zero_iff] at hv
    unfold textW parseW
    dsimp only at hby ⊢
    rw [hby]
    dsimp only
    simp only [List.flatMap_cons, List.flatMap_nil, wrPD, List.cons_append, List.nil_append, List.append_nil, rdPDs, rdPD, n1, n2, n3, n4, n5, n6, n7, n8, if_true, zeroAd]
    refine ite_some ?_ ho
    have e1 : nm.toList = [] → nm = ⟨#[]⟩ := empty_ba
    have e2 : mt.toList = [] → mt = ⟨#[]⟩ := empty_ba
    rw [Ad.mk.injEq]
    clear ho hby n1 n2 n3 n4 n5 n6 n7 n8 w1 w2 w3 w4
    grind
theorem rdPDs_cons {a : Ad} {ws : List ByteArray} {p : PD} {ps : List PD} {x : Ad × List ByteArray} (h : rdPDs a ws (p :: ps) = some x) : ∃ a' ws', rdPD a ws p = some (a', ws') ∧ rdPDs a' ws' ps = some x := by
  unfold rdPDs at h
  cases hp : rdPD a ws p with
  | none => rw [hp] at h; cases h
  | some y =>
    obtain ⟨a', ws'⟩ := y
    rw [hp] at h
    exact ⟨a', ws', rfl, h⟩
theorem rdPDs_nil {a b : Ad} {ws rest : List ByteArray} (h : rdPDs a ws [] = some (b, rest)) : b = a ∧ ws = rest := by
  simp only [rdPDs, Option.some.injEq, Prod.mk.injEq] at h
  exact ⟨h.1.symm, h.2⟩
theorem rd_numA {a b : Ad} {ws rest : List ByteArray} {lo hi : Int} (h : rdPD a ws (.numA lo hi) = some (b, rest)) : ∃ w, ws = w :: rest ∧ numOk w = true ∧ b = { a with a := numV w } := by
  unfold rdPD at h
  cases ws with
  | nil => cases h
  | cons w r =>
    dsimp only at h
    split at h
    · simp only [Option.some.injEq, Prod.mk.injEq] at h
      exact ⟨w, by rw [h.2], by assumption, h.1.symm⟩
    · cases h
theorem rd_numB {a b : Ad} {ws rest : List ByteArray} {lo hi : Int} (h : rdPD a ws (.numB lo hi) = some (b, rest)) : ∃ w, ws = w :: rest ∧ numOk w = true ∧ b = { a with b := numV w } := by
  unfold rdPD at h
  cases ws with
  | nil => cases h
  | cons w r =>
    dsimp only at h
    split at h
    · simp only [Option.some.injEq, Prod.mk.injEq] at h
      exact ⟨w, by rw [h.2], by assumption, h.1.symm⟩
    · cases h
theorem rd_nam {a b : Ad} {ws rest : List ByteArray} {k : Int} (h : rdPD a ws (.nam k) = some (b, rest)) : ∃ w, ws = w :: rest ∧ b = { a with nm := w } := by
  unfold rdPD at h
  cases ws with
  | nil => cases h
  | cons w r =>
    simp only [Option.some.injEq, Prod.mk.injEq] at h
    exact ⟨w, by rw [h.2], h.1.symm⟩
theorem rd_met {a b : Ad} {ws rest : List ByteArray} {k : Int} (h : rdPD a ws (.met k) = some (b, rest)) : ∃ w, ws = w :: rest ∧ b = { a with mt := w } := by
  unfold rdPD at h
  cases ws with
  | nil => cases h
  | cons w r =>
    simp only [Option.some.injEq, Prod.mk.injEq] at h
    exact ⟨w, by rw [h.2], h.1.symm⟩
theorem rd_surv {a b : Ad} {ws rest : List ByteArray} (h : rdPD a ws .surv = some (b, rest)) : ws.all numOk = true ∧ b = { a with surv := ws.map numV } ∧ rest = [] := by
  unfold rdPD at h
  dsimp only at h
  split at h
  · simp only [Option.some.injEq, Prod.mk.injEq] at h
    exact ⟨by assumption, h.1.symm, h.2.symm⟩
  · cases h
theorem rd_rest {a b : Ad} {ws rest : List ByteArray} {m : Int} (h : rdPD a ws (.rest m) = some (b, rest)) : ws.all numOk = true ∧ b = { a with args := ws.map numV } ∧ rest = [] := by
  unfold rdPD at h
  dsimp only at h
  split at h
  · simp only [Option.some.injEq, Prod.mk.injEq] at h
    exact ⟨by assumption, h.1.symm, h.2.symm⟩
  · cases h
theorem map_istr_numV {ss : List ByteArray} (h : ss.all numOk = true) : ss.map (fun s => istr (numV s)) = ss := by
  have := map_numV h
  rwa [List.map_map] at this
set_option maxHeartbeats 8000000 in
theorem parse_sound (w : ByteArray) (r : List ByteArray) (a : Ad) (h : parseW (w :: r) = some a) : ∃ f, formAt a.k = some f ∧ okFD a f = true ∧ textW a f = w :: r := by
  unfold parseW at h
  dsimp only at h
  cases hf : formBy w with
  | none => rw [hf] at h; cases h
  | some f =>
    rw [hf] at h
    dsimp only at h
    have h1 := List.mem_of_find?_eq_some hf
    have h2 := List.find?_some hf
    have h3 : f.word = w := Go.WideShapes.bytes_inj (by simpa using h2)
    subst h3
    clear hf h2
    cases hr : rdPDs (zeroAd f.k) r f.pds with
    | none => rw [hr] at h; cases h
    | some y =>
      obtain ⟨a', rest⟩ := y
      rw [hr] at h
      dsimp only at h
      split at h
      · rename_i hok
        obtain ⟨ho, rfl⟩ := hok
        simp only [Option.some.injEq] at h
        subst h
        unfold formsFD at h1
        simp only [List.mem_cons, List.not_mem_nil, or_false] at h1
        rcases h1 with rfl | rfl | rfl | rfl | rfl | rfl | rfl | rfl | rfl | rfl | rfl | rfl | rfl | rfl | rfl | rfl
        all_goals
          dsimp only at hr
          repeat (
            obtain ⟨_, _, h1, hr⟩ := rdPDs_cons hr
            first
              | obtain ⟨_, rfl, hn, rfl⟩ := rd_numA h1
              | obtain ⟨_, rfl, hn, rfl⟩ := rd_numB h1
              | obtain ⟨_, rfl, rfl⟩ := rd_nam h1
              | obtain ⟨_, rfl, rfl⟩ := rd_met h1
              | obtain ⟨hn, rfl, rfl⟩ := rd_surv h1
              | obtain ⟨hn, rfl, rfl⟩ := rd_rest h1
            clear h1)
          obtain ⟨rfl, hx⟩ := rdPDs_nil hr
          try subst hx
          refine ⟨_, rfl, ho, ?_⟩
          clear ho hr
          simp_all [textW, wrPD, zeroAd, istr_numV, Function.comp_def, map_istr_numV]
      · cases h
end Go.Proofs.YtoejjboanggenaaGreatDoor
