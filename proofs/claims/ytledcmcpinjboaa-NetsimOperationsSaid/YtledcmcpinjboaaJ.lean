/-
What run computes, in plain words; and maps with integer keys.
-/
import Derived.Test.YtledcmcpinjboaaI
namespace Go.Proofs.Ytledcmcpinjboaa
open Go.RowKit
set_option linter.unusedVariables false

/-- the state of run. -/
structure AR where
  last : Int
  pend : List Pkt
  sent : List Pkt
  got : List Pkt
def ar0 : AR := ⟨0, [], [], []⟩
def addQ (s : AR) (f t : Int) (d : List Int) : AR := ⟨s.last + 1, s.pend ++ [⟨s.last + 1, f, t, d⟩], s.sent ++ [⟨s.last + 1, f, t, d⟩], s.got⟩
def kindSend (o : Op5) : Bool := o.kind == 0 || o.kind == 1 || o.kind == 2
def aStep (s : AR) (z : Op5 × List Int) : AR :=
  if kindSend z.1 then addQ s z.1.frm z.1.dst z.2
  else if z.1.kind == 3 then match s.pend[pos z.1.i s.pend.length]? with
    | none => s
    | some q => { s with pend := s.pend.eraseIdx (pos z.1.i s.pend.length), got := s.got ++ [q] }
  else if z.1.kind == 4 then { s with pend := s.pend.eraseIdx (pos z.1.i s.pend.length) }
  else if z.1.kind == 5 then match s.pend[pos z.1.i s.pend.length]? with
    | none => s
    | some q => addQ s q.frm q.dst q.data
  else if z.1.kind == 6 then { s with pend := s.pend.filter (fun q => !(q.dst == z.1.dst)) }
  else s
def aRun (l : List (Op5 × List Int)) : AR := l.foldl aStep ar0

/-- q is the packet that was sent with its number. -/
def Known (s : AR) (q : Pkt) : Prop := ∃ i : Nat, s.sent[i]? = some q ∧ q.num = (i : Int) + 1
structure Inv (n : Nat) (s : AR) : Prop where
  len : (s.sent.length : Int) = s.last
  le : s.sent.length ≤ n
  nums : ∀ (i : Nat) (q : Pkt), s.sent[i]? = some q → q.num = (i : Int) + 1
  kp : ∀ q ∈ s.pend, Known s q
  kg : ∀ q ∈ s.got, Known s q
  asc : s.pend.Pairwise (fun a b => a.num < b.num)
  dis : (s.got ++ s.pend).Pairwise (fun a b => a.num ≠ b.num)
  lp : s.pend.length ≤ n
  lg : s.got.length ≤ n
theorem Known.lt {n : Nat} {s : AR} (h : Inv n s) {q : Pkt} (hq : Known s q) : q.num ≤ s.last := by
  obtain ⟨i, h1, h2⟩ := hq
  have := (List.getElem?_eq_some_iff.1 h1).1
  have := h.len
  omega
theorem Known.more {s : AR} {q : Pkt} (h : Known s q) (f t : Int) (d : List Int) : Known (addQ s f t d) q := by
  obtain ⟨i, h1, h2⟩ := h
  refine ⟨i, ?_, h2⟩
  show (s.sent ++ _)[i]? = _
  rw [List.getElem?_append_left (List.getElem?_eq_some_iff.1 h1).1]; exact h1
theorem inv_add {n : Nat} {s : AR} (h : Inv n s) (f t : Int) (d : List Int) : Inv (n + 1) (addQ s f t d) := by
  have hl := h.len
  refine ⟨?_, ?_, ?_, ?_, ?_, ?_, ?_, ?_, ?_⟩
  · show ((s.sent ++ [_]).length : Int) = s.last + 1
    rw [List.length_append]; simp; omega
  · show (s.sent ++ [_]).length ≤ n + 1
    have := h.le
    rw [List.length_append]; simp; omega
  · intro i q hq
    change (s.sent ++ [_])[i]? = _ at hq
    by_cases hi : i < s.sent.length
    · rw [List.getElem?_append_left hi] at hq; exact h.nums i q hq
    · rw [List.getElem?_append_right (by omega)] at hq
      have h0 : i - s.sent.length = 0 := by have := (List.getElem?_eq_some_iff.1 hq).1; simp at this; omega
      rw [h0] at hq
      simp at hq
      subst hq
      show s.last + 1 = _
      omega
  · intro q hq
    change q ∈ s.pend ++ [_] at hq
    rcases List.mem_append.1 hq with hq | hq
    · exact (h.kp q hq).more f t d
    · simp at hq
      subst hq
      refine ⟨s.sent.length, ?_, by show s.last + 1 = _; omega⟩
      show (s.sent ++ [_])[s.sent.length]? = _
      simp
  · exact fun q hq => (h.kg q hq).more f t d
  · show (s.pend ++ [_]).Pairwise _
    rw [List.pairwise_append]
    refine ⟨h.asc, by simp, fun a ha b hb => ?_⟩
    simp at hb; subst hb
    have := Known.lt h (h.kp a ha)
    show a.num < s.last + 1
    omega
  · show (s.got ++ (s.pend ++ [_])).Pairwise _
    rw [← List.append_assoc, List.pairwise_append]
    refine ⟨h.dis, by simp, fun a ha b hb => ?_⟩
    simp at hb; subst hb
    have hk : Known s a := by
      rcases List.mem_append.1 ha with ha | ha
      · exact h.kg a ha
      · exact h.kp a ha
    have := Known.lt h hk
    show a.num ≠ s.last + 1
    omega
  · show (s.pend ++ [_]).length ≤ n + 1
    have := h.lp
    rw [List.length_append]; simp; omega
  · have := h.lg
    show s.got.length ≤ n + 1
    omega
theorem Inv.mono {n m : Nat} {s : AR} (h : Inv n s) (hm : n ≤ m) : Inv m s := ⟨h.len, Nat.le_trans h.le hm, h.nums, h.kp, h.kg, h.asc, h.dis, Nat.le_trans h.lp hm, Nat.le_trans h.lg hm⟩
/-- fewer packets are pending. -/
theorem inv_sub {n : Nat} {s : AR} (h : Inv n s) {l : List Pkt} (hl : l.Sublist s.pend) : Inv n { s with pend := l } :=
  ⟨h.len, h.le, h.nums, fun q hq => h.kp q (hl.subset hq), h.kg, h.asc.sublist hl, h.dis.sublist ((List.Sublist.refl _).append hl), Nat.le_trans hl.length_le h.lp, h.lg⟩
theorem perm_erase (l : List Pkt) (k : Nat) (q : Pkt) (hk : l[k]? = some q) : List.Perm (q :: l.eraseIdx k) l := by
  obtain ⟨hk', rfl⟩ := List.getElem?_eq_some_iff.1 hk
  rw [List.eraseIdx_eq_take_drop_succ]
  have h1 : l = l.take k ++ l[k] :: l.drop (k + 1) := by rw [← List.drop_eq_getElem_cons hk', List.take_append_drop]
  conv => rhs; rw [h1]
  exact List.perm_middle.symm
theorem inv_got {n : Nat} {s : AR} (h : Inv n s) {k : Nat} {q : Pkt} (hk : s.pend[k]? = some q) : Inv (n + 1) { s with pend := s.pend.eraseIdx k, got := s.got ++ [q] } := by
  have h1 := (inv_sub h (List.eraseIdx_sublist s.pend k)).mono (Nat.le_succ n)
  refine ⟨h1.len, h1.le, h1.nums, h1.kp, ?_, h1.asc, ?_, h1.lp, ?_⟩
  · intro x hx
    rcases List.mem_append.1 hx with hx | hx
    · exact h.kg x hx
    · simp at hx; subst hx; exact h.kp x (List.mem_of_getElem? hk)
  · have hp : List.Perm (s.got ++ [q] ++ s.pend.eraseIdx k) (s.got ++ s.pend) := by
      rw [List.append_assoc]; exact List.Perm.append_left _ (perm_erase s.pend k q hk)
    exact (hp.pairwise_iff (fun {a b} hab => Ne.symm hab)).2 h.dis
  · show (s.got ++ [q]).length ≤ n + 1
    have := h.lg
    simp; omega
theorem inv_step {n : Nat} {s : AR} (h : Inv n s) (z : Op5 × List Int) : Inv (n + 1) (aStep s z) := by
  unfold aStep
  split
  · exact inv_add h _ _ _
  · split
    · split
      · exact h.mono (Nat.le_succ n)
      · rename_i hq; exact inv_got h hq
    · split
      · exact (inv_sub h (List.eraseIdx_sublist _ _)).mono (Nat.le_succ n)
      · split
        · split
          · exact h.mono (Nat.le_succ n)
          · exact inv_add h _ _ _
        · split
          · exact (inv_sub h List.filter_sublist).mono (Nat.le_succ n)
          · exact h.mono (Nat.le_succ n)
theorem inv0 : Inv 0 ar0 := ⟨rfl, Nat.le_refl _, by simp [ar0], by simp [ar0], by simp [ar0], by simp [ar0], by simp [ar0], Nat.le_refl _, Nat.le_refl _⟩
theorem inv_fold : ∀ (l : List (Op5 × List Int)) (n : Nat) (s : AR), Inv n s → Inv (n + l.length) (l.foldl aStep s)
  | [], n, s, h => h
  | z :: l, n, s, h => by
    have := inv_fold l (n + 1) _ (inv_step h z)
    rw [List.foldl_cons, List.length_cons]
    exact this.mono (by omega)
theorem inv_run (l : List (Op5 × List Int)) : Inv l.length (aRun l) := (inv_fold l 0 ar0 inv0).mono (by omega)
theorem aRun_snoc {l : List (Op5 × List Int)} {k : Nat} {z : Op5 × List Int} (h : l[k]? = some z) : aRun (l.take (k + 1)) = aStep (aRun (l.take k)) z := by
  unfold aRun; rw [take_snoc h, List.foldl_append]; rfl

/-- a map with integer keys, as it lies in memory. -/
def ents : List (Int × Value) → Nat → List MapEntry
  | [], _ => []
  | o :: os, k => { key := .int .i64 o.1, val := o.2, born := k } :: ents os (k + 1)
theorem ents_snoc : ∀ (os : List (Int × Value)) (x : Int × Value) (k : Nat), ents (os ++ [x]) k = ents os k ++ [{ key := .int .i64 x.1, val := x.2, born := k + os.length }]
  | [], x, k => by simp [ents]
  | o :: os, x, k => by simp [ents, ents_snoc os x (k + 1)]; omega
theorem ents_length : ∀ (os : List (Int × Value)) (k : Nat), (ents os k).length = os.length
  | [], k => rfl
  | o :: os, k => by simp [ents, ents_length os (k + 1)]
def IMap (w : World) (m : Nat) (kvs : List (Int × Value)) : Prop := w.heap[m]? = some (.map (ents kvs 0).toArray kvs.length)
theorem IMap.lt {w : World} {m : Nat} {kvs : List (Int × Value)} (h : IMap w m kvs) : m < w.heap.size := (Array.getElem?_eq_some_iff.1 h).1
theorem findNow_none (k : Int) : ∀ (os : List (Int × Value)) (j i : Nat), (∀ o ∈ os, o.1 ≠ k) → Instr.findNow (.int .i64) (.int .i64 k) (ents os j) i = some none
  | [], j, i, _ => rfl
  | o :: os, j, i, h => by
    have h1 : (k == o.1) = false := beq_eq_false_iff_ne.2 (Ne.symm (h o (by simp)))
    simp only [ents, Instr.findNow, Instr.sameNow, if_true, h1]
    exact findNow_none k os (j + 1) (i + 1) (fun x hx => h x (by simp [hx]))
theorem findNow_some (k : Int) (v : Value) : ∀ (os : List (Int × Value)) (j i n : Nat), os[n]? = some (k, v) → (∀ (t : Nat) (o : Int × Value), t < n → os[t]? = some o → o.1 ≠ k) → Instr.findNow (.int .i64) (.int .i64 k) (ents os j) i = some (some (i + n, v))
  | [], j, i, n, h, _ => by simp at h
  | o :: os, j, i, 0, h, _ => by
    simp at h; subst h
    simp [ents, Instr.findNow, Instr.sameNow]
  | o :: os, j, i, n + 1, h, hn => by
    have h1 : (k == o.1) = false := beq_eq_false_iff_ne.2 (Ne.symm (hn 0 o (by omega) rfl))
    simp only [ents, Instr.findNow, Instr.sameNow, if_true, h1]
    rw [findNow_some k v os (j + 1) (i + 1) n (by simpa using h) (fun t x ht hx => hn (t + 1) x (by omega) (by simpa using hx))]
    simp; omega
theorem check3 (em : Bool) (k : Int) (w : World) : (Instr.checkKey em 10000 3 (.int .i64 k)).run Try.prog w = .ok () w := by kernel_rfl
theorem und46 (w : World) : (underlying 46).run Try.prog w = .ok (.map 3 31) w := by kernel_rfl
theorem und49 (w : World) : (underlying 49).run Try.prog w = .ok (.map 3 4) w := by kernel_rfl
theorem und3 (w : World) : (underlying 3).run Try.prog w = .ok (.int .i64) w := by kernel_rfl
theorem zero4 (w : World) : (zeroValue 4).run Try.prog w = .ok (.bool false) w := by kernel_rfl
theorem zero31' (w : World) : (zeroValue 31).run Try.prog w = .ok zero31 w := by kernel_rfl
theorem getObj_imap {w : World} {m : Nat} {kvs : List (Int × Value)} (h : IMap w m kvs) : (getObj m).run Try.prog w = .ok (.map (ents kvs 0).toArray kvs.length) w := by
  simp only [getObj, Sem.run, show w.heap[m]? = _ from h]
theorem update_new {t : TypeId} {e : TypeId} (ht : ∀ w, (underlying t).run Try.prog w = .ok (.map 3 e) w) {w : World} {m : Nat} {kvs : List (Int × Value)} (h : IMap w m kvs) (k : Int) (v : Value) (hk : ∀ o ∈ kvs, o.1 ≠ k) :
    ∃ w', (Instr.mapUpdate t (.map (some m)) (.int .i64 k) v).run Try.prog w = .ok () w' ∧ IMap w' m (kvs ++ [(k, v)]) ∧ w.grownBy w' (some m) := by
  have hlt := h.lt
  refine ⟨{ w with heap := w.heap.setIfInBounds m (.map ((ents kvs 0).toArray.push { key := .int .i64 k, val := v, born := kvs.length }) (kvs.length + 1)) }, ?_, ?_, ?_⟩
  · simp only [Instr.mapUpdate, Sem.run_bind, ht, Result.andThen_ok, getObj_imap h, check3, Instr.findKey, und3, findNow_none k kvs 0 0 hk, Sem.run_pure, setObj, Sem.run, show w.heap[m]? = _ from h]
  · show (w.heap.setIfInBounds m _)[m]? = _
    rw [Array.getElem?_setIfInBounds_self_of_lt hlt, ents_snoc]
    simp
  · exact ⟨rfl, rfl, rfl, by simp, fun k _ hk => by
      show (w.heap.setIfInBounds m _)[k]? = _
      rw [Array.getElem?_setIfInBounds_ne (fun e => hk (by rw [e]))]⟩
theorem lookup_none {t e : TypeId} {z : Value} (ht : ∀ w, (underlying t).run Try.prog w = .ok (.map 3 e) w) (hz : ∀ w, (zeroValue e).run Try.prog w = .ok z w) {w : World} {m : Nat} {kvs : List (Int × Value)} (h : IMap w m kvs) (k : Int) (hk : ∀ o ∈ kvs, o.1 ≠ k) :
    (Instr.lookup t (.map (some m)) (.int .i64 k) false).run Try.prog w = .ok z w := by
  simp only [Instr.lookup, Sem.run_bind, ht, Result.andThen_ok, getObj_imap h, check3, Instr.findKey, und3, findNow_none k kvs 0 0 hk, Sem.run_pure, hz]
  rfl
theorem lookup_ok {t e : TypeId} (ht : ∀ w, (underlying t).run Try.prog w = .ok (.map 3 e) w) {w : World} {m : Nat} {kvs : List (Int × Value)} (h : IMap w m kvs) (k : Int) (v : Value) (n : Nat) (hn : kvs[n]? = some (k, v)) (hk : ∀ (t : Nat) (o : Int × Value), t < n → kvs[t]? = some o → o.1 ≠ k) :
    (Instr.lookup t (.map (some m)) (.int .i64 k) true).run Try.prog w = .ok (.tuple #[v, .bool true]) w := by
  simp only [Instr.lookup, Sem.run_bind, ht, Result.andThen_ok, getObj_imap h, check3, Instr.findKey, und3, findNow_some k v kvs 0 0 n hn hk, Sem.run_pure]
  rfl
theorem len_imap {w : World} {m : Nat} {kvs : List (Int × Value)} (h : IMap w m kvs) (ty : TypeId) : (Builtin.len_ #[46] ty #[.map (some m)]).run Try.prog w = .ok (.int .i64 kvs.length) w := by
  simp [Builtin.len_, getObj_imap h, goInt, ents_length]
end Go.Proofs.Ytledcmcpinjboaa
