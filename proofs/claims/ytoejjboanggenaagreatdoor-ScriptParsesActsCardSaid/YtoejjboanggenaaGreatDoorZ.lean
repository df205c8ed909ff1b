/-
Contract of ParseAct.
-/
import Derived.Test.YtoejjboanggenaaGreatDoorZ1
import Derived.Test.YtoejjboanggenaaGreatDoorFx2
namespace Go.Proofs.YtoejjboanggenaaGreatDoor
open Go.RowKit
set_option linter.unusedVariables false
set_option linter.unusedSimpArgs false

theorem klookup2_none {t kt e : TypeId} {d : TypeDesc} {z : Value} (ht : ∀ w, (underlying t).run Tryz.prog w = .ok (.map kt e) w) (hd : ∀ w, (underlying kt).run Tryz.prog w = .ok d w) (hz : ∀ w, (zeroValue e).run Tryz.prog w = .ok z w) {w : World} {m : Nat} {kvs : List (Value × Value)} (h : KMap w m kvs) (k : Value)
    (hc : ∀ em w, (Instr.checkKey em 10000 kt k).run Tryz.prog w = .ok () w) (hk : ∀ o ∈ kvs, Instr.sameNow d k o.1 = some false) :
    (Instr.lookup t (.map (some m)) k true).run Tryz.prog w = .ok (.tuple #[z, .bool false]) w := by
  simp only [Instr.lookup, Sem.run_bind, ht, Result.andThen_ok, getObj_kmap h, hc, Instr.findKey, hd, find_none d k kvs 0 0 hk, Sem.run_pure, hz]
  rfl
theorem klookup2 {t kt e : TypeId} {d : TypeDesc} (ht : ∀ w, (underlying t).run Tryz.prog w = .ok (.map kt e) w) (hd : ∀ w, (underlying kt).run Tryz.prog w = .ok d w) {w : World} {m : Nat} {kvs : List (Value × Value)} (h : KMap w m kvs) (k v : Value) (n : Nat)
    (hc : ∀ em w, (Instr.checkKey em 10000 kt k).run Tryz.prog w = .ok () w) (hk : ∀ (t : Nat) (o : Value × Value), t < n → kvs[t]? = some o → Instr.sameNow d k o.1 = some false) (hn : ∃ k', kvs[n]? = some (k', v) ∧ Instr.sameNow d k k' = some true) :
    (Instr.lookup t (.map (some m)) k true).run Tryz.prog w = .ok (.tuple #[v, .bool true]) w := by
  simp only [Instr.lookup, Sem.run_bind, ht, Result.andThen_ok, getObj_kmap h, hc, Instr.findKey, hd, find_some d k v kvs 0 0 n hk hn, Sem.run_pure]
  rfl
def zForm : Value := .agg #[.int .i64 0, .string ⟨#[]⟩, .slice none 0 0]
theorem zero36 (w : World) : (zeroValue 36).run Tryz.prog w = .ok zForm w := by kernel_rfl
/-- what the map answers at a word. -/
def Found (W : World) (w0 : ByteArray) (v : Value) (ok : Bool) : Prop :=
  (formBy w0 = none ∧ v = zForm ∧ ok = false) ∨ ∃ fd g, formBy w0 = some fd ∧ v = formVal fd g ∧ ok = true ∧ Parts W W.heap.size g fd.pds
theorem formBy_some {w0 : ByteArray} {fd : FD} (h : formBy w0 = some fd) : fd.word = w0 ∧ ∃ i, i < 16 ∧ formsFD[i]? = some fd := by
  have h1 := List.mem_of_find?_eq_some h
  have h2 := List.find?_some h
  obtain ⟨i, hi⟩ := List.mem_iff_getElem?.1 h1
  exact ⟨Go.WideShapes.bytes_inj (by simpa using h2), i, (List.getElem?_eq_some_iff.1 hi).1, hi⟩
theorem word_lookup {W : World} {m : Nat} {kvs : List (Value × Value)} (hm : KMap W m kvs) (hw : WordMap W W.heap.size 16 kvs) (w0 : ByteArray) :
    ∃ v ok, (Instr.lookup 49 (.map (some m)) (.string w0) true).run Tryz.prog W = .ok (.tuple #[v, .bool ok]) W ∧ Found W w0 v ok := by
  cases hf : formBy w0 with
  | none =>
    refine ⟨zForm, false, klookup2_none und49 und9 zero36 hm _ (fun em w => check9 em _ w) fun o ho => ?_, .inl ⟨hf, rfl, rfl⟩⟩
    obtain ⟨t, ht⟩ := List.mem_iff_getElem?.1 ho
    have hl := (List.getElem?_eq_some_iff.1 ht).1
    rw [hw.1] at hl
    obtain ⟨fd, h1, _⟩ := forms_at hl
    obtain ⟨g, h2, _⟩ := hw.2 t fd hl h1
    rw [ht] at h2
    simp only [Option.some.injEq] at h2
    rw [h2]
    refine same_str_ne fun e => ?_
    have := formBy_nat (by omega : t ≤ 15) h1
    rw [← e, hf] at this
    cases this
  | some fd =>
    obtain ⟨hwd, i, hi, h1⟩ := formBy_some hf
    obtain ⟨g, h2, h3⟩ := hw.2 i fd hi h1
    refine ⟨formVal fd g, true, klookup2 und49 und9 hm _ _ i (fun em w => check9 em _ w) (fun t o ht ho => ?_) ⟨_, h2, by rw [hwd]; exact same_str_eq w0⟩, .inr ⟨fd, g, hf, rfl, rfl, h3⟩⟩
    obtain ⟨fd', h4, _⟩ := forms_at (by omega : t < 16)
    obtain ⟨g', h5, _⟩ := hw.2 t fd' (by omega) h4
    rw [ho] at h5
    simp only [Option.some.injEq] at h5
    rw [h5, ← hwd]
    exact same_str_ne (words_apart h4 h1 ht).symm
/-- the words of a text. -/
def wordsOf (s : ByteArray) : List ByteArray := Lib.splitB ⟨#[32]⟩ 0 (Lib.countB s ⟨#[32]⟩) s
theorem wordsOf_len (s : ByteArray) : (wordsOf s).length = Lib.countB s ⟨#[32]⟩ + 1 := Lib.splitB_all _ (by decide) 0 _ s rfl
/-- the facts of the operations of ParseAct's drawn region. -/
def G8 (w0 : ByteArray) (G nw B2 : Nat) (k : Nat) (v : Value) (W : World) : Prop :=
  match k with
  | 0 => ∃ m kvs, v = .map (some m) ∧ KMap W m kvs ∧ WordMap W W.heap.size 16 kvs
  | 1 => v = .slice (some ⟨G, 0, none⟩) nw nw
  | 2 => v = .pointer (some ⟨G, 0, none⟩)
  | 3 => v = .string w0
  | 4 => ∃ x ok, v = .tuple #[x, .bool ok] ∧ Found W w0 x ok
  | 5 => ∃ x ok, v = .tuple #[x, .bool ok] ∧ Found W w0 x ok
  | 6 => ∃ ok, Found W w0 v ok
  | 7 => ∃ x ok, v = .bool ok ∧ Found W w0 x ok
  | 8 => ∃ N z t A n c, v = .pointer (some ⟨N, 0, none⟩) ∧ B2 ≤ N ∧ Blk W N 36 #[.int .i64 z, .string t, .slice A n c]
  | 10 => ∃ x ok, v = .bool ok ∧ Found W w0 x ok
  | _ => True
theorem Found.below {W W' : World} {w0 : ByteArray} {v : Value} {ok : Bool} (h : Found W w0 v ok) (hb : Below W.heap.size W W') : Found W' w0 v ok := by
  rcases h with h | ⟨fd, g, h1, h2, h3, h4⟩
  · exact .inl h
  · exact .inr ⟨fd, g, h1, h2, h3, (h4.below hb).more hb.size⟩
theorem Found.store {W : World} {w0 : ByteArray} {v : Value} {ok : Bool} {N : Nat} {z : Int} {t : ByteArray} {A : Option Addr} {n c : Nat} (h : Found W w0 v ok) (hN : Blk W N 36 #[.int .i64 z, .string t, .slice A n c]) (x0 x1 x2 : Value) :
    Found (((W.setCell ⟨N, 0, none⟩ x0).setCell ⟨N, 1, none⟩ x1).setCell ⟨N, 2, none⟩ x2) w0 v ok := by
  rcases h with h | ⟨fd, g, h1, h2, h3, h4⟩
  · exact .inl h
  · exact .inr ⟨fd, g, h1, h2, h3, by simpa using h4.other hN x0 x1 x2⟩
theorem Found.agg {W : World} {w0 : ByteArray} {v : Value} {ok : Bool} (h : Found W w0 v ok) : ∃ z t A n c, v = .agg #[.int .i64 z, .string t, .slice A n c] := by
  rcases h with ⟨_, rfl, _⟩ | ⟨fd, g, _, rfl, _⟩
  · exact ⟨_, _, _, _, _, rfl⟩
  · exact ⟨_, _, _, _, _, rfl⟩
theorem G8.below {w0 : ByteArray} {G nw B2 k : Nat} {v : Value} {W W' : World} (h : G8 w0 G nw B2 k v W) (hb : Below W.heap.size W W') : G8 w0 G nw B2 k v W' := by
  unfold G8 at h ⊢
  split at h
  · obtain ⟨m, kvs, h1, h2, h3⟩ := h
    exact ⟨m, kvs, h1, h2.below hb h2.lt, (h3.below hb).more hb.size⟩
  · exact h
  · exact h
  · exact h
  · obtain ⟨x, ok, h1, h2⟩ := h; exact ⟨x, ok, h1, h2.below hb⟩
  · obtain ⟨x, ok, h1, h2⟩ := h; exact ⟨x, ok, h1, h2.below hb⟩
  · obtain ⟨ok, h2⟩ := h; exact ⟨ok, h2.below hb⟩
  · obtain ⟨x, ok, h1, h2⟩ := h; exact ⟨x, ok, h1, h2.below hb⟩
  · obtain ⟨N, z, t, A, n, c, h1, h2, h3⟩ := h; exact ⟨N, z, t, A, n, c, h1, h2, h3.below hb h3.lt⟩
  · obtain ⟨x, ok, h1, h2⟩ := h; exact ⟨x, ok, h1, h2.below hb⟩
  · trivial
theorem G8.store {w0 : ByteArray} {G nw B2 k N : Nat} {v : Value} {W : World} {z z' : Int} {t t' : ByteArray} {A A' : Option Addr} {n c n' c' : Nat} (h : G8 w0 G nw B2 k v W) (hN : Blk W N 36 #[.int .i64 z, .string t, .slice A n c]) :
    G8 w0 G nw B2 k v (((W.setCell ⟨N, 0, none⟩ (.int .i64 z')).setCell ⟨N, 1, none⟩ (.string t')).setCell ⟨N, 2, none⟩ (.slice A' n' c')) := by
  unfold G8 at h ⊢
  split at h
  · obtain ⟨m, kvs, h1, h2, h3⟩ := h
    have hne : m ≠ N := fun e => by
      subst e
      unfold Blk at hN
      rw [show W.heap[m]? = _ from h2] at hN
      cases hN
    refine ⟨m, kvs, h1, ((Below.heap_setCell _ _ _ m hne).trans ((Below.heap_setCell _ _ _ m hne).trans (Below.heap_setCell _ _ _ m hne))).trans h2, h3.1, fun i fd hi hf => ?_⟩
    obtain ⟨g, h4, h5⟩ := h3.2 i fd hi hf
    exact ⟨g, h4, by simpa using h5.other hN (.int .i64 z') (.string t') (.slice A' n' c')⟩
  · exact h
  · exact h
  · exact h
  · obtain ⟨x, ok, h1, h2⟩ := h; exact ⟨x, ok, h1, h2.store hN _ _ _⟩
  · obtain ⟨x, ok, h1, h2⟩ := h; exact ⟨x, ok, h1, h2.store hN _ _ _⟩
  · obtain ⟨ok, h2⟩ := h; exact ⟨ok, h2.store hN _ _ _⟩
  · obtain ⟨x, ok, h1, h2⟩ := h; exact ⟨x, ok, h1, h2.store hN _ _ _⟩
  · obtain ⟨N', z1, t1, A1, n1, c1, h1, h2, h3⟩ := h
    by_cases hne : N' = N
    · subst hne
      exact ⟨N', z', t', A', n', c', h1, h2, h3.set3⟩
    · exact ⟨N', z1, t1, A1, n1, c1, h1, h2, ((h3.other ⟨N, 0, none⟩ _ hne).other ⟨N, 1, none⟩ _ hne).other ⟨N, 2, none⟩ _ hne⟩
  · obtain ⟨x, ok, h1, h2⟩ := h; exact ⟨x, ok, h1, h2.store hN _ _ _⟩
  · trivial
def F8 (w0 : ByteArray) (G nw B2 : Nat) (k : Nat) (xs : Nat → Value) (W : World) : Prop :=
  if k = 9 then ∃ N z t A n c, xs 8 = .pointer (some ⟨N, 0, none⟩) ∧ xs 6 = .agg #[.int .i64 z, .string t, .slice A n c] ∧ B2 ≤ N ∧ Blk W N 36 #[.int .i64 z, .string t, .slice A n c] else G8 w0 G nw B2 k (xs k) W
def dep8 (k j : Nat) : Bool := k == 9 && (j == 8 || j == 6)
theorem F8.of {w0 : ByteArray} {G nw B2 k : Nat} {xs : Nat → Value} {W : World} (h : F8 w0 G nw B2 k xs W) (hk : k ≠ 9) : G8 w0 G nw B2 k (xs k) W := by
  unfold F8 at h
  rwa [if_neg hk] at h
theorem F8.mk {w0 : ByteArray} {G nw B2 k : Nat} {xs : Nat → Value} {W : World} {v : Value} (h : G8 w0 G nw B2 k v W) (hk : k ≠ 9) : F8 w0 G nw B2 k (upd xs k v) W := by
  unfold F8
  rw [if_neg hk, upd_self]
  exact h
theorem F8.keep {w0 : ByteArray} {G nw B2 i : Nat} {xs : Nat → Value} {W W' : World} (v : Value) (hb : Below W.heap.size W W') : ∀ k, k ≠ i → dep8 k i = false → F8 w0 G nw B2 k xs W → F8 w0 G nw B2 k (upd xs i v) W' := by
  intro k hk hd h
  unfold F8 at h ⊢
  by_cases h9 : k = 9
  · rw [if_pos h9] at h ⊢
    obtain ⟨N, z, t, A, n, c, h1, h2, h3, h4⟩ := h
    have h8 : 8 ≠ i := fun e => by subst h9 e; cases hd
    have h6 : 6 ≠ i := fun e => by subst h9 e; cases hd
    exact ⟨N, z, t, A, n, c, by rw [upd_ne xs v h8]; exact h1, by rw [upd_ne xs v h6]; exact h2, h3, h4.below hb h4.lt⟩
  · rw [if_neg h9] at h ⊢
    rw [upd_ne xs v hk]
    exact h.below hb
theorem spaced_short : ∀ (r : List (List UInt8)) (x : List UInt8), ∀ y ∈ x :: r, y.length ≤ (x ++ spaced r).length
  | [], x, y, hy => by
    simp only [List.mem_cons, List.not_mem_nil, or_false] at hy
    subst hy
    simp
  | z :: r, x, y, hy => by
    have hs : spaced (z :: r) = 32 :: (z ++ spaced r) := by simp [spaced]
    rw [hs, List.length_append, List.length_cons]
    rcases List.mem_cons.1 hy with rfl | hy
    · omega
    · have := spaced_short r z y hy
      omega
theorem wordsOf_lists (s : ByteArray) : lists (wordsOf s) = Lib.splitK [32] 0 (Lib.countB s ⟨#[32]⟩) s.data.toList := Lib.splitB_data ⟨#[32]⟩ 0 _ s
/-- the words, put together again, are the text. -/
theorem wordsOf_join (s : ByteArray) {w0 : ByteArray} {wr : List ByteArray} (h : wordsOf s = w0 :: wr) : w0.data.toList ++ spaced (lists wr) = s.data.toList := by
  have h1 := wordsOf_lists s
  obtain ⟨x, r, h2, h3⟩ := join_split (Lib.countB s ⟨#[32]⟩) s.data.toList
  rw [h, h2] at h1
  simp only [lists, List.map_cons, List.cons.injEq] at h1
  rw [h1.1, show lists wr = r from h1.2]
  exact h3
theorem words_short {s w0 : ByteArray} {wr : List ByteArray} (h : wordsOf s = w0 :: wr) : ∀ x ∈ wr, x.size ≤ s.size := by
  intro x hx
  have h1 := spaced_short (lists wr) w0.data.toList x.data.toList (List.mem_cons_of_mem _ (List.mem_map.2 ⟨x, hx, rfl⟩))
  rw [wordsOf_join s h] at h1
  exact h1
theorem rdPDs_snoc : ∀ (ps : List PD) (a : Ad) (ws : List ByteArray) (p : PD), rdPDs a ws (ps ++ [p]) = (match rdPDs a ws ps with | none => none | some (a', ws') => rdPD a' ws' p)
  | [], a, ws, p => by
    simp only [List.nil_append, rdPDs]
    cases rdPD a ws p with
    | none => rfl
    | some x => rfl
  | q :: ps, a, ws, p => by
    simp only [List.cons_append, rdPDs]
    cases h : rdPD a ws q with
    | none => rfl
    | some x => exact rdPDs_snoc ps x.1 x.2 p
theorem rdPDs_none : ∀ (ps qs : List PD) (a : Ad) (ws : List ByteArray), rdPDs a ws ps = none → rdPDs a ws (ps ++ qs) = none
  | [], qs, a, ws, h => by cases h
  | q :: ps, qs, a, ws, h => by
    simp only [List.cons_append, rdPDs] at h ⊢
    cases hq : rdPD a ws q with
    | none => rfl
    | some x =>
      rw [hq] at h
      exact rdPDs_none ps qs x.1 x.2 h
theorem rdPDs_take {ps : List PD} {k : Nat} {p : PD} (h : ps[k]? = some p) (a : Ad) (ws : List ByteArray) : rdPDs a ws (ps.take (k + 1)) = (match rdPDs a ws (ps.take k) with | none => none | some (a', ws') => rdPD a' ws' p) := by
  have hk := (List.getElem?_eq_some_iff.1 h).1
  rw [List.take_add_one, h]
  exact rdPDs_snoc _ _ _ _
theorem rdPD_sub {a b : Ad} {ws r : List ByteArray} {p : PD} (h : rdPD a ws p = some (b, r)) : (∀ x ∈ r, x ∈ ws) ∧ r.length ≤ ws.length := by
  cases p with
  | numA => obtain ⟨w, rfl, _⟩ := rd_numA h; exact ⟨fun x hx => List.mem_cons_of_mem _ hx, by simp⟩
  | numB => obtain ⟨w, rfl, _⟩ := rd_numB h; exact ⟨fun x hx => List.mem_cons_of_mem _ hx, by simp⟩
  | nam => obtain ⟨w, rfl, _⟩ := rd_nam h; exact ⟨fun x hx => List.mem_cons_of_mem _ hx, by simp⟩
  | met => obtain ⟨w, rfl, _⟩ := rd_met h; exact ⟨fun x hx => List.mem_cons_of_mem _ hx, by simp⟩
  | surv => obtain ⟨_, _, rfl⟩ := rd_surv h; exact ⟨fun x hx => (by cases hx), Nat.zero_le _⟩
  | rest => obtain ⟨_, _, rfl⟩ := rd_rest h; exact ⟨fun x hx => (by cases hx), Nat.zero_le _⟩
theorem forms_tail {i : Nat} {fd : FD} (h : formsFD[i]? = some fd) {k : Nat} {p : PD} (hp : fd.pds[k]? = some p) (hk : k + 1 < fd.pds.length) : p.list = false := by
  have hm := List.mem_of_getElem? h
  unfold formsFD at hm
  simp only [List.mem_cons, List.not_mem_nil, or_false] at hm
  rcases hm with rfl | rfl | rfl | rfl | rfl | rfl | rfl | rfl | rfl | rfl | rfl | rfl | rfl | rfl | rfl | rfl <;> (
    simp only [List.length_cons, List.length_nil] at hk
    match k, hk with
    | 0, _ => simp at hp <;> subst hp <;> rfl
    | 1, hk => first | (exfalso; omega) | (simp at hp <;> subst hp <;> rfl)
    | 2, hk => first | (exfalso; omega) | (simp at hp <;> subst hp <;> rfl)
    | k + 3, hk => exfalso; omega)
theorem Row.other {w : World} {B R : Nat} {A : Option Addr} {n : Nat} {cs : List Value} (h : Row w B A n cs) (hA : ∀ b o, A = some ⟨b, o, none⟩ → R < b) {w' : World} (hw : ∀ b, b ≠ R → w'.heap[b]? = w.heap[b]?) : Row w' B A n cs :=
  ⟨h.1, fun h0 => by
    obtain ⟨b, off, h1, h2, h3⟩ := h.2 h0
    exact ⟨b, off, h1, h2, fun j v hv => by
      rw [← h3 j v hv]
      exact World.cell?_of_block (hw b (by have := hA b off h1; omega))⟩⟩
theorem Reads.other {w : World} {B R M : Nat} {v : Av} {d : Ad} (h : Reads w B v d) (hv : v.apart M) (hRM : R < M) {w' : World} (hw : ∀ b, b ≠ R → w'.heap[b]? = w.heap[b]?) : Reads w' B v d :=
  ⟨h.k, h.a, h.b, h.nm, h.mt, Row.other h.args (fun b o e => by have := hv.1 b o e; omega) hw, Row.other h.surv (fun b o e => by have := hv.2 b o e; omega) hw⟩
theorem set7_heap {w : World} {g b : Nat} (a0 a1 a2 a3 a4 a5 a6 : Value) (h : b ≠ g) :
    (((((((w.setCell ⟨g, 0, none⟩ a0).setCell ⟨g, 1, none⟩ a1).setCell ⟨g, 2, none⟩ a2).setCell ⟨g, 3, none⟩ a3).setCell ⟨g, 4, none⟩ a4).setCell ⟨g, 5, none⟩ a5).setCell ⟨g, 6, none⟩ a6).heap[b]? = w.heap[b]? :=
  (((((((Below.heap_setCell _ _ _ b h).trans (Below.heap_setCell _ _ _ b h)).trans (Below.heap_setCell _ _ _ b h)).trans (Below.heap_setCell _ _ _ b h)).trans (Below.heap_setCell _ _ _ b h)).trans (Below.heap_setCell _ _ _ b h)).trans (Below.heap_setCell _ _ _ b h))
def ParsePost (s : ByteArray) (w : World) (e : Ending) (w' : World) : Prop :=
  ∃ v a, e = .returned (.tuple #[.agg v.cells, .int .i64 (if (parseW (wordsOf s)).isSome then 0 else 3)]) ∧ a = (parseW (wordsOf s)).getD (zeroAd 0) ∧ Reads w' w'.heap.size v a ∧ v.n ≤ 1000000 ∧ v.n2 ≤ 1000000 ∧ Below w.heap.size w w'
theorem ParsePost.none {s : ByteArray} {w W : World} (h : parseW (wordsOf s) = Option.none) (hb : Below w.heap.size w W) : ParsePost s w (.returned (.tuple #[.agg (vOf (zeroAd 0)).cells, .int .i64 3])) W :=
  ⟨vOf (zeroAd 0), zeroAd 0, by rw [h]; rfl, by rw [h]; rfl, vOf_reads rfl rfl, Nat.zero_le _, Nat.zero_le _, hb⟩
theorem Blk.set7 {w : World} {g : Nat} {t : TypeId} {c0 c1 c2 c3 c4 c5 c6 a0 a1 a2 a3 a4 a5 a6 : Value} (h : Blk w g t #[c0, c1, c2, c3, c4, c5, c6]) :
    Blk (((((((w.setCell ⟨g, 0, Option.none⟩ a0).setCell ⟨g, 1, Option.none⟩ a1).setCell ⟨g, 2, Option.none⟩ a2).setCell ⟨g, 3, Option.none⟩ a3).setCell ⟨g, 4, Option.none⟩ a4).setCell ⟨g, 5, Option.none⟩ a5).setCell ⟨g, 6, Option.none⟩ a6) g t #[a0, a1, a2, a3, a4, a5, a6] := by
  have h7 := ((((((h.set 0 a0).set 1 a1).set 2 a2).set 3 a3).set 4 a4).set 5 a5).set 6 a6
  simp only [List.setIfInBounds_toArray, List.set_cons_zero, List.set_cons_succ] at h7
  exact h7
theorem below_set7 {B : Nat} {a w : World} (h : Below B a w) {g : Nat} (hg : B ≤ g) (a0 a1 a2 a3 a4 a5 a6 : Value) :
    Below B a (((((((w.setCell ⟨g, 0, Option.none⟩ a0).setCell ⟨g, 1, Option.none⟩ a1).setCell ⟨g, 2, Option.none⟩ a2).setCell ⟨g, 3, Option.none⟩ a3).setCell ⟨g, 4, Option.none⟩ a4).setCell ⟨g, 5, Option.none⟩ a5).setCell ⟨g, 6, Option.none⟩ a6) :=
  ((((((h.setCell (p := ⟨g, 0, Option.none⟩) hg a0).setCell (p := ⟨g, 1, Option.none⟩) hg a1).setCell (p := ⟨g, 2, Option.none⟩) hg a2).setCell (p := ⟨g, 3, Option.none⟩) hg a3).setCell (p := ⟨g, 4, Option.none⟩) hg a4).setCell (p := ⟨g, 5, Option.none⟩) hg a5).setCell (p := ⟨g, 6, Option.none⟩) hg a6
set_option maxRecDepth 100000 in
set_option maxHeartbeats 16000000 in
theorem parseAct8 (s : ByteArray) (w : World) (hg : Gl w) (hs : s.size ≤ 999999) : Calls Tryz.prog 8 #[.string s] w (ParsePost s w) := by
  have hwl := wordsOf_len s
  have hsp := fun (W : World) (m : Int) (hm : W.cell? ⟨0, 0, none⟩ = some (.int .i64 m)) => Tryz.strings_Split s ⟨#[32]⟩ m W (by omega) hm (by decide)
  have hcl := Lib.countB_le ⟨#[32]⟩ (by decide) s.size s (Nat.le_refl _)
  rw [show Lib.splitB ⟨#[32]⟩ 0 (Lib.countB s ⟨#[32]⟩) s = wordsOf s from rfl, ← hwl] at hsp
  have hwl2 : (wordsOf s).length ≤ 1000000 := by omega
  have hwl3 : 1 ≤ (wordsOf s).length := by omega
  have HG := Lib.hid hg
  have HSP := Lib.hid hsp
  clear hg hwl hsp hcl
  go_enter Tryz.func8, Tryz.ntmps8
  go_upto_region 1 with fail
  have hr0 := Blk.new w 25 (vOf (zeroAd 0)).cells
  have hb0 : Below w.heap.size w (w.alloc (.cells (vOf (zeroAd 0)).cells 25)) := (Below.refl _ _).alloc (Nat.le_refl _) _
  rw [show (#[.int .i64 0, .int .i64 0, .int .i64 0, .string ⟨#[]⟩, .string ⟨#[]⟩, .slice none 0 0, .slice none 0 0] : Array Value) = (vOf (zeroAd 0)).cells from rfl]
  generalize w.alloc (.cells (vOf (zeroAd 0)).cells 25) = W0 at hr0 hb0 ⊢
  have hlt0 := hr0.lt
  have zb0 := hb0.size
  obtain ⟨R, hR⟩ : ∃ R, w.heap.size = R := ⟨_, rfl⟩
  rw [hR] at hr0 hlt0 ⊢
  have HL := Lib.hid hR
  have QR := Lib.hid hr0
  have B0 := Lib.hid hb0
  obtain ⟨mm, hmm⟩ := GlB.mx (HG.out.below B0.out)
  have HC := Lib.hid (HSP.out W0 mm hmm)
  clear hR hr0 hb0 hmm
  go_wp2_with fail
  refine HC.out.mono ?_
  rintro e w2 ⟨rfl, hw2⟩
  have b2 : Below W0.heap.size W0 w2 := hw2 ▸ (Below.refl _ _).alloc (Nat.le_refl _) _
  have hq2 := hw2 ▸ Blk.new W0 9 ((wordsOf s).map Value.string).toArray
  have hs2 : w2.heap.size = W0.heap.size + 1 := by rw [hw2]; simp
  have HST := Lib.hid (Strs.of_blk (B := w2.heap.size) hq2 (by omega))
  have QR2 := Lib.hid (QR.out.below b2 hlt0)
  have B2 := Lib.hid (B0.out.trans (b2.mono zb0))
  generalize W0.heap.size = G at *
  clear HC hw2 b2 hq2 QR B0
  go_upto_region 2 with fail
  obtain ⟨nw, hnw⟩ : ∃ nw, (wordsOf s).length = nw := ⟨_, rfl⟩
  obtain ⟨w0, wt, hws⟩ : ∃ w0 wt, wordsOf s = w0 :: wt := by
    cases h : wordsOf s with
    | nil => rw [h] at hwl3; simp at hwl3
    | cons a b => exact ⟨a, b, rfl⟩
  obtain ⟨_, _, s', hA, hGlt, hs', hcg⟩ := HST.out.at_ (k := 0) (by omega)
  simp only [Option.some.injEq, Addr.mk.injEq, and_true] at hA
  obtain ⟨rfl, rfl⟩ := hA
  rw [hws] at hs'
  simp only [List.getElem?_cons_zero, Option.some.injEq] at hs'
  subst hs'
  rw [hnw] at HST hwl2 hwl3 ⊢
  have HWS := Lib.hid (And.intro hnw hws)
  clear hnw hws
  refine wp_region_facts2 (fun xs => { tmps := #[.string s, undef, .pointer (some ⟨R, 0, none⟩), .int .i64 0, .slice (some ⟨G, 0, none⟩) nw nw, xs 8, xs 10, undef, undef, undef, undef, undef, .string s, .slice (some ⟨G, 0, none⟩) nw nw, xs 5, xs 0, xs 1, xs 2, xs 3, xs 4, xs 6, xs 7, undef, undef, undef, undef, undef, undef, undef, undef, undef, undef, undef, undef, undef, undef, undef, undef, undef, undef, undef, undef, undef, undef, undef, undef, undef, undef, undef, undef, undef, undef, undef, undef, undef, undef, undef, undef, undef, undef, undef, undef], defers := [] }) (fun _ => undef) (fun W => Below w2.heap.size w2 W) (F8 w0 G nw w2.heap.size) dep8 (by kernel_rfl) (by kernel_rfl) ?_ rfl (Below.refl _ _).drew ?_ ?_
  · intro k j hk hd
    unfold dep8 at hd
    simp only [Bool.and_eq_true, Bool.or_eq_true, beq_iff_eq] at hd
    obtain ⟨rfl, rfl | rfl⟩ := hd <;> kernel_rfl
  · intro i hi xs W hJ hd
    obtain rfl | rfl | rfl | rfl | rfl | rfl | rfl | rfl | rfl | rfl | rfl : i = 0 ∨ i = 1 ∨ i = 2 ∨ i = 3 ∨ i = 4 ∨ i = 5 ∨ i = 6 ∨ i = 7 ∨ i = 8 ∨ i = 9 ∨ i = 10 := by
      have : i < 11 := hi
      omega
    · refine wpOp_step rfl fun K hK => ?_
      go_simp
      refine (byWord17 _).mono ?_
      rintro e W' ⟨m, kvs, rfl, hm, hw, hmlt, hb⟩
      exact hK _ _ ⟨.map (some m), rfl, hJ.trans (hb.mono hJ.size), F8.mk ⟨m, kvs, rfl, hm, hw⟩ (by decide), F8.keep _ hb⟩
    · refine wpOp_step rfl fun K hK => ?_
      go_simp
      exact hK _ _ ⟨.slice (some ⟨G, 0, none⟩) nw nw, rfl, hJ, F8.mk rfl (by decide), F8.keep _ (Below.refl _ _)⟩
    · have e1 := F8.of (hd 1 (by kernel_rfl)) (by decide)
      change xs 1 = _ at e1
      have hz1 : (0 : Int) < (nw : Int) := by omega
      have hz2 : 0 < nw := by omega
      refine wpOp_step rfl fun K hK => ?_
      go_simp
      refine hK _ _ ⟨.pointer (some ⟨G, 0, none⟩), ?_, hJ, F8.mk rfl (by decide), F8.keep _ (Below.refl _ _)⟩
      rw [← e1]
      rfl
    · have e2 := F8.of (hd 2 (by kernel_rfl)) (by decide)
      change xs 2 = _ at e2
      have hc : W.cell? ⟨G, 0, none⟩ = some (.string w0) := (cells_below hJ hGlt 0).trans hcg
      refine wpOp_step rfl fun K hK => ?_
      go_simp
      exact hK _ _ ⟨.string w0, by rw [← e2]; rfl, hJ, F8.mk rfl (by decide), F8.keep _ (Below.refl _ _)⟩
    · have e0 := F8.of (hd 0 (by kernel_rfl)) (by decide)
      obtain ⟨m, kvs, e0, hm, hw⟩ := e0
      have e3 := F8.of (hd 3 (by kernel_rfl)) (by decide)
      change xs 3 = _ at e3
      obtain ⟨v, ok, hl, hf⟩ := word_lookup hm hw w0
      have HFO := Lib.hid hf
      clear hm hw hf
      refine wpOp_step rfl fun K hK => ?_
      go_simp
      exact hK _ _ ⟨.tuple #[v, .bool ok], by rw [← e0, ← e3]; rfl, hJ, F8.mk ⟨v, ok, rfl, HFO.out⟩ (by decide), F8.keep _ (Below.refl _ _)⟩
    · obtain ⟨x, ok, e4, hf⟩ := F8.of (hd 4 (by kernel_rfl)) (by decide)
      have HFO := Lib.hid hf
      clear hf
      refine wpOp_step rfl fun K hK => ?_
      go_simp
      exact hK _ _ ⟨.tuple #[x, .bool ok], by rw [← e4]; rfl, hJ, F8.mk ⟨x, ok, rfl, HFO.out⟩ (by decide), F8.keep _ (Below.refl _ _)⟩
    · obtain ⟨x, ok, e5, hf⟩ := F8.of (hd 5 (by kernel_rfl)) (by decide)
      have HFO := Lib.hid hf
      clear hf
      refine wpOp_step rfl fun K hK => ?_
      go_simp
      exact hK _ _ ⟨x, by rw [← e5]; rfl, hJ, F8.mk ⟨ok, HFO.out⟩ (by decide), F8.keep _ (Below.refl _ _)⟩
    · obtain ⟨x, ok, e5, hf⟩ := F8.of (hd 5 (by kernel_rfl)) (by decide)
      have HFO := Lib.hid hf
      clear hf
      refine wpOp_step rfl fun K hK => ?_
      go_simp
      exact hK _ _ ⟨.bool ok, by rw [← e5]; rfl, hJ, F8.mk ⟨x, ok, rfl, HFO.out⟩ (by decide), F8.keep _ (Below.refl _ _)⟩
    · refine wpOp_step rfl fun K hK => ?_
      go_simp
      exact hK _ _ ⟨.pointer (some ⟨W.heap.size, 0, none⟩), rfl, hJ.alloc hJ.size _, F8.mk ⟨W.heap.size, _, _, _, _, _, rfl, hJ.size, Blk.new W 36 _⟩ (by decide), F8.keep _ ((Below.refl _ _).alloc (Nat.le_refl _) _)⟩
    · obtain ⟨N, z, t, A, n, c, e8, hN, hblk⟩ := F8.of (hd 8 (by kernel_rfl)) (by decide)
      obtain ⟨ok, hf⟩ := F8.of (hd 6 (by kernel_rfl)) (by decide)
      obtain ⟨z', t', A', n', c', e6⟩ := hf.agg
      have r0 : W.cell? ⟨N, 0, none⟩ = some (.int .i64 z) := hblk.cell 0
      have r1 : W.cell? ⟨N, 1, none⟩ = some (.string t) := hblk.cell 1
      have r2 : W.cell? ⟨N, 2, none⟩ = some (.slice A n c) := hblk.cell 2
      have f0 := hblk.frozen 0
      have f1 := hblk.frozen 1
      have f2 := hblk.frozen 2
      have HN := Lib.hid hblk
      clear hblk hf
      refine wpOp_step rfl fun K hK => ?_
      go_simp
      refine hK _ _ ⟨undef, by rw [← e6, ← e8]; rfl, below_set3 hJ hN _ _ _, ?_, ?_⟩
      · unfold F8
        rw [if_pos rfl]
        exact ⟨N, z', t', A', n', c', by rw [upd_ne xs _ (by decide)]; exact e8, by rw [upd_ne xs _ (by decide)]; exact e6, hN, HN.out.set3⟩
      · intro k hk hdk h
        have h2 := F8.of h hk
        unfold F8
        rw [if_neg hk, upd_ne xs _ hk]
        exact h2.store HN.out
    · obtain ⟨x, ok, e7, hf⟩ := F8.of (hd 7 (by kernel_rfl)) (by decide)
      have HFO := Lib.hid hf
      clear hf
      refine wpOp_step rfl fun K hK => ?_
      go_simp
      exact hK _ _ ⟨.bool ok, by rw [← e7]; rfl, hJ, F8.mk ⟨x, ok, rfl, HFO.out⟩ (by decide), F8.keep _ (Below.refl _ _)⟩
  · intro xs W hJ hall
    obtain ⟨N, z, t, A, n, c, e8, e6, hN, hblk⟩ : ∃ N z t A n c, xs 8 = .pointer (some ⟨N, 0, none⟩) ∧ xs 6 = .agg #[.int .i64 z, .string t, .slice A n c] ∧ w2.heap.size ≤ N ∧ Blk W N 36 #[.int .i64 z, .string t, .slice A n c] := by
      have h := hall 9 (by decide)
      unfold F8 at h
      rwa [if_pos rfl] at h
    obtain ⟨ok6, hf6⟩ := F8.of (hall 6 (by decide)) (by decide)
    obtain ⟨x10, ok, e10, hf10⟩ := F8.of (hall 10 (by decide)) (by decide)
    dsimp only
    rw [e8, e10, e6]
    have hfin : (ok = true ∧ ∃ fd g, formBy w0 = some fd ∧ z = fd.k ∧ t = fd.word ∧ A = some ⟨g, 0, none⟩ ∧ n = fd.pds.length ∧ c = fd.pds.length ∧ Parts W W.heap.size g fd.pds) ∨ ok = false ∧ formBy w0 = none := by
      rcases hf10 with ⟨h1, _, h3⟩ | ⟨fd, g, h1, _, h3, h4⟩
      · exact .inr ⟨h3, h1⟩
      · rcases hf6 with ⟨h5, _⟩ | ⟨fd', g', h5, h6, _, h7⟩
        · rw [h1] at h5; cases h5
        · rw [h1] at h5
          simp only [Option.some.injEq] at h5
          subst h5
          rw [e6] at h6
          unfold formVal at h6
          simp only [Value.agg.injEq, Array.mk.injEq, List.cons.injEq, Value.int.injEq, Value.string.injEq, Value.slice.injEq, true_and, and_true] at h6
          obtain ⟨rfl, rfl, rfl, rfl, rfl⟩ := h6
          exact .inl ⟨h3, fd, g', h1, rfl, rfl, rfl, rfl, rfl, h7⟩
    have QR3 := Lib.hid (QR2.out.below hJ QR2.out.lt)
    have B3 := Lib.hid (B2.out.trans (hJ.mono B2.out.size))
    have HST3 := Lib.hid (HST.out.below hJ)
    have HBLK := Lib.hid hblk
    have hNW := hblk.lt
    have hRw2 := QR2.out.lt
    have hwW := hJ.size
    clear hall hf6 hf10 e6 e8 e10 hblk hJ hcg HST QR2 B2
    rcases hfin with ⟨rfl, fd, g, h1, rfl, rfl, rfl, rfl, rfl, h2⟩ | ⟨rfl, h1⟩
    · have HF := Lib.hid (And.intro h1 h2)
      clear h1 h2
      have q0 : W.cell? ⟨N, 0, none⟩ = some (.int .i64 fd.k) := HBLK.out.cell 0
      have hnwz : (1 : Int) ≤ (nw : Int) := by omega
      go_upto_region 7 with fail
      obtain ⟨w3, hw3⟩ : ∃ w3, W.alloc (.cells (vOf (zeroAd fd.k)).cells 25) = w3 := ⟨_, rfl⟩
      have b3 : Below W.heap.size W w3 := hw3 ▸ (Below.refl _ _).alloc (Nat.le_refl _) _
      have hq3 := hw3 ▸ Blk.new W 25 (vOf (zeroAd fd.k)).cells
      have hs3 : w3.heap.size = W.heap.size + 1 := by rw [← hw3]; simp
      rw [show (#[.int .i64 fd.k, .int .i64 0, .int .i64 0, .string ⟨#[]⟩, .string ⟨#[]⟩, .slice none 0 0, .slice none 0 0] : Array Value) = (vOf (zeroAd fd.k)).cells from rfl, hw3]
      have HS0 : Strs W w2.heap.size (some ⟨G, 0, none⟩) (wt.length + 1) (w0 :: wt) := by
        have h1 := HST3.out
        rw [HWS.out.2] at h1
        have h2 := HWS.out.1
        rw [HWS.out.2] at h2
        rw [show wt.length + 1 = nw from h2]
        exact h1
      have hwr : wt.length + 1 = nw := by have h2 := HWS.out.1; rw [HWS.out.2] at h2; exact h2
      have hcut := HS0.cut (c := nw) (by omega)
      unfold cutA at hcut
      rw [Nat.zero_add] at hcut
      have hnw1 : nw - 1 = wt.length := by omega
      rw [hnw1]
      obtain ⟨A4, hA4⟩ : ∃ A4, (if nw = 1 then some (⟨G, 0, none⟩ : Addr) else some ⟨G, 1, none⟩) = A4 := ⟨_, rfl⟩
      rw [hA4] at hcut ⊢
      obtain ⟨M, hM⟩ : ∃ M, W.heap.size = M := ⟨_, rfl⟩
      rw [hM] at hq3 hs3 hNW b3 hwW ⊢
      have HST4 := Lib.hid ((hcut.below (b3.mono hwW)).more hwW)
      have QM := Lib.hid hq3
      have QR4 := Lib.hid (QR3.out.below b3 (by omega))
      have QN := Lib.hid (HBLK.out.below b3 (by omega))
      have HP := Lib.hid ((HF.out.2.below (hM ▸ b3)).more (Nat.le_of_eq hM))
      have B4 := Lib.hid (B3.out.trans ((hM ▸ b3 : Below W.heap.size W w3).mono B3.out.size))
      clear hq3 hcut HS0 hA4 q0 hw3 b3 HST3 HBLK QR3 B3
      have hfew := forms_few (formBy_some HF.out.1).2.choose_spec.2
      have hg34 : w3.cell? ⟨N, 2, none⟩ = some (.slice (some ⟨g, 0, none⟩) fd.pds.length fd.pds.length) := QN.out.cell 2
      have HWSZ := Lib.hid (show ∀ x ∈ wt, x.size ≤ 1000000 from fun x hx => Nat.le_trans (words_short HWS.out.2 x hx) (by omega))
      have hwrl : wt.length ≤ 1000000 := by omega
      have hwM : w.heap.size ≤ M := by have := HL.out; omega
      have hRM : R < M := by omega
      go_wp2_with fail
      go_loopw [4, 33] (fun u i wr => ∃ (k : Nat) (ad : Ad) (ws : List ByteArray) (v : Av) (A : Option Addr) (c : Nat), k ≤ fd.pds.length ∧ i = .int .i64 k ∧ u = .slice A ws.length c ∧ ws.length ≤ c ∧ ws.length ≤ 1000000 ∧ v.n ≤ 1000000 ∧ v.n2 ≤ 1000000 ∧ Hid (v.apart M) ∧
          Hid (rdPDs (zeroAd fd.k) wt (fd.pds.take k) = some (ad, ws)) ∧ Hid (Blk wr M 25 v.cells) ∧ Hid (Reads wr wr.heap.size v ad) ∧ Hid (Strs wr M A ws.length ws) ∧ Hid (∀ x ∈ ws, x ∈ wt) ∧ Hid (Below M w3 wr) ∧ Hid (k < fd.pds.length → v = vOf ad ∧ ad.args = [] ∧ ad.surv = [])) (fun _ i _ => fd.pds.length - (intOf i).toNat)
      case atStart => exact ⟨0, zeroAd fd.k, wt, vOf (zeroAd fd.k), A4, wt.length, Nat.zero_le _, rfl, rfl, Nat.le_refl _, hwrl, Nat.zero_le _, Nat.zero_le _, Lib.hid (vOf_apart _ _), Lib.hid rfl, QM, Lib.hid (vOf_reads rfl rfl), HST4, Lib.hid fun x hx => hx, Lib.hid (Below.refl _ _), Lib.hid fun _ => ⟨rfl, rfl, rfl⟩⟩
      case round =>
        clear hg34 QM HST4
        obtain ⟨k, ad, ws, v, A, c, hk, rfl, rfl, hwc, hw6, hvn, hvn2, HAP, HRD, HM, HRV, HSW, HIN, HB, HV⟩ := hrel
        by_cases hlt : k < fd.pds.length
        · obtain ⟨rfl, hav, hsv⟩ := HV.out hlt
          have HVL := Lib.hid (And.intro hav hsv)
          clear hav hsv
          obtain ⟨pd, a, b, cc, dd, hpd, hpv, a0, a1, a2, a3⟩ := (HP.out.below HB.out).at_ hlt
          obtain ⟨n1, x1, n2, x2, n3, x3, n4, x4, rfl, rfl, rfl, rfl⟩ := hpv.funcs
          have hk0 : 0 ≤ (k : Int) := by omega
          have hk1 : (k : Int) < (fd.pds.length : Int) := by omega
          have HPD := Lib.hid hpd
          have HPV := Lib.hid hpv
          clear hpd hpv
          go_upto_region 10 with fail
          have b5 : Below wr.heap.size wr (wr.alloc (.cells #[.func (.func n1) #[] x1, .func (.func n2) #[] x2, .func (.func n3) #[] x3, .func (.func n4) #[] x4] 44)) := (Below.refl _ _).alloc (Nat.le_refl _) _
          have hn5 := Blk.new wr 44 #[.func (.func n1) #[] x1, .func (.func n2) #[] x2, .func (.func n3) #[] x3, .func (.func n4) #[] x4]
          generalize wr.alloc (.cells #[.func (.func n1) #[] x1, .func (.func n2) #[] x2, .func (.func n3) #[] x3, .func (.func n4) #[] x4] 44) = w5 at b5 hn5 ⊢
          have hMq := HM.out.lt
          have HB5 := Lib.hid (HB.out.trans (b5.mono (Nat.le_of_lt hMq)))
          have HM5 := Lib.hid (HM.out.below b5 hMq)
          have HPV5 := Lib.hid (HPV.out.below (b5.mono (Nat.le_of_lt hMq)))
          have HSW5 := Lib.hid (HSW.out.below (b5.mono (Nat.le_of_lt hMq)))
          have a0 : w5.cell? ⟨wr.heap.size, 0, none⟩ = some (.func (.func n1) #[] x1) := hn5.cell 0
          clear a1 a2 a3 b5 HB HM HPV HSW hn5
          have hrun := part_read HPV5.out M ad HVL.out.1 HVL.out.2 HM5.out ((GlB.below HG.out (B4.out.trans (HB5.out.mono hwM))).more hwM (Nat.le_of_lt HM5.out.lt)) A ws ws.length c HSW5.out hwc hw6 (fun x hx => HWSZ.out x (HIN.out x hx))
          have hent := hrun.enters
          have HC := Lib.hid hrun.calls
          clear hrun
          go_wp2_with fail
          refine HC.out.mono ?_
          rintro e w6 ⟨b6, hs6, hres⟩
          have HB6 := Lib.hid (HB5.out.trans b6)
          have QR6 := Lib.hid ((QR4.out.below HB5.out hRM).below b6 hRM)
          cases hrd : rdPD ad ws pd with
          | none =>
            rw [hrd] at hres
            obtain ⟨A', n', c', rfl⟩ := hres
            have hno : parseW (wordsOf s) = none := by
              have h1 : rdPDs (zeroAd fd.k) wt (fd.pds.take (k + 1)) = none := by
                rw [rdPDs_take HPD.out, HRD.out]
                exact hrd
              have h2 := rdPDs_none _ (fd.pds.drop (k + 1)) _ _ h1
              rw [List.take_append_drop] at h2
              rw [HWS.out.2]
              unfold parseW
              dsimp only
              rw [HF.out.1]
              dsimp only
              rw [h2]
            have HNO := Lib.hid hno
            have B6 := Lib.hid (B4.out.trans (HB6.out.mono hwM))
            have r0 : w6.cell? ⟨R, 0, none⟩ = some (.int .i64 0) := QR6.out.cell 0
            have r1 : w6.cell? ⟨R, 1, none⟩ = some (.int .i64 0) := QR6.out.cell 1
            have r2 : w6.cell? ⟨R, 2, none⟩ = some (.int .i64 0) := QR6.out.cell 2
            have r3 : w6.cell? ⟨R, 3, none⟩ = some (.string ⟨#[]⟩) := QR6.out.cell 3
            have r4 : w6.cell? ⟨R, 4, none⟩ = some (.string ⟨#[]⟩) := QR6.out.cell 4
            have r5 : w6.cell? ⟨R, 5, none⟩ = some (.slice none 0 0) := QR6.out.cell 5
            have r6 : w6.cell? ⟨R, 6, none⟩ = some (.slice none 0 0) := QR6.out.cell 6
            have f0 := QR6.out.frozen 0
            have f1 := QR6.out.frozen 1
            have f2 := QR6.out.frozen 2
            have f3 := QR6.out.frozen 3
            have f4 := QR6.out.frozen 4
            have f5 := QR6.out.frozen 5
            have f6 := QR6.out.frozen 6
            clear hno hrd b6 HC hent a0 HM5 HPV5 HSW5
            go_wp2_with fail
            (try simp only [Exit.inBlock, Exit.then])
            refine bodyPost_ret (results_row_tmp rfl _ _ R 25 _ _ rfl (Blk.set7 QR6.out) Tryz.underlying25 rfl (by kernel_rfl)) rfl ?_
            exact ParsePost.none HNO.out (below_set7 B6.out (by have := HL.out; omega) _ _ _ _ _ _ _)
          | some y =>
            obtain ⟨ad', ws'⟩ := y
            rw [hrd] at hres
            obtain ⟨v', A', c', rfl, hm', hr', hs', hc', hn', hn2', hap', hv'⟩ := hres
            have hsub := rdPD_sub hrd
            have HREL := Lib.hid (And.intro hm' (And.intro hr' (And.intro hs' (And.intro hap' hv'))))
            have HRD2 := Lib.hid (show rdPDs (zeroAd fd.k) wt (fd.pds.take (k + 1)) = some (ad', ws') from by
              rw [rdPDs_take HPD.out, HRD.out]
              exact hrd)
            have HSUB := Lib.hid hsub.1
            have hsubl := hsub.2
            clear hm' hr' hs' hap' hv' hsub hrd b6 HC hent a0 HM5 HPV5 HSW5
            go_wp2_with fail
            go_roundw
            case rel =>
              obtain ⟨q1, q2, q3, q4, q5⟩ := HREL.out
              refine ⟨k + 1, ad', ws', v', A', c', by omega, by go_num, rfl, hc', by omega, hn', hn2', Lib.hid q4, HRD2, Lib.hid q1, Lib.hid q2, Lib.hid q3, Lib.hid fun x hx => HIN.out x (HSUB.out x hx), HB6, Lib.hid fun hk2 => ?_⟩
              obtain ⟨_, i, _, hi⟩ := formBy_some HF.out.1
              exact q5 (forms_tail hi HPD.out hk2)
            case measure => simp [intOf]; omega
        · obtain rfl : k = fd.pds.length := by omega
          have hrd := HRD.out
          rw [List.take_of_length_le (Nat.le_refl _)] at hrd
          have hpw : parseW (wordsOf s) = if okD ad = true ∧ ws = [] then some ad else none := by
            rw [HWS.out.2]
            unfold parseW
            dsimp only
            rw [HF.out.1]
            dsimp only
            rw [hrd]
          have c0 : wr.cell? ⟨M, 0, none⟩ = some (.int .i64 v.k) := HM.out.cell 0
          have c1 : wr.cell? ⟨M, 1, none⟩ = some (.int .i64 v.a) := HM.out.cell 1
          have c2 : wr.cell? ⟨M, 2, none⟩ = some (.int .i64 v.b) := HM.out.cell 2
          have c3 : wr.cell? ⟨M, 3, none⟩ = some (.string v.nm) := HM.out.cell 3
          have c4 : wr.cell? ⟨M, 4, none⟩ = some (.string v.mt) := HM.out.cell 4
          have c5 : wr.cell? ⟨M, 5, none⟩ = some (.slice v.A v.n v.c) := HM.out.cell 5
          have c6 : wr.cell? ⟨M, 6, none⟩ = some (.slice v.A2 v.n2 v.c2) := HM.out.cell 6
          have hMq := HM.out.lt
          have HPW := Lib.hid hpw
          have BQ := Lib.hid (B4.out.trans (HB.out.mono hwM))
          have HC := Lib.hid (formOf12 v ad wr HRV.out (HG.out.below BQ.out) hvn hvn2)
          clear hrd hpw
          go_wp2_with fail
          refine HC.out.mono ?_
          rintro e w7 ⟨fk, fw, fA, fn, fc, rfl, b7, _⟩
          have hs7 := b7.size
          obtain ⟨w8, hw8⟩ : ∃ w8, w7.alloc (.cells #[.int .i64 fk, .string fw, .slice fA fn fc] 36) = w8 := ⟨_, rfl⟩
          have b8 : Below wr.heap.size wr w8 := hw8 ▸ b7.alloc b7.size _
          have QR8 := Lib.hid ((QR4.out.below HB.out hRM).below b8 (by omega))
          have QM8 := Lib.hid (HM.out.below b8 hMq)
          have B8 := Lib.hid (BQ.out.trans (b8.mono (by omega)))
          have HR8 := Lib.hid ((HRV.out.below b8).more b8.size)
          have HZ8 := Lib.hid hw8
          clear hw8 b8 b7 HC c0 c1 c2 c3 c4 c5 c6
          cases hok : okD ad with
          | false =>
            have HNO := Lib.hid (show parseW (wordsOf s) = none from by rw [HPW.out, hok]; rfl)
            clear hok
            go_upto_region 15 with fail
            rw [HZ8.out]
            have r0 : w8.cell? ⟨R, 0, none⟩ = some (.int .i64 0) := QR8.out.cell 0
            have r1 : w8.cell? ⟨R, 1, none⟩ = some (.int .i64 0) := QR8.out.cell 1
            have r2 : w8.cell? ⟨R, 2, none⟩ = some (.int .i64 0) := QR8.out.cell 2
            have r3 : w8.cell? ⟨R, 3, none⟩ = some (.string ⟨#[]⟩) := QR8.out.cell 3
            have r4 : w8.cell? ⟨R, 4, none⟩ = some (.string ⟨#[]⟩) := QR8.out.cell 4
            have r5 : w8.cell? ⟨R, 5, none⟩ = some (.slice none 0 0) := QR8.out.cell 5
            have r6 : w8.cell? ⟨R, 6, none⟩ = some (.slice none 0 0) := QR8.out.cell 6
            have f0 := QR8.out.frozen 0
            have f1 := QR8.out.frozen 1
            have f2 := QR8.out.frozen 2
            have f3 := QR8.out.frozen 3
            have f4 := QR8.out.frozen 4
            have f5 := QR8.out.frozen 5
            have f6 := QR8.out.frozen 6
            go_wp2_with fail
            (try simp only [Exit.inBlock, Exit.then])
            refine bodyPost_ret (results_row_tmp rfl _ _ R 25 _ _ rfl (Blk.set7 QR8.out) Tryz.underlying25 rfl (by kernel_rfl)) rfl ?_
            exact ParsePost.none HNO.out (below_set7 B8.out (by have := HL.out; omega) _ _ _ _ _ _ _)
          | true =>
            cases ws with
            | cons x xs =>
              have HNO := Lib.hid (show parseW (wordsOf s) = none from by rw [HPW.out, hok]; rfl)
              obtain ⟨nl, hnl⟩ : ∃ nl, xs.length + 1 = nl := ⟨_, rfl⟩
              have hlz : decide ((0 : Int) < (nl : Int)) = true := decide_eq_true (by omega)
              clear hok
              go_upto_region 15 with fail
              rw [HZ8.out]
              have r0 : w8.cell? ⟨R, 0, none⟩ = some (.int .i64 0) := QR8.out.cell 0
              have r1 : w8.cell? ⟨R, 1, none⟩ = some (.int .i64 0) := QR8.out.cell 1
              have r2 : w8.cell? ⟨R, 2, none⟩ = some (.int .i64 0) := QR8.out.cell 2
              have r3 : w8.cell? ⟨R, 3, none⟩ = some (.string ⟨#[]⟩) := QR8.out.cell 3
              have r4 : w8.cell? ⟨R, 4, none⟩ = some (.string ⟨#[]⟩) := QR8.out.cell 4
              have r5 : w8.cell? ⟨R, 5, none⟩ = some (.slice none 0 0) := QR8.out.cell 5
              have r6 : w8.cell? ⟨R, 6, none⟩ = some (.slice none 0 0) := QR8.out.cell 6
              have f0 := QR8.out.frozen 0
              have f1 := QR8.out.frozen 1
              have f2 := QR8.out.frozen 2
              have f3 := QR8.out.frozen 3
              have f4 := QR8.out.frozen 4
              have f5 := QR8.out.frozen 5
              have f6 := QR8.out.frozen 6
              go_wp2_with fail
              (try simp only [Exit.inBlock, Exit.then])
              refine bodyPost_ret (results_row_tmp rfl _ _ R 25 _ _ rfl (Blk.set7 QR8.out) Tryz.underlying25 rfl (by kernel_rfl)) rfl ?_
              exact ParsePost.none HNO.out (below_set7 B8.out (by have := HL.out; omega) _ _ _ _ _ _ _)
            | nil =>
              have HYES := Lib.hid (show parseW (wordsOf s) = some ad from by rw [HPW.out, hok]; rfl)
              clear hok
              go_upto_region 15 with fail
              rw [HZ8.out]
              have r0 : w8.cell? ⟨R, 0, none⟩ = some (.int .i64 0) := QR8.out.cell 0
              have r1 : w8.cell? ⟨R, 1, none⟩ = some (.int .i64 0) := QR8.out.cell 1
              have r2 : w8.cell? ⟨R, 2, none⟩ = some (.int .i64 0) := QR8.out.cell 2
              have r3 : w8.cell? ⟨R, 3, none⟩ = some (.string ⟨#[]⟩) := QR8.out.cell 3
              have r4 : w8.cell? ⟨R, 4, none⟩ = some (.string ⟨#[]⟩) := QR8.out.cell 4
              have r5 : w8.cell? ⟨R, 5, none⟩ = some (.slice none 0 0) := QR8.out.cell 5
              have r6 : w8.cell? ⟨R, 6, none⟩ = some (.slice none 0 0) := QR8.out.cell 6
              have f0 := QR8.out.frozen 0
              have f1 := QR8.out.frozen 1
              have f2 := QR8.out.frozen 2
              have f3 := QR8.out.frozen 3
              have f4 := QR8.out.frozen 4
              have f5 := QR8.out.frozen 5
              have f6 := QR8.out.frozen 6
              have c0 : w8.cell? ⟨M, 0, none⟩ = some (.int .i64 v.k) := QM8.out.cell 0
              have c1 : w8.cell? ⟨M, 1, none⟩ = some (.int .i64 v.a) := QM8.out.cell 1
              have c2 : w8.cell? ⟨M, 2, none⟩ = some (.int .i64 v.b) := QM8.out.cell 2
              have c3 : w8.cell? ⟨M, 3, none⟩ = some (.string v.nm) := QM8.out.cell 3
              have c4 : w8.cell? ⟨M, 4, none⟩ = some (.string v.mt) := QM8.out.cell 4
              have c5 : w8.cell? ⟨M, 5, none⟩ = some (.slice v.A v.n v.c) := QM8.out.cell 5
              have c6 : w8.cell? ⟨M, 6, none⟩ = some (.slice v.A2 v.n2 v.c2) := QM8.out.cell 6
              go_wp2_with fail
              (try simp only [Exit.inBlock, Exit.then])
              refine bodyPost_ret (results_row_tmp rfl _ _ R 25 _ _ rfl (Blk.set7 QR8.out) Tryz.underlying25 rfl (by kernel_rfl)) rfl ?_
              refine ⟨v, ad, by rw [HYES.out]; rfl, by rw [HYES.out]; rfl, ?_, hvn, hvn2, below_set7 B8.out (by have := HL.out; omega) _ _ _ _ _ _ _⟩
              have h9 := HR8.out.other HAP.out hRM (fun b hb => set7_heap (w := w8) (.int .i64 v.k) (.int .i64 v.a) (.int .i64 v.b) (.string v.nm) (.string v.mt) (.slice v.A v.n v.c) (.slice v.A2 v.n2 v.c2) hb)
              simpa using h9
    · have HF := Lib.hid h1
      clear h1
      have r0 : W.cell? ⟨R, 0, none⟩ = some (.int .i64 0) := QR3.out.cell 0
      have r1 : W.cell? ⟨R, 1, none⟩ = some (.int .i64 0) := QR3.out.cell 1
      have r2 : W.cell? ⟨R, 2, none⟩ = some (.int .i64 0) := QR3.out.cell 2
      have r3 : W.cell? ⟨R, 3, none⟩ = some (.string ⟨#[]⟩) := QR3.out.cell 3
      have r4 : W.cell? ⟨R, 4, none⟩ = some (.string ⟨#[]⟩) := QR3.out.cell 4
      have r5 : W.cell? ⟨R, 5, none⟩ = some (.slice none 0 0) := QR3.out.cell 5
      have r6 : W.cell? ⟨R, 6, none⟩ = some (.slice none 0 0) := QR3.out.cell 6
      have f0 := QR3.out.frozen 0
      have f1 := QR3.out.frozen 1
      have f2 := QR3.out.frozen 2
      have f3 := QR3.out.frozen 3
      have f4 := QR3.out.frozen 4
      have f5 := QR3.out.frozen 5
      have f6 := QR3.out.frozen 6
      go_wp2_with fail
      (try simp only [Exit.inBlock, Exit.then])
      refine bodyPost_ret (results_row_tmp rfl _ _ R 25 _ _ rfl (Blk.set7 QR3.out) Tryz.underlying25 rfl (by kernel_rfl)) rfl ?_
      exact ParsePost.none (by rw [HWS.out.2]; unfold parseW; dsimp only; rw [HF.out]) (below_set7 B3.out (by have := HL.out; omega) _ _ _ _ _ _ _)
end Go.Proofs.YtoejjboanggenaaGreatDoor
