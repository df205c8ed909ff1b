/-
Contracts: slices.ContainsFunc, Direct, the reference's Stub, Direct and free.
-/
import Derived.Test.YtnlgkjnlfeeaoaaB
import Derived.WalkKit
import Derived.WalkSpells
import Derived.WalkLawsBesides
import Derived.Lib.Hide
import Derived.Deep.QuietTactic
import Derived.BigQuiet
namespace Go.Proofs.Ytnlgkjnlfeeaoaa
open Go.RowKit

theorem idx_nonneg (p : Ent → Bool) : ∀ (es : List Ent) (k : Nat), (0 ≤ idxFrom p es k) ↔ es.any p = true
  | [], k => by simp [idxFrom]
  | e :: es, k => by
    unfold idxFrom
    by_cases h : p e = true
    · simp [h]
    · simp [h, idx_nonneg p es (k + 1)]
theorem idx_ge (p : Ent → Bool) (es : List Ent) (k : Nat) : decide (0 ≤ idxFrom p es k) = es.any p := by
  rw [Bool.eq_iff_iff]; simp only [decide_eq_true_eq]; exact idx_nonneg p es k
theorem idx_range (p : Ent → Bool) : ∀ (es : List Ent) (k : Nat), idxFrom p es k = -1 ∨ (k ≤ idxFrom p es k ∧ idxFrom p es k < k + es.length)
  | [], k => by simp [idxFrom]
  | e :: es, k => by
    unfold idxFrom
    by_cases h : p e = true
    · simp [h]; omega
    · simp only [h]
      rcases idx_range p es (k + 1) with h1 | h1
      · simp [h1]
      · simp only [List.length_cons]; right; simp; omega

set_option maxHeartbeats 400000 in
theorem containsFunc24 (A : Option Addr) (n c : Nat) (es : List Ent) (r : Rf) (g : Nat) (w : World) (h : Ents w w.heap.size A n es) (hn : n ≤ 1000000) (hs : Blk w g 39 #[.int .i64 r.k, .int .i64 r.i, .int .i64 r.o, .int .u64 r.n, .int .i64 r.m, .int .i64 r.s, .int .i64 r.c, .bool r.w]) :
    Calls Try.prog 24 #[.slice A n c, .func (.func 25) #[] #[.pointer (some ⟨g, 0, none⟩)]] w fun e w' => e = .returned (.bool (es.any (sameRoute r))) ∧ Below w.heap.size w w' := by
  have hq1 := eql31
  have hq2 := eql32
  have hq3 := neq31
  have hq4 := neq32
  go_enter Try.func24, Try.ntmps24
  go_wp2_with fail
  refine (indexFunc29_25 _ _ _ _ _ _ _ h hn hs).mono ?_
  rintro v w1 ⟨rfl, hb⟩
  go_wp2_with fail
  go_ret
  exact ⟨ret_bool (idx_ge _ _ _), hb⟩

set_option maxHeartbeats 400000 in
theorem direct17 (A : Option Addr) (n c : Nat) (es : List Ent) (r : Rf) (w : World) (h : Ents w w.heap.size A n es) (hn : n ≤ 1000000) :
    Calls Try.prog 17 #[.slice A n c, .agg #[.int .i64 r.k, .int .i64 r.i, .int .i64 r.o, .int .u64 r.n, .int .i64 r.m, .int .i64 r.s, .int .i64 r.c, .bool r.w]] w fun e w' => e = .returned (.bool (es.any (sameRoute r))) ∧ Below w.heap.size w w' := by
  have h1 : ∀ o, Ents (w.alloc o) (w.alloc o).heap.size A n es := fun o => (h.below ((Below.refl _ _).alloc (Nat.le_refl _) _)).more (by simp)
  have hq1 := eql31
  have hq2 := eql32
  have hq3 := neq31
  have hq4 := neq32
  go_enter Try.func17, Try.ntmps17
  go_wp2_with fail
  refine (containsFunc24 _ _ _ _ _ _ _ (h1 _) hn (Blk.new _ _ _)).mono ?_
  rintro v w1 ⟨rfl, hb⟩
  go_wp2_with fail
  go_ret
  exact ⟨rfl, ((Below.refl _ _).alloc (Nat.le_refl _) _).trans (hb.mono (by simp))⟩

set_option maxHeartbeats 400000 in
theorem stub14 (A : Option Addr) (n c : Nat) (es : List Ent) (m s : Int) (w : World) (h : Ents w w.heap.size A n es) (hn : n ≤ 1000000) :
    Calls Try.prog 14 #[.slice A n c, .agg #[.int .i64 m, .int .i64 s]] w fun e w' => e = .returned (.int .i64 (idxFrom (fun e => idEq e.m e.s m s) es 0)) ∧ Below w.heap.size w w' := by
  have hq1 := eql31
  have hq2 := eql32
  have hq3 := neq31
  have hq4 := neq32
  go_enter Try.func14, Try.ntmps14
  go_wp2
  go_loopw [5] (fun i wr => ∃ k : Nat, k ≤ n ∧ i = .int .i64 k ∧ (∃ d, wr = (w.alloc (Obj.cells #[.int .i64 m, .int .i64 s] 31)).drewN d) ∧ Hid (idxFrom (fun e => idEq e.m e.s m s) es 0 = idxFrom (fun e => idEq e.m e.s m s) (es.drop k) k)) (fun i _ => n - (intOf i).toNat)
  case atStart => exact ⟨0, Nat.zero_le _, rfl, ⟨0, rfl⟩, rfl⟩
  case round =>
    obtain ⟨k, hk, rfl, ⟨d, rfl⟩, HI⟩ := hrel
    have hb : ∀ d, Below w.heap.size w ((w.alloc (Obj.cells #[.int .i64 m, .int .i64 s] 31)).drewN d) := fun d => below_drewN ((Below.refl _ _).alloc (Nat.le_refl _) _) d
    by_cases hlt : k < n
    · obtain ⟨b, off, e, rfl, hb2, he, c0, c1, c2, c3, c4, c5, c6, c7, c8, c9, c10, c11⟩ := h.cells hlt
      have hst := Lib.hid (idxFrom_step (p := fun e => idEq e.m e.s m s) he)
      have hk0 : 0 ≤ (k : Int) := by omega
      have hk1 : (k : Int) < n := by omega
      clear h he c0 c1 c4 c5 c6 c7 c8 c9 c10 c11
      go_wp2
      go_quiet (fail)
      go_wp2
      · go_ret
        refine ⟨ret_int ?_, below_drewN (hb _) _⟩
        rw [HI.out, hst.out]; simp [*]
      · go_roundw
        case rel => exact ⟨k + 1, by omega, by go_num, ⟨_, rfl⟩, Lib.hid (by rw [HI.out, hst.out]; simp [*])⟩
        case measure => simp [intOf]; omega
    · go_wp2
      go_ret
      refine ⟨ret_int ?_, hb _⟩
      rw [HI.out, idxFrom_end (by rw [h.1]; omega)]

set_option maxHeartbeats 400000 in
theorem direct18 (A : Option Addr) (n c : Nat) (es : List Ent) (r : Rf) (w : World) (h : Ents w w.heap.size A n es) (hn : n ≤ 1000000) :
    Calls Try.prog 18 #[.slice A n c, .agg #[.int .i64 r.k, .int .i64 r.i, .int .i64 r.o, .int .u64 r.n, .int .i64 r.m, .int .i64 r.s, .int .i64 r.c, .bool r.w]] w fun e w' => e = .returned (.bool (es.any (sameRoute r))) ∧ Below w.heap.size w w' := by
  have hq1 := eql31
  have hq2 := eql32
  have hq3 := neq31
  have hq4 := neq32
  go_enter Try.func18, Try.ntmps18
  go_wp2
  go_loopw [5] (fun i wr => ∃ k : Nat, k ≤ n ∧ i = .int .i64 k ∧ (∃ d, wr = (w.alloc (Obj.cells #[.int .i64 r.k, .int .i64 r.i, .int .i64 r.o, .int .u64 r.n, .int .i64 r.m, .int .i64 r.s, .int .i64 r.c, .bool r.w] 39)).drewN d) ∧ Hid (es.any (sameRoute r) = (es.drop k).any (sameRoute r))) (fun i _ => n - (intOf i).toNat)
  case atStart => exact ⟨0, Nat.zero_le _, rfl, ⟨0, rfl⟩, rfl⟩
  case round =>
    obtain ⟨k, hk, rfl, ⟨d, rfl⟩, HI⟩ := hrel
    have hb : ∀ d, Below w.heap.size w ((w.alloc (Obj.cells #[.int .i64 r.k, .int .i64 r.i, .int .i64 r.o, .int .u64 r.n, .int .i64 r.m, .int .i64 r.s, .int .i64 r.c, .bool r.w] 39)).drewN d) := fun d => below_drewN ((Below.refl _ _).alloc (Nat.le_refl _) _) d
    by_cases hlt : k < n
    · obtain ⟨b, off, e, rfl, hb2, he, c0, c1, c2, c3, c4, c5, c6, c7, c8, c9, c10, c11⟩ := h.cells hlt
      have hst : Hid ((es.drop k).any (sameRoute r) = (sameRoute r e || (es.drop (k + 1)).any (sameRoute r))) := by
        obtain ⟨hk', rfl⟩ := List.getElem?_eq_some_iff.1 he
        rw [List.drop_eq_getElem_cons hk']; rfl
      have hk0 : 0 ≤ (k : Int) := by omega
      have hk1 : (k : Int) < n := by omega
      clear h he c4 c5 c6 c7 c8 c9 c10 c11
      by_cases t1 : idEq e.m e.s r.m r.s = true
      · by_cases t2 : (e.a == r.o) = true
        · by_cases t3 : (e.n == r.n) = true
          · go_wp2
            go_quiet (fail)
            go_wp2
            go_ret
            exact ⟨ret_bool (by rw [HI.out, hst.out]; simp [sameRoute, *]), below_drewN (hb _) _⟩
          · rw [Bool.not_eq_true] at t3
            go_wp2
            go_quiet (fail)
            go_wp2
            go_roundw
            case rel => exact ⟨k + 1, by omega, by go_num, ⟨_, rfl⟩, Lib.hid (by rw [HI.out, hst.out]; simp [sameRoute, *])⟩
            case measure => simp [intOf]; omega
        · rw [Bool.not_eq_true] at t2
          go_wp2
          go_quiet (fail)
          go_wp2
          go_roundw
          case rel => exact ⟨k + 1, by omega, by go_num, ⟨_, rfl⟩, Lib.hid (by rw [HI.out, hst.out]; simp [sameRoute, *])⟩
          case measure => simp [intOf]; omega
      · rw [Bool.not_eq_true] at t1
        go_wp2
        go_quiet (fail)
        go_wp2
        go_roundw
        case rel => exact ⟨k + 1, by omega, by go_num, ⟨_, rfl⟩, Lib.hid (by rw [HI.out, hst.out]; simp [sameRoute, *])⟩
        case measure => simp [intOf]; omega
    · go_wp2
      go_ret
      refine ⟨ret_bool ?_, hb _⟩
      rw [HI.out, List.drop_eq_nil_of_le (by rw [h.1]; omega)]; rfl
end Go.Proofs.Ytnlgkjnlfeeaoaa
