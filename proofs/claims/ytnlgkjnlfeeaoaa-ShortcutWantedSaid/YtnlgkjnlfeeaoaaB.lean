/-
Contracts: slices.IndexFunc with the two closures, slices.ContainsFunc, Direct, the reference's Stub and Direct.
-/
import Derived.Test.YtnlgkjnlfeeaoaaA
import Derived.WalkKit
import Derived.WalkSpells
import Derived.WalkLawsBesides
import Derived.Lib.Hide
import Derived.Deep.QuietTactic
import Derived.BigQuiet
namespace Go.Proofs.Ytnlgkjnlfeeaoaa
open Go.RowKit

/-- the index of the first entry with a property, from k on; or -1. -/
def idxFrom (p : Ent → Bool) : List Ent → Nat → Int
  | [], _ => -1
  | e :: es, k => if p e then k else idxFrom p es (k + 1)
theorem idxFrom_step {p : Ent → Bool} {es : List Ent} {k : Nat} {e : Ent} (h : es[k]? = some e) : idxFrom p (es.drop k) k = if p e then (k : Int) else idxFrom p (es.drop (k + 1)) (k + 1) := by
  obtain ⟨hk, rfl⟩ := List.getElem?_eq_some_iff.1 h
  rw [List.drop_eq_getElem_cons hk]; rfl
theorem idxFrom_end {p : Ent → Bool} {es : List Ent} {k : Nat} (h : es.length ≤ k) : idxFrom p (es.drop k) k = -1 := by
  rw [List.drop_eq_nil_of_le h]; rfl
theorem ret_int {k : IntKind} {a b : Int} (h : a = b) : Ending.returned (.int k a) = .returned (.int k b) := by rw [h]
theorem ret_bool {a b : Bool} (h : a = b) : Ending.returned (.bool a) = .returned (.bool b) := by rw [h]

def sameRoute (r : Rf) (e : Ent) : Bool := idEq e.m e.s r.m r.s && e.a == r.o && e.n == r.n

set_option maxHeartbeats 400000 in
theorem closure25 (e : Ent) (r : Rf) (g : Nat) (w : World) (hs : Blk w g 39 #[.int .i64 r.k, .int .i64 r.i, .int .i64 r.o, .int .u64 r.n, .int .i64 r.m, .int .i64 r.s, .int .i64 r.c, .bool r.w]) :
    Calls Try.prog 25 #[.agg #[.int .i64 e.a, .int .u64 e.n, .int .i64 e.m, .int .i64 e.s, .int .i64 e.x, .int .i64 e.y, .int .i64 e.d, .bool e.t, .bool e.w, .bool e.g, .int .i64 e.p, .int .i64 e.q], .pointer (some ⟨g, 0, none⟩)] w fun v w' => v = .returned (.bool (sameRoute r e)) ∧ Below w.heap.size w w' := by
  have hg := hs.lt
  have c2 : w.cell? ⟨g, 2, none⟩ = some (.int .i64 r.o) := hs.cell 2
  have c3 : w.cell? ⟨g, 3, none⟩ = some (.int .u64 r.n) := hs.cell 3
  have c4 : w.cell? ⟨g, 4, none⟩ = some (.int .i64 r.m) := hs.cell 4
  have c5 : w.cell? ⟨g, 5, none⟩ = some (.int .i64 r.s) := hs.cell 5
  have hq1 := eql31
  have hq2 := eql32
  have hq3 := neq31
  have hq4 := neq32
  go_enter Try.func25, Try.ntmps25
  go_wp2_with fail
  all_goals
    go_ret
    refine ⟨ret_bool ?_, (Below.refl _ _).alloc (Nat.le_refl _) _⟩
    simp_all [sameRoute]


set_option maxHeartbeats 400000 in
theorem indexFunc29_30 (A : Option Addr) (n c : Nat) (es : List Ent) (s : Ent) (g : Nat) (w : World) (h : Ents w w.heap.size A n es) (hn : n ≤ 1000000) (hs : Blk w g 34 #[.int .i64 s.a, .int .u64 s.n, .int .i64 s.m, .int .i64 s.s, .int .i64 s.x, .int .i64 s.y, .int .i64 s.d, .bool s.t, .bool s.w, .bool s.g, .int .i64 s.p, .int .i64 s.q]) :
    Calls Try.prog 29 #[.slice A n c, .func (.func 30) #[] #[.pointer (some ⟨g, 0, none⟩)]] w fun e w' => e = .returned (.int .i64 (idxFrom (fun e => idEq e.m e.s s.m s.s) es 0)) ∧ Below w.heap.size w w' := by
  have hg := hs.lt
  have hq1 := eql31
  have hq2 := eql32
  have hq3 := neq31
  have hq4 := neq32
  go_enter Try.func29, Try.ntmps29
  go_wp2
  go_loopw [8] (fun i wr => ∃ k : Nat, k ≤ n ∧ i = .int .i64 k ∧ Below w.heap.size w wr ∧ Hid (idxFrom (fun e => idEq e.m e.s s.m s.s) es 0 = idxFrom (fun e => idEq e.m e.s s.m s.s) (es.drop k) k)) (fun i _ => n - (intOf i).toNat)
  case atStart => exact ⟨0, Nat.zero_le _, rfl, Below.refl _ _, rfl⟩
  case round =>
    obtain ⟨k, hk, rfl, hb, HI⟩ := hrel
    by_cases hlt : k < n
    · have hsw := hs.below hb hg
      obtain ⟨b, off, e, rfl, hb2, he, c0, c1, c2, c3, c4, c5, c6, c7, c8, c9, c10, c11⟩ := (h.below hb).cells hlt
      have hst := Lib.hid (idxFrom_step (p := fun e => idEq e.m e.s s.m s.s) he)
      have hk0 : 0 ≤ (k : Int) := by omega
      have hk1 : (k : Int) < n := by omega
      clear h he
      go_wp2_with (go_at_call 30; refine (closure30 _ _ _ _ hsw).mono ?_; rintro v w1 ⟨rfl, hb1⟩)
      · go_ret
        refine ⟨ret_int ?_, hb.trans (hb1.mono hb.size)⟩
        rw [HI.out, hst.out]; simp [*]
      · go_roundw
        case rel => exact ⟨k + 1, by omega, by go_num, hb.trans (hb1.mono hb.size), Lib.hid (by rw [HI.out, hst.out]; simp [*])⟩
        case measure => simp [intOf]; omega
    · go_wp2
      go_ret
      refine ⟨ret_int ?_, hb⟩
      rw [HI.out, idxFrom_end (by rw [h.1]; omega)]

set_option maxHeartbeats 400000 in
theorem indexFunc29_25 (A : Option Addr) (n c : Nat) (es : List Ent) (r : Rf) (g : Nat) (w : World) (h : Ents w w.heap.size A n es) (hn : n ≤ 1000000) (hs : Blk w g 39 #[.int .i64 r.k, .int .i64 r.i, .int .i64 r.o, .int .u64 r.n, .int .i64 r.m, .int .i64 r.s, .int .i64 r.c, .bool r.w]) :
    Calls Try.prog 29 #[.slice A n c, .func (.func 25) #[] #[.pointer (some ⟨g, 0, none⟩)]] w fun e w' => e = .returned (.int .i64 (idxFrom (sameRoute r) es 0)) ∧ Below w.heap.size w w' := by
  have hg := hs.lt
  have hq1 := eql31
  have hq2 := eql32
  have hq3 := neq31
  have hq4 := neq32
  go_enter Try.func29, Try.ntmps29
  go_wp2
  go_loopw [8] (fun i wr => ∃ k : Nat, k ≤ n ∧ i = .int .i64 k ∧ Below w.heap.size w wr ∧ Hid (idxFrom (sameRoute r) es 0 = idxFrom (sameRoute r) (es.drop k) k)) (fun i _ => n - (intOf i).toNat)
  case atStart => exact ⟨0, Nat.zero_le _, rfl, Below.refl _ _, rfl⟩
  case round =>
    obtain ⟨k, hk, rfl, hb, HI⟩ := hrel
    by_cases hlt : k < n
    · have hsw := hs.below hb hg
      obtain ⟨b, off, e, rfl, hb2, he, c0, c1, c2, c3, c4, c5, c6, c7, c8, c9, c10, c11⟩ := (h.below hb).cells hlt
      have hst := Lib.hid (idxFrom_step (p := sameRoute r) he)
      have hk0 : 0 ≤ (k : Int) := by omega
      have hk1 : (k : Int) < n := by omega
      clear h he
      go_wp2_with (go_at_call 25; refine (closure25 _ _ _ _ hsw).mono ?_; rintro v w1 ⟨rfl, hb1⟩)
      · go_ret
        refine ⟨ret_int ?_, hb.trans (hb1.mono hb.size)⟩
        rw [HI.out, hst.out]; simp [*]
      · go_roundw
        case rel => exact ⟨k + 1, by omega, by go_num, hb.trans (hb1.mono hb.size), Lib.hid (by rw [HI.out, hst.out]; simp [*])⟩
        case measure => simp [intOf]; omega
    · go_wp2
      go_ret
      refine ⟨ret_int ?_, hb⟩
      rw [HI.out, idxFrom_end (by rw [h.1]; omega)]

end Go.Proofs.Ytnlgkjnlfeeaoaa
