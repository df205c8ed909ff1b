/-
Reroute: the program and the reference.
-/
import Derived.Test.YtnlgkjnlfeeaoaaK
import Derived.WalkKit
import Derived.WalkSpells
import Derived.WalkLawsBesides
import Derived.Lib.Hide
import Derived.Deep.QuietTactic
import Derived.BigQuiet
import Derived.RegionTactic
import Derived.ChangeAlike
import Derived.BigRegion
namespace Go.Proofs.Ytnlgkjnlfeeaoaa
open Go.RowKit
theorem below_drew {B : Nat} {a w : World} (h : Below B a w) : Below B a w.drew := h.drew
def newUse (e : Ent) (r : Rf) : Int := if (e.a == r.o && e.n == r.n) = true then e.y else 0
def zeroEnt : Ent := ⟨0, 0, 0, 0, 0, 0, 0, false, false, false, 0, 0⟩
def reroute (e : Ent) (r : Rf) : Ent × Int :=
  if directRef r = false then (zeroEnt, 1)
  else if (idEq e.m e.s r.m r.s && e.x == r.c) = false then (zeroEnt, 7)
  else if e.g then (zeroEnt, 9)
  else (⟨r.o, r.n, e.m, e.s, e.x, if e.a == r.o && e.n == r.n then e.y else 0, e.d, true, e.w, false, 0, 0⟩, 0)

set_option maxRecDepth 100000 in
set_option maxHeartbeats 1000000 in
theorem reroute19_1 (e : Ent) (r : Rf) (w : World) (t1 : directRef r = false) :
    Calls Try.prog 19 #[.agg #[.int .i64 e.a, .int .u64 e.n, .int .i64 e.m, .int .i64 e.s, .int .i64 e.x, .int .i64 e.y, .int .i64 e.d, .bool e.t, .bool e.w, .bool e.g, .int .i64 e.p, .int .i64 e.q], .agg #[.int .i64 r.k, .int .i64 r.i, .int .i64 r.o, .int .u64 r.n, .int .i64 r.m, .int .i64 r.s, .int .i64 r.c, .bool r.w]] w fun v w' => v = .returned (.tuple #[.agg #[.int .i64 0, .int .u64 0, .int .i64 0, .int .i64 0, .int .i64 0, .int .i64 0, .int .i64 0, .bool false, .bool false, .bool false, .int .i64 0, .int .i64 0], .int .i64 1]) ∧ (((w.alloc (.cells #[.int .i64 e.a, .int .u64 e.n, .int .i64 e.m, .int .i64 e.s, .int .i64 e.x, .int .i64 e.y, .int .i64 e.d, .bool e.t, .bool e.w, .bool e.g, .int .i64 e.p, .int .i64 e.q] 36)).alloc (.cells #[.int .i64 r.k, .int .i64 r.i, .int .i64 r.o, .int .u64 r.n, .int .i64 r.m, .int .i64 r.s, .int .i64 r.c, .bool r.w] 39)).alloc (.cells #[.int .i64 0, .int .u64 0, .int .i64 0, .int .i64 0, .int .i64 0, .int .i64 0, .int .i64 0, .bool false, .bool false, .bool false, .int .i64 0, .int .i64 0] 36)).alloc (.cells #[.int .i64 r.k, .int .i64 r.i, .int .i64 r.o, .int .u64 r.n, .int .i64 r.m, .int .i64 r.s, .int .i64 r.c, .bool r.w] 39) = w' := by
  have hq1 := eql31
  have hq2 := eql32
  have hq3 := neq31
  have hq4 := neq32
  go_enter Try.func19, Try.ntmps19; go_wp2_with (go_at_call 26; refine (direct26 _ _).mono ?_; rintro v w1 ⟨rfl, rfl⟩)
  exact bodyPost_ret (v := .tuple #[.agg #[.int .i64 0, .int .u64 0, .int .i64 0, .int .i64 0, .int .i64 0, .int .i64 0, .int .i64 0, .bool false, .bool false, .bool false, .int .i64 0, .int .i64 0], .int .i64 1]) (by simp [results, Try.results19, go_sem]) rfl ⟨rfl, rfl⟩
set_option maxRecDepth 100000 in
set_option maxHeartbeats 1000000 in
theorem reroute19_7 (e : Ent) (r : Rf) (w : World) (t1 : directRef r = true) (t2 : (idEq e.m e.s r.m r.s && e.x == r.c) = false) :
    Calls Try.prog 19 #[.agg #[.int .i64 e.a, .int .u64 e.n, .int .i64 e.m, .int .i64 e.s, .int .i64 e.x, .int .i64 e.y, .int .i64 e.d, .bool e.t, .bool e.w, .bool e.g, .int .i64 e.p, .int .i64 e.q], .agg #[.int .i64 r.k, .int .i64 r.i, .int .i64 r.o, .int .u64 r.n, .int .i64 r.m, .int .i64 r.s, .int .i64 r.c, .bool r.w]] w fun v w' => v = .returned (.tuple #[.agg #[.int .i64 0, .int .u64 0, .int .i64 0, .int .i64 0, .int .i64 0, .int .i64 0, .int .i64 0, .bool false, .bool false, .bool false, .int .i64 0, .int .i64 0], .int .i64 7]) ∧ (((w.alloc (.cells #[.int .i64 e.a, .int .u64 e.n, .int .i64 e.m, .int .i64 e.s, .int .i64 e.x, .int .i64 e.y, .int .i64 e.d, .bool e.t, .bool e.w, .bool e.g, .int .i64 e.p, .int .i64 e.q] 36)).alloc (.cells #[.int .i64 r.k, .int .i64 r.i, .int .i64 r.o, .int .u64 r.n, .int .i64 r.m, .int .i64 r.s, .int .i64 r.c, .bool r.w] 39)).alloc (.cells #[.int .i64 0, .int .u64 0, .int .i64 0, .int .i64 0, .int .i64 0, .int .i64 0, .int .i64 0, .bool false, .bool false, .bool false, .int .i64 0, .int .i64 0] 36)).alloc (.cells #[.int .i64 r.k, .int .i64 r.i, .int .i64 r.o, .int .u64 r.n, .int .i64 r.m, .int .i64 r.s, .int .i64 r.c, .bool r.w] 39) = w' := by
  by_cases t3 : idEq e.m e.s r.m r.s = true
  · have t4 : (e.x == r.c) = false := by simpa [t3] using t2
    skip
    have t4' : (e.x != r.c) = true := by simp at t4; simp; omega
    clear t2
    have hq1 := eql31
    have hq2 := eql32
    have hq3 := neq31
    have hq4 := neq32
    go_enter Try.func19, Try.ntmps19; go_wp2_with (go_at_call 26; refine (direct26 _ _).mono ?_; rintro v w1 ⟨rfl, rfl⟩)
    exact bodyPost_ret (v := .tuple #[.agg #[.int .i64 0, .int .u64 0, .int .i64 0, .int .i64 0, .int .i64 0, .int .i64 0, .int .i64 0, .bool false, .bool false, .bool false, .int .i64 0, .int .i64 0], .int .i64 7]) (by simp [results, Try.results19, go_sem]) rfl ⟨rfl, rfl⟩
  · rw [Bool.not_eq_true] at t3
    skip
    clear t2
    have hq1 := eql31
    have hq2 := eql32
    have hq3 := neq31
    have hq4 := neq32
    go_enter Try.func19, Try.ntmps19; go_wp2_with (go_at_call 26; refine (direct26 _ _).mono ?_; rintro v w1 ⟨rfl, rfl⟩)
    exact bodyPost_ret (v := .tuple #[.agg #[.int .i64 0, .int .u64 0, .int .i64 0, .int .i64 0, .int .i64 0, .int .i64 0, .int .i64 0, .bool false, .bool false, .bool false, .int .i64 0, .int .i64 0], .int .i64 7]) (by simp [results, Try.results19, go_sem]) rfl ⟨rfl, rfl⟩
set_option maxRecDepth 100000 in
set_option maxHeartbeats 1000000 in
theorem reroute19_9 (e : Ent) (r : Rf) (w : World) (t1 : directRef r = true) (t2 : idEq e.m e.s r.m r.s = true) (t3 : (e.x == r.c) = true) (t4 : e.g = true) :
    Calls Try.prog 19 #[.agg #[.int .i64 e.a, .int .u64 e.n, .int .i64 e.m, .int .i64 e.s, .int .i64 e.x, .int .i64 e.y, .int .i64 e.d, .bool e.t, .bool e.w, .bool e.g, .int .i64 e.p, .int .i64 e.q], .agg #[.int .i64 r.k, .int .i64 r.i, .int .i64 r.o, .int .u64 r.n, .int .i64 r.m, .int .i64 r.s, .int .i64 r.c, .bool r.w]] w fun v w' => v = .returned (.tuple #[.agg #[.int .i64 0, .int .u64 0, .int .i64 0, .int .i64 0, .int .i64 0, .int .i64 0, .int .i64 0, .bool false, .bool false, .bool false, .int .i64 0, .int .i64 0], .int .i64 9]) ∧ (((w.alloc (.cells #[.int .i64 e.a, .int .u64 e.n, .int .i64 e.m, .int .i64 e.s, .int .i64 e.x, .int .i64 e.y, .int .i64 e.d, .bool e.t, .bool e.w, .bool e.g, .int .i64 e.p, .int .i64 e.q] 36)).alloc (.cells #[.int .i64 r.k, .int .i64 r.i, .int .i64 r.o, .int .u64 r.n, .int .i64 r.m, .int .i64 r.s, .int .i64 r.c, .bool r.w] 39)).alloc (.cells #[.int .i64 0, .int .u64 0, .int .i64 0, .int .i64 0, .int .i64 0, .int .i64 0, .int .i64 0, .bool false, .bool false, .bool false, .int .i64 0, .int .i64 0] 36)).alloc (.cells #[.int .i64 r.k, .int .i64 r.i, .int .i64 r.o, .int .u64 r.n, .int .i64 r.m, .int .i64 r.s, .int .i64 r.c, .bool r.w] 39) = w' := by
  have t3' : (e.x != r.c) = false := by simp at t3; simp; omega
  skip
  clear t3
  have hq1 := eql31
  have hq2 := eql32
  have hq3 := neq31
  have hq4 := neq32
  go_enter Try.func19, Try.ntmps19; go_wp2_with (go_at_call 26; refine (direct26 _ _).mono ?_; rintro v w1 ⟨rfl, rfl⟩)
  exact bodyPost_ret (v := .tuple #[.agg #[.int .i64 0, .int .u64 0, .int .i64 0, .int .i64 0, .int .i64 0, .int .i64 0, .int .i64 0, .bool false, .bool false, .bool false, .int .i64 0, .int .i64 0], .int .i64 9]) (by simp [results, Try.results19, go_sem]) rfl ⟨rfl, by rw [t4]⟩
set_option maxRecDepth 100000 in
set_option maxHeartbeats 1000000 in
theorem reroute19_0 (e : Ent) (r : Rf) (w : World) (t1 : directRef r = true) (t2 : idEq e.m e.s r.m r.s = true) (t3 : (e.x == r.c) = true) (t4 : e.g = false) :
    Calls Try.prog 19 #[.agg #[.int .i64 e.a, .int .u64 e.n, .int .i64 e.m, .int .i64 e.s, .int .i64 e.x, .int .i64 e.y, .int .i64 e.d, .bool e.t, .bool e.w, .bool e.g, .int .i64 e.p, .int .i64 e.q], .agg #[.int .i64 r.k, .int .i64 r.i, .int .i64 r.o, .int .u64 r.n, .int .i64 r.m, .int .i64 r.s, .int .i64 r.c, .bool r.w]] w fun v w' => v = .returned (.tuple #[.agg #[.int .i64 r.o, .int .u64 r.n, .int .i64 e.m, .int .i64 e.s, .int .i64 e.x, .int .i64 (newUse e r), .int .i64 e.d, .bool true, .bool e.w, .bool false, .int .i64 0, .int .i64 0], .int .i64 0]) ∧ ((((w.alloc (.cells #[.int .i64 r.o, .int .u64 r.n, .int .i64 e.m, .int .i64 e.s, .int .i64 e.x, .int .i64 (newUse e r), .int .i64 e.d, .bool true, .bool e.w, .bool false, .int .i64 0, .int .i64 0] 36)).alloc (.cells #[.int .i64 r.k, .int .i64 r.i, .int .i64 r.o, .int .u64 r.n, .int .i64 r.m, .int .i64 r.s, .int .i64 r.c, .bool r.w] 39)).alloc (.cells #[.int .i64 r.o, .int .u64 r.n, .int .i64 e.m, .int .i64 e.s, .int .i64 e.x, .int .i64 (newUse e r), .int .i64 e.d, .bool true, .bool e.w, .bool false, .int .i64 0, .int .i64 0] 36)).alloc (.cells #[.int .i64 r.k, .int .i64 r.i, .int .i64 r.o, .int .u64 r.n, .int .i64 r.m, .int .i64 r.s, .int .i64 r.c, .bool r.w] 39)).drew = w' := by
  have t3' : (e.x != r.c) = false := by simp at t3; simp; omega
  skip
  clear t3
  by_cases t5 : (e.a == r.o) = true
  · have t5' : (e.a != r.o) = false := by simpa using t5
    by_cases t6 : (e.n == r.n) = true
    · have t6' : (e.n != r.n) = false := by simpa using t6
      rw [show newUse e r = e.y from if_pos (by rw [t5, t6]; rfl)]
      have hq1 := eql31
      have hq2 := eql32
      have hq3 := neq31
      have hq4 := neq32
      go_enter Try.func19, Try.ntmps19; go_wp2_with (go_at_call 26; refine (direct26 _ _).mono ?_; rintro v w1 ⟨rfl, rfl⟩); go_region; go_wp2_with fail
      exact bodyPost_ret (v := .tuple #[.agg #[.int .i64 r.o, .int .u64 r.n, .int .i64 e.m, .int .i64 e.s, .int .i64 e.x, .int .i64 e.y, .int .i64 e.d, .bool true, .bool e.w, .bool false, .int .i64 0, .int .i64 0], .int .i64 0]) (by simp [results, Try.results19, go_sem]) rfl ⟨rfl, rfl⟩
    · rw [Bool.not_eq_true] at t6
      have t6' : (e.n != r.n) = true := by simpa using t6
      rw [show newUse e r = 0 from if_neg (by rw [t6]; simp)]
      have hq1 := eql31
      have hq2 := eql32
      have hq3 := neq31
      have hq4 := neq32
      go_enter Try.func19, Try.ntmps19; go_wp2_with (go_at_call 26; refine (direct26 _ _).mono ?_; rintro v w1 ⟨rfl, rfl⟩); go_region; go_wp2_with fail
      exact bodyPost_ret (v := .tuple #[.agg #[.int .i64 r.o, .int .u64 r.n, .int .i64 e.m, .int .i64 e.s, .int .i64 e.x, .int .i64 0, .int .i64 e.d, .bool true, .bool e.w, .bool false, .int .i64 0, .int .i64 0], .int .i64 0]) (by simp [results, Try.results19, go_sem]) rfl ⟨rfl, rfl⟩
  · rw [Bool.not_eq_true] at t5
    have t5' : (e.a != r.o) = true := by simpa using t5
    rw [show newUse e r = 0 from if_neg (by rw [t5]; simp)]
    have hq1 := eql31
    have hq2 := eql32
    have hq3 := neq31
    have hq4 := neq32
    go_enter Try.func19, Try.ntmps19; go_wp2_with (go_at_call 26; refine (direct26 _ _).mono ?_; rintro v w1 ⟨rfl, rfl⟩); go_region; go_wp2_with fail
    exact bodyPost_ret (v := .tuple #[.agg #[.int .i64 r.o, .int .u64 r.n, .int .i64 e.m, .int .i64 e.s, .int .i64 e.x, .int .i64 0, .int .i64 e.d, .bool true, .bool e.w, .bool false, .int .i64 0, .int .i64 0], .int .i64 0]) (by simp [results, Try.results19, go_sem]) rfl ⟨rfl, rfl⟩

theorem reroute19b_1 (e : Ent) (r : Rf) (w : World) (t1 : directRef r = false) :
    Calls Try.prog 19 #[.agg #[.int .i64 e.a, .int .u64 e.n, .int .i64 e.m, .int .i64 e.s, .int .i64 e.x, .int .i64 e.y, .int .i64 e.d, .bool e.t, .bool e.w, .bool e.g, .int .i64 e.p, .int .i64 e.q], .agg #[.int .i64 r.k, .int .i64 r.i, .int .i64 r.o, .int .u64 r.n, .int .i64 r.m, .int .i64 r.s, .int .i64 r.c, .bool r.w]] w fun v w' => v = .returned (.tuple #[.agg #[.int .i64 0, .int .u64 0, .int .i64 0, .int .i64 0, .int .i64 0, .int .i64 0, .int .i64 0, .bool false, .bool false, .bool false, .int .i64 0, .int .i64 0], .int .i64 1]) ∧ Below w.heap.size w w' :=
  (reroute19_1 e r w t1).mono fun _ _ h => ⟨h.1, by rw [← h.2]; exact (((((Below.refl _ _).alloc (Nat.le_refl _) _).alloc (by simp) _).alloc (by simp; omega) _).alloc (by simp; omega) _)⟩

theorem reroute19b_7 (e : Ent) (r : Rf) (w : World) (t1 : directRef r = true) (t2 : (idEq e.m e.s r.m r.s && e.x == r.c) = false) :
    Calls Try.prog 19 #[.agg #[.int .i64 e.a, .int .u64 e.n, .int .i64 e.m, .int .i64 e.s, .int .i64 e.x, .int .i64 e.y, .int .i64 e.d, .bool e.t, .bool e.w, .bool e.g, .int .i64 e.p, .int .i64 e.q], .agg #[.int .i64 r.k, .int .i64 r.i, .int .i64 r.o, .int .u64 r.n, .int .i64 r.m, .int .i64 r.s, .int .i64 r.c, .bool r.w]] w fun v w' => v = .returned (.tuple #[.agg #[.int .i64 0, .int .u64 0, .int .i64 0, .int .i64 0, .int .i64 0, .int .i64 0, .int .i64 0, .bool false, .bool false, .bool false, .int .i64 0, .int .i64 0], .int .i64 7]) ∧ Below w.heap.size w w' :=
  (reroute19_7 e r w t1 t2).mono fun _ _ h => ⟨h.1, by rw [← h.2]; exact (((((Below.refl _ _).alloc (Nat.le_refl _) _).alloc (by simp) _).alloc (by simp; omega) _).alloc (by simp; omega) _)⟩

theorem reroute19b_9 (e : Ent) (r : Rf) (w : World) (t1 : directRef r = true) (t2 : idEq e.m e.s r.m r.s = true) (t3 : (e.x == r.c) = true) (t4 : e.g = true) :
    Calls Try.prog 19 #[.agg #[.int .i64 e.a, .int .u64 e.n, .int .i64 e.m, .int .i64 e.s, .int .i64 e.x, .int .i64 e.y, .int .i64 e.d, .bool e.t, .bool e.w, .bool e.g, .int .i64 e.p, .int .i64 e.q], .agg #[.int .i64 r.k, .int .i64 r.i, .int .i64 r.o, .int .u64 r.n, .int .i64 r.m, .int .i64 r.s, .int .i64 r.c, .bool r.w]] w fun v w' => v = .returned (.tuple #[.agg #[.int .i64 0, .int .u64 0, .int .i64 0, .int .i64 0, .int .i64 0, .int .i64 0, .int .i64 0, .bool false, .bool false, .bool false, .int .i64 0, .int .i64 0], .int .i64 9]) ∧ Below w.heap.size w w' :=
  (reroute19_9 e r w t1 t2 t3 t4).mono fun _ _ h => ⟨h.1, by rw [← h.2]; exact (((((Below.refl _ _).alloc (Nat.le_refl _) _).alloc (by simp) _).alloc (by simp; omega) _).alloc (by simp; omega) _)⟩

theorem reroute19b_0 (e : Ent) (r : Rf) (w : World) (t1 : directRef r = true) (t2 : idEq e.m e.s r.m r.s = true) (t3 : (e.x == r.c) = true) (t4 : e.g = false) :
    Calls Try.prog 19 #[.agg #[.int .i64 e.a, .int .u64 e.n, .int .i64 e.m, .int .i64 e.s, .int .i64 e.x, .int .i64 e.y, .int .i64 e.d, .bool e.t, .bool e.w, .bool e.g, .int .i64 e.p, .int .i64 e.q], .agg #[.int .i64 r.k, .int .i64 r.i, .int .i64 r.o, .int .u64 r.n, .int .i64 r.m, .int .i64 r.s, .int .i64 r.c, .bool r.w]] w fun v w' => v = .returned (.tuple #[.agg #[.int .i64 r.o, .int .u64 r.n, .int .i64 e.m, .int .i64 e.s, .int .i64 e.x, .int .i64 (newUse e r), .int .i64 e.d, .bool true, .bool e.w, .bool false, .int .i64 0, .int .i64 0], .int .i64 0]) ∧ Below w.heap.size w w' :=
  (reroute19_0 e r w t1 t2 t3 t4).mono fun _ _ h => ⟨h.1, by rw [← h.2]; exact below_drew (((((Below.refl _ _).alloc (Nat.le_refl _) _).alloc (by simp) _).alloc (by simp; omega) _).alloc (by simp; omega) _)⟩

end Go.Proofs.Ytnlgkjnlfeeaoaa
