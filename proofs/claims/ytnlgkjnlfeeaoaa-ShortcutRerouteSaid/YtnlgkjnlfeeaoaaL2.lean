/-
Reroute of the reference.
-/
import Derived.Test.YtnlgkjnlfeeaoaaL
import Derived.WalkKit
import Derived.WalkSpells
import Derived.WalkLawsBesides
import Derived.Lib.Hide
import Derived.Deep.QuietTactic
import Derived.BigQuiet
namespace Go.Proofs.Ytnlgkjnlfeeaoaa
open Go.RowKit

set_option maxRecDepth 100000 in
set_option maxHeartbeats 1000000 in
theorem reroute20_1 (e : Ent) (r : Rf) (w : World) (t1 : directRef r = false) :
    Calls Try.prog 20 #[.agg #[.int .i64 e.a, .int .u64 e.n, .int .i64 e.m, .int .i64 e.s, .int .i64 e.x, .int .i64 e.y, .int .i64 e.d, .bool e.t, .bool e.w, .bool e.g, .int .i64 e.p, .int .i64 e.q], .agg #[.int .i64 r.k, .int .i64 r.i, .int .i64 r.o, .int .u64 r.n, .int .i64 r.m, .int .i64 r.s, .int .i64 r.c, .bool r.w]] w fun v w' => v = .returned (.tuple #[.agg #[.int .i64 0, .int .u64 0, .int .i64 0, .int .i64 0, .int .i64 0, .int .i64 0, .int .i64 0, .bool false, .bool false, .bool false, .int .i64 0, .int .i64 0], .int .i64 1]) ∧ Below w.heap.size w w' := by
  by_cases k1 : (r.k != 3) = true
  · clear t1
    have hq1 := eql31
    have hq2 := eql32
    have hq3 := neq31
    have hq4 := neq32
    go_enter Try.func20, Try.ntmps20; go_wp2_with (go_at_call 27; refine (valid27 _ _ _).mono ?_; rintro v w1 ⟨rfl, rfl⟩)
    exact bodyPost_ret (v := .tuple #[.agg #[.int .i64 0, .int .u64 0, .int .i64 0, .int .i64 0, .int .i64 0, .int .i64 0, .int .i64 0, .bool false, .bool false, .bool false, .int .i64 0, .int .i64 0], .int .i64 1]) (by simp [results, Try.results20, go_sem]) rfl ⟨rfl, (by first | exact (((Below.refl _ _).alloc (Nat.le_refl _) _).alloc (by simp) _).alloc (by simp; omega) _ | exact ((((Below.refl _ _).alloc (Nat.le_refl _) _).alloc (by simp) _).alloc (by simp; omega) _).alloc (by simp; omega) _ | exact (((((Below.refl _ _).alloc (Nat.le_refl _) _).alloc (by simp) _).alloc (by simp; omega) _).alloc (by simp; omega) _).alloc (by simp; omega) _ | exact ((((((Below.refl _ _).alloc (Nat.le_refl _) _).alloc (by simp) _).alloc (by simp; omega) _).alloc (by simp; omega) _).alloc (by simp; omega) _).alloc (by simp; omega) _ | exact below_drew ((((Below.refl _ _).alloc (Nat.le_refl _) _).alloc (by simp) _).alloc (by simp; omega) _) | exact below_drew (((((Below.refl _ _).alloc (Nat.le_refl _) _).alloc (by simp) _).alloc (by simp; omega) _).alloc (by simp; omega) _))⟩
  · rw [Bool.not_eq_true] at k1
    by_cases k2 : r.o < 1
    · clear t1
      have hq1 := eql31
      have hq2 := eql32
      have hq3 := neq31
      have hq4 := neq32
      go_enter Try.func20, Try.ntmps20; go_wp2_with (go_at_call 27; refine (valid27 _ _ _).mono ?_; rintro v w1 ⟨rfl, rfl⟩)
      exact bodyPost_ret (v := .tuple #[.agg #[.int .i64 0, .int .u64 0, .int .i64 0, .int .i64 0, .int .i64 0, .int .i64 0, .int .i64 0, .bool false, .bool false, .bool false, .int .i64 0, .int .i64 0], .int .i64 1]) (by simp [results, Try.results20, go_sem]) rfl ⟨rfl, (by first | exact (((Below.refl _ _).alloc (Nat.le_refl _) _).alloc (by simp) _).alloc (by simp; omega) _ | exact ((((Below.refl _ _).alloc (Nat.le_refl _) _).alloc (by simp) _).alloc (by simp; omega) _).alloc (by simp; omega) _ | exact (((((Below.refl _ _).alloc (Nat.le_refl _) _).alloc (by simp) _).alloc (by simp; omega) _).alloc (by simp; omega) _).alloc (by simp; omega) _ | exact ((((((Below.refl _ _).alloc (Nat.le_refl _) _).alloc (by simp) _).alloc (by simp; omega) _).alloc (by simp; omega) _).alloc (by simp; omega) _).alloc (by simp; omega) _ | exact below_drew ((((Below.refl _ _).alloc (Nat.le_refl _) _).alloc (by simp) _).alloc (by simp; omega) _) | exact below_drew (((((Below.refl _ _).alloc (Nat.le_refl _) _).alloc (by simp) _).alloc (by simp; omega) _).alloc (by simp; omega) _))⟩
    · by_cases k3 : 8 < r.o
      · clear t1
        have hq1 := eql31
        have hq2 := eql32
        have hq3 := neq31
        have hq4 := neq32
        go_enter Try.func20, Try.ntmps20; go_wp2_with (go_at_call 27; refine (valid27 _ _ _).mono ?_; rintro v w1 ⟨rfl, rfl⟩)
        exact bodyPost_ret (v := .tuple #[.agg #[.int .i64 0, .int .u64 0, .int .i64 0, .int .i64 0, .int .i64 0, .int .i64 0, .int .i64 0, .bool false, .bool false, .bool false, .int .i64 0, .int .i64 0], .int .i64 1]) (by simp [results, Try.results20, go_sem]) rfl ⟨rfl, (by first | exact (((Below.refl _ _).alloc (Nat.le_refl _) _).alloc (by simp) _).alloc (by simp; omega) _ | exact ((((Below.refl _ _).alloc (Nat.le_refl _) _).alloc (by simp) _).alloc (by simp; omega) _).alloc (by simp; omega) _ | exact (((((Below.refl _ _).alloc (Nat.le_refl _) _).alloc (by simp) _).alloc (by simp; omega) _).alloc (by simp; omega) _).alloc (by simp; omega) _ | exact ((((((Below.refl _ _).alloc (Nat.le_refl _) _).alloc (by simp) _).alloc (by simp; omega) _).alloc (by simp; omega) _).alloc (by simp; omega) _).alloc (by simp; omega) _ | exact below_drew ((((Below.refl _ _).alloc (Nat.le_refl _) _).alloc (by simp) _).alloc (by simp; omega) _) | exact below_drew (((((Below.refl _ _).alloc (Nat.le_refl _) _).alloc (by simp) _).alloc (by simp; omega) _).alloc (by simp; omega) _))⟩
      · have k4 : validId r.m r.s = false := by
          have hk : r.k = 3 := by simpa using k1
          rw [← Bool.not_eq_true]; intro hv; rw [← Bool.not_eq_true] at t1; apply t1; simp [validId] at hv; simp [directRef]; omega
        have k2' : 1 ≤ r.o := by omega
        have k3' : r.o ≤ 8 := by omega
        clear t1 k2 k3
        have hq1 := eql31
        have hq2 := eql32
        have hq3 := neq31
        have hq4 := neq32
        go_enter Try.func20, Try.ntmps20; go_wp2_with (go_at_call 27; refine (valid27 _ _ _).mono ?_; rintro v w1 ⟨rfl, rfl⟩)
        exact bodyPost_ret (v := .tuple #[.agg #[.int .i64 0, .int .u64 0, .int .i64 0, .int .i64 0, .int .i64 0, .int .i64 0, .int .i64 0, .bool false, .bool false, .bool false, .int .i64 0, .int .i64 0], .int .i64 1]) (by simp [results, Try.results20, go_sem]) rfl ⟨rfl, (by first | exact (((Below.refl _ _).alloc (Nat.le_refl _) _).alloc (by simp) _).alloc (by simp; omega) _ | exact ((((Below.refl _ _).alloc (Nat.le_refl _) _).alloc (by simp) _).alloc (by simp; omega) _).alloc (by simp; omega) _ | exact (((((Below.refl _ _).alloc (Nat.le_refl _) _).alloc (by simp) _).alloc (by simp; omega) _).alloc (by simp; omega) _).alloc (by simp; omega) _ | exact ((((((Below.refl _ _).alloc (Nat.le_refl _) _).alloc (by simp) _).alloc (by simp; omega) _).alloc (by simp; omega) _).alloc (by simp; omega) _).alloc (by simp; omega) _ | exact below_drew ((((Below.refl _ _).alloc (Nat.le_refl _) _).alloc (by simp) _).alloc (by simp; omega) _) | exact below_drew (((((Below.refl _ _).alloc (Nat.le_refl _) _).alloc (by simp) _).alloc (by simp; omega) _).alloc (by simp; omega) _))⟩
set_option maxRecDepth 100000 in
set_option maxHeartbeats 1000000 in
theorem reroute20_7 (e : Ent) (r : Rf) (w : World) (t1 : directRef r = true) (t2 : (idEq e.m e.s r.m r.s && e.x == r.c) = false) :
    Calls Try.prog 20 #[.agg #[.int .i64 e.a, .int .u64 e.n, .int .i64 e.m, .int .i64 e.s, .int .i64 e.x, .int .i64 e.y, .int .i64 e.d, .bool e.t, .bool e.w, .bool e.g, .int .i64 e.p, .int .i64 e.q], .agg #[.int .i64 r.k, .int .i64 r.i, .int .i64 r.o, .int .u64 r.n, .int .i64 r.m, .int .i64 r.s, .int .i64 r.c, .bool r.w]] w fun v w' => v = .returned (.tuple #[.agg #[.int .i64 0, .int .u64 0, .int .i64 0, .int .i64 0, .int .i64 0, .int .i64 0, .int .i64 0, .bool false, .bool false, .bool false, .int .i64 0, .int .i64 0], .int .i64 7]) ∧ Below w.heap.size w w' := by
  have k1 : (r.k != 3) = false := by simp [directRef] at t1; simpa using t1.1
  have k2 : 1 ≤ r.o := by simp [directRef] at t1; omega
  have k3 : r.o ≤ 8 := by simp [directRef] at t1; omega
  have k4 : validId r.m r.s = true := by simp [directRef] at t1; simp [validId]; omega
  clear t1
  by_cases t3 : idEq e.m e.s r.m r.s = true
  · have t4 : (e.x == r.c) = false := by simpa [t3] using t2
    have t3' : idEq r.m r.s e.m e.s = true := by rw [idEq_true] at *; exact ⟨t3.1.symm, t3.2.symm⟩
    have t4' : (r.c != e.x) = true := by simp at t4; simp; omega
    clear t2
    have hq1 := eql31
    have hq2 := eql32
    have hq3 := neq31
    have hq4 := neq32
    go_enter Try.func20, Try.ntmps20; go_wp2_with (go_at_call 27; refine (valid27 _ _ _).mono ?_; rintro v w1 ⟨rfl, rfl⟩)
    exact bodyPost_ret (v := .tuple #[.agg #[.int .i64 0, .int .u64 0, .int .i64 0, .int .i64 0, .int .i64 0, .int .i64 0, .int .i64 0, .bool false, .bool false, .bool false, .int .i64 0, .int .i64 0], .int .i64 7]) (by simp [results, Try.results20, go_sem]) rfl ⟨rfl, (by first | exact (((Below.refl _ _).alloc (Nat.le_refl _) _).alloc (by simp) _).alloc (by simp; omega) _ | exact ((((Below.refl _ _).alloc (Nat.le_refl _) _).alloc (by simp) _).alloc (by simp; omega) _).alloc (by simp; omega) _ | exact (((((Below.refl _ _).alloc (Nat.le_refl _) _).alloc (by simp) _).alloc (by simp; omega) _).alloc (by simp; omega) _).alloc (by simp; omega) _ | exact ((((((Below.refl _ _).alloc (Nat.le_refl _) _).alloc (by simp) _).alloc (by simp; omega) _).alloc (by simp; omega) _).alloc (by simp; omega) _).alloc (by simp; omega) _ | exact below_drew ((((Below.refl _ _).alloc (Nat.le_refl _) _).alloc (by simp) _).alloc (by simp; omega) _) | exact below_drew (((((Below.refl _ _).alloc (Nat.le_refl _) _).alloc (by simp) _).alloc (by simp; omega) _).alloc (by simp; omega) _))⟩
  · rw [Bool.not_eq_true] at t3
    have t3' : idEq r.m r.s e.m e.s = false := by rw [idEq_false] at *; exact fun h => t3 ⟨h.1.symm, h.2.symm⟩
    clear t2
    have hq1 := eql31
    have hq2 := eql32
    have hq3 := neq31
    have hq4 := neq32
    go_enter Try.func20, Try.ntmps20; go_wp2_with (go_at_call 27; refine (valid27 _ _ _).mono ?_; rintro v w1 ⟨rfl, rfl⟩)
    exact bodyPost_ret (v := .tuple #[.agg #[.int .i64 0, .int .u64 0, .int .i64 0, .int .i64 0, .int .i64 0, .int .i64 0, .int .i64 0, .bool false, .bool false, .bool false, .int .i64 0, .int .i64 0], .int .i64 7]) (by simp [results, Try.results20, go_sem]) rfl ⟨rfl, (by first | exact (((Below.refl _ _).alloc (Nat.le_refl _) _).alloc (by simp) _).alloc (by simp; omega) _ | exact ((((Below.refl _ _).alloc (Nat.le_refl _) _).alloc (by simp) _).alloc (by simp; omega) _).alloc (by simp; omega) _ | exact (((((Below.refl _ _).alloc (Nat.le_refl _) _).alloc (by simp) _).alloc (by simp; omega) _).alloc (by simp; omega) _).alloc (by simp; omega) _ | exact ((((((Below.refl _ _).alloc (Nat.le_refl _) _).alloc (by simp) _).alloc (by simp; omega) _).alloc (by simp; omega) _).alloc (by simp; omega) _).alloc (by simp; omega) _ | exact below_drew ((((Below.refl _ _).alloc (Nat.le_refl _) _).alloc (by simp) _).alloc (by simp; omega) _) | exact below_drew (((((Below.refl _ _).alloc (Nat.le_refl _) _).alloc (by simp) _).alloc (by simp; omega) _).alloc (by simp; omega) _))⟩
set_option maxRecDepth 100000 in
set_option maxHeartbeats 1000000 in
theorem reroute20_9 (e : Ent) (r : Rf) (w : World) (t1 : directRef r = true) (t2 : idEq e.m e.s r.m r.s = true) (t3 : (e.x == r.c) = true) (t4 : e.g = true) :
    Calls Try.prog 20 #[.agg #[.int .i64 e.a, .int .u64 e.n, .int .i64 e.m, .int .i64 e.s, .int .i64 e.x, .int .i64 e.y, .int .i64 e.d, .bool e.t, .bool e.w, .bool e.g, .int .i64 e.p, .int .i64 e.q], .agg #[.int .i64 r.k, .int .i64 r.i, .int .i64 r.o, .int .u64 r.n, .int .i64 r.m, .int .i64 r.s, .int .i64 r.c, .bool r.w]] w fun v w' => v = .returned (.tuple #[.agg #[.int .i64 0, .int .u64 0, .int .i64 0, .int .i64 0, .int .i64 0, .int .i64 0, .int .i64 0, .bool false, .bool false, .bool false, .int .i64 0, .int .i64 0], .int .i64 9]) ∧ Below w.heap.size w w' := by
  have k1 : (r.k != 3) = false := by simp [directRef] at t1; simpa using t1.1
  have k2 : 1 ≤ r.o := by simp [directRef] at t1; omega
  have k3 : r.o ≤ 8 := by simp [directRef] at t1; omega
  have k4 : validId r.m r.s = true := by simp [directRef] at t1; simp [validId]; omega
  clear t1
  have t3' : (r.c != e.x) = false := by simp at t3; simp; omega
  have t2' : idEq r.m r.s e.m e.s = true := by rw [idEq_true] at *; exact ⟨t2.1.symm, t2.2.symm⟩
  clear t3
  have hq1 := eql31
  have hq2 := eql32
  have hq3 := neq31
  have hq4 := neq32
  go_enter Try.func20, Try.ntmps20; go_wp2_with (go_at_call 27; refine (valid27 _ _ _).mono ?_; rintro v w1 ⟨rfl, rfl⟩)
  exact bodyPost_ret (v := .tuple #[.agg #[.int .i64 0, .int .u64 0, .int .i64 0, .int .i64 0, .int .i64 0, .int .i64 0, .int .i64 0, .bool false, .bool false, .bool false, .int .i64 0, .int .i64 0], .int .i64 9]) (by simp [results, Try.results20, go_sem]) rfl ⟨rfl, (by first | exact (((Below.refl _ _).alloc (Nat.le_refl _) _).alloc (by simp) _).alloc (by simp; omega) _ | exact ((((Below.refl _ _).alloc (Nat.le_refl _) _).alloc (by simp) _).alloc (by simp; omega) _).alloc (by simp; omega) _ | exact (((((Below.refl _ _).alloc (Nat.le_refl _) _).alloc (by simp) _).alloc (by simp; omega) _).alloc (by simp; omega) _).alloc (by simp; omega) _ | exact ((((((Below.refl _ _).alloc (Nat.le_refl _) _).alloc (by simp) _).alloc (by simp; omega) _).alloc (by simp; omega) _).alloc (by simp; omega) _).alloc (by simp; omega) _ | exact below_drew ((((Below.refl _ _).alloc (Nat.le_refl _) _).alloc (by simp) _).alloc (by simp; omega) _) | exact below_drew (((((Below.refl _ _).alloc (Nat.le_refl _) _).alloc (by simp) _).alloc (by simp; omega) _).alloc (by simp; omega) _))⟩
set_option maxRecDepth 100000 in
set_option maxHeartbeats 1000000 in
theorem reroute20_0 (e : Ent) (r : Rf) (w : World) (t1 : directRef r = true) (t2 : idEq e.m e.s r.m r.s = true) (t3 : (e.x == r.c) = true) (t4 : e.g = false) :
    Calls Try.prog 20 #[.agg #[.int .i64 e.a, .int .u64 e.n, .int .i64 e.m, .int .i64 e.s, .int .i64 e.x, .int .i64 e.y, .int .i64 e.d, .bool e.t, .bool e.w, .bool e.g, .int .i64 e.p, .int .i64 e.q], .agg #[.int .i64 r.k, .int .i64 r.i, .int .i64 r.o, .int .u64 r.n, .int .i64 r.m, .int .i64 r.s, .int .i64 r.c, .bool r.w]] w fun v w' => v = .returned (.tuple #[.agg #[.int .i64 r.o, .int .u64 r.n, .int .i64 e.m, .int .i64 e.s, .int .i64 e.x, .int .i64 (newUse e r), .int .i64 e.d, .bool true, .bool e.w, .bool false, .int .i64 0, .int .i64 0], .int .i64 0]) ∧ Below w.heap.size w w' := by
  have k1 : (r.k != 3) = false := by simp [directRef] at t1; simpa using t1.1
  have k2 : 1 ≤ r.o := by simp [directRef] at t1; omega
  have k3 : r.o ≤ 8 := by simp [directRef] at t1; omega
  have k4 : validId r.m r.s = true := by simp [directRef] at t1; simp [validId]; omega
  clear t1
  have t3' : (r.c != e.x) = false := by simp at t3; simp; omega
  have t2' : idEq r.m r.s e.m e.s = true := by rw [idEq_true] at *; exact ⟨t2.1.symm, t2.2.symm⟩
  clear t3
  by_cases t5 : (e.a == r.o) = true
  · have t5' : (e.a != r.o) = false := by simpa using t5
    by_cases t6 : (e.n == r.n) = true
    · have t6' : (e.n != r.n) = false := by simpa using t6
      rw [show newUse e r = e.y from if_pos (by rw [t5, t6]; rfl)]
      have hq1 := eql31
      have hq2 := eql32
      have hq3 := neq31
      have hq4 := neq32
      go_enter Try.func20, Try.ntmps20; go_wp2_with (go_at_call 27; refine (valid27 _ _ _).mono ?_; rintro v w1 ⟨rfl, rfl⟩)
      exact bodyPost_ret (v := .tuple #[.agg #[.int .i64 r.o, .int .u64 r.n, .int .i64 e.m, .int .i64 e.s, .int .i64 e.x, .int .i64 e.y, .int .i64 e.d, .bool true, .bool e.w, .bool false, .int .i64 0, .int .i64 0], .int .i64 0]) (by simp [results, Try.results20, go_sem]) rfl ⟨rfl, (by first | exact (((Below.refl _ _).alloc (Nat.le_refl _) _).alloc (by simp) _).alloc (by simp; omega) _ | exact ((((Below.refl _ _).alloc (Nat.le_refl _) _).alloc (by simp) _).alloc (by simp; omega) _).alloc (by simp; omega) _ | exact (((((Below.refl _ _).alloc (Nat.le_refl _) _).alloc (by simp) _).alloc (by simp; omega) _).alloc (by simp; omega) _).alloc (by simp; omega) _ | exact ((((((Below.refl _ _).alloc (Nat.le_refl _) _).alloc (by simp) _).alloc (by simp; omega) _).alloc (by simp; omega) _).alloc (by simp; omega) _).alloc (by simp; omega) _ | exact below_drew ((((Below.refl _ _).alloc (Nat.le_refl _) _).alloc (by simp) _).alloc (by simp; omega) _) | exact below_drew (((((Below.refl _ _).alloc (Nat.le_refl _) _).alloc (by simp) _).alloc (by simp; omega) _).alloc (by simp; omega) _))⟩
    · rw [Bool.not_eq_true] at t6
      have t6' : (e.n != r.n) = true := by simpa using t6
      rw [show newUse e r = 0 from if_neg (by rw [t6]; simp)]
      have hq1 := eql31
      have hq2 := eql32
      have hq3 := neq31
      have hq4 := neq32
      go_enter Try.func20, Try.ntmps20; go_wp2_with (go_at_call 27; refine (valid27 _ _ _).mono ?_; rintro v w1 ⟨rfl, rfl⟩)
      exact bodyPost_ret (v := .tuple #[.agg #[.int .i64 r.o, .int .u64 r.n, .int .i64 e.m, .int .i64 e.s, .int .i64 e.x, .int .i64 0, .int .i64 e.d, .bool true, .bool e.w, .bool false, .int .i64 0, .int .i64 0], .int .i64 0]) (by simp [results, Try.results20, go_sem]) rfl ⟨rfl, (by first | exact (((Below.refl _ _).alloc (Nat.le_refl _) _).alloc (by simp) _).alloc (by simp; omega) _ | exact ((((Below.refl _ _).alloc (Nat.le_refl _) _).alloc (by simp) _).alloc (by simp; omega) _).alloc (by simp; omega) _ | exact (((((Below.refl _ _).alloc (Nat.le_refl _) _).alloc (by simp) _).alloc (by simp; omega) _).alloc (by simp; omega) _).alloc (by simp; omega) _ | exact ((((((Below.refl _ _).alloc (Nat.le_refl _) _).alloc (by simp) _).alloc (by simp; omega) _).alloc (by simp; omega) _).alloc (by simp; omega) _).alloc (by simp; omega) _ | exact below_drew ((((Below.refl _ _).alloc (Nat.le_refl _) _).alloc (by simp) _).alloc (by simp; omega) _) | exact below_drew (((((Below.refl _ _).alloc (Nat.le_refl _) _).alloc (by simp) _).alloc (by simp; omega) _).alloc (by simp; omega) _))⟩
  · rw [Bool.not_eq_true] at t5
    have t5' : (e.a != r.o) = true := by simpa using t5
    rw [show newUse e r = 0 from if_neg (by rw [t5]; simp)]
    have hq1 := eql31
    have hq2 := eql32
    have hq3 := neq31
    have hq4 := neq32
    go_enter Try.func20, Try.ntmps20; go_wp2_with (go_at_call 27; refine (valid27 _ _ _).mono ?_; rintro v w1 ⟨rfl, rfl⟩)
    exact bodyPost_ret (v := .tuple #[.agg #[.int .i64 r.o, .int .u64 r.n, .int .i64 e.m, .int .i64 e.s, .int .i64 e.x, .int .i64 0, .int .i64 e.d, .bool true, .bool e.w, .bool false, .int .i64 0, .int .i64 0], .int .i64 0]) (by simp [results, Try.results20, go_sem]) rfl ⟨rfl, (by first | exact (((Below.refl _ _).alloc (Nat.le_refl _) _).alloc (by simp) _).alloc (by simp; omega) _ | exact ((((Below.refl _ _).alloc (Nat.le_refl _) _).alloc (by simp) _).alloc (by simp; omega) _).alloc (by simp; omega) _ | exact (((((Below.refl _ _).alloc (Nat.le_refl _) _).alloc (by simp) _).alloc (by simp; omega) _).alloc (by simp; omega) _).alloc (by simp; omega) _ | exact ((((((Below.refl _ _).alloc (Nat.le_refl _) _).alloc (by simp) _).alloc (by simp; omega) _).alloc (by simp; omega) _).alloc (by simp; omega) _).alloc (by simp; omega) _ | exact below_drew ((((Below.refl _ _).alloc (Nat.le_refl _) _).alloc (by simp) _).alloc (by simp; omega) _) | exact below_drew (((((Below.refl _ _).alloc (Nat.le_refl _) _).alloc (by simp) _).alloc (by simp; omega) _).alloc (by simp; omega) _))⟩

end Go.Proofs.Ytnlgkjnlfeeaoaa
