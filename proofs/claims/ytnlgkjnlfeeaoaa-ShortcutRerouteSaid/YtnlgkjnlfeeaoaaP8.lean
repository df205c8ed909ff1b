/-
ShortcutReroute returns true for every input, and the input reads as it did.
-/
import Derived.Test.YtnlgkjnlfeeaoaaL2
import Derived.Test.YtnlgkjnlfeeaoaaOpenX
import Derived.WalkKit
import Derived.ProofKit
import Derived.OpenShut
import Derived.ShutString
import Derived.ChangeOld
import Derived.Below
import Derived.Lib.Hide
import Derived.Deep.RegionHeld3
import Derived.Deep.DeepCutAuto
import Derived.Deep.RegionWith
namespace Go.Proofs.Ytnlgkjnlfeeaoaa
open Go.ChangeShapes Go.WideShapes Go.ChangeAt Go.RowKit
set_option linter.unusedVariables false

set_option maxRecDepth 100000 in
set_option maxHeartbeats 1000000 in
theorem walk8_1 (e : Ent) (r : Rf) (w : World) (t1 : directRef r = false) :
    Calls Try.prog 8 #[.agg #[.int .i64 e.a, .int .u64 e.n, .int .i64 e.m, .int .i64 e.s, .int .i64 e.x, .int .i64 e.y, .int .i64 e.d, .bool e.t, .bool e.w, .bool e.g, .int .i64 e.p, .int .i64 e.q], .agg #[.int .i64 r.k, .int .i64 r.i, .int .i64 r.o, .int .u64 r.n, .int .i64 r.m, .int .i64 r.s, .int .i64 r.c, .bool r.w]] w fun v w' => v = .returned (.bool true) ∧ Below w.heap.size w w' := by
    have T1 := Lib.hid t1
    clear t1
    have hq1 := eql31
    have hq2 := eql32
    have hq3 := neq31
    have hq4 := neq32
    go_enter Try.func8, Try.ntmps8
    go_wp2_with fail
    refine (awake10 _).mono ?_
    rintro v w1 ⟨rfl, hb⟩
    have hbx := (Blk.new (w.alloc (.cells #[.int .i64 e.a, .int .u64 e.n, .int .i64 e.m, .int .i64 e.s, .int .i64 e.x, .int .i64 e.y, .int .i64 e.d, .bool e.t, .bool e.w, .bool e.g, .int .i64 e.p, .int .i64 e.q] 36)) 39 #[.int .i64 r.k, .int .i64 r.i, .int .i64 r.o, .int .u64 r.n, .int .i64 r.m, .int .i64 r.s, .int .i64 r.c, .bool r.w]).below hb (by simp)
    rw [World.size_alloc] at hbx
    have hbe := ((Blk.new w 36 #[.int .i64 e.a, .int .u64 e.n, .int .i64 e.m, .int .i64 e.s, .int .i64 e.x, .int .i64 e.y, .int .i64 e.d, .bool e.t, .bool e.w, .bool e.g, .int .i64 e.p, .int .i64 e.q]).alloc (.cells #[.int .i64 r.k, .int .i64 r.i, .int .i64 r.o, .int .u64 r.n, .int .i64 r.m, .int .i64 r.s, .int .i64 r.c, .bool r.w] 39)).below hb (by simp; omega)
    have hb1 : Below w.heap.size w w1 := (((Below.refl _ _).alloc (Nat.le_refl _) _).alloc (by simp) _).trans (hb.mono (by simp; omega))
    clear hb
    have a0 : w1.cell? ⟨w.heap.size, 0, none⟩ = some (.int .i64 e.a) := hbe.cell 0
    have a1 : w1.cell? ⟨w.heap.size, 1, none⟩ = some (.int .u64 e.n) := hbe.cell 1
    have a2 : w1.cell? ⟨w.heap.size, 2, none⟩ = some (.int .i64 e.m) := hbe.cell 2
    have a3 : w1.cell? ⟨w.heap.size, 3, none⟩ = some (.int .i64 e.s) := hbe.cell 3
    have a4 : w1.cell? ⟨w.heap.size, 4, none⟩ = some (.int .i64 e.x) := hbe.cell 4
    have a5 : w1.cell? ⟨w.heap.size, 5, none⟩ = some (.int .i64 e.y) := hbe.cell 5
    have a6 : w1.cell? ⟨w.heap.size, 6, none⟩ = some (.int .i64 e.d) := hbe.cell 6
    have a7 : w1.cell? ⟨w.heap.size, 7, none⟩ = some (.bool e.t) := hbe.cell 7
    have a8 : w1.cell? ⟨w.heap.size, 8, none⟩ = some (.bool e.w) := hbe.cell 8
    have a9 : w1.cell? ⟨w.heap.size, 9, none⟩ = some (.bool e.g) := hbe.cell 9
    have a10 : w1.cell? ⟨w.heap.size, 10, none⟩ = some (.int .i64 e.p) := hbe.cell 10
    have a11 : w1.cell? ⟨w.heap.size, 11, none⟩ = some (.int .i64 e.q) := hbe.cell 11
    have b0 : w1.cell? ⟨(w.heap.size + 1), 0, none⟩ = some (.int .i64 r.k) := hbx.cell 0
    have b1 : w1.cell? ⟨(w.heap.size + 1), 1, none⟩ = some (.int .i64 r.i) := hbx.cell 1
    have b2 : w1.cell? ⟨(w.heap.size + 1), 2, none⟩ = some (.int .i64 r.o) := hbx.cell 2
    have b3 : w1.cell? ⟨(w.heap.size + 1), 3, none⟩ = some (.int .u64 r.n) := hbx.cell 3
    have b4 : w1.cell? ⟨(w.heap.size + 1), 4, none⟩ = some (.int .i64 r.m) := hbx.cell 4
    have b5 : w1.cell? ⟨(w.heap.size + 1), 5, none⟩ = some (.int .i64 r.s) := hbx.cell 5
    have b6 : w1.cell? ⟨(w.heap.size + 1), 6, none⟩ = some (.int .i64 r.c) := hbx.cell 6
    have b7 : w1.cell? ⟨(w.heap.size + 1), 7, none⟩ = some (.bool r.w) := hbx.cell 7
    go_wp2_with fail
    refine (reroute19b_1 e r _ T1.out).mono ?_
    rintro v w2 ⟨rfl, hb2⟩
    have hbx2 := hbx.below hb2 hbx.lt
    have hbe2 := hbe.below hb2 hbe.lt
    have hb12 := hb1.trans (hb2.mono hb1.size)
    clear hbx hbe hb1 hb2 a0 a1 a2 a3 a4 a5 a6 a7 a8 a9 a10 a11 b0 b1 b2 b3 b4 b5 b6 b7
    have a0 : w2.cell? ⟨w.heap.size, 0, none⟩ = some (.int .i64 e.a) := hbe2.cell 0
    have a1 : w2.cell? ⟨w.heap.size, 1, none⟩ = some (.int .u64 e.n) := hbe2.cell 1
    have a2 : w2.cell? ⟨w.heap.size, 2, none⟩ = some (.int .i64 e.m) := hbe2.cell 2
    have a3 : w2.cell? ⟨w.heap.size, 3, none⟩ = some (.int .i64 e.s) := hbe2.cell 3
    have a4 : w2.cell? ⟨w.heap.size, 4, none⟩ = some (.int .i64 e.x) := hbe2.cell 4
    have a5 : w2.cell? ⟨w.heap.size, 5, none⟩ = some (.int .i64 e.y) := hbe2.cell 5
    have a6 : w2.cell? ⟨w.heap.size, 6, none⟩ = some (.int .i64 e.d) := hbe2.cell 6
    have a7 : w2.cell? ⟨w.heap.size, 7, none⟩ = some (.bool e.t) := hbe2.cell 7
    have a8 : w2.cell? ⟨w.heap.size, 8, none⟩ = some (.bool e.w) := hbe2.cell 8
    have a9 : w2.cell? ⟨w.heap.size, 9, none⟩ = some (.bool e.g) := hbe2.cell 9
    have a10 : w2.cell? ⟨w.heap.size, 10, none⟩ = some (.int .i64 e.p) := hbe2.cell 10
    have a11 : w2.cell? ⟨w.heap.size, 11, none⟩ = some (.int .i64 e.q) := hbe2.cell 11
    have b0 : w2.cell? ⟨(w.heap.size + 1), 0, none⟩ = some (.int .i64 r.k) := hbx2.cell 0
    have b1 : w2.cell? ⟨(w.heap.size + 1), 1, none⟩ = some (.int .i64 r.i) := hbx2.cell 1
    have b2 : w2.cell? ⟨(w.heap.size + 1), 2, none⟩ = some (.int .i64 r.o) := hbx2.cell 2
    have b3 : w2.cell? ⟨(w.heap.size + 1), 3, none⟩ = some (.int .u64 r.n) := hbx2.cell 3
    have b4 : w2.cell? ⟨(w.heap.size + 1), 4, none⟩ = some (.int .i64 r.m) := hbx2.cell 4
    have b5 : w2.cell? ⟨(w.heap.size + 1), 5, none⟩ = some (.int .i64 r.s) := hbx2.cell 5
    have b6 : w2.cell? ⟨(w.heap.size + 1), 6, none⟩ = some (.int .i64 r.c) := hbx2.cell 6
    have b7 : w2.cell? ⟨(w.heap.size + 1), 7, none⟩ = some (.bool r.w) := hbx2.cell 7
    have hl1 := hbe2.lt
    have hl2 := hbx2.lt
    go_wp2_with fail
    refine (reroute20_1 e r _ T1.out).mono ?_
    rintro v w3 ⟨rfl, hb3⟩
    have hx3 := (Blk.new w2 36 #[.int .i64 0, .int .u64 0, .int .i64 0, .int .i64 0, .int .i64 0, .int .i64 0, .int .i64 0, .bool false, .bool false, .bool false, .int .i64 0, .int .i64 0]).below hb3 (by simp)
    have hb13 : Below w.heap.size w w3 := (hb12.alloc hb12.size _).trans (hb3.mono (by have := hb12.size; simp; omega))
    have hl3 := hx3.lt
    clear hb3 hb12 a0 a1 a2 a3 a4 a5 a6 a7 a8 a9 a10 a11 b0 b1 b2 b3 b4 b5 b6 b7 hbe2 hbx2
    have v0 : w3.cell? ⟨w2.heap.size, 0, none⟩ = some (.int .i64 0) := hx3.cell 0
    have v1 : w3.cell? ⟨w2.heap.size, 1, none⟩ = some (.int .u64 0) := hx3.cell 1
    have v2 : w3.cell? ⟨w2.heap.size, 2, none⟩ = some (.int .i64 0) := hx3.cell 2
    have v3 : w3.cell? ⟨w2.heap.size, 3, none⟩ = some (.int .i64 0) := hx3.cell 3
    have v4 : w3.cell? ⟨w2.heap.size, 4, none⟩ = some (.int .i64 0) := hx3.cell 4
    have v5 : w3.cell? ⟨w2.heap.size, 5, none⟩ = some (.int .i64 0) := hx3.cell 5
    have v6 : w3.cell? ⟨w2.heap.size, 6, none⟩ = some (.int .i64 0) := hx3.cell 6
    have v7 : w3.cell? ⟨w2.heap.size, 7, none⟩ = some (.bool false) := hx3.cell 7
    have v8 : w3.cell? ⟨w2.heap.size, 8, none⟩ = some (.bool false) := hx3.cell 8
    have v9 : w3.cell? ⟨w2.heap.size, 9, none⟩ = some (.bool false) := hx3.cell 9
    have v10 : w3.cell? ⟨w2.heap.size, 10, none⟩ = some (.int .i64 0) := hx3.cell 10
    have v11 : w3.cell? ⟨w2.heap.size, 11, none⟩ = some (.int .i64 0) := hx3.cell 11
    go_wp2_with fail
    go_ret
    exact ⟨ret_bool (by simp), hb13.alloc hb13.size _⟩

set_option maxRecDepth 100000 in
set_option maxHeartbeats 1000000 in
theorem walk8_7 (e : Ent) (r : Rf) (w : World) (t1 : directRef r = true) (t2 : (idEq e.m e.s r.m r.s && e.x == r.c) = false) :
    Calls Try.prog 8 #[.agg #[.int .i64 e.a, .int .u64 e.n, .int .i64 e.m, .int .i64 e.s, .int .i64 e.x, .int .i64 e.y, .int .i64 e.d, .bool e.t, .bool e.w, .bool e.g, .int .i64 e.p, .int .i64 e.q], .agg #[.int .i64 r.k, .int .i64 r.i, .int .i64 r.o, .int .u64 r.n, .int .i64 r.m, .int .i64 r.s, .int .i64 r.c, .bool r.w]] w fun v w' => v = .returned (.bool true) ∧ Below w.heap.size w w' := by
    have T1 := Lib.hid t1
    clear t1
    have T2 := Lib.hid t2
    clear t2
    have hq1 := eql31
    have hq2 := eql32
    have hq3 := neq31
    have hq4 := neq32
    go_enter Try.func8, Try.ntmps8
    go_wp2_with fail
    refine (awake10 _).mono ?_
    rintro v w1 ⟨rfl, hb⟩
    have hbx := (Blk.new (w.alloc (.cells #[.int .i64 e.a, .int .u64 e.n, .int .i64 e.m, .int .i64 e.s, .int .i64 e.x, .int .i64 e.y, .int .i64 e.d, .bool e.t, .bool e.w, .bool e.g, .int .i64 e.p, .int .i64 e.q] 36)) 39 #[.int .i64 r.k, .int .i64 r.i, .int .i64 r.o, .int .u64 r.n, .int .i64 r.m, .int .i64 r.s, .int .i64 r.c, .bool r.w]).below hb (by simp)
    rw [World.size_alloc] at hbx
    have hbe := ((Blk.new w 36 #[.int .i64 e.a, .int .u64 e.n, .int .i64 e.m, .int .i64 e.s, .int .i64 e.x, .int .i64 e.y, .int .i64 e.d, .bool e.t, .bool e.w, .bool e.g, .int .i64 e.p, .int .i64 e.q]).alloc (.cells #[.int .i64 r.k, .int .i64 r.i, .int .i64 r.o, .int .u64 r.n, .int .i64 r.m, .int .i64 r.s, .int .i64 r.c, .bool r.w] 39)).below hb (by simp; omega)
    have hb1 : Below w.heap.size w w1 := (((Below.refl _ _).alloc (Nat.le_refl _) _).alloc (by simp) _).trans (hb.mono (by simp; omega))
    clear hb
    have a0 : w1.cell? ⟨w.heap.size, 0, none⟩ = some (.int .i64 e.a) := hbe.cell 0
    have a1 : w1.cell? ⟨w.heap.size, 1, none⟩ = some (.int .u64 e.n) := hbe.cell 1
    have a2 : w1.cell? ⟨w.heap.size, 2, none⟩ = some (.int .i64 e.m) := hbe.cell 2
    have a3 : w1.cell? ⟨w.heap.size, 3, none⟩ = some (.int .i64 e.s) := hbe.cell 3
    have a4 : w1.cell? ⟨w.heap.size, 4, none⟩ = some (.int .i64 e.x) := hbe.cell 4
    have a5 : w1.cell? ⟨w.heap.size, 5, none⟩ = some (.int .i64 e.y) := hbe.cell 5
    have a6 : w1.cell? ⟨w.heap.size, 6, none⟩ = some (.int .i64 e.d) := hbe.cell 6
    have a7 : w1.cell? ⟨w.heap.size, 7, none⟩ = some (.bool e.t) := hbe.cell 7
    have a8 : w1.cell? ⟨w.heap.size, 8, none⟩ = some (.bool e.w) := hbe.cell 8
    have a9 : w1.cell? ⟨w.heap.size, 9, none⟩ = some (.bool e.g) := hbe.cell 9
    have a10 : w1.cell? ⟨w.heap.size, 10, none⟩ = some (.int .i64 e.p) := hbe.cell 10
    have a11 : w1.cell? ⟨w.heap.size, 11, none⟩ = some (.int .i64 e.q) := hbe.cell 11
    have b0 : w1.cell? ⟨(w.heap.size + 1), 0, none⟩ = some (.int .i64 r.k) := hbx.cell 0
    have b1 : w1.cell? ⟨(w.heap.size + 1), 1, none⟩ = some (.int .i64 r.i) := hbx.cell 1
    have b2 : w1.cell? ⟨(w.heap.size + 1), 2, none⟩ = some (.int .i64 r.o) := hbx.cell 2
    have b3 : w1.cell? ⟨(w.heap.size + 1), 3, none⟩ = some (.int .u64 r.n) := hbx.cell 3
    have b4 : w1.cell? ⟨(w.heap.size + 1), 4, none⟩ = some (.int .i64 r.m) := hbx.cell 4
    have b5 : w1.cell? ⟨(w.heap.size + 1), 5, none⟩ = some (.int .i64 r.s) := hbx.cell 5
    have b6 : w1.cell? ⟨(w.heap.size + 1), 6, none⟩ = some (.int .i64 r.c) := hbx.cell 6
    have b7 : w1.cell? ⟨(w.heap.size + 1), 7, none⟩ = some (.bool r.w) := hbx.cell 7
    go_wp2_with fail
    refine (reroute19b_7 e r _ T1.out T2.out).mono ?_
    rintro v w2 ⟨rfl, hb2⟩
    have hbx2 := hbx.below hb2 hbx.lt
    have hbe2 := hbe.below hb2 hbe.lt
    have hb12 := hb1.trans (hb2.mono hb1.size)
    clear hbx hbe hb1 hb2 a0 a1 a2 a3 a4 a5 a6 a7 a8 a9 a10 a11 b0 b1 b2 b3 b4 b5 b6 b7
    have a0 : w2.cell? ⟨w.heap.size, 0, none⟩ = some (.int .i64 e.a) := hbe2.cell 0
    have a1 : w2.cell? ⟨w.heap.size, 1, none⟩ = some (.int .u64 e.n) := hbe2.cell 1
    have a2 : w2.cell? ⟨w.heap.size, 2, none⟩ = some (.int .i64 e.m) := hbe2.cell 2
    have a3 : w2.cell? ⟨w.heap.size, 3, none⟩ = some (.int .i64 e.s) := hbe2.cell 3
    have a4 : w2.cell? ⟨w.heap.size, 4, none⟩ = some (.int .i64 e.x) := hbe2.cell 4
    have a5 : w2.cell? ⟨w.heap.size, 5, none⟩ = some (.int .i64 e.y) := hbe2.cell 5
    have a6 : w2.cell? ⟨w.heap.size, 6, none⟩ = some (.int .i64 e.d) := hbe2.cell 6
    have a7 : w2.cell? ⟨w.heap.size, 7, none⟩ = some (.bool e.t) := hbe2.cell 7
    have a8 : w2.cell? ⟨w.heap.size, 8, none⟩ = some (.bool e.w) := hbe2.cell 8
    have a9 : w2.cell? ⟨w.heap.size, 9, none⟩ = some (.bool e.g) := hbe2.cell 9
    have a10 : w2.cell? ⟨w.heap.size, 10, none⟩ = some (.int .i64 e.p) := hbe2.cell 10
    have a11 : w2.cell? ⟨w.heap.size, 11, none⟩ = some (.int .i64 e.q) := hbe2.cell 11
    have b0 : w2.cell? ⟨(w.heap.size + 1), 0, none⟩ = some (.int .i64 r.k) := hbx2.cell 0
    have b1 : w2.cell? ⟨(w.heap.size + 1), 1, none⟩ = some (.int .i64 r.i) := hbx2.cell 1
    have b2 : w2.cell? ⟨(w.heap.size + 1), 2, none⟩ = some (.int .i64 r.o) := hbx2.cell 2
    have b3 : w2.cell? ⟨(w.heap.size + 1), 3, none⟩ = some (.int .u64 r.n) := hbx2.cell 3
    have b4 : w2.cell? ⟨(w.heap.size + 1), 4, none⟩ = some (.int .i64 r.m) := hbx2.cell 4
    have b5 : w2.cell? ⟨(w.heap.size + 1), 5, none⟩ = some (.int .i64 r.s) := hbx2.cell 5
    have b6 : w2.cell? ⟨(w.heap.size + 1), 6, none⟩ = some (.int .i64 r.c) := hbx2.cell 6
    have b7 : w2.cell? ⟨(w.heap.size + 1), 7, none⟩ = some (.bool r.w) := hbx2.cell 7
    have hl1 := hbe2.lt
    have hl2 := hbx2.lt
    go_wp2_with fail
    refine (reroute20_7 e r _ T1.out T2.out).mono ?_
    rintro v w3 ⟨rfl, hb3⟩
    have hx3 := (Blk.new w2 36 #[.int .i64 0, .int .u64 0, .int .i64 0, .int .i64 0, .int .i64 0, .int .i64 0, .int .i64 0, .bool false, .bool false, .bool false, .int .i64 0, .int .i64 0]).below hb3 (by simp)
    have hb13 : Below w.heap.size w w3 := (hb12.alloc hb12.size _).trans (hb3.mono (by have := hb12.size; simp; omega))
    have hl3 := hx3.lt
    clear hb3 hb12 a0 a1 a2 a3 a4 a5 a6 a7 a8 a9 a10 a11 b0 b1 b2 b3 b4 b5 b6 b7 hbe2 hbx2
    have v0 : w3.cell? ⟨w2.heap.size, 0, none⟩ = some (.int .i64 0) := hx3.cell 0
    have v1 : w3.cell? ⟨w2.heap.size, 1, none⟩ = some (.int .u64 0) := hx3.cell 1
    have v2 : w3.cell? ⟨w2.heap.size, 2, none⟩ = some (.int .i64 0) := hx3.cell 2
    have v3 : w3.cell? ⟨w2.heap.size, 3, none⟩ = some (.int .i64 0) := hx3.cell 3
    have v4 : w3.cell? ⟨w2.heap.size, 4, none⟩ = some (.int .i64 0) := hx3.cell 4
    have v5 : w3.cell? ⟨w2.heap.size, 5, none⟩ = some (.int .i64 0) := hx3.cell 5
    have v6 : w3.cell? ⟨w2.heap.size, 6, none⟩ = some (.int .i64 0) := hx3.cell 6
    have v7 : w3.cell? ⟨w2.heap.size, 7, none⟩ = some (.bool false) := hx3.cell 7
    have v8 : w3.cell? ⟨w2.heap.size, 8, none⟩ = some (.bool false) := hx3.cell 8
    have v9 : w3.cell? ⟨w2.heap.size, 9, none⟩ = some (.bool false) := hx3.cell 9
    have v10 : w3.cell? ⟨w2.heap.size, 10, none⟩ = some (.int .i64 0) := hx3.cell 10
    have v11 : w3.cell? ⟨w2.heap.size, 11, none⟩ = some (.int .i64 0) := hx3.cell 11
    go_wp2_with fail
    go_ret
    exact ⟨ret_bool (by simp), hb13.alloc hb13.size _⟩

set_option maxRecDepth 100000 in
set_option maxHeartbeats 1000000 in
theorem walk8_9 (e : Ent) (r : Rf) (w : World) (t1 : directRef r = true) (t2 : idEq e.m e.s r.m r.s = true) (t3 : (e.x == r.c) = true) (t4 : e.g = true) :
    Calls Try.prog 8 #[.agg #[.int .i64 e.a, .int .u64 e.n, .int .i64 e.m, .int .i64 e.s, .int .i64 e.x, .int .i64 e.y, .int .i64 e.d, .bool e.t, .bool e.w, .bool e.g, .int .i64 e.p, .int .i64 e.q], .agg #[.int .i64 r.k, .int .i64 r.i, .int .i64 r.o, .int .u64 r.n, .int .i64 r.m, .int .i64 r.s, .int .i64 r.c, .bool r.w]] w fun v w' => v = .returned (.bool true) ∧ Below w.heap.size w w' := by
    have T1 := Lib.hid t1
    clear t1
    have T2 := Lib.hid t2
    clear t2
    have T3 := Lib.hid t3
    clear t3
    have T4 := Lib.hid t4
    clear t4
    have hq1 := eql31
    have hq2 := eql32
    have hq3 := neq31
    have hq4 := neq32
    go_enter Try.func8, Try.ntmps8
    go_wp2_with fail
    refine (awake10 _).mono ?_
    rintro v w1 ⟨rfl, hb⟩
    have hbx := (Blk.new (w.alloc (.cells #[.int .i64 e.a, .int .u64 e.n, .int .i64 e.m, .int .i64 e.s, .int .i64 e.x, .int .i64 e.y, .int .i64 e.d, .bool e.t, .bool e.w, .bool e.g, .int .i64 e.p, .int .i64 e.q] 36)) 39 #[.int .i64 r.k, .int .i64 r.i, .int .i64 r.o, .int .u64 r.n, .int .i64 r.m, .int .i64 r.s, .int .i64 r.c, .bool r.w]).below hb (by simp)
    rw [World.size_alloc] at hbx
    have hbe := ((Blk.new w 36 #[.int .i64 e.a, .int .u64 e.n, .int .i64 e.m, .int .i64 e.s, .int .i64 e.x, .int .i64 e.y, .int .i64 e.d, .bool e.t, .bool e.w, .bool e.g, .int .i64 e.p, .int .i64 e.q]).alloc (.cells #[.int .i64 r.k, .int .i64 r.i, .int .i64 r.o, .int .u64 r.n, .int .i64 r.m, .int .i64 r.s, .int .i64 r.c, .bool r.w] 39)).below hb (by simp; omega)
    have hb1 : Below w.heap.size w w1 := (((Below.refl _ _).alloc (Nat.le_refl _) _).alloc (by simp) _).trans (hb.mono (by simp; omega))
    clear hb
    have a0 : w1.cell? ⟨w.heap.size, 0, none⟩ = some (.int .i64 e.a) := hbe.cell 0
    have a1 : w1.cell? ⟨w.heap.size, 1, none⟩ = some (.int .u64 e.n) := hbe.cell 1
    have a2 : w1.cell? ⟨w.heap.size, 2, none⟩ = some (.int .i64 e.m) := hbe.cell 2
    have a3 : w1.cell? ⟨w.heap.size, 3, none⟩ = some (.int .i64 e.s) := hbe.cell 3
    have a4 : w1.cell? ⟨w.heap.size, 4, none⟩ = some (.int .i64 e.x) := hbe.cell 4
    have a5 : w1.cell? ⟨w.heap.size, 5, none⟩ = some (.int .i64 e.y) := hbe.cell 5
    have a6 : w1.cell? ⟨w.heap.size, 6, none⟩ = some (.int .i64 e.d) := hbe.cell 6
    have a7 : w1.cell? ⟨w.heap.size, 7, none⟩ = some (.bool e.t) := hbe.cell 7
    have a8 : w1.cell? ⟨w.heap.size, 8, none⟩ = some (.bool e.w) := hbe.cell 8
    have a9 : w1.cell? ⟨w.heap.size, 9, none⟩ = some (.bool e.g) := hbe.cell 9
    have a10 : w1.cell? ⟨w.heap.size, 10, none⟩ = some (.int .i64 e.p) := hbe.cell 10
    have a11 : w1.cell? ⟨w.heap.size, 11, none⟩ = some (.int .i64 e.q) := hbe.cell 11
    have b0 : w1.cell? ⟨(w.heap.size + 1), 0, none⟩ = some (.int .i64 r.k) := hbx.cell 0
    have b1 : w1.cell? ⟨(w.heap.size + 1), 1, none⟩ = some (.int .i64 r.i) := hbx.cell 1
    have b2 : w1.cell? ⟨(w.heap.size + 1), 2, none⟩ = some (.int .i64 r.o) := hbx.cell 2
    have b3 : w1.cell? ⟨(w.heap.size + 1), 3, none⟩ = some (.int .u64 r.n) := hbx.cell 3
    have b4 : w1.cell? ⟨(w.heap.size + 1), 4, none⟩ = some (.int .i64 r.m) := hbx.cell 4
    have b5 : w1.cell? ⟨(w.heap.size + 1), 5, none⟩ = some (.int .i64 r.s) := hbx.cell 5
    have b6 : w1.cell? ⟨(w.heap.size + 1), 6, none⟩ = some (.int .i64 r.c) := hbx.cell 6
    have b7 : w1.cell? ⟨(w.heap.size + 1), 7, none⟩ = some (.bool r.w) := hbx.cell 7
    go_wp2_with fail
    refine (reroute19b_9 e r _ T1.out T2.out T3.out T4.out).mono ?_
    rintro v w2 ⟨rfl, hb2⟩
    have hbx2 := hbx.below hb2 hbx.lt
    have hbe2 := hbe.below hb2 hbe.lt
    have hb12 := hb1.trans (hb2.mono hb1.size)
    clear hbx hbe hb1 hb2 a0 a1 a2 a3 a4 a5 a6 a7 a8 a9 a10 a11 b0 b1 b2 b3 b4 b5 b6 b7
    have a0 : w2.cell? ⟨w.heap.size, 0, none⟩ = some (.int .i64 e.a) := hbe2.cell 0
    have a1 : w2.cell? ⟨w.heap.size, 1, none⟩ = some (.int .u64 e.n) := hbe2.cell 1
    have a2 : w2.cell? ⟨w.heap.size, 2, none⟩ = some (.int .i64 e.m) := hbe2.cell 2
    have a3 : w2.cell? ⟨w.heap.size, 3, none⟩ = some (.int .i64 e.s) := hbe2.cell 3
    have a4 : w2.cell? ⟨w.heap.size, 4, none⟩ = some (.int .i64 e.x) := hbe2.cell 4
    have a5 : w2.cell? ⟨w.heap.size, 5, none⟩ = some (.int .i64 e.y) := hbe2.cell 5
    have a6 : w2.cell? ⟨w.heap.size, 6, none⟩ = some (.int .i64 e.d) := hbe2.cell 6
    have a7 : w2.cell? ⟨w.heap.size, 7, none⟩ = some (.bool e.t) := hbe2.cell 7
    have a8 : w2.cell? ⟨w.heap.size, 8, none⟩ = some (.bool e.w) := hbe2.cell 8
    have a9 : w2.cell? ⟨w.heap.size, 9, none⟩ = some (.bool e.g) := hbe2.cell 9
    have a10 : w2.cell? ⟨w.heap.size, 10, none⟩ = some (.int .i64 e.p) := hbe2.cell 10
    have a11 : w2.cell? ⟨w.heap.size, 11, none⟩ = some (.int .i64 e.q) := hbe2.cell 11
    have b0 : w2.cell? ⟨(w.heap.size + 1), 0, none⟩ = some (.int .i64 r.k) := hbx2.cell 0
    have b1 : w2.cell? ⟨(w.heap.size + 1), 1, none⟩ = some (.int .i64 r.i) := hbx2.cell 1
    have b2 : w2.cell? ⟨(w.heap.size + 1), 2, none⟩ = some (.int .i64 r.o) := hbx2.cell 2
    have b3 : w2.cell? ⟨(w.heap.size + 1), 3, none⟩ = some (.int .u64 r.n) := hbx2.cell 3
    have b4 : w2.cell? ⟨(w.heap.size + 1), 4, none⟩ = some (.int .i64 r.m) := hbx2.cell 4
    have b5 : w2.cell? ⟨(w.heap.size + 1), 5, none⟩ = some (.int .i64 r.s) := hbx2.cell 5
    have b6 : w2.cell? ⟨(w.heap.size + 1), 6, none⟩ = some (.int .i64 r.c) := hbx2.cell 6
    have b7 : w2.cell? ⟨(w.heap.size + 1), 7, none⟩ = some (.bool r.w) := hbx2.cell 7
    have hl1 := hbe2.lt
    have hl2 := hbx2.lt
    go_wp2_with fail
    refine (reroute20_9 e r _ T1.out T2.out T3.out T4.out).mono ?_
    rintro v w3 ⟨rfl, hb3⟩
    have hx3 := (Blk.new w2 36 #[.int .i64 0, .int .u64 0, .int .i64 0, .int .i64 0, .int .i64 0, .int .i64 0, .int .i64 0, .bool false, .bool false, .bool false, .int .i64 0, .int .i64 0]).below hb3 (by simp)
    have hb13 : Below w.heap.size w w3 := (hb12.alloc hb12.size _).trans (hb3.mono (by have := hb12.size; simp; omega))
    have hl3 := hx3.lt
    clear hb3 hb12 a0 a1 a2 a3 a4 a5 a6 a7 a8 a9 a10 a11 b0 b1 b2 b3 b4 b5 b6 b7 hbe2 hbx2
    have v0 : w3.cell? ⟨w2.heap.size, 0, none⟩ = some (.int .i64 0) := hx3.cell 0
    have v1 : w3.cell? ⟨w2.heap.size, 1, none⟩ = some (.int .u64 0) := hx3.cell 1
    have v2 : w3.cell? ⟨w2.heap.size, 2, none⟩ = some (.int .i64 0) := hx3.cell 2
    have v3 : w3.cell? ⟨w2.heap.size, 3, none⟩ = some (.int .i64 0) := hx3.cell 3
    have v4 : w3.cell? ⟨w2.heap.size, 4, none⟩ = some (.int .i64 0) := hx3.cell 4
    have v5 : w3.cell? ⟨w2.heap.size, 5, none⟩ = some (.int .i64 0) := hx3.cell 5
    have v6 : w3.cell? ⟨w2.heap.size, 6, none⟩ = some (.int .i64 0) := hx3.cell 6
    have v7 : w3.cell? ⟨w2.heap.size, 7, none⟩ = some (.bool false) := hx3.cell 7
    have v8 : w3.cell? ⟨w2.heap.size, 8, none⟩ = some (.bool false) := hx3.cell 8
    have v9 : w3.cell? ⟨w2.heap.size, 9, none⟩ = some (.bool false) := hx3.cell 9
    have v10 : w3.cell? ⟨w2.heap.size, 10, none⟩ = some (.int .i64 0) := hx3.cell 10
    have v11 : w3.cell? ⟨w2.heap.size, 11, none⟩ = some (.int .i64 0) := hx3.cell 11
    go_wp2_with fail
    go_ret
    exact ⟨ret_bool (by simp), hb13.alloc hb13.size _⟩

set_option maxRecDepth 100000 in
set_option maxHeartbeats 1000000 in
theorem walk8_0 (e : Ent) (r : Rf) (w : World) (t1 : directRef r = true) (t2 : idEq e.m e.s r.m r.s = true) (t3 : (e.x == r.c) = true) (t4 : e.g = false) :
    Calls Try.prog 8 #[.agg #[.int .i64 e.a, .int .u64 e.n, .int .i64 e.m, .int .i64 e.s, .int .i64 e.x, .int .i64 e.y, .int .i64 e.d, .bool e.t, .bool e.w, .bool e.g, .int .i64 e.p, .int .i64 e.q], .agg #[.int .i64 r.k, .int .i64 r.i, .int .i64 r.o, .int .u64 r.n, .int .i64 r.m, .int .i64 r.s, .int .i64 r.c, .bool r.w]] w fun v w' => v = .returned (.bool true) ∧ Below w.heap.size w w' := by
    have T1 := Lib.hid t1
    clear t1
    have T2 := Lib.hid t2
    clear t2
    have T3 := Lib.hid t3
    clear t3
    have T4 := Lib.hid t4
    clear t4
    have hq1 := eql31
    have hq2 := eql32
    have hq3 := neq31
    have hq4 := neq32
    go_enter Try.func8, Try.ntmps8
    go_wp2_with fail
    refine (awake10 _).mono ?_
    rintro v w1 ⟨rfl, hb⟩
    have hbx := (Blk.new (w.alloc (.cells #[.int .i64 e.a, .int .u64 e.n, .int .i64 e.m, .int .i64 e.s, .int .i64 e.x, .int .i64 e.y, .int .i64 e.d, .bool e.t, .bool e.w, .bool e.g, .int .i64 e.p, .int .i64 e.q] 36)) 39 #[.int .i64 r.k, .int .i64 r.i, .int .i64 r.o, .int .u64 r.n, .int .i64 r.m, .int .i64 r.s, .int .i64 r.c, .bool r.w]).below hb (by simp)
    rw [World.size_alloc] at hbx
    have hbe := ((Blk.new w 36 #[.int .i64 e.a, .int .u64 e.n, .int .i64 e.m, .int .i64 e.s, .int .i64 e.x, .int .i64 e.y, .int .i64 e.d, .bool e.t, .bool e.w, .bool e.g, .int .i64 e.p, .int .i64 e.q]).alloc (.cells #[.int .i64 r.k, .int .i64 r.i, .int .i64 r.o, .int .u64 r.n, .int .i64 r.m, .int .i64 r.s, .int .i64 r.c, .bool r.w] 39)).below hb (by simp; omega)
    have hb1 : Below w.heap.size w w1 := (((Below.refl _ _).alloc (Nat.le_refl _) _).alloc (by simp) _).trans (hb.mono (by simp; omega))
    clear hb
    have a0 : w1.cell? ⟨w.heap.size, 0, none⟩ = some (.int .i64 e.a) := hbe.cell 0
    have a1 : w1.cell? ⟨w.heap.size, 1, none⟩ = some (.int .u64 e.n) := hbe.cell 1
    have a2 : w1.cell? ⟨w.heap.size, 2, none⟩ = some (.int .i64 e.m) := hbe.cell 2
    have a3 : w1.cell? ⟨w.heap.size, 3, none⟩ = some (.int .i64 e.s) := hbe.cell 3
    have a4 : w1.cell? ⟨w.heap.size, 4, none⟩ = some (.int .i64 e.x) := hbe.cell 4
    have a5 : w1.cell? ⟨w.heap.size, 5, none⟩ = some (.int .i64 e.y) := hbe.cell 5
    have a6 : w1.cell? ⟨w.heap.size, 6, none⟩ = some (.int .i64 e.d) := hbe.cell 6
    have a7 : w1.cell? ⟨w.heap.size, 7, none⟩ = some (.bool e.t) := hbe.cell 7
    have a8 : w1.cell? ⟨w.heap.size, 8, none⟩ = some (.bool e.w) := hbe.cell 8
    have a9 : w1.cell? ⟨w.heap.size, 9, none⟩ = some (.bool e.g) := hbe.cell 9
    have a10 : w1.cell? ⟨w.heap.size, 10, none⟩ = some (.int .i64 e.p) := hbe.cell 10
    have a11 : w1.cell? ⟨w.heap.size, 11, none⟩ = some (.int .i64 e.q) := hbe.cell 11
    have b0 : w1.cell? ⟨(w.heap.size + 1), 0, none⟩ = some (.int .i64 r.k) := hbx.cell 0
    have b1 : w1.cell? ⟨(w.heap.size + 1), 1, none⟩ = some (.int .i64 r.i) := hbx.cell 1
    have b2 : w1.cell? ⟨(w.heap.size + 1), 2, none⟩ = some (.int .i64 r.o) := hbx.cell 2
    have b3 : w1.cell? ⟨(w.heap.size + 1), 3, none⟩ = some (.int .u64 r.n) := hbx.cell 3
    have b4 : w1.cell? ⟨(w.heap.size + 1), 4, none⟩ = some (.int .i64 r.m) := hbx.cell 4
    have b5 : w1.cell? ⟨(w.heap.size + 1), 5, none⟩ = some (.int .i64 r.s) := hbx.cell 5
    have b6 : w1.cell? ⟨(w.heap.size + 1), 6, none⟩ = some (.int .i64 r.c) := hbx.cell 6
    have b7 : w1.cell? ⟨(w.heap.size + 1), 7, none⟩ = some (.bool r.w) := hbx.cell 7
    go_wp2_with fail
    refine (reroute19b_0 e r _ T1.out T2.out T3.out T4.out).mono ?_
    rintro v w2 ⟨rfl, hb2⟩
    have hbx2 := hbx.below hb2 hbx.lt
    have hbe2 := hbe.below hb2 hbe.lt
    have hb12 := hb1.trans (hb2.mono hb1.size)
    clear hbx hbe hb1 hb2 a0 a1 a2 a3 a4 a5 a6 a7 a8 a9 a10 a11 b0 b1 b2 b3 b4 b5 b6 b7
    have a0 : w2.cell? ⟨w.heap.size, 0, none⟩ = some (.int .i64 e.a) := hbe2.cell 0
    have a1 : w2.cell? ⟨w.heap.size, 1, none⟩ = some (.int .u64 e.n) := hbe2.cell 1
    have a2 : w2.cell? ⟨w.heap.size, 2, none⟩ = some (.int .i64 e.m) := hbe2.cell 2
    have a3 : w2.cell? ⟨w.heap.size, 3, none⟩ = some (.int .i64 e.s) := hbe2.cell 3
    have a4 : w2.cell? ⟨w.heap.size, 4, none⟩ = some (.int .i64 e.x) := hbe2.cell 4
    have a5 : w2.cell? ⟨w.heap.size, 5, none⟩ = some (.int .i64 e.y) := hbe2.cell 5
    have a6 : w2.cell? ⟨w.heap.size, 6, none⟩ = some (.int .i64 e.d) := hbe2.cell 6
    have a7 : w2.cell? ⟨w.heap.size, 7, none⟩ = some (.bool e.t) := hbe2.cell 7
    have a8 : w2.cell? ⟨w.heap.size, 8, none⟩ = some (.bool e.w) := hbe2.cell 8
    have a9 : w2.cell? ⟨w.heap.size, 9, none⟩ = some (.bool e.g) := hbe2.cell 9
    have a10 : w2.cell? ⟨w.heap.size, 10, none⟩ = some (.int .i64 e.p) := hbe2.cell 10
    have a11 : w2.cell? ⟨w.heap.size, 11, none⟩ = some (.int .i64 e.q) := hbe2.cell 11
    have b0 : w2.cell? ⟨(w.heap.size + 1), 0, none⟩ = some (.int .i64 r.k) := hbx2.cell 0
    have b1 : w2.cell? ⟨(w.heap.size + 1), 1, none⟩ = some (.int .i64 r.i) := hbx2.cell 1
    have b2 : w2.cell? ⟨(w.heap.size + 1), 2, none⟩ = some (.int .i64 r.o) := hbx2.cell 2
    have b3 : w2.cell? ⟨(w.heap.size + 1), 3, none⟩ = some (.int .u64 r.n) := hbx2.cell 3
    have b4 : w2.cell? ⟨(w.heap.size + 1), 4, none⟩ = some (.int .i64 r.m) := hbx2.cell 4
    have b5 : w2.cell? ⟨(w.heap.size + 1), 5, none⟩ = some (.int .i64 r.s) := hbx2.cell 5
    have b6 : w2.cell? ⟨(w.heap.size + 1), 6, none⟩ = some (.int .i64 r.c) := hbx2.cell 6
    have b7 : w2.cell? ⟨(w.heap.size + 1), 7, none⟩ = some (.bool r.w) := hbx2.cell 7
    have hl1 := hbe2.lt
    have hl2 := hbx2.lt
    go_wp2_with fail
    refine (reroute20_0 e r _ T1.out T2.out T3.out T4.out).mono ?_
    rintro v w3 ⟨rfl, hb3⟩
    have hx3 := (Blk.new w2 36 #[.int .i64 r.o, .int .u64 r.n, .int .i64 e.m, .int .i64 e.s, .int .i64 e.x, .int .i64 (newUse e r), .int .i64 e.d, .bool true, .bool e.w, .bool false, .int .i64 0, .int .i64 0]).below hb3 (by simp)
    have hb13 : Below w.heap.size w w3 := (hb12.alloc hb12.size _).trans (hb3.mono (by have := hb12.size; simp; omega))
    have hl3 := hx3.lt
    clear hb3 hb12 a0 a1 a2 a3 a4 a5 a6 a7 a8 a9 a10 a11 b0 b1 b2 b3 b4 b5 b6 b7 hbe2 hbx2
    have v0 : w3.cell? ⟨w2.heap.size, 0, none⟩ = some (.int .i64 r.o) := hx3.cell 0
    have v1 : w3.cell? ⟨w2.heap.size, 1, none⟩ = some (.int .u64 r.n) := hx3.cell 1
    have v2 : w3.cell? ⟨w2.heap.size, 2, none⟩ = some (.int .i64 e.m) := hx3.cell 2
    have v3 : w3.cell? ⟨w2.heap.size, 3, none⟩ = some (.int .i64 e.s) := hx3.cell 3
    have v4 : w3.cell? ⟨w2.heap.size, 4, none⟩ = some (.int .i64 e.x) := hx3.cell 4
    have v5 : w3.cell? ⟨w2.heap.size, 5, none⟩ = some (.int .i64 (newUse e r)) := hx3.cell 5
    have v6 : w3.cell? ⟨w2.heap.size, 6, none⟩ = some (.int .i64 e.d) := hx3.cell 6
    have v7 : w3.cell? ⟨w2.heap.size, 7, none⟩ = some (.bool true) := hx3.cell 7
    have v8 : w3.cell? ⟨w2.heap.size, 8, none⟩ = some (.bool e.w) := hx3.cell 8
    have v9 : w3.cell? ⟨w2.heap.size, 9, none⟩ = some (.bool false) := hx3.cell 9
    have v10 : w3.cell? ⟨w2.heap.size, 10, none⟩ = some (.int .i64 0) := hx3.cell 10
    have v11 : w3.cell? ⟨w2.heap.size, 11, none⟩ = some (.int .i64 0) := hx3.cell 11
    go_wp2_with fail
    go_ret
    exact ⟨ret_bool (by simp), hb13.alloc hb13.size _⟩

theorem walk8 (e : Ent) (r : Rf) (w : World) :
    Calls Try.prog 8 #[.agg #[.int .i64 e.a, .int .u64 e.n, .int .i64 e.m, .int .i64 e.s, .int .i64 e.x, .int .i64 e.y, .int .i64 e.d, .bool e.t, .bool e.w, .bool e.g, .int .i64 e.p, .int .i64 e.q], .agg #[.int .i64 r.k, .int .i64 r.i, .int .i64 r.o, .int .u64 r.n, .int .i64 r.m, .int .i64 r.s, .int .i64 r.c, .bool r.w]] w fun v w' => v = .returned (.bool true) ∧ Below w.heap.size w w' := by
  by_cases t1 : directRef r = true
  · by_cases t2 : (idEq e.m e.s r.m r.s && e.x == r.c) = true
    · rw [Bool.and_eq_true] at t2
      by_cases t4 : e.g = true
      · exact walk8_9 e r w t1 t2.1 t2.2 t4
      · exact walk8_0 e r w t1 t2.1 t2.2 (by rw [← Bool.not_eq_true]; exact t4)
    · exact walk8_7 e r w t1 (by rw [← Bool.not_eq_true]; exact t2)
  · exact walk8_1 e r w (by rw [← Bool.not_eq_true]; exact t1)
set_option maxRecDepth 100000 in
theorem lifted8 (os : Os) (started : os.Started) (H : Type) (enc : TypeId × Value → H) :
    ReturnsInHanded {} Try.checked os 8 .any (Rows.shortcutRerouteSpec.pre6 enc Try.prog Try.f8 Rows.shortcutRerouteRow.domain false) (Rows.shortcutRerouteSpec.post enc Try.prog Try.f8 false true false false) := by
  refine returnsInHanded_of_change (C := Try.checked) own_ started (by kernel_rfl) Try.func8
    (ChangeSpec.witness6 (enc := enc) (C := Try.checked) false ⟨#[], #[.agg #[.int .i64 0, .int .u64 0, .int .i64 0, .int .i64 0, .int .i64 0, .int .i64 0, .int .i64 0, .bool false, .bool false, .bool false, .int .i64 0, .int .i64 0], .agg #[.int .i64 0, .int .i64 0, .int .i64 0, .int .u64 0, .int .i64 0, .int .i64 0, .int .i64 0, .bool false]], []⟩ 8 (by kernel_rfl) (by kernel_rfl) (by kernel_rfl) (by kernel_rfl)) ?_
  intro W base args ds gs before hval0 hW hcnd _
  have hval : ∀ (j : Nat) t v, Try.f8.params[j]? = some t → args[j]? = some v → Value.okWide Try.prog W .any base t v := hval0
  have hW' := hW
  obtain ⟨p, q, hA0, hV, rfl, hfz, hnd⟩ := hW
  have hA : DataW.TrodAll enc Try.prog W 0 (fun _ => true) true Try.f8.params.toList args.toList ds p := hA0
  rw [Try.params8] at hA hval
  obtain ⟨v0, vs0, d0, ds0, p0, q0, hargs, rfl, rfl, h0, r0⟩ := trodAll_cons hA
  obtain ⟨v1, vs1, d1, ds1, p1, q1, rfl, rfl, rfl, h1, r1⟩ := trodAll_cons r0
  obtain ⟨rfl, rfl, rfl⟩ := trodAll_nil r1
  obtain rfl : args = #[v0, v1] := by cases args; simp_all
  obtain ⟨rfl, rfl⟩ := trodVars_none hV
  have k0 := h0
  have lt0 : ∀ x ∈ p0, x.block < W.heap.size := by obtain ⟨m, hm⟩ := k0; exact DataW.trod_lt m _ _ _ hm
  obtain ⟨z0, rfl⟩ : ∃ x : Ent, v0 = .agg #[.int .i64 x.a, .int .u64 x.n, .int .i64 x.m, .int .i64 x.s, .int .i64 x.x, .int .i64 x.y, .int .i64 x.d, .bool x.t, .bool x.w, .bool x.g, .int .i64 x.p, .int .i64 x.q] := by
    obtain ⟨cs, rfl, hsz⟩ := okWide_struct Try.underlying36 (hval 0 36 v0 rfl rfl)
    obtain ⟨fuel, hf⟩ := h0
    obtain ⟨x, hx⟩ := ent_of_leaves (trod_leaves 5 36 _ _ _ _ leaves36 hf)
    exact ⟨x, by rw [show cs = cs.toList.toArray from rfl]; exact congrArg (fun l : List Value => Value.agg l.toArray) (by simpa [Value.cells, Ent.enc] using hx)⟩
  have k1 := h1
  have lt1 : ∀ x ∈ p1, x.block < W.heap.size := by obtain ⟨m, hm⟩ := k1; exact DataW.trod_lt m _ _ _ hm
  obtain ⟨z1, rfl⟩ : ∃ x : Rf, v1 = .agg #[.int .i64 x.k, .int .i64 x.i, .int .i64 x.o, .int .u64 x.n, .int .i64 x.m, .int .i64 x.s, .int .i64 x.c, .bool x.w] := by
    obtain ⟨cs, rfl, hsz⟩ := okWide_struct Try.underlying39 (hval 1 39 v1 rfl rfl)
    obtain ⟨fuel, hf⟩ := h1
    obtain ⟨x, hx⟩ := rf_of_leaves (trod_leaves 5 39 _ _ _ _ leaves39 hf)
    exact ⟨x, by rw [show cs = cs.toList.toArray from rfl]; exact congrArg (fun l : List Value => Value.agg l.toArray) (by simpa [Value.cells, Ent.enc] using hx)⟩
  clear hA0 hval0
  refine (walk8 z0 z1 W ).mono fun e W' ⟨he, bel⟩ => ?_
  subst he
  exact ⟨_, rfl, _, _, _, [], _, [], hW', trodAll_mk1 (shut_bool Try.underlying4 _), (trodAll_cons_mk (Below.trod laidOut_ (by kernel_rfl) (of_decide_eq_true (by kernel_rfl)) k0 bel lt0) (trodAll_cons_mk (Below.trod laidOut_ (by kernel_rfl) (of_decide_eq_true (by kernel_rfl)) k1 bel lt1) trodAll_mk0)), rfl, bel.frame _, fun h => by cases h⟩

theorem shortcutReroute_holds : Rows.ShortcutRerouteSaid :=
  OpenClaim.holds_of_wide 8 Try.f8 rfl rfl rfl rfl rfl rfl rfl ⟨rfl, rfl, rfl, rfl, rfl⟩ rfl rfl rfl rfl rfl (by kernel_rfl) Try.func8 (by kernel_rfl)
    (of_decide_eq_true (by kernel_rfl)) (by unfold Func.isWrapper; first | (rw [if_pos (by decide +kernel)]; kernel_rfl) | (rw [if_neg (by decide +kernel)]; exact ⟨rfl, rfl⟩))
    (fun os started H enc _ => lifted8 os started H enc)

end Go.Proofs.Ytnlgkjnlfeeaoaa
