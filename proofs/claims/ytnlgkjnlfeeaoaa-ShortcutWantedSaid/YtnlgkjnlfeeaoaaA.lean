/-
Words for entries in memory, and contracts of the small functions of refmeshlaw29, refmeshref29 and shortcut.
-/
import Derived.Test.YtnlgkjnlfeeaoaaRows
import Derived.WalkKit
import Derived.WalkSpells
import Derived.WalkLawsBesides
import Derived.Lib.Hide
import Derived.Deep.QuietTactic
import Derived.BigQuiet
namespace Go.Proofs.Ytnlgkjnlfeeaoaa
open Go.RowKit

/-- two identities are the same. -/
def idEq (a b c d : Int) : Bool := a == c && b == d
theorem idEq_true (a b c d : Int) : idEq a b c d = true ↔ a = c ∧ b = d := by simp [idEq]
theorem idEq_false (a b c d : Int) : idEq a b c d = false ↔ ¬ (a = c ∧ b = d) := by simp [idEq]

theorem eqInt (n : Nat) (w : World) (a b : Int) : (Op.equalIn (n + 1) 3 (.int .i64 a) (.int .i64 b)).run Try.prog w = .ok (a == b) w := by
  simp [Op.equalIn, run_underlying Try.underlying3]
theorem part0 (x y : Int) (w : World) : (part 3 #[.int .i64 x, .int .i64 y] 0).run Try.prog w = .ok (.int .i64 x) w := by kernel_rfl
theorem part1 (x y : Int) (w : World) : (part 3 #[.int .i64 x, .int .i64 y] 1).run Try.prog w = .ok (.int .i64 y) w := by kernel_rfl
theorem eqIn31 (n : Nat) (w : World) (a b c d : Int) : (Op.equalIn (n + 2) 31 (.agg #[.int .i64 a, .int .i64 b]) (.agg #[.int .i64 c, .int .i64 d])).run Try.prog w = .ok (idEq a b c d) w := by
  have hp : Try.prog.stoodInHeld 31 = false := by kernel_rfl
  rw [Op.equalIn]
  simp only [Sem.run_bind, run_underlying Try.underlying31, Result.andThen_ok, run_program, hp, Bool.false_eq_true, if_false]
  rw [← Array.forIn_toList]
  simp only [List.forIn_cons, List.forIn_nil, Sem.run_bind, Sem.run_ite, part0, eqInt, Result.andThen_ok, idEq]
  by_cases h1 : a = c <;> by_cases h2 : b = d <;> simp [h1, h2, part1, eqInt]
theorem eqIn32 (n : Nat) (w : World) (a b c d : Int) : (Op.equalIn (n + 2) 32 (.agg #[.int .i64 a, .int .i64 b]) (.agg #[.int .i64 c, .int .i64 d])).run Try.prog w = .ok (idEq a b c d) w := by
  have hp : Try.prog.stoodInHeld 32 = false := by kernel_rfl
  rw [Op.equalIn]
  simp only [Sem.run_bind, run_underlying Try.underlying32, Result.andThen_ok, run_program, hp, Bool.false_eq_true, if_false]
  rw [← Array.forIn_toList]
  simp only [List.forIn_cons, List.forIn_nil, Sem.run_bind, Sem.run_ite, part0, eqInt, Result.andThen_ok, idEq]
  by_cases h1 : a = c <;> by_cases h2 : b = d <;> simp [h1, h2, part1, eqInt]
theorem eql31 (w : World) (a b c d : Int) : (binOp .eql 31 (.agg #[.int .i64 a, .int .i64 b]) (.agg #[.int .i64 c, .int .i64 d])).run Try.prog w = .ok (.bool (idEq a b c d)) w := by
  simp only [binOp, Op.equal, Op.maxDepth, Sem.run_bind]; rw [eqIn31 9998]; simp
theorem eql32 (w : World) (a b c d : Int) : (binOp .eql 32 (.agg #[.int .i64 a, .int .i64 b]) (.agg #[.int .i64 c, .int .i64 d])).run Try.prog w = .ok (.bool (idEq a b c d)) w := by
  simp only [binOp, Op.equal, Op.maxDepth, Sem.run_bind]; rw [eqIn32 9998]; simp
theorem neq31 (w : World) (a b c d : Int) : (binOp .neq 31 (.agg #[.int .i64 a, .int .i64 b]) (.agg #[.int .i64 c, .int .i64 d])).run Try.prog w = .ok (.bool (!idEq a b c d)) w := by
  simp only [binOp, Op.equal, Op.maxDepth, Sem.run_bind]; rw [eqIn31 9998]; simp
theorem neq32 (w : World) (a b c d : Int) : (binOp .neq 32 (.agg #[.int .i64 a, .int .i64 b]) (.agg #[.int .i64 c, .int .i64 d])).run Try.prog w = .ok (.bool (!idEq a b c d)) w := by
  simp only [binOp, Op.equal, Op.maxDepth, Sem.run_bind]; rw [eqIn32 9998]; simp

/-- an entry: a scion or a stub. -/
structure Ent where
  a : Int
  n : Int
  m : Int
  s : Int
  x : Int
  y : Int
  d : Int
  t : Bool
  w : Bool
  g : Bool
  p : Int
  q : Int

/-- a reference. -/
structure Rf where
  k : Int
  i : Int
  o : Int
  n : Int
  m : Int
  s : Int
  c : Int
  w : Bool

def Ent.enc (e : Ent) : List Value := [.int .i64 e.a, .int .u64 e.n, .int .i64 e.m, .int .i64 e.s, .int .i64 e.x, .int .i64 e.y, .int .i64 e.d, .bool e.t, .bool e.w, .bool e.g, .int .i64 e.p, .int .i64 e.q]

/-- a slice that reads as entries. -/
def Ents (w : World) (B : Nat) (A : Option Addr) (n : Nat) (es : List Ent) : Prop :=
  es.length = n ∧ (0 < n → ∃ b off, A = some ⟨b, off, none⟩ ∧ b < B ∧ ∀ i e, es[i]? = some e → ∀ j v, e.enc[j]? = some v → w.cell? ⟨b, off + i * 12 + j, none⟩ = some v)

theorem Ents.at_ {w : World} {B : Nat} {A : Option Addr} {n : Nat} {es : List Ent} (h : Ents w B A n es) {k : Nat} (hk : k < n) :
    ∃ b off e, A = some ⟨b, off, none⟩ ∧ b < B ∧ es[k]? = some e ∧ ∀ j v, e.enc[j]? = some v → w.cell? ⟨b, off + k * 12 + j, none⟩ = some v := by
  obtain ⟨b, off, e, hb, hc⟩ := h.2 (by omega)
  have hl : k < es.length := by rw [h.1]; exact hk
  exact ⟨b, off, es[k], e, hb, List.getElem?_eq_getElem hl, hc k _ (List.getElem?_eq_getElem hl)⟩
theorem Ents.keep {w w' : World} {B : Nat} {A : Option Addr} {n : Nat} {es : List Ent} (h : Ents w B A n es) (hk : ∀ p : Addr, p.block < B → w'.cell? p = w.cell? p) : Ents w' B A n es :=
  ⟨h.1, fun hn => by
    obtain ⟨b, off, e, hb, hc⟩ := h.2 hn
    exact ⟨b, off, e, hb, fun i x hx j v hv => (hk _ hb).trans (hc i x hx j v hv)⟩⟩
theorem Ents.below {w w' : World} {B : Nat} {A : Option Addr} {n : Nat} {es : List Ent} (h : Ents w B A n es) (hb : Below B w w') : Ents w' B A n es := h.keep fun _ hp => hb.cell hp
theorem Ents.more {w : World} {B B' : Nat} {A : Option Addr} {n : Nat} {es : List Ent} (h : Ents w B A n es) (hB : B ≤ B') : Ents w B' A n es :=
  ⟨h.1, fun hn => by
    obtain ⟨b, off, e, hb, hc⟩ := h.2 hn
    exact ⟨b, off, e, by omega, hc⟩⟩

/-- all twelve cells of entry k. -/
theorem Ents.cells {w : World} {B : Nat} {A : Option Addr} {n : Nat} {es : List Ent} (h : Ents w B A n es) {k : Nat} (hk : k < n) :
    ∃ b off e, A = some ⟨b, off, none⟩ ∧ b < B ∧ es[k]? = some e ∧
      w.cell? ⟨b, off + k * 12, none⟩ = some (.int .i64 e.a) ∧ w.cell? ⟨b, off + k * 12 + 1, none⟩ = some (.int .u64 e.n) ∧
      w.cell? ⟨b, off + k * 12 + 2, none⟩ = some (.int .i64 e.m) ∧ w.cell? ⟨b, off + k * 12 + 3, none⟩ = some (.int .i64 e.s) ∧
      w.cell? ⟨b, off + k * 12 + 4, none⟩ = some (.int .i64 e.x) ∧ w.cell? ⟨b, off + k * 12 + 5, none⟩ = some (.int .i64 e.y) ∧
      w.cell? ⟨b, off + k * 12 + 6, none⟩ = some (.int .i64 e.d) ∧ w.cell? ⟨b, off + k * 12 + 7, none⟩ = some (.bool e.t) ∧
      w.cell? ⟨b, off + k * 12 + 8, none⟩ = some (.bool e.w) ∧ w.cell? ⟨b, off + k * 12 + 9, none⟩ = some (.bool e.g) ∧
      w.cell? ⟨b, off + k * 12 + 10, none⟩ = some (.int .i64 e.p) ∧ w.cell? ⟨b, off + k * 12 + 11, none⟩ = some (.int .i64 e.q) := by
  obtain ⟨b, off, e, h1, h2, h3, hc⟩ := h.at_ hk
  exact ⟨b, off, e, h1, h2, h3, hc 0 _ rfl, hc 1 _ rfl, hc 2 _ rfl, hc 3 _ rfl, hc 4 _ rfl, hc 5 _ rfl, hc 6 _ rfl, hc 7 _ rfl, hc 8 _ rfl, hc 9 _ rfl, hc 10 _ rfl, hc 11 _ rfl⟩

/-- a block known whole. -/
def Blk (w : World) (g : Nat) (t : TypeId) (cs : Array Value) : Prop := w.heap[g]? = some (.cells cs t (0, 0))
section
variable {w w' : World} {g : Nat} {t : TypeId} {cs : Array Value}
theorem Blk.lt (h : Blk w g t cs) : g < w.heap.size := by
  rcases Nat.lt_or_ge g w.heap.size with hlt | hge
  · exact hlt
  · unfold Blk at h; rw [Array.getElem?_eq_none hge] at h; cases h
theorem Blk.cell (h : Blk w g t cs) (i : Nat) : w.cell? ⟨g, i, none⟩ = cs[i]? := by
  unfold Blk at h; simp [World.cell?, h]
theorem Blk.frozen (h : Blk w g t cs) (i : Nat) : w.frozen? ⟨g, i, none⟩ = false := by
  unfold Blk at h
  simp [World.frozen?, h]
theorem Blk.new (w : World) (t : TypeId) (cs : Array Value) : Blk (w.alloc (.cells cs t)) w.heap.size t cs := heap_alloc_new w _
theorem Blk.alloc (h : Blk w g t cs) (o : Obj) : Blk (w.alloc o) g t cs := (Below.heap_alloc w o g h.lt).trans h
theorem Blk.below {B : Nat} (h : Blk w g t cs) (hb : Below B w w') (hg : g < B) : Blk w' g t cs := (hb.block g hg).trans h
theorem Blk.grown {row : Option Nat} (h : Blk w g t cs) (hb : w.grownBy w' row) (hg : some g ≠ row) : Blk w' g t cs := (hb.block g h.lt hg).trans h
end

theorem below_drewN {B : Nat} {a w : World} (h : Below B a w) (n : Nat) : Below B a (w.drewN n) := ⟨h.os, h.tape, h.output, h.size, h.block⟩

def validId (m s : Int) : Bool := decide (1 ≤ m ∧ m ≤ 8 ∧ 1 ≤ s ∧ s ≤ 1099511627775)
def within (n k : Int) : Bool := decide (1 ≤ n ∧ n ≤ k)
def directRef (r : Rf) : Bool := decide (r.k = 3 ∧ 1 ≤ r.o ∧ r.o ≤ 8 ∧ 1 ≤ r.m ∧ r.m ≤ 8 ∧ 1 ≤ r.s ∧ r.s ≤ 1099511627775)

set_option maxHeartbeats 400000 in
theorem valid32 (m s : Int) (w : World) :
    Calls Try.prog 32 #[.agg #[.int .i64 m, .int .i64 s]] w fun e w' => e = .returned (.bool (validId m s)) ∧ w.alloc (.cells #[.int .i64 m, .int .i64 s] 31) = w' := by
  have hq1 := eql31
  have hq2 := eql32
  have hq3 := neq31
  have hq4 := neq32
  go_enter Try.func32, Try.ntmps32
  go_wp2
  all_goals
    go_ret
    refine ⟨?_, rfl⟩
    first | (simp [validId]; omega) | simp [validId, *]

set_option maxHeartbeats 400000 in
theorem valid27 (m s : Int) (w : World) :
    Calls Try.prog 27 #[.agg #[.int .i64 m, .int .i64 s]] w fun e w' => e = .returned (.bool (validId m s)) ∧ (w.alloc (.cells #[.int .i64 m, .int .i64 s] 31)).alloc (.cells #[.int .i64 m, .int .i64 s] 31) = w' := by
  have hq1 := eql31
  have hq2 := eql32
  have hq3 := neq31
  have hq4 := neq32
  go_enter Try.func27, Try.ntmps27
  go_wp2_with (go_at_call 32; refine (valid32 _ _ _).mono ?_; rintro e w1 ⟨rfl, rfl⟩)
  go_ret
  exact ⟨rfl, rfl⟩

set_option maxHeartbeats 400000 in
theorem within31 (n k : Int) (w : World) :
    Calls Try.prog 31 #[.int .i64 n, .int .i64 k] w fun e w' => e = .returned (.bool (within n k)) ∧ w = w' := by
  have hq1 := eql31
  have hq2 := eql32
  have hq3 := neq31
  have hq4 := neq32
  go_enter Try.func31, Try.ntmps31
  go_wp2
  all_goals
    go_ret
    refine ⟨?_, rfl⟩
    first | (simp [within]; omega) | simp [within, *]

set_option maxHeartbeats 400000 in
theorem direct26 (r : Rf) (w : World) :
    Calls Try.prog 26 #[.agg #[.int .i64 r.k, .int .i64 r.i, .int .i64 r.o, .int .u64 r.n, .int .i64 r.m, .int .i64 r.s, .int .i64 r.c, .bool r.w]] w fun e w' => e = .returned (.bool (directRef r)) ∧ w.alloc (.cells #[.int .i64 r.k, .int .i64 r.i, .int .i64 r.o, .int .u64 r.n, .int .i64 r.m, .int .i64 r.s, .int .i64 r.c, .bool r.w] 39) = w' := by
  by_cases hk : (r.k == 3) = true
  · have hq1 := eql31
    have hq2 := eql32
    have hq3 := neq31
    have hq4 := neq32
    go_enter Try.func26, Try.ntmps26
    go_wp2
    all_goals
      go_ret
      refine ⟨?_, rfl⟩
      have hk' : r.k = 3 := by simpa using hk
      first | (simp [directRef, hk']; omega) | simp [directRef, *]
  · rw [Bool.not_eq_true] at hk
    have hq1 := eql31
    have hq2 := eql32
    have hq3 := neq31
    have hq4 := neq32
    go_enter Try.func26, Try.ntmps26
    go_wp2
    go_ret
    refine ⟨?_, rfl⟩
    have hk' : ¬ r.k = 3 := by simpa using hk
    simp [directRef, hk']

set_option maxHeartbeats 400000 in
theorem closure30 (e s : Ent) (g : Nat) (w : World) (hs : Blk w g 34 #[.int .i64 s.a, .int .u64 s.n, .int .i64 s.m, .int .i64 s.s, .int .i64 s.x, .int .i64 s.y, .int .i64 s.d, .bool s.t, .bool s.w, .bool s.g, .int .i64 s.p, .int .i64 s.q]) :
    Calls Try.prog 30 #[.agg #[.int .i64 e.a, .int .u64 e.n, .int .i64 e.m, .int .i64 e.s, .int .i64 e.x, .int .i64 e.y, .int .i64 e.d, .bool e.t, .bool e.w, .bool e.g, .int .i64 e.p, .int .i64 e.q], .pointer (some ⟨g, 0, none⟩)] w fun r w' => r = .returned (.bool (idEq e.m e.s s.m s.s)) ∧ Below w.heap.size w w' := by
  have hg := hs.lt
  have c2 : w.cell? ⟨g, 2, none⟩ = some (.int .i64 s.m) := hs.cell 2
  have c3 : w.cell? ⟨g, 3, none⟩ = some (.int .i64 s.s) := hs.cell 3
  have hq1 := eql31
  have hq2 := eql32
  have hq3 := neq31
  have hq4 := neq32
  go_enter Try.func30, Try.ntmps30
  go_wp2_with fail
  go_ret
  exact ⟨rfl, (Below.refl _ _).alloc (Nat.le_refl _) _⟩
end Go.Proofs.Ytnlgkjnlfeeaoaa
