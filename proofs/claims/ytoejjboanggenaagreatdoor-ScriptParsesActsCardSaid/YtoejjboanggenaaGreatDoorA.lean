/-
Words for acts in memory, and contracts of the small functions of the reference.
-/
import Derived.Test.YtoejjboanggenaaGreatDoorRows
import Derived.Test.YtoejjboanggenaaGreatDoorShelf
import Derived.WalkKit
import Derived.WalkSpells
import Derived.WalkLawsBesides
import Derived.Lib.Hide
import Derived.IntWalk
import Derived.Deep.QuietTactic
import Derived.BigQuiet
import Derived.Below
namespace Go.Proofs.YtoejjboanggenaaGreatDoor
open Go.RowKit
set_option linter.unusedVariables false

theorem ret_int {k : IntKind} {a b : Int} (h : a = b) : Ending.returned (.int k a) = .returned (.int k b) := by rw [h]
theorem ret_bool {a b : Bool} (h : a = b) : Ending.returned (.bool a) = .returned (.bool b) := by rw [h]

/-- a block known whole. -/
def Blk (w : World) (g : Nat) (t : TypeId) (cs : Array Value) : Prop := w.heap[g]? = some (.cells cs t (0, 0))
section
variable {w w' : World} {g : Nat} {t : TypeId} {cs : Array Value}
theorem Blk.lt (h : Blk w g t cs) : g < w.heap.size := by
  rcases Nat.lt_or_ge g w.heap.size with hlt | hge
  · exact hlt
  · unfold Blk at h; rw [Array.getElem?_eq_none hge] at h; cases h
theorem Blk.cell (h : Blk w g t cs) (i : Nat) : w.cell? ⟨g, i, none⟩ = cs[i]? := by
  unfold Blk at h; simp [World.cell?, h]
theorem Blk.frozen (h : Blk w g t cs) (i : Nat) : w.frozen? ⟨g, i, none⟩ = false := by
  unfold Blk at h
  simp [World.frozen?, h]
theorem Blk.new (w : World) (t : TypeId) (cs : Array Value) : Blk (w.alloc (.cells cs t)) w.heap.size t cs := heap_alloc_new w _
theorem Blk.alloc (h : Blk w g t cs) (o : Obj) : Blk (w.alloc o) g t cs := (Below.heap_alloc w o g h.lt).trans h
theorem Blk.below {B : Nat} (h : Blk w g t cs) (hb : Below B w w') (hg : g < B) : Blk w' g t cs := (hb.block g hg).trans h
theorem Blk.drew (h : Blk w g t cs) : Blk w.drew g t cs := h
theorem Blk.set (h : Blk w g t cs) (i : Nat) (v : Value) : Blk (w.setCell ⟨g, i, none⟩ v) g t (cs.setIfInBounds i v) := by
  unfold Blk at *
  obtain ⟨hlt, hg⟩ := Array.getElem?_eq_some_iff.1 h
  simp [World.setCell, hlt, Array.getElem_modify, hg]
theorem Blk.other (h : Blk w g t cs) (p : Addr) (v : Value) (hne : g ≠ p.block) : Blk (w.setCell p v) g t cs := (Below.heap_setCell w p v g hne).trans h
end
theorem cells_below {B : Nat} {w w' : World} (hb : Below B w w') {b : Nat} (h : b < B) (o : Nat) : w'.cell? ⟨b, o, none⟩ = w.cell? ⟨b, o, none⟩ := hb.cell (p := ⟨b, o, none⟩) h

/-- a slice whose cells, in a block below B, are cs. -/
def Row (w : World) (B : Nat) (A : Option Addr) (n : Nat) (cs : List Value) : Prop :=
  cs.length = n ∧ (0 < n → ∃ b off, A = some ⟨b, off, none⟩ ∧ b < B ∧ ∀ j v, cs[j]? = some v → w.cell? ⟨b, off + j, none⟩ = some v)
theorem Row.below {w w' : World} {B : Nat} {A : Option Addr} {n : Nat} {cs : List Value} (h : Row w B A n cs) (hb : Below B w w') : Row w' B A n cs :=
  ⟨h.1, fun h0 => by
    obtain ⟨b, off, h1, h2, h3⟩ := h.2 h0
    exact ⟨b, off, h1, h2, fun j v hv => (cells_below hb h2 _).trans (h3 j v hv)⟩⟩
theorem Row.more {w : World} {B B' : Nat} {A : Option Addr} {n : Nat} {cs : List Value} (h : Row w B A n cs) (hB : B ≤ B') : Row w B' A n cs :=
  ⟨h.1, fun h0 => by
    obtain ⟨b, off, h1, h2, h3⟩ := h.2 h0
    exact ⟨b, off, h1, Nat.lt_of_lt_of_le h2 hB, h3⟩⟩
theorem Row.at_ {w : World} {B : Nat} {A : Option Addr} {n : Nat} {cs : List Value} (h : Row w B A n cs) {k : Nat} (hk : k < n) :
    ∃ b off v, A = some ⟨b, off, none⟩ ∧ b < B ∧ cs[k]? = some v ∧ w.cell? ⟨b, off + k, none⟩ = some v := by
  obtain ⟨b, off, h1, h2, h3⟩ := h.2 (by omega)
  have hl : k < cs.length := by rw [h.1]; exact hk
  exact ⟨b, off, cs[k], h1, h2, List.getElem?_eq_getElem hl, h3 k _ (List.getElem?_eq_getElem hl)⟩
def Ints (w : World) (B : Nat) (A : Option Addr) (n : Nat) (zs : List Int) : Prop := Row w B A n (zs.map (.int .i64))
def Strs (w : World) (B : Nat) (A : Option Addr) (n : Nat) (ss : List ByteArray) : Prop := Row w B A n (ss.map .string)
theorem Ints.below {w w' : World} {B : Nat} {A : Option Addr} {n : Nat} {zs : List Int} (h : Ints w B A n zs) (hb : Below B w w') : Ints w' B A n zs := Row.below h hb
theorem Ints.more {w : World} {B B' : Nat} {A : Option Addr} {n : Nat} {zs : List Int} (h : Ints w B A n zs) (hB : B ≤ B') : Ints w B' A n zs := Row.more h hB
theorem Ints.len {w : World} {B : Nat} {A : Option Addr} {n : Nat} {zs : List Int} (h : Ints w B A n zs) : zs.length = n := by simpa using h.1
theorem Ints.at_ {w : World} {B : Nat} {A : Option Addr} {n : Nat} {zs : List Int} (h : Ints w B A n zs) {k : Nat} (hk : k < n) :
    ∃ b off z, A = some ⟨b, off, none⟩ ∧ b < B ∧ zs[k]? = some z ∧ w.cell? ⟨b, off + k, none⟩ = some (.int .i64 z) := by
  obtain ⟨b, off, v, h1, h2, h3, h4⟩ := Row.at_ h hk
  rw [List.getElem?_map] at h3
  obtain ⟨z, hz, rfl⟩ := Option.map_eq_some_iff.1 h3
  exact ⟨b, off, z, h1, h2, hz, h4⟩
theorem Strs.below {w w' : World} {B : Nat} {A : Option Addr} {n : Nat} {ss : List ByteArray} (h : Strs w B A n ss) (hb : Below B w w') : Strs w' B A n ss := Row.below h hb
theorem Strs.more {w : World} {B B' : Nat} {A : Option Addr} {n : Nat} {ss : List ByteArray} (h : Strs w B A n ss) (hB : B ≤ B') : Strs w B' A n ss := Row.more h hB
theorem Strs.len {w : World} {B : Nat} {A : Option Addr} {n : Nat} {ss : List ByteArray} (h : Strs w B A n ss) : ss.length = n := by simpa using h.1
theorem Strs.at_ {w : World} {B : Nat} {A : Option Addr} {n : Nat} {ss : List ByteArray} (h : Strs w B A n ss) {k : Nat} (hk : k < n) :
    ∃ b off s, A = some ⟨b, off, none⟩ ∧ b < B ∧ ss[k]? = some s ∧ w.cell? ⟨b, off + k, none⟩ = some (.string s) := by
  obtain ⟨b, off, v, h1, h2, h3, h4⟩ := Row.at_ h hk
  rw [List.getElem?_map] at h3
  obtain ⟨z, hz, rfl⟩ := Option.map_eq_some_iff.1 h3
  exact ⟨b, off, z, h1, h2, hz, h4⟩
/-- the slice without its first element. -/
theorem Row.tail {w : World} {B b off n : Nat} {v : Value} {cs : List Value} (h : Row w B (some ⟨b, off, none⟩) (n + 1) (v :: cs)) : Row w B (some ⟨b, off + 1, none⟩) n cs :=
  ⟨by simpa using h.1, fun h0 => by
    obtain ⟨b', off', h1, h2, h3⟩ := h.2 (by omega)
    simp only [Option.some.injEq, Addr.mk.injEq, and_true] at h1
    obtain ⟨rfl, rfl⟩ := h1
    exact ⟨b, off + 1, rfl, h2, fun j u hu => by rw [Nat.add_right_comm, Nat.add_assoc]; exact h3 (j + 1) u (by simpa using hu)⟩⟩

/-- an act as it lies in memory. -/
structure Av where
  k : Int
  a : Int
  b : Int
  nm : ByteArray
  mt : ByteArray
  A : Option Addr
  n : Nat
  c : Nat
  A2 : Option Addr
  n2 : Nat
  c2 : Nat
def Av.cells (v : Av) : Array Value := #[.int .i64 v.k, .int .i64 v.a, .int .i64 v.b, .string v.nm, .string v.mt, .slice v.A v.n v.c, .slice v.A2 v.n2 v.c2]
/-- an act as data. -/
structure Ad where
  k : Int
  a : Int
  b : Int
  nm : ByteArray
  mt : ByteArray
  args : List Int
  surv : List Int
/-- v reads as d in memory below B. -/
structure Reads (w : World) (B : Nat) (v : Av) (d : Ad) : Prop where
  k : v.k = d.k
  a : v.a = d.a
  b : v.b = d.b
  nm : v.nm = d.nm
  mt : v.mt = d.mt
  args : Ints w B v.A v.n d.args
  surv : Ints w B v.A2 v.n2 d.surv
theorem Reads.below {w w' : World} {B : Nat} {v : Av} {d : Ad} (h : Reads w B v d) (hb : Below B w w') : Reads w' B v d := ⟨h.k, h.a, h.b, h.nm, h.mt, h.args.below hb, h.surv.below hb⟩
theorem Reads.more {w : World} {B B' : Nat} {v : Av} {d : Ad} (h : Reads w B v d) (hB : B ≤ B') : Reads w B' v d := ⟨h.k, h.a, h.b, h.nm, h.mt, h.args.more hB, h.surv.more hB⟩

def machineB (n : Int) : Bool := decide (1 ≤ n) && decide (n ≤ 8)
def countB (n : Int) : Bool := decide (0 ≤ n) && decide (n ≤ 1099511627776)
theorem machine19 (n : Int) (w : World) : Calls Tryz.prog 19 #[.int .i64 n] w fun e w' => e = .returned (.bool (machineB n)) ∧ w = w' := by
  by_cases h1 : 1 ≤ n
  · by_cases h2 : n ≤ 8
    all_goals
      go_enter Tryz.func19, Tryz.ntmps19
      go_wp2
      go_ret
      exact ⟨ret_bool (by simp [machineB]; omega), rfl⟩
  · go_enter Tryz.func19, Tryz.ntmps19
    go_wp2
    go_ret
    exact ⟨ret_bool (by simp [machineB]; omega), rfl⟩
theorem count20 (n : Int) (w : World) : Calls Tryz.prog 20 #[.int .i64 n] w fun e w' => e = .returned (.bool (countB n)) ∧ w = w' := by
  by_cases h1 : 0 ≤ n
  · by_cases h2 : n ≤ 1099511627776
    all_goals
      go_enter Tryz.func20, Tryz.ntmps20
      go_wp2
      go_ret
      exact ⟨ret_bool (by simp [countB]; omega), rfl⟩
  · go_enter Tryz.func20, Tryz.ntmps20
    go_wp2
    go_ret
    exact ⟨ret_bool (by simp [countB]; omega), rfl⟩

/-- all integers are in the language's range. -/
def rangeB (zs : List Int) : Bool := zs.all fun z => decide (-2305843009213693952 ≤ z) && decide (z ≤ 2305843009213693951)
theorem all_take {α : Type} {p : α → Bool} {l : List α} {k : Nat} {x : α} (h : l[k]? = some x) : (l.take (k + 1)).all p = ((l.take k).all p && p x) := by
  have hk := (List.getElem?_eq_some_iff.1 h).1
  rw [List.take_succ_eq_append_getElem hk, List.all_append]
  have : l[k] = x := by rw [List.getElem?_eq_getElem hk] at h; simpa using h
  simp [this]
theorem all_false {α : Type} {p : α → Bool} {l : List α} {k : Nat} {x : α} (h : l[k]? = some x) (hp : p x = false) : l.all p = false := by
  rw [List.all_eq_false]
  exact ⟨x, List.mem_of_getElem? h, by simp [hp]⟩
set_option maxHeartbeats 1000000 in
theorem args23 (A : Option Addr) (n c : Nat) (zs : List Int) (most : Int) (B : Nat) (w : World) (h : Ints w B A n zs) (hn : n ≤ 1000000) :
    Calls Tryz.prog 23 #[.slice A n c, .int .i64 most] w fun e w' => e = .returned (.bool (rangeB zs && decide ((n : Int) ≤ most))) ∧ w = w' := by
  have hl := h.len
  have HL := Lib.hid hl
  clear hl
  go_enter Tryz.func23, Tryz.ntmps23
  go_wp2
  go_loop [5] (fun i => ∃ k : Nat, k ≤ n ∧ i = .int .i64 k ∧ Hid (rangeB (zs.take k) = true)) (fun i => n - (intOf i).toNat)
  case atStart => exact ⟨0, Nat.zero_le _, rfl, Lib.hid (by simp [rangeB])⟩
  case round =>
    obtain ⟨k, hk, rfl, HA⟩ := hrel
    by_cases hlt : k < n
    · obtain ⟨b, off, z, rfl, _, hz, hc⟩ := h.at_ hlt
      have hk0 : 0 ≤ (k : Int) := by omega
      have hk1 : (k : Int) < n := by omega
      have HZ := Lib.hid hz
      clear hz
      by_cases h1 : z < -2305843009213693952
      · go_wp2
        go_ret
        exact ⟨ret_bool (by rw [show rangeB zs = false from all_false HZ.out (by simp; omega)]; rfl), rfl⟩
      · by_cases h2 : 2305843009213693951 < z
        · go_wp2
          go_ret
          exact ⟨ret_bool (by rw [show rangeB zs = false from all_false HZ.out (by simp; omega)]; rfl), rfl⟩
        · go_wp2
          go_round
          case rel => exact ⟨k + 1, by omega, by go_num, Lib.hid (by unfold rangeB at *; rw [all_take HZ.out, HA.out]; simp; omega)⟩
          case measure => simp [intOf]; omega
    · obtain rfl : k = n := by omega
      go_wp2
      all_goals
        go_ret
        refine ⟨ret_bool ?_, rfl⟩
        have h1 := HA.out
        rw [List.take_of_length_le (by rw [HL.out]; omega)] at h1
        rw [h1]
        simp_all
end Go.Proofs.YtoejjboanggenaaGreatDoor
