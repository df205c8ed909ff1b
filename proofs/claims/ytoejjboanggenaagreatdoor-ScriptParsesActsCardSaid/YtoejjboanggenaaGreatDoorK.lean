/-
Contracts of the closures of survive and rest.
-/
import Derived.Test.YtoejjboanggenaaGreatDoorJ
namespace Go.Proofs.YtoejjboanggenaaGreatDoor
open Go.RowKit
set_option linter.unusedVariables false
set_option linter.unusedSimpArgs false

def inRange (z : Int) : Bool := decide (-2305843009213693952 ≤ z) && decide (z ≤ 2305843009213693951)
theorem bad69 (z : Int) (w : World) : Calls Tryz.prog 69 #[.int .i64 z] w fun e w' => e = .returned (.bool (!countB z)) ∧ w = w' := by
  by_cases h1 : z < 0
  · go_enter Tryz.func69, Tryz.ntmps69
    go_wp2
    go_ret
    exact ⟨ret_bool (by simp [countB]; omega), rfl⟩
  · by_cases h2 : 1099511627776 < z
    all_goals
      go_enter Tryz.func69, Tryz.ntmps69
      go_wp2
      go_ret
      exact ⟨ret_bool (by simp [countB]; omega), rfl⟩
theorem bad76 (z : Int) (w : World) : Calls Tryz.prog 76 #[.int .i64 z] w fun e w' => e = .returned (.bool (!inRange z)) ∧ w = w' := by
  by_cases h1 : z < -2305843009213693952
  · go_enter Tryz.func76, Tryz.ntmps76
    go_wp2
    go_ret
    exact ⟨ret_bool (by simp [inRange]; omega), rfl⟩
  · by_cases h2 : 2305843009213693951 < z
    all_goals
      go_enter Tryz.func76, Tryz.ntmps76
      go_wp2
      go_ret
      exact ⟨ret_bool (by simp [inRange]; omega), rfl⟩
/-- an index of a bad one, or none. -/
def SomeAt (zs : List Int) (p : Int → Bool) (w : World) (e : Ending) (w' : World) : Prop := ∃ i : Int, e = .returned (.int .i64 i) ∧ decide (0 ≤ i) = zs.any p ∧ w = w'
set_option maxHeartbeats 1000000 in
theorem idx87 (A : Option Addr) (n c : Nat) (zs : List Int) (B : Nat) (w : World) (h : Ints w B A n zs) (hn : n ≤ 1000000) :
    Calls Tryz.prog 87 #[.slice A n c, fnv 69] w (SomeAt zs (fun z => !countB z) w) := by
  have HL := Lib.hid h.len
  unfold fnv
  go_enter Tryz.func87, Tryz.ntmps87
  go_wp2_with fail
  go_loop [8] (fun i => ∃ k : Nat, k ≤ n ∧ i = .int .i64 k ∧ Hid ((zs.take k).any (fun z => !countB z) = false)) (fun i => n - (intOf i).toNat)
  case atStart => exact ⟨0, Nat.zero_le _, rfl, Lib.hid (by simp)⟩
  case round =>
    obtain ⟨k, hk, rfl, HA⟩ := hrel
    by_cases hlt : k < n
    · obtain ⟨b, off, z, rfl, _, hz, hc⟩ := h.at_ hlt
      have hk0 : 0 ≤ (k : Int) := by omega
      have hk1 : (k : Int) < n := by omega
      have HZ := Lib.hid hz
      clear hz
      go_wp2_with fail
      refine (bad69 _ _).mono ?_
      rintro e w1 ⟨rfl, rfl⟩
      by_cases hb : countB z = true
      · rw [hb]
        have HB := Lib.hid hb
        clear hb
        go_wp2_with fail
        go_round
        case rel => exact ⟨k + 1, by omega, by go_num, Lib.hid (by rw [any_take HZ.out, HA.out, HB.out]; rfl)⟩
        case measure => simp [intOf]; omega
      · have hb' : countB z = false := by simpa using hb
        rw [hb']
        have HB := Lib.hid hb'
        clear hb hb'
        go_wp2_with fail
        go_ret
        exact ⟨(k : Int), rfl, by rw [any_true HZ.out (by rw [HB.out]; rfl)]; simp, rfl⟩
    · obtain rfl : k = n := by omega
      go_wp2_with fail
      go_ret
      refine ⟨-1, rfl, ?_, rfl⟩
      have h1 := HA.out
      rw [List.take_of_length_le (by rw [HL.out]; omega)] at h1
      rw [h1]; rfl
theorem cont68 (A : Option Addr) (n c : Nat) (zs : List Int) (B : Nat) (w : World) (h : Ints w B A n zs) (hn : n ≤ 1000000) :
    Calls Tryz.prog 68 #[.slice A n c, fnv 69] w fun e w' => e = .returned (.bool (zs.any fun z => !countB z)) ∧ w = w' := by
  have HC := Lib.hid (idx87 A n c zs B w h hn)
  clear h
  unfold fnv at HC ⊢
  go_enter Tryz.func68, Tryz.ntmps68
  go_wp2_with fail
  refine HC.out.mono ?_
  rintro e w1 ⟨i, rfl, hi, rfl⟩
  have HI := Lib.hid hi
  clear HC hi
  go_wp2_with fail
  go_ret
  exact ⟨ret_bool HI.out, rfl⟩
set_option maxHeartbeats 1000000 in
theorem idx89 (A : Option Addr) (n c : Nat) (zs : List Int) (B : Nat) (w : World) (h : Ints w B A n zs) (hn : n ≤ 1000000) :
    Calls Tryz.prog 89 #[.slice A n c, fnv 76] w (SomeAt zs (fun z => !inRange z) w) := by
  have HL := Lib.hid h.len
  unfold fnv
  go_enter Tryz.func89, Tryz.ntmps89
  go_wp2_with fail
  go_loop [8] (fun i => ∃ k : Nat, k ≤ n ∧ i = .int .i64 k ∧ Hid ((zs.take k).any (fun z => !inRange z) = false)) (fun i => n - (intOf i).toNat)
  case atStart => exact ⟨0, Nat.zero_le _, rfl, Lib.hid (by simp)⟩
  case round =>
    obtain ⟨k, hk, rfl, HA⟩ := hrel
    by_cases hlt : k < n
    · obtain ⟨b, off, z, rfl, _, hz, hc⟩ := h.at_ hlt
      have hk0 : 0 ≤ (k : Int) := by omega
      have hk1 : (k : Int) < n := by omega
      have HZ := Lib.hid hz
      clear hz
      go_wp2_with fail
      refine (bad76 _ _).mono ?_
      rintro e w1 ⟨rfl, rfl⟩
      by_cases hb : inRange z = true
      · rw [hb]
        have HB := Lib.hid hb
        clear hb
        go_wp2_with fail
        go_round
        case rel => exact ⟨k + 1, by omega, by go_num, Lib.hid (by rw [any_take HZ.out, HA.out, HB.out]; rfl)⟩
        case measure => simp [intOf]; omega
      · have hb' : inRange z = false := by simpa using hb
        rw [hb']
        have HB := Lib.hid hb'
        clear hb hb'
        go_wp2_with fail
        go_ret
        exact ⟨(k : Int), rfl, by rw [any_true HZ.out (by rw [HB.out]; rfl)]; simp, rfl⟩
    · obtain rfl : k = n := by omega
      go_wp2_with fail
      go_ret
      refine ⟨-1, rfl, ?_, rfl⟩
      have h1 := HA.out
      rw [List.take_of_length_le (by rw [HL.out]; omega)] at h1
      rw [h1]; rfl
theorem cont75 (A : Option Addr) (n c : Nat) (zs : List Int) (B : Nat) (w : World) (h : Ints w B A n zs) (hn : n ≤ 1000000) :
    Calls Tryz.prog 75 #[.slice A n c, fnv 76] w fun e w' => e = .returned (.bool (zs.any fun z => !inRange z)) ∧ w = w' := by
  have HC := Lib.hid (idx89 A n c zs B w h hn)
  clear h
  unfold fnv at HC ⊢
  go_enter Tryz.func75, Tryz.ntmps75
  go_wp2_with fail
  refine HC.out.mono ?_
  rintro e w1 ⟨i, rfl, hi, rfl⟩
  have HI := Lib.hid hi
  clear HC hi
  go_wp2_with fail
  go_ret
  exact ⟨ret_bool HI.out, rfl⟩
set_option maxHeartbeats 1000000 in
theorem list67 (v : Av) (zs : List Int) (w : World) (h : Ints w w.heap.size v.A2 v.n2 zs) (hn : v.n2 ≤ 1000000)  :
    Calls Tryz.prog 67 #[.agg v.cells] w fun e w' => e = .returned (.bool (decide ((zs.length : Int) ≤ 20) && !(zs.any fun z => !countB z))) ∧ Below w.heap.size w w' := by
  unfold Av.cells
  have hbel : Below w.heap.size w (w.alloc (.cells #[.int .i64 v.k, .int .i64 v.a, .int .i64 v.b, .string v.nm, .string v.mt, .slice v.A v.n v.c, .slice v.A2 v.n2 v.c2] 25)) := (Below.refl _ _).alloc (Nat.le_refl _) _
  have c5 : (w.alloc (.cells #[.int .i64 v.k, .int .i64 v.a, .int .i64 v.b, .string v.nm, .string v.mt, .slice v.A v.n v.c, .slice v.A2 v.n2 v.c2] 25)).cell? ⟨w.heap.size, 6, none⟩ = some (.slice v.A2 v.n2 v.c2) := (Blk.new w 25 _).cell 6
  have HI := Lib.hid (h.below hbel)
  have HL := Lib.hid h.len
  have HB := Lib.hid hbel
  clear h hbel
  by_cases hle : (v.n2 : Int) ≤ 20
  all_goals
    go_enter Tryz.func67, Tryz.ntmps67
    go_upto_region 1 with (fail)
    generalize w.alloc (.cells #[.int .i64 v.k, .int .i64 v.a, .int .i64 v.b, .string v.nm, .string v.mt, .slice v.A v.n v.c, .slice v.A2 v.n2 v.c2] 25) = W at *
  · have hd : decide ((v.n2 : Int) ≤ 20) = true := by simpa using hle
    go_wp2_with fail
    refine (cont68 _ _ _ zs _ _ HI.out hn).mono ?_
    rintro e w1 ⟨rfl, rfl⟩
    go_wp2_with fail
    go_ret
    exact ⟨ret_bool (by rw [HL.out, hd]; simp), HB.out⟩
  · have hd : decide ((v.n2 : Int) ≤ 20) = false := by simpa using hle
    go_wp2_with fail
    go_ret
    exact ⟨ret_bool (by rw [HL.out, hd]; simp), HB.out⟩
set_option maxHeartbeats 1000000 in
theorem list74 (v : Av) (zs : List Int) (w : World) (h : Ints w w.heap.size v.A v.n zs) (hn : v.n ≤ 1000000) (b0 : Nat) (most : Int) (h0 : Blk w b0 3 #[.int .i64 most]) :
    Calls Tryz.prog 74 #[.agg v.cells, .pointer (some ⟨b0, 0, none⟩)] w fun e w' => e = .returned (.bool (decide ((zs.length : Int) ≤ most) && !(zs.any fun z => !inRange z))) ∧ Below w.heap.size w w' := by
  unfold Av.cells
  have hbel : Below w.heap.size w (w.alloc (.cells #[.int .i64 v.k, .int .i64 v.a, .int .i64 v.b, .string v.nm, .string v.mt, .slice v.A v.n v.c, .slice v.A2 v.n2 v.c2] 25)) := (Below.refl _ _).alloc (Nat.le_refl _) _
  have c5 : (w.alloc (.cells #[.int .i64 v.k, .int .i64 v.a, .int .i64 v.b, .string v.nm, .string v.mt, .slice v.A v.n v.c, .slice v.A2 v.n2 v.c2] 25)).cell? ⟨w.heap.size, 5, none⟩ = some (.slice v.A v.n v.c) := (Blk.new w 25 _).cell 5
  have c0 : (w.alloc (.cells #[.int .i64 v.k, .int .i64 v.a, .int .i64 v.b, .string v.nm, .string v.mt, .slice v.A v.n v.c, .slice v.A2 v.n2 v.c2] 25)).cell? ⟨b0, 0, none⟩ = some (.int .i64 most) := (h0.alloc _).cell 0
  have HI := Lib.hid (h.below hbel)
  have HL := Lib.hid h.len
  have HB := Lib.hid hbel
  clear h hbel h0
  by_cases hle : (v.n : Int) ≤ most
  all_goals
    go_enter Tryz.func74, Tryz.ntmps74
    go_upto_region 1 with (fail)
    generalize w.alloc (.cells #[.int .i64 v.k, .int .i64 v.a, .int .i64 v.b, .string v.nm, .string v.mt, .slice v.A v.n v.c, .slice v.A2 v.n2 v.c2] 25) = W at *
  · have hd : decide ((v.n : Int) ≤ most) = true := by simpa using hle
    go_wp2_with fail
    refine (cont75 _ _ _ zs _ _ HI.out hn).mono ?_
    rintro e w1 ⟨rfl, rfl⟩
    go_wp2_with fail
    go_ret
    exact ⟨ret_bool (by rw [HL.out, hd]; simp), HB.out⟩
  · have hd : decide ((v.n : Int) ≤ most) = false := by simpa using hle
    go_wp2_with fail
    go_ret
    exact ⟨ret_bool (by rw [HL.out, hd]; simp), HB.out⟩
theorem clear70 (L : Nat) (cs : Array Value) (w : World) (hL : Blk w L 25 cs) (hx : 6 < cs.size) :
    Calls Tryz.prog 70 #[.pointer (some ⟨L, 0, none⟩)] w fun e w' => e = .returned (.tuple #[]) ∧ w.setCell ⟨L, 6, none⟩ (.slice none 0 0) = w' := by
  obtain ⟨u, hu⟩ : ∃ u, w.cell? ⟨L, 6, none⟩ = some u := ⟨cs[6], by rw [hL.cell, Array.getElem?_eq_getElem hx]⟩
  have f0 := hL.frozen 6
  clear hL hx
  go_enter Tryz.func70, Tryz.ntmps70
  go_wp2
  go_end0
  exact ⟨rfl, rfl⟩
theorem clear77 (L : Nat) (cs : Array Value) (w : World) (hL : Blk w L 25 cs) (hx : 5 < cs.size) :
    Calls Tryz.prog 77 #[.pointer (some ⟨L, 0, none⟩)] w fun e w' => e = .returned (.tuple #[]) ∧ w.setCell ⟨L, 5, none⟩ (.slice none 0 0) = w' := by
  obtain ⟨u, hu⟩ : ∃ u, w.cell? ⟨L, 5, none⟩ = some u := ⟨cs[5], by rw [hL.cell, Array.getElem?_eq_getElem hx]⟩
  have f0 := hL.frozen 5
  clear hL hx
  go_enter Tryz.func77, Tryz.ntmps77
  go_wp2
  go_end0
  exact ⟨rfl, rfl⟩
end Go.Proofs.YtoejjboanggenaaGreatDoor
