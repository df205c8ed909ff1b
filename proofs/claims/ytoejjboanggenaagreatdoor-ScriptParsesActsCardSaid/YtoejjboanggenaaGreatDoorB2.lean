/-
Contracts of the reference's small functions: SameAct.
-/
import Derived.Test.YtoejjboanggenaaGreatDoorB
namespace Go.Proofs.YtoejjboanggenaaGreatDoor
open Go.RowKit
set_option linter.unusedVariables false

def sameActB (d e : Ad) : Bool := decide (d.k = e.k) && decide (d.a = e.a) && decide (d.b = e.b) && decide (d.nm.toList = e.nm.toList) && decide (d.mt.toList = e.mt.toList) && decide (d.args = e.args) && decide (d.surv = e.surv)
theorem ba_ext {x y : ByteArray} (h : x.toList = y.toList) : x = y := by
  rw [ByteArray.toList_eq, ByteArray.toList_eq] at h
  exact Go.WideShapes.bytes_inj h
theorem below_drewN {B : Nat} {a w : World} (h : Below B a w) (n : Nat) : Below B a (w.drewN n) := ⟨h.os, h.tape, h.output, h.size, h.block⟩
set_option maxHeartbeats 4000000 in
theorem sameAct10 (v v2 : Av) (d e : Ad) (B : Nat) (w : World) (h : Reads w B v d) (h2 : Reads w B v2 e) (hB : B ≤ w.heap.size) (hn : v.n ≤ 1000000) (hn2 : v.n2 ≤ 1000000) (hm : v2.n ≤ 1000000) (hm2 : v2.n2 ≤ 1000000) :
    Calls Tryz.prog 10 #[.agg v.cells, .agg v2.cells] w fun r w' => r = .returned (.bool (sameActB d e)) ∧ Below w.heap.size w w' := by
  obtain ⟨k, a, b, nm, mt, zs, ys⟩ := d
  obtain ⟨k', a', b', nm', mt', A, n, c, A2, n2, c2⟩ := v
  obtain ⟨h1, h2', h3, h4, h5, ha, hs⟩ := h
  dsimp only at h1 h2' h3 h4 h5 ha hs hn hn2
  subst h1 h2' h3 h4 h5
  obtain ⟨k, a, b, nm, mt, zs2, ys2⟩ := e
  obtain ⟨l', p', q', om', nt', A', m, c', A2', m2, c2'⟩ := v2
  obtain ⟨h1, h2', h3, h4, h5, ha2, hs2⟩ := h2
  dsimp only at h1 h2' h3 h4 h5 ha2 hs2 hm hm2
  subst h1 h2' h3 h4 h5
  unfold Av.cells
  dsimp only
  have hl := ha.len
  have hl2 := ha2.len
  by_cases hall : k' = l' ∧ a' = p' ∧ b' = q' ∧ nm' = om' ∧ mt' = nt' ∧ n = m
  · obtain ⟨rfl, rfl, rfl, rfl, rfl, rfl⟩ := hall
    have HL := Lib.hid (And.intro hl hl2)
    clear hl hl2
    go_enter Tryz.func10, Tryz.ntmps10
    go_wp2
    have b0 := (Blk.new w 25 #[.int .i64 k', .int .i64 a', .int .i64 b', .string nm', .string mt', .slice A n c, .slice A2 n2 c2]).alloc (.cells #[.int .i64 k', .int .i64 a', .int .i64 b', .string nm', .string mt', .slice A' n c', .slice A2' m2 c2'] 25)
    have b1 := Blk.new (w.alloc (.cells #[.int .i64 k', .int .i64 a', .int .i64 b', .string nm', .string mt', .slice A n c, .slice A2 n2 c2] 25)) 25 #[.int .i64 k', .int .i64 a', .int .i64 b', .string nm', .string mt', .slice A' n c', .slice A2' m2 c2']
    rw [World.size_alloc] at b1
    have hbel : Below w.heap.size w ((w.alloc (.cells #[.int .i64 k', .int .i64 a', .int .i64 b', .string nm', .string mt', .slice A n c, .slice A2 n2 c2] 25)).alloc (.cells #[.int .i64 k', .int .i64 a', .int .i64 b', .string nm', .string mt', .slice A' n c', .slice A2' m2 c2'] 25)) := ((Below.refl _ _).alloc (Nat.le_refl _) _).alloc (by simp) _
    generalize (w.alloc (.cells #[.int .i64 k', .int .i64 a', .int .i64 b', .string nm', .string mt', .slice A n c, .slice A2 n2 c2] 25)).alloc (.cells #[.int .i64 k', .int .i64 a', .int .i64 b', .string nm', .string mt', .slice A' n c', .slice A2' m2 c2'] 25) = W at *
    have x5 : W.cell? ⟨w.heap.size, 5, none⟩ = some (.slice A n c) := b0.cell 5
    have x6 : W.cell? ⟨w.heap.size, 6, none⟩ = some (.slice A2 n2 c2) := b0.cell 6
    have y5 : W.cell? ⟨w.heap.size + 1, 5, none⟩ = some (.slice A' n c') := b1.cell 5
    have y6 : W.cell? ⟨w.heap.size + 1, 6, none⟩ = some (.slice A2' m2 c2') := b1.cell 6
    have ga := ha.below (hbel.mono hB)
    have ga2 := ha2.below (hbel.mono hB)
    have gs := hs.below (hbel.mono hB)
    have gs2 := hs2.below (hbel.mono hB)
    clear b0 b1
    have HBEL := Lib.hid hbel
    clear hbel
    go_loopw [5] (fun i wr => ∃ k q : Nat, k ≤ n ∧ i = .int .i64 k ∧ wr = W.drewN q ∧ Hid (∀ j, j < k → zs[j]? = zs2[j]?)) (fun i _ => n - (intOf i).toNat)
    case atStart => exact ⟨0, 0, Nat.zero_le _, rfl, rfl, Lib.hid (fun j hj => by omega)⟩
    case round =>
      obtain ⟨k, q, hk, rfl, rfl, HA⟩ := hrel
      by_cases hlt : k < n
      · obtain ⟨b, off, x, rfl, _, hx, hc⟩ := ga.at_ hlt
        obtain ⟨b2, off2, y, rfl, _, hy, hc2⟩ := ga2.at_ hlt
        have hk0 : 0 ≤ (k : Int) := by omega
        have hk1 : (k : Int) < n := by omega
        have HX := Lib.hid (And.intro hx hy)
        clear hx hy
        by_cases hxy : x = y
        · subst hxy
          go_wp2
          go_quiet (fail)
          go_wp2
          go_roundw
          case rel => exact ⟨k + 1, q + nq, by omega, by go_num, by simp, Lib.hid (fun j hj => by
            rcases Nat.lt_or_ge j k with h1 | h1
            · exact HA.out j h1
            · obtain rfl : j = k := by omega
              rw [HX.out.1, HX.out.2])⟩
          case measure => simp [intOf]; omega
        · have hne : (x != y) = true := by simpa using hxy
          go_wp2
          go_quiet (fail)
          go_wp2
          go_ret
          refine ⟨ret_bool ?_, (below_drewN (below_drewN HBEL.out q) nq)⟩
          have hzz : zs ≠ zs2 := by
            intro e; subst e
            have h1 := HX.out
            rw [h1.1] at h1; simp at h1; exact hxy h1
          simp [sameActB, hzz]
      · obtain rfl : k = n := by omega
        have hz : zs = zs2 := by
          apply List.ext_getElem?
          intro j
          rcases Nat.lt_or_ge j k with h1 | h1
          · exact HA.out j h1
          · rw [List.getElem?_eq_none (by rw [HL.out.1]; omega), List.getElem?_eq_none (by rw [HL.out.2]; omega)]
        have HZ := Lib.hid hz
        clear hz
        go_wp2_with fail
        refine (same24 _ _ _ _ _ _ ys ys2 B _ (gs.below (below_drewN (Below.refl _ _) _)) (gs2.below (below_drewN (Below.refl _ _) _)) hn2 hm2).mono ?_
        rintro r w1 ⟨rfl, q2, rfl⟩
        go_wp2
        go_ret
        refine ⟨ret_bool ?_, by first | exact below_drewN HBEL.out _ | exact below_drewN (below_drewN HBEL.out q) q2⟩
        simp [sameActB, HZ.out]
  · have HALL := Lib.hid hall
    have HL := Lib.hid (show n ≠ m → zs ≠ zs2 from fun hnm e => hnm (by rw [← hl, ← hl2, e]))
    clear hall hl hl2
    go_enter Tryz.func10, Tryz.ntmps10
    go_wp2
    all_goals first
      | (go_ret
         refine ⟨ret_bool ?_, ((Below.refl _ _).alloc (Nat.le_refl _) _).alloc (by simp) _⟩
         first
         | (have h9 : ((n : Int) != (m : Int)) = true := by assumption
            have h0 := HL.out (fun e => by subst e; simp at h9)
            simp [sameActB, h0])
         | (simp only [sameActB]; simp [*]))
      | (have h9 : ((n : Int) != (m : Int)) = false := by assumption
         exact absurd ⟨by assumption, by assumption, by assumption, ba_ext (by assumption), ba_ext (by assumption), by have h8 : (n : Int) = (m : Int) := (by simpa using h9); omega⟩ HALL.out)
end Go.Proofs.YtoejjboanggenaaGreatDoor
