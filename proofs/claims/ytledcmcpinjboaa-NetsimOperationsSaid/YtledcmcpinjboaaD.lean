/-
Contracts: slices.Delete and slices.DeleteFunc on packets.
-/
import Derived.Test.YtledcmcpinjboaaC
import Derived.Deep.MidRow
import Derived.Deep.RegionLaw
import Derived.Lib.SliceRun
namespace Go.Proofs.Ytledcmcpinjboaa
open Go.RowKit
set_option linter.unusedVariables false

def setL : List Value → Nat → List Value → List Value
  | xs, _, [] => xs
  | xs, o, v :: vs => setL (xs.set o v) (o + 1) vs
theorem setL_app : ∀ (vs a b : List Value) (o : Nat), setL (a ++ b) (a.length + o) vs = a ++ setL b o vs
  | [], a, b, o => rfl
  | v :: vs, a, b, o => by
    rw [setL, setL, List.set_append_right _ _ (by omega), Nat.add_sub_cancel_left, Nat.add_assoc]
    exact setL_app vs a (b.set o v) (o + 1)
theorem setL_zero : ∀ (vs b : List Value), vs.length ≤ b.length → setL b 0 vs = vs ++ b.drop vs.length
  | [], b, _ => rfl
  | v :: vs, [], h => by simp at h
  | v :: vs, x :: b, h => by
    have h1 := setL_app vs [v] b 0
    rw [setL, List.set_cons_zero]
    simp only [List.length_cons, List.length_nil, Nat.zero_add, List.cons_append, List.nil_append, Nat.add_zero] at h1
    rw [h1, setL_zero vs b (by simpa using h)]; rfl
theorem setL_eq (vs xs : List Value) (o : Nat) (h : o + vs.length ≤ xs.length) : setL xs o vs = xs.take o ++ (vs ++ xs.drop (o + vs.length)) := by
  have h1 := setL_app vs (xs.take o) (xs.drop o) 0
  rw [List.take_append_drop, List.length_take, Nat.min_eq_left (by omega), Nat.add_zero] at h1
  rw [h1, setL_zero vs _ (by simp; omega), List.drop_drop]
theorem own_setCells {B g n cap : Nat} : ∀ (vs xs : List Value) (o : Nat) (W : World), W.ownsRow B 31 4 (.slice (some ⟨g, 0, none⟩) n cap) n xs →
    (W.setCells g o vs).ownsRow B 31 4 (.slice (some ⟨g, 0, none⟩) n cap) n (setL xs o vs) ∧ W.grownBy (W.setCells g o vs) (some g)
  | [], xs, o, W, h => ⟨h, World.grownBy.refl W _⟩
  | v :: vs, xs, o, W, h => by
    obtain ⟨h1, h2⟩ := h.stored o v
    obtain ⟨h3, h4⟩ := own_setCells vs _ (o + 1) _ h1
    exact ⟨h3, h2.trans h4⟩
theorem own_shrink {B g n m cap : Nat} {xs : List Value} {W : World} (h : W.ownsRow B 31 4 (.slice (some ⟨g, 0, none⟩) n cap) n xs) (hm : m ≤ n) : W.ownsRow B 31 4 (.slice (some ⟨g, 0, none⟩) m cap) m (xs.take (m * 4)) := by
  rcases h.2 with ⟨h', _⟩ | ⟨g', cap', cur, h', hb, hg, hnc, hcm, hcs, htake⟩
  · simp at h'
  · simp only [Value.slice.injEq, Option.some.injEq, Addr.mk.injEq, and_true, true_and] at h'
    obtain ⟨rfl, rfl⟩ := h'
    refine ⟨by rw [List.length_take, h.1]; omega, .inr ⟨g, cap, cur, rfl, hb, hg, by omega, hcm, hcs, ?_⟩⟩
    rw [← htake, List.take_take, Nat.min_eq_left (by omega)]
theorem own_cap {B g n cap : Nat} {xs : List Value} {W : World} (h : W.ownsRow B 31 4 (.slice (some ⟨g, 0, none⟩) n cap) n xs) : n ≤ cap ∧ cap ≤ 9223372036854775807 := by
  rcases h.2 with ⟨h', _⟩ | ⟨g', cap', cur, h', hb, hg, hnc, hcm, hcs, htake⟩
  · simp at h'
  · simp only [Value.slice.injEq, Option.some.injEq, Addr.mk.injEq, and_true, true_and] at h'
    obtain ⟨rfl, rfl⟩ := h'
    unfold maxLen at hcm
    exact ⟨hnc, hcm⟩
theorem own_drew {B : Nat} {v : Value} {n : Nat} {xs : List Value} {W : World} (h : W.ownsRow B 31 4 v n xs) : W.drew.ownsRow B 31 4 v n xs := h.kept (row := none) ⟨rfl, rfl, rfl, Nat.le_refl _, fun _ _ _ => rfl⟩ (by cases v.ownBlock <;> simp)
theorem there_own {W : World} {B g n cap o m : Nat} {xs : List Value} (h : W.ownsRow B 31 4 (.slice (some ⟨g, 0, none⟩) n cap) n xs) (hk : o + m ≤ n * 4) : W.there g o m := by
  intro j hj
  have hl := h.1
  refine ⟨?_, h.frozenAt _⟩
  rw [h.cellAt _ (by omega), List.getElem?_eq_getElem (by omega)]; rfl
def zero31 : Value := .agg #[.int .i64 0, .int .i64 0, .int .i64 0, .slice none 0 0]
def zeros (n : Nat) : List Value := (Builtin.zeroCells zero31.cells n).toList
theorem zeros_length (n : Nat) : (zeros n).length = n * 4 := by
  unfold zeros; rw [Array.length_toList, size_zeroCells]; rfl
theorem zeros_one (n : Nat) : ∀ v ∈ zeros n, v.oneCell' = true := by
  intro v hv
  unfold zeros Builtin.zeroCells at hv
  simp at hv
  obtain ⟨a, ha, rfl⟩ := hv
  have : a % zero31.cells.size < 4 := Nat.mod_lt _ (by decide)
  generalize a % zero31.cells.size = i at *
  rcases i with _ | _ | _ | _ | i
  · rfl
  · rfl
  · rfl
  · rfl
  · omega
theorem run_clear4 (w : World) (ty : TypeId) (b o n c : Nat) (hn : 0 < n) (h : w.there b o (n * 4)) :
    (Builtin.clear_ #[28] ty #[.slice (some ⟨b, o, none⟩) n c]).run Try.prog w = .ok (.tuple #[]) (w.setCells b o (zeros n)) := by
  have hst := run_storeCells_cells (P := Try.prog) b o (zeros n) 0 w (by rw [zeros_length]; intro j hj; simpa using (h j hj).1) (by rw [zeros_length]; intro j hj; simpa using (h j hj).2) (zeros_one n)
  simp only [Nat.add_zero] at hst
  have hz : (zeroValue 31).run Try.prog w = .ok zero31 w := by kernel_rfl
  obtain ⟨m, rfl⟩ : ∃ m, n = m + 1 := ⟨n - 1, by omega⟩
  have hst' : (storeCells ⟨b, o, none⟩ (Builtin.zeroCells zero31.cells (m + 1)).toList).run Try.prog w = .ok () (w.setCells b o (zeros (m + 1))) := hst
  simp [Builtin.clear_, run_underlying Try.underlying28, hz, hst']

theorem erase_eq (ps : List Pk) (k : Nat) (hk : k < ps.length) : (setL (setL (ps.flatMap Pk.enc) (k * 4) ((ps.drop (k + 1)).flatMap Pk.enc)) ((ps.length - 1) * 4) (zeros 1)).take ((ps.length - 1) * 4) = (ps.eraseIdx k).flatMap Pk.enc := by
  have hl := length_enc ps
  have hl2 := length_enc (ps.drop (k + 1))
  rw [List.length_drop] at hl2
  have e1 := setL_eq ((ps.drop (k + 1)).flatMap Pk.enc) (ps.flatMap Pk.enc) (k * 4) (by omega)
  have hz := zeros_length 1
  have hlen1 : (setL (ps.flatMap Pk.enc) (k * 4) ((ps.drop (k + 1)).flatMap Pk.enc)).length = ps.length * 4 := by
    rw [e1]; simp only [List.length_append, List.length_take, List.length_drop, hl, hl2]; omega
  rw [setL_eq _ _ _ (by omega), List.take_left' (by rw [List.length_take, hlen1]; omega), e1]
  have h1 : (ps.flatMap Pk.enc).take (k * 4) = (ps.take k).flatMap Pk.enc := by
    conv => lhs; rw [← List.take_append_drop k ps, List.flatMap_append]
    rw [List.take_left' (by rw [length_enc, List.length_take]; omega)]
  rw [h1, ← List.append_assoc, List.take_left' (by rw [List.length_append, length_enc, hl2, List.length_take]; omega), List.eraseIdx_eq_take_drop_succ, List.flatMap_append]

set_option maxHeartbeats 2000000 in
theorem delete30 (B g cap k : Nat) (ps : List Pk) (w : World) (h : w.ownsRow B 31 4 (.slice (some ⟨g, 0, none⟩) ps.length cap) ps.length (ps.flatMap Pk.enc)) (hk : k < ps.length) (hp : ps.length ≤ 1000000) :
    Calls Try.prog 30 #[.slice (some ⟨g, 0, none⟩) ps.length cap, .int .i64 k, .int .i64 ((k : Int) + 1)] w fun e w' => e = .returned (.slice (some ⟨g, 0, none⟩) (ps.length - 1) cap) ∧
      w'.ownsRow B 31 4 (.slice (some ⟨g, 0, none⟩) (ps.length - 1) cap) (ps.length - 1) ((ps.eraseIdx k).flatMap Pk.enc) ∧ w.grownBy w' (some g) := by
  obtain ⟨i0, hi, hz0, hz1, hz2⟩ := info_parts info31
  obtain ⟨hcap, hm⟩ := own_cap h
  have hk0 : 0 ≤ (k : Int) := by omega
  have hk1 : (k : Int) + 1 ≤ ps.length := by omega
  have hne : ((k : Int) == (k : Int) + 1) = false := by simp; omega
  obtain ⟨news, hnews⟩ : ∃ news, news = (ps.drop (k + 1)).flatMap Pk.enc := ⟨_, rfl⟩
  have hlen : news.length = (ps.length - (k + 1)) * 4 := by rw [hnews, length_enc, List.length_drop]
  have hget : ∀ t u, news[t]? = some u → w.cell? ⟨g, (k + 1) * 4 + t, none⟩ = some u := by
    intro t u hu
    have ht := (List.getElem?_eq_some_iff.1 hu).1
    rw [hlen] at ht
    rw [h.cellAt _ (by omega)]
    have e2 : ps.flatMap Pk.enc = (ps.take (k + 1)).flatMap Pk.enc ++ news := by
      rw [hnews, ← List.flatMap_append, List.take_append_drop]
    rw [e2, List.getElem?_append_right (by rw [length_enc, List.length_take]; omega), length_enc, List.length_take, Nat.min_eq_left (by omega), Nat.add_sub_cancel_left]
    exact hu
  obtain ⟨A, hA, hsrc⟩ : ∃ A : Addr, (if cap = k + 1 then some (⟨g, 0, none⟩ : Addr) else some ⟨g, (k + 1) * 4, none⟩) = some A ∧ Hid (∀ t u, news[t]? = some u → w.drew.cell? (A.add t) = some u) := by
    by_cases hc : cap = k + 1
    · refine ⟨⟨g, 0, none⟩, by simp [hc], fun t u hu => ?_⟩
      have h0 : news.length = 0 := by rw [hlen]; omega
      rw [List.length_eq_zero_iff.1 h0] at hu
      simp at hu
    · refine ⟨⟨g, (k + 1) * 4, none⟩, by simp [hc], fun t u hu => ?_⟩
      rw [show ((⟨g, (k + 1) * 4, none⟩ : Addr).add t) = ⟨g, (k + 1) * 4 + t, none⟩ from by unfold Addr.add; split <;> simp_all]
      exact hget t u hu
  have s1 := Lib.hid hlen
  have s2 : Hid (∀ u ∈ news, u.oneCell' = true) := by rw [hnews]; exact oneCell_enc _
  have s3 : Hid (∀ t, t < news.length → (w.drew.cell? ⟨g, 0 + k * 4 + t, none⟩).isSome = true ∧ w.drew.frozen? ⟨g, 0 + k * 4 + t, none⟩ = false) := by
    intro t ht
    rw [hlen] at ht
    rw [Nat.zero_add]
    exact (there_own (own_drew h) (o := k * 4) (m := news.length) (by omega)) t (by omega)
  obtain ⟨h4, g4⟩ := own_setCells news _ (0 + k * 4) _ (own_drew h)
  obtain ⟨W1, hW1⟩ : ∃ W1, W1 = w.drew.setCells g (0 + k * 4) news := ⟨_, rfl⟩
  rw [← hW1] at h4 g4
  have hcl : ∀ ty c, (Builtin.clear_ #[28] ty #[.slice (some ⟨g, (ps.length - 1) * 4, none⟩) (ps.length - (ps.length - 1)) c]).run Try.prog W1 = .ok (.tuple #[]) (W1.setCells g ((ps.length - 1) * 4) (zeros 1)) :=
    fun ty c => by rw [show ps.length - (ps.length - 1) = 1 from by omega]; exact run_clear4 W1 ty g _ 1 c (by omega) (there_own h4 (by omega))
  obtain ⟨h5, g5⟩ := own_setCells (zeros 1) _ ((ps.length - 1) * 4) _ h4
  have h6 := own_shrink h5 (m := ps.length - 1) (by omega)
  have he := erase_eq ps k hk
  rw [Nat.zero_add, hnews, he] at h6
  have H6 := Lib.hid h6
  have HW := Lib.hid hW1
  have G6 := Lib.hid (show w.grownBy (W1.setCells g ((ps.length - 1) * 4) (zeros 1)) (some g) from (show w.grownBy W1 (some g) from ⟨g4.os, g4.tape, g4.output, g4.size, g4.block⟩).trans g5)
  have hl1 : k + (ps.length - (k + 1)) = ps.length - 1 := by omega
  have HL1 := Lib.hid hl1
  have hkc : k ≤ cap := by omega
  have hkc1 : (k : Int) + 1 ≤ cap := by omega
  have hk2 : 0 ≤ (k : Int) + 1 := by omega
  clear h4 g4 h5 g5 h6 he hW1 hl1 hget hnews hlen h
  go_enter Try.func30, Try.ntmps30
  go_wp2_with fail
  go_region_law (refine step_append_room rfl (.tmp 22) (.tmp 25) 28 rfl 31 i0 4 Try.underlying28 hi hz1 g 0 k cap (by simp [Act.eval, Act.put]) A (ps.length - (k + 1)) (cap - (k + 1)) news (by simp [Act.eval, Act.put]) s1.out hsrc.out s2.out (by omega) s3.out ?_; rw [← HW.out, HL1.out])
  go_wp2_with fail
  go_ret
  exact ⟨rfl, H6.out, G6.out⟩
end Go.Proofs.Ytledcmcpinjboaa
