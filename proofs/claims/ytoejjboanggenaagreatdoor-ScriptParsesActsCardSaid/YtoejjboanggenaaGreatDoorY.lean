/-
Contract of byWord: the forms by their words.
-/
import Derived.Test.YtoejjboanggenaaGreatDoorX
import Derived.Test.YtoejjboanggenaaGreatDoorO
namespace Go.Proofs.YtoejjboanggenaaGreatDoor
open Go.RowKit
set_option linter.unusedVariables false
set_option linter.unusedSimpArgs false

theorem und49 (w : World) : (underlying 49).run Tryz.prog w = .ok (.map 9 36) w := by kernel_rfl
theorem same_str (a b : ByteArray) : Instr.sameNow .string (.string a) (.string b) = some (a == b) := rfl
theorem same_str_ne {a b : ByteArray} (h : a ≠ b) : Instr.sameNow .string (.string a) (.string b) = some false := by
  rw [same_str]
  congr 1
  obtain ⟨a⟩ := a
  obtain ⟨b⟩ := b
  show (a == b) = false
  exact beq_eq_false_iff_ne.2 fun e => h (by rw [e])
theorem same_str_eq (a : ByteArray) : Instr.sameNow .string (.string a) (.string a) = some true := by
  rw [same_str]
  congr 1
  obtain ⟨a⟩ := a
  show (a == a) = true
  exact beq_self_eq_true a
theorem words_apart {i j : Nat} {f g : FD} (hf : formsFD[i]? = some f) (hg : formsFD[j]? = some g) (h : i < j) : f.word ≠ g.word := by
  have hj : j < 16 := (List.getElem?_eq_some_iff.1 hg).1
  intro e
  have h1 := formBy_nat (by omega : i ≤ 15) hf
  have h2 := formBy_nat (by omega : j ≤ 15) hg
  rw [e, h2] at h1
  simp only [Option.some.injEq] at h1
  subst h1
  obtain ⟨_, h3, h4⟩ := forms_at (by omega : i < 16)
  obtain ⟨_, h5, h6⟩ := forms_at hj
  rw [hf] at h3
  rw [hg] at h5
  simp only [Option.some.injEq] at h3 h5
  subst h3 h5
  omega
/-- what the map holds. -/
def formVal (fd : FD) (g : Nat) : Value := .agg #[.int .i64 fd.k, .string fd.word, .slice (some ⟨g, 0, none⟩) fd.pds.length fd.pds.length]
def WordMap (W : World) (B k : Nat) (kvs : List (Value × Value)) : Prop :=
  kvs.length = k ∧ ∀ i fd, i < k → formsFD[i]? = some fd → ∃ g, kvs[i]? = some (.string fd.word, formVal fd g) ∧ Parts W B g fd.pds
theorem cell_grown {w w' : World} {m b o : Nat} {kvs : List (Value × Value)} {v : Value} (hm : KMap w m kvs) (hg : w.grownBy w' (some m)) (h : w.cell? ⟨b, o, none⟩ = some v) : w'.cell? ⟨b, o, none⟩ = some v := by
  rw [← h]
  refine World.cell?_of_block (hg.block b ?_ ?_)
  · rcases Nat.lt_or_ge b w.heap.size with h1 | h1
    · exact h1
    · unfold World.cell? at h
      rw [show w.heap[b]? = none from Array.getElem?_eq_none h1] at h
      simp at h
  · intro e
    simp only [Option.some.injEq] at e
    subst e
    unfold World.cell? at h
    rw [show w.heap[b]? = _ from hm] at h
    simp at h
theorem blk_grown {w w' : World} {m b : Nat} {kvs : List (Value × Value)} {t : TypeId} {cs : Array Value} (hm : KMap w m kvs) (hg : w.grownBy w' (some m)) (h : Blk w b t cs) : Blk w' b t cs := by
  refine (hg.block b h.lt fun e => ?_).trans h
  simp only [Option.some.injEq] at e
  subst e
  unfold Blk at h
  rw [show w.heap[b]? = _ from hm] at h
  cases h
theorem Parts.grown {w w' : World} {m B g : Nat} {kvs : List (Value × Value)} {pds : List PD} (hm : KMap w m kvs) (hg : w.grownBy w' (some m)) (h : Parts w B g pds) : Parts w' B g pds :=
  ⟨h.1, fun i pd hp => by
    obtain ⟨vs, h1, h2⟩ := h.2 i pd hp
    exact ⟨vs, h1.keep fun b t cs _ hb => blk_grown hm hg hb, fun j v hv => cell_grown hm hg (h2 j v hv)⟩⟩
theorem WordMap.grown {w w' : World} {m B k : Nat} {kvs kvs' : List (Value × Value)} (hm : KMap w m kvs') (hg : w.grownBy w' (some m)) (h : WordMap w B k kvs) : WordMap w' B k kvs :=
  ⟨h.1, fun i fd hi hf => by
    obtain ⟨g, h1, h2⟩ := h.2 i fd hi hf
    exact ⟨g, h1, h2.grown hm hg⟩⟩
theorem WordMap.more {w : World} {B B' k : Nat} {kvs : List (Value × Value)} (h : WordMap w B k kvs) (hB : B ≤ B') : WordMap w B' k kvs :=
  ⟨h.1, fun i fd hi hf => by
    obtain ⟨g, h1, h2⟩ := h.2 i fd hi hf
    exact ⟨g, h1, h2.more hB⟩⟩
theorem WordMap.below {w w' : World} {B k : Nat} {kvs : List (Value × Value)} (h : WordMap w B k kvs) (hb : Below B w w') : WordMap w' B k kvs :=
  ⟨h.1, fun i fd hi hf => by
    obtain ⟨g, h1, h2⟩ := h.2 i fd hi hf
    exact ⟨g, h1, h2.below hb⟩⟩
theorem WordMap.snoc {w : World} {B k g : Nat} {kvs : List (Value × Value)} {fd : FD} (h : WordMap w B k kvs) (hf : formsFD[k]? = some fd) (hp : Parts w B g fd.pds) : WordMap w B (k + 1) (kvs ++ [(.string fd.word, formVal fd g)]) :=
  ⟨by rw [List.length_append, h.1]; rfl, fun i f hi hfi => by
    rcases Nat.lt_or_ge i k with h1 | h1
    · obtain ⟨g', h2, h3⟩ := h.2 i f h1 hfi
      exact ⟨g', by rw [List.getElem?_append_left (by rw [h.1]; exact h1)]; exact h2, h3⟩
    · obtain rfl : i = k := by omega
      rw [hf] at hfi
      simp only [Option.some.injEq] at hfi
      subst hfi
      exact ⟨g, by rw [List.getElem?_append_right (by rw [h.1]; exact Nat.le_refl _), h.1, Nat.sub_self]; rfl, hp⟩⟩
set_option maxRecDepth 100000 in
set_option maxHeartbeats 8000000 in
theorem byWord17 (w : World) : Calls Tryz.prog 17 #[] w fun e w' => ∃ m kvs, e = .returned (.map (some m)) ∧ KMap w' m kvs ∧ WordMap w' w'.heap.size 16 kvs ∧ m < w'.heap.size ∧ Below w.heap.size w w' := by
  have hmk : ∀ w : World, (Instr.makeMap 49 none).run Tryz.prog w = .ok (.map (some w.heap.size)) (w.alloc (.map #[] 0)) := fun w => by kernel_rfl
  go_enter Tryz.func17, Tryz.ntmps17
  go_upto_region 2 with (fail)
  have hm0 : KMap (w.alloc (.map #[] 0)) w.heap.size [] := heap_alloc_new w _
  have bel0 : Below w.heap.size w (w.alloc (.map #[] 0)) := (Below.refl _ _).alloc (Nat.le_refl _) _
  generalize w.alloc (.map #[] 0) = w0 at hm0 bel0 ⊢
  obtain ⟨m, hm⟩ : ∃ m, w.heap.size = m := ⟨_, rfl⟩
  rw [hm] at hm0 ⊢
  have HS := Lib.hid hm
  have HM0 := Lib.hid hm0
  have B0 := Lib.hid bel0
  clear hm hm0 bel0 hmk
  go_wp2_with fail
  refine (forms27 _).mono ?_
  rintro e w1 ⟨g, rfl, hf1, b1⟩
  have HF1 := Lib.hid hf1
  have HM1 := Lib.hid (HM0.out.below b1 HM0.out.lt)
  have B1 := Lib.hid (B0.out.trans (b1.mono B0.out.size))
  have hm1 := HM1.out.lt
  clear HM0 B0 b1 hf1
  go_wp2_with fail
  go_loopw [7] (fun i wr => ∃ (k : Nat) (kvs : List (Value × Value)), k ≤ 16 ∧ i = .int .i64 k ∧ Hid (KMap wr m kvs) ∧ Hid (w1.grownBy wr (some m)) ∧ Hid (WordMap wr wr.heap.size k kvs) ∧ Hid (∀ (t : Nat) (o : Value × Value), kvs[t]? = some o → ∃ (fd : FD) (v : Value), formsFD[t]? = some fd ∧ o = (Value.string fd.word, v))) (fun i _ => 16 - (intOf i).toNat)
  case atStart => exact ⟨0, [], Nat.zero_le _, rfl, HM1, Lib.hid (World.grownBy.refl _ _), Lib.hid ⟨rfl, fun i fd hi => absurd hi (Nat.not_lt_zero _)⟩, Lib.hid fun t o h => by simp at h⟩
  case round =>
    obtain ⟨k, kvs, hk, rfl, HM, HG, HW, HK⟩ := hrel
    by_cases hlt : k < 16
    · obtain ⟨fd, g2, h1, h2, h3, a0, a1, a2⟩ := HF1.out.at_ hlt
      have a0' := cell_grown HM1.out HG.out a0
      have a1' := cell_grown HM1.out HG.out a1
      have a2' := cell_grown HM1.out HG.out a2
      have hk0 : 0 ≤ (k : Int) := by omega
      have hk1 : (k : Int) < 16 := by omega
      have HFD := Lib.hid (And.intro h1 h2)
      have HP := Lib.hid (h3.grown HM1.out HG.out)
      clear a0 a1 a2 h1 h2 h3
      go_upto_region 5 with fail
      obtain ⟨w3, hw3⟩ : ∃ w3, wr.alloc (.cells #[.int .i64 (k : Int), .string fd.word, .slice (some ⟨g2, 0, none⟩) fd.pds.length fd.pds.length] 36) = w3 := ⟨_, rfl⟩
      have hb3 : Below wr.heap.size wr w3 := hw3 ▸ (Below.refl _ _).alloc (Nat.le_refl _) _
      have hq3 := hw3 ▸ Blk.new wr 36 #[.int .i64 (k : Int), .string fd.word, .slice (some ⟨g2, 0, none⟩) fd.pds.length fd.pds.length]
      have hm3 : KMap w3 m kvs := HM.out.below hb3 HM.out.lt
      rw [hw3]
      obtain ⟨w4, hup, hm4, hg4⟩ := kupdate und49 und9 hm3 (.string fd.word) (.agg #[.int .i64 (k : Int), .string fd.word, .slice (some ⟨g2, 0, none⟩) fd.pds.length fd.pds.length]) (fun em w => check9 em _ w) (fun o ho => by
        obtain ⟨t, ht⟩ := List.mem_iff_getElem?.1 ho
        obtain ⟨f2, v2, h1, rfl⟩ := HK.out t o ht
        have hl := (List.getElem?_eq_some_iff.1 ht).1
        rw [HW.out.1] at hl
        exact same_str_ne (words_apart h1 HFD.out.1 hl).symm)
      have HM4 := Lib.hid hm4
      have HG4 := Lib.hid (show w1.grownBy w4 (some m) from (HG.out.trans ⟨hb3.os, hb3.tape, hb3.output, hb3.size, fun b hb _ => hb3.block b hb⟩).trans hg4)
      have HW4 := Lib.hid (show WordMap w4 w4.heap.size (k + 1) (kvs ++ [(.string fd.word, formVal fd g2)]) from (((HW.out.below hb3).more (Nat.le_trans hb3.size hg4.size)).grown hm3 hg4).snoc HFD.out.1 ((((HP.out.below (hb3.mono HG.out.size)).grown hm3 hg4)).more (Nat.le_trans HG.out.size (Nat.le_trans hb3.size hg4.size))))
      have n0 : w3.cell? ⟨wr.heap.size, 0, none⟩ = some (.int .i64 (k : Int)) := Blk.cell hq3 0
      have n1 : w3.cell? ⟨wr.heap.size, 1, none⟩ = some (.string fd.word) := Blk.cell hq3 1
      have n2 : w3.cell? ⟨wr.heap.size, 2, none⟩ = some (.slice (some ⟨g2, 0, none⟩) fd.pds.length fd.pds.length) := Blk.cell hq3 2
      clear hw3 hb3 hq3 hm3 hm4 hg4
      go_wp2_with fail
      go_roundw
      case rel =>
        refine ⟨k + 1, kvs ++ [(.string fd.word, formVal fd g2)], by omega, by go_num, ?_, HG4, HW4, ?_⟩
        · unfold formVal
          rw [HFD.out.2]
          exact HM4
        · refine Lib.hid fun t o ht => ?_
          rcases Nat.lt_or_ge t kvs.length with h1 | h1
          · rw [List.getElem?_append_left h1] at ht
            exact HK.out t o ht
          · rw [List.getElem?_append_right h1] at ht
            have h2 := (List.getElem?_eq_some_iff.1 ht).1
            simp only [List.length_singleton] at h2
            have h3 : t = k := by have := HW.out.1; omega
            rw [show t - kvs.length = 0 by omega] at ht
            simp only [List.getElem?_cons_zero, Option.some.injEq] at ht
            exact ⟨fd, _, by rw [h3]; exact HFD.out.1, ht.symm⟩
      case measure => simp [intOf]; omega
    · obtain rfl : k = 16 := by omega
      go_wp2_with fail
      go_ret
      have hz := HG.out.size
      have hm := HM.out.lt
      exact ⟨m, kvs, rfl, HM.out, HW.out, HM.out.lt, B1.out.grown HG.out B1.out.size (fun r hr => by cases hr; exact Nat.le_of_eq HS.out)⟩
end Go.Proofs.YtoejjboanggenaaGreatDoor
