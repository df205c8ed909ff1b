/-
Contract of scanners.
-/
import Derived.Test.YtoejjboanggenaaGreatDoorO
import Derived.Deep.DeepCutAuto
namespace Go.Proofs.YtoejjboanggenaaGreatDoor
open Go.RowKit
set_option linter.unusedVariables false
set_option linter.unusedSimpArgs false

def LETS : ByteArray := ⟨#[97, 98, 99, 100, 101, 102, 103, 104, 105, 106, 107, 108, 109, 110, 111, 112, 113, 114, 115, 116, 117, 118, 119, 120, 121, 122, 65, 66, 67, 68, 69, 70, 71, 72, 73, 74, 75, 76, 77, 78, 79, 80, 81, 82, 83, 84, 85, 86, 87, 88, 89, 90]⟩
def SYMS : ByteArray := ⟨#[33, 37, 40, 41, 42, 43, 44, 45, 46, 47, 59, 60, 61, 62, 123, 125]⟩
def table : List (Value × Value) := tab DIG.data.toList 111 ++ tab LETS.data.toList 112 ++ tab SYMS.data.toList 113
/-- the bytes of a list differ from the keys of a table. -/
def apart (l : List UInt8) (ks : List UInt8) : Bool := (List.range l.length).all fun k => match l[k]? with | some c => (ks ++ l.take k).all fun d => c != d | none => true
theorem apart_ok {l ks : List UInt8} (h : apart l ks = true) {kvs : List (Value × Value)} (hk : kvs.map Prod.fst = ks.map fun c => .int .u8 c.toNat) (f k : Nat) (c : UInt8) (hc : l[k]? = some c) :
    ∀ o ∈ kvs ++ tab (l.take k) f, Instr.sameNow (.int .u8) (.int .u8 c.toNat) o.1 = some false := by
  intro o ho
  unfold apart at h
  have h1 := List.all_eq_true.1 h k (List.mem_range.2 (List.getElem?_eq_some_iff.1 hc).1)
  rw [hc] at h1
  have hd : ∃ d ∈ ks ++ l.take k, o.1 = .int .u8 d.toNat := by
    rcases List.mem_append.1 ho with ho | ho
    · have : o.1 ∈ kvs.map Prod.fst := List.mem_map_of_mem ho
      rw [hk] at this
      obtain ⟨d, hd, he⟩ := List.mem_map.1 this
      exact ⟨d, List.mem_append_left _ hd, he.symm⟩
    · unfold tab at ho
      obtain ⟨d, hd, rfl⟩ := List.mem_map.1 ho
      exact ⟨d, List.mem_append_right _ hd, rfl⟩
  obtain ⟨d, hd, he⟩ := hd
  have h2 := List.all_eq_true.1 h1 d hd
  rw [he]
  have h3 : c.toNat ≠ d.toNat := fun e => by
    have : c = d := UInt8.toNat_inj.1 e
    subst this
    simp at h2
  simp [Instr.sameNow]
  omega
set_option maxHeartbeats 4000000 in
theorem scanners97 (w : World) : Calls Tryz.prog 97 #[] w fun e w' => ∃ m, e = .returned (.map (some m)) ∧ KMap w' m table ∧ w.heap.size ≤ m ∧ Below w.heap.size w w' := by
  have hs1 := fun b m w (hb : Blk w b 119 #[.map (some m)]) (hm : KMap w m []) (hn : b ≠ m) => set110 ⟨#[48, 49, 50, 51, 52, 53, 54, 55, 56, 57]⟩ 111 b m [] w (by decide) hb hm hn (apart_ok (ks := []) (by decide) rfl 111)
  have hs2 := fun b m w (hb : Blk w b 119 #[.map (some m)]) (hm : KMap w m (tab DIG.data.toList 111)) (hn : b ≠ m) => set110 ⟨#[97, 98, 99, 100, 101, 102, 103, 104, 105, 106, 107, 108, 109, 110, 111, 112, 113, 114, 115, 116, 117, 118, 119, 120, 121, 122, 65, 66, 67, 68, 69, 70, 71, 72, 73, 74, 75, 76, 77, 78, 79, 80, 81, 82, 83, 84, 85, 86, 87, 88, 89, 90]⟩ 112 b m _ w (by decide) hb hm hn (apart_ok (ks := DIG.data.toList) (by decide +kernel) (by unfold tab; simp only [List.map_map]; rfl) 112)
  have hs3 := fun b m w (hb : Blk w b 119 #[.map (some m)]) (hm : KMap w m (tab DIG.data.toList 111 ++ tab LETS.data.toList 112)) (hn : b ≠ m) => set110 ⟨#[33, 37, 40, 41, 42, 43, 44, 45, 46, 47, 59, 60, 61, 62, 123, 125]⟩ 113 b m _ w (by decide) hb hm hn (apart_ok (ks := DIG.data.toList ++ LETS.data.toList) (by decide +kernel) (by unfold tab; simp only [List.map_append, List.map_map]; rfl) 113)
  have hmk : ∀ w : World, (Instr.makeMap 119 none).run Tryz.prog w = .ok (.map (some w.heap.size)) (w.alloc (.map #[] 0)) := fun w => by kernel_rfl
  unfold fnv at hs1 hs2 hs3
  have H1 := Lib.hid hs1
  have H2 := Lib.hid hs2
  have H3 := Lib.hid hs3
  clear hs1 hs2 hs3
  go_enter Tryz.func97, Tryz.ntmps97
  go_upto_region 2 with (fail)
  obtain ⟨w0, hw0⟩ : ∃ w0, (w.alloc (.map #[] 0)).alloc (.cells #[.map (some w.heap.size)] 119) = w0 := ⟨_, rfl⟩
  have hb0 : Blk w0 (w.heap.size + 1) 119 #[.map (some w.heap.size)] := by
    have := Blk.new (w.alloc (.map #[] 0)) 119 #[.map (some w.heap.size)]
    rw [World.size_alloc, hw0] at this
    exact this
  have hm0 : KMap w0 w.heap.size [] := hw0 ▸ KMap.alloc (kvs := []) (show KMap (w.alloc (.map #[] 0)) w.heap.size [] from heap_alloc_new w _) _
  have bel0 : Below w.heap.size w w0 := hw0 ▸ ((Below.refl _ _).alloc (Nat.le_refl _) _).alloc (by simp) _
  rw [hw0]
  clear hw0 hmk
  obtain ⟨m, hm⟩ : ∃ m, w.heap.size = m := ⟨_, rfl⟩
  have HS := Lib.hid hm
  rw [hm] at hb0 hm0 bel0 ⊢
  clear hm
  have hne : m + 1 ≠ m := by omega
  have HB0 := Lib.hid hb0
  have HM0 := Lib.hid hm0
  have BEL0 := Lib.hid bel0
  clear hb0 hm0 bel0
  go_wp2_with fail
  refine (H1.out _ _ _ HB0.out HM0.out hne).mono ?_
  rintro e w1 ⟨rfl, hm1, hg1⟩
  have HB1 := Lib.hid (show Blk w1 (m + 1) 119 #[.map (some m)] from (hg1.block _ HB0.out.lt (by simp)).trans HB0.out)
  have HM1 := Lib.hid hm1
  have HG1 := Lib.hid hg1
  clear hm1 hg1 HB0 HM0
  go_wp2_with fail
  refine (H2.out _ _ _ HB1.out HM1.out hne).mono ?_
  rintro e w2 ⟨rfl, hm2, hg2⟩
  have HB2 := Lib.hid (show Blk w2 (m + 1) 119 #[.map (some m)] from (hg2.block _ HB1.out.lt (by simp)).trans HB1.out)
  have HM2 := Lib.hid hm2
  have HG2 := Lib.hid (HG1.out.trans hg2)
  clear hm2 hg2 HB1 HM1 HG1
  go_wp2_with fail
  refine (H3.out _ _ _ HB2.out HM2.out hne).mono ?_
  rintro e w3 ⟨rfl, hm3, hg3⟩
  have HB3 : Blk w3 (m + 1) 119 #[.map (some m)] := (hg3.block _ HB2.out.lt (by simp)).trans HB2.out
  have c3 : w3.cell? ⟨m + 1, 0, none⟩ = some (.map (some m)) := HB3.cell 0
  have HM3 := Lib.hid hm3
  have HG3 := Lib.hid (HG2.out.trans hg3)
  clear hm3 hg3 HB2 HM2 HG2
  go_wp2_with fail
  go_ret
  refine ⟨m, rfl, HM3.out, Nat.le_of_eq HS.out, HS.out ▸ BEL0.out.grown HG3.out (Nat.le_trans (Nat.le_of_eq HS.out.symm) BEL0.out.size) (fun r hr => by cases hr; exact Nat.le_refl _)⟩
end Go.Proofs.YtoejjboanggenaaGreatDoor
