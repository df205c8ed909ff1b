/-
Contracts of the lexer's small functions: run, skip, IsKeyword, name, symbol, number.
-/
import Derived.Test.YtoejjboanggenaaGreatDoorJ
import Derived.Test.YtoejjboanggenaaGreatDoorB2
import Derived.Shelf.Strings.SlTrimAscii
import Derived.Shelf.Spec.SearchS
namespace Go.Proofs.YtoejjboanggenaaGreatDoor
open Go.RowKit
set_option linter.unusedVariables false
set_option linter.unusedSimpArgs false

/-- a string without the leading bytes of a set. -/
def trimB (s set : ByteArray) : ByteArray := ⟨(Lib.trimLeftS s.data.toList set.data.toList).toArray⟩
theorem trimLeftS_le (l cs : List UInt8) : (Lib.trimLeftS l cs).length ≤ l.length := by
  unfold Lib.trimLeftS
  exact List.Sublist.length_le (List.dropWhile_sublist _)
theorem trimB_le (s set : ByteArray) : (trimB s set).size ≤ s.size := by
  have := trimLeftS_le s.data.toList set.data.toList
  change (Lib.trimLeftS s.data.toList set.data.toList).length ≤ s.data.toList.length
  exact this
def asciiB (set : ByteArray) : Bool := set.data.toList.all fun b => decide (b.toNat < 128)
theorem trim114 (s set : ByteArray) (h : asciiB set = true) (hz : set.size < 1000) (w : World) : Calls Tryz.prog 114 #[.string s, .string set] w fun e w' => e = .returned (.string (trimB s set)) ∧ Below w.heap.size w w' :=
  Any.strings_TrimLeft_laid Tryz.lays161 (by kernel_rfl) s set w (by omega) (ascii_of_all h)
/-- the longest prefix of bytes of a set. -/
def runB (s set : ByteArray) : ByteArray := s.extract 0 (s.size - (trimB s set).size)
set_option maxHeartbeats 2000000 in
theorem run126 (s set : ByteArray) (h : asciiB set = true) (hz : set.size < 1000) (hs : s.size ≤ 1000000) (w : World) : Calls Tryz.prog 126 #[.string s, .string set] w fun e w' => e = .returned (.string (runB s set)) ∧ Below w.heap.size w w' := by
  have hT := Lib.hid (trim114 s set h hz)
  have hl := trimB_le s set
  unfold runB
  generalize trimB s set = r at hT hl ⊢
  obtain ⟨k, hk⟩ : ∃ k, s.size - r.size = k := ⟨_, rfl⟩
  have hk' : ((s.size : Int) - (r.size : Int)) = (k : Int) := by omega
  have hk2 : k ≤ s.size := by omega
  clear h
  go_enter Tryz.func126, Tryz.ntmps126
  go_wp2_with (go_at_call 114; refine (hT.out _).mono ?_; rintro e w' ⟨rfl, hB⟩)
  go_ret
  exact ⟨by rw [hk]; rfl, hB⟩
/-- is a string a keyword? By a binary search over the table. -/
theorem bs_kw (s : ByteArray) : decide (Lib.bsGo (fun t => Op.bytesLess (kwL.getD t ByteArray.empty).toList s.toList) 24 0 24 < 24 ∧ kwL.getD (Lib.bsGo (fun t => Op.bytesLess (kwL.getD t ByteArray.empty).toList s.toList) 24 0 24) ByteArray.empty = s) = inB kwL s := by
  by_cases hm : s ∈ kwL
  · have h2 : inB kwL s = true := by
      unfold inB
      exact List.any_eq_true.2 ⟨s, hm, by simp⟩
    rw [h2]
    unfold kwL at hm
    simp only [List.mem_cons, List.not_mem_nil, or_false] at hm
    rcases hm with rfl | rfl | rfl | rfl | rfl | rfl | rfl | rfl | rfl | rfl | rfl | rfl | rfl | rfl | rfl | rfl | rfl | rfl | rfl | rfl | rfl | rfl | rfl | rfl <;> decide +kernel
  · have h2 : inB kwL s = false := by
      cases hb : inB kwL s with
      | false => rfl
      | true =>
        unfold inB at hb
        obtain ⟨x, hx, he⟩ := List.any_eq_true.1 hb
        rw [Lib.toList_data, Lib.toList_data, beq_iff_eq] at he
        exact absurd (Go.WideShapes.bytes_inj he ▸ hx) hm
    rw [h2, decide_eq_false_iff_not]
    rintro ⟨h1, h3⟩
    apply hm
    rw [← h3, List.getD_eq_getElem?_getD]
    have hl : kwL.length = 24 := rfl
    generalize Lib.bsGo (fun t => Op.bytesLess (kwL.getD t ByteArray.empty).toList s.toList) 24 0 24 = I at h1
    rw [List.getElem?_eq_getElem (by omega)]
    exact List.getElem_mem _
set_option maxHeartbeats 2000000 in
theorem kw127 (s : ByteArray) (w : World) (hg : Gl w) : Calls Tryz.prog 127 #[.string s] w fun e w' => e = .returned (.bool (inB kwL s)) ∧ Below w.heap.size w w' := by
  obtain ⟨A, c, hc, hk⟩ := GlB.kw hg
  obtain ⟨b, off, rfl, hb, hcell⟩ := hk.2 (by omega)
  have hS := Any2.slices_BinarySearch_string Tryz.laysBS b off 24 c (fun t => kwL.getD t ByteArray.empty) s w (by omega) (fun j hj => by
    refine hcell j _ ?_
    rw [List.getElem?_map, List.getD_eq_getElem?_getD]
    have hl : kwL.length = 24 := rfl
    rw [List.getElem?_eq_getElem (by omega)]
    rfl)
  rw [bs_kw] at hS
  change Calls Tryz.prog 137 _ _ _ at hS
  generalize Lib.bsGo (fun t => Op.bytesLess (kwL.getD t ByteArray.empty).toList s.toList) 24 0 24 = I at hS
  generalize inB kwL s = r at hS ⊢
  have HS := Lib.hid hS
  clear hS hk hcell hg
  go_enter Tryz.func127, Tryz.ntmps127
  go_wp2_with (go_at_call 137; refine HS.out.mono ?_; rintro e w' ⟨rfl, q, rfl⟩)
  go_ret
  exact ⟨rfl, below_drewN (Below.refl _ _) q⟩
end Go.Proofs.YtoejjboanggenaaGreatDoor
