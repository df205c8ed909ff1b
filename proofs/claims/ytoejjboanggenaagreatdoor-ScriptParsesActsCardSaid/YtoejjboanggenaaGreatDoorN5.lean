/-
Contracts of the lexer's small functions: skip.
-/
import Derived.Test.YtoejjboanggenaaGreatDoorN4
import Derived.Lib.IndexLaws
namespace Go.Proofs.YtoejjboanggenaaGreatDoor
open Go.RowKit
set_option linter.unusedVariables false
set_option linter.unusedSimpArgs false

def SPC : ByteArray := ⟨#[32, 9, 10, 13]⟩
/-- y is a string's end. -/
def EndOf (y x : ByteArray) : Prop := ∃ p, x.data.toList = p ++ y.data.toList
theorem EndOf.refl (x : ByteArray) : EndOf x x := ⟨[], rfl⟩
theorem EndOf.trans {x y z : ByteArray} (h : EndOf x y) (h2 : EndOf y z) : EndOf x z := by
  obtain ⟨p, hp⟩ := h
  obtain ⟨q, hq⟩ := h2
  exact ⟨q ++ p, by rw [hq, hp, List.append_assoc]⟩
theorem EndOf.le {x y : ByteArray} (h : EndOf y x) : y.size ≤ x.size := by
  obtain ⟨p, hp⟩ := h
  have := congrArg List.length hp
  rw [List.length_append] at this
  change x.data.size = p.length + y.data.size at this
  change y.data.size ≤ x.data.size
  omega
theorem EndOf.eq {x y : ByteArray} (h : EndOf y x) (hs : x.size ≤ y.size) : y = x := by
  obtain ⟨p, hp⟩ := h
  have := congrArg List.length hp
  rw [List.length_append] at this
  change x.data.size = p.length + y.data.size at this
  change x.data.size ≤ y.data.size at hs
  have h0 : p = [] := List.length_eq_zero_iff.1 (by omega)
  subst h0
  exact Go.WideShapes.bytes_inj hp.symm
theorem EndOf.drop (x : ByteArray) (k : Nat) : EndOf (x.extract k x.size) x := by
  refine ⟨x.data.toList.take k, ?_⟩
  have h : (List.drop k x.data.toList).take (x.size - k) = List.drop k x.data.toList := List.take_of_length_le (by rw [List.length_drop]; exact Nat.le_refl _)
  rw [ByteArray.data_extract, Array.toList_extract, List.extract_eq_take_drop, h, List.take_append_drop]
theorem EndOf.trim (x set : ByteArray) : EndOf (trimB x set) x := by
  refine ⟨x.data.toList.takeWhile (set.data.toList.contains ·), ?_⟩
  change _ = _ ++ Lib.trimLeftS x.data.toList set.data.toList
  unfold Lib.trimLeftS
  rw [List.takeWhile_append_dropWhile]
/-- a string that begins with a byte of a token. -/
def Begins (x : ByteArray) : Prop := ∃ c l, x.data.toList = c :: l ∧ SPC.data.toList.contains c = false ∧ c ≠ 35
theorem Begins.trim {x : ByteArray} (h : Begins x) : trimB x SPC = x := by
  obtain ⟨c, l, h1, h2, h3⟩ := h
  refine Go.WideShapes.bytes_inj ?_
  change Lib.trimLeftS x.data.toList SPC.data.toList = x.data.toList
  unfold Lib.trimLeftS
  rw [h1, List.dropWhile_cons_of_neg (by rw [h2]; decide)]
theorem prefix_one {l : List UInt8} (h : Lib.hasPrefix l [35] = true) : ∃ r, l = 35 :: r := by
  unfold Lib.hasPrefix at h
  cases l with
  | nil => simp at h
  | cons c r =>
    simp [List.isPrefixOf] at h
    exact ⟨r, by rw [← h]⟩
def Skips (s R : ByteArray) : Prop := EndOf R s ∧ (Begins s → R = s)
set_option maxHeartbeats 4000000 in
theorem skip98 (s : ByteArray) (w : World) (hs : s.size ≤ 1000000) : Calls Tryz.prog 98 #[.string s] w fun e w' => ∃ R, e = .returned (.string R) ∧ Below w.heap.size w w' ∧ Skips s R := by
  go_enter Tryz.func98, Tryz.ntmps98
  go_wp2_with fail
  go_loopw [0] (fun i wr => ∃ x : ByteArray, i = .string x ∧ Hid (Below w.heap.size w wr) ∧ Hid (EndOf x s) ∧ Hid (Begins s → x = s)) (fun i _ => (match i with | .string x => x.size | _ => 0))
  case atStart => exact ⟨s, rfl, Lib.hid (Below.refl _ _), Lib.hid (EndOf.refl _), Lib.hid fun _ => rfl⟩
  case round =>
    obtain ⟨x, rfl, HB, HE, HS⟩ := hrel
    have hT := trim114 x SPC (by decide) (by decide) wr
    have ht1 := EndOf.trim x SPC
    have ht2 : Begins s → trimB x SPC = s := fun h => by rw [HS.out h, h.trim]
    have hle : x.size ≤ 1000000 := Nat.le_trans HE.out.le hs
    generalize trimB x SPC = y at hT ht1 ht2
    unfold SPC at hT
    have hE2 := ht1.trans HE.out
    have HT := Lib.hid hT
    have HE2 := Lib.hid hE2
    have HS2 := Lib.hid ht2
    have hyx := ht1.le
    clear hT ht1 ht2 hE2 HE HS
    go_wp2_with fail
    refine HT.out.mono ?_
    rintro e w1 ⟨rfl, b1⟩
    have B1 := Lib.hid (HB.out.trans (b1.mono HB.out.size))
    clear b1 HB HT
    obtain ⟨hp, hhp⟩ : ∃ hp, Lib.hasPrefix y.data.toList [35] = hp := ⟨_, rfl⟩
    have hPP := fun (W : World) => Tryz.strings_HasPrefix y ⟨#[35]⟩ W
    change ∀ W, Calls Tryz.prog 115 #[.string y, .string ⟨#[35]⟩] W (fun e w' => e = .returned (.bool (Lib.hasPrefix y.data.toList [35])) ∧ w' = W) at hPP
    rw [hhp] at hPP
    have HP := Lib.hid hPP
    clear hPP
    cases hp with
    | false =>
      clear hhp
      go_wp2_with fail
      refine (HP.out _).mono ?_
      rintro e w2 ⟨rfl, rfl⟩
      go_wp2_with fail
      go_ret
      exact ⟨y, rfl, B1.out, HE2.out, HS2.out⟩
    | true =>
      obtain ⟨l, hl⟩ := prefix_one hhp
      have hnb : ¬ Begins s := fun h => by
        have := HS2.out h
        obtain ⟨c, l', h1, h2, h3⟩ := h
        rw [← this, hl] at h1
        simp only [List.cons.injEq] at h1
        exact h3 h1.1.symm
      have hy1 : 1 ≤ y.size := by
        change 1 ≤ y.data.toList.length
        rw [hl]; simp
      have hI := fun (W : World) => Tryz.strings_IndexByte y 10 W
      obtain ⟨i, hi⟩ : ∃ i, Lib.indexByte y.data.toList (10 : Int).toNat.toUInt8 = i := ⟨_, rfl⟩
      rw [hi] at hI
      have HI := Lib.hid hI
      have hge := Lib.indexByte_ge y.data.toList (10 : Int).toNat.toUInt8
      rw [hi] at hge
      clear hhp hI
      by_cases hneg : 0 ≤ i
      · obtain ⟨k, rfl⟩ : ∃ k : Nat, i = (k : Int) := ⟨i.toNat, by omega⟩
        obtain ⟨hk1, hk2⟩ := Lib.indexByte_some hi
        have hk : k < y.size := by
          change k < y.data.toList.length
          exact (List.getElem?_eq_some_iff.1 hk1).1
        have hk0 : k ≠ 0 := by
          rintro rfl
          rw [hl] at hk1
          simp at hk1
        have hkz : (k : Int) ≤ (y.size : Int) := by omega
        have hsz : (y.extract k y.size).size = y.size - k := by rw [ByteArray.size_extract]; omega
        have hE3 := (EndOf.drop y k).trans HE2.out
        have HE3 := Lib.hid hE3
        clear hk1 hk2 hi hl hge hE3
        go_wp2_with fail
        refine (HP.out _).mono ?_
        rintro e w2 ⟨rfl, rfl⟩
        go_wp2_with fail
        refine (HI.out _).mono ?_
        rintro e w2 ⟨rfl, rfl⟩
        go_wp2_with fail
        go_roundw
        case rel => exact ⟨_, rfl, B1, HE3, Lib.hid fun h => absurd h hnb⟩
        case measure => simp; omega
      · have hneg' : decide (0 ≤ i) = false := by simpa using hneg
        have HE3 := Lib.hid (show EndOf ⟨#[]⟩ s from ⟨s.data.toList, by simp⟩)
        clear hi hl hge
        go_wp2_with fail
        refine (HP.out _).mono ?_
        rintro e w2 ⟨rfl, rfl⟩
        go_wp2_with fail
        refine (HI.out _).mono ?_
        rintro e w2 ⟨rfl, rfl⟩
        go_wp2_with fail
        go_roundw
        case rel => exact ⟨_, rfl, B1, HE3, Lib.hid fun h => absurd h hnb⟩
        case measure =>
          have hz : (⟨#[]⟩ : ByteArray).size = 0 := rfl
          simp [hz]; omega
end Go.Proofs.YtoejjboanggenaaGreatDoor
