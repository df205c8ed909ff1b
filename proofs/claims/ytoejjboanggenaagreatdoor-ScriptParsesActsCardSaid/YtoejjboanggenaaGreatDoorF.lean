/-
Contracts: Decimal, number, words of the reference.
-/
import Derived.Test.YtoejjboanggenaaGreatDoorE
namespace Go.Proofs.YtoejjboanggenaaGreatDoor
open Go.RowKit
set_option linter.unusedVariables false

def I64 (n : Int) : Prop := -9223372036854775808 ≤ n ∧ n ≤ 9223372036854775807
def istr (n : Int) : ByteArray := ⟨(Lib.itoa n).toArray⟩
/-- a space and a number. -/
def nstr (n : Int) : ByteArray := ⟨(32 :: Lib.itoa n).toArray⟩
theorem itoa_len {n : Int} (h : I64 n) : (Lib.itoa n).length ≤ 21 := Lib.itoa_length_le n h.1 h.2
theorem istr_size (n : Int) : (istr n).size = (Lib.itoa n).length := by unfold istr; simp [ByteArray.size]
theorem nstr_size (n : Int) : (nstr n).size = (Lib.itoa n).length + 1 := by unfold nstr; simp [ByteArray.size]
theorem add_ex (x y : ByteArray) (h : x.size + y.size ≤ 9000000000000000000) : ∃ S : ByteArray, S.data.toList = x.data.toList ++ y.data.toList ∧ S.size = x.size + y.size ∧ ∀ W, (Op.stringOp .add x y).run Tryz.prog W = .ok (.string S) W :=
  ⟨x ++ y, by simp, by simp, fun W => run_string_add_sum W x y (by omega)⟩
theorem ba_eq {x : ByteArray} {l : List UInt8} (h : x.data.toList = l) : x = ⟨l.toArray⟩ := Go.WideShapes.bytes_inj (by simpa using h)
set_option maxRecDepth 100000 in
set_option maxHeartbeats 1000000 in
theorem decimal33 (n : Int) (w : World) (hn : I64 n) : Calls Tryz.prog 33 #[.int .i64 n] w fun e w' => e = .returned (.string (istr n)) ∧ Below w.heap.size w w' := by
  by_cases h : n < 0
  · have hm : IntKind.u64.wrap (-IntKind.u64.wrap n) = ((n.natAbs : Nat) : Int) := by
      have h1 : IntKind.u64.wrap n = n + 18446744073709551616 := by rw [IntKind.wrap_u64]; have := hn.1; omega
      rw [h1, IntKind.wrap_u64]; have := hn.1; omega
    have hu : U64 n.natAbs := by unfold U64; have := hn.1; omega
    have hl : (Lib.decDigits n.natAbs).length ≤ 21 := by
      have h1 := itoa_len hn
      unfold Lib.itoa at h1
      rw [if_pos h] at h1
      simp at h1; omega
    obtain ⟨S, hS, _, hadd⟩ := add_ex ⟨#[45]⟩ (dstr n.natAbs) (by have : (dstr n.natAbs).size = (Lib.decDigits n.natAbs).length := by unfold dstr; simp [ByteArray.size]
                                                                  have h3 : (⟨#[45]⟩ : ByteArray).size = 1 := rfl
                                                                  omega)
    have hfin : S = istr n := by
      rw [ba_eq hS]
      unfold istr Lib.itoa dstr
      rw [if_pos h]; simp
    have HF := Lib.hid hfin
    have HU := Lib.hid hu
    clear hfin hu hl hS hn
    go_enter Tryz.func33, Tryz.ntmps33
    go_wp2_with fail
    refine (digits47 _ _ HU.out).mono ?_
    rintro e w1 ⟨rfl, b1⟩
    go_wp2
    go_ret
    exact ⟨ret_str HF.out, b1⟩
  · obtain ⟨m, rfl⟩ := Int.eq_ofNat_of_zero_le (by omega : 0 ≤ n)
    have hm : IntKind.u64.wrap (m : Int) = (m : Int) := by rw [IntKind.wrap_u64]; have := hn.2; omega
    have hu : U64 m := by unfold U64; have := hn.2; omega
    have hfin : dstr m = istr (m : Int) := by unfold istr dstr; rw [Lib.itoa_nonneg]
    have HF := Lib.hid hfin
    have HU := Lib.hid hu
    have hd : decide ((m : Int) < 0) = false := by simp
    clear hfin hu hn
    go_enter Tryz.func33, Tryz.ntmps33
    go_wp2_with fail
    refine (digits47 _ _ HU.out).mono ?_
    rintro e w1 ⟨rfl, b1⟩
    go_wp2
    go_ret
    exact ⟨ret_str HF.out, b1⟩
set_option maxHeartbeats 1000000 in
theorem number15 (n : Int) (w : World) (hn : I64 n) : Calls Tryz.prog 15 #[.int .i64 n] w fun e w' => e = .returned (.string (nstr n)) ∧ Below w.heap.size w w' := by
  obtain ⟨S, hS, _, hadd⟩ := add_ex ⟨#[32]⟩ (istr n) (by have h1 := itoa_len hn; have h2 := istr_size n; have h3 : (⟨#[32]⟩ : ByteArray).size = 1 := rfl; omega)
  have hfin : S = nstr n := by rw [ba_eq hS]; unfold nstr istr; simp
  have HF := Lib.hid hfin
  have HN := Lib.hid hn
  clear hfin hS hn
  go_enter Tryz.func15, Tryz.ntmps15
  go_wp2_with fail
  refine (decimal33 _ _ HN.out).mono ?_
  rintro e w1 ⟨rfl, b1⟩
  go_wp2
  go_ret
  exact ⟨ret_str HF.out, b1⟩

/-- the words of the kinds. -/
def wordsL : List ByteArray := [⟨#[116, 117, 114, 110]⟩, ⟨#[100, 101, 108, 105, 118, 101, 114]⟩, ⟨#[100, 114, 111, 112]⟩, ⟨#[100, 111, 117, 98, 108, 101]⟩, ⟨#[116, 105, 99, 107]⟩, ⟨#[109, 105, 110, 111, 114]⟩, ⟨#[109, 97, 106, 111, 114]⟩, ⟨#[99, 114, 97, 115, 104]⟩, ⟨#[114, 101, 115, 116, 97, 114, 116]⟩, ⟨#[99, 104, 101, 99, 107, 112, 111, 105, 110, 116]⟩, ⟨#[102, 97, 105, 108]⟩, ⟨#[115, 112, 97, 119, 110]⟩, ⟨#[112, 111, 115, 116]⟩, ⟨#[114, 101, 108, 101, 97, 115, 101]⟩, ⟨#[114, 101, 116, 105, 114, 101]⟩, ⟨#[99, 97, 108, 109]⟩]
set_option maxHeartbeats 1000000 in
theorem words14 (w : World) : Calls Tryz.prog 14 #[] w fun e w' => e = .returned (.slice (some ⟨w.heap.size, 0, none⟩) 16 16) ∧ w.alloc (.cells (wordsL.map Value.string).toArray 9) = w' := by
  go_enter Tryz.func14, Tryz.ntmps14
  go_wp2
  go_ret
  exact ⟨rfl, rfl⟩
end Go.Proofs.YtoejjboanggenaaGreatDoor
