/-
Contracts: Digits, Decimal, number of the reference.
-/
import Derived.Test.YtoejjboanggenaaGreatDoorD
import Derived.Deep.RegionWith
import Derived.Lib.ItoaLen
import Derived.Laws.IdiomStrings
namespace Go.Proofs.YtoejjboanggenaaGreatDoor
open Go.RowKit
set_option linter.unusedVariables false

def U64 (n : Nat) : Prop := n < 18446744073709551616
def dstr (n : Nat) : ByteArray := ⟨(Lib.decDigits n).toArray⟩
theorem dec_small {n : Nat} (h : n < 10) : Lib.decDigits n = [UInt8.ofNat (48 + n)] := by rw [Lib.decDigits, dif_pos h]
theorem dec_step {n : Nat} (h : 10 ≤ n) : Lib.decDigits n = Lib.decDigits (n / 10) ++ [UInt8.ofNat (48 + n % 10)] := by rw [Lib.decDigits, dif_neg (by omega)]
/-- the byte of a digit. -/
def dgc (r : Nat) : UInt8 := UInt8.ofNat (48 + r)
theorem dgc_toNat {r : Nat} (h : r < 10) : ((dgc r).toNat : Int) = 48 + (r : Int) := by unfold dgc; simp; omega
theorem dec_len_le (n : Nat) : (Lib.decDigits n).length ≤ n + 1 := by
  induction n using Nat.strongRecOn with
  | _ n ih =>
    by_cases h : n < 10
    · rw [dec_small h]; simp
    · rw [dec_step (by omega), List.length_append]
      have := ih (n / 10) (by omega)
      simp; omega
theorem ret_str {a b : ByteArray} (h : a = b) : Ending.returned (.string a) = .returned (.string b) := by rw [h]
theorem conv1 (W : World) (b : Nat) (z : Int) (c : UInt8) (hz : z = (c.toNat : Int)) (h : W.cell? ⟨b, 0, none⟩ = some (.int .u8 z)) :
    (convert 65 9 (.slice (some ⟨b, 0, none⟩) 1 1)).run Tryz.prog W = .ok (.string ⟨#[c]⟩) W :=
  run_convert_bytes_back W 65 9 5 ⟨b, 0, none⟩ 1 [c] Tryz.underlying65 Tryz.underlying5 Tryz.underlying9 fun j hj => by
    obtain rfl : j = 0 := by simpa using hj
    have : (⟨b, 0, none⟩ : Addr).add 0 = ⟨b, 0, none⟩ := by unfold Addr.add; rfl
    rw [this, h, hz]
    rfl
set_option maxRecDepth 100000 in
set_option maxHeartbeats 1000000 in
theorem digits47_small (n : Nat) (w : World) (h : n < 10) : Calls Tryz.prog 47 #[.int .u64 n] w fun e w' => e = .returned (.string (dstr n)) ∧ Below w.heap.size w w' := by
  have hd : dstr n = ⟨#[dgc n]⟩ := by unfold dstr; rw [dec_small h]; rfl
  have hcv := conv1 (w.alloc (.cells #[.int .u8 (48 + (n : Int))] 5)) w.heap.size (48 + (n : Int)) (dgc n) (dgc_toNat h).symm ((Blk.new w 5 _).cell 0)
  have h0 : (n : Int) < 10 := by omega
  have h1 : 0 ≤ (n : Int) := by omega
  have HD := Lib.hid hd
  clear hd h
  go_enter Tryz.func47, Tryz.ntmps47
  go_wp2
  go_ret
  exact ⟨ret_str HD.out.symm, (Below.refl _ _).alloc (Nat.le_refl _) _⟩
set_option maxRecDepth 100000 in
set_option maxHeartbeats 4000000 in
theorem digits47_step (n : Nat) (w : World) (h : 10 ≤ n) (hn : U64 n) (hq : ∀ w, Calls Tryz.prog 47 #[.int .u64 (n / 10 : Nat)] w fun e w' => e = .returned (.string (dstr (n / 10))) ∧ Below w.heap.size w w') :
    Calls Tryz.prog 47 #[.int .u64 n] w fun e w' => e = .returned (.string (dstr n)) ∧ Below w.heap.size w w' := by
  have hd : decide ((n : Int) < 10) = false := by simp; omega
  unfold U64 at hn
  have hq1 : IntKind.u64.wrap ((n : Int) / 10) = ((n / 10 : Nat) : Int) := by rw [IntWalk.u64_in _ (by omega)]; omega
  have hr1 : IntKind.u8.wrap (IntKind.u64.wrap (48 + (n : Int).tmod 10)) = 48 + ((n % 10 : Nat) : Int) := by
    have : (n : Int).tmod 10 = ((n % 10 : Nat) : Int) := by rw [Int.tmod_eq_emod_of_nonneg (by omega)]; omega
    rw [this, IntWalk.u64_in _ (by omega), IntKind.wrap_u8]; omega
  have HQ := Lib.hid hq
  have hcv : ∀ W b, W.cell? ⟨b, 0, none⟩ = some (.int .u8 (48 + ((n % 10 : Nat) : Int))) → (convert 65 9 (.slice (some ⟨b, 0, none⟩) 1 1)).run Tryz.prog W = .ok (.string ⟨#[dgc (n % 10)]⟩) W :=
    fun W b hc => conv1 W b _ _ (dgc_toNat (by omega)).symm hc
  have hadd : ∀ W, (Op.stringOp .add (dstr (n / 10)) ⟨#[dgc (n % 10)]⟩).run Tryz.prog W = .ok (.string (dstr n)) W := fun W => by
    have e : dstr n = dstr (n / 10) ++ ⟨#[dgc (n % 10)]⟩ := by
      unfold dstr; rw [dec_step h]
      apply Go.WideShapes.bytes_inj
      simp [dgc]
    rw [e]
    refine run_string_add_sum W _ _ ?_
    have h1 := dec_len_le (n / 10)
    have h2 : (dstr (n / 10)).size = (Lib.decDigits (n / 10)).length := by unfold dstr; simp [ByteArray.size]
    have h3 : (⟨#[dgc (n % 10)]⟩ : ByteArray).size = 1 := rfl
    omega
  clear hq hn h
  go_enter Tryz.func47, Tryz.ntmps47
  go_wp2
  go_region_with ((go_at_call 47
                   refine (HQ.out _).mono ?_
                   rintro e w1 ⟨rfl, hb1⟩
                   obtain ⟨hc1, hf1⟩ := bcell hb1
                   have HB1 := Lib.hid hb1
                   clear hb1))
  all_goals
    go_wp2
    go_ret
    refine ⟨rfl, ?_⟩
    first
      | exact ((Below.refl _ _).drew.alloc (Nat.le_refl _) _).trans (HB1.out.mono (by simp))
      | exact ((Below.refl w.heap.size w).drew.trans HB1.out).alloc (by have := HB1.out.size; simpa using this) _
theorem digits47 (n : Nat) : ∀ (w : World), U64 n → Calls Tryz.prog 47 #[.int .u64 n] w fun e w' => e = .returned (.string (dstr n)) ∧ Below w.heap.size w w' := by
  induction n using Nat.strongRecOn with
  | _ n ih =>
    intro w hn
    by_cases h : n < 10
    · exact digits47_small n w h
    · exact digits47_step n w (by omega) hn fun w => ih (n / 10) (by omega) w (by unfold U64 at *; omega)
end Go.Proofs.YtoejjboanggenaaGreatDoor
