/-
Contracts of the reference's names: In, Keywords, name, Variable, ClassName.
-/
import Derived.Test.YtoejjboanggenaaGreatDoorB2
namespace Go.Proofs.YtoejjboanggenaaGreatDoor
open Go.RowKit
set_option linter.unusedVariables false

/-- the keywords. -/
def kwL : List ByteArray := [⟨#[97, 99, 116, 111, 114]⟩, ⟨#[97, 110, 100]⟩, ⟨#[97, 116]⟩, ⟨#[98, 121]⟩, ⟨#[101, 108, 115, 101]⟩, ⟨#[103, 101, 116]⟩, ⟨#[105, 102]⟩, ⟨#[108, 101, 116]⟩, ⟨#[109, 111, 118, 101]⟩, ⟨#[110, 101, 119]⟩, ⟨#[110, 105, 108]⟩, ⟨#[110, 111, 116]⟩, ⟨#[111, 110]⟩, ⟨#[111, 114]⟩, ⟨#[112, 114, 105, 110, 116]⟩, ⟨#[114, 101, 99, 111, 114, 100]⟩, ⟨#[114, 101, 116, 117, 114, 110]⟩, ⟨#[115, 101, 110, 100]⟩, ⟨#[116, 104, 105, 115]⟩, ⟨#[116, 111]⟩, ⟨#[118, 97, 114]⟩, ⟨#[119, 97, 116, 99, 104]⟩, ⟨#[119, 101, 97, 107]⟩, ⟨#[119, 104, 105, 108, 101]⟩]
def inB (ss : List ByteArray) (s : ByteArray) : Bool := ss.any fun x => x.toList == s.toList
theorem Strs.of_blk {w : World} {g : Nat} {ss : List ByteArray} {B : Nat} (h : Blk w g 9 (ss.map Value.string).toArray) (hB : g < B) : Strs w B (some ⟨g, 0, none⟩) ss.length ss :=
  ⟨by simp, fun _ => ⟨g, 0, rfl, hB, fun j v hv => by rw [Nat.zero_add, h.cell]; simpa using hv⟩⟩
set_option maxHeartbeats 1000000 in
theorem keywords52 (w : World) : Calls Tryz.prog 52 #[] w fun e w' => e = .returned (.slice (some ⟨w.heap.size, 0, none⟩) 24 24) ∧ Below w.heap.size w w' ∧ Strs w' w'.heap.size (some ⟨w.heap.size, 0, none⟩) 24 kwL := by
  go_enter Tryz.func52, Tryz.ntmps52
  go_wp2
  go_ret
  exact ⟨rfl, (Below.refl _ _).alloc (Nat.le_refl _) _, Strs.of_blk (ss := kwL) (Blk.new w 9 _) (by simp)⟩
theorem any_take {α : Type} {p : α → Bool} {l : List α} {k : Nat} {x : α} (h : l[k]? = some x) : (l.take (k + 1)).any p = ((l.take k).any p || p x) := by
  have hk := (List.getElem?_eq_some_iff.1 h).1
  rw [List.take_succ_eq_append_getElem hk, List.any_append]
  have : l[k] = x := by rw [List.getElem?_eq_getElem hk] at h; simpa using h
  simp [this]
theorem any_true {α : Type} {p : α → Bool} {l : List α} {k : Nat} {x : α} (h : l[k]? = some x) (hp : p x = true) : l.any p = true := by
  rw [List.any_eq_true]
  exact ⟨x, List.mem_of_getElem? h, hp⟩
set_option maxHeartbeats 1000000 in
theorem in51 (A : Option Addr) (n c : Nat) (ss : List ByteArray) (s : ByteArray) (B : Nat) (w : World) (h : Strs w B A n ss) (hn : n ≤ 1000000) :
    Calls Tryz.prog 51 #[.slice A n c, .string s] w fun e w' => e = .returned (.bool (inB ss s)) ∧ w = w' := by
  have HL := Lib.hid h.len
  go_enter Tryz.func51, Tryz.ntmps51
  go_wp2
  go_loop [5] (fun i => ∃ k : Nat, k ≤ n ∧ i = .int .i64 k ∧ Hid (inB (ss.take k) s = false)) (fun i => n - (intOf i).toNat)
  case atStart => exact ⟨0, Nat.zero_le _, rfl, Lib.hid (by simp [inB])⟩
  case round =>
    obtain ⟨k, hk, rfl, HA⟩ := hrel
    by_cases hlt : k < n
    · obtain ⟨b, off, x, rfl, _, hx, hc⟩ := h.at_ hlt
      have hk0 : 0 ≤ (k : Int) := by omega
      have hk1 : (k : Int) < n := by omega
      have HX := Lib.hid hx
      clear hx
      by_cases hxs : x = s
      · subst hxs
        go_wp2
        go_ret
        exact ⟨ret_bool (any_true HX.out (by simp)).symm, rfl⟩
      · have hne : (x.toList == s.toList) = false := beq_eq_false_iff_ne.2 fun e => hxs (ba_ext e)
        clear hxs
        go_wp2
        go_round
        case rel => exact ⟨k + 1, by omega, by go_num, Lib.hid (by unfold inB at *; rw [any_take HX.out, HA.out]; simp [hne])⟩
        case measure => simp [intOf]; omega
    · obtain rfl : k = n := by omega
      go_wp2
      go_ret
      have h1 := HA.out
      rw [List.take_of_length_le (by rw [HL.out]; omega)] at h1
      exact ⟨ret_bool h1.symm, rfl⟩

def wordB (c : UInt8) : Bool := (decide (97 ≤ (c.toNat : Int)) && decide ((c.toNat : Int) ≤ 122)) || (decide (65 ≤ (c.toNat : Int)) && decide ((c.toNat : Int) ≤ 90)) || (decide (48 ≤ (c.toNat : Int)) && decide ((c.toNat : Int) ≤ 57)) || decide ((c.toNat : Int) = 95)
def nameB (s : ByteArray) (lo hi : Int) : Bool :=
  match s.data.toList with
  | [] => false
  | c :: _ => decide (s.size ≤ 31) && decide (lo ≤ (c.toNat : Int)) && decide ((c.toNat : Int) ≤ hi) && !inB kwL s && s.data.toList.all wordB
theorem nameB_at {s : ByteArray} {lo hi : Int} (h : 0 < s.size) : nameB s lo hi = (decide (s.size ≤ 31) && decide (lo ≤ (s[0].toNat : Int)) && decide ((s[0].toNat : Int) ≤ hi) && !inB kwL s && s.data.toList.all wordB) := by
  unfold nameB
  obtain ⟨⟨l⟩⟩ := s
  cases l with
  | nil => simp [ByteArray.size] at h
  | cons c l => rfl
set_option maxHeartbeats 4000000 in
theorem name35 (s : ByteArray) (lo hi : Int) (w : World) (hs : s.size ≤ 1000000) : Calls Tryz.prog 35 #[.string s, .int .u8 lo, .int .u8 hi] w fun e w' => e = .returned (.bool (nameB s lo hi)) ∧ Below w.heap.size w w' := by
  by_cases h0 : s.size = 0
  · have g0 : ((s.size : Int) == 0) = true := by rw [h0]; rfl
    have hb : nameB s lo hi = false := by
      unfold nameB
      obtain ⟨⟨l⟩⟩ := s
      cases l with
      | nil => rfl
      | cons c l => simp [ByteArray.size] at h0
    have HB := Lib.hid hb
    clear hb h0
    go_enter Tryz.func35, Tryz.ntmps35
    go_wp2
    go_ret
    exact ⟨ret_bool HB.out.symm, Below.refl _ _⟩
  · have hp : 0 < s.size := by omega
    have hat := Lib.hid (nameB_at (lo := lo) (hi := hi) hp)
    have g0 : ((s.size : Int) == 0) = false := by rw [beq_eq_false_iff_ne]; omega
    have g1 : (0 : Int) < s.size := by omega
    by_cases h31 : 31 < s.size
    · have g2 : decide ((31 : Int) < s.size) = true := by simp; omega
      clear h0
      go_enter Tryz.func35, Tryz.ntmps35
      go_wp2
      go_ret
      refine ⟨ret_bool ?_, Below.refl _ _⟩
      rw [hat.out]
      simp [show ¬ s.size ≤ 31 from by omega]
    · have g2 : decide ((31 : Int) < s.size) = false := by simp; omega
      clear h0
      by_cases hlo : (s[0].toNat : Int) < lo
      · go_enter Tryz.func35, Tryz.ntmps35
        go_wp2
        go_ret
        refine ⟨ret_bool ?_, Below.refl _ _⟩
        rw [hat.out]
        simp [show ¬ lo ≤ (s[0].toNat : Int) from by omega]
      · by_cases hhi : hi < (s[0].toNat : Int)
        · go_enter Tryz.func35, Tryz.ntmps35
          go_wp2
          go_ret
          refine ⟨ret_bool ?_, Below.refl _ _⟩
          rw [hat.out]
          simp [show ¬ (s[0].toNat : Int) ≤ hi from by omega]
        · have hlo' : lo ≤ (s[0].toNat : Int) := by omega
          have hhi' : (s[0].toNat : Int) ≤ hi := by omega
          have h31' : s.size ≤ 31 := by omega
          go_enter Tryz.func35, Tryz.ntmps35
          go_wp2_with fail
          refine (keywords52 _).mono ?_
          rintro e w1 ⟨rfl, b1, s1⟩
          go_wp2_with fail
          refine (in51 _ _ _ kwL s _ _ s1 (by omega)).mono ?_
          rintro e w2 ⟨rfl, rfl⟩
          by_cases hk : inB kwL s = true
          · rw [hk]
            go_wp2_with fail
            go_ret
            refine ⟨ret_bool ?_, b1⟩
            rw [hat.out, hk]; simp
          · have hk' : inB kwL s = false := by simpa using hk
            rw [hk']
            have HK := Lib.hid hk'
            clear hk hk'
            go_wp2_with fail
            go_loop [7] (fun i => ∃ k : Nat, k ≤ s.size ∧ i = .int .i64 k ∧ Hid ((s.data.toList.take k).all wordB = true)) (fun i => s.size - (intOf i).toNat)
            case atStart => exact ⟨0, Nat.zero_le _, rfl, Lib.hid (by simp)⟩
            case round =>
              obtain ⟨k, hk, rfl, HA⟩ := hrel
              by_cases hlt : k < s.size
              · have hk0 : 0 ≤ (k : Int) := by omega
                have hk1 : (k : Int) < s.size := by omega
                have hx : s.data.toList[k]? = some s[k] := by
                  rw [List.getElem?_eq_getElem (by simpa using hlt)]; rfl
                have HX := Lib.hid hx
                clear hx
                go_wp2_with fail
                all_goals first
                  | (go_ret
                     refine ⟨ret_bool ?_, b1⟩
                     have hw : wordB s[k] = false := by unfold wordB; simp only [bne_iff_ne, ne_eq] at *; simp; omega
                     rw [hat.out, all_false HX.out hw]
                     simp)
                  | (have hw : wordB s[k] = true := by unfold wordB; simp only [bne_eq_false_iff_eq] at *; simp; omega
                     have HW := Lib.hid hw
                     clear hw
                     go_round
                     case rel => exact ⟨k + 1, by omega, by go_num, Lib.hid (by rw [all_take HX.out, HA.out, HW.out]; rfl)⟩
                     case measure => simp [intOf]; omega)
              · obtain rfl : k = s.size := by omega
                go_wp2_with fail
                go_ret
                refine ⟨ret_bool ?_, b1⟩
                have h1 := HA.out
                rw [List.take_of_length_le (by simp)] at h1
                rw [hat.out, HK.out, h1]
                simp [hlo', hhi', h31']
end Go.Proofs.YtoejjboanggenaaGreatDoor
