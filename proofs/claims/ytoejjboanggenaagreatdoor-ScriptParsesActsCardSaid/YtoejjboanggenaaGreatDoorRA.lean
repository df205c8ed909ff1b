/-
Contract of split; cut texts are told by their pieces.
-/
import Derived.Test.YtoejjboanggenaaGreatDoorV3
namespace Go.Proofs.YtoejjboanggenaaGreatDoor
open Go.RowKit
set_option linter.unusedVariables false
set_option linter.unusedSimpArgs false

/-- pieces, each with the separator behind it. -/
def piecesL (xs : List (List UInt8)) : List UInt8 := xs.flatMap fun x => x ++ [32]
theorem pieces_join : ∀ (out : List (List UInt8)) (last : List UInt8), ∃ h t, out ++ [last] = h :: t ∧ piecesL out ++ last = h ++ spaced t
  | [], last => ⟨last, [], rfl, by simp [piecesL, spaced]⟩
  | x :: out, last => by
    obtain ⟨h, t, h1, h2⟩ := pieces_join out last
    refine ⟨x, h :: t, by rw [List.cons_append, h1], ?_⟩
    have e : piecesL (x :: out) = x ++ 32 :: piecesL out := by simp [piecesL]
    rw [e]
    simp only [List.append_assoc, List.cons_append]
    rw [h2]
    simp [spaced]
theorem words_unique (s : ByteArray) (ws : List ByteArray) (last : ByteArray) (hn : ∀ x ∈ lists (ws ++ [last]), ∀ c ∈ x, c ≠ 32) (hj : piecesL (lists ws) ++ last.data.toList = s.data.toList) : wordsOf s = ws ++ [last] := by
  obtain ⟨h, t, h1, h2⟩ := pieces_join (lists ws) last.data.toList
  refine lists_inj ?_
  rw [wordsOf_lists]
  have e : lists (ws ++ [last]) = h :: t := by rw [← h1]; simp [lists]
  rw [e] at hn ⊢
  have hs : s.data.toList = h ++ spaced t := by rw [← hj, h2]
  have hc : Lib.countB s ⟨#[32]⟩ = t.length := by
    rw [← count_join t h hn, ← hs]
  rw [hc, hs, split_join t h hn]
theorem lists_snoc (ws : List ByteArray) (x : ByteArray) : lists (ws ++ [x]) = lists ws ++ [x.data.toList] := by simp [lists]
theorem extract_list (s : ByteArray) (p k : Nat) : (s.extract p k).data.toList = (s.data.toList.take k).drop p := by
  rw [ByteArray.data_extract, Array.toList_extract, List.extract_eq_take_drop, List.take_drop]
  by_cases h : p ≤ k
  · rw [Nat.add_sub_cancel' h]
  · rw [List.drop_eq_nil_of_le (by rw [List.length_take]; omega), List.drop_eq_nil_of_le (by rw [List.length_take]; omega)]
theorem extract_nosp {s : ByteArray} {p k : Nat} (h : ∀ j, p ≤ j → j < k → s.data.toList[j]? ≠ some 32) : ∀ c ∈ (s.extract p k).data.toList, c ≠ 32 := by
  intro c hc he
  subst he
  rw [extract_list] at hc
  obtain ⟨j, hj⟩ := List.mem_iff_getElem?.1 hc
  rw [List.getElem?_drop, List.getElem?_take] at hj
  split at hj
  · exact h (p + j) (by omega) (by assumption) hj
  · cases hj
set_option maxRecDepth 100000 in
set_option maxHeartbeats 8000000 in
theorem split25 (s : ByteArray) (w : World) (hs : s.size ≤ 100000) : Calls Tryz.prog 25 #[.string s, .int .u8 32] w fun e w' => ∃ A c, e = .returned (.slice A (wordsOf s).length c) ∧ (wordsOf s).length ≤ c ∧ Strs w' w'.heap.size A (wordsOf s).length (wordsOf s) ∧ Below w.heap.size w w' := by
  obtain ⟨i0, hi, hz0, hz1, hz2⟩ := info_parts info9
  go_enter Tryz.func25, Tryz.ntmps25
  go_upto_region 2 with fail
  have hown : (w.alloc (.cells #[] 9)).ownsRow w.heap.size 9 1 (.slice (some ⟨w.heap.size, 0, none⟩) 0 0) 0 [] := World.ownsRow_made w #[] 0 (Nat.le_refl _) (Nat.zero_le _) rfl
  have hb : Below w.heap.size w (w.alloc (.cells #[] 9)) := (Below.refl _ _).alloc (Nat.le_refl _) _
  generalize w.alloc (.cells #[] 9) = W0 at hown hb ⊢
  have HO := Lib.hid hown
  have HB := Lib.hid hb
  clear hown hb
  go_wp2_with fail
  go_loopw [5, 6, 7] (fun u a i wr => ∃ (k p : Nat) (out : List ByteArray), k ≤ s.size + 1 ∧ i = .int .i64 k ∧ a = .int .i64 p ∧ Hid (wr.ownsRow w.heap.size 9 1 u out.length (out.map Value.string)) ∧ Hid (Below w.heap.size w wr) ∧ out.length ≤ k ∧ (k ≤ s.size → p ≤ k) ∧
      Hid ((k ≤ s.size → piecesL (lists out) = s.data.toList.take p ∧ (∀ x ∈ lists out, ∀ c ∈ x, c ≠ 32) ∧ ∀ j, p ≤ j → j < k → s.data.toList[j]? ≠ some 32) ∧ (k = s.size + 1 → wordsOf s = out))) (fun _ _ i _ => s.size + 1 - (intOf i).toNat)
  case atStart => exact ⟨0, 0, [], Nat.zero_le _, rfl, rfl, HO, HB, Nat.le_refl _, fun _ => Nat.le_refl _, Lib.hid ⟨fun _ => ⟨by simp [piecesL, lists], by simp [lists], fun j h1 h2 => by omega⟩, fun h => by omega⟩⟩
  case round =>
    clear HO HB
    obtain ⟨k, p, out, hk, rfl, rfl, HO, HB, hol, hpk, HI⟩ := hrel
    by_cases hlt : k ≤ s.size
    · have hp := hpk hlt
      have hk0 : 0 ≤ (k : Int) := by omega
      have hp0 : 0 ≤ (p : Int) := by omega
      have hkz : (k : Int) ≤ (s.size : Int) := by omega
      have hpz : (p : Int) ≤ (k : Int) := by omega
      by_cases hend : k = s.size
      · subst hend
        have hes : ((s.size : Int) == (s.size : Int)) = true := beq_self_eq_true _
        obtain ⟨P, hP⟩ : ∃ P, s.extract p s.size = P := ⟨_, rfl⟩
        have HP := Lib.hid hP
        clear hP
        go_wp2_with (first | (at_builtin; rw [HP.out]; refine wpList_append_own _ rfl (.tmp 26) (.tmp 31) 39 rfl w.heap.size 9 i0 _ 1 16 Tryz.underlying39 hi hz0 hz1 hz2 rfl (by decide) _ _ _ rfl (HO.out.alloc _) ⟨wr.heap.size, 0, none⟩ 1 1 [.string P] rfl rfl (fun j u hu => by rw [add_none, Nat.zero_add, (Blk.new wr 9 #[.string P]).cell j]; simpa using hu) (by simp [Value.oneCell']) (by unfold maxLen; omega) (by omega) (by have := HB.out.size; simp; omega) ?_))
        intro u' w3 hown3 hgrow _
        have HO3 := Lib.hid hown3
        have HB3 := Lib.hid ((HB.out.alloc HB.out.size (.cells #[.string P] 9)).grown hgrow (by have := HB.out.size; simp; omega) (fun q hq => (HO.out.lt q hq).1))
        clear hown3 hgrow
        go_wp2_with fail
        go_roundw
        case rel =>
          refine ⟨s.size + 1, s.size + 1, out ++ [P], by omega, by go_num, by go_num, ?_, HB3, by rw [List.length_append, List.length_singleton]; omega, fun _ => Nat.le_refl _, ?_⟩
          · rw [List.length_append, List.map_append]
            exact HO3
          · obtain ⟨h1, h2, h3⟩ := HI.out.1 (by omega)
            have hsp : ∀ x ∈ lists (out ++ [P]), ∀ c ∈ x, c ≠ 32 := by
              intro x hx
              rw [lists_snoc] at hx
              rcases List.mem_append.1 hx with hx | hx
              · exact h2 x hx
              · simp only [List.mem_cons, List.not_mem_nil, or_false] at hx
                subst hx
                rw [← HP.out]
                exact extract_nosp h3
            refine Lib.hid ⟨fun h => by omega, fun _ => words_unique s out P hsp ?_⟩
            rw [h1, ← HP.out, extract_list, List.take_of_length_le (i := s.size) (Nat.le_refl _), List.take_append_drop]
        case measure => simp [intOf]
      · have hkl : k < s.size := by omega
        have hkl2 : (k : Int) < (s.size : Int) := by omega
        have hes : ((k : Int) == (s.size : Int)) = false := beq_eq_false_iff_ne.2 (by omega)
        have hget : s.data.toList[k]? = some (s[k]'hkl) := List.getElem?_eq_getElem hkl
        by_cases hsp : s.data.toList[k]? = some 32
        · have hc : (s[k]'hkl) = 32 := by rw [hget] at hsp; simpa using hsp
          have hc32 : (((s[k]'hkl).toNat : Int) == 32) = true := by rw [hc]; rfl
          have HSP := Lib.hid hsp
          clear hsp hget hc
          obtain ⟨P, hP⟩ : ∃ P, s.extract p k = P := ⟨_, rfl⟩
          have HP := Lib.hid hP
          clear hP
          go_wp2_with (first | (at_builtin; rw [HP.out]; refine wpList_append_own _ rfl (.tmp 26) (.tmp 31) 39 rfl w.heap.size 9 i0 _ 1 16 Tryz.underlying39 hi hz0 hz1 hz2 rfl (by decide) _ _ _ rfl (HO.out.alloc _) ⟨wr.heap.size, 0, none⟩ 1 1 [.string P] rfl rfl (fun j u hu => by rw [add_none, Nat.zero_add, (Blk.new wr 9 #[.string P]).cell j]; simpa using hu) (by simp [Value.oneCell']) (by unfold maxLen; omega) (by omega) (by have := HB.out.size; simp; omega) ?_))
          intro u' w3 hown3 hgrow _
          have HO3 := Lib.hid hown3
          have HB3 := Lib.hid ((HB.out.alloc HB.out.size (.cells #[.string P] 9)).grown hgrow (by have := HB.out.size; simp; omega) (fun q hq => (HO.out.lt q hq).1))
          clear hown3 hgrow
          go_wp2_with fail
          go_roundw
          case rel =>
            refine ⟨k + 1, k + 1, out ++ [P], by omega, by go_num, by go_num, ?_, HB3, by rw [List.length_append, List.length_singleton]; omega, fun _ => Nat.le_refl _, ?_⟩
            · rw [List.length_append, List.map_append]
              exact HO3
            · obtain ⟨h1, h2, h3⟩ := HI.out.1 (by omega)
              have hsp : ∀ x ∈ lists (out ++ [P]), ∀ c ∈ x, c ≠ 32 := by
                intro x hx
                rw [lists_snoc] at hx
                rcases List.mem_append.1 hx with hx | hx
                · exact h2 x hx
                · simp only [List.mem_cons, List.not_mem_nil, or_false] at hx
                  subst hx
                  rw [← HP.out]
                  exact extract_nosp h3
              refine Lib.hid ⟨fun h => ⟨?_, hsp, fun j h4 h5 => by omega⟩, fun h => by omega⟩
              have hk : k < s.data.toList.length := (List.getElem?_eq_some_iff.1 HSP.out).1
              have e : piecesL (lists (out ++ [P])) = piecesL (lists out) ++ (P.data.toList ++ [32]) := by rw [lists_snoc]; simp [piecesL]
              rw [e, h1, ← HP.out, extract_list, ← List.append_assoc]
              have h6 : s.data.toList.take p = (s.data.toList.take k).take p := by rw [List.take_take, Nat.min_eq_left hp]
              rw [h6, List.take_append_drop, List.take_add_one, HSP.out]
              rfl
          case measure => simp [intOf]; omega
        · have hc : (s[k]'hkl) ≠ 32 := fun e => hsp (by rw [hget, e])
          have hc32 : (((s[k]'hkl).toNat : Int) == 32) = false := beq_eq_false_iff_ne.2 fun e => hc (UInt8.toNat_inj.1 (by show (s[k]'hkl).toNat = 32; omega))
          have HSP := Lib.hid hsp
          clear hsp hget hc
          go_wp2_with fail
          go_roundw
          case rel =>
            refine ⟨k + 1, p, out, by omega, by go_num, rfl, HO, HB, by omega, fun _ => by omega, Lib.hid ⟨fun h => ?_, fun h => by omega⟩⟩
            obtain ⟨h1, h2, h3⟩ := HI.out.1 (by omega)
            refine ⟨h1, h2, fun j h4 h5 => ?_⟩
            by_cases hjk : j = k
            · subst hjk; exact HSP.out
            · exact h3 j h4 (by omega)
          case measure => simp [intOf]; omega
    · obtain rfl : k = s.size + 1 := by omega
      have hw := HI.out.2 rfl
      have hgt : decide (((s.size + 1 : Nat) : Int) ≤ (s.size : Int)) = false := by simp; omega
      obtain ⟨A, c, hu⟩ : ∃ A c, u5 = .slice A out.length c ∧ out.length ≤ c := by
        obtain ⟨A, c, ⟨hv, hc⟩ | ⟨hv, h0⟩⟩ := slice_of_own HO.out
        · exact ⟨A, c, hv, hc⟩
        · exact ⟨none, 0, by rw [hv, h0], by omega⟩
      obtain ⟨rfl, hoc⟩ := hu
      have HW := Lib.hid hw
      clear hw
      go_wp2_with fail
      go_ret
      rw [HW.out]
      exact ⟨A, c, rfl, hoc, Row.of_own HO.out (by simp), HB.out⟩
end Go.Proofs.YtoejjboanggenaaGreatDoor
