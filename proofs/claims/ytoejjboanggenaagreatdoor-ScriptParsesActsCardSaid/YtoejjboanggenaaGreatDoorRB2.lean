/-
Contract of the reference's integers.
-/
import Derived.Test.YtoejjboanggenaaGreatDoorRB
namespace Go.Proofs.YtoejjboanggenaaGreatDoor
open Go.RowKit
set_option linter.unusedVariables false
set_option linter.unusedSimpArgs false

def IntsPost (ss : List ByteArray) (w : World) (e : Ending) (w' : World) : Prop :=
  ∃ (A : Option Addr) (c : Nat) (zs : List Int) (ok : Bool), e = .returned (.tuple #[.slice A zs.length c, .bool ok]) ∧ zs.length ≤ c ∧ Ints w' w'.heap.size A zs.length zs ∧ (∀ z ∈ zs, I64 z) ∧ zs.length ≤ ss.length ∧
    (∀ b o, A = some ⟨b, o, none⟩ → w.heap.size ≤ b) ∧ (∀ xs : List Int, (∀ x ∈ xs, Small x) → ss = xs.map istr → ok = true ∧ zs = xs) ∧ Below w.heap.size w w'
set_option maxRecDepth 100000 in
set_option maxHeartbeats 8000000 in
theorem integers26 (A : Option Addr) (n c : Nat) (ss : List ByteArray) (w : World) (h : Strs w w.heap.size A n ss) (hn : n ≤ 1000000) (hsz : ∀ s ∈ ss, s.size ≤ 1000000) : Calls Tryz.prog 26 #[.slice A n c] w (IntsPost ss w) := by
  obtain ⟨i0, hi, hz0, hz1, hz2⟩ := info_parts info2
  have hl := h.len
  have HL := Lib.hid hl
  have H := Lib.hid h
  have HSZ := Lib.hid hsz
  clear hl h hsz
  go_enter Tryz.func26, Tryz.ntmps26
  go_upto_region 2 with fail
  have hown : (w.alloc (.cells #[] 2)).ownsRow w.heap.size 2 1 (.slice (some ⟨w.heap.size, 0, none⟩) 0 0) 0 [] := World.ownsRow_made w #[] 0 (Nat.le_refl _) (Nat.zero_le _) rfl
  have hb : Below w.heap.size w (w.alloc (.cells #[] 2)) := (Below.refl _ _).alloc (Nat.le_refl _) _
  generalize w.alloc (.cells #[] 2) = W0 at hown hb ⊢
  have HO := Lib.hid hown
  have HB := Lib.hid hb
  clear hown hb
  go_wp2_with fail
  go_loopw [4, 5] (fun u i wr => ∃ (q : Nat) (zs : List Int), q ≤ n ∧ i = .int .i64 q ∧ zs.length = q ∧ Hid (wr.ownsRow w.heap.size 2 1 u q (zs.map (Value.int .i64))) ∧ Hid (Below w.heap.size w wr) ∧ Hid (∀ z ∈ zs, I64 z) ∧
      Hid (∀ xs : List Int, (∀ x ∈ xs, Small x) → ss = xs.map istr → zs = xs.take q)) (fun _ i _ => n - (intOf i).toNat)
  case atStart => exact ⟨0, [], Nat.zero_le _, rfl, rfl, HO, HB, Lib.hid (by simp), Lib.hid fun xs _ _ => by simp⟩
  case round =>
    clear HO HB
    obtain ⟨q, zs, hq, rfl, hzl, HO, HB, HI, HX⟩ := hrel
    by_cases hlt : q < n
    · obtain ⟨b, off, s, rfl, hbb, hss, hc⟩ := H.out.at_ hlt
      have hc' : wr.cell? ⟨b, off + q, none⟩ = some (.string s) := (cells_below HB.out hbb _).trans hc
      have hk0 : 0 ≤ (q : Int) := by omega
      have hk1 : (q : Int) < n := by omega
      have HSS := Lib.hid hss
      have HC := Lib.hid (integer36 s wr (HSZ.out s (List.mem_of_getElem? hss)))
      clear hss hc
      go_wp2_with fail
      refine HC.out.mono ?_
      rintro e w1 ⟨z, ok, rfl, hzI, hzx, b1⟩
      have HO1 := Lib.hid (own_below HO.out b1)
      have HB1 := Lib.hid (HB.out.trans (b1.mono HB.out.size))
      have HZ := Lib.hid (And.intro hzI hzx)
      have HAT := Lib.hid (show ∀ xs : List Int, ss = xs.map istr → ∃ x, xs[q]? = some x ∧ s = istr x from fun xs e => by
        have h1 := HSS.out
        rw [e, List.getElem?_map] at h1
        obtain ⟨x, h2, h3⟩ := Option.map_eq_some_iff.1 h1
        exact ⟨x, h2, h3.symm⟩)
      clear hzI hzx b1 HO HB HC hc'
      cases ok with
      | false =>
        go_wp2_with fail
        go_ret2
        refine ⟨none, 0, [], false, rfl, Nat.le_refl _, Ints.none _ _, by simp, Nat.zero_le _, fun b o e => (by cases e), fun xs hs e => ?_, HB1.out⟩
        obtain ⟨x, h2, h3⟩ := HAT.out xs e
        exact absurd (HZ.out.2 x (hs x (List.mem_of_getElem? h2)) h3).1 (by decide)
      | true =>
        go_wp2_with (at_builtin; refine wpList_append_own _ rfl (.tmp 25) (.tmp 27) 22 rfl w.heap.size 2 i0 _ 1 8 Tryz.underlying22 hi hz0 hz1 hz2 rfl (by decide) _ _ _ rfl (HO1.out.alloc _) ⟨w1.heap.size, 0, none⟩ 1 1 [.int .i64 z] rfl rfl (fun j u hu => by rw [add_none, Nat.zero_add, (Blk.new w1 2 #[.int .i64 z]).cell j]; simpa using hu) (by simp [Value.oneCell']) (by unfold maxLen; omega) (by omega) (by have := HB1.out.size; simp; omega) ?_)
        intro u' w3 hown3 hgrow _
        have HO3 := Lib.hid hown3
        have HB3 := Lib.hid ((HB1.out.alloc HB1.out.size (.cells #[.int .i64 z] 2)).grown hgrow (by have := HB1.out.size; simp; omega) (fun q hq => (HO1.out.lt q hq).1))
        clear hown3 hgrow HO1 HB1
        go_wp2_with fail
        go_roundw
        case rel =>
          refine ⟨q + 1, zs ++ [z], by omega, by go_num, by rw [List.length_append, hzl]; rfl, by rw [List.map_append]; exact HO3, HB3, Lib.hid fun y hy => ?_, Lib.hid fun xs hs e => ?_⟩
          · rcases List.mem_append.1 hy with hy | hy
            · exact HI.out y hy
            · simp only [List.mem_cons, List.not_mem_nil, or_false] at hy
              subst hy
              exact HZ.out.1
          · obtain ⟨x, h2, h3⟩ := HAT.out xs e
            have h4 := (HZ.out.2 x (hs x (List.mem_of_getElem? h2)) h3).2
            rw [List.take_add_one, h2, ← HX.out xs hs e, h4]
            rfl
        case measure => simp [intOf]; omega
    · obtain rfl : q = n := by omega
      obtain ⟨A', c', hu⟩ : ∃ A' c', u4 = .slice A' q c' ∧ q ≤ c' := by
        obtain ⟨A', c', ⟨hv, hc⟩ | ⟨hv, h0⟩⟩ := slice_of_own HO.out
        · exact ⟨A', c', hv, hc⟩
        · exact ⟨none, 0, by rw [hv, h0], by omega⟩
      obtain ⟨rfl, hqc⟩ := hu
      go_wp2_with fail
      go_ret2
      subst hzl
      refine ⟨A', c', zs, true, rfl, hqc, Row.of_own HO.out (by simp), HI.out, by rw [HL.out]; exact hq, fun b o e => ?_, fun xs hs e => ⟨rfl, ?_⟩, HB.out⟩
      · subst e
        exact (HO.out.lt b rfl).1
      · have h1 := HX.out xs hs e
        have h2 : xs.length = zs.length := by rw [← HL.out, e, List.length_map]
        rw [List.take_of_length_le (by omega)] at h1
        exact h1
end Go.Proofs.YtoejjboanggenaaGreatDoor
