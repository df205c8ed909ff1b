/-
Contracts of the closures of survive and rest that read and write.
-/
import Derived.Test.YtoejjboanggenaaGreatDoorK
import Derived.Laws.AppendOwn
import Derived.Laws.OwnMore
import Derived.RangeFuncBox
namespace Go.Proofs.YtoejjboanggenaaGreatDoor
open Go.RowKit
set_option linter.unusedVariables false
set_option linter.unusedSimpArgs false

theorem grown_below {w w' : World} (h : Below w.heap.size w w') : w.grownBy w' none := ⟨h.os, h.tape, h.output, h.size, fun k hk _ => h.block k hk⟩
theorem own_below {w w' : World} {base : Nat} {t : TypeId} {v : Value} {n size : Nat} {xs : List Value} (h : w.ownsRow base t size v n xs) (hb : Below w.heap.size w w') : w'.ownsRow base t size v n xs :=
  h.kept (row := none) (grown_below hb) (by cases v.ownBlock <;> simp)
theorem own_same {w w' : World} {base size n : Nat} {e : TypeId} {u : Value} {xs : List Value} (h : w.ownsRow base e size u n xs) (hs : ∀ g, u.ownBlock = some g → w'.heap[g]? = w.heap[g]?) : w'.ownsRow base e size u n xs := by
  refine ⟨h.1, ?_⟩
  rcases h.2 with h1 | ⟨g, cap, cur, rfl, h2, h3, h4⟩
  · exact .inl h1
  · exact .inr ⟨g, cap, cur, rfl, h2, (hs g rfl).trans h3, h4⟩
theorem slice_of_own {w : World} {base : Nat} {t : TypeId} {v : Value} {n size : Nat} {xs : List Value} (h : w.ownsRow base t size v n xs) : ∃ A c, v = .slice A n c ∧ n ≤ c ∨ v = .slice none 0 0 ∧ n = 0 := by
  rcases h.2 with ⟨rfl, h0⟩ | ⟨g, cap, cur, rfl, h2, h3, h4⟩
  · exact ⟨none, 0, .inr ⟨rfl, by simpa using h0⟩⟩
  · refine ⟨_, _, .inl ⟨rfl, ?_⟩⟩
    exact h4.1
theorem add_none (b o j : Nat) : (⟨b, o, none⟩ : Addr).add j = ⟨b, o + j, none⟩ := by unfold Addr.add; split <;> simp_all
/-- what a row of one-cell values holds. -/
theorem Row.of_own {w : World} {base : Nat} {e : TypeId} {A : Option Addr} {n c : Nat} {xs : List Value} (h : w.ownsRow base e 1 (.slice A n c) n xs) (hx : xs.length = n) : Row w w.heap.size A n xs := by
  refine ⟨hx, fun h0 => ?_⟩
  rcases h.2 with ⟨h1, h2⟩ | ⟨g, cap, cur, h1, h2, h3, h4⟩
  · simp only [Value.slice.injEq] at h1; omega
  · simp only [Value.slice.injEq, true_and] at h1
    obtain ⟨rfl, rfl⟩ := h1
    refine ⟨g, 0, rfl, (h.lt g rfl).2, fun j v hv => ?_⟩
    rw [Nat.zero_add, h.cellAt j (by have := (List.getElem?_eq_some_iff.1 hv).1; omega)]
    exact hv
theorem info9 : (Tryz.prog.info? 9).map (fun i => (i.zero, i.size, i.bytes)) = some (some (.string ⟨#[]⟩), 1, 16) := by kernel_rfl
theorem info3 : (Tryz.prog.info? 3).map (fun i => (i.zero, i.size, i.bytes)) = some (some (.int .i64 0), 1, 8) := by kernel_rfl
theorem info2 : (Tryz.prog.info? 2).map (fun i => (i.zero, i.size, i.bytes)) = some (some (.int .i64 0), 1, 8) := by kernel_rfl
theorem map_snoc {α β : Type} {f : α → β} {l : List α} {k : Nat} {x : α} (h : l[k]? = some x) : (l.take (k + 1)).map f = (l.take k).map f ++ [f x] := by
  have hk := (List.getElem?_eq_some_iff.1 h).1
  have hz : l[k] = x := by rw [List.getElem?_eq_getElem hk] at h; simpa using h
  rw [List.take_succ_eq_append_getElem hk, List.map_append, hz]; rfl
def istrs (zs : List Int) : List Value := (zs.map istr).map Value.string
theorem istrs_snoc {zs : List Int} {k : Nat} {z : Int} (h : zs[k]? = some z) : istrs (zs.take (k + 1)) = istrs (zs.take k) ++ [.string (istr z)] := by
  unfold istrs; rw [map_snoc h, List.map_append]; rfl
/-- what a writing closure answers: the words. -/
def Words (w : World) (ws : List ByteArray) (e : Ending) (w' : World) : Prop := ∃ A c, e = .returned (.slice A ws.length c) ∧ Strs w' w'.heap.size A ws.length ws ∧ Below w.heap.size w w'
set_option maxHeartbeats 2000000 in
theorem write66 (v : Av) (zs : List Int) (w : World) (hg : Gl w) (h : Ints w w.heap.size v.A2 v.n2 zs) (hn : v.n2 ≤ 1000000) (hI : ∀ z ∈ zs, I64 z) :
    Calls Tryz.prog 66 #[.agg v.cells] w (Words w (zs.map istr)) := by
  obtain ⟨i0, hi, hz0, hz1, hz2⟩ := info_parts info9
  unfold Av.cells
  have hbel : Below w.heap.size w (w.alloc (.cells #[.int .i64 v.k, .int .i64 v.a, .int .i64 v.b, .string v.nm, .string v.mt, .slice v.A v.n v.c, .slice v.A2 v.n2 v.c2] 25)) := (Below.refl _ _).alloc (Nat.le_refl _) _
  have c5 : (w.alloc (.cells #[.int .i64 v.k, .int .i64 v.a, .int .i64 v.b, .string v.nm, .string v.mt, .slice v.A v.n v.c, .slice v.A2 v.n2 v.c2] 25)).cell? ⟨w.heap.size, 6, none⟩ = some (.slice v.A2 v.n2 v.c2) := (Blk.new w 25 _).cell 6
  have hI2 := h.below hbel
  have HL := Lib.hid h.len
  have HB := Lib.hid hbel
  have HG := Lib.hid (GlB.below hg hbel)
  have HI := Lib.hid hI
  have hsz : w.heap.size + 1 = (w.alloc (.cells #[.int .i64 v.k, .int .i64 v.a, .int .i64 v.b, .string v.nm, .string v.mt, .slice v.A v.n v.c, .slice v.A2 v.n2 v.c2] 25)).heap.size := by simp
  clear h hbel hg hI
  go_enter Tryz.func66, Tryz.ntmps66
  go_upto_region 1 with (fail)
  generalize w.alloc (.cells #[.int .i64 v.k, .int .i64 v.a, .int .i64 v.b, .string v.nm, .string v.mt, .slice v.A v.n v.c, .slice v.A2 v.n2 v.c2] 25) = W at *
  have hwW : w.heap.size ≤ W.heap.size := by omega
  have HSZ := Lib.hid hsz
  clear hsz
  go_wp2_with fail
  go_loopw [3, 9] (fun u i wr => ∃ q : Nat, q ≤ v.n2 ∧ i = .int .i64 q ∧ wr.ownsRow W.heap.size 9 1 u q (istrs (zs.take q)) ∧ Below W.heap.size W wr) (fun _ i _ => v.n2 - (intOf i).toNat)
  case atStart => exact ⟨0, Nat.zero_le _, rfl, World.ownsRow_nil _ _ _ _, Below.refl _ _⟩
  case round =>
    obtain ⟨q, hq, rfl, hown, hbw⟩ := hrel
    by_cases hlt : q < v.n2
    · obtain ⟨b, off, z, hA, hbb, hz, hc⟩ := hI2.at_ hlt
      have hc' : wr.cell? ⟨b, off + q, none⟩ = some (.int .i64 z) := (cells_below hbw (by omega) _).trans hc
      have hk0 : 0 ≤ (q : Int) := by omega
      have hk1 : (q : Int) < v.n2 := by omega
      have HZ := Lib.hid hz
      have HOWN := Lib.hid hown
      have HBW := Lib.hid hbw
      clear hz hc hown hbw
      rw [hA]
      go_wp2_with fail
      refine (itoa10 _ _ (HI.out z (List.mem_of_getElem? HZ.out)) (GlB.gl ((GlB.below HG.out (HBW.out.mono hwW)).more (Nat.le_refl _) (by have := HBW.out.size; omega)))).mono ?_
      rintro e w1 ⟨rfl, b1⟩
      have hown1 := own_below HOWN.out b1
      have hb1 := HBW.out.trans (b1.mono HBW.out.size)
      clear b1 hc'
      go_wp2_with (at_builtin; refine wpList_append_own _ rfl (.tmp 13) (.tmp 16) 39 rfl W.heap.size 9 i0 _ 1 16 Tryz.underlying39 hi hz0 hz1 hz2 rfl (by decide) _ _ _ rfl (hown1.alloc _) ⟨w1.heap.size, 0, none⟩ 1 1 [.string (istr z)] rfl rfl (fun j u hu => by rw [add_none, Nat.zero_add, (Blk.new w1 9 #[.string (istr z)]).cell j]; simpa using hu) (by simp [Value.oneCell']) (by unfold maxLen; omega) (by omega) (by have := hb1.size; simp; omega) ?_)
      intro u' w3 hown3 hgrow _
      have hb3 := (hb1.alloc hb1.size _).grown hgrow (by have := hb1.size; simp; omega) (fun r hr => (hown1.lt r hr).1)
      have HO3 := Lib.hid hown3
      have HB3 := Lib.hid hb3
      clear hown3 hgrow hb3 hb1 hown1
      go_wp2_with fail
      go_roundw
      case rel => exact ⟨q + 1, by omega, by go_num, by rw [istrs_snoc HZ.out]; exact HO3.out, HB3.out⟩
      case measure => simp [intOf]; omega
    · obtain rfl : q = v.n2 := by omega
      have HO := Lib.hid hown
      have HBW := Lib.hid hbw
      clear hown hbw
      go_wp2_with fail
      go_ret
      have h1 := HO.out
      rw [List.take_of_length_le (by rw [HL.out]; omega)] at h1
      have hlen : (zs.map istr).length = v.n2 := by rw [List.length_map]; exact HL.out
      have hbel := HB.out.trans (HBW.out.mono (by have := HSZ.out; omega))
      obtain ⟨A', c', h2 | h2⟩ := slice_of_own h1
      · obtain ⟨rfl, _⟩ := h2
        refine ⟨A', c', by rw [hlen]; rfl, ?_, hbel⟩
        rw [hlen]
        exact Row.of_own h1 (by rw [List.length_map]; exact hlen)
      · obtain ⟨rfl, h3⟩ := h2
        refine ⟨none, 0, by rw [hlen, h3]; rfl, ?_, hbel⟩
        rw [hlen, h3]
        exact ⟨by rw [List.length_map, hlen, h3], fun h0 => absurd h0 (Nat.lt_irrefl 0)⟩
set_option maxHeartbeats 2000000 in
theorem write72 (v : Av) (zs : List Int) (w : World) (hg : Gl w) (h : Ints w w.heap.size v.A v.n zs) (hn : v.n ≤ 1000000) (hI : ∀ z ∈ zs, I64 z) :
    Calls Tryz.prog 72 #[.agg v.cells] w (Words w (zs.map istr)) := by
  obtain ⟨i0, hi, hz0, hz1, hz2⟩ := info_parts info9
  unfold Av.cells
  have hbel : Below w.heap.size w (w.alloc (.cells #[.int .i64 v.k, .int .i64 v.a, .int .i64 v.b, .string v.nm, .string v.mt, .slice v.A v.n v.c, .slice v.A2 v.n2 v.c2] 25)) := (Below.refl _ _).alloc (Nat.le_refl _) _
  have c5 : (w.alloc (.cells #[.int .i64 v.k, .int .i64 v.a, .int .i64 v.b, .string v.nm, .string v.mt, .slice v.A v.n v.c, .slice v.A2 v.n2 v.c2] 25)).cell? ⟨w.heap.size, 5, none⟩ = some (.slice v.A v.n v.c) := (Blk.new w 25 _).cell 5
  have hI2 := h.below hbel
  have HL := Lib.hid h.len
  have HB := Lib.hid hbel
  have HG := Lib.hid (GlB.below hg hbel)
  have HI := Lib.hid hI
  have hsz : w.heap.size + 1 = (w.alloc (.cells #[.int .i64 v.k, .int .i64 v.a, .int .i64 v.b, .string v.nm, .string v.mt, .slice v.A v.n v.c, .slice v.A2 v.n2 v.c2] 25)).heap.size := by simp
  clear h hbel hg hI
  go_enter Tryz.func72, Tryz.ntmps72
  go_upto_region 1 with (fail)
  generalize w.alloc (.cells #[.int .i64 v.k, .int .i64 v.a, .int .i64 v.b, .string v.nm, .string v.mt, .slice v.A v.n v.c, .slice v.A2 v.n2 v.c2] 25) = W at *
  have hwW : w.heap.size ≤ W.heap.size := by omega
  have HSZ := Lib.hid hsz
  clear hsz
  go_wp2_with fail
  go_loopw [3, 9] (fun u i wr => ∃ q : Nat, q ≤ v.n ∧ i = .int .i64 q ∧ wr.ownsRow W.heap.size 9 1 u q (istrs (zs.take q)) ∧ Below W.heap.size W wr) (fun _ i _ => v.n - (intOf i).toNat)
  case atStart => exact ⟨0, Nat.zero_le _, rfl, World.ownsRow_nil _ _ _ _, Below.refl _ _⟩
  case round =>
    obtain ⟨q, hq, rfl, hown, hbw⟩ := hrel
    by_cases hlt : q < v.n
    · obtain ⟨b, off, z, hA, hbb, hz, hc⟩ := hI2.at_ hlt
      have hc' : wr.cell? ⟨b, off + q, none⟩ = some (.int .i64 z) := (cells_below hbw (by omega) _).trans hc
      have hk0 : 0 ≤ (q : Int) := by omega
      have hk1 : (q : Int) < v.n := by omega
      have HZ := Lib.hid hz
      have HOWN := Lib.hid hown
      have HBW := Lib.hid hbw
      clear hz hc hown hbw
      rw [hA]
      go_wp2_with fail
      refine (format10 _ _ (HI.out z (List.mem_of_getElem? HZ.out)) (GlB.gl ((GlB.below HG.out (HBW.out.mono hwW)).more (Nat.le_refl _) (by have := HBW.out.size; omega)))).mono ?_
      rintro e w1 ⟨rfl, b1⟩
      have hown1 := own_below HOWN.out b1
      have hb1 := HBW.out.trans (b1.mono HBW.out.size)
      clear b1 hc'
      go_wp2_with (at_builtin; refine wpList_append_own _ rfl (.tmp 13) (.tmp 16) 39 rfl W.heap.size 9 i0 _ 1 16 Tryz.underlying39 hi hz0 hz1 hz2 rfl (by decide) _ _ _ rfl (hown1.alloc _) ⟨w1.heap.size, 0, none⟩ 1 1 [.string (istr z)] rfl rfl (fun j u hu => by rw [add_none, Nat.zero_add, (Blk.new w1 9 #[.string (istr z)]).cell j]; simpa using hu) (by simp [Value.oneCell']) (by unfold maxLen; omega) (by omega) (by have := hb1.size; simp; omega) ?_)
      intro u' w3 hown3 hgrow _
      have hb3 := (hb1.alloc hb1.size _).grown hgrow (by have := hb1.size; simp; omega) (fun r hr => (hown1.lt r hr).1)
      have HO3 := Lib.hid hown3
      have HB3 := Lib.hid hb3
      clear hown3 hgrow hb3 hb1 hown1
      go_wp2_with fail
      go_roundw
      case rel => exact ⟨q + 1, by omega, by go_num, by rw [istrs_snoc HZ.out]; exact HO3.out, HB3.out⟩
      case measure => simp [intOf]; omega
    · obtain rfl : q = v.n := by omega
      have HO := Lib.hid hown
      have HBW := Lib.hid hbw
      clear hown hbw
      go_wp2_with fail
      go_ret
      have h1 := HO.out
      rw [List.take_of_length_le (by rw [HL.out]; omega)] at h1
      have hlen : (zs.map istr).length = v.n := by rw [List.length_map]; exact HL.out
      have hbel := HB.out.trans (HBW.out.mono (by have := HSZ.out; omega))
      obtain ⟨A', c', h2 | h2⟩ := slice_of_own h1
      · obtain ⟨rfl, _⟩ := h2
        refine ⟨A', c', by rw [hlen]; rfl, ?_, hbel⟩
        rw [hlen]
        exact Row.of_own h1 (by rw [List.length_map]; exact hlen)
      · obtain ⟨rfl, h3⟩ := h2
        refine ⟨none, 0, by rw [hlen, h3]; rfl, ?_, hbel⟩
        rw [hlen, h3]
        exact ⟨by rw [List.length_map, hlen, h3], fun h0 => absurd h0 (Nat.lt_irrefl 0)⟩
def ints (ss : List ByteArray) : List Value := (ss.map numV).map (Value.int .i64)
theorem ints_snoc {ss : List ByteArray} {k : Nat} {s : ByteArray} (h : ss[k]? = some s) : ints (ss.take (k + 1)) = ints (ss.take k) ++ [.int .i64 (numV s)] := by
  unfold ints; rw [map_snoc h, List.map_append]; rfl
/-- what a reading closure leaves: the act's block L with the list in cell j. -/
def ReadAll (w : World) (L : Nat) (cs : Array Value) (j : Nat) (ss : List ByteArray) (e : Ending) (w' : World) : Prop :=
  ∃ A c, e = .returned (.tuple #[.slice none 0 0, .bool true]) ∧ Ints w' w'.heap.size A ss.length (ss.map numV) ∧ Blk w' L 25 (cs.setIfInBounds j (.slice A ss.length c)) ∧ Below L w w' ∧ w.heap.size ≤ w'.heap.size ∧ ∀ b o, A = some ⟨b, o, none⟩ → L < b
theorem setIf_twice {cs : Array Value} {j : Nat} {u v : Value} : (cs.setIfInBounds j u).setIfInBounds j v = cs.setIfInBounds j v := by simp
set_option maxRecDepth 100000 in
set_option maxHeartbeats 4000000 in
theorem read65_yes (L : Nat) (cs : Array Value) (A : Option Addr) (n c : Nat) (ss : List ByteArray) (w : World) (hg : GlB w L) (hs : Strs w L A n ss) (hn : n ≤ 1000000) (hsz : ∀ s ∈ ss, s.size ≤ 1000000) (hL : Blk w L 25 cs) (hx : cs[6]? = some (.slice none 0 0)) (hall : ss.all numOk = true) :
    Calls Tryz.prog 65 #[.pointer (some ⟨L, 0, none⟩), .slice A n c] w (ReadAll w L cs 6 ss) := by
  have HALL := Lib.hid hall
  clear hall
  obtain ⟨i0, hi, hz0, hz1, hz2⟩ := info_parts info3
  have HLN := Lib.hid hs.len
  have hLw := hL.lt
  have HX := Lib.hid hx
  have HG := Lib.hid hg
  have HSZ := Lib.hid hsz
  have hcs : cs.setIfInBounds 6 (.slice none 0 0) = cs := by
    apply Array.ext_getElem?
    intro k
    rw [Array.getElem?_setIfInBounds]
    by_cases hk : 6 = k
    · subst hk; rw [if_pos rfl, if_pos (Array.getElem?_eq_some_iff.1 hx).1, hx]
    · rw [if_neg hk]
  have hL0 : Blk w L 25 (cs.setIfInBounds 6 (.slice none 0 0)) := by rw [hcs]; exact hL
  clear hx hg hsz hcs hL
  go_enter Tryz.func65, Tryz.ntmps65
  go_wp2_with fail
  go_loopw [12] (fun i wr => ∃ (q : Nat) (u : Value), q ≤ n ∧ i = .int .i64 q ∧ wr.ownsRow w.heap.size 3 1 u q (ints (ss.take q)) ∧ Blk wr L 25 (cs.setIfInBounds 6 u) ∧ Below L w wr ∧ w.heap.size ≤ wr.heap.size ∧ Hid ((ss.take q).all numOk = true)) (fun i _ => n - (intOf i).toNat)
  case atStart => exact ⟨0, _, Nat.zero_le _, rfl, World.ownsRow_nil _ _ _ _, hL0, Below.refl _ _, Nat.le_refl _, Lib.hid (by simp)⟩
  case round =>
    obtain ⟨q, u, hq, rfl, hown, hbl, hbw, hsw, HAL⟩ := hrel
    clear hL0
    by_cases hlt : q < n
    · obtain ⟨b, off, s, rfl, hbb, hss, hc⟩ := hs.at_ hlt
      have hc' : wr.cell? ⟨b, off + q, none⟩ = some (.string s) := (cells_below hbw hbb _).trans hc
      have hk0 : 0 ≤ (q : Int) := by omega
      have hk1 : (q : Int) < n := by omega
      have hs6 := HSZ.out s (List.mem_of_getElem? hss)
      have HSS := Lib.hid hss
      have HOWN := Lib.hid hown
      have HBL := Lib.hid hbl
      have HBW := Lib.hid hbw
      clear hss hc hown hbl hbw
      go_wp2_with fail
      refine (number55' s _ (GlB.gl ((GlB.below HG.out HBW.out))) hs6).mono ?_
      rintro e w1 ⟨rfl, b1⟩
      cases hok : numOk s with
      | false =>
        have HOK := Lib.hid hok
        clear hok
        have hbf := HBW.out.trans (b1.mono (Nat.le_trans (Nat.le_of_lt hLw) hsw))
        clear b1
        go_wp2_with fail
        go_ret2
        exact absurd (List.all_eq_true.1 HALL.out s (List.mem_of_getElem? HSS.out)) (by rw [HOK.out]; simp)
      | true =>
        have HOK := Lib.hid hok
        clear hok
        have hown1 := own_below HOWN.out b1
        have hbl1 := HBL.out.below b1 HBL.out.lt
        have hb1 := HBW.out.trans (b1.mono (Nat.le_trans (Nat.le_of_lt hLw) hsw))
        have hs1 := Nat.le_trans hsw b1.size
        have d5 : w1.cell? ⟨L, 6, none⟩ = some u := by rw [hbl1.cell]; simp [Array.getElem?_setIfInBounds, (Array.getElem?_eq_some_iff.1 HX.out).1]
        have d6 : (w1.alloc (.cells #[.int .i64 (numV s)] 3)).cell? ⟨L, 6, none⟩ = some u := ((hbl1.alloc _).cell 6).trans (by rw [← hbl1.cell]; exact d5)
        have HB1 := Lib.hid (And.intro hbl1 hb1)
        clear b1 hc' hbl1 hb1
        go_wp2_with (at_builtin; refine wpList_append_own _ rfl (.tmp 27) (.tmp 29) 23 rfl w.heap.size 3 i0 _ 1 8 Tryz.underlying23 hi hz0 hz1 hz2 rfl (by decide) _ _ _ rfl (hown1.alloc _) ⟨w1.heap.size, 0, none⟩ 1 1 [.int .i64 (numV s)] rfl rfl (fun j u hu => by rw [add_none, Nat.zero_add, (Blk.new w1 3 #[.int .i64 (numV s)]).cell j]; simpa using hu) (by simp [Value.oneCell']) (by unfold maxLen; omega) (by omega) (by simp; omega) ?_)
        intro u' w3 hown3 hgrow _
        obtain ⟨g', cap', rfl⟩ := ownsRow_succ hown3
        have hLu : some L ≠ u.ownBlock := fun e => by have := (hown1.lt L e.symm).1; omega
        have hbl3 : Blk w3 L 25 (cs.setIfInBounds 6 u) := (hgrow.block L (by simp; omega) hLu).trans (HB1.out.1.alloc _)
        have hLu' : some L ≠ (Value.slice (some ⟨g', 0, none⟩) (q + 1) cap').ownBlock := fun e => by have := (hown3.lt L e.symm).1; omega
        have hb3 : Below L w w3 := ((HB1.out.2.alloc (by omega) _).grown hgrow (by simp; omega) (fun r hr => by have := (hown1.lt r hr).1; omega))
        have hs3 : w.heap.size ≤ w3.heap.size := by have := hgrow.size; simp at this; omega
        have d7 : w3.cell? ⟨L, 6, none⟩ = some u := by rw [hbl3.cell]; simp [Array.getElem?_setIfInBounds, (Array.getElem?_eq_some_iff.1 HX.out).1]
        have f7 := hbl3.frozen 6
        have HEND := Lib.hid (show (w3.setCell ⟨L, 6, none⟩ (.slice (some ⟨g', 0, none⟩) (q + 1) cap')).ownsRow w.heap.size 3 1 (.slice (some ⟨g', 0, none⟩) (q + 1) cap') (q + 1) (ints (ss.take (q + 1))) ∧ Blk (w3.setCell ⟨L, 6, none⟩ (.slice (some ⟨g', 0, none⟩) (q + 1) cap')) L 25 (cs.setIfInBounds 6 (.slice (some ⟨g', 0, none⟩) (q + 1) cap')) ∧ Below L w (w3.setCell ⟨L, 6, none⟩ (.slice (some ⟨g', 0, none⟩) (q + 1) cap')) ∧ w.heap.size ≤ (w3.setCell ⟨L, 6, none⟩ (.slice (some ⟨g', 0, none⟩) (q + 1) cap')).heap.size from
          ⟨own_same (by rw [ints_snoc HSS.out]; exact hown3) (fun g hg => Below.heap_setCell _ _ _ _ (fun e => hLu' (by rw [hg, e]))), by have := hbl3.set 6 (.slice (some ⟨g', 0, none⟩) (q + 1) cap'); rwa [setIf_twice] at this, hb3.setCell (Nat.le_refl _) _, by simpa using hs3⟩)
        clear hown3 hgrow hb3 hown1 hbl3 hLu hLu' HB1 hs3
        go_wp2_with fail
        go_roundw
        case rel => exact ⟨q + 1, (.slice (some ⟨g', 0, none⟩) (q + 1) cap'), by omega, by go_num, HEND.out.1, HEND.out.2.1, HEND.out.2.2.1, HEND.out.2.2.2, Lib.hid (by rw [all_take HSS.out, HAL.out, HOK.out]; rfl)⟩
        case measure => simp [intOf]; omega
    · obtain rfl : q = n := by omega
      have HEND := Lib.hid (And.intro hown (And.intro hbl hbw))
      clear hown hbl hbw
      go_wp2_with fail
      go_ret2
      obtain ⟨h1, h2, h3⟩ := HEND.out
      rw [List.take_of_length_le (by rw [HLN.out]; omega)] at h1
      have hlen : ss.length = q := HLN.out
      obtain ⟨A', c', h4 | h4⟩ := slice_of_own h1
      · obtain ⟨rfl, _⟩ := h4
        refine ⟨A', c', rfl, ?_, by rw [hlen]; exact h2, h3, hsw, fun b o hA => Nat.lt_of_lt_of_le hLw (h1.lt b (by rw [hA]; rfl)).1⟩
        rw [hlen]
        exact Row.of_own h1 (by simp [hlen])
      · obtain ⟨rfl, h5⟩ := h4
        refine ⟨none, 0, rfl, ?_, by rw [hlen, h5]; exact h2, h3, hsw, fun b o hA => by cases hA⟩
        have : ss = [] := List.eq_nil_of_length_eq_zero (by omega)
        subst this
        exact ⟨rfl, fun h0 => absurd h0 (Nat.lt_irrefl 0)⟩
set_option maxRecDepth 100000 in
set_option maxHeartbeats 4000000 in
theorem read65_no (L : Nat) (cs : Array Value) (A : Option Addr) (n c : Nat) (ss : List ByteArray) (w : World) (hg : GlB w L) (hs : Strs w L A n ss) (hn : n ≤ 1000000) (hsz : ∀ s ∈ ss, s.size ≤ 1000000) (hL : Blk w L 25 cs) (hx : cs[6]? = some (.slice none 0 0)) (hall : ss.all numOk = false) :
    Calls Tryz.prog 65 #[.pointer (some ⟨L, 0, none⟩), .slice A n c] w fun e w' => e = .returned (.tuple #[.slice none 0 0, .bool false]) ∧ Below L w w' := by
  have HALL := Lib.hid hall
  clear hall
  obtain ⟨i0, hi, hz0, hz1, hz2⟩ := info_parts info3
  have HLN := Lib.hid hs.len
  have hLw := hL.lt
  have HX := Lib.hid hx
  have HG := Lib.hid hg
  have HSZ := Lib.hid hsz
  have hcs : cs.setIfInBounds 6 (.slice none 0 0) = cs := by
    apply Array.ext_getElem?
    intro k
    rw [Array.getElem?_setIfInBounds]
    by_cases hk : 6 = k
    · subst hk; rw [if_pos rfl, if_pos (Array.getElem?_eq_some_iff.1 hx).1, hx]
    · rw [if_neg hk]
  have hL0 : Blk w L 25 (cs.setIfInBounds 6 (.slice none 0 0)) := by rw [hcs]; exact hL
  clear hx hg hsz hcs hL
  go_enter Tryz.func65, Tryz.ntmps65
  go_wp2_with fail
  go_loopw [12] (fun i wr => ∃ (q : Nat) (u : Value), q ≤ n ∧ i = .int .i64 q ∧ wr.ownsRow w.heap.size 3 1 u q (ints (ss.take q)) ∧ Blk wr L 25 (cs.setIfInBounds 6 u) ∧ Below L w wr ∧ w.heap.size ≤ wr.heap.size ∧ Hid ((ss.take q).all numOk = true)) (fun i _ => n - (intOf i).toNat)
  case atStart => exact ⟨0, _, Nat.zero_le _, rfl, World.ownsRow_nil _ _ _ _, hL0, Below.refl _ _, Nat.le_refl _, Lib.hid (by simp)⟩
  case round =>
    obtain ⟨q, u, hq, rfl, hown, hbl, hbw, hsw, HAL⟩ := hrel
    clear hL0
    by_cases hlt : q < n
    · obtain ⟨b, off, s, rfl, hbb, hss, hc⟩ := hs.at_ hlt
      have hc' : wr.cell? ⟨b, off + q, none⟩ = some (.string s) := (cells_below hbw hbb _).trans hc
      have hk0 : 0 ≤ (q : Int) := by omega
      have hk1 : (q : Int) < n := by omega
      have hs6 := HSZ.out s (List.mem_of_getElem? hss)
      have HSS := Lib.hid hss
      have HOWN := Lib.hid hown
      have HBL := Lib.hid hbl
      have HBW := Lib.hid hbw
      clear hss hc hown hbl hbw
      go_wp2_with fail
      refine (number55' s _ (GlB.gl ((GlB.below HG.out HBW.out))) hs6).mono ?_
      rintro e w1 ⟨rfl, b1⟩
      cases hok : numOk s with
      | false =>
        have HOK := Lib.hid hok
        clear hok
        have hbf := HBW.out.trans (b1.mono (Nat.le_trans (Nat.le_of_lt hLw) hsw))
        clear b1
        go_wp2_with fail
        go_ret2
        exact ⟨rfl, hbf⟩
      | true =>
        have HOK := Lib.hid hok
        clear hok
        have hown1 := own_below HOWN.out b1
        have hbl1 := HBL.out.below b1 HBL.out.lt
        have hb1 := HBW.out.trans (b1.mono (Nat.le_trans (Nat.le_of_lt hLw) hsw))
        have hs1 := Nat.le_trans hsw b1.size
        have d5 : w1.cell? ⟨L, 6, none⟩ = some u := by rw [hbl1.cell]; simp [Array.getElem?_setIfInBounds, (Array.getElem?_eq_some_iff.1 HX.out).1]
        have d6 : (w1.alloc (.cells #[.int .i64 (numV s)] 3)).cell? ⟨L, 6, none⟩ = some u := ((hbl1.alloc _).cell 6).trans (by rw [← hbl1.cell]; exact d5)
        have HB1 := Lib.hid (And.intro hbl1 hb1)
        clear b1 hc' hbl1 hb1
        go_wp2_with (at_builtin; refine wpList_append_own _ rfl (.tmp 27) (.tmp 29) 23 rfl w.heap.size 3 i0 _ 1 8 Tryz.underlying23 hi hz0 hz1 hz2 rfl (by decide) _ _ _ rfl (hown1.alloc _) ⟨w1.heap.size, 0, none⟩ 1 1 [.int .i64 (numV s)] rfl rfl (fun j u hu => by rw [add_none, Nat.zero_add, (Blk.new w1 3 #[.int .i64 (numV s)]).cell j]; simpa using hu) (by simp [Value.oneCell']) (by unfold maxLen; omega) (by omega) (by simp; omega) ?_)
        intro u' w3 hown3 hgrow _
        obtain ⟨g', cap', rfl⟩ := ownsRow_succ hown3
        have hLu : some L ≠ u.ownBlock := fun e => by have := (hown1.lt L e.symm).1; omega
        have hbl3 : Blk w3 L 25 (cs.setIfInBounds 6 u) := (hgrow.block L (by simp; omega) hLu).trans (HB1.out.1.alloc _)
        have hLu' : some L ≠ (Value.slice (some ⟨g', 0, none⟩) (q + 1) cap').ownBlock := fun e => by have := (hown3.lt L e.symm).1; omega
        have hb3 : Below L w w3 := ((HB1.out.2.alloc (by omega) _).grown hgrow (by simp; omega) (fun r hr => by have := (hown1.lt r hr).1; omega))
        have hs3 : w.heap.size ≤ w3.heap.size := by have := hgrow.size; simp at this; omega
        have d7 : w3.cell? ⟨L, 6, none⟩ = some u := by rw [hbl3.cell]; simp [Array.getElem?_setIfInBounds, (Array.getElem?_eq_some_iff.1 HX.out).1]
        have f7 := hbl3.frozen 6
        have HEND := Lib.hid (show (w3.setCell ⟨L, 6, none⟩ (.slice (some ⟨g', 0, none⟩) (q + 1) cap')).ownsRow w.heap.size 3 1 (.slice (some ⟨g', 0, none⟩) (q + 1) cap') (q + 1) (ints (ss.take (q + 1))) ∧ Blk (w3.setCell ⟨L, 6, none⟩ (.slice (some ⟨g', 0, none⟩) (q + 1) cap')) L 25 (cs.setIfInBounds 6 (.slice (some ⟨g', 0, none⟩) (q + 1) cap')) ∧ Below L w (w3.setCell ⟨L, 6, none⟩ (.slice (some ⟨g', 0, none⟩) (q + 1) cap')) ∧ w.heap.size ≤ (w3.setCell ⟨L, 6, none⟩ (.slice (some ⟨g', 0, none⟩) (q + 1) cap')).heap.size from
          ⟨own_same (by rw [ints_snoc HSS.out]; exact hown3) (fun g hg => Below.heap_setCell _ _ _ _ (fun e => hLu' (by rw [hg, e]))), by have := hbl3.set 6 (.slice (some ⟨g', 0, none⟩) (q + 1) cap'); rwa [setIf_twice] at this, hb3.setCell (Nat.le_refl _) _, by simpa using hs3⟩)
        clear hown3 hgrow hb3 hown1 hbl3 hLu hLu' HB1 hs3
        go_wp2_with fail
        go_roundw
        case rel => exact ⟨q + 1, (.slice (some ⟨g', 0, none⟩) (q + 1) cap'), by omega, by go_num, HEND.out.1, HEND.out.2.1, HEND.out.2.2.1, HEND.out.2.2.2, Lib.hid (by rw [all_take HSS.out, HAL.out, HOK.out]; rfl)⟩
        case measure => simp [intOf]; omega
    · obtain rfl : q = n := by omega
      have HEND := Lib.hid (And.intro hown (And.intro hbl hbw))
      clear hown hbl hbw
      go_wp2_with fail
      go_ret2
      exact absurd HAL.out (by rw [List.take_of_length_le (by rw [HLN.out]; omega), HALL.out]; simp)
set_option maxRecDepth 100000 in
set_option maxHeartbeats 4000000 in
theorem read71_yes (L : Nat) (cs : Array Value) (A : Option Addr) (n c : Nat) (ss : List ByteArray) (w : World) (hg : GlB w L) (hs : Strs w L A n ss) (hn : n ≤ 1000000) (hsz : ∀ s ∈ ss, s.size ≤ 1000000) (hL : Blk w L 25 cs) (hx : cs[5]? = some (.slice none 0 0)) (hall : ss.all numOk = true) :
    Calls Tryz.prog 71 #[.pointer (some ⟨L, 0, none⟩), .slice A n c] w (ReadAll w L cs 5 ss) := by
  have HALL := Lib.hid hall
  clear hall
  obtain ⟨i0, hi, hz0, hz1, hz2⟩ := info_parts info2
  have HLN := Lib.hid hs.len
  have hLw := hL.lt
  have HX := Lib.hid hx
  have HG := Lib.hid hg
  have HSZ := Lib.hid hsz
  have hcs : cs.setIfInBounds 5 (.slice none 0 0) = cs := by
    apply Array.ext_getElem?
    intro k
    rw [Array.getElem?_setIfInBounds]
    by_cases hk : 5 = k
    · subst hk; rw [if_pos rfl, if_pos (Array.getElem?_eq_some_iff.1 hx).1, hx]
    · rw [if_neg hk]
  have hL0 : Blk w L 25 (cs.setIfInBounds 5 (.slice none 0 0)) := by rw [hcs]; exact hL
  clear hx hg hsz hcs hL
  go_enter Tryz.func71, Tryz.ntmps71
  go_wp2_with fail
  go_loopw [12] (fun i wr => ∃ (q : Nat) (u : Value), q ≤ n ∧ i = .int .i64 q ∧ wr.ownsRow w.heap.size 2 1 u q (ints (ss.take q)) ∧ Blk wr L 25 (cs.setIfInBounds 5 u) ∧ Below L w wr ∧ w.heap.size ≤ wr.heap.size ∧ Hid ((ss.take q).all numOk = true)) (fun i _ => n - (intOf i).toNat)
  case atStart => exact ⟨0, _, Nat.zero_le _, rfl, World.ownsRow_nil _ _ _ _, hL0, Below.refl _ _, Nat.le_refl _, Lib.hid (by simp)⟩
  case round =>
    obtain ⟨q, u, hq, rfl, hown, hbl, hbw, hsw, HAL⟩ := hrel
    clear hL0
    by_cases hlt : q < n
    · obtain ⟨b, off, s, rfl, hbb, hss, hc⟩ := hs.at_ hlt
      have hc' : wr.cell? ⟨b, off + q, none⟩ = some (.string s) := (cells_below hbw hbb _).trans hc
      have hk0 : 0 ≤ (q : Int) := by omega
      have hk1 : (q : Int) < n := by omega
      have hs6 := HSZ.out s (List.mem_of_getElem? hss)
      have HSS := Lib.hid hss
      have HOWN := Lib.hid hown
      have HBL := Lib.hid hbl
      have HBW := Lib.hid hbw
      clear hss hc hown hbl hbw
      go_wp2_with fail
      refine (number55' s _ (GlB.gl ((GlB.below HG.out HBW.out))) hs6).mono ?_
      rintro e w1 ⟨rfl, b1⟩
      cases hok : numOk s with
      | false =>
        have HOK := Lib.hid hok
        clear hok
        have hbf := HBW.out.trans (b1.mono (Nat.le_trans (Nat.le_of_lt hLw) hsw))
        clear b1
        go_wp2_with fail
        go_ret2
        exact absurd (List.all_eq_true.1 HALL.out s (List.mem_of_getElem? HSS.out)) (by rw [HOK.out]; simp)
      | true =>
        have HOK := Lib.hid hok
        clear hok
        have hown1 := own_below HOWN.out b1
        have hbl1 := HBL.out.below b1 HBL.out.lt
        have hb1 := HBW.out.trans (b1.mono (Nat.le_trans (Nat.le_of_lt hLw) hsw))
        have hs1 := Nat.le_trans hsw b1.size
        have d5 : w1.cell? ⟨L, 5, none⟩ = some u := by rw [hbl1.cell]; simp [Array.getElem?_setIfInBounds, (Array.getElem?_eq_some_iff.1 HX.out).1]
        have d6 : (w1.alloc (.cells #[.int .i64 (numV s)] 2)).cell? ⟨L, 5, none⟩ = some u := ((hbl1.alloc _).cell 5).trans (by rw [← hbl1.cell]; exact d5)
        have HB1 := Lib.hid (And.intro hbl1 hb1)
        clear b1 hc' hbl1 hb1
        go_wp2_with (at_builtin; refine wpList_append_own _ rfl (.tmp 27) (.tmp 29) 22 rfl w.heap.size 2 i0 _ 1 8 Tryz.underlying22 hi hz0 hz1 hz2 rfl (by decide) _ _ _ rfl (hown1.alloc _) ⟨w1.heap.size, 0, none⟩ 1 1 [.int .i64 (numV s)] rfl rfl (fun j u hu => by rw [add_none, Nat.zero_add, (Blk.new w1 2 #[.int .i64 (numV s)]).cell j]; simpa using hu) (by simp [Value.oneCell']) (by unfold maxLen; omega) (by omega) (by simp; omega) ?_)
        intro u' w3 hown3 hgrow _
        obtain ⟨g', cap', rfl⟩ := ownsRow_succ hown3
        have hLu : some L ≠ u.ownBlock := fun e => by have := (hown1.lt L e.symm).1; omega
        have hbl3 : Blk w3 L 25 (cs.setIfInBounds 5 u) := (hgrow.block L (by simp; omega) hLu).trans (HB1.out.1.alloc _)
        have hLu' : some L ≠ (Value.slice (some ⟨g', 0, none⟩) (q + 1) cap').ownBlock := fun e => by have := (hown3.lt L e.symm).1; omega
        have hb3 : Below L w w3 := ((HB1.out.2.alloc (by omega) _).grown hgrow (by simp; omega) (fun r hr => by have := (hown1.lt r hr).1; omega))
        have hs3 : w.heap.size ≤ w3.heap.size := by have := hgrow.size; simp at this; omega
        have d7 : w3.cell? ⟨L, 5, none⟩ = some u := by rw [hbl3.cell]; simp [Array.getElem?_setIfInBounds, (Array.getElem?_eq_some_iff.1 HX.out).1]
        have f7 := hbl3.frozen 5
        have HEND := Lib.hid (show (w3.setCell ⟨L, 5, none⟩ (.slice (some ⟨g', 0, none⟩) (q + 1) cap')).ownsRow w.heap.size 2 1 (.slice (some ⟨g', 0, none⟩) (q + 1) cap') (q + 1) (ints (ss.take (q + 1))) ∧ Blk (w3.setCell ⟨L, 5, none⟩ (.slice (some ⟨g', 0, none⟩) (q + 1) cap')) L 25 (cs.setIfInBounds 5 (.slice (some ⟨g', 0, none⟩) (q + 1) cap')) ∧ Below L w (w3.setCell ⟨L, 5, none⟩ (.slice (some ⟨g', 0, none⟩) (q + 1) cap')) ∧ w.heap.size ≤ (w3.setCell ⟨L, 5, none⟩ (.slice (some ⟨g', 0, none⟩) (q + 1) cap')).heap.size from
          ⟨own_same (by rw [ints_snoc HSS.out]; exact hown3) (fun g hg => Below.heap_setCell _ _ _ _ (fun e => hLu' (by rw [hg, e]))), by have := hbl3.set 5 (.slice (some ⟨g', 0, none⟩) (q + 1) cap'); rwa [setIf_twice] at this, hb3.setCell (Nat.le_refl _) _, by simpa using hs3⟩)
        clear hown3 hgrow hb3 hown1 hbl3 hLu hLu' HB1 hs3
        go_wp2_with fail
        go_roundw
        case rel => exact ⟨q + 1, (.slice (some ⟨g', 0, none⟩) (q + 1) cap'), by omega, by go_num, HEND.out.1, HEND.out.2.1, HEND.out.2.2.1, HEND.out.2.2.2, Lib.hid (by rw [all_take HSS.out, HAL.out, HOK.out]; rfl)⟩
        case measure => simp [intOf]; omega
    · obtain rfl : q = n := by omega
      have HEND := Lib.hid (And.intro hown (And.intro hbl hbw))
      clear hown hbl hbw
      go_wp2_with fail
      go_ret2
      obtain ⟨h1, h2, h3⟩ := HEND.out
      rw [List.take_of_length_le (by rw [HLN.out]; omega)] at h1
      have hlen : ss.length = q := HLN.out
      obtain ⟨A', c', h4 | h4⟩ := slice_of_own h1
      · obtain ⟨rfl, _⟩ := h4
        refine ⟨A', c', rfl, ?_, by rw [hlen]; exact h2, h3, hsw, fun b o hA => Nat.lt_of_lt_of_le hLw (h1.lt b (by rw [hA]; rfl)).1⟩
        rw [hlen]
        exact Row.of_own h1 (by simp [hlen])
      · obtain ⟨rfl, h5⟩ := h4
        refine ⟨none, 0, rfl, ?_, by rw [hlen, h5]; exact h2, h3, hsw, fun b o hA => by cases hA⟩
        have : ss = [] := List.eq_nil_of_length_eq_zero (by omega)
        subst this
        exact ⟨rfl, fun h0 => absurd h0 (Nat.lt_irrefl 0)⟩
set_option maxRecDepth 100000 in
set_option maxHeartbeats 4000000 in
theorem read71_no (L : Nat) (cs : Array Value) (A : Option Addr) (n c : Nat) (ss : List ByteArray) (w : World) (hg : GlB w L) (hs : Strs w L A n ss) (hn : n ≤ 1000000) (hsz : ∀ s ∈ ss, s.size ≤ 1000000) (hL : Blk w L 25 cs) (hx : cs[5]? = some (.slice none 0 0)) (hall : ss.all numOk = false) :
    Calls Tryz.prog 71 #[.pointer (some ⟨L, 0, none⟩), .slice A n c] w fun e w' => e = .returned (.tuple #[.slice none 0 0, .bool false]) ∧ Below L w w' := by
  have HALL := Lib.hid hall
  clear hall
  obtain ⟨i0, hi, hz0, hz1, hz2⟩ := info_parts info2
  have HLN := Lib.hid hs.len
  have hLw := hL.lt
  have HX := Lib.hid hx
  have HG := Lib.hid hg
  have HSZ := Lib.hid hsz
  have hcs : cs.setIfInBounds 5 (.slice none 0 0) = cs := by
    apply Array.ext_getElem?
    intro k
    rw [Array.getElem?_setIfInBounds]
    by_cases hk : 5 = k
    · subst hk; rw [if_pos rfl, if_pos (Array.getElem?_eq_some_iff.1 hx).1, hx]
    · rw [if_neg hk]
  have hL0 : Blk w L 25 (cs.setIfInBounds 5 (.slice none 0 0)) := by rw [hcs]; exact hL
  clear hx hg hsz hcs hL
  go_enter Tryz.func71, Tryz.ntmps71
  go_wp2_with fail
  go_loopw [12] (fun i wr => ∃ (q : Nat) (u : Value), q ≤ n ∧ i = .int .i64 q ∧ wr.ownsRow w.heap.size 2 1 u q (ints (ss.take q)) ∧ Blk wr L 25 (cs.setIfInBounds 5 u) ∧ Below L w wr ∧ w.heap.size ≤ wr.heap.size ∧ Hid ((ss.take q).all numOk = true)) (fun i _ => n - (intOf i).toNat)
  case atStart => exact ⟨0, _, Nat.zero_le _, rfl, World.ownsRow_nil _ _ _ _, hL0, Below.refl _ _, Nat.le_refl _, Lib.hid (by simp)⟩
  case round =>
    obtain ⟨q, u, hq, rfl, hown, hbl, hbw, hsw, HAL⟩ := hrel
    clear hL0
    by_cases hlt : q < n
    · obtain ⟨b, off, s, rfl, hbb, hss, hc⟩ := hs.at_ hlt
      have hc' : wr.cell? ⟨b, off + q, none⟩ = some (.string s) := (cells_below hbw hbb _).trans hc
      have hk0 : 0 ≤ (q : Int) := by omega
      have hk1 : (q : Int) < n := by omega
      have hs6 := HSZ.out s (List.mem_of_getElem? hss)
      have HSS := Lib.hid hss
      have HOWN := Lib.hid hown
      have HBL := Lib.hid hbl
      have HBW := Lib.hid hbw
      clear hss hc hown hbl hbw
      go_wp2_with fail
      refine (number55' s _ (GlB.gl ((GlB.below HG.out HBW.out))) hs6).mono ?_
      rintro e w1 ⟨rfl, b1⟩
      cases hok : numOk s with
      | false =>
        have HOK := Lib.hid hok
        clear hok
        have hbf := HBW.out.trans (b1.mono (Nat.le_trans (Nat.le_of_lt hLw) hsw))
        clear b1
        go_wp2_with fail
        go_ret2
        exact ⟨rfl, hbf⟩
      | true =>
        have HOK := Lib.hid hok
        clear hok
        have hown1 := own_below HOWN.out b1
        have hbl1 := HBL.out.below b1 HBL.out.lt
        have hb1 := HBW.out.trans (b1.mono (Nat.le_trans (Nat.le_of_lt hLw) hsw))
        have hs1 := Nat.le_trans hsw b1.size
        have d5 : w1.cell? ⟨L, 5, none⟩ = some u := by rw [hbl1.cell]; simp [Array.getElem?_setIfInBounds, (Array.getElem?_eq_some_iff.1 HX.out).1]
        have d6 : (w1.alloc (.cells #[.int .i64 (numV s)] 2)).cell? ⟨L, 5, none⟩ = some u := ((hbl1.alloc _).cell 5).trans (by rw [← hbl1.cell]; exact d5)
        have HB1 := Lib.hid (And.intro hbl1 hb1)
        clear b1 hc' hbl1 hb1
        go_wp2_with (at_builtin; refine wpList_append_own _ rfl (.tmp 27) (.tmp 29) 22 rfl w.heap.size 2 i0 _ 1 8 Tryz.underlying22 hi hz0 hz1 hz2 rfl (by decide) _ _ _ rfl (hown1.alloc _) ⟨w1.heap.size, 0, none⟩ 1 1 [.int .i64 (numV s)] rfl rfl (fun j u hu => by rw [add_none, Nat.zero_add, (Blk.new w1 2 #[.int .i64 (numV s)]).cell j]; simpa using hu) (by simp [Value.oneCell']) (by unfold maxLen; omega) (by omega) (by simp; omega) ?_)
        intro u' w3 hown3 hgrow _
        obtain ⟨g', cap', rfl⟩ := ownsRow_succ hown3
        have hLu : some L ≠ u.ownBlock := fun e => by have := (hown1.lt L e.symm).1; omega
        have hbl3 : Blk w3 L 25 (cs.setIfInBounds 5 u) := (hgrow.block L (by simp; omega) hLu).trans (HB1.out.1.alloc _)
        have hLu' : some L ≠ (Value.slice (some ⟨g', 0, none⟩) (q + 1) cap').ownBlock := fun e => by have := (hown3.lt L e.symm).1; omega
        have hb3 : Below L w w3 := ((HB1.out.2.alloc (by omega) _).grown hgrow (by simp; omega) (fun r hr => by have := (hown1.lt r hr).1; omega))
        have hs3 : w.heap.size ≤ w3.heap.size := by have := hgrow.size; simp at this; omega
        have d7 : w3.cell? ⟨L, 5, none⟩ = some u := by rw [hbl3.cell]; simp [Array.getElem?_setIfInBounds, (Array.getElem?_eq_some_iff.1 HX.out).1]
        have f7 := hbl3.frozen 5
        have HEND := Lib.hid (show (w3.setCell ⟨L, 5, none⟩ (.slice (some ⟨g', 0, none⟩) (q + 1) cap')).ownsRow w.heap.size 2 1 (.slice (some ⟨g', 0, none⟩) (q + 1) cap') (q + 1) (ints (ss.take (q + 1))) ∧ Blk (w3.setCell ⟨L, 5, none⟩ (.slice (some ⟨g', 0, none⟩) (q + 1) cap')) L 25 (cs.setIfInBounds 5 (.slice (some ⟨g', 0, none⟩) (q + 1) cap')) ∧ Below L w (w3.setCell ⟨L, 5, none⟩ (.slice (some ⟨g', 0, none⟩) (q + 1) cap')) ∧ w.heap.size ≤ (w3.setCell ⟨L, 5, none⟩ (.slice (some ⟨g', 0, none⟩) (q + 1) cap')).heap.size from
          ⟨own_same (by rw [ints_snoc HSS.out]; exact hown3) (fun g hg => Below.heap_setCell _ _ _ _ (fun e => hLu' (by rw [hg, e]))), by have := hbl3.set 5 (.slice (some ⟨g', 0, none⟩) (q + 1) cap'); rwa [setIf_twice] at this, hb3.setCell (Nat.le_refl _) _, by simpa using hs3⟩)
        clear hown3 hgrow hb3 hown1 hbl3 hLu hLu' HB1 hs3
        go_wp2_with fail
        go_roundw
        case rel => exact ⟨q + 1, (.slice (some ⟨g', 0, none⟩) (q + 1) cap'), by omega, by go_num, HEND.out.1, HEND.out.2.1, HEND.out.2.2.1, HEND.out.2.2.2, Lib.hid (by rw [all_take HSS.out, HAL.out, HOK.out]; rfl)⟩
        case measure => simp [intOf]; omega
    · obtain rfl : q = n := by omega
      have HEND := Lib.hid (And.intro hown (And.intro hbl hbw))
      clear hown hbl hbw
      go_wp2_with fail
      go_ret2
      exact absurd HAL.out (by rw [List.take_of_length_le (by rw [HLN.out]; omega), HALL.out]; simp)
end Go.Proofs.YtoejjboanggenaaGreatDoor
