/-
Contract of Scan.
-/
import Derived.Test.YtoejjboanggenaaGreatDoorP2
import Derived.Test.YtoejjboanggenaaGreatDoorK2
namespace Go.Proofs.YtoejjboanggenaaGreatDoor
open Go.RowKit
set_option linter.unusedVariables false
set_option linter.unusedSimpArgs false

/-- the cells of a list of tokens. -/
def tcell (x : Int × ByteArray × Int × Int) : List Value := [.int .i64 x.1, .string x.2.1, .int .i64 x.2.2.1, .int .i64 x.2.2.2]
def tcells (ts : List (Int × ByteArray × Int × Int)) : List Value := ts.flatMap tcell
theorem info109 : (Tryz.prog.info? 113).map (fun i => (i.zero, i.size, i.bytes)) = some (some (.agg #[.int .i64 0, .string ⟨#[]⟩, .int .i64 0, .int .i64 0]), 4, 40) := by kernel_rfl
/-- what Scan hands back, as far as it is used: the first token, and whether there are two in all. -/
def ScanPost (s : ByteArray) (w : World) (e' : Ending) (w' : World) : Prop :=
  ∃ (v : Value) (ts : List (Int × ByteArray × Int × Int)) (p e : Int), e' = .returned (.tuple #[v, .int .i64 p, .int .i64 e]) ∧ Below w.heap.size w w' ∧
    (e = 0 → w'.ownsRow w.heap.size 113 4 v ts.length (tcells ts) ∧ 1 ≤ ts.length ∧ (2 ≤ ts.length → ∃ k t x y R, ts[0]? = some (k, t, x, y) ∧ Skips s R ∧ t.size ≤ R.size ∧ (k = 2 ∨ k = 3 → NameAt R k t))) ∧
    (∀ k, NameAt s k s → e = 0 ∧ ts.length = 2 ∧ ∃ x y, ts[0]? = some (k, s, x, y))
set_option maxHeartbeats 4000000 in
theorem scan86_long (s : ByteArray) (w : World) (h : 16384 < s.size) : Calls Tryz.prog 86 #[.string s] w fun e' w' => e' = .returned (.tuple #[.slice none 0 0, .int .i64 0, .int .i64 8]) ∧ w = w' := by
  have h1 : decide ((16384 : Int) < (s.size : Int)) = true := by simp; omega
  go_enter Tryz.func86, Tryz.ntmps86
  go_wp2_with fail
  go_ret3
  exact ⟨rfl, rfl⟩
theorem letter_begins {s : ByteArray} {k : Int} {t : ByteArray} (h : NameAt s k t) : Begins s := by
  obtain ⟨c, l, h1, h2, _⟩ := h
  refine ⟨c, l, h1, ?_⟩
  have hm := List.contains_iff_mem.1 h2
  unfold LETS at hm
  simp only [List.mem_cons, List.not_mem_nil, or_false] at hm
  rcases hm with rfl | rfl | rfl | rfl | rfl | rfl | rfl | rfl | rfl | rfl | rfl | rfl | rfl | rfl | rfl | rfl | rfl | rfl | rfl | rfl | rfl | rfl | rfl | rfl | rfl | rfl | rfl | rfl | rfl | rfl | rfl | rfl | rfl | rfl | rfl | rfl | rfl | rfl | rfl | rfl | rfl | rfl | rfl | rfl | rfl | rfl | rfl | rfl | rfl | rfl | rfl | rfl <;> decide
theorem nilfn_yes (w : World) : (binOp .eql 122 Value.nilFunc Value.nilFunc).run Tryz.prog w = .ok (.bool true) w := by kernel_rfl
theorem nilfn_no (n : Nat) (w : World) : (binOp .eql 122 (Value.func (.func n) #[] #[]) Value.nilFunc).run Tryz.prog w = .ok (.bool false) w := by kernel_rfl
/-- what is known in the midst of Scan. -/
def Mid (s : ByteArray) (ts : List (Int × ByteArray × Int × Int)) (r : ByteArray) : Prop :=
  r.size + ts.length ≤ s.size ∧ ((ts = [] ∧ Skips s r) ∨ (∃ k t x y R, ts[0]? = some (k, t, x, y) ∧ Skips s R ∧ t.size ≤ R.size ∧ (k = 2 ∨ k = 3 → NameAt R k t) ∧ ∀ k', NameAt s k' s → ts.length = 1 ∧ r.size = 0 ∧ k = k' ∧ t = s))
set_option maxRecDepth 100000 in
set_option maxHeartbeats 16000000 in
theorem scan86 (s : ByteArray) (w : World) (hg : Gl w) (h : s.size ≤ 16384) : Calls Tryz.prog 86 #[.string s] w (ScanPost s w) := by
  have h1 : decide ((16384 : Int) < (s.size : Int)) = false := by simp; omega
  have HG := Lib.hid hg
  clear hg
  go_enter Tryz.func86, Tryz.ntmps86
  go_wp2_with fail
  refine (scanners97 _).mono ?_
  rintro e w1 ⟨m, rfl, hm1, hwm, b1⟩
  have HM1 := Lib.hid hm1
  have B1 := Lib.hid b1
  clear hm1 b1
  go_wp2_with fail
  refine (skip98 s _ (by omega)).mono ?_
  rintro e w2 ⟨R0, rfl, b2, hsk⟩
  have HM2 := Lib.hid (HM1.out.below b2 HM1.out.lt)
  have B2 := Lib.hid (B1.out.trans (b2.mono B1.out.size))
  have MID0 := Lib.hid (show Mid s [] R0 from ⟨by simpa using hsk.1.le, .inl ⟨rfl, hsk⟩⟩)
  clear hsk HM1 B1 b2
  go_wp2_with fail
  go_loopw [5, 7] (fun u i wr => ∃ (ts : List (Int × ByteArray × Int × Int)) (r : ByteArray), i = .string r ∧ Hid (wr.ownsRow w.heap.size 113 4 u ts.length (tcells ts)) ∧ Hid (u.ownBlock ≠ some m) ∧ Hid (KMap wr m table) ∧ Hid (Below w.heap.size w wr) ∧ Hid (Mid s ts r)) (fun _ i _ => (match i with | .string x => x.size | _ => 0))
  case atStart => exact ⟨[], R0, rfl, Lib.hid (World.ownsRow_nil _ _ _ _), Lib.hid (by simp [Value.ownBlock]), HM2, B2, MID0⟩
  case round =>
    clear HM2 B2 MID0
    obtain ⟨ts, r, rfl, HO, HU, HM, HB, HMID⟩ := hrel
    obtain ⟨i0, hi, hz0, hz1, hz2⟩ := info_parts info109
    have hsz := HMID.out.1
    have hbase := HB.out.size
    have hats : ((s.size : Int) - (r.size : Int)) = ((s.size - r.size : Nat) : Int) := by omega
    by_cases he : r = ⟨#[]⟩
    · subst he
      have hown1 := HO.out
      clear HM
      go_wp2_with (at_builtin; refine wpList_append_own _ rfl (.tmp 27) (.tmp 30) 109 rfl w.heap.size 113 i0 _ 4 40 Tryz.underlying109 hi hz0 hz1 hz2 rfl (by decide) _ _ _ rfl (hown1.alloc _) ⟨wr.heap.size, 0, none⟩ 1 1 [.int .i64 0, .string ⟨#[]⟩, .int .i64 0, .int .i64 s.size] rfl rfl (fun j u hu => by rw [add_none, Nat.zero_add, (Blk.new wr 113 #[.int .i64 0, .string ⟨#[]⟩, .int .i64 0, .int .i64 s.size]).cell j]; simpa using hu) (by simp [Value.oneCell']) (by unfold maxLen; omega) (by omega) (by simp; omega) ?_)
      intro u' w3 hown3 hgrow _
      have HW3 := Lib.hid hown3
      have B3 := Lib.hid ((HB.out.alloc hbase (.cells #[.int .i64 0, .string ⟨#[]⟩, .int .i64 0, .int .i64 s.size] 113)).grown hgrow (by simp; omega) (fun q hq => (HO.out.lt q hq).1))
      clear hown1 hown3 hgrow
      go_wp2_with fail
      go_ret3
      refine ⟨u', ts ++ [(0, ⟨#[]⟩, 0, (s.size : Int))], 0, 0, rfl, B3.out, fun _ => ⟨?_, by simp, fun h2 => ?_⟩, fun k hk => ⟨rfl, ?_, ?_⟩⟩
      · have := HW3.out
        unfold tcells at this ⊢
        rw [List.flatMap_append, List.length_append]
        exact this
      · rcases HMID.out.2 with ⟨rfl, _⟩ | ⟨k, t, x, y, R, h3, h4, h5, h6, _⟩
        · simp at h2
        · exact ⟨k, t, x, y, R, by rw [List.getElem?_append_left (List.getElem?_eq_some_iff.1 h3).1]; exact h3, h4, h5, h6⟩
      · rcases HMID.out.2 with ⟨rfl, h3⟩ | ⟨_, _, _, _, _, _, _, _, _, h3⟩
        · have h4 := h3.2 (letter_begins hk)
          obtain ⟨c, l, h5, _⟩ := hk
          rw [← h4] at h5
          simp at h5
        · rw [List.length_append, (h3 k hk).1]; rfl
      · rcases HMID.out.2 with ⟨rfl, h3⟩ | ⟨k0, t, x, y, R, h3, h4, h5, h6, h7⟩
        · have h4 := h3.2 (letter_begins hk)
          obtain ⟨c, l, h5, _⟩ := hk
          rw [← h4] at h5
          simp at h5
        · obtain ⟨h8, _, rfl, rfl⟩ := h7 k hk
          exact ⟨x, y, by rw [List.getElem?_append_left (List.getElem?_eq_some_iff.1 h3).1]; exact h3⟩
    · obtain ⟨c, l, hcl⟩ : ∃ c l, r.data.toList = c :: l := by
        cases hb : r.data.toList with
        | nil => exact absurd (Go.WideShapes.bytes_inj (by rw [hb])) he
        | cons c l => exact ⟨c, l, rfl⟩
      have hr1 : 1 ≤ r.size := by
        change 1 ≤ r.data.toList.length
        rw [hcl]; simp
      have hr0 : (0 : Int) < (r.size : Int) := by omega
      have hne : r.toList.isEmpty = false := by
        rw [Lib.toList_data, hcl]; rfl
      have hr0c : (r[0]'(by omega)) = c := by
        have h2 : r.data.toList[0]? = some c := by rw [hcl]; rfl
        exact (List.getElem?_eq_some_iff.1 h2).2
      have hlk := pick_tab HM.out c
      have HFT := Lib.hid (first_tok r wr (GlB.gl (GlB.below HG.out HB.out)) (by omega) c l hcl)
      clear hcl he
      rcases HFT.out with ⟨hp, hnn⟩ | ⟨f, hp, hf, hcall⟩
      · rw [hp] at hlk
        have HNN := Lib.hid hnn
        have hny := nilfn_yes
        clear HFT hp hnn
        go_wp2_with fail
        go_ret3
        refine ⟨.slice none 0 0, [], _, 3, rfl, HB.out, fun h => absurd h (by decide), fun k' hk' => ?_⟩
        rcases HMID.out.2 with ⟨rfl, h3⟩ | ⟨_, _, _, _, _, _, _, _, _, h3⟩
        · have h4 := h3.2 (letter_begins hk')
          subst h4
          exact absurd hk' (HNN.out _ _)
        · have := (h3 k' hk').2.1
          omega
      · rw [hp] at hlk
        unfold fnv at hlk
        have hny := nilfn_no
        have HC := Lib.hid hcall
        clear HFT hp hcall
        rcases hf with rfl | rfl | rfl
        all_goals
          go_wp2_with fail
          refine HC.out.mono ?_
          rintro e' w3 ⟨k, t, tv, e, rfl, b3, ht1, ht2⟩
          have B3 := Lib.hid (HB.out.trans (b3.mono hbase))
          have HO3 := Lib.hid (own_below HO.out b3)
          have HM3 := Lib.hid (HM.out.below b3 HM.out.lt)
          have HT := Lib.hid (And.intro ht1 ht2)
          have hb3 := b3.size
          clear HC b3 ht1 ht2 hlk
          unfold tokV
          by_cases he0 : e = 0
          · subst he0
            go_upto_region 17 with fail
            obtain ⟨cs4, hcs4⟩ : ∃ cs4 : Array Value, #[.int .i64 k, .string t, .int .i64 tv, .int .i64 ((s.size - r.size : Nat) : Int)] = cs4 := ⟨_, rfl⟩
            rw [hcs4]
            have HO4 := Lib.hid (HO3.out.alloc (.cells cs4 113))
            have HM4 := Lib.hid (HM3.out.alloc (.cells cs4 113))
            have B4 := Lib.hid (B3.out.alloc B3.out.size (.cells cs4 113))
            have hq4 := Blk.new w3 113 cs4
            have HU4 := Lib.hid (fun q hq => (HO3.out.lt q hq).2)
            generalize w3.alloc (.cells cs4 113) = w4 at HO4 HM4 B4 hq4 ⊢
            have hg4 := hq4.lt
            generalize w3.heap.size = g4 at hq4 hg4 HU4 ⊢
            subst hcs4
            have d0 : w4.cell? ⟨g4, 0, none⟩ = some (.int .i64 k) := hq4.cell 0
            have d1 : w4.cell? ⟨g4, 1, none⟩ = some (.string t) := hq4.cell 1
            have d2 : w4.cell? ⟨g4, 2, none⟩ = some (.int .i64 tv) := hq4.cell 2
            have d3 : w4.cell? ⟨g4, 3, none⟩ = some (.int .i64 ((s.size - r.size : Nat) : Int)) := hq4.cell 3
            have HQ4 := Lib.hid hq4
            have hbase4 := B4.out.size
            clear hq4 HO3 HM3 B3
            go_wp2_with (at_builtin; refine wpList_append_own _ rfl (.tmp 51) (.tmp 53) 109 rfl w.heap.size 113 i0 _ 4 40 Tryz.underlying109 hi hz0 hz1 hz2 rfl (by decide) _ _ _ rfl (HO4.out.alloc _) ⟨w4.heap.size, 0, none⟩ 1 1 [.int .i64 k, .string t, .int .i64 tv, .int .i64 ((s.size - r.size : Nat) : Int)] rfl rfl (fun j u hu => by rw [add_none, Nat.zero_add, (Blk.new w4 113 #[.int .i64 k, .string t, .int .i64 tv, .int .i64 ((s.size - r.size : Nat) : Int)]).cell j]; simpa using hu) (by simp [Value.oneCell']) (by unfold maxLen; omega) (by omega) (by simp; omega) ?_)
            intro u' w6 hown6 hgrow _
            have HW6 := Lib.hid hown6
            have B6 := Lib.hid ((B4.out.alloc hbase4 (.cells #[.int .i64 k, .string t, .int .i64 tv, .int .i64 ((s.size - r.size : Nat) : Int)] 113)).grown hgrow (by simp; omega) (fun q hq => (HO4.out.lt q hq).1))
            have HM6 := Lib.hid (show KMap w6 m table from (hgrow.block m (by have := HM4.out.lt; simp; omega) (fun e => HU.out e.symm)).trans (HM4.out.alloc _))
            have HQ6 := Lib.hid (show Blk w6 g4 113 #[.int .i64 k, .string t, .int .i64 tv, .int .i64 ((s.size - r.size : Nat) : Int)] from (hgrow.block g4 (by simp; omega) (fun e => by have := HU4.out _ e.symm; omega)).trans (HQ4.out.alloc _))
            have d16 : w6.cell? ⟨g4, 1, none⟩ = some (.string t) := HQ6.out.cell 1
            have ht1 := (HT.out.1 (by trivial)).1
            have ht2 := (HT.out.1 (by trivial)).2.1
            have htz : (t.size : Int) ≤ (r.size : Int) := by omega
            have hxs : (r.extract t.size r.size).size = r.size - t.size := by rw [ByteArray.size_extract]; omega
            clear d0 d1 d2 d3 HO4 HM4 B4 HQ4 hown6 hgrow
            go_wp2_with fail
            refine (skip98 _ _ (by omega)).mono ?_
            rintro e w7 ⟨R7, rfl, b7, hsk7⟩
            have HS7 := Lib.hid hsk7
            have hle7 := hsk7.1.le
            have HW7 := Lib.hid (own_below HW6.out b7)
            have HM7 := Lib.hid (HM6.out.below b7 HM6.out.lt)
            have B7 := Lib.hid (B6.out.trans (b7.mono B6.out.size))
            clear HW6 HM6 B6 HQ6 b7 hsk7 d16
            go_wp2_with fail
            go_roundw
            case rel =>
              refine ⟨ts ++ [(k, t, tv, ((s.size - r.size : Nat) : Int))], R7, rfl, ?_, ?_, HM7, B7, ?_⟩
              · have := HW7.out
                unfold tcells at this ⊢
                rw [List.flatMap_append, List.length_append]
                exact Lib.hid this
              · refine Lib.hid fun e => ?_
                obtain ⟨hm1, hm2⟩ := HW7.out
                rcases hm2 with ⟨rfl, _⟩ | ⟨g, cap, cur, rfl, _, hm3, _⟩
                · simp [Value.ownBlock] at e
                · simp only [Value.ownBlock, Option.some.injEq] at e
                  subst e
                  have := HM7.out
                  unfold KMap at this
                  rw [this] at hm3
                  cases hm3
              · refine Lib.hid ⟨by rw [List.length_append, List.length_singleton]; omega, .inr ?_⟩
                rcases HMID.out.2 with ⟨rfl, h3⟩ | ⟨k0, t0, x0, y0, Rr, h3, h4, h5, h6, h7⟩
                · refine ⟨k, t, tv, _, r, rfl, h3, ht2, (HT.out.1 (by trivial)).2.2, fun k' hk' => ?_⟩
                  have h4 := h3.2 (letter_begins hk')
                  subst h4
                  obtain ⟨_, h5, h6⟩ := HT.out.2 _ _ hk'
                  subst h5 h6
                  exact ⟨rfl, by omega, rfl, rfl⟩
                · refine ⟨k0, t0, x0, y0, Rr, by rw [List.getElem?_append_left (List.getElem?_eq_some_iff.1 h3).1]; exact h3, h4, h5, h6, fun k' hk' => ?_⟩
                  have := (h7 k' hk').2.1
                  omega
            case measure => simp; omega
          · go_wp2_with fail
            go_ret3
            refine ⟨.slice none 0 0, [], _, e, rfl, B3.out.alloc B3.out.size _, fun h => absurd h he0, fun k' hk' => ?_⟩
            rcases HMID.out.2 with ⟨rfl, h3⟩ | ⟨_, _, _, _, _, _, _, _, _, h3⟩
            · have h4 := h3.2 (letter_begins hk')
              subst h4
              exact absurd (HT.out.2 _ _ hk').1 he0
            · have := (h3 k' hk').2.1
              omega
end Go.Proofs.YtoejjboanggenaaGreatDoor
