/-
Contract of is; the names' parts' tests.
-/
import Derived.Test.YtoejjboanggenaaGreatDoorQ
import Derived.Test.YtoejjboanggenaaGreatDoorV
import Derived.Deep.Quiet
import Derived.Deep.QuietTactic
import Derived.BigQuiet
namespace Go.Proofs.YtoejjboanggenaaGreatDoor
open Go.RowKit
set_option linter.unusedVariables false
set_option linter.unusedSimpArgs false

theorem quiet_class (B : Nat) (w0 : World) : ∃ (T : Type) (f : T → World), Nonempty T ∧ (∀ x, Below B w0 (f x)) ∧ (∀ W, Below B w0 W → ∃ x, W = f x) :=
  ⟨{ W // Below B w0 W }, Subtype.val, ⟨⟨w0, Below.refl _ _⟩⟩, fun x => x.2, fun W h => ⟨⟨W, h⟩, rfl⟩⟩
theorem wp_region_class {P : Program} {T : Type} (f : T → World) {id : Nat} {Q : Exit → Act → World → Prop} {a : Act} {w : World} {l : List Oper} (hm : P.follows .mixedOrders = true) (hB : Region.lexB .any l.toArray = true) (hC : ∃ x, w.drew = f x)
    (h : wpQuiet P l.toArray (fun W => ∃ x, W = f x) (fun a' => ∀ w', (∃ x, w' = f x) → Q .normal a' w') l a) : (Code.region id l.toArray true).wp P Q a w :=
  wp_region_quiet (C := fun W => ∃ x, W = f x) hm hB hC (by simpa using h)
theorem tcells_head {ts : List (Int × ByteArray × Int × Int)} {x : Int × ByteArray × Int × Int} (h : ts[0]? = some x) : (tcells ts)[0]? = some (.int .i64 x.1) ∧ (tcells ts)[1]? = some (.string x.2.1) := by
  cases ts with
  | nil => simp at h
  | cons y ys =>
    simp at h
    subst h
    simp [tcells, tcell]
set_option maxHeartbeats 4000000 in
theorem is63 (s : ByteArray) (k : Int) (hk : k = 2 ∨ k = 3) (w : World) (hg : Gl w) : Calls Tryz.prog 63 #[.string s, .int .i64 k] w fun e w' => e = .returned (.bool (isB s k)) ∧ Below w.heap.size w w' := by
  have HN := Lib.hid (name_iff s k hk)
  have HK := Lib.hid hk
  by_cases hs : s.size ≤ 16384
  · have HC := Lib.hid (scan86 s w hg hs)
    clear hg hk
    go_enter Tryz.func63, Tryz.ntmps63
    go_wp2_with fail
    refine HC.out.mono ?_
    rintro e' w1 ⟨v, ts, p, e, rfl, b1, h1, h2⟩
    have HB := Lib.hid b1
    have HX := Lib.hid h2
    clear HC b1 h2
    by_cases he : e = 0
    · subst he
      obtain ⟨h3, h4, h5⟩ := h1 rfl
      by_cases hl : ts.length = 2
      · obtain ⟨k', t, x, y, R, ht, hsk, hle, hna⟩ := h5 (by omega)
        have HY := Lib.hid (And.intro ht (And.intro hsk (And.intro hle hna)))
        rw [hl] at h3
        obtain ⟨g, cap, rfl⟩ : ∃ g cap, v = .slice (some ⟨g, 0, none⟩) 2 cap := by
          rcases h3.2 with ⟨_, h0⟩ | ⟨g, cap, cur, hv, _⟩
          · omega
          · exact ⟨g, cap, hv⟩
        obtain ⟨t0, t1⟩ := tcells_head ht
        have c0 : w1.cell? ⟨g, 0, none⟩ = some (.int .i64 k') := by
          have := h3.cells (g := g) rfl 0 _ t0
          rwa [add_none] at this
        have c1 : w1.cell? ⟨g, 1, none⟩ = some (.string t) := by
          have := h3.cells (g := g) rfl 1 _ t1
          rwa [add_none] at this
        clear h1 h3 h4 h5 ht hsk hle hna t0 t1
        by_cases hk' : k' = k
        · subst hk'
          have e1 : (k' == k') = true := beq_self_eq_true k'
          by_cases hts : t = s
          · subst hts
            have hb : isB t k' = true := by
              refine HN.out.1 ?_
              obtain ⟨q1, q2, q3, q4⟩ := HY.out
              have hR : R = t := q2.1.eq q3
              have q5 := q4 HK.out
              rwa [hR] at q5
            have HBB := Lib.hid hb
            clear hb
            go_wp2_with fail
            go_ret
            exact ⟨ret_bool HBB.out.symm, HB.out⟩
          · have hb : isB s k' = false := by
              cases hb : isB s k' with
              | false => rfl
              | true =>
                obtain ⟨_, _, x', y', q⟩ := HX.out _ (HN.out.2 hb)
                rw [HY.out.1] at q
                simp only [Option.some.injEq, Prod.mk.injEq] at q
                exact absurd q.2.1 hts
            have HBB := Lib.hid hb
            have hne : (t.toList == s.toList) = false := beq_eq_false_iff_ne.2 fun e => hts (ba_ext e)
            clear hb
            go_wp2_with fail
            go_ret
            exact ⟨ret_bool HBB.out.symm, HB.out⟩
        · have hb : isB s k = false := by
            cases hb : isB s k with
            | false => rfl
            | true =>
              obtain ⟨_, _, x', y', q⟩ := HX.out _ (HN.out.2 hb)
              rw [HY.out.1] at q
              simp only [Option.some.injEq, Prod.mk.injEq] at q
              exact absurd q.1 hk'
          have HBB := Lib.hid hb
          have hne : (k' == k) = false := beq_eq_false_iff_ne.2 hk'
          clear hb
          go_wp2_with fail
          go_ret
          exact ⟨ret_bool HBB.out.symm, HB.out⟩
      · have hb : isB s k = false := by
          cases hb : isB s k with
          | false => rfl
          | true => exact absurd (HX.out _ (HN.out.2 hb)).2.1 hl
        have HBB := Lib.hid hb
        obtain ⟨A, c, hv⟩ : ∃ A c, v = .slice A ts.length c := by
          obtain ⟨A, c, ⟨hv, _⟩ | ⟨hv, h0⟩⟩ := slice_of_own h3
          · exact ⟨A, c, hv⟩
          · exact ⟨none, 0, by rw [hv, h0]⟩
        subst hv
        have hne : ((ts.length : Int) == 2) = false := beq_eq_false_iff_ne.2 (by omega)
        generalize ts.length = n at hne ⊢
        clear h1 h3 h4 h5 hb
        go_wp2_with fail
        go_ret
        exact ⟨ret_bool HBB.out.symm, HB.out⟩
    · have hb : isB s k = false := by
        cases hb : isB s k with
        | false => rfl
        | true => exact absurd (HX.out _ (HN.out.2 hb)).1 he
      have HBB := Lib.hid hb
      have hne : (e == 0) = false := beq_eq_false_iff_ne.2 he
      clear h1 hb
      go_wp2_with fail
      go_ret
      exact ⟨ret_bool HBB.out.symm, HB.out⟩
  · have hb : isB s k = false := by
      cases hb : isB s k with
      | false => rfl
      | true =>
        obtain ⟨_, _, _, _, _, h31, _⟩ := HN.out.2 hb
        omega
    have HBB := Lib.hid hb
    have HC := Lib.hid (scan86_long s w (by omega))
    clear hg hk hs hb
    go_enter Tryz.func63, Tryz.ntmps63
    go_wp2_with fail
    refine HC.out.mono ?_
    rintro e' w1 ⟨rfl, rfl⟩
    go_wp2_with fail
    go_ret
    exact ⟨ret_bool HBB.out.symm, Below.refl _ _⟩
set_option maxHeartbeats 4000000 in
theorem nam62_41 (v : Av) (b0 b1 : Nat) (k : Int) (hk : k = 2 ∨ k = 3) (w : World) (hg : Gl w) (h0 : Blk w b0 81 #[fnv 41]) (h1 : Blk w b1 3 #[.int .i64 k]) :
    Calls Tryz.prog 62 #[.agg v.cells, .pointer (some ⟨b0, 0, none⟩), .pointer (some ⟨b1, 0, none⟩)] w fun e w' => e = .returned (.bool (isB v.nm k)) ∧ Below w.heap.size w w' := by
  unfold Av.cells
  have hbel : Below w.heap.size w (w.alloc (.cells #[.int .i64 v.k, .int .i64 v.a, .int .i64 v.b, .string v.nm, .string v.mt, .slice v.A v.n v.c, .slice v.A2 v.n2 v.c2] 25)) := (Below.refl _ _).alloc (Nat.le_refl _) _
  have hb3 := Blk.new w 25 #[.int .i64 v.k, .int .i64 v.a, .int .i64 v.b, .string v.nm, .string v.mt, .slice v.A v.n v.c, .slice v.A2 v.n2 v.c2]
  have hg' := hg.below hbel
  have h0' := h0.below hbel h0.lt
  have h1' := h1.below hbel h1.lt
  have HB := Lib.hid hbel
  clear hg h0 h1 hbel
  go_enter Tryz.func62, Tryz.ntmps62
  go_upto_region 1 with (fail)
  generalize w.alloc (.cells #[.int .i64 v.k, .int .i64 v.a, .int .i64 v.b, .string v.nm, .string v.mt, .slice v.A v.n v.c, .slice v.A2 v.n2 v.c2] 25) = W at *
  obtain ⟨T, f, hne, hf, hcov⟩ := quiet_class W.heap.size W
  have c0 : ∀ x, (f x).cell? ⟨b0, 0, none⟩ = some (.func (.func 41) #[] #[]) := fun x => (h0'.below (hf x) h0'.lt).cell 0
  have c1 : ∀ x, (f x).cell? ⟨b1, 0, none⟩ = some (.int .i64 k) := fun x => (h1'.below (hf x) h1'.lt).cell 0
  have c3 : ∀ x, (f x).cell? ⟨w.heap.size, 3, none⟩ = some (.string v.nm) := fun x => (hb3.below (hf x) hb3.lt).cell 3
  have hfield : ∀ x, Calls Tryz.prog 41 #[.pointer (some ⟨w.heap.size, 0, none⟩)] (f x) (fun e w'' => e = .returned (.pointer (some ⟨w.heap.size, 3, none⟩)) ∧ ∃ y, w'' = f y) := fun x =>
    (field41 _ _).mono fun e w6 h6 => ⟨h6.1, x, h6.2⟩
  have his : ∀ x, Calls Tryz.prog 63 #[.string v.nm, .int .i64 k] (f x) (fun e w'' => e = .returned (.bool (isB v.nm k)) ∧ ∃ y, w'' = f y) := fun x =>
    (is63 _ _ hk _ (GlB.gl (GlB.below hg' (hf x)))).mono fun e w6 h6 => ⟨h6.1, hcov _ ((hf x).trans (h6.2.mono (hf x).size))⟩
  have HF := Lib.hid hf
  have HCOV := Lib.hid hcov
  have HFI := Lib.hid hfield
  have HIS := Lib.hid his
  clear hf hcov hfield his hg' h0' h1' hb3
  refine wp_region_class f (by kernel_rfl) (by kernel_rfl) (HCOV.out _ (Below.refl _ _).drew) ?_
  repeat (go_big_quiet_step (first | (go_at_call 41; exact HFI.out _) | (go_at_call 63; exact HIS.out _)))
  refine wpQuiet_nil ?_
  intro _ hw'
  obtain ⟨xq, hw''⟩ := hw'
  subst hw''
  go_wp2_with fail
  go_ret
  exact ⟨rfl, HB.out.trans ((HF.out xq).mono HB.out.size)⟩
set_option maxHeartbeats 4000000 in
theorem nam62_42 (v : Av) (b0 b1 : Nat) (k : Int) (hk : k = 2 ∨ k = 3) (w : World) (hg : Gl w) (h0 : Blk w b0 81 #[fnv 42]) (h1 : Blk w b1 3 #[.int .i64 k]) :
    Calls Tryz.prog 62 #[.agg v.cells, .pointer (some ⟨b0, 0, none⟩), .pointer (some ⟨b1, 0, none⟩)] w fun e w' => e = .returned (.bool (isB v.mt k)) ∧ Below w.heap.size w w' := by
  unfold Av.cells
  have hbel : Below w.heap.size w (w.alloc (.cells #[.int .i64 v.k, .int .i64 v.a, .int .i64 v.b, .string v.nm, .string v.mt, .slice v.A v.n v.c, .slice v.A2 v.n2 v.c2] 25)) := (Below.refl _ _).alloc (Nat.le_refl _) _
  have hb3 := Blk.new w 25 #[.int .i64 v.k, .int .i64 v.a, .int .i64 v.b, .string v.nm, .string v.mt, .slice v.A v.n v.c, .slice v.A2 v.n2 v.c2]
  have hg' := hg.below hbel
  have h0' := h0.below hbel h0.lt
  have h1' := h1.below hbel h1.lt
  have HB := Lib.hid hbel
  clear hg h0 h1 hbel
  go_enter Tryz.func62, Tryz.ntmps62
  go_upto_region 1 with (fail)
  generalize w.alloc (.cells #[.int .i64 v.k, .int .i64 v.a, .int .i64 v.b, .string v.nm, .string v.mt, .slice v.A v.n v.c, .slice v.A2 v.n2 v.c2] 25) = W at *
  obtain ⟨T, f, hne, hf, hcov⟩ := quiet_class W.heap.size W
  have c0 : ∀ x, (f x).cell? ⟨b0, 0, none⟩ = some (.func (.func 42) #[] #[]) := fun x => (h0'.below (hf x) h0'.lt).cell 0
  have c1 : ∀ x, (f x).cell? ⟨b1, 0, none⟩ = some (.int .i64 k) := fun x => (h1'.below (hf x) h1'.lt).cell 0
  have c3 : ∀ x, (f x).cell? ⟨w.heap.size, 4, none⟩ = some (.string v.mt) := fun x => (hb3.below (hf x) hb3.lt).cell 4
  have hfield : ∀ x, Calls Tryz.prog 42 #[.pointer (some ⟨w.heap.size, 0, none⟩)] (f x) (fun e w'' => e = .returned (.pointer (some ⟨w.heap.size, 4, none⟩)) ∧ ∃ y, w'' = f y) := fun x =>
    (field42 _ _).mono fun e w6 h6 => ⟨h6.1, x, h6.2⟩
  have his : ∀ x, Calls Tryz.prog 63 #[.string v.mt, .int .i64 k] (f x) (fun e w'' => e = .returned (.bool (isB v.mt k)) ∧ ∃ y, w'' = f y) := fun x =>
    (is63 _ _ hk _ (GlB.gl (GlB.below hg' (hf x)))).mono fun e w6 h6 => ⟨h6.1, hcov _ ((hf x).trans (h6.2.mono (hf x).size))⟩
  have HF := Lib.hid hf
  have HCOV := Lib.hid hcov
  have HFI := Lib.hid hfield
  have HIS := Lib.hid his
  clear hf hcov hfield his hg' h0' h1' hb3
  refine wp_region_class f (by kernel_rfl) (by kernel_rfl) (HCOV.out _ (Below.refl _ _).drew) ?_
  repeat (go_big_quiet_step (first | (go_at_call 42; exact HFI.out _) | (go_at_call 63; exact HIS.out _)))
  refine wpQuiet_nil ?_
  intro _ hw'
  obtain ⟨xq, hw''⟩ := hw'
  subst hw''
  go_wp2_with fail
  go_ret
  exact ⟨rfl, HB.out.trans ((HF.out xq).mono HB.out.size)⟩
end Go.Proofs.YtoejjboanggenaaGreatDoor
