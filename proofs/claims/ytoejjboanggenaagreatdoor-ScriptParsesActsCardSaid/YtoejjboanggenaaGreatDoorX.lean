/-
Contract of FormatAct.
-/
import Derived.Test.YtoejjboanggenaaGreatDoorU
import Derived.Maps.AppendAt
namespace Go.Proofs.YtoejjboanggenaaGreatDoor
open Go.RowKit
set_option linter.unusedVariables false
set_option linter.unusedSimpArgs false

theorem run_append_strs (w : World) (ty : TypeId) (B : Nat) (v : Value) (n : Nat) (xs : List Value) (hown : w.ownsRow B 9 1 v n xs) (A : Option Addr) (m c B2 : Nat) (ss : List ByteArray) (hsl : Strs w B2 A m ss) (hn : n ≤ 1000000) (hm : m ≤ 1000000) (hB : B ≤ w.heap.size) :
    ∃ v' w', (Builtin.append_ #[39, 39] ty #[v, .slice A m c]).run Tryz.prog w = .ok v' w' ∧ w'.ownsRow B 9 1 v' (n + m) (xs ++ ss.map Value.string) ∧ w.grownBy w' v.ownBlock := by
  obtain ⟨i0, hi, hz0, hz1, hz2⟩ := info_parts info9
  have hlen := hsl.len
  cases A with
  | none =>
    obtain rfl : m = 0 := by
      rcases Nat.eq_zero_or_pos m with h | h
      · exact h
      · obtain ⟨_, _, h1, _⟩ := hsl.2 h; cases h1
    obtain rfl : ss = [] := List.eq_nil_of_length_eq_zero hlen
    refine ⟨v, w, ?_, by simpa using hown, World.grownBy.refl w _⟩
    rcases hown.2 with ⟨rfl, rfl⟩ | ⟨g, cap, cur, rfl, _, _, hnc, _⟩
    · simp [Builtin.append_, run_underlying Tryz.underlying39, sizeOf, typeInfo, hi, Builtin.lenOf, Builtin.firstCells]
    · simp [Builtin.append_, run_underlying Tryz.underlying39, sizeOf, typeInfo, hi, Builtin.lenOf, Builtin.firstCells, hnc, storeCells]
  | some ad =>
    have hnews : ∀ j u, (ss.map Value.string)[j]? = some u → w.cell? (ad.add j) = some u := by
      intro j u hu
      have hj := (List.getElem?_eq_some_iff.1 hu).1
      rw [List.length_map, hlen] at hj
      obtain ⟨b, off, h1, _, h3⟩ := hsl.2 (by omega)
      simp only [Option.some.injEq] at h1
      subst h1
      rw [add_none]
      exact h3 j u hu
    obtain ⟨v', w', h1, h2, h3, _, h5⟩ := run_append_own_at (P := Tryz.prog) w B 39 ty 9 i0 _ 1 16 Tryz.underlying39 hi hz0 hz1 hz2 rfl (by decide) v n xs hown ad m c (ss.map Value.string) (by rw [List.length_map, hlen]; omega) hnews
      (by intro u hu; obtain ⟨x, _, rfl⟩ := List.mem_map.1 hu; rfl) (by unfold maxLen; omega) (by omega) hB
    exact ⟨v', w', h1, h2, h3⟩
theorem wpList_append_strs {w : World} {ops : Array Oper} {rest : List Oper} {o : Oper} {a : Act} {Q : Exit → Act → World → Prop} (hgd : o.guard = none) (s x : Operand) (ho : o.op = .call { callee := .builtin .append, args := #[s, x], argTypes := #[39, 39] })
    (B : Nat) (v : Value) (n : Nat) (xs : List Value) (hs : a.eval s = v) (hown : w.ownsRow B 9 1 v n xs) (A : Option Addr) (m c B2 : Nat) (ss : List ByteArray) (hx : a.eval x = .slice A m c) (hsl : Strs w B2 A m ss) (hn : n ≤ 1000000) (hm : m ≤ 1000000) (hB : B ≤ w.heap.size)
    (h : ∀ v' w', w'.ownsRow B 9 1 v' (n + m) (xs ++ ss.map Value.string) → w.grownBy w' v.ownBlock → wpList Tryz.prog ops Q rest (a.put o.dst v') w') : wpList Tryz.prog ops Q (o :: rest) a w := by
  refine wpList_plain hgd fun K hK => ?_
  obtain ⟨v', w', hr, h2, h3⟩ := run_append_strs w o.type B v n xs hown A m c B2 ss hsl hn hm hB
  unfold Oper.wp execOp
  simp only [ho, resolve, invoke, builtin, Sem.run_bind, Sem.run_pure, Result.andThen_ok, List.map_toArray, List.map_cons, List.map_nil, hs, hx, hr]
  exact hK _ _ (h v' w' h2 h3)
theorem flat_take {α β : Type} (f : α → List β) {l : List α} {k : Nat} {x : α} (h : l[k]? = some x) : (l.take (k + 1)).flatMap f = (l.take k).flatMap f ++ f x := by
  rw [List.take_add_one, h, List.flatMap_append]
  simp
theorem wr_few {d : Ad} (h1 : d.args.length ≤ 1000) (h2 : d.surv.length ≤ 1000) (p : PD) : (wrPD d p).length ≤ 1000 := by
  cases p <;> simp [wrPD] <;> omega
theorem flat_few {d : Ad} (h1 : d.args.length ≤ 1000) (h2 : d.surv.length ≤ 1000) : ∀ ps : List PD, (ps.flatMap (wrPD d)).length ≤ 1000 * ps.length
  | [] => by simp
  | p :: ps => by
    have := flat_few h1 h2 ps
    have := wr_few h1 h2 p
    simp only [List.flatMap_cons, List.length_append, List.length_cons]
    omega
theorem wr_short {d : Ad} (hw : Wf d) (h1 : d.nm.size ≤ 1000) (h2 : d.mt.size ≤ 1000) (p : PD) : ∀ x ∈ wrPD d p, x.data.toList.length ≤ 1000 := by
  have hI : ∀ z, I64 z → (istr z).data.toList.length ≤ 1000 := fun z hz => by
    have := itoa_len hz
    show (Lib.itoa z).length ≤ 1000
    omega
  intro x hx
  cases p with
  | numA => simp only [wrPD, List.mem_cons, List.not_mem_nil, or_false] at hx; subst hx; exact hI _ hw.a
  | numB => simp only [wrPD, List.mem_cons, List.not_mem_nil, or_false] at hx; subst hx; exact hI _ hw.b
  | nam => simp only [wrPD, List.mem_cons, List.not_mem_nil, or_false] at hx; subst hx; exact h1
  | met => simp only [wrPD, List.mem_cons, List.not_mem_nil, or_false] at hx; subst hx; exact h2
  | surv =>
    obtain ⟨z, hz, rfl⟩ := List.mem_map.1 hx
    exact hI _ (hw.surv z hz)
  | rest =>
    obtain ⟨z, hz, rfl⟩ := List.mem_map.1 hx
    exact hI _ (hw.args z hz)
theorem lens_le : ∀ ws : List (List UInt8), (∀ x ∈ ws, x.length ≤ 1000) → Lib.lens ws ≤ 1000 * ws.length
  | [], _ => by simp [Lib.lens]
  | x :: ws, h => by
    have h1 := lens_le ws fun y hy => h y (by simp [hy])
    have h2 := h x (by simp)
    simp only [Lib.lens, List.map_cons, List.sum_cons, List.length_cons] at h1 ⊢
    omega
theorem forms_word {i : Nat} {fd : FD} (h : formsFD[i]? = some fd) : fd.word.data.toList.length ≤ 1000 := by
  have hm := List.mem_of_getElem? h
  unfold formsFD at hm
  simp only [List.mem_cons, List.not_mem_nil, or_false] at hm
  rcases hm with rfl | rfl | rfl | rfl | rfl | rfl | rfl | rfl | rfl | rfl | rfl | rfl | rfl | rfl | rfl | rfl <;> decide
theorem text_short {d : Ad} {f : FD} {i : Nat} (hf : formsFD[i]? = some f) (hw : Wf d) (h1 : d.nm.size ≤ 1000) (h2 : d.mt.size ≤ 1000) (h3 : d.args.length ≤ 1000) (h4 : d.surv.length ≤ 1000) :
    (Lib.join (lists (textW d f)) [32]).length ≤ 100000000 := by
  have h5 := flat_few h3 h4 f.pds
  have h6 := forms_few hf
  unfold lists textW
  rw [List.map_cons, Lib.join_length]
  have h7 := lens_le (f.word.data.toList :: (f.pds.flatMap (wrPD d)).map (·.data.toList)) (by
    intro x hx
    rcases List.mem_cons.1 hx with rfl | hx
    · exact forms_word hf
    · obtain ⟨y, hy, rfl⟩ := List.mem_map.1 hx
      obtain ⟨p, _, hp⟩ := List.mem_flatMap.1 hy
      exact wr_short hw h1 h2 p y hp)
  simp only [List.length_cons, List.length_map, List.length_nil] at h7 ⊢
  omega
/-- the words, as far as k parts have written. -/
def textK (d : Ad) (f : FD) (k : Nat) : List ByteArray := f.word :: (f.pds.take k).flatMap (wrPD d)
theorem textK_few {d : Ad} (h1 : d.args.length ≤ 1000) (h2 : d.surv.length ≤ 1000) (f : FD) (k : Nat) (hk : k ≤ 4) : (textK d f k).length ≤ 10000 := by
  have := flat_few h1 h2 (f.pds.take k)
  have h3 := List.length_take_le k f.pds
  unfold textK
  rw [List.length_cons]
  omega
theorem formsAt_idx {k : Int} {f : FD} (h : formAt k = some f) : formsFD[k.toNat]? = some f := by
  obtain ⟨h0, h1⟩ := formAt_some h
  obtain ⟨q, rfl⟩ := Int.eq_ofNat_of_zero_le h0
  rw [formAt_nat (by omega)] at h
  exact h
set_option maxRecDepth 100000 in
set_option maxHeartbeats 16000000 in
theorem fmtAct6 (v : Av) (d : Ad) (w : World) (h : Reads w w.heap.size v d) (hg : Gl w) (hn : v.n ≤ 1000) (hn2 : v.n2 ≤ 1000) (hnm : v.nm.size ≤ 1000) (hmt : v.mt.size ≤ 1000) (hw : Wf d) :
    Calls Tryz.prog 6 #[.agg v.cells] w fun e w' => e = .returned (.string ⟨(fmtL d).toArray⟩) ∧ Below w.heap.size w w' := by
  have hq0 := Blk.new w 25 v.cells
  have hb0 : Below w.heap.size w (w.alloc (.cells v.cells 25)) := (Below.refl _ _).alloc (Nat.le_refl _) _
  unfold Av.cells at hq0 hb0 ⊢
  have HR := Lib.hid h
  have HG := Lib.hid hg
  have HW := Lib.hid hw
  clear h hg hw
  go_enter Tryz.func6, Tryz.ntmps6
  go_upto_region 1 with fail
  generalize w.alloc (.cells #[.int .i64 v.k, .int .i64 v.a, .int .i64 v.b, .string v.nm, .string v.mt, .slice v.A v.n v.c, .slice v.A2 v.n2 v.c2] 25) = W0 at hq0 hb0 ⊢
  have hlt0 := hq0.lt
  have zb0 := hb0.size
  obtain ⟨L, hL⟩ : ∃ L, w.heap.size = L := ⟨_, rfl⟩
  rw [hL] at hq0 hlt0 ⊢
  have HL := Lib.hid hL
  have QL := Lib.hid hq0
  have B0 := Lib.hid hb0
  clear hL hq0 hb0
  have c0 : W0.cell? ⟨L, 0, none⟩ = some (.int .i64 v.k) := QL.out.cell 0
  have c1 : W0.cell? ⟨L, 1, none⟩ = some (.int .i64 v.a) := QL.out.cell 1
  have c2 : W0.cell? ⟨L, 2, none⟩ = some (.int .i64 v.b) := QL.out.cell 2
  have c3 : W0.cell? ⟨L, 3, none⟩ = some (.string v.nm) := QL.out.cell 3
  have c4 : W0.cell? ⟨L, 4, none⟩ = some (.string v.mt) := QL.out.cell 4
  have c5 : W0.cell? ⟨L, 5, none⟩ = some (.slice v.A v.n v.c) := QL.out.cell 5
  have c6 : W0.cell? ⟨L, 6, none⟩ = some (.slice v.A2 v.n2 v.c2) := QL.out.cell 6
  have HR0 := Lib.hid ((HR.out.below B0.out).more B0.out.size)
  have HC := Lib.hid (formOf12 v d W0 HR0.out (HG.out.below B0.out) (by omega) (by omega))
  go_wp2_with fail
  refine HC.out.mono ?_
  rintro e w1 ⟨fk, fw, fA, fn, fc, rfl, b1, hf⟩
  have QL1 := Lib.hid (QL.out.below b1 hlt0)
  have B1 := Lib.hid (B0.out.trans (b1.mono zb0))
  have hs1 := b1.size
  clear HC QL B0 b1 c0 c1 c2 c3 c4 c5 c6
  cases hok : okD d with
  | false =>
    have HF : Hid ((fmtL d) = []) := Lib.hid (by unfold fmtL; rw [← okD_valid, hok]; rfl)
    clear hf hok
    go_wp2_with fail
    go_ret
    exact ⟨by rw [HF.out]; rfl, B1.out.alloc B1.out.size _⟩
  | true =>
    obtain ⟨f, g, hf1, rfl, rfl, rfl, rfl, rfl, hp⟩ := hf hok
    have HF := Lib.hid hf1
    have HP := Lib.hid hp
    have HOK := Lib.hid hok
    clear hf hf1 hp hok
    go_upto_region 5 with fail
    obtain ⟨w2, hw2⟩ : ∃ w2, w1.alloc (.cells #[.int .i64 f.k, .string f.word, .slice (some ⟨g, 0, none⟩) f.pds.length f.pds.length] 36) = w2 := ⟨_, rfl⟩
    have b2 : Below w1.heap.size w1 w2 := hw2 ▸ (Below.refl _ _).alloc (Nat.le_refl _) _
    have hs2 : w2.heap.size = w1.heap.size + 1 := by rw [← hw2]; simp
    have hqf := hw2 ▸ Blk.new w1 36 #[.int .i64 f.k, .string f.word, .slice (some ⟨g, 0, none⟩) f.pds.length f.pds.length]
    rw [hw2]
    have hown : (w2.alloc (.cells #[.string f.word] 9)).ownsRow w2.heap.size 9 1 (.slice (some ⟨w2.heap.size, 0, none⟩) 1 1) 1 [.string f.word] :=
      ⟨rfl, .inr ⟨w2.heap.size, 1, #[.string f.word], rfl, Nat.le_refl _, Blk.new w2 9 _, Nat.le_refl _, by unfold maxLen; omega, rfl, rfl⟩⟩
    have b3 : Below w2.heap.size w2 (w2.alloc (.cells #[.string f.word] 9)) := (Below.refl _ _).alloc (Nat.le_refl _) _
    rw [← hs2]
    generalize w2.alloc (.cells #[.string f.word] 9) = w3 at hown b3 ⊢
    have QF := Lib.hid (Blk.below hqf b3 (by omega))
    have e2 : w3.cell? ⟨w1.heap.size, 2, none⟩ = some (.slice (some ⟨g, 0, none⟩) f.pds.length f.pds.length) := QF.out.cell 2
    have OWN := Lib.hid hown
    have B3 := Lib.hid b3
    have B2 := Lib.hid (B1.out.trans (b2.mono (by omega)))
    have HP2 := Lib.hid ((HP.out.below b2).more b2.size)
    have QL2 := Lib.hid (QL1.out.below b2 QL1.out.lt)
    have hfew := forms_few (formsAt_idx HF.out)
    have HS2 := Lib.hid hs2
    clear hw2 hqf hown b2 b3 QL1 HP hs2
    go_wp2_with fail
    go_loopw [5, 21] (fun u i wr => ∃ k : Nat, k ≤ f.pds.length ∧ i = .int .i64 k ∧ Hid (wr.ownsRow w2.heap.size 9 1 u (textK d f k).length ((textK d f k).map Value.string)) ∧ Hid (Below w2.heap.size w2 wr)) (fun _ i _ => f.pds.length - (intOf i).toNat)
    case atStart => exact ⟨0, Nat.zero_le _, rfl, OWN, B3⟩
    case round =>
      clear e2 OWN B3
      obtain ⟨k, hk, rfl, HO, HB⟩ := hrel
      by_cases hlt : k < f.pds.length
      · obtain ⟨pd, a, b, c, dd, hpd, hpv, a0, a1, a2, a3⟩ := (HP2.out.below HB.out).at_ hlt
        obtain ⟨n1, x1, n2, x2, n3, x3, n4, x4, rfl, rfl, rfl, rfl⟩ := hpv.funcs
        have hk0 : 0 ≤ (k : Int) := by omega
        have hk1 : (k : Int) < (f.pds.length : Int) := by omega
        have HPD := Lib.hid hpd
        have HPV := Lib.hid hpv
        clear hpd hpv
        go_upto_region 8 with fail
        have b5 : Below wr.heap.size wr (wr.alloc (.cells #[.func (.func n1) #[] x1, .func (.func n2) #[] x2, .func (.func n3) #[] x3, .func (.func n4) #[] x4] 44)) := (Below.refl _ _).alloc (Nat.le_refl _) _
        have hn5 := Blk.new wr 44 #[.func (.func n1) #[] x1, .func (.func n2) #[] x2, .func (.func n3) #[] x3, .func (.func n4) #[] x4]
        generalize wr.alloc (.cells #[.func (.func n1) #[] x1, .func (.func n2) #[] x2, .func (.func n3) #[] x3, .func (.func n4) #[] x4] 44) = w5 at b5 hn5 ⊢
        have HB5 := Lib.hid (HB.out.trans (b5.mono HB.out.size))
        have HO5 := Lib.hid (own_below HO.out b5)
        have HPV5 := Lib.hid (HPV.out.below (b5.mono HB.out.size))
        have QL5 := Lib.hid (QL2.out.below HB5.out QL2.out.lt)
        have B25 := Lib.hid (B2.out.trans (HB5.out.mono B2.out.size))
        have hN5 := hn5.lt
        generalize wr.heap.size = N at hn5 hN5 ⊢
        clear a0 a1 a2 a3 b5 HB HO HPV
        have c0 : w5.cell? ⟨L, 0, none⟩ = some (.int .i64 v.k) := QL5.out.cell 0
        have c1 : w5.cell? ⟨L, 1, none⟩ = some (.int .i64 v.a) := QL5.out.cell 1
        have c2 : w5.cell? ⟨L, 2, none⟩ = some (.int .i64 v.b) := QL5.out.cell 2
        have c3 : w5.cell? ⟨L, 3, none⟩ = some (.string v.nm) := QL5.out.cell 3
        have c4 : w5.cell? ⟨L, 4, none⟩ = some (.string v.mt) := QL5.out.cell 4
        have c5 : w5.cell? ⟨L, 5, none⟩ = some (.slice v.A v.n v.c) := QL5.out.cell 5
        have c6 : w5.cell? ⟨L, 6, none⟩ = some (.slice v.A2 v.n2 v.c2) := QL5.out.cell 6
        have a1 : w5.cell? ⟨N, 1, none⟩ = some (.func (.func n2) #[] x2) := hn5.cell 1
        clear hn5
        have hrun := part_write HPV5.out v d ((HR.out.below B25.out).more B25.out.size) HW.out (HG.out.below B25.out) (by omega) (by omega)
        have hent := hrun.enters
        have HC := Lib.hid hrun.calls
        clear hrun
        have hal : d.args.length ≤ 1000 := by rw [HR.out.args.len]; exact hn
        have hsl : d.surv.length ≤ 1000 := by rw [HR.out.surv.len]; exact hn2
        have hz2 := HB5.out.size
        go_wp2_with fail
        refine HC.out.mono ?_
        rintro e w6 ⟨A, c, rfl, hws, b6⟩
        have hz3 := b6.size
        have HO6 := Lib.hid (own_below HO5.out b6)
        have HB6 := Lib.hid (HB5.out.trans (b6.mono HB5.out.size))
        have HWS := Lib.hid hws
        have hft := textK_few hal hsl f k (by omega)
        have hwf := wr_few hal hsl pd
        clear b6 hws HO5 HB5 c0 c1 c2 c3 c4 c5 c6 a1 HC hent QL5 B25
        go_wp2_with (at_builtin; refine wpList_append_strs rfl (.tmp 25) (.tmp 29) rfl w2.heap.size _ _ _ rfl HO6.out A (wrPD d pd).length c _ (wrPD d pd) rfl HWS.out (by omega) (by omega) (by omega) ?_)
        intro u' w7 hown7 hgrow
        have HO7 := Lib.hid hown7
        have HB7 := Lib.hid (HB6.out.grown hgrow (by omega) (fun r hr => (HO6.out.lt r hr).1))
        clear hown7 hgrow HO6 HB6
        go_wp2_with fail
        go_roundw
        case rel =>
          refine ⟨k + 1, by omega, by go_num, ?_, HB7⟩
          have := HO7.out
          unfold textK at this ⊢
          rw [flat_take (wrPD d) HPD.out, ← List.cons_append, List.length_append, List.map_append]
          exact Lib.hid this
        case measure => simp [intOf]; omega
      · obtain rfl : k = f.pds.length := by omega
        have htx : textK d f f.pds.length = textW d f := by unfold textK textW; rw [List.take_of_length_le (Nat.le_refl _)]
        rw [htx] at HO
        obtain ⟨bk, cap, hu, hcap, hbk, hcells⟩ : ∃ bk cap, u5 = .slice (some ⟨bk, 0, none⟩) (textW d f).length cap ∧ (textW d f).length ≤ cap ∧ bk < wr.heap.size ∧ ∀ (j : Nat) x, (textW d f)[j]? = some x → wr.cell? ⟨bk, 0 + j, none⟩ = some (.string x) := by
          rcases HO.out.2 with ⟨_, h0⟩ | ⟨bk, cap, cur, hu, _, _, hcap, _⟩
          · exact absurd h0 (by unfold textW; simp)
          · subst hu
            refine ⟨bk, cap, rfl, hcap, (HO.out.lt bk rfl).2, fun j x hx => ?_⟩
            have := HO.out.cells (g := bk) rfl j (.string x) (by rw [List.getElem?_map, hx]; rfl)
            rwa [add_none] at this
        subst hu
        have hjl := text_short (formsAt_idx HF.out) HW.out (by rw [← HR.out.nm]; exact hnm) (by rw [← HR.out.mt]; exact hmt) (by rw [HR.out.args.len]; exact hn) (by rw [HR.out.surv.len]; exact hn2)
        have hft := textK_few (d := d) (by rw [HR.out.args.len]; exact hn) (by rw [HR.out.surv.len]; exact hn2) f f.pds.length (by omega)
        rw [htx] at hft
        have hjoin := Tryz.strings_Join bk 0 cap (textW d f) ⟨#[32]⟩ wr hcells hbk (by omega) hcap (by exact Nat.le_trans hjl (by decide))
        have hres : Lib.join ((textW d f).map (·.data.toList)) [32] = fmtL d := text_fmt d f HF.out (by
          have := HOK.out
          unfold okD at this
          rw [HF.out] at this
          exact this)
        have hjoin' : Calls Tryz.prog 13 #[.slice (some ⟨bk, 0, none⟩) (textW d f).length cap, .string ⟨#[32]⟩] wr fun e w' => e = .returned (.string ⟨(fmtL d).toArray⟩) ∧ Below wr.heap.size wr w' := by
          rw [← hres]
          exact hjoin
        have HJ := Lib.hid hjoin'
        clear hjoin hjoin' hres hcells hjl htx hft
        generalize (textW d f).length = tl at *
        go_wp2_with fail
        refine HJ.out.mono ?_
        rintro e w8 ⟨rfl, b8⟩
        have HB8 := Lib.hid (B2.out.trans ((HB.out.trans (b8.mono HB.out.size)).mono B2.out.size))
        clear b8
        go_wp2_with fail
        go_ret
        exact ⟨rfl, HB8.out⟩
end Go.Proofs.YtoejjboanggenaaGreatDoor
