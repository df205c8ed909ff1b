/-
ShortcutOnce returns true for every input, and the input reads as it did.
-/
import Derived.Test.YtnlgkjnlfeeaoaaP5
import Derived.Test.YtnlgkjnlfeeaoaaOpenX
import Derived.WalkKit
import Derived.ProofKit
import Derived.OpenShut
import Derived.ShutString
import Derived.ChangeOld
import Derived.Below
import Derived.Lib.Hide
import Derived.Deep.RegionHeld3
import Derived.Deep.DeepCutAuto
import Derived.Deep.RegionWith
import Derived.Deep.MidRow
import Derived.Deep.WholeRow
namespace Go.Proofs.Ytnlgkjnlfeeaoaa
open Go.ChangeShapes Go.WideShapes Go.ChangeAt Go.RowKit
set_option linter.unusedVariables false

theorem chosen_none {ss : List Ent} : ∀ (es out : List Ent), (∀ x ∈ es, freeB x ss = true → out.any (sameChain x) = true) → es.foldl (chosenStep ss) out = out
  | [], out, _ => rfl
  | e :: es, out, h => by
    have h1 : chosenStep ss out e = out := by
      unfold chosenStep
      rw [if_neg]
      intro hc
      rw [Bool.and_eq_true] at hc
      rw [h e (by simp) hc.1] at hc
      simp at hc
    rw [List.foldl_cons, h1]
    exact chosen_none es out (fun x hx => h x (by simp [hx]))
theorem sameChain_refl (x : Ent) : sameChain x x = true := by simp [sameChain, idEq]
theorem chosen_any {ss : List Ent} : ∀ (es out : List Ent) (x : Ent), (x ∈ es ∧ freeB x ss = true) ∨ out.any (sameChain x) = true → (es.foldl (chosenStep ss) out).any (sameChain x) = true
  | [], out, x, h => by
    rcases h with h | h
    · simp at h
    · exact h
  | e :: es, out, x, h => by
    rw [List.foldl_cons]
    refine chosen_any es _ x ?_
    rcases h with ⟨hm, hf⟩ | h
    · rcases List.mem_cons.1 hm with rfl | hm
      · right
        unfold chosenStep
        by_cases hc : out.any (sameChain x) = true
        · split
          · rw [List.any_append, hc]; rfl
          · exact hc
        · rw [Bool.not_eq_true] at hc
          rw [if_pos (by rw [hf, hc]; rfl), List.any_append]
          simp [sameChain_refl]
      · exact .inl ⟨hm, hf⟩
    · right
      unfold chosenStep
      split
      · rw [List.any_append, h]; rfl
      · exact h
theorem chosen_twice (es ss : List Ent) : chosen (es ++ es) ss = chosen es ss := by
  unfold chosen
  rw [List.foldl_append]
  exact chosen_none es _ (fun x hx hf => chosen_any es [] x (.inl ⟨hx, hf⟩))
/-- no two of the chosen are alike. -/
theorem chosen_apart {ss : List Ent} : ∀ (es out : List Ent), out.Pairwise (fun a b => sameChain b a = false) → (es.foldl (chosenStep ss) out).Pairwise (fun a b => sameChain b a = false)
  | [], out, h => h
  | e :: es, out, h => by
    rw [List.foldl_cons]
    refine chosen_apart es _ ?_
    unfold chosenStep
    split
    · rename_i hc
      rw [Bool.and_eq_true] at hc
      rw [List.pairwise_append]
      refine ⟨h, by simp, fun a ha b hb => ?_⟩
      simp at hb
      subst hb
      have h2 : out.any (sameChain b) = false := by simpa using hc.2
      rw [← Bool.not_eq_true]
      intro h3
      rw [List.any_eq_false] at h2
      exact h2 a ha h3
    · exact h
theorem once_apart {es ss : List Ent} (hd : ∀ (i j : Nat) (a b : Ent), j < i → ss[i]? = some a → ss[j]? = some b → idEq b.m b.s a.m a.s = false ∧ (b.a == a.a && b.n == a.n) = false) {i k : Nat} {x y : Ent} (hik : k < i) (hx : (chosen es ss)[i]? = some x) (hy : (chosen es ss)[k]? = some y) :
    (x.a == y.a && (stubAt ss x).n == (stubAt ss y).n && (stubAt ss x).a == (stubAt ss y).a) = false := by
  rw [← Bool.not_eq_true]
  intro h
  simp only [Bool.and_eq_true, beq_iff_eq] at h
  obtain ⟨⟨h1, h2⟩, h3⟩ := h
  have hp := chosen_apart (ss := ss) es [] List.Pairwise.nil
  rw [List.pairwise_iff_getElem] at hp
  obtain ⟨hi', hxe⟩ := List.getElem?_eq_some_iff.1 hx
  obtain ⟨hk', hye⟩ := List.getElem?_eq_some_iff.1 hy
  have hne := hp k i hk' hi' hik
  change sameChain (chosen es ss)[i] (chosen es ss)[k] = false at hne
  rw [hxe, hye] at hne
  have hfx := chosen_free ss es [] (by simp) x (List.mem_of_getElem? hx)
  have hfy := chosen_free ss es [] (by simp) y (List.mem_of_getElem? hy)
  obtain ⟨jx, ex, sx, gx, tx, _⟩ := free_spot hfx
  obtain ⟨jy, ey, sy, gy, ty, _⟩ := free_spot hfy
  have ix : idEq ex.m ex.s x.m x.s = true := idx_prop (fun e => idEq e.m e.s x.m x.s) ss 0 jx ex (by rw [Nat.zero_add]; exact sx) gx
  have iy : idEq ey.m ey.s y.m y.s = true := idx_prop (fun e => idEq e.m e.s y.m y.s) ss 0 jy ey (by rw [Nat.zero_add]; exact sy) gy
  rw [tx, ty] at h2 h3
  have hj : jx = jy := by
    rcases Nat.lt_trichotomy jx jy with hlt | he | hlt
    · have := (hd jy jx ey ex hlt gy gx).2; simp [h2, h3] at this
    · exact he
    · have := (hd jx jy ex ey hlt gx gy).2; simp [h2, h3] at this
  subst hj
  obtain rfl : ex = ey := by rw [gx] at gy; simpa using gy
  rw [idEq_true] at ix iy
  have : sameChain x y = true := by
    simp only [sameChain, Bool.and_eq_true, beq_iff_eq, idEq_true]
    exact ⟨h1.symm, iy.1.symm.trans ix.1, iy.2.symm.trans ix.2⟩
  rw [this] at hne
  cases hne
theorem oneCell_enc (es : List Ent) : ∀ u ∈ es.flatMap Ent.enc, u.oneCell' = true := by
  intro u hu
  rw [List.mem_flatMap] at hu
  obtain ⟨e, _, he⟩ := hu
  simp [Ent.enc] at he
  rcases he with rfl | rfl | rfl | rfl | rfl | rfl | rfl | rfl | rfl | rfl | rfl | rfl <;> rfl
theorem Ents.flat {w : World} {B b off n : Nat} {es : List Ent} (h : Ents w B (some ⟨b, off, none⟩) n es) (h0 : 0 < n) (j : Nat) (u : Value) (hu : (es.flatMap Ent.enc)[j]? = some u) : w.cell? ((⟨b, off, none⟩ : Addr).add j) = some u := by
  have hj := (List.getElem?_eq_some_iff.1 hu).1
  rw [length_enc] at hj
  obtain ⟨b', off', hA, _, hc⟩ := h.2 h0
  simp only [Option.some.injEq, Addr.mk.injEq, and_true] at hA
  obtain ⟨rfl, rfl⟩ := hA
  have hi : j / 12 < es.length := by omega
  have hl : j % 12 < (es[j / 12]).enc.length := by show j % 12 < 12; omega
  have h1 := hc (j / 12) es[j / 12] (List.getElem?_eq_getElem hi) (j % 12) _ (List.getElem?_eq_getElem hl)
  have h2 := get_enc es (j / 12) es[j / 12] (List.getElem?_eq_getElem hi) (j % 12) _ (List.getElem?_eq_getElem hl)
  rw [show j / 12 * 12 + j % 12 = j from by omega, hu] at h2
  rw [← h2] at h1
  rw [← h1]
  congr 1
  unfold Addr.add
  split
  · simp_all
  · simp; omega
theorem run_append_ents (w : World) (ty : TypeId) (B : Nat) (v : Value) (k : Nat) (xs : List Value) (hown : w.ownsRow B 34 12 v k xs) (B2 : Nat) (A : Option Addr) (m c : Nat) (es : List Ent) (he : Ents w B2 A m es) (hk : k ≤ 1000000) (hm : m ≤ 1000000) (hB : B ≤ w.heap.size) :
    ∃ v' w', (Builtin.append_ #[22, 22] ty #[v, .slice A m c]).run Try.prog w = .ok v' w' ∧ w'.ownsRow B 34 12 v' (k + m) (xs ++ es.flatMap Ent.enc) ∧ w.grownBy w' v.ownBlock := by
  obtain ⟨i0, hi, hz0, hz1, hz2⟩ := info_parts info34
  cases A with
  | none =>
    obtain rfl : m = 0 := by
      rcases Nat.eq_zero_or_pos m with h | h
      · exact h
      · obtain ⟨_, _, h1, _⟩ := he.2 h; cases h1
    obtain rfl : es = [] := List.eq_nil_of_length_eq_zero he.1
    refine ⟨v, w, ?_, by simpa using hown, World.grownBy.refl w _⟩
    rcases hown.2 with ⟨rfl, rfl⟩ | ⟨g, cap, cur, rfl, _, _, hnc, _⟩
    · simp [Builtin.append_, run_underlying Try.underlying22, sizeOf, typeInfo, hi, Builtin.lenOf, Builtin.firstCells]
    · simp [Builtin.append_, run_underlying Try.underlying22, sizeOf, typeInfo, hi, Builtin.lenOf, Builtin.firstCells, hnc, storeCells]
  | some ad =>
    have hnews : ∀ j u, (es.flatMap Ent.enc)[j]? = some u → w.cell? (ad.add j) = some u := by
      intro j u hu
      rcases Nat.eq_zero_or_pos m with h | h
      · subst h
        obtain rfl : es = [] := List.eq_nil_of_length_eq_zero he.1
        simp at hu
      · obtain ⟨b, off, h1, _⟩ := he.2 h
        simp only [Option.some.injEq] at h1
        subst h1
        exact he.flat h j u hu
    obtain ⟨v', w', h1, h2, h3, _⟩ := run_append_own (P := Try.prog) w B 22 ty 34 i0 _ 12 80 Try.underlying22 hi hz0 hz1 hz2 rfl (by decide) v k xs hown ad m c (es.flatMap Ent.enc) (by rw [length_enc, he.1]) hnews (oneCell_enc es) (by unfold maxLen; omega) (by omega) hB
    exact ⟨v', w', h1, h2, h3⟩
theorem wpList_append_ents {w : World} {ops : Array Oper} {rest : List Oper} {o : Oper} {a : Act} {Q : Exit → Act → World → Prop} (hgd : o.guard = none) (s x : Operand) (ho : o.op = .call { callee := .builtin .append, args := #[s, x], argTypes := #[22, 22] })
    (B : Nat) (v : Value) (k : Nat) (xs : List Value) (hs : a.eval s = v) (hown : w.ownsRow B 34 12 v k xs) (B2 : Nat) (A : Option Addr) (m c : Nat) (es : List Ent) (hx : a.eval x = .slice A m c) (he : Ents w B2 A m es) (hk : k ≤ 1000000) (hm : m ≤ 1000000) (hB : B ≤ w.heap.size)
    (h : ∀ v' w', w'.ownsRow B 34 12 v' (k + m) (xs ++ es.flatMap Ent.enc) → w.grownBy w' v.ownBlock → wpList Try.prog ops Q rest (a.put o.dst v') w') : wpList Try.prog ops Q (o :: rest) a w := by
  refine wpList_plain hgd fun K hK => ?_
  obtain ⟨v', w', hr, h2, h3⟩ := run_append_ents w o.type B v k xs hown B2 A m c es he hk hm hB
  unfold Oper.wp execOp
  simp only [ho, resolve, invoke, builtin, Sem.run_bind, Sem.run_pure, Result.andThen_ok, List.map_toArray, List.map_cons, List.map_nil, hs, hx, hr]
  exact hK _ _ (h v' w' h2 h3)
def diff (a b : Ent) : Prop := idEq b.m b.s a.m a.s = false ∧ (b.a == a.a && b.n == a.n) = false
set_option maxRecDepth 100000 in
set_option maxHeartbeats 4000000 in
theorem walk6_few (A : Option Addr) (n cp : Nat) (es : List Ent) (A2 : Option Addr) (n2 cp2 : Nat) (ss : List Ent) (w : World) (he : Ents w w.heap.size A n es) (he2 : Ents w w.heap.size A2 n2 ss) (hn : n ≤ 20) (hn2 : n2 ≤ 20) (hcp2 : n2 ≤ cp2) :
    Calls Try.prog 6 #[.slice A n cp, .slice A2 n2 cp2] w fun v w' => v = .returned (.bool true) ∧ Below w.heap.size w w' := by
  have hd : decide (n ≤ 20 ∧ n2 ≤ 20) = true := by simpa using And.intro hn hn2
  have hq1 := eql31
  have hq2 := eql32
  have hq3 := neq31
  have hq4 := neq32
  go_enter Try.func6, Try.ntmps6
  go_wp2_with fail
  refine (awake10 _).mono ?_
  rintro v w1 ⟨rfl, hb1⟩
  go_wp2_with fail
  refine (few11 _ _ _ _ _ _ _ (by omega) (by omega)).mono ?_
  rintro v w1' ⟨rfl, rfl⟩
  rw [hd]
  go_wp2_with fail
  have hs1 := (he2.below hb1).more hb1.size
  have hs0 := (he.below hb1).more hb1.size
  go_loopw [24] (fun i wr => ∃ k : Nat, k ≤ n2 ∧ i = .int .i64 k ∧ Below w1.heap.size w1 wr ∧ Hid (∀ (i j : Nat) (a b : Ent), j < i → i < k → ss[i]? = some a → ss[j]? = some b → diff a b)) (fun i _ => n2 - (intOf i).toNat)
  case atStart => exact ⟨0, Nat.zero_le _, rfl, Below.refl _ _, Lib.hid (fun i j a b _ h => by omega)⟩
  case round =>
    obtain ⟨k, hk, rfl, hbr, HD⟩ := hrel
    obtain ⟨wo, rfl⟩ : ∃ wo : World, wo = wr := ⟨_, rfl⟩
    by_cases hlt : k < n2
    · have hk0 : 0 ≤ (k : Int) := by omega
      have hk1 : (k : Int) < n2 := by omega
      obtain ⟨b, off, s, rfl, hbb, hsk, c0, c1, c2, c3, c4, c5, c6, c7, c8, c9, c10, c11⟩ := ((hs1.below hbr).more hbr.size).cells hlt
      have HSK := Lib.hid hsk
      have hkc : (k : Int) ≤ cp2 := by omega
      have hkc2 : k ≤ cp2 := by omega
      clear hsk
      go_wp2_with fail
      obtain ⟨wy, hwy⟩ : ∃ wy, wo.alloc (.cells #[.int .i64 s.a, .int .u64 s.n, .int .i64 s.m, .int .i64 s.s, .int .i64 s.x, .int .i64 s.y, .int .i64 s.d, .bool s.t, .bool s.w, .bool s.g, .int .i64 s.p, .int .i64 s.q] 36) = wy := ⟨_, rfl⟩
      have hbs : Blk wy wo.heap.size 36 #[.int .i64 s.a, .int .u64 s.n, .int .i64 s.m, .int .i64 s.s, .int .i64 s.x, .int .i64 s.y, .int .i64 s.d, .bool s.t, .bool s.w, .bool s.g, .int .i64 s.p, .int .i64 s.q] := by rw [← hwy]; exact Blk.new wo 36 _
      have hby : Below wo.heap.size wo wy := by rw [← hwy]; exact (Below.refl _ _).alloc (Nat.le_refl _) _
      rw [hwy]
      have hxy := hbr.trans (hby.mono hbr.size)
      have hy1 := (hs1.below hxy).more hxy.size
      have hsl := hbs.lt
      have s0 : wy.cell? ⟨wo.heap.size, 0, none⟩ = some (.int .i64 s.a) := hbs.cell 0
      have s1 : wy.cell? ⟨wo.heap.size, 1, none⟩ = some (.int .u64 s.n) := hbs.cell 1
      have s2 : wy.cell? ⟨wo.heap.size, 2, none⟩ = some (.int .i64 s.m) := hbs.cell 2
      have s3 : wy.cell? ⟨wo.heap.size, 3, none⟩ = some (.int .i64 s.s) := hbs.cell 3
      clear hwy hby hbs c0 c1 c2 c3 c4 c5 c6 c7 c8 c9 c10 c11
      go_loopw [33] (fun i V => ∃ q : Nat, q ≤ k ∧ i = .int .i64 q ∧ Below wy.heap.size wy V ∧ Hid (∀ (j : Nat) (b : Ent), j < q → ss[j]? = some b → diff s b)) (fun i _ => k - (intOf i).toNat)
      case atStart => exact ⟨0, Nat.zero_le _, rfl, Below.refl _ _, Lib.hid (fun j b h => by omega)⟩
      case round =>
        obtain ⟨q, hq, rfl, hb6, HI⟩ := hrel
        obtain ⟨wi, rfl⟩ : ∃ wi : World, wi = wr := ⟨_, rfl⟩
        by_cases hlq : q < k
        · have hq0 : 0 ≤ (q : Int) := by omega
          have hq1' : (q : Int) < k := by omega
          have hq2' : (q : Int) < n2 := by omega
          obtain ⟨b', off', y, hA, hb2', hyq, d0, d1, d2, d3, d4, d5, d6, d7, d8, d9, d10, d11⟩ := ((hy1.below hb6).more hb6.size).cells (k := q) (by omega)
          simp only [Option.some.injEq, Addr.mk.injEq, and_true] at hA
          obtain ⟨rfl, rfl⟩ := hA
          have HYQ := Lib.hid hyq
          have z0 := (cells_below hb6 hsl 0).trans s0
          have z1 := (cells_below hb6 hsl 1).trans s1
          have z2 := (cells_below hb6 hsl 2).trans s2
          have z3 := (cells_below hb6 hsl 3).trans s3
          have hwi : wo.heap.size < wi.heap.size := Nat.lt_of_lt_of_le hsl hb6.size
          have hbe : ∀ o, Below w.heap.size w (wi.alloc o) := fun o => by
            have h9 := hb1.trans ((hxy.trans (hb6.mono hxy.size)).mono hb1.size)
            exact h9.alloc h9.size o
          have hb7 : ∀ o, Below wy.heap.size wy (wi.alloc o) := fun o => hb6.alloc hb6.size o
          have HBE := Lib.hid hbe
          have HB7 := Lib.hid hb7
          clear hyq hbe hb7
          by_cases t1 : idEq y.m y.s s.m s.s = true
          · go_wp2_with fail
            go_ret
            exact ⟨rfl, HBE.out _⟩
          · rw [Bool.not_eq_true] at t1
            by_cases t2 : (y.a == s.a) = true
            · by_cases t3 : (y.n == s.n) = true
              · go_wp2_with fail
                go_ret
                exact ⟨rfl, HBE.out _⟩
              · rw [Bool.not_eq_true] at t3
                go_wp2_with fail
                go_roundw
                case rel => exact ⟨q + 1, by omega, by go_num, HB7.out _, Lib.hid (fun j b hj hb => by
                  rcases Nat.lt_or_ge j q with h | h
                  · exact HI.out j b h hb
                  · obtain rfl : j = q := by omega
                    obtain rfl : y = b := by have := HYQ.out; rw [hb] at this; simpa using this.symm
                    exact ⟨t1, by rw [t3, Bool.and_false]⟩)⟩
                case measure => simp [intOf]; omega
            · rw [Bool.not_eq_true] at t2
              go_wp2_with fail
              go_roundw
              case rel => exact ⟨q + 1, by omega, by go_num, HB7.out _, Lib.hid (fun j b hj hb => by
                rcases Nat.lt_or_ge j q with h | h
                · exact HI.out j b h hb
                · obtain rfl : j = q := by omega
                  obtain rfl : y = b := by have := HYQ.out; rw [hb] at this; simpa using this.symm
                  exact ⟨t1, by rw [t2]; rfl⟩)⟩
              case measure => simp [intOf]; omega
        · obtain rfl : q = k := by omega
          go_wp2_with fail
          go_roundw
          case rel => exact ⟨q + 1, by omega, by go_num, hxy.trans (hb6.mono hxy.size), Lib.hid (fun i j a b hji hik ha hb => by
            rcases Nat.lt_or_ge i q with h | h
            · exact HD.out i j a b hji h ha hb
            · obtain rfl : i = q := by omega
              obtain rfl : s = a := by have := HSK.out; rw [ha] at this; simpa using this.symm
              exact HI.out j b hji hb)⟩
          case measure => simp [intOf]; omega
    · have hdiff : ∀ (i j : Nat) (a b : Ent), j < i → ss[i]? = some a → ss[j]? = some b → diff a b := fun i j a b hji ha hb => HD.out i j a b hji (by have := (List.getElem?_eq_some_iff.1 ha).1; rw [he2.1] at this; omega) ha hb
      have HAP := Lib.hid (show ∀ (i k : Nat) (x y : Ent), k < i → (chosen es ss)[i]? = some x → (chosen es ss)[k]? = some y → (x.a == y.a && (stubAt ss x).n == (stubAt ss y).n && (stubAt ss x).a == (stubAt ss y).a) = false from fun i k x y h1 h2 h3 => once_apart hdiff h1 h2 h3)
      have hb2 := hb1.trans (hbr.mono hb1.size)
      have h2a := (he.below hb2).more hb2.size
      have h2b := (he2.below hb2).more hb2.size
      clear hdiff HD hbr hs1 hs0
      go_wp2_with fail
      refine (wanted12 _ _ _ _ _ _ es ss _ (by omega) (by omega) h2a h2b).mono ?_
      rintro v w3 ⟨v, rfl, hown, hb3⟩
      obtain ⟨Aw, cw, rfl⟩ := slice_of_own hown
      have hbb3 := hb2.trans (hb3.mono hb2.size)
      go_wp2_with fail
      refine (targets16 _ _ _ _ _ _ es ss _ (by omega) (by omega) ((he.below hbb3).more hbb3.size) ((he2.below hbb3).more hbb3.size)).mono ?_
      rintro v w4 ⟨v, rfl, hownT, hb4⟩
      obtain ⟨At, ct, rfl⟩ := slice_of_own hownT
      have hownM := own_below hown hb4
      have hbb4 := hbb3.trans (hb4.mono hbb3.size)
      have h4a := (he.below hbb4).more hbb4.size
      have h4b := (he2.below hbb4).more hbb4.size
      have hle := chosen_le ss es []
      rw [show es.foldl (chosenStep ss) [] = chosen es ss from rfl, he.1] at hle
      simp only [List.length_nil, Nat.zero_add] at hle
      have htw := Lib.hid (show chosen (es ++ es) ss = chosen es ss from chosen_twice es ss)
      clear hown hb3 hb4 h2a h2b
      generalize chosen es ss = ch at *
      go_wp2_with fail
      go_loopw [71] (fun i wr => ∃ a : Nat, a ≤ ch.length ∧ i = .int .i64 a ∧ ∃ d, wr = w4.drewN d) (fun i _ => ch.length - (intOf i).toNat)
      case atStart => exact ⟨0, Nat.zero_le _, rfl, 0, rfl⟩
      case round =>
        obtain ⟨a, ha, rfl, d, rfl⟩ := hrel
        by_cases hla : a < ch.length
        · go_wp2_with fail
          go_loopw [75] (fun i wr => ∃ q : Nat, q ≤ a ∧ i = .int .i64 q ∧ ∃ d, wr = w4.drewN d) (fun i _ => a - (intOf i).toNat)
          case atStart => exact ⟨0, Nat.zero_le _, rfl, d, rfl⟩
          case round =>
            obtain ⟨q, hq, rfl, d2, rfl⟩ := hrel
            by_cases hlq : q < a
            · obtain ⟨x, hx⟩ : ∃ x, ch[a]? = some x := ⟨_, List.getElem?_eq_getElem hla⟩
              obtain ⟨y, hy⟩ : ∃ y, ch[q]? = some y := ⟨_, List.getElem?_eq_getElem (by omega)⟩
              have hap := HAP.out a q x y hlq hx hy
              obtain ⟨g, capw, hAw⟩ : ∃ g cap, Value.slice Aw ch.length cw = .slice (some ⟨g, 0, none⟩) ch.length cap := by
                rcases hownM.2 with ⟨_, h0⟩ | ⟨g, cap, _, h1, _⟩
                · omega
                · exact ⟨g, cap, h1⟩
              simp only [Value.slice.injEq, true_and] at hAw
              obtain ⟨rfl, rfl⟩ := hAw
              obtain ⟨gt, capt, hAt⟩ : ∃ g cap, Value.slice At ch.length ct = .slice (some ⟨g, 0, none⟩) ch.length cap := by
                rcases hownT.2 with ⟨_, h0⟩ | ⟨g, cap, _, h1, _⟩
                · omega
                · exact ⟨g, cap, h1⟩
              simp only [Value.slice.injEq, true_and] at hAt
              obtain ⟨rfl, rfl⟩ := hAt
              have m1 : w4.cell? ⟨g, a * 39 + 1, none⟩ = some (.int .u64 (stubAt ss x).n) := by rw [hownM.cellAt _ (by omega)]; exact get_encM _ _ _ _ hx 1 _ rfl
              have m2 : w4.cell? ⟨g, a * 39 + 2, none⟩ = some (.int .i64 x.a) := by rw [hownM.cellAt _ (by omega)]; exact get_encM _ _ _ _ hx 2 _ rfl
              have o1 : w4.cell? ⟨g, q * 39 + 1, none⟩ = some (.int .u64 (stubAt ss y).n) := by rw [hownM.cellAt _ (by omega)]; exact get_encM _ _ _ _ hy 1 _ rfl
              have o2 : w4.cell? ⟨g, q * 39 + 2, none⟩ = some (.int .i64 y.a) := by rw [hownM.cellAt _ (by omega)]; exact get_encM _ _ _ _ hy 2 _ rfl
              have t0 : w4.cell? ⟨gt, a, none⟩ = some (.int .i64 (stubAt ss x).a) := by rw [hownT.cellAt _ (by omega), get_encT _ _ _ _ hx]
              have u0 : w4.cell? ⟨gt, q, none⟩ = some (.int .i64 (stubAt ss y).a) := by rw [hownT.cellAt _ (by omega), get_encT _ _ _ _ hy]
              generalize (stubAt ss x).n = xn at *
              generalize (stubAt ss x).a = xa at *
              generalize (stubAt ss y).n = yn at *
              generalize (stubAt ss y).a = ya at *
              have ha0 : 0 ≤ (a : Int) := by omega
              have ha1 : (a : Int) < ch.length := by omega
              have hq0 : 0 ≤ (q : Int) := by omega
              have hq1' : (q : Int) < ch.length := by omega
              have hq2' : (q : Int) < a := by omega
              clear hx hy hownM hownT HAP htw h4a h4b
              by_cases t1 : (x.a == y.a) = true
              · by_cases t2 : (xn == yn) = true
                · have t3 : (xa == ya) = false := by rw [t1, t2] at hap; simpa using hap
                  clear hap
                  go_wp2_with fail
                  go_quiet (fail)
                  go_wp2_with fail
                  go_roundw
                  case rel => exact ⟨q + 1, by omega, by go_num, _, rfl⟩
                  case measure => simp [intOf]; omega
                · rw [Bool.not_eq_true] at t2
                  clear hap
                  go_wp2_with fail
                  go_quiet (fail)
                  go_wp2_with fail
                  go_roundw
                  case rel => exact ⟨q + 1, by omega, by go_num, _, rfl⟩
                  case measure => simp [intOf]; omega
              · rw [Bool.not_eq_true] at t1
                clear hap
                go_wp2_with fail
                go_quiet (fail)
                go_wp2_with fail
                go_roundw
                case rel => exact ⟨q + 1, by omega, by go_num, _, rfl⟩
                case measure => simp [intOf]; omega
            · obtain rfl : q = a := by omega
              go_wp2_with fail
              go_roundw
              case rel => exact ⟨q + 1, by omega, by go_num, d2, rfl⟩
              case measure => simp [intOf]; omega
        · have h5a : Ents (w4.drewN d) (w4.drewN d).heap.size A n es := h4a
          have h5b : Ents (w4.drewN d) (w4.drewN d).heap.size A2 n2 ss := h4b
          have hbb5 : Below w.heap.size w (w4.drewN d) := below_drewN hbb4 d
          clear h4a h4b hbb4 hownM hownT HAP
          generalize w4.drewN d = w5 at *
          have hown0 : (w5.alloc (.cells #[] 34)).ownsRow w5.heap.size 34 12 (.slice (some ⟨w5.heap.size, 0, none⟩) 0 0) 0 [] := World.ownsRow_made w5 #[] 0 (Nat.le_refl _) (Nat.zero_le _) rfl
          have h6a := h5a.below ((Below.refl _ _).alloc (Nat.le_refl _) (.cells #[] 34))
          have HO0 := Lib.hid hown0
          clear hown0
          go_wp2_with (at_builtin; refine wpList_append_ents rfl (.tmp 115) (.tmp 116) rfl w5.heap.size _ _ _ rfl HO0.out w5.heap.size A n cp es rfl h6a (by omega) (by omega) (by simp) ?_)
          intro v6 w6 hown6 hg6
          have hb56 : Below w5.heap.size w5 w6 := ((Below.refl _ _).alloc (Nat.le_refl _) _).grown hg6 (by simp) (fun q hq => by simp [Value.ownBlock] at hq; omega)
          have h7a := h5a.below hb56
          obtain ⟨A6, c6, rfl⟩ := slice_of_own hown6
          have HO6 := Lib.hid hown6
          have hz6 := hb56.size
          clear hown6 hg6
          go_wp2_with (at_builtin; refine wpList_append_ents rfl (.tmp 117) (.tmp 118) rfl w5.heap.size _ _ _ rfl HO6.out w5.heap.size A n cp es rfl h7a (by omega) (by omega) (by omega) ?_)
          intro v7 w7 hown7 hg7
          have hb57 : Below w5.heap.size w5 w7 := hb56.grown hg7 hb56.size (fun q hq => (HO6.out.lt q hq).1)
          rw [← List.flatMap_append] at hown7
          obtain ⟨A7, c7, rfl⟩ := slice_of_own hown7
          have hl7 : (es ++ es).length = n + n := by rw [List.length_append, he.1]
          have h8 := Ents.of_own hown7 hl7
          have h8b := (h5b.below hb57).more hb57.size
          clear hown7 hg7
          go_wp2_with fail
          refine (wanted12 _ _ _ _ _ _ (es ++ es) ss _ (by omega) (by omega) h8 h8b).mono ?_
          rintro v w8 ⟨v, rfl, hown8, hb8⟩
          rw [htw.out] at hown8
          obtain ⟨A8, c8, rfl⟩ := slice_of_own hown8
          have hb9 := hbb5.trans ((hb57.trans (hb8.mono hb57.size)).mono hbb5.size)
          clear hown8
          go_wp2_with fail
          go_ret
          exact ⟨ret_bool (by simp), hb9⟩

set_option maxHeartbeats 1000000 in
theorem walk6_many (A : Option Addr) (n cp : Nat) (es : List Ent) (A2 : Option Addr) (n2 cp2 : Nat) (ss : List Ent) (w : World) (he : Ents w w.heap.size A n es) (hn : n ≤ maxLen) (hcp : n ≤ cp) (he2 : Ents w w.heap.size A2 n2 ss) (hn2 : n2 ≤ maxLen) (hcp2 : n2 ≤ cp2) (hf : ¬ (n ≤ 20 ∧ n2 ≤ 20)) :
    Calls Try.prog 6 #[.slice A n cp, .slice A2 n2 cp2] w fun v w' => v = .returned (.bool true) ∧ Below w.heap.size w w' := by
  unfold maxLen at hn hn2
  have hd : decide (n ≤ 20 ∧ n2 ≤ 20) = false := by simpa using hf
  have hq1 := eql31
  have hq2 := eql32
  have hq3 := neq31
  have hq4 := neq32
  go_enter Try.func6, Try.ntmps6
  go_wp2_with fail
  refine (awake10 _).mono ?_
  rintro v w1 ⟨rfl, hb1⟩
  go_wp2_with fail
  refine (few11 _ _ _ _ _ _ _ (by omega) (by omega)).mono ?_
  rintro v w1' ⟨rfl, rfl⟩
  rw [hd]
  go_wp2_with fail
  refine (awake10 _).mono ?_
  rintro v w2 ⟨rfl, hb2⟩
  go_wp2_with fail
  go_ret
  exact ⟨rfl, hb1.trans (hb2.mono hb1.size)⟩
theorem walk6 (A : Option Addr) (n cp : Nat) (es : List Ent) (A2 : Option Addr) (n2 cp2 : Nat) (ss : List Ent) (w : World) (he : Ents w w.heap.size A n es) (hn : n ≤ maxLen) (hcp : n ≤ cp) (he2 : Ents w w.heap.size A2 n2 ss) (hn2 : n2 ≤ maxLen) (hcp2 : n2 ≤ cp2) :
    Calls Try.prog 6 #[.slice A n cp, .slice A2 n2 cp2] w fun v w' => v = .returned (.bool true) ∧ Below w.heap.size w w' := by
  by_cases hf : n ≤ 20 ∧ n2 ≤ 20
  · exact walk6_few A n cp es A2 n2 cp2 ss w he he2 hf.1 hf.2 hcp2
  · exact walk6_many A n cp es A2 n2 cp2 ss w he hn hcp he2 hn2 hcp2 hf
set_option maxRecDepth 100000 in
theorem lifted6 (os : Os) (started : os.Started) (H : Type) (enc : TypeId × Value → H) :
    ReturnsInHanded {} Try.checked os 6 .any (Rows.shortcutOnceSpec.pre6 enc Try.prog Try.f6 Rows.shortcutOnceRow.domain false) (Rows.shortcutOnceSpec.post enc Try.prog Try.f6 false true false false) := by
  refine returnsInHanded_of_change (C := Try.checked) own_ started (by kernel_rfl) Try.func6
    (ChangeSpec.witness6 (enc := enc) (C := Try.checked) false ⟨#[], #[.slice none 0 0, .slice none 0 0], []⟩ 8 (by kernel_rfl) (by kernel_rfl) (by kernel_rfl) (by kernel_rfl)) ?_
  intro W base args ds gs before hval0 hW hcnd _
  have hval : ∀ (j : Nat) t v, Try.f6.params[j]? = some t → args[j]? = some v → Value.okWide Try.prog W .any base t v := hval0
  have hW' := hW
  obtain ⟨p, q, hA0, hV, rfl, hfz, hnd⟩ := hW
  have hA : DataW.TrodAll enc Try.prog W 0 (fun _ => true) true Try.f6.params.toList args.toList ds p := hA0
  rw [Try.params6] at hA hval
  obtain ⟨v0, vs0, d0, ds0, p0, q0, hargs, rfl, rfl, h0, r0⟩ := trodAll_cons hA
  obtain ⟨v1, vs1, d1, ds1, p1, q1, rfl, rfl, rfl, h1, r1⟩ := trodAll_cons r0
  obtain ⟨rfl, rfl, rfl⟩ := trodAll_nil r1
  obtain rfl : args = #[v0, v1] := by cases args; simp_all
  obtain ⟨rfl, rfl⟩ := trodVars_none hV
  have k0 := h0
  have lt0 : ∀ x ∈ p0, x.block < W.heap.size := by obtain ⟨m, hm⟩ := k0; exact DataW.trod_lt m _ _ _ hm
  obtain ⟨A0, n0, cp0, rfl⟩ := okWide_slice Try.underlying22 (hval 0 22 v0 rfl rfl)
  obtain ⟨hn0, hcp0, es0, he0⟩ : n0 ≤ maxLen ∧ n0 ≤ cp0 ∧ ∃ es, Ents W W.heap.size A0 n0 es := by
    obtain ⟨fuel, hf⟩ := h0
    exact ents_of_trod Try.underlying22 leaves34 (by kernel_rfl) hf
  have k1 := h1
  have lt1 : ∀ x ∈ p1, x.block < W.heap.size := by obtain ⟨m, hm⟩ := k1; exact DataW.trod_lt m _ _ _ hm
  obtain ⟨A1, n1, cp1, rfl⟩ := okWide_slice Try.underlying23 (hval 1 23 v1 rfl rfl)
  obtain ⟨hn1, hcp1, es1, he1⟩ : n1 ≤ maxLen ∧ n1 ≤ cp1 ∧ ∃ es, Ents W W.heap.size A1 n1 es := by
    obtain ⟨fuel, hf⟩ := h1
    exact ents_of_trod Try.underlying23 leaves36 (by kernel_rfl) hf
  clear hA0 hval0
  refine (walk6 A0 n0 cp0 es0 A1 n1 cp1 es1 W he0 hn0 hcp0 he1 hn1 hcp1).mono fun e W' ⟨he, bel⟩ => ?_
  subst he
  exact ⟨_, rfl, _, _, _, [], _, [], hW', trodAll_mk1 (shut_bool Try.underlying4 _), (trodAll_cons_mk (Below.trod laidOut_ (by kernel_rfl) (of_decide_eq_true (by kernel_rfl)) k0 bel lt0) (trodAll_cons_mk (Below.trod laidOut_ (by kernel_rfl) (of_decide_eq_true (by kernel_rfl)) k1 bel lt1) trodAll_mk0)), rfl, bel.frame _, fun h => by cases h⟩

theorem shortcutOnce_holds : Rows.ShortcutOnceSaid :=
  OpenClaim.holds_of_wide 6 Try.f6 rfl rfl rfl rfl rfl rfl rfl ⟨rfl, rfl, rfl, rfl, rfl⟩ rfl rfl rfl rfl rfl (by kernel_rfl) Try.func6 (by kernel_rfl)
    (of_decide_eq_true (by kernel_rfl)) (by unfold Func.isWrapper; first | (rw [if_pos (by decide +kernel)]; kernel_rfl) | (rw [if_neg (by decide +kernel)]; exact ⟨rfl, rfl⟩))
    (fun os started H enc _ => lifted6 os started H enc)

end Go.Proofs.Ytnlgkjnlfeeaoaa
