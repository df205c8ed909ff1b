/-
ShortcutPasses returns true for every input, and the input reads as it did.
-/
import Derived.Test.YtnlgkjnlfeeaoaaM1
import Derived.Test.YtnlgkjnlfeeaoaaOpenX
import Derived.WalkKit
import Derived.ProofKit
import Derived.OpenShut
import Derived.ShutString
import Derived.ChangeOld
import Derived.Below
import Derived.Lib.Hide
import Derived.Deep.RegionHeld3
import Derived.Deep.DeepCutAuto
import Derived.Deep.RegionWith
import Derived.Deep.MidRow
import Derived.Deep.WholeRow
namespace Go.Proofs.Ytnlgkjnlfeeaoaa
open Go.ChangeShapes Go.WideShapes Go.ChangeAt Go.RowKit
set_option linter.unusedVariables false

/-- the cells of a message. -/
def msgs (ss : List Ent) (xs : List Ent) : List Value := (xs.map (pair ss)).flatMap encM
theorem get_encM : ∀ (xs ss : List Ent) (k : Nat) (x : Ent), xs[k]? = some x → ∀ (j : Nat) (v : Value), (encM (pair ss x))[j]? = some v → ((xs.map (pair ss)).flatMap encM)[k * 39 + j]? = some v
  | [], ss, k, x, h => by simp at h
  | y :: xs, ss, 0, x, h => by
    simp at h; subst h
    intro j v hv
    have hj : j < (encM (pair ss y)).length := (List.getElem?_eq_some_iff.1 hv).1
    rw [List.map_cons, List.flatMap_cons, List.getElem?_append_left (by simpa using hj)]
    simpa using hv
  | y :: xs, ss, k + 1, x, h => by
    intro j v hv
    have hl : (encM (pair ss y)).length = 39 := rfl
    rw [List.map_cons, List.flatMap_cons, List.getElem?_append_right (by omega), hl, show (k + 1) * 39 + j - 39 = k * 39 + j from by omega]
    exact get_encM xs ss k x (by simpa using h) j v hv
/-- a whole struct into the block that was made last. -/
theorem wpList_store_new {P : Program} {ops : Array Oper} {rest : List Oper} {op : Oper} {a : Act} {w : World} {Q : Exit → Act → World → Prop} (hgd : op.guard = none) (t : TypeId) (x y : Operand) (ho : op.op = .store t x y)
    (c c' : Array Value) (hx : a.eval x = .pointer (some ⟨w.heap.size, 0, none⟩)) (hy : a.eval y = .agg c') (hi : (P.info? t).map (·.size) = some c'.size) (hs : c.size = c'.size) (h1 : c'.all (·.oneCell') = true)
    (h : wpList P ops Q rest (a.put op.dst undef) (w.alloc (.cells c' t))) : wpList P ops Q (op :: rest) a (w.alloc (.cells c t)) :=
  wpList_plain hgd fun _ hK => by
    unfold Oper.wp execOp
    simp only [ho, hx, hy, Sem.run_bind, run_storeAt_new (P := P) w t c c' hi hs h1, Result.andThen_ok]
    exact hK _ _ h
def passG (s x : Ent) : Bool := !s.g && idEq s.p s.q 0 0 && !x.g && idEq x.p x.q 0 0
def passF (t num ask : Int) (s x : Ent) : Bool := passG s x && s.a == t && s.n == num && x.a == ask && idEq x.m x.s s.m s.s && !idEq x.m x.s 0 0
theorem chosen_mem (ss : List Ent) : ∀ (es out : List Ent) (x : Ent), x ∈ es.foldl (chosenStep ss) out → x ∈ out ∨ x ∈ es
  | [], out, x, h => .inl h
  | e :: es, out, x, h => by
    rw [List.foldl_cons] at h
    rcases chosen_mem ss es _ x h with h1 | h1
    · unfold chosenStep at h1
      split at h1
      · rcases List.mem_append.1 h1 with h2 | h2
        · exact .inl h2
        · simp at h2; subst h2; exact .inr (by simp)
      · exact .inl h1
    · exact .inr (by simp [h1])
theorem idx_prop (p : Ent → Bool) : ∀ (es : List Ent) (k j : Nat) (e : Ent), idxFrom p es k = ((k + j : Nat) : Int) → es[j]? = some e → p e = true
  | [], k, j, e, h, he => by simp at he
  | x :: es, k, j, e, h, he => by
    unfold idxFrom at h
    by_cases hp : p x = true
    · rw [if_pos hp] at h
      obtain rfl : j = 0 := by omega
      simp at he; subst he; exact hp
    · rw [if_neg hp] at h
      cases j with
      | zero =>
        rcases idx_range p es (k + 1) with h1 | h1 <;> omega
      | succ j => exact idx_prop p es (k + 1) j e (by rw [h]; omega) (by simpa using he)
theorem chosen_pass {es ss : List Ent} {k : Nat} {x : Ent} (h : (chosen es ss)[k]? = some x) :
    ∃ (j : Nat) (e : Ent), spot x ss = (j : Int) ∧ ss[j]? = some e ∧ stubAt ss x = e ∧ (x.a == e.a) = false ∧ ss.any (fun s => es.any (passF e.a e.n x.a s)) = true := by
  have hmem := List.mem_of_getElem? h
  have hf := chosen_free ss es [] (by simp) x hmem
  obtain ⟨j, e, hj, hje, hst, hmay⟩ := free_spot hf
  have hx : x ∈ es := by
    rcases chosen_mem ss es [] x hmem with h1 | h1
    · simp at h1
    · exact h1
  have hid : idEq e.m e.s x.m x.s = true := idx_prop (fun e => idEq e.m e.s x.m x.s) ss 0 j e (by rw [Nat.zero_add]; exact hj) hje
  have hid' : idEq x.m x.s e.m e.s = true := by rw [idEq_true] at *; exact ⟨hid.1.symm, hid.2.symm⟩
  unfold may at hmay
  simp only [Bool.and_eq_true, Bool.not_eq_true'] at hmay
  obtain ⟨⟨m1, m2⟩, m3⟩ := hmay
  unfold freeB at hf
  simp only [Bool.and_eq_true, Bool.not_eq_true'] at hf
  obtain ⟨⟨⟨f1, f2⟩, f3⟩, _⟩ := hf
  refine ⟨j, e, hj, hje, hst, ?_, ?_⟩
  · rw [beq_eq_false_iff_ne] at *; exact fun h => m3 h.symm
  · rw [List.any_eq_true]
    refine ⟨e, List.mem_of_getElem? hje, ?_⟩
    rw [List.any_eq_true]
    exact ⟨x, hx, by simp [passF, passG, m1, m2, f1, f2, f3, hid']⟩
set_option maxRecDepth 100000 in
set_option maxHeartbeats 4000000 in
theorem walk5_few (A : Option Addr) (n cp : Nat) (es : List Ent) (A2 : Option Addr) (n2 cp2 : Nat) (ss : List Ent) (w : World) (he : Ents w w.heap.size A n es) (he2 : Ents w w.heap.size A2 n2 ss) (hn : n ≤ 20) (hn2 : n2 ≤ 20) :
    Calls Try.prog 5 #[.slice A n cp, .slice A2 n2 cp2] w fun v w' => v = .returned (.bool true) ∧ Below w.heap.size w w' := by
  have hd : decide (n ≤ 20 ∧ n2 ≤ 20) = true := by simpa using And.intro hn hn2
  have hq1 := eql31
  have hq2 := eql32
  have hq3 := neq31
  have hq4 := neq32
  go_enter Try.func5, Try.ntmps5
  go_wp2_with fail
  refine (awake10 _).mono ?_
  rintro v w1 ⟨rfl, hb1⟩
  go_wp2_with fail
  refine (few11 _ _ _ _ _ _ _ (by omega) (by omega)).mono ?_
  rintro v w1' ⟨rfl, rfl⟩
  rw [hd]
  go_wp2_with fail
  refine (wanted12 _ _ _ _ _ _ es ss _ (by omega) (by omega) ((he.below hb1).more hb1.size) ((he2.below hb1).more hb1.size)).mono ?_
  rintro v w2 ⟨v, rfl, hown, hb2⟩
  obtain ⟨Aw, cw, rfl⟩ := slice_of_own hown
  have hbb2 := hb1.trans (hb2.mono hb1.size)
  go_wp2_with fail
  refine (targets16 _ _ _ _ _ _ es ss _ (by omega) (by omega) ((he.below hbb2).more hbb2.size) ((he2.below hbb2).more hbb2.size)).mono ?_
  rintro v w3 ⟨v, rfl, hownT, hb3⟩
  obtain ⟨At, ct, rfl⟩ := slice_of_own hownT
  have hownM := own_below hown hb3
  have hbb3 := hbb2.trans (hb3.mono hbb2.size)
  have hs1 := (he.below hbb3).more hbb3.size
  have hs2 := (he2.below hbb3).more hbb3.size
  have hle := chosen_le ss es []
  rw [show es.foldl (chosenStep ss) [] = chosen es ss from rfl, he.1] at hle
  simp only [List.length_nil, Nat.zero_add] at hle
  clear hown hb2 hbb2 hb3 hb1
  have hspot : ∀ k x, (chosen es ss)[k]? = some x → ∃ (j : Nat) (e : Ent), spot x ss = (j : Int) ∧ ss[j]? = some e ∧ stubAt ss x = e ∧ (x.a == e.a) = false ∧ ss.any (fun s => es.any (passF e.a e.n x.a s)) = true := fun k x h => chosen_pass h
  have HS := Lib.hid hspot
  clear hspot
  generalize chosen es ss = ch at *
  go_wp2_with fail
  go_loopw [37] (fun i wr => ∃ k : Nat, k ≤ ch.length ∧ i = .int .i64 k ∧ Below w3.heap.size w3 wr) (fun i _ => ch.length - (intOf i).toNat)
  case atStart => exact ⟨0, Nat.zero_le _, rfl, Below.refl _ _⟩
  case round =>
    obtain ⟨k, hk, rfl, hbr⟩ := hrel
    by_cases hlt : k < ch.length
    · have hk0 : 0 ≤ (k : Int) := by omega
      have hk1 : (k : Int) < ch.length := by omega
      obtain ⟨x, hx⟩ : ∃ x, ch[k]? = some x := ⟨_, List.getElem?_eq_getElem hlt⟩
      obtain ⟨j, e, hj, hje, hst, hmay, hall⟩ := HS.out k x hx
      obtain ⟨g, capw, hAw⟩ : ∃ g cap, Value.slice Aw ch.length cw = .slice (some ⟨g, 0, none⟩) ch.length cap := by
        rcases hownM.2 with ⟨_, h0⟩ | ⟨g, cap, _, h1, _⟩
        · omega
        · exact ⟨g, cap, h1⟩
      simp only [Value.slice.injEq, true_and] at hAw
      obtain ⟨rfl, rfl⟩ := hAw
      obtain ⟨gt, capt, hAt⟩ : ∃ g cap, Value.slice At ch.length ct = .slice (some ⟨g, 0, none⟩) ch.length cap := by
        rcases hownT.2 with ⟨_, h0⟩ | ⟨g, cap, _, h1, _⟩
        · omega
        · exact ⟨g, cap, h1⟩
      simp only [Value.slice.injEq, true_and] at hAt
      obtain ⟨rfl, rfl⟩ := hAt
      have hownMr := own_below hownM hbr
      have hownTr := own_below hownT hbr
      have htc : wr.cell? ⟨gt, k, none⟩ = some (.int .i64 e.a) := by
        rw [hownTr.cellAt k (by omega), get_encT _ _ _ _ hx, hst]
      have hgt := (hownTr.lt gt rfl).2
      have hrange : wr.rangeAt g (k * 39) (encM (pair ss x)) := fun i v hv => by
        have hi : i < 39 := (List.getElem?_eq_some_iff.1 hv).1
        rw [hownMr.cellAt _ (by omega)]
        exact get_encM _ _ _ _ hx i v hv
      have hM := Lib.hid hrange
      have hmm : (encM (pair ss x)).toArray = #[.int .i64 6, .int .u64 e.n, .int .i64 x.a, .string ⟨#[]⟩, .int .i64 0, .int .i64 0, .int .i64 0, .int .u64 0, .int .i64 0, .int .i64 0, .int .i64 0, .bool false, .int .i64 0, .int .i64 0, .string ⟨#[]⟩, .slice none 0 0, .int .u64 0, .int .i64 0, .int .i64 0, .int .i64 0, .int .i64 0, .slice none 0 0, .slice none 0 0, .slice none 0 0, .int .i64 0, .int .i64 0, .int .i64 0, .int .i64 0, .int .u64 0, .int .i64 0, .bool false, .bool false, .int .i64 0, .slice none 0 0, .int .i64 0, .int .i64 0, .slice none 0 0, .slice none 0 0, .slice none 0 0] := by rw [← hst]; rfl
      have HMM := Lib.hid hmm
      have hsr1 := (hs1.below hbr).more hbr.size
      have hsr2 := (hs2.below hbr).more hbr.size
      have HX := Lib.hid hx
      have HJ := Lib.hid hje
      have HM := Lib.hid hmay
      have HALL := Lib.hid hall
      clear hx hj hje hst hmay hall hownMr hownTr hrange hmm
      go_wp2_with (first | (refine wpList_load_mid (op := ⟨some 41, _, _, _, _, _⟩) rfl 54 (.tmp 40) rfl g (k * 39) rfl _ _ hM.out Try.underlying54 rfl (by kernel_rfl) ?_; rw [HMM.out]) | (refine wpList_store_new (op := ⟨none, .store 54 _ _, _, _, _, _⟩) rfl 54 (.tmp 8) (.tmp 41) rfl _ _ rfl rfl (by kernel_rfl) rfl (by simp [Value.oneCell']) ?_))
      obtain ⟨wx, hwx⟩ : ∃ wx, wr.alloc (.cells #[.int .i64 6, .int .u64 e.n, .int .i64 x.a, .string ⟨#[]⟩, .int .i64 0, .int .i64 0, .int .i64 0, .int .u64 0, .int .i64 0, .int .i64 0, .int .i64 0, .bool false, .int .i64 0, .int .i64 0, .string ⟨#[]⟩, .slice none 0 0, .int .u64 0, .int .i64 0, .int .i64 0, .int .i64 0, .int .i64 0, .slice none 0 0, .slice none 0 0, .slice none 0 0, .int .i64 0, .int .i64 0, .int .i64 0, .int .i64 0, .int .u64 0, .int .i64 0, .bool false, .bool false, .int .i64 0, .slice none 0 0, .int .i64 0, .int .i64 0, .slice none 0 0, .slice none 0 0, .slice none 0 0] 54) = wx := ⟨_, rfl⟩
      have hbm : Blk wx wr.heap.size 54 #[.int .i64 6, .int .u64 e.n, .int .i64 x.a, .string ⟨#[]⟩, .int .i64 0, .int .i64 0, .int .i64 0, .int .u64 0, .int .i64 0, .int .i64 0, .int .i64 0, .bool false, .int .i64 0, .int .i64 0, .string ⟨#[]⟩, .slice none 0 0, .int .u64 0, .int .i64 0, .int .i64 0, .int .i64 0, .int .i64 0, .slice none 0 0, .slice none 0 0, .slice none 0 0, .int .i64 0, .int .i64 0, .int .i64 0, .int .i64 0, .int .u64 0, .int .i64 0, .bool false, .bool false, .int .i64 0, .slice none 0 0, .int .i64 0, .int .i64 0, .slice none 0 0, .slice none 0 0, .slice none 0 0] := by rw [← hwx]; exact Blk.new wr 54 _
      have hbx : Below wr.heap.size wr wx := by rw [← hwx]; exact (Below.refl _ _).alloc (Nat.le_refl _) _
      rw [hwx]
      clear hwx hM HMM
      have m1 : wx.cell? ⟨wr.heap.size, 1, none⟩ = some (.int .u64 e.n) := hbm.cell 1
      have m2 : wx.cell? ⟨wr.heap.size, 2, none⟩ = some (.int .i64 x.a) := hbm.cell 2
      have tx : wx.cell? ⟨gt, k, none⟩ = some (.int .i64 e.a) := (cells_below hbx hgt _).trans htc
      have hx1 := (hsr1.below hbx).more hbx.size
      have hx2 := (hsr2.below hbx).more hbx.size
      have hml := hbm.lt
      have hgx : gt < wx.heap.size := Nat.lt_of_lt_of_le hgt hbx.size
      clear hsr1 hsr2 hbm htc
      go_loopw [9, 44] (fun f i W => ∃ p : Nat, p ≤ n2 ∧ i = .int .i64 p ∧ f = .bool ((ss.take p).any (fun s => es.any (passF e.a e.n x.a s))) ∧ Below wx.heap.size wx W) (fun _ i _ => n2 - (intOf i).toNat)
      case atStart => exact ⟨0, Nat.zero_le _, rfl, by simp, Below.refl _ _⟩
      case round =>
        obtain ⟨p, hp, rfl, rfl, hb5⟩ := hrel
        obtain ⟨wo, rfl⟩ : ∃ wo : World, wo = wr := ⟨_, rfl⟩
        by_cases hlp : p < n2
        · have hp0 : 0 ≤ (p : Int) := by omega
          have hp1 : (p : Int) < n2 := by omega
          obtain ⟨b1, o1, s, rfl, hb1, hsp, c0, c1, c2, c3, c4, c5, c6, c7, c8, c9, c10, c11⟩ := ((hx2.below hb5).more hb5.size).cells hlp
          have hst1 := Lib.hid (any_take (p := fun s => es.any (passF e.a e.n x.a s)) hsp)
          generalize (ss.take p).any (fun s => es.any (passF e.a e.n x.a s)) = f0 at *
          clear hsp
          go_wp2_with fail
          obtain ⟨wy, hwy⟩ : ∃ wy, wo.alloc (.cells #[.int .i64 s.a, .int .u64 s.n, .int .i64 s.m, .int .i64 s.s, .int .i64 s.x, .int .i64 s.y, .int .i64 s.d, .bool s.t, .bool s.w, .bool s.g, .int .i64 s.p, .int .i64 s.q] 36) = wy := ⟨_, rfl⟩
          have hbs : Blk wy wo.heap.size 36 #[.int .i64 s.a, .int .u64 s.n, .int .i64 s.m, .int .i64 s.s, .int .i64 s.x, .int .i64 s.y, .int .i64 s.d, .bool s.t, .bool s.w, .bool s.g, .int .i64 s.p, .int .i64 s.q] := by rw [← hwy]; exact Blk.new wo 36 _
          have hby : Below wo.heap.size wo wy := by rw [← hwy]; exact (Below.refl _ _).alloc (Nat.le_refl _) _
          rw [hwy]
          have hxy := hb5.trans (hby.mono hb5.size)
          have hy1 := (hx1.below hxy).more hxy.size
          have n1 := (cells_below hxy hml 1).trans m1
          have n2' := (cells_below hxy hml 2).trans m2
          have nt := (cells_below hxy hgx k).trans tx
          have hml2 := Nat.lt_of_lt_of_le hml hxy.size
          have hgx2 := Nat.lt_of_lt_of_le hgx hxy.size
          clear hwy hby c0 c1 c2 c3 c4 c5 c6 c7 c8 c9 c10 c11
          have hsl := hbs.lt
          have s0 : wy.cell? ⟨wo.heap.size, 0, none⟩ = some (.int .i64 s.a) := hbs.cell 0
          have s1 : wy.cell? ⟨wo.heap.size, 1, none⟩ = some (.int .u64 s.n) := hbs.cell 1
          have s2 : wy.cell? ⟨wo.heap.size, 2, none⟩ = some (.int .i64 s.m) := hbs.cell 2
          have s3 : wy.cell? ⟨wo.heap.size, 3, none⟩ = some (.int .i64 s.s) := hbs.cell 3
          have s9 : wy.cell? ⟨wo.heap.size, 9, none⟩ = some (.bool s.g) := hbs.cell 9
          have s10 : wy.cell? ⟨wo.heap.size, 10, none⟩ = some (.int .i64 s.p) := hbs.cell 10
          have s11 : wy.cell? ⟨wo.heap.size, 11, none⟩ = some (.int .i64 s.q) := hbs.cell 11
          clear hbs
          go_loopw [9, 50] (fun f i V => ∃ q : Nat, q ≤ n ∧ i = .int .i64 q ∧ f = .bool (f0 || (es.take q).any (passF e.a e.n x.a s)) ∧ Below wy.heap.size wy V) (fun _ i _ => n - (intOf i).toNat)
          case atStart => exact ⟨0, Nat.zero_le _, rfl, by simp, Below.refl _ _⟩
          case round =>
            obtain ⟨q, hq, rfl, rfl, hb6⟩ := hrel
            obtain ⟨wi, rfl⟩ : ∃ wi : World, wi = wr := ⟨_, rfl⟩
            by_cases hlq : q < n
            · have hq0 : 0 ≤ (q : Int) := by omega
              have hq1' : (q : Int) < n := by omega
              obtain ⟨b2, o2, y, rfl, hb2', hyq, d0, d1, d2, d3, d4, d5, d6, d7, d8, d9, d10, d11⟩ := ((hy1.below hb6).more hb6.size).cells hlq
              have hst2 : Hid ((f0 || (es.take (q + 1)).any (passF e.a e.n x.a s)) = ((f0 || (es.take q).any (passF e.a e.n x.a s)) || passF e.a e.n x.a s y)) := by
                show _ = _
                rw [any_take hyq, Bool.or_assoc]
              generalize (f0 || (es.take q).any (passF e.a e.n x.a s)) = f1 at *
              clear hyq
              go_upto_region 16 with (fail)
              obtain ⟨wz, hwz⟩ : ∃ wz, wi.alloc (.cells #[.int .i64 y.a, .int .u64 y.n, .int .i64 y.m, .int .i64 y.s, .int .i64 y.x, .int .i64 y.y, .int .i64 y.d, .bool y.t, .bool y.w, .bool y.g, .int .i64 y.p, .int .i64 y.q] 34) = wz := ⟨_, rfl⟩
              have hbz0 : Blk wz wi.heap.size 34 #[.int .i64 y.a, .int .u64 y.n, .int .i64 y.m, .int .i64 y.s, .int .i64 y.x, .int .i64 y.y, .int .i64 y.d, .bool y.t, .bool y.w, .bool y.g, .int .i64 y.p, .int .i64 y.q] := by rw [← hwz]; exact Blk.new wi 34 _
              have hbz : Below wi.heap.size wi wz := by rw [← hwz]; exact (Below.refl _ _).alloc (Nat.le_refl _) _
              have hbyz := hb6.trans (hbz.mono hb6.size)
              rw [hwz]
              clear hwz hbz d0 d1 d2 d3 d4 d5 d6 d7 d8 d9 d10 d11
              have y0 : wz.cell? ⟨wi.heap.size, 0, none⟩ = some (.int .i64 y.a) := hbz0.cell 0
              have y2 : wz.cell? ⟨wi.heap.size, 2, none⟩ = some (.int .i64 y.m) := hbz0.cell 2
              have y3 : wz.cell? ⟨wi.heap.size, 3, none⟩ = some (.int .i64 y.s) := hbz0.cell 3
              have y9 : wz.cell? ⟨wi.heap.size, 9, none⟩ = some (.bool y.g) := hbz0.cell 9
              have y10 : wz.cell? ⟨wi.heap.size, 10, none⟩ = some (.int .i64 y.p) := hbz0.cell 10
              have y11 : wz.cell? ⟨wi.heap.size, 11, none⟩ = some (.int .i64 y.q) := hbz0.cell 11
              have z0 := (cells_below hbyz hsl 0).trans s0
              have z1 := (cells_below hbyz hsl 1).trans s1
              have z2 := (cells_below hbyz hsl 2).trans s2
              have z3 := (cells_below hbyz hsl 3).trans s3
              have z9 := (cells_below hbyz hsl 9).trans s9
              have z10 := (cells_below hbyz hsl 10).trans s10
              have z11 := (cells_below hbyz hsl 11).trans s11
              have u1 := (cells_below hbyz hml2 1).trans n1
              have u2 := (cells_below hbyz hml2 2).trans n2'
              have ut := (cells_below hbyz hgx2 k).trans nt
              clear hbz0
              go_cut [14] (fun s14 V => s14 = .bool (passG s y) ∧ wz = V)
              case first =>
                obtain ⟨sg, HSG⟩ : ∃ sg, Hid (s.g = sg) := ⟨_, rfl⟩
                obtain ⟨yg, HYG⟩ : ∃ yg, Hid (y.g = yg) := ⟨_, rfl⟩
                rw [HSG.out] at z9
                rw [HYG.out] at y9
                have hpg : Hid (passG s y = (!sg && idEq s.p s.q 0 0 && !yg && idEq y.p y.q 0 0)) := by
                  show _ = _
                  rw [passG, HSG.out, HYG.out]
                go_wp2_with fail
                all_goals
                  go_meet
                  refine ⟨?_, rfl⟩
                  rw [hpg.out]
                  simp [*]
              case rest =>
                obtain ⟨rfl, rfl⟩ := hcut
                have hpf : Hid (passF e.a e.n x.a s y = (passG s y && s.a == e.a && s.n == e.n && y.a == x.a && idEq y.m y.s s.m s.s && !idEq y.m y.s 0 0)) := rfl
                generalize passG s y = gg at *
                go_wp2_with fail
                cases f1 with
                | true =>
                  go_quiet (fail)
                  go_wp2_with fail
                  go_roundw
                  case rel => exact ⟨q + 1, by omega, by go_num, by rw [hst2.out, hpf.out]; simp [*], below_drewN hbyz _⟩
                  case measure => simp [intOf]; omega
                | false =>
                  cases gg with
                  | false =>
                    go_quiet (fail)
                    go_wp2_with fail
                    go_roundw
                    case rel => exact ⟨q + 1, by omega, by go_num, by rw [hst2.out, hpf.out]; simp [*], below_drewN hbyz _⟩
                    case measure => simp [intOf]; omega
                  | true =>
                    by_cases t1 : (s.a == e.a) = true
                    · by_cases t2 : (s.n == e.n) = true
                      · by_cases t3 : (y.a == x.a) = true
                        · by_cases t4 : idEq y.m y.s s.m s.s = true
                          · go_quiet (fail)
                            go_wp2_with fail
                            go_roundw
                            case rel => exact ⟨q + 1, by omega, by go_num, by rw [hst2.out, hpf.out]; simp [*], below_drewN hbyz _⟩
                            case measure => simp [intOf]; omega
                          · rw [Bool.not_eq_true] at t4
                            go_quiet (fail)
                            go_wp2_with fail
                            go_roundw
                            case rel => exact ⟨q + 1, by omega, by go_num, by rw [hst2.out, hpf.out]; simp [*], below_drewN hbyz _⟩
                            case measure => simp [intOf]; omega
                        · rw [Bool.not_eq_true] at t3
                          go_quiet (fail)
                          go_wp2_with fail
                          go_roundw
                          case rel => exact ⟨q + 1, by omega, by go_num, by rw [hst2.out, hpf.out]; simp [*], below_drewN hbyz _⟩
                          case measure => simp [intOf]; omega
                      · rw [Bool.not_eq_true] at t2
                        go_quiet (fail)
                        go_wp2_with fail
                        go_roundw
                        case rel => exact ⟨q + 1, by omega, by go_num, by rw [hst2.out, hpf.out]; simp [*], below_drewN hbyz _⟩
                        case measure => simp [intOf]; omega
                    · rw [Bool.not_eq_true] at t1
                      go_quiet (fail)
                      go_wp2_with fail
                      go_roundw
                      case rel => exact ⟨q + 1, by omega, by go_num, by rw [hst2.out, hpf.out]; simp [*], below_drewN hbyz _⟩
                      case measure => simp [intOf]; omega
            · obtain rfl : q = n := by omega
              have hfull : es.take q = es := List.take_of_length_le (by rw [he.1]; omega)
              rw [hfull]
              clear hfull
              go_wp2_with fail
              go_roundw
              case rel => exact ⟨p + 1, by omega, by go_num, by rw [hst1.out], hxy.trans (hb6.mono hxy.size)⟩
              case measure => simp [intOf]; omega
        · obtain rfl : p = n2 := by omega
          have hfull : (ss.take p).any (fun s => es.any (passF e.a e.n x.a s)) = true := by
            rw [List.take_of_length_le (by rw [he2.1]; omega)]; exact HALL.out
          rw [hfull]
          have n2' := (cells_below hb5 hml 2).trans m2
          have nt := (cells_below hb5 hgx k).trans tx
          have hne := HM.out
          clear hfull
          go_wp2_with fail
          go_quiet (fail)
          go_wp2_with fail
          go_roundw
          case rel => exact ⟨k + 1, by omega, by go_num, below_drewN (hbr.trans ((hbx.trans (hb5.mono hbx.size)).mono hbr.size)) _⟩
          case measure => simp [intOf]; omega
    · go_wp2_with fail
      go_ret
      exact ⟨rfl, hbb3.trans (hbr.mono hbb3.size)⟩

set_option maxHeartbeats 1000000 in
theorem walk5_many (A : Option Addr) (n cp : Nat) (es : List Ent) (A2 : Option Addr) (n2 cp2 : Nat) (ss : List Ent) (w : World) (he : Ents w w.heap.size A n es) (hn : n ≤ maxLen) (he2 : Ents w w.heap.size A2 n2 ss) (hn2 : n2 ≤ maxLen) (hf : ¬ (n ≤ 20 ∧ n2 ≤ 20)) :
    Calls Try.prog 5 #[.slice A n cp, .slice A2 n2 cp2] w fun v w' => v = .returned (.bool true) ∧ Below w.heap.size w w' := by
  unfold maxLen at hn hn2
  have hd : decide (n ≤ 20 ∧ n2 ≤ 20) = false := by simpa using hf
  have hq1 := eql31
  have hq2 := eql32
  have hq3 := neq31
  have hq4 := neq32
  go_enter Try.func5, Try.ntmps5
  go_wp2_with fail
  refine (awake10 _).mono ?_
  rintro v w1 ⟨rfl, hb1⟩
  go_wp2_with fail
  refine (few11 _ _ _ _ _ _ _ (by omega) (by omega)).mono ?_
  rintro v w1' ⟨rfl, rfl⟩
  rw [hd]
  go_wp2_with fail
  refine (awake10 _).mono ?_
  rintro v w2 ⟨rfl, hb2⟩
  go_wp2_with fail
  go_ret
  exact ⟨rfl, hb1.trans (hb2.mono hb1.size)⟩
theorem walk5 (A : Option Addr) (n cp : Nat) (es : List Ent) (A2 : Option Addr) (n2 cp2 : Nat) (ss : List Ent) (w : World) (he : Ents w w.heap.size A n es) (hn : n ≤ maxLen) (he2 : Ents w w.heap.size A2 n2 ss) (hn2 : n2 ≤ maxLen) :
    Calls Try.prog 5 #[.slice A n cp, .slice A2 n2 cp2] w fun v w' => v = .returned (.bool true) ∧ Below w.heap.size w w' := by
  by_cases hf : n ≤ 20 ∧ n2 ≤ 20
  · exact walk5_few A n cp es A2 n2 cp2 ss w he he2 hf.1 hf.2
  · exact walk5_many A n cp es A2 n2 cp2 ss w he hn he2 hn2 hf
set_option maxRecDepth 100000 in
theorem lifted5 (os : Os) (started : os.Started) (H : Type) (enc : TypeId × Value → H) :
    ReturnsInHanded {} Try.checked os 5 .any (Rows.shortcutPassesSpec.pre6 enc Try.prog Try.f5 Rows.shortcutPassesRow.domain false) (Rows.shortcutPassesSpec.post enc Try.prog Try.f5 false true false false) := by
  refine returnsInHanded_of_change (C := Try.checked) own_ started (by kernel_rfl) Try.func5
    (ChangeSpec.witness6 (enc := enc) (C := Try.checked) false ⟨#[], #[.slice none 0 0, .slice none 0 0], []⟩ 8 (by kernel_rfl) (by kernel_rfl) (by kernel_rfl) (by kernel_rfl)) ?_
  intro W base args ds gs before hval0 hW hcnd _
  have hval : ∀ (j : Nat) t v, Try.f5.params[j]? = some t → args[j]? = some v → Value.okWide Try.prog W .any base t v := hval0
  have hW' := hW
  obtain ⟨p, q, hA0, hV, rfl, hfz, hnd⟩ := hW
  have hA : DataW.TrodAll enc Try.prog W 0 (fun _ => true) true Try.f5.params.toList args.toList ds p := hA0
  rw [Try.params5] at hA hval
  obtain ⟨v0, vs0, d0, ds0, p0, q0, hargs, rfl, rfl, h0, r0⟩ := trodAll_cons hA
  obtain ⟨v1, vs1, d1, ds1, p1, q1, rfl, rfl, rfl, h1, r1⟩ := trodAll_cons r0
  obtain ⟨rfl, rfl, rfl⟩ := trodAll_nil r1
  obtain rfl : args = #[v0, v1] := by cases args; simp_all
  obtain ⟨rfl, rfl⟩ := trodVars_none hV
  have k0 := h0
  have lt0 : ∀ x ∈ p0, x.block < W.heap.size := by obtain ⟨m, hm⟩ := k0; exact DataW.trod_lt m _ _ _ hm
  obtain ⟨A0, n0, cp0, rfl⟩ := okWide_slice Try.underlying22 (hval 0 22 v0 rfl rfl)
  obtain ⟨hn0, hcp0, es0, he0⟩ : n0 ≤ maxLen ∧ n0 ≤ cp0 ∧ ∃ es, Ents W W.heap.size A0 n0 es := by
    obtain ⟨fuel, hf⟩ := h0
    exact ents_of_trod Try.underlying22 leaves34 (by kernel_rfl) hf
  have k1 := h1
  have lt1 : ∀ x ∈ p1, x.block < W.heap.size := by obtain ⟨m, hm⟩ := k1; exact DataW.trod_lt m _ _ _ hm
  obtain ⟨A1, n1, cp1, rfl⟩ := okWide_slice Try.underlying23 (hval 1 23 v1 rfl rfl)
  obtain ⟨hn1, hcp1, es1, he1⟩ : n1 ≤ maxLen ∧ n1 ≤ cp1 ∧ ∃ es, Ents W W.heap.size A1 n1 es := by
    obtain ⟨fuel, hf⟩ := h1
    exact ents_of_trod Try.underlying23 leaves36 (by kernel_rfl) hf
  clear hA0 hval0
  refine (walk5 A0 n0 cp0 es0 A1 n1 cp1 es1 W he0 hn0 he1 hn1).mono fun e W' ⟨he, bel⟩ => ?_
  subst he
  exact ⟨_, rfl, _, _, _, [], _, [], hW', trodAll_mk1 (shut_bool Try.underlying4 _), (trodAll_cons_mk (Below.trod laidOut_ (by kernel_rfl) (of_decide_eq_true (by kernel_rfl)) k0 bel lt0) (trodAll_cons_mk (Below.trod laidOut_ (by kernel_rfl) (of_decide_eq_true (by kernel_rfl)) k1 bel lt1) trodAll_mk0)), rfl, bel.frame _, fun h => by cases h⟩

theorem shortcutPasses_holds : Rows.ShortcutPassesSaid :=
  OpenClaim.holds_of_wide 5 Try.f5 rfl rfl rfl rfl rfl rfl rfl ⟨rfl, rfl, rfl, rfl, rfl⟩ rfl rfl rfl rfl rfl (by kernel_rfl) Try.func5 (by kernel_rfl)
    (of_decide_eq_true (by kernel_rfl)) (by unfold Func.isWrapper; first | (rw [if_pos (by decide +kernel)]; kernel_rfl) | (rw [if_neg (by decide +kernel)]; exact ⟨rfl, rfl⟩))
    (fun os started H enc _ => lifted5 os started H enc)

end Go.Proofs.Ytnlgkjnlfeeaoaa
