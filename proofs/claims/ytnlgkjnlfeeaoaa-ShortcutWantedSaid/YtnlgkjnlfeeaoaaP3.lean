/-
ShortcutWanted returns true for every input, and the input reads as it did.
-/
import Derived.Test.YtnlgkjnlfeeaoaaM1
import Derived.Test.YtnlgkjnlfeeaoaaF15
import Derived.Test.YtnlgkjnlfeeaoaaOpenX
import Derived.WalkKit
import Derived.ProofKit
import Derived.OpenShut
import Derived.ShutString
import Derived.ChangeOld
import Derived.Below
import Derived.Lib.Hide
import Derived.Deep.RegionHeld3
import Derived.Deep.DeepCutAuto
import Derived.Deep.RegionWith
import Derived.Deep.MidRow
import Derived.Deep.WholeRow
namespace Go.Proofs.Ytnlgkjnlfeeaoaa
open Go.ChangeShapes Go.WideShapes Go.ChangeAt Go.RowKit
set_option linter.unusedVariables false

theorem get_encM : ∀ (xs ss : List Ent) (k : Nat) (x : Ent), xs[k]? = some x → ∀ (j : Nat) (v : Value), (encM (pair ss x))[j]? = some v → ((xs.map (pair ss)).flatMap encM)[k * 39 + j]? = some v
  | [], ss, k, x, h => by simp at h
  | y :: xs, ss, 0, x, h => by
    simp at h; subst h
    intro j v hv
    have hj : j < (encM (pair ss y)).length := (List.getElem?_eq_some_iff.1 hv).1
    rw [List.map_cons, List.flatMap_cons, List.getElem?_append_left (by simpa using hj)]
    simpa using hv
  | y :: xs, ss, k + 1, x, h => by
    intro j v hv
    have hl : (encM (pair ss y)).length = 39 := rfl
    rw [List.map_cons, List.flatMap_cons, List.getElem?_append_right (by omega), hl, show (k + 1) * 39 + j - 39 = k * 39 + j from by omega]
    exact get_encM xs ss k x (by simpa using h) j v hv
theorem quiet_class (B : Nat) (w0 : World) : ∃ (T : Type) (f : T → World), Nonempty T ∧ (∀ x, Below B w0 (f x)) ∧ (∀ W, Below B w0 W → ∃ x, W = f x) :=
  ⟨{ W // Below B w0 W }, Subtype.val, ⟨⟨w0, Below.refl _ _⟩⟩, fun x => x.2, fun W h => ⟨⟨W, h⟩, rfl⟩⟩
theorem wp_region_class {P : Program} {T : Type} (f : T → World) {id : Nat} {Q : Exit → Act → World → Prop} {a : Act} {w : World} {l : List Oper} (hm : P.follows .mixedOrders = true) (hB : Region.lexB .any l.toArray = true) (hC : ∃ x, w.drew = f x)
    (h : wpQuiet P l.toArray (fun W => ∃ x, W = f x) (fun a' => ∀ w', (∃ x, w' = f x) → Q .normal a' w') l a) : (Code.region id l.toArray true).wp P Q a w :=
  wp_region_quiet (C := fun W => ∃ x, W = f x) hm hB hC (by simpa using h)
theorem quiet_load_mid {P : Program} {C : World → Prop} {a : Act} {o : Oper} {K : Act → Prop} (ty : TypeId) (x : Operand) (ho : o.op = .load ty x)
    (b off : Nat) (hx : a.eval x = .pointer (some ⟨b, off, none⟩)) (cs : List Value) (d : TypeDesc) (hc : ∀ w, C w → w.rangeAt b off cs)
    (hu : P.underlying ty = some d) (hd : d.isRow = true) (hi : (P.info? ty).map (·.size) = some cs.length) (hk : K (a.put o.dst (.agg cs.toArray))) : o.quiet P a C K :=
  ⟨_, fun w hw => by
    unfold Oper.quietAt execOp
    simp only [ho, hx, Instr.loadAt, Instr.sureAddr, Sem.run_bind, Sem.run_pure, Result.andThen_ok, run_loadVar_mid w b off ty cs d (hc w hw) hu hd hi]
    exact ⟨rfl, rfl⟩, hk⟩
set_option maxRecDepth 100000 in
set_option maxHeartbeats 8000000 in
theorem walk3_few (A : Option Addr) (n cp : Nat) (es : List Ent) (A2 : Option Addr) (n2 cp2 : Nat) (ss : List Ent) (w : World) (he : Ents w w.heap.size A n es) (he2 : Ents w w.heap.size A2 n2 ss) (hn : n ≤ 20) (hn2 : n2 ≤ 20) :
    Calls Try.prog 3 #[.slice A n cp, .slice A2 n2 cp2] w fun v w' => v = .returned (.bool true) ∧ Below w.heap.size w w' := by
  have hd : decide (n ≤ 20 ∧ n2 ≤ 20) = true := by simpa using And.intro hn hn2
  have hq1 := eql31
  have hq2 := eql32
  have hq3 := neq31
  have hq4 := neq32
  go_enter Try.func3, Try.ntmps3
  go_wp2_with fail
  refine (awake10 _).mono ?_
  rintro v w1 ⟨rfl, hb1⟩
  go_wp2_with fail
  refine (few11 _ _ _ _ _ _ _ (by omega) (by omega)).mono ?_
  rintro v w1' ⟨rfl, rfl⟩
  rw [hd]
  go_wp2_with fail
  refine (wanted12 _ _ _ _ _ _ es ss _ (by omega) (by omega) ((he.below hb1).more hb1.size) ((he2.below hb1).more hb1.size)).mono ?_
  rintro v w2 ⟨v, rfl, hown, hb2⟩
  obtain ⟨Aw, cw, rfl⟩ := slice_of_own hown
  have hbb2 := hb1.trans (hb2.mono hb1.size)
  go_wp2_with fail
  refine (chosen13 _ _ _ _ _ _ es ss _ ((he.below hbb2).more hbb2.size) ((he2.below hbb2).more hbb2.size) (by omega) (by omega)).mono ?_
  rintro v w3 ⟨Ac, cc, rfl, hch, hb3⟩
  have hownM := own_below hown hb3
  have hbb3 := hbb2.trans (hb3.mono hbb2.size)
  have hs4 := (he2.below hbb3).more hbb3.size
  have hle := chosen_le ss es []
  rw [show es.foldl (chosenStep ss) [] = chosen es ss from rfl, he.1] at hle
  simp only [List.length_nil, Nat.zero_add] at hle
  clear hown hb2 hbb2 hb3 hb1
  have hspot : ∀ k x, (chosen es ss)[k]? = some x → ∃ (j : Nat) (e : Ent), spot x ss = (j : Int) ∧ ss[j]? = some e ∧ stubAt ss x = e ∧ may x e = true := fun k x h => chosen_spot h
  have HS := Lib.hid hspot
  clear hspot
  generalize chosen es ss = ch at *
  go_wp2_with fail
  go_loopw [32] (fun i wr => ∃ k : Nat, k ≤ ch.length ∧ i = .int .i64 k ∧ Below w3.heap.size w3 wr) (fun i _ => ch.length - (intOf i).toNat)
  case atStart => exact ⟨0, Nat.zero_le _, rfl, Below.refl _ _⟩
  case round =>
    obtain ⟨k, hk, rfl, hbr⟩ := hrel
    by_cases hlt : k < ch.length
    · have hk0 : 0 ≤ (k : Int) := by omega
      have hk1 : (k : Int) < ch.length := by omega
      obtain ⟨b, off, x, rfl, hb2, hx, c0, c1, c2, c3, c4, c5, c6, c7, c8, c9, c10, c11⟩ := ((hch.below hbr).more hbr.size).cells hlt
      obtain ⟨j, e, hj, hje, hst, _⟩ := HS.out k x hx
      obtain ⟨g, capw, hAw⟩ : ∃ g cap, Value.slice Aw ch.length cw = .slice (some ⟨g, 0, none⟩) ch.length cap := by
        rcases hownM.2 with ⟨_, h0⟩ | ⟨g, cap, _, h1, _⟩
        · omega
        · exact ⟨g, cap, h1⟩
      simp only [Value.slice.injEq, true_and] at hAw
      obtain ⟨rfl, rfl⟩ := hAw
      have hownR := own_below hownM hbr
      have hrange : wr.rangeAt g (k * 39) (encM (pair ss x)) := fun i v hv => by
        have hi : i < 39 := (List.getElem?_eq_some_iff.1 hv).1
        rw [hownR.cellAt _ (by omega)]
        exact get_encM _ _ _ _ hx i v hv
      have hmm : encM (pair ss x) = [.int .i64 6, .int .u64 e.n, .int .i64 x.a, .string ⟨#[]⟩, .int .i64 0, .int .i64 0, .int .i64 0, .int .u64 0, .int .i64 0, .int .i64 0, .int .i64 0, .bool false, .int .i64 0, .int .i64 0, .string ⟨#[]⟩, .slice none 0 0, .int .u64 0, .int .i64 0, .int .i64 0, .int .i64 0, .int .i64 0, .slice none 0 0, .slice none 0 0, .slice none 0 0, .int .i64 0, .int .i64 0, .int .i64 0, .int .i64 0, .int .u64 0, .int .i64 0, .bool false, .bool false, .int .i64 0, .slice none 0 0, .int .i64 0, .int .i64 0, .slice none 0 0, .slice none 0 0, .slice none 0 0] := by rw [← hst]; rfl
      rw [hmm] at hrange
      have hgl := (hownR.lt g rfl).2
      have hsr := (hs4.below hbr).more hbr.size
      have hjl : j < n2 := by rw [← he2.1]; exact (List.getElem?_eq_some_iff.1 hje).1
      obtain ⟨bs, os, e', rfl, hbs, hje', d0, d1, d2, d3, d4, d5, d6, d7, d8, d9, d10, d11⟩ := hsr.cells hjl
      have hee : e' = e := by rw [hje] at hje'; simpa using hje'.symm
      subst hee
      have hj0 : 0 ≤ (j : Int) := by omega
      have hj1 : (j : Int) < n2 := by omega
      have HJ := Lib.hid hj
      have HR := Lib.hid hrange
      have HD := Lib.hid (And.intro d0 (And.intro d1 (And.intro d2 (And.intro d3 (And.intro d4 (And.intro d5 (And.intro d6 (And.intro d7 (And.intro d8 (And.intro d9 (And.intro d10 d11)))))))))))
      clear hx hj hje hje' hst hownR hrange hmm d0 d1 d2 d3 d4 d5 d6 d7 d8 d9 d10 d11
      go_wp2_with fail
      refine (stub14 _ _ _ ss x.m x.s _ ((hsr.below ((Below.refl _ _).alloc (Nat.le_refl _) _)).more (by simp)) (by omega)).mono ?_
      rintro v w5 ⟨rfl, hb5⟩
      rw [show idxFrom (fun e => idEq e.m e.s x.m x.s) ss 0 = spot x ss from rfl, HJ.out]
      obtain ⟨d0, d1, d2, d3, d4, d5, d6, d7, d8, d9, d10, d11⟩ := HD.out
      have s0 : w5.cell? ⟨bs, os + j * 12, none⟩ = some (.int .i64 e'.a) := (cells_below hb5 (by simp; omega) _).trans ((cells_below ((Below.refl _ _).alloc (Nat.le_refl _) _) hbs _).trans d0)
      have s1 : w5.cell? ⟨bs, os + j * 12 + 1, none⟩ = some (.int .u64 e'.n) := (cells_below hb5 (by simp; omega) _).trans ((cells_below ((Below.refl _ _).alloc (Nat.le_refl _) _) hbs _).trans d1)
      have s2 : w5.cell? ⟨bs, os + j * 12 + 2, none⟩ = some (.int .i64 e'.m) := (cells_below hb5 (by simp; omega) _).trans ((cells_below ((Below.refl _ _).alloc (Nat.le_refl _) _) hbs _).trans d2)
      have s3 : w5.cell? ⟨bs, os + j * 12 + 3, none⟩ = some (.int .i64 e'.s) := (cells_below hb5 (by simp; omega) _).trans ((cells_below ((Below.refl _ _).alloc (Nat.le_refl _) _) hbs _).trans d3)
      have s4 : w5.cell? ⟨bs, os + j * 12 + 4, none⟩ = some (.int .i64 e'.x) := (cells_below hb5 (by simp; omega) _).trans ((cells_below ((Below.refl _ _).alloc (Nat.le_refl _) _) hbs _).trans d4)
      have s5 : w5.cell? ⟨bs, os + j * 12 + 5, none⟩ = some (.int .i64 e'.y) := (cells_below hb5 (by simp; omega) _).trans ((cells_below ((Below.refl _ _).alloc (Nat.le_refl _) _) hbs _).trans d5)
      have s6 : w5.cell? ⟨bs, os + j * 12 + 6, none⟩ = some (.int .i64 e'.d) := (cells_below hb5 (by simp; omega) _).trans ((cells_below ((Below.refl _ _).alloc (Nat.le_refl _) _) hbs _).trans d6)
      have s7 : w5.cell? ⟨bs, os + j * 12 + 7, none⟩ = some (.bool e'.t) := (cells_below hb5 (by simp; omega) _).trans ((cells_below ((Below.refl _ _).alloc (Nat.le_refl _) _) hbs _).trans d7)
      have s8 : w5.cell? ⟨bs, os + j * 12 + 8, none⟩ = some (.bool e'.w) := (cells_below hb5 (by simp; omega) _).trans ((cells_below ((Below.refl _ _).alloc (Nat.le_refl _) _) hbs _).trans d8)
      have s9 : w5.cell? ⟨bs, os + j * 12 + 9, none⟩ = some (.bool e'.g) := (cells_below hb5 (by simp; omega) _).trans ((cells_below ((Below.refl _ _).alloc (Nat.le_refl _) _) hbs _).trans d9)
      have s10 : w5.cell? ⟨bs, os + j * 12 + 10, none⟩ = some (.int .i64 e'.p) := (cells_below hb5 (by simp; omega) _).trans ((cells_below ((Below.refl _ _).alloc (Nat.le_refl _) _) hbs _).trans d10)
      have s11 : w5.cell? ⟨bs, os + j * 12 + 11, none⟩ = some (.int .i64 e'.q) := (cells_below hb5 (by simp; omega) _).trans ((cells_below ((Below.refl _ _).alloc (Nat.le_refl _) _) hbs _).trans d11)
      have hbx := (Blk.new wr 34 #[.int .i64 x.a, .int .u64 x.n, .int .i64 x.m, .int .i64 x.s, .int .i64 x.x, .int .i64 x.y, .int .i64 x.d, .bool x.t, .bool x.w, .bool x.g, .int .i64 x.p, .int .i64 x.q]).below hb5 (by simp)
      have h5 : Below wr.heap.size wr w5 := ((Below.refl _ _).alloc (Nat.le_refl _) _).trans (hb5.mono (by simp))
      have hz5 := h5.size
      have hwx := hbx.lt
      have HBX := Lib.hid hbx
      clear d0 d1 d2 d3 d4 d5 d6 d7 d8 d9 d10 d11 c0 c1 c2 c3 c4 c5 c6 c7 c8 c9 c10 c11 hb5 hbx HD hsr
      go_upto_region 10 with (fail)
      obtain ⟨wz, hwz⟩ : ∃ wz, w5.alloc (.cells #[.int .i64 e'.a, .int .u64 e'.n, .int .i64 e'.m, .int .i64 e'.s, .int .i64 e'.x, .int .i64 e'.y, .int .i64 e'.d, .bool e'.t, .bool e'.w, .bool e'.g, .int .i64 e'.p, .int .i64 e'.q] 36) = wz := ⟨_, rfl⟩
      have hbs5 : Blk wz w5.heap.size 36 #[.int .i64 e'.a, .int .u64 e'.n, .int .i64 e'.m, .int .i64 e'.s, .int .i64 e'.x, .int .i64 e'.y, .int .i64 e'.d, .bool e'.t, .bool e'.w, .bool e'.g, .int .i64 e'.p, .int .i64 e'.q] := by rw [← hwz]; exact Blk.new w5 36 _
      have h5z : Below w5.heap.size w5 wz := by rw [← hwz]; exact (Below.refl _ _).alloc (Nat.le_refl _) _
      rw [hwz]
      clear hwz s0 s1 s2 s3 s4 s5 s6 s7 s8 s9 s10 s11
      have hbxz := HBX.out.below h5z hwx
      have hz0 : w5.heap.size < wz.heap.size := hbs5.lt
      have hrz := h5.trans (h5z.mono hz5)
      obtain ⟨T, f, hne, hf, hcov⟩ := quiet_class wz.heap.size wz
      have a0 : ∀ y, (f y).cell? ⟨wr.heap.size, 0, none⟩ = some (.int .i64 x.a) := fun y => (hbxz.below (hf y) (by omega)).cell 0
      have a1 : ∀ y, (f y).cell? ⟨w5.heap.size, 1, none⟩ = some (.int .u64 e'.n) := fun y => (hbs5.below (hf y) hz0).cell 1
      have hrng : ∀ y, (f y).rangeAt g (k * 39) [.int .i64 6, .int .u64 e'.n, .int .i64 x.a, .string ⟨#[]⟩, .int .i64 0, .int .i64 0, .int .i64 0, .int .u64 0, .int .i64 0, .int .i64 0, .int .i64 0, .bool false, .int .i64 0, .int .i64 0, .string ⟨#[]⟩, .slice none 0 0, .int .u64 0, .int .i64 0, .int .i64 0, .int .i64 0, .int .i64 0, .slice none 0 0, .slice none 0 0, .slice none 0 0, .int .i64 0, .int .i64 0, .int .i64 0, .int .i64 0, .int .u64 0, .int .i64 0, .bool false, .bool false, .int .i64 0, .slice none 0 0, .int .i64 0, .int .i64 0, .slice none 0 0, .slice none 0 0, .slice none 0 0] := fun y i v hv => (cells_below (hf y) (by omega) _).trans ((cells_below hrz hgl _).trans (HR.out i v hv))
      have m0 : ∀ y, (f y).cell? ⟨g, k * 39, none⟩ = some (.int .i64 6) := fun y => hrng y 0 _ rfl
      have m1 : ∀ y, (f y).cell? ⟨g, k * 39 + 1, none⟩ = some (.int .u64 e'.n) := fun y => hrng y 1 _ rfl
      have m2 : ∀ y, (f y).cell? ⟨g, k * 39 + 2, none⟩ = some (.int .i64 x.a) := fun y => hrng y 2 _ rfl
      have HRNG := Lib.hid hrng
      have HPL := Lib.hid (show ∀ y, Calls Try.prog 15 #[.agg #[.int .i64 6, .int .u64 e'.n, .int .i64 x.a, .string ⟨#[]⟩, .int .i64 0, .int .i64 0, .int .i64 0, .int .u64 0, .int .i64 0, .int .i64 0, .int .i64 0, .bool false, .int .i64 0, .int .i64 0, .string ⟨#[]⟩, .slice none 0 0, .int .u64 0, .int .i64 0, .int .i64 0, .int .i64 0, .int .i64 0, .slice none 0 0, .slice none 0 0, .slice none 0 0, .int .i64 0, .int .i64 0, .int .i64 0, .int .i64 0, .int .u64 0, .int .i64 0, .bool false, .bool false, .int .i64 0, .slice none 0 0, .int .i64 0, .int .i64 0, .slice none 0 0, .slice none 0 0, .slice none 0 0]] (f y) (fun e w'' => e = .returned (.bool true) ∧ ∃ z, w'' = f z) from fun y => (plain15 e'.n x.a (f y)).mono fun e w6 h6 => ⟨h6.1, hcov _ ((hf y).trans (h6.2.mono (hf y).size))⟩)
      have HF := Lib.hid hf
      have HCOV := Lib.hid hcov
      have HRZ := Lib.hid hrz
      clear hf hcov hrng hrz hbxz hbs5 h5z h5 HR HBX
      refine wp_region_class f (by kernel_rfl) (by kernel_rfl) (HCOV.out _ (Below.refl _ _).drew) ?_
      repeat (go_big_quiet_step (fail))
      go_big_quiet_want
      refine quiet_load_mid 54 (.tmp 73) rfl g (k * 39) rfl [.int .i64 6, .int .u64 e'.n, .int .i64 x.a, .string ⟨#[]⟩, .int .i64 0, .int .i64 0, .int .i64 0, .int .u64 0, .int .i64 0, .int .i64 0, .int .i64 0, .bool false, .int .i64 0, .int .i64 0, .string ⟨#[]⟩, .slice none 0 0, .int .u64 0, .int .i64 0, .int .i64 0, .int .i64 0, .int .i64 0, .slice none 0 0, .slice none 0 0, .slice none 0 0, .int .i64 0, .int .i64 0, .int .i64 0, .int .i64 0, .int .u64 0, .int .i64 0, .bool false, .bool false, .int .i64 0, .slice none 0 0, .int .i64 0, .int .i64 0, .slice none 0 0, .slice none 0 0, .slice none 0 0] _ (by rintro _ ⟨y, rfl⟩; exact HRNG.out y) Try.underlying54 rfl (by kernel_rfl) ?_
      go_simp
      go_big_quiet_on
      repeat (go_big_quiet_step ((go_at_call 15; exact HPL.out _)))
      refine wpQuiet_nil ?_
      intro _ hw'
      obtain ⟨xq, hw''⟩ := hw'
      subst hw''
      go_wp2_with fail
      go_roundw
      case rel => exact ⟨k + 1, by omega, by go_num, hbr.trans ((HRZ.out.trans ((HF.out xq).mono HRZ.out.size)).mono hbr.size)⟩
      case measure => simp [intOf]; omega
    · go_wp2_with fail
      go_ret
      exact ⟨rfl, hbb3.trans (hbr.mono hbb3.size)⟩

set_option maxHeartbeats 1000000 in
theorem walk3_many (A : Option Addr) (n cp : Nat) (es : List Ent) (A2 : Option Addr) (n2 cp2 : Nat) (ss : List Ent) (w : World) (he : Ents w w.heap.size A n es) (hn : n ≤ maxLen) (he2 : Ents w w.heap.size A2 n2 ss) (hn2 : n2 ≤ maxLen) (hf : ¬ (n ≤ 20 ∧ n2 ≤ 20)) :
    Calls Try.prog 3 #[.slice A n cp, .slice A2 n2 cp2] w fun v w' => v = .returned (.bool true) ∧ Below w.heap.size w w' := by
  unfold maxLen at hn hn2
  have hd : decide (n ≤ 20 ∧ n2 ≤ 20) = false := by simpa using hf
  have hq1 := eql31
  have hq2 := eql32
  have hq3 := neq31
  have hq4 := neq32
  go_enter Try.func3, Try.ntmps3
  go_wp2_with fail
  refine (awake10 _).mono ?_
  rintro v w1 ⟨rfl, hb1⟩
  go_wp2_with fail
  refine (few11 _ _ _ _ _ _ _ (by omega) (by omega)).mono ?_
  rintro v w1' ⟨rfl, rfl⟩
  rw [hd]
  go_wp2_with fail
  refine (awake10 _).mono ?_
  rintro v w2 ⟨rfl, hb2⟩
  go_wp2_with fail
  go_ret
  exact ⟨rfl, hb1.trans (hb2.mono hb1.size)⟩
theorem walk3 (A : Option Addr) (n cp : Nat) (es : List Ent) (A2 : Option Addr) (n2 cp2 : Nat) (ss : List Ent) (w : World) (he : Ents w w.heap.size A n es) (hn : n ≤ maxLen) (he2 : Ents w w.heap.size A2 n2 ss) (hn2 : n2 ≤ maxLen) :
    Calls Try.prog 3 #[.slice A n cp, .slice A2 n2 cp2] w fun v w' => v = .returned (.bool true) ∧ Below w.heap.size w w' := by
  by_cases hf : n ≤ 20 ∧ n2 ≤ 20
  · exact walk3_few A n cp es A2 n2 cp2 ss w he he2 hf.1 hf.2
  · exact walk3_many A n cp es A2 n2 cp2 ss w he hn he2 hn2 hf
set_option maxRecDepth 100000 in
theorem lifted3 (os : Os) (started : os.Started) (H : Type) (enc : TypeId × Value → H) :
    ReturnsInHanded {} Try.checked os 3 .any (Rows.shortcutWantedSpec.pre6 enc Try.prog Try.f3 Rows.shortcutWantedRow.domain false) (Rows.shortcutWantedSpec.post enc Try.prog Try.f3 false true false false) := by
  refine returnsInHanded_of_change (C := Try.checked) own_ started (by kernel_rfl) Try.func3
    (ChangeSpec.witness6 (enc := enc) (C := Try.checked) false ⟨#[], #[.slice none 0 0, .slice none 0 0], []⟩ 8 (by kernel_rfl) (by kernel_rfl) (by kernel_rfl) (by kernel_rfl)) ?_
  intro W base args ds gs before hval0 hW hcnd _
  have hval : ∀ (j : Nat) t v, Try.f3.params[j]? = some t → args[j]? = some v → Value.okWide Try.prog W .any base t v := hval0
  have hW' := hW
  obtain ⟨p, q, hA0, hV, rfl, hfz, hnd⟩ := hW
  have hA : DataW.TrodAll enc Try.prog W 0 (fun _ => true) true Try.f3.params.toList args.toList ds p := hA0
  rw [Try.params3] at hA hval
  obtain ⟨v0, vs0, d0, ds0, p0, q0, hargs, rfl, rfl, h0, r0⟩ := trodAll_cons hA
  obtain ⟨v1, vs1, d1, ds1, p1, q1, rfl, rfl, rfl, h1, r1⟩ := trodAll_cons r0
  obtain ⟨rfl, rfl, rfl⟩ := trodAll_nil r1
  obtain rfl : args = #[v0, v1] := by cases args; simp_all
  obtain ⟨rfl, rfl⟩ := trodVars_none hV
  have k0 := h0
  have lt0 : ∀ x ∈ p0, x.block < W.heap.size := by obtain ⟨m, hm⟩ := k0; exact DataW.trod_lt m _ _ _ hm
  obtain ⟨A0, n0, cp0, rfl⟩ := okWide_slice Try.underlying22 (hval 0 22 v0 rfl rfl)
  obtain ⟨hn0, hcp0, es0, he0⟩ : n0 ≤ maxLen ∧ n0 ≤ cp0 ∧ ∃ es, Ents W W.heap.size A0 n0 es := by
    obtain ⟨fuel, hf⟩ := h0
    exact ents_of_trod Try.underlying22 leaves34 (by kernel_rfl) hf
  have k1 := h1
  have lt1 : ∀ x ∈ p1, x.block < W.heap.size := by obtain ⟨m, hm⟩ := k1; exact DataW.trod_lt m _ _ _ hm
  obtain ⟨A1, n1, cp1, rfl⟩ := okWide_slice Try.underlying23 (hval 1 23 v1 rfl rfl)
  obtain ⟨hn1, hcp1, es1, he1⟩ : n1 ≤ maxLen ∧ n1 ≤ cp1 ∧ ∃ es, Ents W W.heap.size A1 n1 es := by
    obtain ⟨fuel, hf⟩ := h1
    exact ents_of_trod Try.underlying23 leaves36 (by kernel_rfl) hf
  clear hA0 hval0
  refine (walk3 A0 n0 cp0 es0 A1 n1 cp1 es1 W he0 hn0 he1 hn1).mono fun e W' ⟨he, bel⟩ => ?_
  subst he
  exact ⟨_, rfl, _, _, _, [], _, [], hW', trodAll_mk1 (shut_bool Try.underlying4 _), (trodAll_cons_mk (Below.trod laidOut_ (by kernel_rfl) (of_decide_eq_true (by kernel_rfl)) k0 bel lt0) (trodAll_cons_mk (Below.trod laidOut_ (by kernel_rfl) (of_decide_eq_true (by kernel_rfl)) k1 bel lt1) trodAll_mk0)), rfl, bel.frame _, fun h => by cases h⟩

theorem shortcutWanted_holds : Rows.ShortcutWantedSaid :=
  OpenClaim.holds_of_wide 3 Try.f3 rfl rfl rfl rfl rfl rfl rfl ⟨rfl, rfl, rfl, rfl, rfl⟩ rfl rfl rfl rfl rfl (by kernel_rfl) Try.func3 (by kernel_rfl)
    (of_decide_eq_true (by kernel_rfl)) (by unfold Func.isWrapper; first | (rw [if_pos (by decide +kernel)]; kernel_rfl) | (rw [if_neg (by decide +kernel)]; exact ⟨rfl, rfl⟩))
    (fun os started H enc _ => lifted3 os started H enc)

end Go.Proofs.Ytnlgkjnlfeeaoaa
