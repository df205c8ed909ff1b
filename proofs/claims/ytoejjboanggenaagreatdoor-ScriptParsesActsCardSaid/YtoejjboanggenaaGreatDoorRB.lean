/-
Contracts of the reference's readers of numbers, as far as they are used: a numeral gives its number.
-/
import Derived.Test.YtoejjboanggenaaGreatDoorV4
namespace Go.Proofs.YtoejjboanggenaaGreatDoor
open Go.RowKit
set_option linter.unusedVariables false
set_option linter.unusedSimpArgs false

/-- the number of a list of digits. -/
def valL (l : List UInt8) : Nat := l.foldl (fun a c => a * 10 + (c.toNat - 48)) 0
theorem valL_snoc (l : List UInt8) (c : UInt8) : valL (l ++ [c]) = valL l * 10 + (c.toNat - 48) := by unfold valL; rw [List.foldl_append]; rfl
theorem valL_dec (n : Nat) : valL (Lib.decDigits n) = n := by
  induction n using Nat.strongRecOn with
  | _ n ih =>
    by_cases h : n < 10
    · have e : (UInt8.ofNat (48 + n)).toNat = 48 + n := by simp; omega
      rw [dec_small h]
      unfold valL
      simp only [List.foldl_cons, List.foldl_nil, e]
      omega
    · have e : (UInt8.ofNat (48 + n % 10)).toNat = 48 + n % 10 := by simp; omega
      rw [dec_step (by omega), valL_snoc, ih _ (by omega), e]
      omega
theorem dec_len : ∀ (k n : Nat), n < 10 ^ (k + 1) → (Lib.decDigits n).length ≤ k + 1
  | 0, n, h => by rw [dec_small (by simpa using h)]; simp
  | k + 1, n, h => by
    by_cases h10 : n < 10
    · rw [dec_small h10]; simp
    · rw [dec_step (by omega), List.length_append, List.length_singleton]
      have := dec_len k (n / 10) (by rw [Nat.pow_succ] at h; omega)
      omega
theorem dstr_size {m : Nat} (h : m ≤ 4611686018427387904) : 1 ≤ (dstr m).size ∧ (dstr m).size ≤ 19 := by
  have h1 : (dstr m).size = (Lib.decDigits m).length := by unfold dstr; simp [ByteArray.size]
  have h2 := dec_len 18 m (by omega)
  have h3 := dec_ne m
  rw [h1]
  exact ⟨List.length_pos_iff.2 h3, h2⟩
def DigPost (s : ByteArray) (w : World) (e : Ending) (w' : World) : Prop :=
  ∃ (n : Nat) (ok : Bool), e = .returned (.tuple #[.int .u64 n, .bool ok]) ∧ U64 n ∧ (∀ m : Nat, m ≤ 4611686018427387904 → s = dstr m → ok = true ∧ n = m) ∧ Below w.heap.size w w'
set_option maxRecDepth 100000 in
set_option maxHeartbeats 8000000 in
theorem digits53 (s : ByteArray) (w : World) (hs : s.size ≤ 1000000) : Calls Tryz.prog 53 #[.string s] w (DigPost s w) := by
  by_cases h0 : s.size = 0
  · have h1 : ((s.size : Int) == 0) = true := beq_iff_eq.2 (by omega)
    have HZ := Lib.hid h0
    clear h0
    go_enter Tryz.func53, Tryz.ntmps53
    go_wp2_with fail
    go_ret2
    exact ⟨0, false, rfl, by unfold U64; decide, fun m hm e => absurd (dstr_size hm).1 (by rw [← e, HZ.out]; decide), Below.refl _ _⟩
  · have h1 : ((s.size : Int) == 0) = false := beq_eq_false_iff_ne.2 (by omega)
    by_cases h20 : 20 < s.size
    · have h2 : decide ((20 : Int) < (s.size : Int)) = true := decide_eq_true (by omega)
      have HZ := Lib.hid h20
      clear h0 h20
      go_enter Tryz.func53, Tryz.ntmps53
      go_wp2_with fail
      go_ret2
      exact ⟨0, false, rfl, by unfold U64; decide, fun m hm e => absurd (dstr_size hm).2 (by rw [← e]; have := HZ.out; omega), Below.refl _ _⟩
    · have h2 : decide ((20 : Int) < (s.size : Int)) = false := decide_eq_false (by omega)
      clear h0
      go_enter Tryz.func53, Tryz.ntmps53
      go_wp2_with fail
      go_loopw [4, 5] (fun n i wr => ∃ k N : Nat, k ≤ s.size ∧ i = .int .i64 k ∧ n = .int .u64 N ∧ wr = w ∧ Hid (U64 N) ∧ Hid (∀ m : Nat, m ≤ 4611686018427387904 → s = dstr m → N = valL (s.data.toList.take k) % 18446744073709551616)) (fun _ i _ => s.size - (intOf i).toNat)
      case atStart => exact ⟨0, 0, Nat.zero_le _, rfl, rfl, rfl, Lib.hid (by unfold U64; decide), Lib.hid fun m _ _ => rfl⟩
      case round =>
        obtain ⟨k, N, hk, rfl, rfl, rfl, HU, HV⟩ := hrel
        by_cases hlt : k < s.size
        · have hk0 : 0 ≤ (k : Int) := by omega
          have hk1 : (k : Int) < (s.size : Int) := by omega
          obtain ⟨c, hc⟩ : ∃ c, (s[k]'hlt) = c := ⟨_, rfl⟩
          have HC := Lib.hid (show s.data.toList[k]? = some c from by rw [← hc]; exact List.getElem?_eq_getElem hlt)
          by_cases hd : 48 ≤ c.toNat ∧ c.toNat ≤ 57
          · have d1 : decide ((c.toNat : Int) < 48) = false := decide_eq_false (by omega)
            have d2 : decide ((57 : Int) < (c.toNat : Int)) = false := decide_eq_false (by omega)
            have hlt2 := HU.out
            unfold U64 at hlt2
            have hm1 : IntKind.u64.wrap ((N : Int) * 10) = ((N * 10 % 18446744073709551616 : Nat) : Int) := by rw [IntKind.wrap_u64]; omega
            have hm2 : IntKind.u8.wrap ((c.toNat : Int) - 48) = ((c.toNat - 48 : Nat) : Int) := by rw [IntKind.wrap_u8]; omega
            have hm3 : IntKind.u64.wrap (((c.toNat - 48 : Nat) : Int)) = ((c.toNat - 48 : Nat) : Int) := by rw [IntKind.wrap_u64]; omega
            have hm4 : IntKind.u64.wrap (((N * 10 % 18446744073709551616 : Nat) : Int) + ((c.toNat - 48 : Nat) : Int)) = (((N * 10 + (c.toNat - 48)) % 18446744073709551616 : Nat) : Int) := by rw [IntKind.wrap_u64]; omega
            go_wp2_with fail
            go_roundw
            case rel =>
              refine ⟨k + 1, (N * 10 + (c.toNat - 48)) % 18446744073709551616, by omega, by go_num, by congr 1, trivial, Lib.hid (by unfold U64; omega), Lib.hid fun m hm e => ?_⟩
              rw [List.take_add_one, HC.out]
              show _ = valL (_ ++ [c]) % _
              rw [valL_snoc, HV.out m hm e]
              omega
            case measure => simp [intOf]; omega
          · have HD := Lib.hid (show ∀ m : Nat, m ≤ 4611686018427387904 → s = dstr m → False from fun m _ e => hd (dec_digits m c (by
              have := List.mem_of_getElem? HC.out
              rw [e] at this
              exact this)))
            by_cases hd1 : c.toNat < 48
            · have d1 : decide ((c.toNat : Int) < 48) = true := decide_eq_true (by omega)
              clear hd
              go_wp2_with fail
              go_ret2
              exact ⟨0, false, rfl, by unfold U64; decide, fun m hm e => (HD.out m hm e).elim, Below.refl _ _⟩
            · have d1 : decide ((c.toNat : Int) < 48) = false := decide_eq_false (by omega)
              have d2 : decide ((57 : Int) < (c.toNat : Int)) = true := decide_eq_true (by omega)
              clear hd
              go_wp2_with fail
              go_ret2
              exact ⟨0, false, rfl, by unfold U64; decide, fun m hm e => (HD.out m hm e).elim, Below.refl _ _⟩
        · obtain rfl : k = s.size := by omega
          have hN := HV.out
          rw [List.take_of_length_le (show s.data.toList.length ≤ s.size from Nat.le_refl _)] at hN
          have HN := Lib.hid hN
          have HK := Lib.hid (digits47 N wr HU.out)
          clear hN
          go_wp2_with fail
          refine HK.out.mono ?_
          rintro e w1 ⟨rfl, b1⟩
          have HB := Lib.hid b1
          clear b1 HK
          obtain ⟨ok, hok⟩ : ∃ ok, ((dstr N).toList == s.toList) = ok := ⟨_, rfl⟩
          have HOK := Lib.hid hok
          cases ok <;> (
            clear HOK
            have HOK := Lib.hid hok
            go_wp2_with fail
            go_ret2
            refine ⟨N, _, rfl, HU.out, fun m hm e => ?_, HB.out⟩
            have h1 := HN.out m hm e
            rw [e, show (dstr m).data.toList = Lib.decDigits m from rfl, valL_dec] at h1
            have h2 : N = m := by omega
            refine ⟨?_, h2⟩
            first
            | rfl
            | (have h3 := HOK.out
               rw [h2, ← e] at h3
               exact absurd h3 (by simp)))
theorem istr_nat (m : Nat) : istr (m : Int) = dstr m := by
  unfold istr dstr
  rw [Lib.itoa_nonneg]
theorem istr_neg (u : Nat) (h : 1 ≤ u) : (istr (-(u : Int))).data.toList = 45 :: (dstr u).data.toList := by
  show Lib.itoa _ = 45 :: Lib.decDigits u
  exact Lib.itoa_neg u h
theorem extract_tail (s : ByteArray) : (s.extract 1 s.size).data.toList = s.data.toList.drop 1 := by
  rw [ByteArray.data_extract, Array.toList_extract, List.extract_eq_take_drop]
  exact List.take_of_length_le (by rw [List.length_drop]; exact Nat.le_refl _)
def IntPost (s : ByteArray) (w : World) (e : Ending) (w' : World) : Prop :=
  ∃ (z : Int) (ok : Bool), e = .returned (.tuple #[.int .i64 z, .bool ok]) ∧ I64 z ∧ (∀ x, Small x → s = istr x → ok = true ∧ z = x) ∧ Below w.heap.size w w'
theorem dec_no45 (n : Nat) (c : UInt8) (l : List UInt8) (h : Lib.decDigits n = c :: l) : c ≠ 45 := by
  intro e
  have := dec_digits n c (by rw [h]; simp)
  rw [e] at this
  simp at this
/-- behind no minus: what digits answers is handed on. -/
theorem int_plain {s : ByteArray} {n : Nat} {ok : Bool} (hn : ∀ m : Nat, m ≤ 4611686018427387904 → s = dstr m → ok = true ∧ n = m) (hm : ∀ l, s.data.toList ≠ 45 :: l) : ∀ x, Small x → s = istr x → ok = true ∧ (n : Int) = x ∧ n ≤ 4611686018427387904 := by
  intro x hx e
  unfold Small at hx
  by_cases h0 : 0 ≤ x
  · obtain ⟨m, rfl⟩ := Int.eq_ofNat_of_zero_le h0
    rw [istr_nat] at e
    obtain ⟨h1, h2⟩ := hn m (by omega) e
    exact ⟨h1, by omega, by omega⟩
  · obtain ⟨u, rfl⟩ : ∃ u : Nat, x = -(u : Int) := ⟨x.natAbs, by omega⟩
    exact absurd (by rw [e, istr_neg u (by omega)]) (hm _)
theorem int_minus {s S : ByteArray} {l : List UInt8} {n : Nat} {ok : Bool} (hs : s.data.toList = 45 :: S.data.toList) (hn : ∀ m : Nat, m ≤ 4611686018427387904 → S = dstr m → ok = true ∧ n = m) : ∀ x, Small x → s = istr x → ok = true ∧ -(n : Int) = x ∧ n ≤ 4611686018427387904 ∧ n ≠ 0 := by
  intro x hx e
  unfold Small at hx
  by_cases h0 : 0 ≤ x
  · obtain ⟨m, rfl⟩ := Int.eq_ofNat_of_zero_le h0
    rw [istr_nat] at e
    rw [e] at hs
    exact absurd rfl (dec_no45 m 45 _ hs)
  · obtain ⟨u, rfl⟩ : ∃ u : Nat, x = -(u : Int) := ⟨x.natAbs, by omega⟩
    rw [e, istr_neg u (by omega)] at hs
    simp only [List.cons.injEq, true_and] at hs
    obtain ⟨h1, h2⟩ := hn u (by omega) (Go.WideShapes.bytes_inj hs).symm
    exact ⟨h1, by omega, by omega, by omega⟩
set_option maxRecDepth 100000 in
set_option maxHeartbeats 8000000 in
theorem integer36 (s : ByteArray) (w : World) (hs : s.size ≤ 1000000) : Calls Tryz.prog 36 #[.string s] w (IntPost s w) := by
  have D := Lib.hid (digits53 s w hs)
  by_cases hm : ∃ l, s.data.toList = 45 :: l
  · obtain ⟨l, hl⟩ := hm
    have h1 : 1 ≤ s.size := by
      change 1 ≤ s.data.toList.length
      rw [hl]; simp
    have hz : decide ((0 : Int) < (s.size : Int)) = true := decide_eq_true (by omega)
    have hz1 : (1 : Int) ≤ (s.size : Int) := by omega
    have hz0 : (0 : Int) < (s.size : Int) := by omega
    have hc : (s[0]'(by omega)) = 45 := by
      have h2 : s.data.toList[0]? = some 45 := by rw [hl]; rfl
      exact (List.getElem?_eq_some_iff.1 h2).2
    have hc45 : (((s[0]'(by omega)).toNat : Int) == 45) = true := by rw [hc]; rfl
    have hS : s.data.toList = 45 :: (s.extract 1 s.size).data.toList := by
      rw [extract_tail, hl]
      rfl
    have hSz : (s.extract 1 s.size).size ≤ 1000000 := by rw [ByteArray.size_extract]; omega
    have D2 := Lib.hid (digits53 (s.extract 1 s.size) w hSz)
    have HS := Lib.hid hS
    clear hl hc hS D
    go_enter Tryz.func36, Tryz.ntmps36
    go_wp2_with fail
    refine D2.out.mono ?_
    rintro e w1 ⟨n, ok, rfl, hu, hn, b1⟩
    have HP := Lib.hid (int_minus (l := l) HS.out hn)
    have HB := Lib.hid b1
    have HU := Lib.hid hu
    clear hn b1 hu D2
    cases ok with
    | false =>
      go_wp2_with fail
      go_ret2
      exact ⟨0, false, rfl, by unfold I64; omega, fun x hx e => absurd (HP.out x hx e).1 (by decide), HB.out⟩
    | true =>
      by_cases hbig : 4611686018427387904 < n
      · have hb : decide ((4611686018427387904 : Int) < (n : Int)) = true := decide_eq_true (by omega)
        go_wp2_with fail
        go_ret2
        exact ⟨0, false, rfl, by unfold I64; omega, fun x hx e => absurd (HP.out x hx e).2.2.1 (by omega), HB.out⟩
      · have hb : decide ((4611686018427387904 : Int) < (n : Int)) = false := decide_eq_false (by omega)
        by_cases hn0 : n = 0
        · subst hn0
          go_wp2_with fail
          go_ret2
          exact ⟨0, false, rfl, by unfold I64; omega, fun x hx e => absurd rfl (HP.out x hx e).2.2.2, HB.out⟩
        · have hn1 : ((n : Int) == 0) = false := beq_eq_false_iff_ne.2 (by omega)
          have hw1 : IntKind.i64.wrap (n : Int) = n := IntWalk.i64_in _ (by omega)
          have hw2 : IntKind.i64.wrap (-(n : Int)) = -(n : Int) := IntWalk.i64_in _ (by omega)
          go_wp2_with fail
          go_ret2
          exact ⟨-(n : Int), true, rfl, by unfold I64; omega, fun x hx e => ⟨rfl, (HP.out x hx e).2.1⟩, HB.out⟩
  · have hm' : ∀ l, s.data.toList ≠ 45 :: l := fun l h => hm ⟨l, h⟩
    have HM := Lib.hid hm'
    have hcase : ∃ z0 m0 : Bool, decide ((0 : Int) < (s.size : Int)) = z0 ∧ (z0 = true → ∃ h : 0 < s.size, (((s[0]'h).toNat : Int) == 45) = false) := by
      refine ⟨_, true, rfl, fun h => ?_⟩
      have h0 : 0 < s.size := by have := of_decide_eq_true h; omega
      refine ⟨h0, beq_eq_false_iff_ne.2 fun e => ?_⟩
      have hl : ∃ c l, s.data.toList = c :: l := by
        cases hx : s.data.toList with
        | nil =>
          change 0 < s.data.toList.length at h0
          rw [hx] at h0
          simp at h0
        | cons c l => exact ⟨c, l, rfl⟩
      obtain ⟨c, l, hl⟩ := hl
      have hc : (s[0]'h0) = c := by
        have h2 : s.data.toList[0]? = some c := by rw [hl]; rfl
        exact (List.getElem?_eq_some_iff.1 h2).2
      rw [hc] at e
      have hc45 : c = 45 := UInt8.toNat_inj.1 (by show c.toNat = 45; omega)
      rw [hc45] at hl
      exact hm' l hl
    obtain ⟨z0, _, hz0, hz1⟩ := hcase
    clear hm hm'
    cases z0 with
    | false =>
      clear hz1
      have hz2 : ¬ (0 < s.size) := fun h => by
        have := of_decide_eq_false hz0
        omega
      go_enter Tryz.func36, Tryz.ntmps36
      go_wp2_with fail
      refine D.out.mono ?_
      rintro e w1 ⟨n, ok, rfl, hu, hn, b1⟩
      have HP := Lib.hid (int_plain hn HM.out)
      have HB := Lib.hid b1
      clear hn b1 D
      cases ok with
      | false =>
        go_wp2_with fail
        go_ret2
        exact ⟨0, false, rfl, by unfold I64; omega, fun x hx e => absurd (HP.out x hx e).1 (by decide), HB.out⟩
      | true =>
        by_cases hbig : 4611686018427387904 < n
        · have hb : decide ((4611686018427387904 : Int) < (n : Int)) = true := decide_eq_true (by omega)
          go_wp2_with fail
          go_ret2
          exact ⟨0, false, rfl, by unfold I64; omega, fun x hx e => absurd (HP.out x hx e).2.2 (by omega), HB.out⟩
        · have hb : decide ((4611686018427387904 : Int) < (n : Int)) = false := decide_eq_false (by omega)
          have hw1 : IntKind.i64.wrap (n : Int) = n := IntWalk.i64_in _ (by omega)
          go_wp2_with fail
          go_ret2
          exact ⟨n, true, rfl, by unfold I64; omega, fun x hx e => ⟨rfl, (HP.out x hx e).2.1⟩, HB.out⟩
    | true =>
      obtain ⟨h0, hc45⟩ := hz1 rfl
      clear hz1
      go_enter Tryz.func36, Tryz.ntmps36
      go_wp2_with fail
      refine D.out.mono ?_
      rintro e w1 ⟨n, ok, rfl, hu, hn, b1⟩
      have HP := Lib.hid (int_plain hn HM.out)
      have HB := Lib.hid b1
      clear hn b1 D
      cases ok with
      | false =>
        go_wp2_with fail
        go_ret2
        exact ⟨0, false, rfl, by unfold I64; omega, fun x hx e => absurd (HP.out x hx e).1 (by decide), HB.out⟩
      | true =>
        by_cases hbig : 4611686018427387904 < n
        · have hb : decide ((4611686018427387904 : Int) < (n : Int)) = true := decide_eq_true (by omega)
          go_wp2_with fail
          go_ret2
          exact ⟨0, false, rfl, by unfold I64; omega, fun x hx e => absurd (HP.out x hx e).2.2 (by omega), HB.out⟩
        · have hb : decide ((4611686018427387904 : Int) < (n : Int)) = false := decide_eq_false (by omega)
          have hw1 : IntKind.i64.wrap (n : Int) = n := IntWalk.i64_in _ (by omega)
          go_wp2_with fail
          go_ret2
          exact ⟨n, true, rfl, by unfold I64; omega, fun x hx e => ⟨rfl, (HP.out x hx e).2.1⟩, HB.out⟩
end Go.Proofs.YtoejjboanggenaaGreatDoor
