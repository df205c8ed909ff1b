/-
Contracts: Same, SamePacket, SamePackets where both are the same; Index; few; awake.
-/
import Derived.Test.YtledcmcpinjboaaG
import Derived.Deep.RegionHeld3
import Derived.StillTailTactics
namespace Go.Proofs.Ytledcmcpinjboaa
open Go.RowKit
set_option linter.unusedVariables false

theorem Byts.at_ {w : World} {ok : Nat → Prop} {A : Option Addr} {n : Nat} {bs : List Int} (h : Byts w ok A n bs) {k : Nat} (hk : k < n) : ∃ b off x, A = some ⟨b, off, none⟩ ∧ ok b ∧ bs[k]? = some x ∧ w.cell? ⟨b, off + k, none⟩ = some (.int .u8 x) := by
  obtain ⟨b, off, h1, h2, h3⟩ := h.2 (by omega)
  have hl : k < bs.length := by rw [h.1]; exact hk
  exact ⟨b, off, bs[k], h1, h2, List.getElem?_eq_getElem hl, h3 k _ (List.getElem?_eq_getElem hl)⟩

set_option maxHeartbeats 1000000 in
theorem same16 (ok ok2 : Nat → Prop) (A A2 : Option Addr) (n c n2 c2 : Nat) (bs : List Int) (w : World) (h : Byts w ok A n bs) (h2 : Byts w ok2 A2 n2 bs) (hn : n ≤ 1000000) :
    Calls Try.prog 16 #[.slice A n c, .slice A2 n2 c2] w fun e w' => e = .returned (.bool true) ∧ ∃ d, w' = w.drewN d := by
  obtain rfl : n = n2 := by rw [← h.1, ← h2.1]
  go_enter Try.func16, Try.ntmps16
  go_wp2
  go_loopw [5] (fun i wr => ∃ k : Nat, k ≤ n ∧ i = .int .i64 k ∧ ∃ d, wr = w.drewN d) (fun i _ => n - (intOf i).toNat)
  case atStart => exact ⟨0, Nat.zero_le _, rfl, 0, rfl⟩
  case round =>
    obtain ⟨k, hk, rfl, d, rfl⟩ := hrel
    by_cases hlt : k < n
    · obtain ⟨b, off, x, rfl, _, hx, c0⟩ := h.at_ hlt
      obtain ⟨b2, off2, x2, rfl, _, hx2, d0⟩ := h2.at_ hlt
      obtain rfl : x = x2 := by rw [hx] at hx2; simpa using hx2
      have hk0 : 0 ≤ (k : Int) := by omega
      have hk1 : (k : Int) < n := by omega
      clear h h2 hx hx2
      go_wp2
      go_quiet (fail)
      go_wp2
      go_roundw
      case rel => exact ⟨k + 1, by omega, by go_num, _, rfl⟩
      case measure => simp [intOf]; omega
    · go_wp2
      go_ret
      exact ⟨rfl, d, rfl⟩

theorem Rd.drew {w : World} {ok : Nat → Prop} {p : Pk} {q : Pkt} (h : Rd w ok p q) : Rd w.drew ok p q := ⟨h.num, h.frm, h.dst, h.data, h.small⟩
theorem beq_self (a : Int) : (a == a) = true := by simp
set_option maxHeartbeats 1000000 in
theorem samePacket22 (ok ok2 : Nat → Prop) (p p2 : Pk) (q : Pkt) (w : World) (h : Rd w ok p q) (h2 : Rd w ok2 p2 q) (hk : ∀ b, ok b → b < w.heap.size) (hk2 : ∀ b, ok2 b → b < w.heap.size) :
    Calls Try.prog 22 #[.agg #[.int .i64 p.num, .int .i64 p.frm, .int .i64 p.dst, .slice p.A p.n p.c], .agg #[.int .i64 p2.num, .int .i64 p2.frm, .int .i64 p2.dst, .slice p2.A p2.n p2.c]] w fun e w' => e = .returned (.bool true) ∧ Below w.heap.size w w' := by
  obtain ⟨num, frm, dst, A, n, c⟩ := p
  obtain ⟨num2, frm2, dst2, A2, n2, c2⟩ := p2
  obtain ⟨a1, a2, a3, hd, hs⟩ := h
  obtain ⟨b1, b2, b3, hd2, hs2⟩ := h2
  dsimp only at *
  subst a1 a2 a3 b1 b2 b3
  have hb : ∀ o1 o2, Below w.heap.size w ((w.alloc o1).alloc o2) := fun o1 o2 => ((Below.refl _ _).alloc (Nat.le_refl _) _).alloc (by simp) _
  have g1 := fun o1 o2 => hd.keep (w' := (w.alloc o1).alloc o2) (ok' := fun b => b < w.heap.size) fun b hb' => ⟨hk b hb', (hb o1 o2).block b (hk b hb')⟩
  have g2 := fun o1 o2 => hd2.keep (w' := (w.alloc o1).alloc o2) (ok' := fun b => b < w.heap.size) fun b hb' => ⟨hk2 b hb', (hb o1 o2).block b (hk2 b hb')⟩
  have HB := Lib.hid hb
  have H1 := Lib.hid g1
  have H2 := Lib.hid g2
  clear hb g1 g2 hd hd2
  have e1 := beq_self q.num
  have e2 := beq_self q.frm
  have e3 := beq_self q.dst
  go_enter Try.func22, Try.ntmps22
  go_wp2_with fail
  refine (same16 _ _ _ _ _ _ _ _ q.data _ (H1.out _ _) (H2.out _ _) (by omega)).mono ?_
  rintro e w2 ⟨rfl, d, rfl⟩
  go_wp2_with fail
  go_ret
  exact ⟨rfl, below_drewN (HB.out _ _) d⟩

set_option maxHeartbeats 2000000 in
theorem samePackets20 (ok ok2 : Nat → Prop) (A A2 : Option Addr) (n c n2 c2 : Nat) (ps ps2 : List Pk) (qs : List Pkt) (w : World) (h : Sl w ok A n ps) (h2 : Sl w ok2 A2 n2 ps2) (hr : Rds w ok ps qs) (hr2 : Rds w ok2 ps2 qs)
    (hk : ∀ b, ok b → b < w.heap.size) (hk2 : ∀ b, ok2 b → b < w.heap.size) (hn : n ≤ 1000000) :
    Calls Try.prog 20 #[.slice A n c, .slice A2 n2 c2] w fun e w' => e = .returned (.bool true) ∧ Below w.heap.size w w' := by
  obtain rfl : n = n2 := by rw [← h.1, ← h2.1, hr.1, hr2.1]
  go_enter Try.func20, Try.ntmps20
  go_wp2
  go_loopw [5] (fun i wr => ∃ k : Nat, k ≤ n ∧ i = .int .i64 k ∧ Below w.heap.size w wr) (fun i _ => n - (intOf i).toNat)
  case atStart => exact ⟨0, Nat.zero_le _, rfl, Below.refl _ _⟩
  case round =>
    obtain ⟨k, hkn, rfl, hb⟩ := hrel
    by_cases hlt : k < n
    · have hka : ∀ b, ok b → ok b ∧ wr.heap[b]? = w.heap[b]? := fun b hb' => ⟨hb', hb.block b (hk b hb')⟩
      have hka2 : ∀ b, ok2 b → ok2 b ∧ wr.heap[b]? = w.heap[b]? := fun b hb' => ⟨hb', hb.block b (hk2 b hb')⟩
      obtain ⟨p, q, hp, hq, hrd⟩ := (hr.keep hka).at_ (i := k) (by rw [h.1]; exact hlt)
      obtain ⟨p2, q2, hp2, hq2, hrd2⟩ := (hr2.keep hka2).at_ (i := k) (by rw [h2.1]; exact hlt)
      obtain rfl : q = q2 := by rw [hq] at hq2; simpa using hq2
      obtain ⟨b, off, p', rfl, _, hp', c0, c1, c2, c3⟩ := (h.keep hka).cells hlt
      obtain rfl : p = p' := by rw [hp] at hp'; simpa using hp'
      obtain ⟨b2, off2, p2', rfl, _, hp2', d0, d1, d2, d3⟩ := (h2.keep hka2).cells hlt
      obtain rfl : p2 = p2' := by rw [hp2] at hp2'; simpa using hp2'
      have hk0 : 0 ≤ (k : Int) := by omega
      have hk1 : (k : Int) < n := by omega
      have hsz := hb.size
      have HR := Lib.hid hrd
      have HR2 := Lib.hid hrd2
      clear h h2 hr hr2 hp hq hp2 hq2 hp' hp2' hka hka2 hrd hrd2
      go_wp2_with fail
      go_region_with (go_at_call 22; refine (samePacket22 ok ok2 p p2 q _ HR.out.drew HR2.out.drew (fun b hb' => Nat.lt_of_lt_of_le (hk b hb') hsz) (fun b hb' => Nat.lt_of_lt_of_le (hk2 b hb') hsz)).mono ?_; rintro e w2 ⟨rfl, hb2⟩)
      all_goals
        have hb3 : Below w.heap.size w w2 := hb.trans ((show Below wr.heap.size wr w2 from ⟨hb2.os, hb2.tape, hb2.output, hb2.size, hb2.block⟩).mono hsz)
        go_wp2_with fail
        go_roundw
        case rel => exact ⟨k + 1, by omega, by go_num, hb3⟩
        case measure => simp [intOf]; omega
    · go_wp2
      go_ret
      exact ⟨rfl, hb⟩

set_option maxHeartbeats 1000000 in
theorem index25 (A : Option Addr) (n c : Nat) (l i : Int) (w : World) (hn : 0 < n) (hn1 : n ≤ 1000000) :
    Calls Try.prog 25 #[.agg #[.slice A n c, .int .i64 l], .int .i64 i] w fun e w' => e = .returned (.tuple #[.int .i64 (pos i n), .bool true]) ∧ Below w.heap.size w w' := by
  have hz : ((n : Int) == 0) = false := beq_eq_false_iff_ne.2 (by omega)
  have hlt := pos_lt i hn
  have e1 : (i.tmod n + n) % (n : Int) = (pos i n : Int) := by
    obtain ⟨t1, t2⟩ := tmod_pos i hn
    by_cases h : 0 ≤ i.tmod n
    · rw [t1 h, Int.add_emod_right, Int.emod_eq_of_lt (by omega) (by omega)]
    · rw [t2 (by omega), Int.emod_eq_of_lt (by omega) (by omega)]
  have b1 : i.tmod n ≤ n := by
    have := Int.tmod_lt_of_pos i (by omega : 0 < (n : Int)); omega
  have b2 : -(n : Int) ≤ i.tmod n := by
    obtain ⟨t1, t2⟩ := tmod_pos i hn
    by_cases h : 0 ≤ i.tmod n
    · omega
    · have := t2 (by omega); omega
  have hw : IntKind.i64.wrap (i.tmod n + n) = i.tmod n + n := by rw [IntKind.wrap_i64]; omega
  have HE := Lib.hid e1
  clear e1
  go_enter Try.func25, Try.ntmps25
  go_wp2_with fail
  go_quiet (fail)
  go_wp2_with fail
  go_ret2
  exact ⟨by rw [HE.out]; rfl, below_drewN ((Below.refl _ _).alloc (Nat.le_refl _) _) _⟩
set_option maxHeartbeats 1000000 in
theorem index25_0 (A : Option Addr) (c : Nat) (l i : Int) (w : World) :
    Calls Try.prog 25 #[.agg #[.slice A 0 c, .int .i64 l], .int .i64 i] w fun e w' => e = .returned (.tuple #[.int .i64 0, .bool false]) ∧ Below w.heap.size w w' := by
  go_enter Try.func25, Try.ntmps25
  go_wp2_with fail
  go_ret2
  exact ⟨rfl, (Below.refl _ _).alloc (Nat.le_refl _) _⟩

/-- an operation as it lies in memory. -/
structure Op5 where
  kind : Int
  frm : Int
  dst : Int
  A : Option Addr
  n : Nat
  c : Nat
  i : Int
def Op5.enc (o : Op5) : List Value := [.int .u8 o.kind, .int .i64 o.frm, .int .i64 o.dst, .slice o.A o.n o.c, .int .i64 o.i]
/-- a slice of operations, with their data, in blocks below B. -/
def OpSl (w : World) (B : Nat) (A : Option Addr) (n : Nat) (os : List Op5) (ds : List (List Int)) : Prop :=
  os.length = n ∧ ds.length = n ∧ (0 < n → ∃ b off, A = some ⟨b, off, none⟩ ∧ b < B ∧ ∀ (i : Nat) (o : Op5), os[i]? = some o → ∀ (j : Nat) (v : Value), o.enc[j]? = some v → w.cell? ⟨b, off + i * 5 + j, none⟩ = some v) ∧
    ∀ (i : Nat) (o : Op5) (d : List Int), os[i]? = some o → ds[i]? = some d → Byts w (· < B) o.A o.n d
theorem OpSl.keep {w w' : World} {B : Nat} {A : Option Addr} {n : Nat} {os : List Op5} {ds : List (List Int)} (h : OpSl w B A n os ds) (hk : ∀ b, b < B → w'.heap[b]? = w.heap[b]?) : OpSl w' B A n os ds :=
  ⟨h.1, h.2.1, fun h0 => by
    obtain ⟨b, off, h1, h2, h3⟩ := h.2.2.1 h0
    exact ⟨b, off, h1, h2, fun i p hp j v hv => (World.cell?_of_block (hk b h2)).trans (h3 i p hp j v hv)⟩,
    fun i o d ho hd => (h.2.2.2 i o d ho hd).keep fun b hb => ⟨hb, hk b hb⟩⟩
theorem OpSl.cells {w : World} {B : Nat} {A : Option Addr} {n : Nat} {os : List Op5} {ds : List (List Int)} (h : OpSl w B A n os ds) {k : Nat} (hk : k < n) :
    ∃ (b off : Nat) (o : Op5) (d : List Int), A = some ⟨b, off, none⟩ ∧ b < B ∧ os[k]? = some o ∧ ds[k]? = some d ∧ Byts w (· < B) o.A o.n d ∧ w.cell? ⟨b, off + k * 5, none⟩ = some (.int .u8 o.kind) ∧ w.cell? ⟨b, off + k * 5 + 1, none⟩ = some (.int .i64 o.frm) ∧
      w.cell? ⟨b, off + k * 5 + 2, none⟩ = some (.int .i64 o.dst) ∧ w.cell? ⟨b, off + k * 5 + 3, none⟩ = some (.slice o.A o.n o.c) ∧ w.cell? ⟨b, off + k * 5 + 4, none⟩ = some (.int .i64 o.i) := by
  obtain ⟨b, off, h1, h2, h3⟩ := h.2.2.1 (by omega)
  have hl : k < os.length := by rw [h.1]; exact hk
  have hl2 : k < ds.length := by rw [h.2.1]; exact hk
  have h4 := h3 k os[k] (List.getElem?_eq_getElem hl)
  exact ⟨b, off, os[k], ds[k], h1, h2, List.getElem?_eq_getElem hl, List.getElem?_eq_getElem hl2, h.2.2.2 k _ _ (List.getElem?_eq_getElem hl) (List.getElem?_eq_getElem hl2), h4 0 _ rfl, h4 1 _ rfl, h4 2 _ rfl, h4 3 _ rfl, h4 4 _ rfl⟩

def short (o : Op5) : Bool := decide (o.n ≤ 60)
set_option maxHeartbeats 1000000 in
theorem few17 (B : Nat) (A : Option Addr) (n c : Nat) (os : List Op5) (ds : List (List Int)) (w : World) (h : OpSl w B A n os ds) (hn : n ≤ 9223372036854775807) :
    Calls Try.prog 17 #[.slice A n c] w fun e w' => e = .returned (.bool (os.all short && decide (n ≤ 30))) ∧ w = w' := by
  go_enter Try.func17, Try.ntmps17
  go_wp2
  go_loop [3] (fun i => ∃ k : Nat, k ≤ n ∧ i = .int .i64 k ∧ Hid ((os.take k).all short = true)) (fun i => n - (intOf i).toNat)
  case atStart => exact ⟨0, Nat.zero_le _, rfl, Lib.hid (by simp)⟩
  case round =>
    obtain ⟨k, hk, rfl, HA⟩ := hrel
    by_cases hlt : k < n
    · obtain ⟨b, off, o, d, rfl, _, ho, _, _, _, _, _, c3, _⟩ := h.cells hlt
      have hk0 : 0 ≤ (k : Int) := by omega
      have hk1 : (k : Int) < n := by omega
      have HO := Lib.hid ho
      have HL := Lib.hid h.1
      clear h ho
      by_cases hs : o.n ≤ 60
      · have hs' : decide ((60 : Int) < (o.n : Int)) = false := by simp; omega
        go_wp2
        go_round
        case rel => exact ⟨k + 1, by omega, by go_num, Lib.hid (by rw [take_snoc HO.out, List.all_append, HA.out]; simp [short, hs])⟩
        case measure => simp [intOf]; omega
      · have hs' : decide ((60 : Int) < (o.n : Int)) = true := by simp; omega
        go_wp2
        go_ret
        refine ⟨ret_bool ?_, rfl⟩
        have : os.all short = false := by
          rw [← Bool.not_eq_true, List.all_eq_true]
          intro hall
          have := hall o (List.mem_of_getElem? HO.out)
          simp [short] at this; omega
        rw [this]; rfl
    · have hall : os.all short = true := by have := HA.out; rwa [List.take_of_length_le (by rw [h.1]; omega)] at this
      go_wp2
      go_ret
      exact ⟨ret_bool (by rw [Bool.eq_iff_iff]; simp; try omega), rfl⟩
end Go.Proofs.Ytledcmcpinjboaa
