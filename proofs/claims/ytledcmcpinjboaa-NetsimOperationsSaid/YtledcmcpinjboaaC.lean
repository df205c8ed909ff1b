/-
Contracts: Pending; packets read as data.
-/
import Derived.Test.YtledcmcpinjboaaB
namespace Go.Proofs.Ytledcmcpinjboaa
open Go.RowKit
set_option linter.unusedVariables false

/-- a packet as data. -/
structure Pkt where
  num : Int
  frm : Int
  dst : Int
  data : List Int
/-- a packet in memory reads as a packet. -/
structure Rd (w : World) (ok : Nat → Prop) (p : Pk) (q : Pkt) : Prop where
  num : p.num = q.num
  frm : p.frm = q.frm
  dst : p.dst = q.dst
  data : Byts w ok p.A p.n q.data
  small : p.n ≤ 1000
def Rds (w : World) (ok : Nat → Prop) (ps : List Pk) (qs : List Pkt) : Prop := ps.length = qs.length ∧ ∀ (i : Nat) (p : Pk) (q : Pkt), ps[i]? = some p → qs[i]? = some q → Rd w ok p q
theorem Rd.keep {w w' : World} {ok ok' : Nat → Prop} {p : Pk} {q : Pkt} (h : Rd w ok p q) (hk : ∀ b, ok b → ok' b ∧ w'.heap[b]? = w.heap[b]?) : Rd w' ok' p q := ⟨h.num, h.frm, h.dst, h.data.keep hk, h.small⟩
theorem Rds.keep {w w' : World} {ok ok' : Nat → Prop} {ps : List Pk} {qs : List Pkt} (h : Rds w ok ps qs) (hk : ∀ b, ok b → ok' b ∧ w'.heap[b]? = w.heap[b]?) : Rds w' ok' ps qs := ⟨h.1, fun i p q hp hq => (h.2 i p q hp hq).keep hk⟩
theorem Rds.step {N : Nat} {v v' : Value} {w w' : World} {ps : List Pk} {qs : List Pkt} (h : Rds w (Away w N v) ps qs) (s : NStep N v w v' w') : Rds w' (Away w' N v') ps qs := h.keep fun _ hb => ⟨s.away hb, s.same hb⟩
theorem Rds.nil (w : World) (ok : Nat → Prop) : Rds w ok [] [] := ⟨rfl, fun i p q hp => by simp at hp⟩
theorem Rds.snoc {w : World} {ok : Nat → Prop} {ps : List Pk} {qs : List Pkt} {p : Pk} {q : Pkt} (h : Rds w ok ps qs) (hp : Rd w ok p q) : Rds w ok (ps ++ [p]) (qs ++ [q]) := by
  refine ⟨by simp [h.1], fun i p' q' hi hj => ?_⟩
  by_cases hl : i < ps.length
  · rw [List.getElem?_append_left hl] at hi
    rw [List.getElem?_append_left (by rw [← h.1]; exact hl)] at hj
    exact h.2 i p' q' hi hj
  · rw [List.getElem?_append_right (by omega)] at hi
    rw [List.getElem?_append_right (by rw [← h.1]; omega), ← h.1] at hj
    have h0 : i - ps.length = 0 := by have := (List.getElem?_eq_some_iff.1 hi).1; simp at this; omega
    rw [h0] at hi hj
    simp at hi hj
    subst hi hj
    exact hp
theorem Rds.at_ {w : World} {ok : Nat → Prop} {ps : List Pk} {qs : List Pkt} (h : Rds w ok ps qs) {i : Nat} (hi : i < ps.length) : ∃ p q, ps[i]? = some p ∧ qs[i]? = some q ∧ Rd w ok p q :=
  ⟨_, _, List.getElem?_eq_getElem hi, List.getElem?_eq_getElem (by rw [← h.1]; exact hi), h.2 i _ _ (List.getElem?_eq_getElem hi) (List.getElem?_eq_getElem (by rw [← h.1]; exact hi))⟩

/-- a slice whose cells are packets. -/
def Sl (w : World) (ok : Nat → Prop) (A : Option Addr) (n : Nat) (ps : List Pk) : Prop :=
  ps.length = n ∧ (0 < n → ∃ b off, A = some ⟨b, off, none⟩ ∧ ok b ∧ ∀ i p, ps[i]? = some p → ∀ j v, p.enc[j]? = some v → w.cell? ⟨b, off + i * 4 + j, none⟩ = some v)
theorem Sl.keep {w w' : World} {ok ok' : Nat → Prop} {A : Option Addr} {n : Nat} {ps : List Pk} (h : Sl w ok A n ps) (hk : ∀ b, ok b → ok' b ∧ w'.heap[b]? = w.heap[b]?) : Sl w' ok' A n ps :=
  ⟨h.1, fun h0 => by
    obtain ⟨b, off, h1, h2, h3⟩ := h.2 h0
    exact ⟨b, off, h1, (hk b h2).1, fun i p hp j v hv => (World.cell?_of_block (hk b h2).2).trans (h3 i p hp j v hv)⟩⟩
theorem Sl.cells {w : World} {ok : Nat → Prop} {A : Option Addr} {n : Nat} {ps : List Pk} (h : Sl w ok A n ps) {k : Nat} (hk : k < n) :
    ∃ b off p, A = some ⟨b, off, none⟩ ∧ ok b ∧ ps[k]? = some p ∧ w.cell? ⟨b, off + k * 4, none⟩ = some (.int .i64 p.num) ∧ w.cell? ⟨b, off + k * 4 + 1, none⟩ = some (.int .i64 p.frm) ∧
      w.cell? ⟨b, off + k * 4 + 2, none⟩ = some (.int .i64 p.dst) ∧ w.cell? ⟨b, off + k * 4 + 3, none⟩ = some (.slice p.A p.n p.c) := by
  obtain ⟨b, off, h1, h2, h3⟩ := h.2 (by omega)
  have hl : k < ps.length := by rw [h.1]; exact hk
  have h4 := h3 k ps[k] (List.getElem?_eq_getElem hl)
  exact ⟨b, off, ps[k], h1, h2, List.getElem?_eq_getElem hl, h4 0 _ rfl, h4 1 _ rfl, h4 2 _ rfl, h4 3 _ rfl⟩
/-- an owned row of packets. -/
theorem Sl.of_own {w : World} {base : Nat} {A : Option Addr} {n c : Nat} {ps : List Pk} (h : w.ownsRow base 31 4 (.slice A n c) n (ps.flatMap Pk.enc)) (hn : ps.length = n) : Sl w (fun b => base ≤ b ∧ b < w.heap.size ∧ (Value.slice A n c).ownBlock = some b) A n ps := by
  refine ⟨hn, fun h0 => ?_⟩
  rcases h.2 with ⟨h1, h2⟩ | ⟨g, cap, cur, hv, _, hg, _⟩
  · omega
  · simp only [Value.slice.injEq] at hv
    obtain ⟨rfl, _, rfl⟩ := hv
    have hlt := h.lt g rfl
    refine ⟨g, 0, rfl, ⟨hlt.1, hlt.2, rfl⟩, fun i e he j v hv => ?_⟩
    have h1 := get_enc ps i e he j v hv
    have hj := (List.getElem?_eq_some_iff.1 h1).1
    rw [length_enc, hn] at hj
    rw [show (0 + i * 4 + j) = i * 4 + j from by omega, h.cellAt _ hj, h1]
theorem NetW.sl {w : World} {B N : Nat} {A : Option Addr} {n c : Nat} {last : Int} {ps : List Pk} (h : NetW w B N (.slice A n c) last ps) : n = ps.length := by
  obtain ⟨A', c', h'⟩ := slice_of_own h.row
  simp only [Value.slice.injEq] at h'
  exact h'.2.1
theorem take_snoc {α : Type} {l : List α} {k : Nat} {x : α} (h : l[k]? = some x) : l.take (k + 1) = l.take k ++ [x] := by
  obtain ⟨hk, rfl⟩ := List.getElem?_eq_some_iff.1 h
  rw [List.take_succ_eq_append_getElem hk]

/-- blocks made since B0, but for the row of v. -/
def New (B0 : Nat) (w : World) (v : Value) (b : Nat) : Prop := B0 ≤ b ∧ b < w.heap.size ∧ some b ≠ v.ownBlock
theorem pend_step {B0 k d g cap n : Nat} {wr w2 w3 : World} {v : Value} {ps : List Pk} {qs : List Pkt} {o : Obj} {p : Pkt} (hown : wr.ownsRow B0 31 4 v k (ps.flatMap Pk.enc)) (hr : Rds wr (New B0 wr v) ps qs) (hB : B0 ≤ wr.heap.size)
    (hb2 : Below wr.heap.size wr w2) (hd : Blk w2 d 5 (p.data.map (Value.int .u8)).toArray) (hd0 : wr.heap.size ≤ d) (hn : p.data.length = n) (hsm : n ≤ 1000) (hgrow : (w2.alloc o).grownBy w3 v.ownBlock) (hat : v.ownBlock = some g ∨ g = w2.heap.size + 1) :
    Rds w3 (New B0 w3 (.slice (some ⟨g, 0, none⟩) (k + 1) cap)) (ps ++ [⟨p.num, p.frm, p.dst, some ⟨d, 0, none⟩, n, n⟩]) (qs ++ [p]) := by
  have hz : (w2.alloc o).heap.size = w2.heap.size + 1 := by simp
  have hdl := hd.lt
  have hsz := hgrow.size
  have hv := fun g hg => (hown.lt g hg).2
  have hz2 := hb2.size
  have hgd : d ≠ g := by
    rintro rfl
    rcases hat with h | h
    · have := hv _ h; omega
    · omega
  have hdv : some d ≠ v.ownBlock := fun e => by have := hv _ e.symm; omega
  refine Rds.snoc (hr.keep fun b hb => ⟨⟨hb.1, by have := hb.2.1; omega, ?_⟩, ?_⟩) ⟨rfl, rfl, rfl, Byts.of_blk ((hd.alloc o).grown hgrow hdv) ⟨by omega, by omega, by simpa [Value.ownBlock] using hgd⟩ hn, hsm⟩
  · simp only [Value.ownBlock, ne_eq, Option.some.injEq]
    rintro rfl
    rcases hat with h | h
    · exact hb.2.2 h.symm
    · have := hb.2.1; omega
  · exact (hgrow.block b (by have := hb.2.1; omega) hb.2.2).trans ((Below.heap_alloc w2 o b (by have := hb.2.1; omega)).trans (hb2.block b hb.2.1))

set_option maxHeartbeats 2000000 in
theorem pending14 (B N : Nat) (v : Value) (last : Int) (ps : List Pk) (qs : List Pkt) (w : World) (h : NetW w B N v last ps) (hr : Rds w (Away w N v) ps qs) (hp : ps.length ≤ 1000000) :
    Calls Try.prog 14 #[.pointer (some ⟨N, 0, none⟩)] w fun e w' => ∃ A c ps', e = .returned (.slice A qs.length c) ∧ Sl w' (fun b => w.heap.size ≤ b ∧ b < w'.heap.size) A qs.length ps' ∧ Rds w' (fun b => w.heap.size ≤ b ∧ b < w'.heap.size) ps' qs ∧ Below w.heap.size w w' := by
  obtain ⟨i0, hi, hz0, hz1, hz2⟩ := info_parts info31
  obtain ⟨Ao, co, rfl⟩ := slice_of_own h.row
  have c1 : w.cell? ⟨N, 1, none⟩ = some (.slice Ao ps.length co) := h.box.cell 1
  have hsl := Sl.of_own h.row rfl
  go_enter Try.func14, Try.ntmps14
  go_wp2
  go_loopw [3, 11] (fun u i wr => ∃ (k : Nat) (ps' : List Pk), k ≤ ps.length ∧ i = .int .i64 k ∧ Below w.heap.size w wr ∧ wr.ownsRow w.heap.size 31 4 u k (ps'.flatMap Pk.enc) ∧ ps'.length = k ∧ Rds wr (New w.heap.size wr u) ps' (qs.take k)) (fun _ i _ => ps.length - (intOf i).toNat)
  case atStart => exact ⟨0, [], Nat.zero_le _, rfl, Below.refl _ _, World.ownsRow_nil _ _ _ _, rfl, Rds.nil _ _⟩
  case round =>
    obtain ⟨k, ps', hk, rfl, hb, hown, hl', hr'⟩ := hrel
    by_cases hlt : k < ps.length
    · have hslr := hsl.keep (w' := wr) (ok' := fun b => b < w.heap.size) fun b hb' => ⟨hb'.2.1, hb.block b hb'.2.1⟩
      obtain ⟨b, off, p, rfl, hb2, hpk, a0, a1, a2, a3⟩ := hslr.cells hlt
      obtain ⟨p', q, hp', hq, hrd⟩ := hr.at_ hlt
      obtain rfl : p = p' := by rw [hpk] at hp'; simpa using hp'
      have hrd' := hrd.keep (w' := wr) (ok' := fun b => b < w.heap.size) fun b hb' => ⟨hb'.1, hb.block b hb'.1⟩
      have hts := Lib.hid (take_snoc hq)
      have hk0 : 0 ≤ (k : Int) := by omega
      have hk1 : (k : Int) < ps.length := by omega
      have hsm := hrd.small
      obtain ⟨Av, cv, rfl⟩ := slice_of_own hown
      have hsz := hb.size
      have HR := Lib.hid hr'
      have HL := Lib.hid hl'
      have HRD := Lib.hid hrd'
      clear hp' hq hpk hslr hrd hr' hl' hrd'
      go_wp2_with fail
      have hda := HRD.out.data.keep (w' := wr.alloc (.cells #[.int .i64 p.num, .int .i64 p.frm, .int .i64 p.dst, .slice p.A p.n p.c] 31)) (ok' := fun b => b < (wr.alloc (.cells #[.int .i64 p.num, .int .i64 p.frm, .int .i64 p.dst, .slice p.A p.n p.c] 31)).heap.size) fun b hb' => ⟨by simp; omega, Below.heap_alloc _ _ _ (by omega)⟩
      refine (copied26 p q.data _ hda (by omega)).mono ?_
      rintro e w2 ⟨d, rfl, hd1, hd2, hb2'⟩
      have hbw2 : Below wr.heap.size wr w2 := ((Below.refl _ _).alloc (Nat.le_refl _) _).trans (hb2'.mono (by simp))
      have hown2 := own_below hown hbw2
      have hsz2 := hbw2.size
      rw [World.size_alloc] at hd1
      clear hda a0 a1 a2 a3 hb2'
      go_wp2_with (at_builtin; refine wpList_append_lies _ rfl (.tmp 15) (.tmp 18) 28 rfl w.heap.size 31 i0 _ 4 48 Try.underlying28 hi hz0 hz1 hz2 rfl (by decide) _ _ _ rfl (hown2.alloc _) ⟨w2.heap.size, 0, none⟩ 1 1 (Pk.enc ⟨p.num, p.frm, p.dst, some ⟨d, 0, none⟩, p.n, p.n⟩) rfl rfl (news_blk (Blk.new w2 31 #[.int .i64 p.num, .int .i64 p.frm, .int .i64 p.dst, .slice (some ⟨d, 0, none⟩) p.n p.n]) _ rfl) (by simp [Pk.enc, Value.oneCell']) (by decide) (by unfold maxLen; omega) (by omega) (by simp; omega) _ rfl ?_)
      intro g cap w3 hown3 hgrow hat hlt3
      have hfin := pend_step (cap := cap) (p := ⟨q.num, q.frm, q.dst, q.data⟩) hown HR.out hsz hbw2 hd2 (by omega) HRD.out.data.1 hsm hgrow hat
      have hb3 : Below w.heap.size w w3 := ((hb.trans (hbw2.mono hsz)).alloc (by omega) _).grown hgrow (by simp; omega) (fun r hr => (hown.lt r hr).1)
      have HF := Lib.hid hfin
      have HO := Lib.hid hown3
      clear hown2 hgrow hat hfin hown3 hbw2 hd2
      go_wp2_with fail
      go_roundw
      case rel =>
        refine ⟨k + 1, ps' ++ [⟨q.num, q.frm, q.dst, some ⟨d, 0, none⟩, p.n, p.n⟩], by omega, by go_num, hb3, ?_, by simp [HL.out], ?_⟩
        · rw [List.flatMap_append, ← HRD.out.num, ← HRD.out.frm, ← HRD.out.dst]; simpa using HO.out
        · rw [hts.out]; exact HF.out
      case measure => simp [intOf]; omega
    · obtain rfl : k = ps.length := by omega
      have hq : qs.take ps.length = qs := List.take_of_length_le (by rw [hr.1]; exact Nat.le_refl _)
      rw [hq] at hr'
      obtain ⟨Av, cv, rfl⟩ := slice_of_own hown
      go_wp2
      go_ret
      rw [← hr.1]
      exact ⟨Av, cv, ps', rfl, (Sl.of_own hown hl').keep fun b hb' => ⟨⟨hb'.1, hb'.2.1⟩, rfl⟩, hr'.keep fun b hb' => ⟨⟨hb'.1, hb'.2.1⟩, rfl⟩, hb⟩
end Go.Proofs.Ytledcmcpinjboaa
