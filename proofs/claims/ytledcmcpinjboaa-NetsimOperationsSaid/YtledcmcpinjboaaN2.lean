/-
Contracts: Pending, telling of the capacity; parts of slices of packets.
-/
import Derived.Test.YtledcmcpinjboaaM2
namespace Go.Proofs.Ytledcmcpinjboaa
open Go.RowKit
set_option linter.unusedVariables false

theorem own_le {w : World} {base size n c : Nat} {e : TypeId} {A : Option Addr} {xs : List Value} (h : w.ownsRow base e size (.slice A n c) n xs) : n ≤ c := by
  rcases h.2 with ⟨h1, h2⟩ | ⟨g, cap, cur, h1, _, _, h2, _⟩
  · omega
  · simp only [Value.slice.injEq] at h1
    omega
set_option maxHeartbeats 2000000 in
theorem pending14c (B N : Nat) (v : Value) (last : Int) (ps : List Pk) (qs : List Pkt) (w : World) (h : NetW w B N v last ps) (hr : Rds w (Away w N v) ps qs) (hp : ps.length ≤ 1000000) :
    Calls Try.prog 14 #[.pointer (some ⟨N, 0, none⟩)] w fun e w' => ∃ A c ps', e = .returned (.slice A qs.length c) ∧ Sl w' (fun b => w.heap.size ≤ b ∧ b < w'.heap.size) A qs.length ps' ∧ Rds w' (fun b => w.heap.size ≤ b ∧ b < w'.heap.size) ps' qs ∧ qs.length ≤ c ∧ Below w.heap.size w w' := by
  obtain ⟨i0, hi, hz0, hz1, hz2⟩ := info_parts info31
  obtain ⟨Ao, co, rfl⟩ := slice_of_own h.row
  have c1 : w.cell? ⟨N, 1, none⟩ = some (.slice Ao ps.length co) := h.box.cell 1
  have hsl := Sl.of_own h.row rfl
  go_enter Try.func14, Try.ntmps14
  go_wp2
  go_loopw [3, 11] (fun u i wr => ∃ (k : Nat) (ps' : List Pk), k ≤ ps.length ∧ i = .int .i64 k ∧ Below w.heap.size w wr ∧ wr.ownsRow w.heap.size 31 4 u k (ps'.flatMap Pk.enc) ∧ ps'.length = k ∧ Rds wr (New w.heap.size wr u) ps' (qs.take k)) (fun _ i _ => ps.length - (intOf i).toNat)
  case atStart => exact ⟨0, [], Nat.zero_le _, rfl, Below.refl _ _, World.ownsRow_nil _ _ _ _, rfl, Rds.nil _ _⟩
  case round =>
    obtain ⟨k, ps', hk, rfl, hb, hown, hl', hr'⟩ := hrel
    by_cases hlt : k < ps.length
    · have hslr := hsl.keep (w' := wr) (ok' := fun b => b < w.heap.size) fun b hb' => ⟨hb'.2.1, hb.block b hb'.2.1⟩
      obtain ⟨b, off, p, rfl, hb2, hpk, a0, a1, a2, a3⟩ := hslr.cells hlt
      obtain ⟨p', q, hp', hq, hrd⟩ := hr.at_ hlt
      obtain rfl : p = p' := by rw [hpk] at hp'; simpa using hp'
      have hrd' := hrd.keep (w' := wr) (ok' := fun b => b < w.heap.size) fun b hb' => ⟨hb'.1, hb.block b hb'.1⟩
      have hts := Lib.hid (take_snoc hq)
      have hk0 : 0 ≤ (k : Int) := by omega
      have hk1 : (k : Int) < ps.length := by omega
      have hsm := hrd.small
      obtain ⟨Av, cv, rfl⟩ := slice_of_own hown
      have hsz := hb.size
      have HR := Lib.hid hr'
      have HL := Lib.hid hl'
      have HRD := Lib.hid hrd'
      clear hp' hq hpk hslr hrd hr' hl' hrd'
      go_wp2_with fail
      have hda := HRD.out.data.keep (w' := wr.alloc (.cells #[.int .i64 p.num, .int .i64 p.frm, .int .i64 p.dst, .slice p.A p.n p.c] 31)) (ok' := fun b => b < (wr.alloc (.cells #[.int .i64 p.num, .int .i64 p.frm, .int .i64 p.dst, .slice p.A p.n p.c] 31)).heap.size) fun b hb' => ⟨by simp; omega, Below.heap_alloc _ _ _ (by omega)⟩
      refine (copied26 p q.data _ hda (by omega)).mono ?_
      rintro e w2 ⟨d, rfl, hd1, hd2, hb2'⟩
      have hbw2 : Below wr.heap.size wr w2 := ((Below.refl _ _).alloc (Nat.le_refl _) _).trans (hb2'.mono (by simp))
      have hown2 := own_below hown hbw2
      have hsz2 := hbw2.size
      rw [World.size_alloc] at hd1
      clear hda a0 a1 a2 a3 hb2'
      go_wp2_with (at_builtin; refine wpList_append_lies _ rfl (.tmp 15) (.tmp 18) 28 rfl w.heap.size 31 i0 _ 4 48 Try.underlying28 hi hz0 hz1 hz2 rfl (by decide) _ _ _ rfl (hown2.alloc _) ⟨w2.heap.size, 0, none⟩ 1 1 (Pk.enc ⟨p.num, p.frm, p.dst, some ⟨d, 0, none⟩, p.n, p.n⟩) rfl rfl (news_blk (Blk.new w2 31 #[.int .i64 p.num, .int .i64 p.frm, .int .i64 p.dst, .slice (some ⟨d, 0, none⟩) p.n p.n]) _ rfl) (by simp [Pk.enc, Value.oneCell']) (by decide) (by unfold maxLen; omega) (by omega) (by simp; omega) _ rfl ?_)
      intro g cap w3 hown3 hgrow hat hlt3
      have hfin := pend_step (cap := cap) (p := ⟨q.num, q.frm, q.dst, q.data⟩) hown HR.out hsz hbw2 hd2 (by omega) HRD.out.data.1 hsm hgrow hat
      have hb3 : Below w.heap.size w w3 := ((hb.trans (hbw2.mono hsz)).alloc (by omega) _).grown hgrow (by simp; omega) (fun r hr => (hown.lt r hr).1)
      have HF := Lib.hid hfin
      have HO := Lib.hid hown3
      clear hown2 hgrow hat hfin hown3 hbw2 hd2
      go_wp2_with fail
      go_roundw
      case rel =>
        refine ⟨k + 1, ps' ++ [⟨q.num, q.frm, q.dst, some ⟨d, 0, none⟩, p.n, p.n⟩], by omega, by go_num, hb3, ?_, by simp [HL.out], ?_⟩
        · rw [List.flatMap_append, ← HRD.out.num, ← HRD.out.frm, ← HRD.out.dst]; simpa using HO.out
        · rw [hts.out]; exact HF.out
      case measure => simp [intOf]; omega
    · obtain rfl : k = ps.length := by omega
      have hq : qs.take ps.length = qs := List.take_of_length_le (by rw [hr.1]; exact Nat.le_refl _)
      rw [hq] at hr'
      obtain ⟨Av, cv, rfl⟩ := slice_of_own hown
      go_wp2
      go_ret
      rw [← hr.1]
      exact ⟨Av, cv, ps', rfl, (Sl.of_own hown hl').keep fun b hb' => ⟨⟨hb'.1, hb'.2.1⟩, rfl⟩, hr'.keep fun b hb' => ⟨⟨hb'.1, hb'.2.1⟩, rfl⟩, own_le hown, hb⟩
theorem Sl.take {w : World} {ok : Nat → Prop} {A : Option Addr} {n k : Nat} {ps : List Pk} (h : Sl w ok A n ps) (hk : k ≤ n) : Sl w ok A k (ps.take k) := by
  refine ⟨by rw [List.length_take, h.1]; omega, fun h0 => ?_⟩
  obtain ⟨b, off, h1, h2, h3⟩ := h.2 (by omega)
  refine ⟨b, off, h1, h2, fun i p hp => h3 i p ?_⟩
  rw [List.getElem?_take] at hp
  split at hp
  · exact hp
  · cases hp
theorem Sl.drop {w : World} {ok : Nat → Prop} {b off n k : Nat} {ps : List Pk} (h : Sl w ok (some ⟨b, off, none⟩) n ps) (hk : k ≤ n) : Sl w ok (some ⟨b, off + k * 4, none⟩) (n - k) (ps.drop k) := by
  refine ⟨by rw [List.length_drop, h.1], fun h0 => ?_⟩
  obtain ⟨b', off', h1, h2, h3⟩ := h.2 (by omega)
  simp only [Option.some.injEq, Addr.mk.injEq, and_true] at h1
  obtain ⟨rfl, rfl⟩ := h1
  refine ⟨b, off + k * 4, rfl, h2, fun i p hp j v hv => ?_⟩
  rw [List.getElem?_drop] at hp
  have := h3 (k + i) p hp j v hv
  rw [show off + k * 4 + i * 4 + j = off + (k + i) * 4 + j from by omega]
  exact this
theorem Rds.take {w : World} {ok : Nat → Prop} {ps : List Pk} {qs : List Pkt} (h : Rds w ok ps qs) (k : Nat) : Rds w ok (ps.take k) (qs.take k) := by
  refine ⟨by rw [List.length_take, List.length_take, h.1], fun i p q hp hq => ?_⟩
  rw [List.getElem?_take] at hp hq
  split at hp
  · rename_i hi
    rw [if_pos hi] at hq
    exact h.2 i p q hp hq
  · cases hp
theorem Rds.drop {w : World} {ok : Nat → Prop} {ps : List Pk} {qs : List Pkt} (h : Rds w ok ps qs) (k : Nat) : Rds w ok (ps.drop k) (qs.drop k) := by
  refine ⟨by rw [List.length_drop, List.length_drop, h.1], fun i p q hp hq => ?_⟩
  rw [List.getElem?_drop] at hp hq
  exact h.2 (k + i) p q hp hq
end Go.Proofs.Ytledcmcpinjboaa
