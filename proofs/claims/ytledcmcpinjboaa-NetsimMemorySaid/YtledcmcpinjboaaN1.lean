/-
Contracts: Send, Double, Pending, telling of the blocks of the data that they make.
-/
import Derived.Test.YtledcmcpinjboaaM1
namespace Go.Proofs.Ytledcmcpinjboaa
open Go.RowKit
set_option linter.unusedVariables false

def cellsB (bs : List Int) : Array Value := (bs.map (Value.int .u8)).toArray
theorem send_finb {B N d g cap n : Nat} {v : Value} {last f t : Int} {ps : List Pk} {bs : List Int} {w w2 w3 : World} {o : Obj} (hn2 : NetW w2 B N v last ps) (hs2 : NStep N v w v w2) (hN : N < w.heap.size) (hv : ∀ g, v.ownBlock = some g → g < w.heap.size)
    (hd : Blk w2 d 5 (bs.map (Value.int .u8)).toArray) (hd0 : w.heap.size ≤ d) (hb : bs.length = n) (hown : w3.ownsRow B 31 4 (.slice (some ⟨g, 0, none⟩) (ps.length + 1) cap) (ps.length + 1) (ps.flatMap Pk.enc ++ Pk.enc ⟨last, f, t, some ⟨d, 0, none⟩, n, n⟩))
    (hgrow : (w2.alloc o).grownBy w3 v.ownBlock) (hat : v.ownBlock = some g ∨ g = (w2.alloc o).heap.size) :
    NetW (w3.setCell ⟨N, 1, none⟩ (.slice (some ⟨g, 0, none⟩) (ps.length + 1) cap)) B N (.slice (some ⟨g, 0, none⟩) (ps.length + 1) cap) last (ps ++ [⟨last, f, t, some ⟨d, 0, none⟩, n, n⟩]) ∧ w.heap.size ≤ d ∧
      Blk (w3.setCell ⟨N, 1, none⟩ (.slice (some ⟨g, 0, none⟩) (ps.length + 1) cap)) d 5 (cellsB bs) ∧ Away (w3.setCell ⟨N, 1, none⟩ (.slice (some ⟨g, 0, none⟩) (ps.length + 1) cap)) N (.slice (some ⟨g, 0, none⟩) (ps.length + 1) cap) d ∧
      NStep N v w (.slice (some ⟨g, 0, none⟩) (ps.length + 1) cap) (w3.setCell ⟨N, 1, none⟩ (.slice (some ⟨g, 0, none⟩) (ps.length + 1) cap)) := by
  have hz : (w2.alloc o).heap.size = w2.heap.size + 1 := by simp
  have hdl := hd.lt
  have hgN : g ≠ N := by
    rintro rfl
    rcases hat with h | h
    · exact hn2.ne h.symm
    · have := hs2.size; omega
  have hgd : d ≠ g := by
    rintro rfl
    rcases hat with h | h
    · have := hv _ h; omega
    · omega
  have hdv : some d ≠ v.ownBlock := fun e => by have := hv _ e.symm; omega
  have box3 : Blk w3 N 58 #[.int .i64 last, v] := (hn2.box.alloc o).grown hgrow hn2.ne
  have d3 : Blk w3 d 5 (bs.map (Value.int .u8)).toArray := (hd.alloc o).grown hgrow hdv
  have hsz3 := hgrow.size
  refine ⟨⟨?_, ?_, ?_, hn2.le⟩, hd0, d3.other _ _ (by simp; omega), ⟨?_, by omega, ?_⟩, ?_⟩
  · have := box3.set 1 (.slice (some ⟨g, 0, none⟩) (ps.length + 1) cap); simpa using this
  · have h1 : (ps ++ [(⟨last, f, t, some ⟨d, 0, none⟩, n, n⟩ : Pk)]).length = ps.length + 1 := by simp
    rw [h1, List.flatMap_append, List.flatMap_cons, List.flatMap_nil, List.append_nil]
    refine hown.kept (row := some N) ⟨rfl, rfl, rfl, by simp, fun k _ hk => Below.heap_setCell w3 _ _ k (by simpa using fun e => hk (by rw [e]))⟩ (.inr ?_)
    simpa [Value.ownBlock] using hgN
  · simpa [Value.ownBlock] using fun e => hgN e.symm
  · simp; omega
  · simpa [Value.ownBlock] using hgd
  · have hs3 : NStep N v w (.slice (some ⟨g, 0, none⟩) (ps.length + 1) cap) w3 :=
      ⟨hgrow.os.trans hs2.os, hgrow.tape.trans hs2.tape, hgrow.output.trans hs2.output, by have := hs2.size; omega,
        fun k hk h1 h2 => (hgrow.block k (by have := hs2.size; omega) h2).trans ((Below.heap_alloc w2 o k (by have := hs2.size; omega)).trans (hs2.block k hk h1 h2)),
        fun q hq => by
          simp only [Value.ownBlock, Option.some.injEq] at hq
          subst hq
          rcases hat with h | h
          · exact .inl h
          · right; have := hs2.size; omega⟩
    exact hs3.setCell 1 _

set_option maxHeartbeats 2000000 in
theorem send12b (B N : Nat) (v : Value) (last f t : Int) (A : Option Addr) (n c : Nat) (bs : List Int) (ps : List Pk) (w : World) (h : NetW w B N v last ps) (hd : Byts w (Away w N v) A n bs)
    (hl0 : 0 ≤ last) (hl1 : last ≤ 1000000) (hn : n ≤ 1000000) (hp : ps.length ≤ 1000000) (hB : B ≤ w.heap.size) :
    Calls Try.prog 12 #[.pointer (some ⟨N, 0, none⟩), .int .i64 f, .int .i64 t, .slice A n c] w fun e w' => ∃ v' d, e = .returned (.int .i64 (last + 1)) ∧ NetW w' B N v' (last + 1) (ps ++ [⟨last + 1, f, t, some ⟨d, 0, none⟩, n, n⟩]) ∧
      w.heap.size ≤ d ∧ Blk w' d 5 (cellsB bs) ∧ Away w' N v' d ∧ NStep N v w v' w' := by
  obtain ⟨i0, hi, hz0, hz1, hz2⟩ := info_parts info31
  obtain ⟨Ao, co, rfl⟩ := slice_of_own h.row
  have c0 : w.cell? ⟨N, 0, none⟩ = some (.int .i64 last) := h.box.cell 0
  have f0 := h.box.frozen 0
  have hN := h.box.lt
  have h1 := h.setLast (last + 1)
  have s1 := (NStep.refl N (.slice Ao ps.length co) w).setCell 0 (.int .i64 (last + 1))
  have d1 := hd.step s1
  have HH := Lib.hid h1
  have HS := Lib.hid s1
  have HD := Lib.hid d1
  have HV := Lib.hid (fun g (hg : (Value.slice Ao ps.length co).ownBlock = some g) => (h.row.lt g hg).2)
  have HL := Lib.hid hd.1
  clear h1 s1 d1 hd h
  go_enter Try.func12, Try.ntmps12
  go_upto_region 2 with (fail)
  have hsz : (w.setCell ⟨N, 0, none⟩ (.int .i64 (last + 1))).heap.size = w.heap.size := by simp
  generalize w.setCell ⟨N, 0, none⟩ (.int .i64 (last + 1)) = w1 at *
  go_cut [] (fun W => ∃ v' d, NetW W B N v' (last + 1) (ps ++ [⟨last + 1, f, t, some ⟨d, 0, none⟩, n, n⟩]) ∧ w.heap.size ≤ d ∧ Blk W d 5 (cellsB bs) ∧ Away W N v' d ∧ NStep N (.slice Ao ps.length co) w v' W)
  case first =>
    have e0 : w1.cell? ⟨N, 0, none⟩ = some (.int .i64 (last + 1)) := HH.out.box.cell 0
    have e1 : w1.cell? ⟨N, 1, none⟩ = some (.slice Ao ps.length co) := HH.out.box.cell 1
    clear c0 f0
    go_region_law (first
      | (refine step_append_lies _ rfl (.tmp 20) (.tmp 30) 28 rfl B 31 i0 _ 4 48 Try.underlying28 hi hz0 hz1 hz2 rfl (by decide) _ _ _ (by simp [Act.eval]) (HN2.out.row.alloc _) ⟨w2.heap.size, 0, none⟩ 1 1 (Pk.enc ⟨last + 1, f, t, some ⟨d, 0, none⟩, n, n⟩) (by simp [Act.eval]) rfl (news_blk (Blk.new w2 31 #[.int .i64 (last + 1), .int .i64 f, .int .i64 t, .slice (some ⟨d, 0, none⟩) n n]) _ rfl) (by simp [Pk.enc, Value.oneCell']) (by decide) (by unfold maxLen; omega) (by omega) (by simp; omega) _ rfl ?_
         intro g cap w3 hown hgrow hat hlt
         have hb3 := (HN2.out.box.alloc _).grown hgrow HN2.out.ne
         have e3 : w3.cell? ⟨N, 1, none⟩ = some (.slice Ao ps.length co) := hb3.cell 1
         have f3 := hb3.frozen 1
         have HO := Lib.hid hown
         have HG := Lib.hid hgrow
         have HA := Lib.hid hat
         clear hown hgrow hat hb3)
      | (go_simp; go_at_call 26
         refine (copied26 ⟨last + 1, f, t, A, n, c⟩ bs _ (HD.out.lt.drew) (by exact hn)).mono ?_
         rintro e w2 ⟨d, rfl, hd1, hd2, hb2⟩
         have hn2 := HH.out.drew.below hb2
         have hs2 := HS.out.drew.trans (NStep.of_below hb2)
         have e1 : w2.cell? ⟨N, 1, none⟩ = some (.slice Ao ps.length co) := hn2.box.cell 1
         have HN2 := Lib.hid hn2
         have HS2 := Lib.hid hs2
         have HD2 := Lib.hid hd2
         have hzz := hs2.size
         have hNN : N < w2.heap.size := Nat.lt_of_lt_of_le hN hzz
         clear hn2 hs2 hd2 hb2))
    all_goals
      go_wp2_with fail
      go_meet
      exact ⟨_, d, send_finb HN2.out HS2.out hN HV.out HD2.out (by first | exact hd1 | (rw [← hsz]; exact hd1)) HL.out HO.out HG.out HA.out⟩
  case rest =>
    obtain ⟨v', d, hn1, hd1, hd2, hd3, hs2⟩ := hcut
    have g0 : wc.cell? ⟨N, 0, none⟩ = some (.int .i64 (last + 1)) := hn1.box.cell 0
    go_wp2_with fail
    go_ret
    exact ⟨v', d, rfl, hn1, hd1, hd2, hd3, hs2⟩
def Dblb (B N : Nat) (v : Value) (last : Int) (ps : List Pk) (p : Pk) (bs : List Int) (w w' : World) : Prop :=
  ∃ v' d, NetW w' B N v' (last + 1) (ps ++ [⟨last + 1, p.frm, p.dst, some ⟨d, 0, none⟩, p.n, p.n⟩]) ∧ w.heap.size ≤ d ∧ Blk w' d 5 (cellsB bs) ∧ Away w' N v' d ∧ NStep N v w v' w'
set_option maxHeartbeats 2000000 in
theorem closure28b (B N bn k : Nat) (v : Value) (last : Int) (ps : List Pk) (w : World) (h : NetW w B N v last ps) (hn : Blk w bn 24 #[.pointer (some ⟨N, 0, none⟩)]) (p : Pk) (bs : List Int) (hpk : ps[k]? = some p) (hd : Byts w (Away w N v) p.A p.n bs) (hsm : p.n ≤ 1000)
    (hl0 : 0 ≤ last) (hl1 : last ≤ 1000000) (hl : ps.length ≤ 1000000) (hB : B ≤ w.heap.size) :
    Calls Try.prog 28 #[.int .i64 k, .pointer (some ⟨bn, 0, none⟩)] w fun e w' => (∃ r, e = .returned r) ∧ Dblb B N v last ps p bs w w' := by
  have hk : k < ps.length := (List.getElem?_eq_some_iff.1 hpk).1
  obtain ⟨g, cap, rfl, _, hgl⟩ := h.row.form (by omega)
  obtain ⟨b', off', p', hA, _, hpk', e0, e1, e2, e3⟩ := (Sl.of_own h.row rfl).cells hk
  simp only [Option.some.injEq, Addr.mk.injEq, and_true] at hA
  obtain ⟨rfl, rfl⟩ := hA
  obtain rfl : p = p' := by rw [hpk] at hpk'; simpa using hpk'
  simp only [Nat.zero_add] at e0 e1 e2 e3
  have hk0 : 0 ≤ (k : Int) := by omega
  have hk1 : (k : Int) < ps.length := by omega
  have c0 : w.cell? ⟨bn, 0, none⟩ = some (.pointer (some ⟨N, 0, none⟩)) := hn.cell 0
  have c1 : w.cell? ⟨N, 1, none⟩ = some (.slice (some ⟨g, 0, none⟩) ps.length cap) := h.box.cell 1
  have hbn := hn.lt
  have hs1 : ∀ o, NStep N (.slice (some ⟨g, 0, none⟩) ps.length cap) w (.slice (some ⟨g, 0, none⟩) ps.length cap) (w.alloc o) := fun o => (NStep.refl _ _ _).alloc o
  have HS := Lib.hid hs1
  clear hpk hpk' hs1
  go_enter Try.func28, Try.ntmps28
  go_wp2_with fail
  refine (send12b B N _ last p.frm p.dst p.A p.n p.c bs ps _ (h.alloc _) (hd.step (HS.out _)) hl0 hl1 (by omega) hl (by simp; omega)).mono ?_
  rintro e w2 ⟨v', d, rfl, q1, q2, q3, q3', q4⟩
  go_wp2_with fail
  go_end0
  exact ⟨⟨_, rfl⟩, v', d, q1, by simp at q2; omega, q3, q3', (HS.out _).trans q4⟩
set_option maxHeartbeats 2000000 in
theorem with27_28b (B N bn : Nat) (v : Value) (last i : Int) (ps : List Pk) (w : World) (h : NetW w B N v last ps) (hn : Blk w bn 24 #[.pointer (some ⟨N, 0, none⟩)]) (p : Pk) (bs : List Int) (hpk : ps[pos i ps.length]? = some p) (hd : Byts w (Away w N v) p.A p.n bs) (hsm : p.n ≤ 1000)
    (hl0 : 0 ≤ last) (hl1 : last ≤ 1000000) (hl2 : 0 < ps.length) (hl : ps.length ≤ 1000000) (hB : B ≤ w.heap.size) :
    Calls Try.prog 27 #[.pointer (some ⟨N, 0, none⟩), .int .i64 i, .func (.func 28) #[] #[.pointer (some ⟨bn, 0, none⟩)]] w fun e w' => e = .returned (.bool true) ∧ Dblb B N v last ps p bs w w' := by
  obtain ⟨Ao, co, rfl⟩ := slice_of_own h.row
  have c1 : w.cell? ⟨N, 1, none⟩ = some (.slice Ao ps.length co) := h.box.cell 1
  have hz : ((ps.length : Int) == 0) = false := beq_eq_false_iff_ne.2 (by omega)
  obtain ⟨t1, t2⟩ := tmod_pos i hl2
  have HP := Lib.hid hpk
  clear hpk
  go_enter Try.func27, Try.ntmps27
  go_wp2_with fail
  all_goals
    try rw [t1 (by omega)]
    refine (closure28b B N bn _ _ last ps _ h hn p bs HP.out hd hsm hl0 hl1 hl hB).mono ?_
    rintro e w2 ⟨⟨r, rfl⟩, hv⟩
    have HV := Lib.hid hv
    clear hv
    go_wp2_with fail
    go_ret
    exact ⟨rfl, HV.out⟩
set_option maxHeartbeats 2000000 in
theorem double13b (B N : Nat) (v : Value) (last i : Int) (ps : List Pk) (w : World) (h : NetW w B N v last ps) (p : Pk) (bs : List Int) (hpk : ps[pos i ps.length]? = some p) (hd : Byts w (Away w N v) p.A p.n bs) (hsm : p.n ≤ 1000)
    (hl0 : 0 ≤ last) (hl1 : last ≤ 1000000) (hl2 : 0 < ps.length) (hl : ps.length ≤ 1000000) (hB : B ≤ w.heap.size) :
    Calls Try.prog 13 #[.pointer (some ⟨N, 0, none⟩), .int .i64 i] w fun e w' => e = .returned (.bool true) ∧ Dblb B N v last ps p bs w w' := by
  have h' := fun a => h.alloc a
  have hs1 : ∀ o, NStep N v w v (w.alloc o) := fun o => (NStep.refl _ _ _).alloc o
  have HP := Lib.hid hpk
  clear hpk
  go_enter Try.func13, Try.ntmps13
  go_wp2_with fail
  refine (with27_28b B N _ v last i ps _ (h' _) (Blk.new _ _ _) p bs HP.out (hd.step (hs1 _)) hsm hl0 hl1 hl2 hl (by simp; omega)).mono ?_
  rintro e w2 ⟨rfl, v', d, q2, q3, q4, q4', q5⟩
  go_wp2_with fail
  go_ret
  exact ⟨rfl, v', d, q2, by simp at q3; omega, q4, q4', (hs1 _).trans q5⟩
/-- the data of each packet are a block of their own. -/
def Free (w : World) (ps : List Pk) (qs : List Pkt) : Prop := ∀ (i : Nat) (p : Pk) (q : Pkt), ps[i]? = some p → qs[i]? = some q → ∃ d, p.A = some ⟨d, 0, none⟩ ∧ Blk w d 5 (cellsB q.data)
def FreeN (w : World) (B0 : Nat) (u : Value) (ps : List Pk) (qs : List Pkt) : Prop := ∀ (i : Nat) (p : Pk) (q : Pkt), ps[i]? = some p → qs[i]? = some q → ∃ d, p.A = some ⟨d, 0, none⟩ ∧ Blk w d 5 (cellsB q.data) ∧ some d ≠ u.ownBlock
theorem free_step {B0 k d g cap n : Nat} {num frm dst : Int} {wr w2 w3 : World} {v : Value} {ps : List Pk} {qs : List Pkt} {o : Obj} {p : Pkt} (hown : wr.ownsRow B0 31 4 v k (ps.flatMap Pk.enc)) (hl : ps.length = qs.length) (hr : FreeN wr B0 v ps qs) (hB : B0 ≤ wr.heap.size)
    (hb2 : Below wr.heap.size wr w2) (hd : Blk w2 d 5 (p.data.map (Value.int .u8)).toArray) (hd0 : wr.heap.size ≤ d) (hgrow : (w2.alloc o).grownBy w3 v.ownBlock) (hat : v.ownBlock = some g ∨ g = w2.heap.size + 1) :
    FreeN w3 B0 (.slice (some ⟨g, 0, none⟩) (k + 1) cap) (ps ++ [⟨num, frm, dst, some ⟨d, 0, none⟩, n, n⟩]) (qs ++ [p]) := by
  have hz : (w2.alloc o).heap.size = w2.heap.size + 1 := by simp
  have hdl := hd.lt
  have hv := fun g hg => (hown.lt g hg).2
  have hz2 := hb2.size
  have hgd : d ≠ g := by
    rintro rfl
    rcases hat with h | h
    · have := hv _ h; omega
    · omega
  have hdv : some d ≠ v.ownBlock := fun e => by have := hv _ e.symm; omega
  intro i p' q' hp hq
  by_cases hi : i < ps.length
  · rw [List.getElem?_append_left hi] at hp
    rw [List.getElem?_append_left (by rw [← hl]; exact hi)] at hq
    obtain ⟨e, h1, h2, h3⟩ := hr i p' q' hp hq
    have hel := h2.lt
    refine ⟨e, h1, ((h2.below hb2 hel).alloc o).grown hgrow h3, ?_⟩
    simp only [Value.ownBlock, ne_eq, Option.some.injEq]
    rintro rfl
    rcases hat with h | h
    · exact h3 h.symm
    · omega
  · rw [List.getElem?_append_right (by omega)] at hp
    rw [List.getElem?_append_right (by rw [← hl]; omega), ← hl] at hq
    have h0 : i - ps.length = 0 := by have := (List.getElem?_eq_some_iff.1 hp).1; simp at this; omega
    rw [h0] at hp hq
    simp at hp hq
    subst hp hq
    exact ⟨d, rfl, (hd.alloc o).grown hgrow hdv, by simpa [Value.ownBlock] using hgd⟩
set_option maxHeartbeats 2000000 in
theorem pending14b (B N : Nat) (v : Value) (last : Int) (ps : List Pk) (qs : List Pkt) (w : World) (h : NetW w B N v last ps) (hr : Rds w (Away w N v) ps qs) (hp : ps.length ≤ 1000000) :
    Calls Try.prog 14 #[.pointer (some ⟨N, 0, none⟩)] w fun e w' => ∃ A c ps', e = .returned (.slice A qs.length c) ∧ Sl w' (fun b => w.heap.size ≤ b ∧ b < w'.heap.size) A qs.length ps' ∧ Rds w' (fun b => w.heap.size ≤ b ∧ b < w'.heap.size) ps' qs ∧ Free w' ps' qs ∧ Below w.heap.size w w' := by
  obtain ⟨i0, hi, hz0, hz1, hz2⟩ := info_parts info31
  obtain ⟨Ao, co, rfl⟩ := slice_of_own h.row
  have c1 : w.cell? ⟨N, 1, none⟩ = some (.slice Ao ps.length co) := h.box.cell 1
  have hsl := Sl.of_own h.row rfl
  go_enter Try.func14, Try.ntmps14
  go_wp2
  go_loopw [3, 11] (fun u i wr => ∃ (k : Nat) (ps' : List Pk), k ≤ ps.length ∧ i = .int .i64 k ∧ Below w.heap.size w wr ∧ wr.ownsRow w.heap.size 31 4 u k (ps'.flatMap Pk.enc) ∧ ps'.length = k ∧ Rds wr (New w.heap.size wr u) ps' (qs.take k) ∧ FreeN wr w.heap.size u ps' (qs.take k)) (fun _ i _ => ps.length - (intOf i).toNat)
  case atStart => exact ⟨0, [], Nat.zero_le _, rfl, Below.refl _ _, World.ownsRow_nil _ _ _ _, rfl, Rds.nil _ _, fun i p q hp => by simp at hp⟩
  case round =>
    obtain ⟨k, ps', hk, rfl, hb, hown, hl', hr', hfr⟩ := hrel
    by_cases hlt : k < ps.length
    · have hslr := hsl.keep (w' := wr) (ok' := fun b => b < w.heap.size) fun b hb' => ⟨hb'.2.1, hb.block b hb'.2.1⟩
      obtain ⟨b, off, p, rfl, hb2, hpk, a0, a1, a2, a3⟩ := hslr.cells hlt
      obtain ⟨p', q, hp', hq, hrd⟩ := hr.at_ hlt
      obtain rfl : p = p' := by rw [hpk] at hp'; simpa using hp'
      have hrd' := hrd.keep (w' := wr) (ok' := fun b => b < w.heap.size) fun b hb' => ⟨hb'.1, hb.block b hb'.1⟩
      have hts := Lib.hid (take_snoc hq)
      have hk0 : 0 ≤ (k : Int) := by omega
      have hk1 : (k : Int) < ps.length := by omega
      have hsm := hrd.small
      obtain ⟨Av, cv, rfl⟩ := slice_of_own hown
      have hsz := hb.size
      have HR := Lib.hid hr'
      have HFR := Lib.hid hfr
      have HL := Lib.hid hl'
      have HRD := Lib.hid hrd'
      clear hp' hq hpk hslr hrd hr' hl' hrd' hfr
      go_wp2_with fail
      have hda := HRD.out.data.keep (w' := wr.alloc (.cells #[.int .i64 p.num, .int .i64 p.frm, .int .i64 p.dst, .slice p.A p.n p.c] 31)) (ok' := fun b => b < (wr.alloc (.cells #[.int .i64 p.num, .int .i64 p.frm, .int .i64 p.dst, .slice p.A p.n p.c] 31)).heap.size) fun b hb' => ⟨by simp; omega, Below.heap_alloc _ _ _ (by omega)⟩
      refine (copied26 p q.data _ hda (by omega)).mono ?_
      rintro e w2 ⟨d, rfl, hd1, hd2, hb2'⟩
      have hbw2 : Below wr.heap.size wr w2 := ((Below.refl _ _).alloc (Nat.le_refl _) _).trans (hb2'.mono (by simp))
      have hown2 := own_below hown hbw2
      have hsz2 := hbw2.size
      rw [World.size_alloc] at hd1
      clear hda a0 a1 a2 a3 hb2'
      go_wp2_with (at_builtin; refine wpList_append_lies _ rfl (.tmp 15) (.tmp 18) 28 rfl w.heap.size 31 i0 _ 4 48 Try.underlying28 hi hz0 hz1 hz2 rfl (by decide) _ _ _ rfl (hown2.alloc _) ⟨w2.heap.size, 0, none⟩ 1 1 (Pk.enc ⟨p.num, p.frm, p.dst, some ⟨d, 0, none⟩, p.n, p.n⟩) rfl rfl (news_blk (Blk.new w2 31 #[.int .i64 p.num, .int .i64 p.frm, .int .i64 p.dst, .slice (some ⟨d, 0, none⟩) p.n p.n]) _ rfl) (by simp [Pk.enc, Value.oneCell']) (by decide) (by unfold maxLen; omega) (by omega) (by simp; omega) _ rfl ?_)
      intro g cap w3 hown3 hgrow hat hlt3
      have hfrn := free_step (cap := cap) (p := ⟨q.num, q.frm, q.dst, q.data⟩) (num := q.num) (frm := q.frm) (dst := q.dst) (n := p.n) hown (HR.out.1) HFR.out hsz hbw2 hd2 (by omega) hgrow hat
      have HFN := Lib.hid hfrn
      have hfin := pend_step (cap := cap) (p := ⟨q.num, q.frm, q.dst, q.data⟩) hown HR.out hsz hbw2 hd2 (by omega) HRD.out.data.1 hsm hgrow hat
      have hb3 : Below w.heap.size w w3 := ((hb.trans (hbw2.mono hsz)).alloc (by omega) _).grown hgrow (by simp; omega) (fun r hr => (hown.lt r hr).1)
      have HF := Lib.hid hfin
      have HO := Lib.hid hown3
      clear hown2 hgrow hat hfin hfrn hown3 hbw2 hd2
      go_wp2_with fail
      go_roundw
      case rel =>
        refine ⟨k + 1, ps' ++ [⟨q.num, q.frm, q.dst, some ⟨d, 0, none⟩, p.n, p.n⟩], by omega, by go_num, hb3, ?_, by simp [HL.out], ?_, ?_⟩
        · rw [List.flatMap_append, ← HRD.out.num, ← HRD.out.frm, ← HRD.out.dst]; simpa using HO.out
        · rw [hts.out]; exact HF.out
        · rw [hts.out]; exact HFN.out
      case measure => simp [intOf]; omega
    · obtain rfl : k = ps.length := by omega
      have hq : qs.take ps.length = qs := List.take_of_length_le (by rw [hr.1]; exact Nat.le_refl _)
      rw [hq] at hr' hfr
      obtain ⟨Av, cv, rfl⟩ := slice_of_own hown
      go_wp2
      go_ret
      rw [← hr.1]
      exact ⟨Av, cv, ps', rfl, (Sl.of_own hown hl').keep fun b hb' => ⟨⟨hb'.1, hb'.2.1⟩, rfl⟩, hr'.keep fun b hb' => ⟨⟨hb'.1, hb'.2.1⟩, rfl⟩, (fun i p q hp hq => by obtain ⟨d, e1, e2, e3⟩ := hfr i p q hp hq; exact ⟨d, e1, e2⟩), hb⟩
end Go.Proofs.Ytledcmcpinjboaa
