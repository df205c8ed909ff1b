/-
Contracts: New, Send, Len.
-/
import Derived.Test.YtledcmcpinjboaaA
import Derived.Deep.RegionLaw
import Derived.Deep.AppendLies
import Derived.Deep.DeepCutAuto
namespace Go.Proofs.Ytledcmcpinjboaa
open Go.RowKit
set_option linter.unusedVariables false

set_option maxHeartbeats 400000 in
theorem new11 (w : World) : Calls Try.prog 11 #[] w fun e w' => e = .returned (.pointer (some ⟨w.heap.size, 0, none⟩)) ∧ w.alloc (.cells #[.int .i64 0, .slice none 0 0] 58) = w' := by
  go_enter Try.func11, Try.ntmps11
  go_wp2
  go_ret
  exact ⟨rfl, rfl⟩
theorem NetW.new (w : World) (B : Nat) (hB : B ≤ w.heap.size) : NetW (w.alloc (.cells #[.int .i64 0, .slice none 0 0] 58)) B w.heap.size (.slice none 0 0) 0 [] :=
  ⟨Blk.new _ _ _, World.ownsRow_nil _ _ _ _, by simp [Value.ownBlock], hB⟩

set_option maxHeartbeats 400000 in
theorem len19 (B N : Nat) (v : Value) (last : Int) (ps : List Pk) (w : World) (h : NetW w B N v last ps) :
    Calls Try.prog 19 #[.pointer (some ⟨N, 0, none⟩)] w fun e w' => e = .returned (.int .i64 ps.length) ∧ w = w' := by
  obtain ⟨Ao, co, rfl⟩ := slice_of_own h.row
  have c1 : w.cell? ⟨N, 1, none⟩ = some (.slice Ao ps.length co) := h.box.cell 1
  go_enter Try.func19, Try.ntmps19
  go_wp2
  go_ret
  exact ⟨rfl, rfl⟩

/-- one field of the network is stored. -/
theorem NetW.setLast {w : World} {B N : Nat} {v : Value} {last : Int} {ps : List Pk} (h : NetW w B N v last ps) (x : Int) : NetW (w.setCell ⟨N, 0, none⟩ (.int .i64 x)) B N v x ps :=
  ⟨by have := h.box.set 0 (.int .i64 x); simpa using this, h.row.kept (row := some N) ⟨rfl, rfl, rfl, by simp, fun k _ hk => Below.heap_setCell w _ _ k (by simpa using fun e => hk (by rw [e]))⟩ (by
    cases hv : v.ownBlock with
    | none => exact .inl rfl
    | some g => right; intro e; exact h.ne (by rw [hv, e])), h.ne, h.le⟩
theorem NStep.setCell {N : Nat} {v v' : Value} {w w' : World} (h : NStep N v w v' w') (i : Nat) (u : Value) : NStep N v w v' (w'.setCell ⟨N, i, none⟩ u) :=
  ⟨h.os, h.tape, h.output, by simpa using h.size, fun k hk h1 h2 => (Below.heap_setCell w' _ _ k h1).trans (h.block k hk h1 h2), h.lies⟩
theorem NStep.drew {N : Nat} {v v' : Value} {w w' : World} (h : NStep N v w v' w') : NStep N v w v' w'.drew := ⟨h.os, h.tape, h.output, h.size, h.block, h.lies⟩
theorem NetW.drew {w : World} {B N : Nat} {v : Value} {last : Int} {ps : List Pk} (h : NetW w B N v last ps) : NetW w.drew B N v last ps := ⟨h.box, h.row.kept (row := none) ⟨rfl, rfl, rfl, Nat.le_refl _, fun _ _ _ => rfl⟩ (by cases v.ownBlock <;> simp), h.ne, h.le⟩
theorem NetW.alloc {w : World} {B N : Nat} {v : Value} {last : Int} {ps : List Pk} (h : NetW w B N v last ps) (o : Obj) : NetW (w.alloc o) B N v last ps := h.below ((Below.refl _ _).alloc (Nat.le_refl _) _)

theorem add0 (g j : Nat) : ((⟨g, 0, none⟩ : Addr).add j) = ⟨g, j, none⟩ := by unfold Addr.add; split <;> simp_all
theorem news_blk {w : World} {g : Nat} {t : TypeId} {cs : Array Value} (h : Blk w g t cs) (news : List Value) (he : cs = news.toArray) : ∀ j u, news[j]? = some u → w.cell? ((⟨g, 0, none⟩ : Addr).add j) = some u := by
  intro j u hu
  rw [add0, h.cell j, he]; simpa using hu
theorem Byts.of_blk {w : World} {ok : Nat → Prop} {d : Nat} {bs : List Int} (h : Blk w d 5 (bs.map (Value.int .u8)).toArray) (hk : ok d) {n : Nat} (hn : bs.length = n) : Byts w ok (some ⟨d, 0, none⟩) n bs :=
  ⟨hn, fun _ => ⟨d, 0, rfl, hk, fun j v hv => by rw [h.cell]; simp [hv]⟩⟩
theorem send_fin {B N d g cap n : Nat} {v : Value} {last f t : Int} {ps : List Pk} {bs : List Int} {w w2 w3 : World} {o : Obj} (hn2 : NetW w2 B N v last ps) (hs2 : NStep N v w v w2) (hN : N < w.heap.size) (hv : ∀ g, v.ownBlock = some g → g < w.heap.size)
    (hd : Blk w2 d 5 (bs.map (Value.int .u8)).toArray) (hd0 : w.heap.size ≤ d) (hb : bs.length = n) (hown : w3.ownsRow B 31 4 (.slice (some ⟨g, 0, none⟩) (ps.length + 1) cap) (ps.length + 1) (ps.flatMap Pk.enc ++ Pk.enc ⟨last, f, t, some ⟨d, 0, none⟩, n, n⟩))
    (hgrow : (w2.alloc o).grownBy w3 v.ownBlock) (hat : v.ownBlock = some g ∨ g = (w2.alloc o).heap.size) :
    NetW (w3.setCell ⟨N, 1, none⟩ (.slice (some ⟨g, 0, none⟩) (ps.length + 1) cap)) B N (.slice (some ⟨g, 0, none⟩) (ps.length + 1) cap) last (ps ++ [⟨last, f, t, some ⟨d, 0, none⟩, n, n⟩]) ∧ w.heap.size ≤ d ∧
      Byts (w3.setCell ⟨N, 1, none⟩ (.slice (some ⟨g, 0, none⟩) (ps.length + 1) cap)) (Away (w3.setCell ⟨N, 1, none⟩ (.slice (some ⟨g, 0, none⟩) (ps.length + 1) cap)) N (.slice (some ⟨g, 0, none⟩) (ps.length + 1) cap)) (some ⟨d, 0, none⟩) n bs ∧
      NStep N v w (.slice (some ⟨g, 0, none⟩) (ps.length + 1) cap) (w3.setCell ⟨N, 1, none⟩ (.slice (some ⟨g, 0, none⟩) (ps.length + 1) cap)) := by
  have hz : (w2.alloc o).heap.size = w2.heap.size + 1 := by simp
  have hdl := hd.lt
  have hgN : g ≠ N := by
    rintro rfl
    rcases hat with h | h
    · exact hn2.ne h.symm
    · have := hs2.size; omega
  have hgd : d ≠ g := by
    rintro rfl
    rcases hat with h | h
    · have := hv _ h; omega
    · omega
  have hdv : some d ≠ v.ownBlock := fun e => by have := hv _ e.symm; omega
  have box3 : Blk w3 N 58 #[.int .i64 last, v] := (hn2.box.alloc o).grown hgrow hn2.ne
  have d3 : Blk w3 d 5 (bs.map (Value.int .u8)).toArray := (hd.alloc o).grown hgrow hdv
  have hsz3 := hgrow.size
  refine ⟨⟨?_, ?_, ?_, hn2.le⟩, hd0, ?_, ?_⟩
  · have := box3.set 1 (.slice (some ⟨g, 0, none⟩) (ps.length + 1) cap); simpa using this
  · have h1 : (ps ++ [(⟨last, f, t, some ⟨d, 0, none⟩, n, n⟩ : Pk)]).length = ps.length + 1 := by simp
    rw [h1, List.flatMap_append, List.flatMap_cons, List.flatMap_nil, List.append_nil]
    refine hown.kept (row := some N) ⟨rfl, rfl, rfl, by simp, fun k _ hk => Below.heap_setCell w3 _ _ k (by simpa using fun e => hk (by rw [e]))⟩ (.inr ?_)
    simpa [Value.ownBlock] using hgN
  · simpa [Value.ownBlock] using fun e => hgN e.symm
  · refine Byts.of_blk (d3.other _ _ (by simp; omega)) ⟨?_, by omega, ?_⟩ hb
    · simp; omega
    · simpa [Value.ownBlock] using hgd
  · have hs3 : NStep N v w (.slice (some ⟨g, 0, none⟩) (ps.length + 1) cap) w3 :=
      ⟨hgrow.os.trans hs2.os, hgrow.tape.trans hs2.tape, hgrow.output.trans hs2.output, by have := hs2.size; omega,
        fun k hk h1 h2 => (hgrow.block k (by have := hs2.size; omega) h2).trans ((Below.heap_alloc w2 o k (by have := hs2.size; omega)).trans (hs2.block k hk h1 h2)),
        fun q hq => by
          simp only [Value.ownBlock, Option.some.injEq] at hq
          subst hq
          rcases hat with h | h
          · exact .inl h
          · right; have := hs2.size; omega⟩
    exact hs3.setCell 1 _

set_option maxHeartbeats 2000000 in
theorem send12 (B N : Nat) (v : Value) (last f t : Int) (A : Option Addr) (n c : Nat) (bs : List Int) (ps : List Pk) (w : World) (h : NetW w B N v last ps) (hd : Byts w (Away w N v) A n bs)
    (hl0 : 0 ≤ last) (hl1 : last ≤ 1000000) (hn : n ≤ 1000000) (hp : ps.length ≤ 1000000) (hB : B ≤ w.heap.size) :
    Calls Try.prog 12 #[.pointer (some ⟨N, 0, none⟩), .int .i64 f, .int .i64 t, .slice A n c] w fun e w' => ∃ v' d, e = .returned (.int .i64 (last + 1)) ∧ NetW w' B N v' (last + 1) (ps ++ [⟨last + 1, f, t, some ⟨d, 0, none⟩, n, n⟩]) ∧
      w.heap.size ≤ d ∧ Byts w' (Away w' N v') (some ⟨d, 0, none⟩) n bs ∧ NStep N v w v' w' := by
  obtain ⟨i0, hi, hz0, hz1, hz2⟩ := info_parts info31
  obtain ⟨Ao, co, rfl⟩ := slice_of_own h.row
  have c0 : w.cell? ⟨N, 0, none⟩ = some (.int .i64 last) := h.box.cell 0
  have f0 := h.box.frozen 0
  have hN := h.box.lt
  have h1 := h.setLast (last + 1)
  have s1 := (NStep.refl N (.slice Ao ps.length co) w).setCell 0 (.int .i64 (last + 1))
  have d1 := hd.step s1
  have HH := Lib.hid h1
  have HS := Lib.hid s1
  have HD := Lib.hid d1
  have HV := Lib.hid (fun g (hg : (Value.slice Ao ps.length co).ownBlock = some g) => (h.row.lt g hg).2)
  have HL := Lib.hid hd.1
  clear h1 s1 d1 hd h
  go_enter Try.func12, Try.ntmps12
  go_upto_region 2 with (fail)
  have hsz : (w.setCell ⟨N, 0, none⟩ (.int .i64 (last + 1))).heap.size = w.heap.size := by simp
  generalize w.setCell ⟨N, 0, none⟩ (.int .i64 (last + 1)) = w1 at *
  go_cut [] (fun W => ∃ v' d, NetW W B N v' (last + 1) (ps ++ [⟨last + 1, f, t, some ⟨d, 0, none⟩, n, n⟩]) ∧ w.heap.size ≤ d ∧ Byts W (Away W N v') (some ⟨d, 0, none⟩) n bs ∧ NStep N (.slice Ao ps.length co) w v' W)
  case first =>
    have e0 : w1.cell? ⟨N, 0, none⟩ = some (.int .i64 (last + 1)) := HH.out.box.cell 0
    have e1 : w1.cell? ⟨N, 1, none⟩ = some (.slice Ao ps.length co) := HH.out.box.cell 1
    clear c0 f0
    go_region_law (first
      | (refine step_append_lies _ rfl (.tmp 20) (.tmp 30) 28 rfl B 31 i0 _ 4 48 Try.underlying28 hi hz0 hz1 hz2 rfl (by decide) _ _ _ (by simp [Act.eval]) (HN2.out.row.alloc _) ⟨w2.heap.size, 0, none⟩ 1 1 (Pk.enc ⟨last + 1, f, t, some ⟨d, 0, none⟩, n, n⟩) (by simp [Act.eval]) rfl (news_blk (Blk.new w2 31 #[.int .i64 (last + 1), .int .i64 f, .int .i64 t, .slice (some ⟨d, 0, none⟩) n n]) _ rfl) (by simp [Pk.enc, Value.oneCell']) (by decide) (by unfold maxLen; omega) (by omega) (by simp; omega) _ rfl ?_
         intro g cap w3 hown hgrow hat hlt
         have hb3 := (HN2.out.box.alloc _).grown hgrow HN2.out.ne
         have e3 : w3.cell? ⟨N, 1, none⟩ = some (.slice Ao ps.length co) := hb3.cell 1
         have f3 := hb3.frozen 1
         have HO := Lib.hid hown
         have HG := Lib.hid hgrow
         have HA := Lib.hid hat
         clear hown hgrow hat hb3)
      | (go_simp; go_at_call 26
         refine (copied26 ⟨last + 1, f, t, A, n, c⟩ bs _ (HD.out.lt.drew) (by exact hn)).mono ?_
         rintro e w2 ⟨d, rfl, hd1, hd2, hb2⟩
         have hn2 := HH.out.drew.below hb2
         have hs2 := HS.out.drew.trans (NStep.of_below hb2)
         have e1 : w2.cell? ⟨N, 1, none⟩ = some (.slice Ao ps.length co) := hn2.box.cell 1
         have HN2 := Lib.hid hn2
         have HS2 := Lib.hid hs2
         have HD2 := Lib.hid hd2
         have hzz := hs2.size
         have hNN : N < w2.heap.size := Nat.lt_of_lt_of_le hN hzz
         clear hn2 hs2 hd2 hb2))
    all_goals
      go_wp2_with fail
      go_meet
      exact ⟨_, d, send_fin HN2.out HS2.out hN HV.out HD2.out (by first | exact hd1 | (rw [← hsz]; exact hd1)) HL.out HO.out HG.out HA.out⟩
  case rest =>
    obtain ⟨v', d, hn1, hd1, hd2, hs2⟩ := hcut
    have g0 : wc.cell? ⟨N, 0, none⟩ = some (.int .i64 (last + 1)) := hn1.box.cell 0
    go_wp2_with fail
    go_ret
    exact ⟨v', d, rfl, hn1, hd1, hd2, hs2⟩
end Go.Proofs.Ytledcmcpinjboaa
