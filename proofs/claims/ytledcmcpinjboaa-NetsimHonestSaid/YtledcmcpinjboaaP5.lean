/-
NetsimHonest returns true for every input, and the input reads as it did.
-/
import Derived.Test.YtledcmcpinjboaaM2
import Derived.Test.YtledcmcpinjboaaOpenX
import Derived.WalkKit
import Derived.ProofKit
import Derived.OpenShut
import Derived.ShutString
import Derived.ChangeOld
import Derived.Below
import Derived.Lib.Hide
import Derived.Deep.RegionHeld3
import Derived.Deep.DeepCutAuto
import Derived.Deep.RegionWith
import Derived.Deep.MidRow
import Derived.Deep.WholeRow
namespace Go.Proofs.Ytledcmcpinjboaa
open Go.ChangeShapes Go.WideShapes Go.ChangeAt Go.RowKit
set_option linter.unusedVariables false

theorem known_at {n : Nat} {s : AR} (h : Inv n s) {q : Pkt} {k : Nat} (hq : (s.got ++ s.pend)[k]? = some q) : Known s q := by
  have hm := List.mem_of_getElem? hq
  rcases List.mem_append.1 hm with h1 | h1
  · exact h.kg q h1
  · exact h.kp q h1
theorem dis_at {n : Nat} {s : AR} (h : Inv n s) {a b : Pkt} {i k : Nat} (hik : i < k) (ha : (s.got ++ s.pend)[i]? = some a) (hb : (s.got ++ s.pend)[k]? = some b) : a.num ≠ b.num := by
  have h1 := h.dis
  rw [List.pairwise_iff_getElem] at h1
  obtain ⟨ha', rfl⟩ := List.getElem?_eq_some_iff.1 ha
  obtain ⟨hb', rfl⟩ := List.getElem?_eq_some_iff.1 hb
  exact h1 i k ha' hb' hik
def seenKv (l : List Pkt) : List (Int × Value) := l.map fun q => (q.num, .bool true)
theorem IMap.grown {w w' : World} {m : Nat} {kvs : List (Int × Value)} {row : Option Nat} (h : IMap w m kvs) (hg : w.grownBy w' row) (hm : some m ≠ row) : IMap w' m kvs := (hg.block m h.lt hm).trans h
theorem IMap.alloc {w : World} {m : Nat} {kvs : List (Int × Value)} (h : IMap w m kvs) (o : Obj) : IMap (w.alloc o) m kvs := (Below.heap_alloc w o m h.lt).trans h

set_option maxRecDepth 100000 in
set_option maxHeartbeats 8000000 in
theorem walk5_few (A : Option Addr) (n cp : Nat) (os : List Op5) (ds : List (List Int)) (w : World) (he : OpSl w w.heap.size A n os ds) (hn : n ≤ maxLen) (hf : (os.all short && decide (n ≤ 30)) = true) :
    Calls Try.prog 5 #[.slice A n cp] w fun v w' => v = .returned (.bool true) ∧ Below w.heap.size w w' := by
  unfold maxLen at hn
  have HF := Lib.hid hf
  rw [Bool.and_eq_true, List.all_eq_true] at hf
  have hsm : ∀ o ∈ os, o.n ≤ 60 := fun o ho => by simpa [short] using hf.1 o ho
  have hn30 : n ≤ 30 := by simpa using hf.2
  have HSM := Lib.hid hsm
  clear hf hsm
  have hmm := @run_makeMap Try.prog
  go_enter Try.func5, Try.ntmps5
  go_wp2_with fail
  refine (awake10 _).mono ?_
  rintro v w1 ⟨rfl, hb1⟩
  go_wp2_with fail
  refine (few17 w.heap.size A n cp os ds _ (he.keep fun b hb => hb1.block b hb) hn).mono ?_
  rintro v w1' ⟨rfl, rfl⟩
  rw [HF.out]
  go_wp2_with fail
  refine (run21 A n cp os ds _ (opsl_more (he.keep fun b hb => hb1.block b hb) hb1.size) HSM.out hn30).mono ?_
  rintro e w2 ⟨vw2, uw2, psw2, esw2, gsw2, rfl, stw2, bw2⟩
  have hinv := inv_run (os.zip ds)
  have hzl := zip_le he
  generalize aRun (os.zip ds) = s at *
  have hlp : s.pend.length ≤ 30 := by have := hinv.lp; omega
  have hlg : s.got.length ≤ 30 := by have := hinv.lg; omega
  have hpl : psw2.length ≤ 30 := by have := stw2.dp.1; omega
  have hgl30 : gsw2.length ≤ 30 := by have := stw2.dg.1; omega
  have HGL := Lib.hid (show gsw2.length = s.got.length from stw2.dg.1)
  have hb2 := hb1.trans (bw2.mono hb1.size)
  have HINV := Lib.hid hinv
  have st3 := stw2.alloc (.map #[] 0)
  have im3 : IMap (w2.alloc (.map #[] 0)) w2.heap.size (seenKv []) := heap_alloc_new w2 _
  have hb3 := hb2.alloc hb2.size (.map #[] 0)
  have h12 : w1.heap.size ≤ w2.heap.size := bw2.size
  have hNw2 := stw2.net.box.lt
  have hmw2 := stw2.map.lt
  have hown2 := fun g hg => (stw2.row.lt g hg).2
  have hownv := fun g hg => (stw2.net.row.lt g hg).2
  have kS : ∀ b, Ok w2 w1.heap.size (w1.heap.size + 1) vw2 uw2 b → b < w2.heap.size := fun b hb' => hb'.1.1
  obtain ⟨Au, cu, rfl⟩ := slice_of_own stw2.row
  go_wp2_with fail
  clear hmm
  refine (pending14 _ _ _ _ psw2 s.pend _ st3.net (st3.dp.imp fun b hb' => hb'.1) (by omega)).mono ?_
  rintro e w4 ⟨A4, c4, p4, rfl, sl4, rd4, b4⟩
  have st4 := st3.below b4
  have im4 : IMap w4 w2.heap.size (seenKv []) := (b4.block _ (by simp)).trans im3
  have hb4 := hb3.trans (b4.mono hb3.size)
  have hz4 := b4.size
  rw [World.size_alloc] at hz4 sl4 rd4
  clear st3 im3 hb3
  go_wp2_with (at_builtin; refine wpList_append_src rfl (.tmp 26) (.tmp 28) rfl w1.heap.size _ _ _ rfl st4.row A4 _ c4 p4 rfl sl4 (by omega) (by omega) (by omega) ?_)
  intro v5 w5 hown5 hg5 hat5
  have hz5 := hg5.size
  have hb5 := hb4.grown hg5 hb4.size (fun r hr => by have := (st4.row.lt r hr).1; have := hb1.size; omega)
  -- what is kept behind the append
  have hk5 : ∀ b, b < w4.heap.size → some b ≠ (Value.slice Au gsw2.length cu).ownBlock → w5.heap[b]? = w4.heap[b]? := fun b h1 h2 => hg5.block b h1 h2
  have hn5 : ∀ g, v5.ownBlock = some g → g ≠ w2.heap.size ∧ g < w5.heap.size := fun g hg => by
    refine ⟨?_, (hown5.lt g hg).2⟩
    rcases hat5 with h | h
    · rw [h] at hg; have := hown2 g hg; omega
    · rw [h] at hg; simp at hg; omega
  have im5 : IMap w5 w2.heap.size (seenKv []) := (hk5 _ (by omega) (fun e => by have := hown2 _ e.symm; omega)).trans im4
  have im5s : IMap w5 (w1.heap.size + 1) (esw2.map kv) := (hk5 _ st4.map.lt st4.mu).trans st4.map
  have ku2 : ∀ b, b < w2.heap.size ∧ some b ≠ (Value.slice Au gsw2.length cu).ownBlock → (b ≠ w2.heap.size ∧ b < w5.heap.size) ∧ w5.heap[b]? = w2.heap[b]? := fun b hb' => ⟨⟨by omega, by omega⟩, (hk5 b (by omega) hb'.2).trans ((b4.block b (by simp; omega)).trans (Below.heap_alloc _ _ _ hb'.1))⟩
  have rg5 := (stw2.dg.imp (ok' := fun b => b < w2.heap.size ∧ some b ≠ (Value.slice Au gsw2.length cu).ownBlock) fun b hb' => ⟨hb'.1.1, hb'.2.2⟩).keep ku2
  have rs5 := (stw2.ds.imp (ok' := fun b => b < w2.heap.size ∧ some b ≠ (Value.slice Au gsw2.length cu).ownBlock) fun b hb' => ⟨hb'.1.1, hb'.2.2⟩).keep ku2
  have rp5 := rd4.keep (w' := w5) (ok' := fun b => b ≠ w2.heap.size ∧ b < w5.heap.size) fun b hb' => ⟨⟨by omega, by omega⟩, hk5 b hb'.2 (fun e => by have := hown2 b e.symm; omega)⟩
  have rl5 := Rds.append rg5 rp5
  rw [← List.flatMap_append] at hown5
  obtain ⟨A5, c5, rfl⟩ := slice_of_own hown5
  have sl5 := (Sl.of_own hown5 (by rw [List.length_append, sl4.1])).keep (w' := w5) (ok' := fun b => b ≠ w2.heap.size ∧ b < w5.heap.size) fun b hb' => ⟨⟨(hn5 b hb'.2.2).1, hb'.2.1⟩, rfl⟩
  have hlen5 : gsw2.length + s.pend.length = (s.got ++ s.pend).length := by rw [List.length_append, HGL.out]
  have hq60 : (s.got ++ s.pend).length ≤ 60 := by rw [List.length_append]; omega
  rw [hlen5] at sl5 ⊢
  have HSL := Lib.hid sl5
  have HRL := Lib.hid rl5
  have HRS := Lib.hid rs5
  have HIS := Lib.hid im5s
  have HIM := Lib.hid im5
  have hM5 : w2.heap.size < w5.heap.size := by omega
  clear hown5 hg5 hat5 hk5 hn5 ku2 rg5 rs5 rp5 rl5 sl5 im5 im5s im4 st4 stw2 sl4 rd4 b4 bw2 hb2 hb4 hown2 hownv kS he HF HSM hinv hzl hlen5
  generalize hqs : s.got ++ s.pend = qs at *
  have HQS := Lib.hid hqs
  clear hqs
  go_wp2_with fail
  go_loopw [31] (fun i wr => ∃ k : Nat, k ≤ qs.length ∧ i = .int .i64 k ∧ w5.grownBy wr (some w2.heap.size) ∧ IMap wr w2.heap.size (seenKv (qs.take k))) (fun i _ => qs.length - (intOf i).toNat)
  case atStart => exact ⟨0, Nat.zero_le _, rfl, World.grownBy.refl _ _, HIM.out⟩
  case round =>
    obtain ⟨k, hk, rfl, hgr, himr⟩ := hrel
    by_cases hlt : k < qs.length
    · have hkr : ∀ b, b ≠ w2.heap.size ∧ b < w5.heap.size → (b ≠ w2.heap.size ∧ b < wr.heap.size) ∧ wr.heap[b]? = w5.heap[b]? := fun b hb' => ⟨⟨hb'.1, Nat.lt_of_lt_of_le hb'.2 hgr.size⟩, hgr.block b hb'.2 (by simpa using hb'.1)⟩
      obtain ⟨b, off, p, rfl, hbb, hp, c0, c1, c2, c3⟩ := (HSL.out.keep hkr).cells hlt
      have rlr := HRL.out.keep hkr
      obtain ⟨p', q, g1, g2, g3⟩ := rlr.at_ (i := k) (by rw [rlr.1]; exact hlt)
      obtain rfl : p = p' := by rw [hp] at g1; simpa using g1
      have hknown := known_at HINV.out (k := k) (q := q) (by rw [HQS.out]; exact g2)
      obtain ⟨i, hi1, hi2⟩ := hknown
      have rsr := HRS.out.keep hkr
      obtain ⟨pe, q', f1, f2, f3⟩ := rsr.at_ (i := i) (by rw [rsr.1]; exact (List.getElem?_eq_some_iff.1 hi1).1)
      obtain rfl : q = q' := by rw [hi1] at f2; simpa using f2
      have hnum : p.num = q.num := g3.num
      have hpe : pe.num = p.num := by rw [f3.num, hnum]
      have hisr : IMap wr (w1.heap.size + 1) (esw2.map kv) := HIS.out.grown hgr (by simp; omega)
      have hkey1 : (esw2.map kv)[i]? = some (p.num, .agg #[.int .i64 pe.num, .int .i64 pe.frm, .int .i64 pe.dst, .slice pe.A pe.n pe.c]) := by rw [List.getElem?_map, f1]; simp [kv, hpe]
      have hkey2 : ∀ (t : Nat) (o : Int × Value), t < i → (esw2.map kv)[t]? = some o → o.1 ≠ p.num := fun t o ht ho => by
        rw [List.getElem?_map] at ho
        obtain ⟨x, hx, rfl⟩ := Option.map_eq_some_iff.1 ho
        obtain ⟨x', y, j1, j2, j3⟩ := rsr.at_ (i := t) (List.getElem?_eq_some_iff.1 hx).1
        obtain rfl : x = x' := by rw [hx] at j1; simpa using j1
        have := HINV.out.nums t y j2
        show x.num ≠ p.num
        rw [j3.num, hnum]; omega
      have hkey3 : ∀ o ∈ seenKv (qs.take k), o.1 ≠ p.num := fun o ho => by
        obtain ⟨x, hx, rfl⟩ := List.mem_map.1 ho
        obtain ⟨t, ht⟩ := List.getElem?_of_mem hx
        have htk : t < k := by have := (List.getElem?_eq_some_iff.1 ht).1; rw [List.length_take] at this; omega
        rw [List.getElem?_take, if_pos htk] at ht
        show x.num ≠ p.num
        rw [hnum]
        exact dis_at HINV.out htk (by rw [HQS.out]; exact ht) (by rw [HQS.out]; exact g2)
      have hlk : ∀ o', (Instr.lookup 46 (.map (some (w1.heap.size + 1))) (.int .i64 p.num) true).run Try.prog (wr.alloc o') = .ok (.tuple #[.agg #[.int .i64 pe.num, .int .i64 pe.frm, .int .i64 pe.dst, .slice pe.A pe.n pe.c], .bool true]) (wr.alloc o') := fun o' => lookup_ok und46 (hisr.alloc o') p.num _ i hkey1 hkey2
      have hls : ∀ o' o'', (Instr.lookup 49 (.map (some w2.heap.size)) (.int .i64 p.num) false).run Try.prog ((wr.alloc o').alloc o'') = .ok (.bool false) ((wr.alloc o').alloc o'') := fun o' o'' => lookup_none und49 zero4 ((himr.alloc o').alloc o'') p.num hkey3
      have hts := take_snoc g2
      have kab : ∀ b, b ≠ w2.heap.size ∧ b < wr.heap.size → (b < ((wr.alloc (.cells #[.int .i64 p.num, .int .i64 p.frm, .int .i64 p.dst, .slice p.A p.n p.c] 31)).alloc (.cells #[.int .i64 pe.num, .int .i64 pe.frm, .int .i64 pe.dst, .slice pe.A pe.n pe.c] 31)).heap.size) ∧ ((wr.alloc (.cells #[.int .i64 p.num, .int .i64 p.frm, .int .i64 p.dst, .slice p.A p.n p.c] 31)).alloc (.cells #[.int .i64 pe.num, .int .i64 pe.frm, .int .i64 pe.dst, .slice pe.A pe.n pe.c] 31)).heap[b]? = wr.heap[b]? := fun b hb' => ⟨by simp; omega, (Below.heap_alloc _ _ _ (by simp; omega)).trans (Below.heap_alloc _ _ _ hb'.2)⟩
      have ga := g3.keep kab
      have fa := f3.keep kab
      have hk0 : 0 ≤ (k : Int) := by omega
      have hk1 : (k : Int) < qs.length := by omega
      have HGA := Lib.hid ga
      have HFA := Lib.hid fa
      have HTS := Lib.hid hts
      have HK3 := Lib.hid hkey3
      have HPN := Lib.hid hnum
      have HIR := Lib.hid himr
      have hMr : w2.heap.size < wr.heap.size := himr.lt
      clear hp g1 g2 g3 f1 f2 f3 hi1 hi2 rlr rsr hkr hkey1 hkey2 hkey3 ga fa hts kab hpe hnum himr hisr
      go_wp2_with fail
      refine (samePacket22 _ _ p pe q _ HGA.out HFA.out (fun b hb' => hb') (fun b hb' => hb')).mono ?_
      rintro e w6 ⟨rfl, b6⟩
      have him6 : IMap w6 w2.heap.size (seenKv (qs.take k)) := (b6.block _ (by simp; omega)).trans ((HIR.out.alloc _).alloc _)
      obtain ⟨w7, hup, hm7, hg7⟩ := update_new und49 him6 p.num (.bool true) HK3.out
      have bx6 : Blk w6 wr.heap.size 31 #[.int .i64 p.num, .int .i64 p.frm, .int .i64 p.dst, .slice p.A p.n p.c] := ((Blk.new wr 31 _).alloc _).below b6 (by simp; omega)
      have x0 : w6.cell? ⟨wr.heap.size, 0, none⟩ = some (.int .i64 p.num) := bx6.cell 0
      have hg67 : w5.grownBy w7 (some w2.heap.size) := (((hgr.trans (World.grownBy_alloc _ _ _)).trans (World.grownBy_alloc _ _ _)).trans ⟨b6.os, b6.tape, b6.output, b6.size, fun k hk _ => b6.block k hk⟩).trans hg7
      have HM7 := Lib.hid hm7
      clear hlk hls him6 hm7 hg7 bx6 b6 hgr
      go_wp2_with fail
      go_roundw
      case rel => exact ⟨k + 1, by omega, by go_num, hg67, by rw [HTS.out]; unfold seenKv; rw [List.map_append]; simpa [HPN.out, seenKv] using HM7.out⟩
      case measure => simp [intOf]; omega
    · go_wp2_with fail
      go_ret
      exact ⟨rfl, hb5.grown hgr hb5.size (fun r hr => by cases hr; have := hb1.size; omega)⟩

set_option maxHeartbeats 1000000 in
theorem walk5_many (A : Option Addr) (n cp : Nat) (os : List Op5) (ds : List (List Int)) (w : World) (he : OpSl w w.heap.size A n os ds) (hn : n ≤ maxLen) (hf : (os.all short && decide (n ≤ 30)) = false) :
    Calls Try.prog 5 #[.slice A n cp] w fun v w' => v = .returned (.bool true) ∧ Below w.heap.size w w' := by
  unfold maxLen at hn
  go_enter Try.func5, Try.ntmps5
  go_wp2_with fail
  refine (awake10 _).mono ?_
  rintro v w1 ⟨rfl, hb1⟩
  go_wp2_with fail
  refine (few17 w.heap.size A n cp os ds _ (he.keep fun b hb => hb1.block b hb) hn).mono ?_
  rintro v w1' ⟨rfl, rfl⟩
  rw [hf]
  go_wp2_with fail
  refine (awake10 _).mono ?_
  rintro v w2 ⟨rfl, hb2⟩
  go_wp2_with fail
  go_ret
  exact ⟨rfl, hb1.trans (hb2.mono hb1.size)⟩
theorem walk5 (A : Option Addr) (n cp : Nat) (os : List Op5) (ds : List (List Int)) (w : World) (he : OpSl w w.heap.size A n os ds) (hn : n ≤ maxLen) :
    Calls Try.prog 5 #[.slice A n cp] w fun v w' => v = .returned (.bool true) ∧ Below w.heap.size w w' := by
  by_cases hf : (os.all short && decide (n ≤ 30)) = true
  · exact walk5_few A n cp os ds w he hn hf
  · exact walk5_many A n cp os ds w he hn (by rw [← Bool.not_eq_true]; exact hf)
set_option maxRecDepth 100000 in
theorem lifted5 (os : Os) (started : os.Started) (H : Type) (enc : TypeId × Value → H) :
    ReturnsInHanded {} Try.checked os 5 .any (Rows.netsimHonestSpec.pre6 enc Try.prog Try.f5 Rows.netsimHonestRow.domain false) (Rows.netsimHonestSpec.post enc Try.prog Try.f5 false true false false) := by
  refine returnsInHanded_of_change (C := Try.checked) own_ started (by kernel_rfl) Try.func5
    (ChangeSpec.witness6 (enc := enc) (C := Try.checked) false ⟨#[], #[.slice none 0 0], []⟩ 8 (by kernel_rfl) (by kernel_rfl) (by kernel_rfl) (by kernel_rfl)) ?_
  intro W base args ds gs before hval0 hW hcnd _
  have hval : ∀ (j : Nat) t v, Try.f5.params[j]? = some t → args[j]? = some v → Value.okWide Try.prog W .any base t v := hval0
  have hW' := hW
  obtain ⟨p, q, hA0, hV, rfl, hfz, hnd⟩ := hW
  have hA : DataW.TrodAll enc Try.prog W 0 (fun _ => true) true Try.f5.params.toList args.toList ds p := hA0
  rw [Try.params5] at hA hval
  obtain ⟨v0, vs0, d0, ds0, p0, q0, hargs, rfl, rfl, h0, r0⟩ := trodAll_cons hA
  obtain ⟨rfl, rfl, rfl⟩ := trodAll_nil r0
  obtain rfl : args = #[v0] := by cases args; simp_all
  obtain ⟨rfl, rfl⟩ := trodVars_none hV
  have k0 := h0
  have lt0 : ∀ x ∈ p0, x.block < W.heap.size := by obtain ⟨m, hm⟩ := k0; exact DataW.trod_lt m _ _ _ hm
  obtain ⟨A0, n0, cp0, rfl⟩ := okWide_slice Try.underlying36 (hval 0 36 v0 rfl rfl)
  obtain ⟨hn0, os0, dd0, he0⟩ : n0 ≤ maxLen ∧ ∃ os ds, OpSl W W.heap.size A0 n0 os ds := by
    obtain ⟨fuel, hf⟩ := h0
    exact ops_of_trod hf
  clear hA0 hval0
  refine (walk5 A0 n0 cp0 os0 dd0 W he0 hn0).mono fun e W' ⟨he, bel⟩ => ?_
  subst he
  exact ⟨_, rfl, _, _, _, [], _, [], hW', trodAll_mk1 (shut_bool Try.underlying4 _), (trodAll_cons_mk (Below.trod laidOut_ (by kernel_rfl) (of_decide_eq_true (by kernel_rfl)) k0 bel lt0) trodAll_mk0), rfl, bel.frame _, fun h => by cases h⟩

theorem netsimHonest_holds : Rows.NetsimHonestSaid :=
  OpenClaim.holds_of_wide 5 Try.f5 rfl rfl rfl rfl rfl rfl rfl ⟨rfl, rfl, rfl, rfl, rfl⟩ rfl rfl rfl rfl rfl (by kernel_rfl) Try.func5 (by kernel_rfl)
    (of_decide_eq_true (by kernel_rfl)) (by unfold Func.isWrapper; first | (rw [if_pos (by decide +kernel)]; kernel_rfl) | (rw [if_neg (by decide +kernel)]; exact ⟨rfl, rfl⟩))
    (fun os started H enc _ => lifted5 os started H enc)

end Go.Proofs.Ytledcmcpinjboaa
