/-
Contracts: Drop, Double.
-/
import Derived.Test.YtledcmcpinjboaaE
namespace Go.Proofs.Ytledcmcpinjboaa
open Go.RowKit
set_option linter.unusedVariables false

set_option maxHeartbeats 2000000 in
theorem drop24_0 (B N : Nat) (v : Value) (last i : Int) (w : World) (h : NetW w B N v last []) :
    Calls Try.prog 24 #[.pointer (some ⟨N, 0, none⟩), .int .i64 i] w fun e w' => e = .returned (.bool false) ∧ Below w.heap.size w w' := by
  go_enter Try.func24, Try.ntmps24
  go_wp2_with fail
  refine (deliver15_0 B N v last i _ h).mono ?_
  rintro e w2 ⟨rfl, hb⟩
  go_wp2_with fail
  go_ret
  exact ⟨rfl, hb.alloc hb.size _⟩
theorem NStep.alloc {N : Nat} {v v' : Value} {w w' : World} (h : NStep N v w v' w') (o : Obj) : NStep N v w v' (w'.alloc o) :=
  h.trans (NStep.of_below ((Below.refl _ _).alloc (Nat.le_refl _) _))
set_option maxHeartbeats 2000000 in
theorem drop24 (B N : Nat) (v : Value) (last i : Int) (ps : List Pk) (w : World) (h : NetW w B N v last ps) (hl0 : 0 < ps.length) (hl : ps.length ≤ 1000000) :
    Calls Try.prog 24 #[.pointer (some ⟨N, 0, none⟩), .int .i64 i] w fun e w' => e = .returned (.bool true) ∧ ∃ v', Dlv2 B N v last ps (pos i ps.length) w v' w' := by
  go_enter Try.func24, Try.ntmps24
  go_wp2_with fail
  refine (deliver15 B N v last i ps _ h hl0 hl).mono ?_
  rintro e w2 ⟨p, v', _, rfl, hv⟩
  have HV := Lib.hid hv
  clear hv
  go_wp2_with fail
  go_ret
  exact ⟨rfl, v', HV.out.net.alloc _, HV.out.step.alloc _⟩

/-- what a doubling leaves. -/
def Dbl (B N : Nat) (v : Value) (last : Int) (ps : List Pk) (p : Pk) (bs : List Int) (w w' : World) : Prop :=
  ∃ v' d, NetW w' B N v' (last + 1) (ps ++ [⟨last + 1, p.frm, p.dst, some ⟨d, 0, none⟩, p.n, p.n⟩]) ∧ w.heap.size ≤ d ∧ Byts w' (Away w' N v') (some ⟨d, 0, none⟩) p.n bs ∧ NStep N v w v' w'
set_option maxHeartbeats 2000000 in
theorem closure28 (B N bn k : Nat) (v : Value) (last : Int) (ps : List Pk) (w : World) (h : NetW w B N v last ps) (hn : Blk w bn 24 #[.pointer (some ⟨N, 0, none⟩)]) (p : Pk) (bs : List Int) (hpk : ps[k]? = some p) (hd : Byts w (Away w N v) p.A p.n bs) (hsm : p.n ≤ 1000)
    (hl0 : 0 ≤ last) (hl1 : last ≤ 1000000) (hl : ps.length ≤ 1000000) (hB : B ≤ w.heap.size) :
    Calls Try.prog 28 #[.int .i64 k, .pointer (some ⟨bn, 0, none⟩)] w fun e w' => (∃ r, e = .returned r) ∧ Dbl B N v last ps p bs w w' := by
  have hk : k < ps.length := (List.getElem?_eq_some_iff.1 hpk).1
  obtain ⟨g, cap, rfl, _, hgl⟩ := h.row.form (by omega)
  obtain ⟨b', off', p', hA, _, hpk', e0, e1, e2, e3⟩ := (Sl.of_own h.row rfl).cells hk
  simp only [Option.some.injEq, Addr.mk.injEq, and_true] at hA
  obtain ⟨rfl, rfl⟩ := hA
  obtain rfl : p = p' := by rw [hpk] at hpk'; simpa using hpk'
  simp only [Nat.zero_add] at e0 e1 e2 e3
  have hk0 : 0 ≤ (k : Int) := by omega
  have hk1 : (k : Int) < ps.length := by omega
  have c0 : w.cell? ⟨bn, 0, none⟩ = some (.pointer (some ⟨N, 0, none⟩)) := hn.cell 0
  have c1 : w.cell? ⟨N, 1, none⟩ = some (.slice (some ⟨g, 0, none⟩) ps.length cap) := h.box.cell 1
  have hbn := hn.lt
  have hs1 : ∀ o, NStep N (.slice (some ⟨g, 0, none⟩) ps.length cap) w (.slice (some ⟨g, 0, none⟩) ps.length cap) (w.alloc o) := fun o => (NStep.refl _ _ _).alloc o
  have HS := Lib.hid hs1
  clear hpk hpk' hs1
  go_enter Try.func28, Try.ntmps28
  go_wp2_with fail
  refine (send12 B N _ last p.frm p.dst p.A p.n p.c bs ps _ (h.alloc _) (hd.step (HS.out _)) hl0 hl1 (by omega) hl (by simp; omega)).mono ?_
  rintro e w2 ⟨v', d, rfl, q1, q2, q3, q4⟩
  go_wp2_with fail
  go_end0
  exact ⟨⟨_, rfl⟩, v', d, q1, by simp at q2; omega, q3, (HS.out _).trans q4⟩

set_option maxHeartbeats 2000000 in
theorem with27_28 (B N bn : Nat) (v : Value) (last i : Int) (ps : List Pk) (w : World) (h : NetW w B N v last ps) (hn : Blk w bn 24 #[.pointer (some ⟨N, 0, none⟩)]) (p : Pk) (bs : List Int) (hpk : ps[pos i ps.length]? = some p) (hd : Byts w (Away w N v) p.A p.n bs) (hsm : p.n ≤ 1000)
    (hl0 : 0 ≤ last) (hl1 : last ≤ 1000000) (hl2 : 0 < ps.length) (hl : ps.length ≤ 1000000) (hB : B ≤ w.heap.size) :
    Calls Try.prog 27 #[.pointer (some ⟨N, 0, none⟩), .int .i64 i, .func (.func 28) #[] #[.pointer (some ⟨bn, 0, none⟩)]] w fun e w' => e = .returned (.bool true) ∧ Dbl B N v last ps p bs w w' := by
  obtain ⟨Ao, co, rfl⟩ := slice_of_own h.row
  have c1 : w.cell? ⟨N, 1, none⟩ = some (.slice Ao ps.length co) := h.box.cell 1
  have hz : ((ps.length : Int) == 0) = false := beq_eq_false_iff_ne.2 (by omega)
  obtain ⟨t1, t2⟩ := tmod_pos i hl2
  have HP := Lib.hid hpk
  clear hpk
  go_enter Try.func27, Try.ntmps27
  go_wp2_with fail
  all_goals
    try rw [t1 (by omega)]
    refine (closure28 B N bn _ _ last ps _ h hn p bs HP.out hd hsm hl0 hl1 hl hB).mono ?_
    rintro e w2 ⟨⟨r, rfl⟩, hv⟩
    have HV := Lib.hid hv
    clear hv
    go_wp2_with fail
    go_ret
    exact ⟨rfl, HV.out⟩

set_option maxHeartbeats 2000000 in
theorem double13_0 (B N : Nat) (v : Value) (last i : Int) (w : World) (h : NetW w B N v last []) :
    Calls Try.prog 13 #[.pointer (some ⟨N, 0, none⟩), .int .i64 i] w fun e w' => e = .returned (.bool false) ∧ Below w.heap.size w w' := by
  have h' := fun a => h.alloc a
  go_enter Try.func13, Try.ntmps13
  go_wp2_with fail
  refine (with27_0 _ _ B N v last i _ (h' _)).mono ?_
  rintro e w2 ⟨rfl, rfl⟩
  go_wp2_with fail
  go_ret
  exact ⟨rfl, (Below.refl _ _).alloc (Nat.le_refl _) _⟩
set_option maxHeartbeats 2000000 in
theorem double13 (B N : Nat) (v : Value) (last i : Int) (ps : List Pk) (w : World) (h : NetW w B N v last ps) (p : Pk) (bs : List Int) (hpk : ps[pos i ps.length]? = some p) (hd : Byts w (Away w N v) p.A p.n bs) (hsm : p.n ≤ 1000)
    (hl0 : 0 ≤ last) (hl1 : last ≤ 1000000) (hl2 : 0 < ps.length) (hl : ps.length ≤ 1000000) (hB : B ≤ w.heap.size) :
    Calls Try.prog 13 #[.pointer (some ⟨N, 0, none⟩), .int .i64 i] w fun e w' => e = .returned (.bool true) ∧ Dbl B N v last ps p bs w w' := by
  have h' := fun a => h.alloc a
  have hs1 : ∀ o, NStep N v w v (w.alloc o) := fun o => (NStep.refl _ _ _).alloc o
  have HP := Lib.hid hpk
  clear hpk
  go_enter Try.func13, Try.ntmps13
  go_wp2_with fail
  refine (with27_28 B N _ v last i ps _ (h' _) (Blk.new _ _ _) p bs HP.out (hd.step (hs1 _)) hsm hl0 hl1 hl2 hl (by simp; omega)).mono ?_
  rintro e w2 ⟨rfl, v', d, q2, q3, q4, q5⟩
  go_wp2_with fail
  go_ret
  exact ⟨rfl, v', d, q2, by simp at q3; omega, q4, (hs1 _).trans q5⟩
end Go.Proofs.Ytledcmcpinjboaa
