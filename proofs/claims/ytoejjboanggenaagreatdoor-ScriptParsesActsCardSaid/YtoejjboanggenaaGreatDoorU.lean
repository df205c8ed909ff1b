/-
Contract of formOf.
-/
import Derived.Test.YtoejjboanggenaaGreatDoorT
namespace Go.Proofs.YtoejjboanggenaaGreatDoor
open Go.RowKit
set_option linter.unusedVariables false
set_option linter.unusedSimpArgs false

/-- the act in memory without the part. -/
def clrV (v : Av) : PD → Av
  | .numA _ _ => { v with a := 0 }
  | .numB _ _ => { v with b := 0 }
  | .nam _ => { v with nm := ⟨#[]⟩ }
  | .met _ => { v with mt := ⟨#[]⟩ }
  | .surv => { v with A2 := none, n2 := 0, c2 := 0 }
  | .rest _ => { v with A := none, n := 0, c := 0 }
theorem clrV_cells (v : Av) (p : PD) : v.cells.setIfInBounds p.cell p.zero = (clrV v p).cells := by
  cases p <;> rfl
theorem Ints.none (w : World) (B : Nat) : Ints w B none 0 [] := ⟨rfl, fun h => absurd h (Nat.lt_irrefl 0)⟩
theorem clrV_reads {w : World} {B : Nat} {v : Av} {d : Ad} (h : Reads w B v d) (p : PD) : Reads w B (clrV v p) (clr d p) := by
  cases p
  · exact ⟨h.k, rfl, h.b, h.nm, h.mt, h.args, h.surv⟩
  · exact ⟨h.k, h.a, rfl, h.nm, h.mt, h.args, h.surv⟩
  · exact ⟨h.k, h.a, h.b, rfl, h.mt, h.args, h.surv⟩
  · exact ⟨h.k, h.a, h.b, h.nm, rfl, h.args, h.surv⟩
  · exact ⟨h.k, h.a, h.b, h.nm, h.mt, h.args, Ints.none w B⟩
  · exact ⟨h.k, h.a, h.b, h.nm, h.mt, Ints.none w B, h.surv⟩
theorem fold_reads {w : World} {B : Nat} : ∀ (ps : List PD) {v : Av} {d : Ad}, Reads w B v d → Reads w B (ps.foldl clrV v) (ps.foldl clr d)
  | [], _, _, h => h
  | p :: ps, _, _, h => fold_reads ps (clrV_reads h p)
theorem fold_take {α β : Type} (f : β → α → β) {l : List α} {k : Nat} {x : α} (b : β) (h : l[k]? = some x) : (l.take (k + 1)).foldl f b = f ((l.take k).foldl f b) x := by
  rw [List.take_add_one, h, List.foldl_append]
  rfl
theorem forms_good {i : Nat} {fd : FD} (h : formsFD[i]? = some fd) {p : PD} (hp : p ∈ fd.pds) : p.good := by
  have hm := List.mem_of_getElem? h
  unfold formsFD at hm
  simp only [List.mem_cons, List.not_mem_nil, or_false] at hm
  rcases hm with rfl | rfl | rfl | rfl | rfl | rfl | rfl | rfl | rfl | rfl | rfl | rfl | rfl | rfl | rfl | rfl <;> (simp only [List.mem_cons, List.not_mem_nil, or_false] at hp; rcases hp with rfl | rfl | rfl | rfl) <;> simp [PD.good]
theorem forms_few {i : Nat} {fd : FD} (h : formsFD[i]? = some fd) : fd.pds.length ≤ 4 := by
  have hm := List.mem_of_getElem? h
  unfold formsFD at hm
  simp only [List.mem_cons, List.not_mem_nil, or_false] at hm
  rcases hm with rfl | rfl | rfl | rfl | rfl | rfl | rfl | rfl | rfl | rfl | rfl | rfl | rfl | rfl | rfl | rfl <;> decide
theorem Parts.at_ {W : World} {B g : Nat} {pds : List PD} (h : Parts W B g pds) {k : Nat} (hk : k < pds.length) :
    ∃ pd a b c d, pds[k]? = some pd ∧ PartV W B pd [a, b, c, d] ∧ W.cell? ⟨g, k * 4, none⟩ = some a ∧ W.cell? ⟨g, k * 4 + 1, none⟩ = some b ∧ W.cell? ⟨g, k * 4 + 2, none⟩ = some c ∧ W.cell? ⟨g, k * 4 + 3, none⟩ = some d := by
  obtain ⟨vs, h1, h2⟩ := h.2 k _ (List.getElem?_eq_getElem hk)
  obtain ⟨a, b, c, d, rfl⟩ := h1.four
  exact ⟨_, a, b, c, d, List.getElem?_eq_getElem hk, h1, h2 0 a rfl, h2 1 b rfl, h2 2 c rfl, h2 3 d rfl⟩
theorem PartV.funcs {W : World} {B : Nat} {pd : PD} {a b c d : Value} (h : PartV W B pd [a, b, c, d]) :
    ∃ n1 x1 n2 x2 n3 x3 n4 x4, a = .func (.func n1) #[] x1 ∧ b = .func (.func n2) #[] x2 ∧ c = .func (.func n3) #[] x3 ∧ d = .func (.func n4) #[] x4 := by
  cases pd with
  | numA lo hi => obtain ⟨b0, b1, b2, e, _⟩ := h; simp only [List.cons.injEq, and_true] at e; exact ⟨_, _, _, _, _, _, _, _, e.1, e.2.1, e.2.2.1, e.2.2.2⟩
  | numB lo hi => obtain ⟨b0, b1, b2, e, _⟩ := h; simp only [List.cons.injEq, and_true] at e; exact ⟨_, _, _, _, _, _, _, _, e.1, e.2.1, e.2.2.1, e.2.2.2⟩
  | nam k => obtain ⟨b0, b1, e, _⟩ := h; simp only [List.cons.injEq, and_true] at e; exact ⟨_, _, _, _, _, _, _, _, e.1, e.2.1, e.2.2.1, e.2.2.2⟩
  | met k => obtain ⟨b0, b1, e, _⟩ := h; simp only [List.cons.injEq, and_true] at e; exact ⟨_, _, _, _, _, _, _, _, e.1, e.2.1, e.2.2.1, e.2.2.2⟩
  | surv =>
    have e : [a, b, c, d] = [fnv 65, fnv 66, fnv 67, fnv 70] := h
    simp only [List.cons.injEq, and_true] at e
    exact ⟨_, _, _, _, _, _, _, _, e.1, e.2.1, e.2.2.1, e.2.2.2⟩
  | rest m => obtain ⟨b0, e, _⟩ := h; simp only [List.cons.injEq, and_true] at e; exact ⟨_, _, _, _, _, _, _, _, e.1, e.2.1, e.2.2.1, e.2.2.2⟩
theorem RunsOn.calls {n : Nat} {x args : Array Value} {w : World} {Q : Ending → World → Prop} (h : RunsOn (.func (.func n) #[] x) args w Q) : Calls Tryz.prog n (args ++ x) w Q := by
  obtain ⟨m, y, e, _, h⟩ := h
  simp only [Value.func.injEq, Fn.func.injEq] at e
  obtain ⟨rfl, _, rfl⟩ := e
  exact h
theorem RunsOn.enters {n : Nat} {x args : Array Value} {w : World} {Q : Ending → World → Prop} (h : RunsOn (.func (.func n) #[] x) args w Q) : ∀ (ar : Array Value) (w : World), (callFunc n ar).run Tryz.prog w = .ok (.enter n ar) w := by
  obtain ⟨m, y, e, h, _⟩ := h
  simp only [Value.func.injEq, Fn.func.injEq] at e
  obtain ⟨rfl, _, rfl⟩ := e
  exact h
theorem PartV.keep {W W' : World} {B : Nat} {pd : PD} {vs : List Value} (hk : ∀ b t cs, t ≠ 36 → Blk W b t cs → Blk W' b t cs) (h : PartV W B pd vs) : PartV W' B pd vs := by
  cases pd with
  | numA lo hi => obtain ⟨b0, b1, b2, e, h0, h1, h2, k0, k1, k2⟩ := h; exact ⟨b0, b1, b2, e, h0, h1, h2, hk _ _ _ (by decide) k0, hk _ _ _ (by decide) k1, hk _ _ _ (by decide) k2⟩
  | numB lo hi => obtain ⟨b0, b1, b2, e, h0, h1, h2, k0, k1, k2⟩ := h; exact ⟨b0, b1, b2, e, h0, h1, h2, hk _ _ _ (by decide) k0, hk _ _ _ (by decide) k1, hk _ _ _ (by decide) k2⟩
  | nam k => obtain ⟨b0, b1, e, h0, h1, k0, k1⟩ := h; exact ⟨b0, b1, e, h0, h1, hk _ _ _ (by decide) k0, hk _ _ _ (by decide) k1⟩
  | met k => obtain ⟨b0, b1, e, h0, h1, k0, k1⟩ := h; exact ⟨b0, b1, e, h0, h1, hk _ _ _ (by decide) k0, hk _ _ _ (by decide) k1⟩
  | surv => exact h
  | rest m => obtain ⟨b0, e, h0, k0⟩ := h; exact ⟨b0, e, h0, hk _ _ _ (by decide) k0⟩
/-- parts do not lie in the block of a form. -/
theorem Parts.other {W : World} {B g R : Nat} {pds : List PD} {z : Int} {s : ByteArray} {A : Option Addr} {n c : Nat} (h : Parts W B g pds) (hR : Blk W R 36 #[.int .i64 z, .string s, .slice A n c]) (x0 x1 x2 : Value) :
    Parts (((W.setCell ⟨R, 0, none⟩ x0).setCell ⟨R, 1, none⟩ x1).setCell ⟨R, 2, none⟩ x2) B g pds := by
  have keep : ∀ b t cs, b ≠ R → Blk W b t cs → Blk (((W.setCell ⟨R, 0, none⟩ x0).setCell ⟨R, 1, none⟩ x1).setCell ⟨R, 2, none⟩ x2) b t cs := fun b t cs hne hb =>
    ((hb.other ⟨R, 0, none⟩ x0 hne).other ⟨R, 1, none⟩ x1 hne).other ⟨R, 2, none⟩ x2 hne
  refine ⟨h.1, fun i pd hp => ?_⟩
  obtain ⟨vs, h1, h2⟩ := h.2 i pd hp
  refine ⟨vs, h1.keep fun b t cs ht hb => keep b t cs (fun e => ?_) hb, fun j v hv => ?_⟩
  · subst e
    unfold Blk at hR hb
    rw [hR] at hb
    simp only [Option.some.injEq, Obj.cells.injEq] at hb
    exact ht hb.2.1.symm
  · have hne : g ≠ R := fun e => by
      subst e
      obtain ⟨a, b, c', d, rfl⟩ := h1.four
      obtain ⟨n1, x1, _, _, _, _, _, _, rfl, _⟩ := h1.funcs
      have h3 := h2 0 _ rfl
      rw [hR.cell] at h3
      match i with
      | 0 => simp at h3
      | i + 1 =>
        rw [Array.getElem?_eq_none (by show 3 ≤ _; omega)] at h3
        cases h3
    have : (((W.setCell ⟨R, 0, none⟩ x0).setCell ⟨R, 1, none⟩ x1).setCell ⟨R, 2, none⟩ x2).heap[g]? = W.heap[g]? :=
      ((Below.heap_setCell _ _ _ g hne).trans (Below.heap_setCell _ _ _ g hne)).trans (Below.heap_setCell _ _ _ g hne)
    rw [← h2 j v hv]
    exact World.cell?_of_block this
def formOfPost (d : Ad) (w : World) (e : Ending) (w' : World) : Prop :=
  ∃ k wd A n c, e = .returned (.tuple #[.agg #[.int .i64 k, .string wd, .slice A n c], .bool (okD d)]) ∧ Below w.heap.size w w' ∧
    (okD d = true → ∃ f g, formAt d.k = some f ∧ k = f.k ∧ wd = f.word ∧ A = some ⟨g, 0, none⟩ ∧ n = f.pds.length ∧ c = f.pds.length ∧ Parts w' w'.heap.size g f.pds)
theorem Blk.set3 {w : World} {g : Nat} {t : TypeId} {a b c a' b' c' : Value} (h : Blk w g t #[a, b, c]) :
    Blk (((w.setCell ⟨g, 0, none⟩ a').setCell ⟨g, 1, none⟩ b').setCell ⟨g, 2, none⟩ c') g t #[a', b', c'] :=
  ((h.set 0 a').set 1 b').set 2 c'
theorem below_set3 {B : Nat} {a w : World} (h : Below B a w) {g : Nat} (hg : B ≤ g) (a' b' c' : Value) :
    Below B a (((w.setCell ⟨g, 0, none⟩ a').setCell ⟨g, 1, none⟩ b').setCell ⟨g, 2, none⟩ c') :=
  ((h.setCell (p := ⟨g, 0, none⟩) hg a').setCell (p := ⟨g, 1, none⟩) hg b').setCell (p := ⟨g, 2, none⟩) hg c'
set_option maxRecDepth 100000 in
set_option maxHeartbeats 16000000 in
theorem formOf12 (v : Av) (d : Ad) (w : World) (h : Reads w w.heap.size v d) (hg : Gl w) (hn : v.n ≤ 1000000) (hn2 : v.n2 ≤ 1000000) : Calls Tryz.prog 12 #[.agg v.cells] w (formOfPost d w) := by
  have hq0 := Blk.new w 25 v.cells
  have hb0 : Below w.heap.size w (w.alloc (.cells v.cells 25)) := (Below.refl _ _).alloc (Nat.le_refl _) _
  have hq1 := hq0.alloc (.cells #[.int .i64 0, .string ⟨#[]⟩, .slice none 0 0] 36)
  have hr1 := Blk.new (w.alloc (.cells v.cells 25)) 36 #[.int .i64 0, .string ⟨#[]⟩, .slice none 0 0]
  have hb1 := hb0.alloc hb0.size (.cells #[.int .i64 0, .string ⟨#[]⟩, .slice none 0 0] 36)
  rw [World.size_alloc] at hr1
  unfold Av.cells at *
  have HR := Lib.hid h
  have HG := Lib.hid hg
  clear h hg hq0 hb0
  go_enter Tryz.func12, Tryz.ntmps12
  go_upto_region 1 with fail
  generalize (w.alloc (.cells #[.int .i64 v.k, .int .i64 v.a, .int .i64 v.b, .string v.nm, .string v.mt, .slice v.A v.n v.c, .slice v.A2 v.n2 v.c2] 25)).alloc (.cells #[.int .i64 0, .string ⟨#[]⟩, .slice none 0 0] 36) = W0 at hq1 hr1 hb1 ⊢
  obtain ⟨L, hL⟩ : ∃ L, w.heap.size = L := ⟨_, rfl⟩
  obtain ⟨R, hR⟩ : ∃ R, w.heap.size + 1 = R := ⟨_, rfl⟩
  rw [hL] at hq1
  rw [hR] at hr1 ⊢
  rw [hL]
  have HL := Lib.hid (And.intro hL hR)
  have hLR : L ≠ R := by omega
  have hLR2 : L ≤ R := by omega
  have hRw := hr1.lt
  have QL := Lib.hid hq1
  have QR := Lib.hid hr1
  have B1 := Lib.hid hb1
  clear hL hR hq1 hr1 hb1
  go_wp2_with fail
  refine (forms27 _).mono ?_
  rintro e w1 ⟨g, rfl, hf1, b1⟩
  have QL1 := Lib.hid (QL.out.below b1 QL.out.lt)
  have QR1 := Lib.hid (QR.out.below b1 QR.out.lt)
  have B2 := Lib.hid (B1.out.trans (b1.mono B1.out.size))
  have HF1 := Lib.hid hf1
  have z1 := b1.size
  clear QL QR B1 b1 hf1
  go_wp2_with fail
  refine (idx28 g L d.k w1 HF1.out (by rw [← HR.out.k]; exact QL1.out.cell 0) QL1.out.lt).mono ?_
  rintro e w2 ⟨rfl, b2⟩
  have QL2 := Lib.hid (QL1.out.below b2 QL1.out.lt)
  have QR2 := Lib.hid (QR1.out.below b2 QR1.out.lt)
  have B3 := Lib.hid (B2.out.trans (b2.mono B2.out.size))
  have HF2 := Lib.hid ((HF1.out.below b2).more b2.size)
  have z2 := b2.size
  have z3 := HF1.out.1
  clear QL1 QR1 B2 HF1 b2
  have c0 : w2.cell? ⟨L, 0, none⟩ = some (.int .i64 v.k) := QL2.out.cell 0
  have c1 : w2.cell? ⟨L, 1, none⟩ = some (.int .i64 v.a) := QL2.out.cell 1
  have c2 : w2.cell? ⟨L, 2, none⟩ = some (.int .i64 v.b) := QL2.out.cell 2
  have c3 : w2.cell? ⟨L, 3, none⟩ = some (.string v.nm) := QL2.out.cell 3
  have c4 : w2.cell? ⟨L, 4, none⟩ = some (.string v.mt) := QL2.out.cell 4
  have c5 : w2.cell? ⟨L, 5, none⟩ = some (.slice v.A v.n v.c) := QL2.out.cell 5
  have c6 : w2.cell? ⟨L, 6, none⟩ = some (.slice v.A2 v.n2 v.c2) := QL2.out.cell 6
  have r0 : w2.cell? ⟨R, 0, none⟩ = some (.int .i64 0) := QR2.out.cell 0
  have r1 : w2.cell? ⟨R, 1, none⟩ = some (.string ⟨#[]⟩) := QR2.out.cell 1
  have r2 : w2.cell? ⟨R, 2, none⟩ = some (.slice none 0 0) := QR2.out.cell 2
  have f0 := QR2.out.frozen 0
  have f1 := QR2.out.frozen 1
  have f2 := QR2.out.frozen 2
  by_cases hk : 0 ≤ d.k ∧ d.k ≤ 15
  · obtain ⟨q, hq⟩ := Int.eq_ofNat_of_zero_le hk.1
    have hidx : idxD d.k = (q : Int) := by unfold idxD; rw [if_pos hk, hq]
    have hq16 : q < 16 := by omega
    obtain ⟨fd, g2, h1, h2, h3, a0, a1, a2⟩ := HF2.out.at_ hq16
    have HFD := Lib.hid (And.intro h1 (And.intro h2 hq))
    rw [hidx]
    have hqz : ((q : Int) < 0) = False := by simp
    have hqd : decide ((q : Int) < 0) = false := by simp
    have hq0 : 0 ≤ (q : Int) := by omega
    have hqi : (q : Int) < 16 := by omega
    have HP := Lib.hid h3
    clear hk hidx h1 h2 h3 hq
    go_upto_region 6 with fail
    obtain ⟨w3, hw3⟩ : ∃ w3, w2.alloc (.cells #[.int .i64 (q : Int), .string fd.word, .slice (some ⟨g2, 0, none⟩) fd.pds.length fd.pds.length] 36) = w3 := ⟨_, rfl⟩
    have b3 : Below w2.heap.size w2 w3 := hw3 ▸ (Below.refl _ _).alloc (Nat.le_refl _) _
    have hs3 : w3.heap.size = w2.heap.size + 1 := by rw [← hw3]; simp
    have hqf := hw3 ▸ Blk.new w2 36 #[.int .i64 (q : Int), .string fd.word, .slice (some ⟨g2, 0, none⟩) fd.pds.length fd.pds.length]
    rw [hw3]
    have QL3 := Lib.hid (QL2.out.below b3 QL2.out.lt)
    have QR3 := Lib.hid (QR2.out.below b3 QR2.out.lt)
    have HP3 := Lib.hid ((HP.out.below b3).more b3.size)
    have B4 := Lib.hid (B3.out.trans (b3.mono B3.out.size))
    have QF3 := Lib.hid hqf
    have l2 := QL2.out.lt
    have r2' := QR2.out.lt
    obtain ⟨F, hF⟩ : ∃ F, w2.heap.size = F := ⟨_, rfl⟩
    rw [hF] at hs3 QF3 l2 r2' ⊢
    clear a0 a1 a2 c0 c1 c2 c3 c4 c5 c6 r0 r1 r2 f0 f1 f2 hw3 hqf b3 QL2 QR2 HP B3 HF2 hF
    have c0 : w3.cell? ⟨L, 0, none⟩ = some (.int .i64 v.k) := QL3.out.cell 0
    have c1 : w3.cell? ⟨L, 1, none⟩ = some (.int .i64 v.a) := QL3.out.cell 1
    have c2 : w3.cell? ⟨L, 2, none⟩ = some (.int .i64 v.b) := QL3.out.cell 2
    have c3 : w3.cell? ⟨L, 3, none⟩ = some (.string v.nm) := QL3.out.cell 3
    have c4 : w3.cell? ⟨L, 4, none⟩ = some (.string v.mt) := QL3.out.cell 4
    have c5 : w3.cell? ⟨L, 5, none⟩ = some (.slice v.A v.n v.c) := QL3.out.cell 5
    have c6 : w3.cell? ⟨L, 6, none⟩ = some (.slice v.A2 v.n2 v.c2) := QL3.out.cell 6
    go_upto_region 7 with fail
    have hm := Blk.new w3 25 v.cells
    have b4 : Below w3.heap.size w3 (w3.alloc (.cells v.cells 25)) := (Below.refl _ _).alloc (Nat.le_refl _) _
    rw [hs3] at hm
    have QM := Lib.hid hm
    unfold Av.cells at b4
    have QF4 := Lib.hid (QF3.out.below b4 QF3.out.lt)
    have B5 := Lib.hid b4
    have e2 : (w3.alloc (.cells #[.int .i64 v.k, .int .i64 v.a, .int .i64 v.b, .string v.nm, .string v.mt, .slice v.A v.n v.c, .slice v.A2 v.n2 v.c2] 25)).cell? ⟨F, 2, none⟩ = some (.slice (some ⟨g2, 0, none⟩) fd.pds.length fd.pds.length) := QF4.out.cell 2
    unfold Av.cells at QM
    generalize w3.alloc (.cells #[.int .i64 v.k, .int .i64 v.a, .int .i64 v.b, .string v.nm, .string v.mt, .slice v.A v.n v.c, .slice v.A2 v.n2 v.c2] 25) = w4 at QM QF4 B5 e2 ⊢
    obtain ⟨M, hM⟩ : ∃ M, F + 1 = M := ⟨_, rfl⟩
    rw [hM] at hs3 QM ⊢
    clear c0 c1 c2 c3 c4 c5 c6 hm b4
    have hLm : L < M := by omega
    have hRm : R < M := by omega
    have hFm : F < M := by omega
    have hlen := forms_few HFD.out.1
    go_wp2_with fail
    go_loopw [26] (fun i wr => ∃ k : Nat, k ≤ fd.pds.length ∧ i = .int .i64 k ∧ Hid (Blk wr M 25 ((fd.pds.take k).foldl clrV v).cells) ∧ Hid (Below w3.heap.size w3 wr) ∧ Hid ((fd.pds.take k).all (okPD d) = true)) (fun i _ => fd.pds.length - (intOf i).toNat)
    case atStart => exact ⟨0, Nat.zero_le _, rfl, QM, B5, Lib.hid rfl⟩
    case round =>
      clear e2 QM QF4 B5
      obtain ⟨k, hk, rfl, HM, HB, HA⟩ := hrel
      by_cases hlt : k < fd.pds.length
      · obtain ⟨pd, a, b, c, dd, hpd, hpv, a0, a1, a2, a3⟩ := (HP3.out.below HB.out).at_ hlt
        have hk0 : 0 ≤ (k : Int) := by omega
        have hk1 : (k : Int) < (fd.pds.length : Int) := by omega
        obtain ⟨n1, x1, n2, x2, n3, x3, n4, x4, rfl, rfl, rfl, rfl⟩ := hpv.funcs
        have HPD := Lib.hid hpd
        have HPV := Lib.hid hpv
        clear hpd hpv
        go_upto_region 10 with fail
        have b5 : Below wr.heap.size wr (wr.alloc (.cells #[.func (.func n1) #[] x1, .func (.func n2) #[] x2, .func (.func n3) #[] x3, .func (.func n4) #[] x4] 44)) := (Below.refl _ _).alloc (Nat.le_refl _) _
        have hn5 := Blk.new wr 44 #[.func (.func n1) #[] x1, .func (.func n2) #[] x2, .func (.func n3) #[] x3, .func (.func n4) #[] x4]
        generalize wr.alloc (.cells #[.func (.func n1) #[] x1, .func (.func n2) #[] x2, .func (.func n3) #[] x3, .func (.func n4) #[] x4] 44) = w5 at b5 hn5 ⊢
        have HB5 := Lib.hid (HB.out.trans (b5.mono HB.out.size))
        have HM5 := Lib.hid (HM.out.below b5 HM.out.lt)
        have HPV5 := Lib.hid (HPV.out.below (b5.mono HB.out.size))
        have HN5 := Lib.hid hn5
        have hN5 := hn5.lt
        have hMN : M ≠ wr.heap.size := by have := HM.out.lt; omega
        have zr := HB.out.size
        generalize wr.heap.size = N at hn5 hN5 hMN HN5 zr ⊢
        have QL5 := Lib.hid (QL3.out.below HB5.out QL3.out.lt)
        have B45 := Lib.hid (B4.out.trans (HB5.out.mono B4.out.size))
        clear a0 a1 a2 a3 b5 HM HB
        have c0 : w5.cell? ⟨L, 0, none⟩ = some (.int .i64 v.k) := QL5.out.cell 0
        have c1 : w5.cell? ⟨L, 1, none⟩ = some (.int .i64 v.a) := QL5.out.cell 1
        have c2 : w5.cell? ⟨L, 2, none⟩ = some (.int .i64 v.b) := QL5.out.cell 2
        have c3 : w5.cell? ⟨L, 3, none⟩ = some (.string v.nm) := QL5.out.cell 3
        have c4 : w5.cell? ⟨L, 4, none⟩ = some (.string v.mt) := QL5.out.cell 4
        have c5 : w5.cell? ⟨L, 5, none⟩ = some (.slice v.A v.n v.c) := QL5.out.cell 5
        have c6 : w5.cell? ⟨L, 6, none⟩ = some (.slice v.A2 v.n2 v.c2) := QL5.out.cell 6
        have a2 : w5.cell? ⟨N, 2, none⟩ = some (.func (.func n3) #[] x3) := hn5.cell 2
        clear hn5
        have hrun := part_valid HPV5.out (forms_good HFD.out.1 (List.mem_of_getElem? HPD.out)) v d ((HR.out.below B45.out).more B45.out.size) (HG.out.below B45.out) hn hn2
        have hent := hrun.enters
        have HC := Lib.hid hrun.calls
        clear hrun
        go_wp2_with fail
        refine HC.out.mono ?_
        rintro e w6 ⟨rfl, b6⟩
        have HM6 := Lib.hid (HM5.out.below b6 HM5.out.lt)
        have HN6 := Lib.hid (HN5.out.below b6 HN5.out.lt)
        have QR6 := Lib.hid ((QR3.out.below HB5.out QR3.out.lt).below b6 (by have := HB5.out.size; omega))
        have HB6 := Lib.hid (HB5.out.trans (b6.mono HB5.out.size))
        have zz := b6.size
        have HPV6 := Lib.hid (HPV5.out.below (b6.mono HB5.out.size))
        clear HM5 HN5 HB5 b6 c0 c1 c2 c3 c4 c5 c6 a2 QL5 B45 HC hent
        by_cases hok : okPD d pd = true
        · rw [hok]
          have HOK := Lib.hid hok
          have a3 : w6.cell? ⟨N, 3, none⟩ = some (.func (.func n4) #[] x4) := HN6.out.cell 3
          have hrun := part_clear HPV6.out M _ HM6.out rfl
          have hent := hrun.enters
          have HC := Lib.hid hrun.calls
          clear hrun hok
          go_wp2_with fail
          refine HC.out.mono ?_
          rintro e w7 ⟨rfl, rfl⟩
          go_wp2_with fail
          go_roundw
          case rel =>
            refine ⟨k + 1, by omega, by go_num, ?_, ?_, ?_⟩
            · rw [fold_take clrV v HPD.out, ← clrV_cells]
              exact Lib.hid (HM6.out.set _ _)
            · exact Lib.hid (HB6.out.setCell (p := ⟨M, _, none⟩) (show w3.heap.size ≤ M by omega) _)
            · exact Lib.hid (by rw [all_take HPD.out, HA.out, HOK.out]; rfl)
          case measure => simp [intOf]; omega
        · have hok' : okPD d pd = false := by simpa using hok
          have hokd : okD d = false := by
            unfold okD
            rw [HFD.out.2.2, formAt_nat (by omega), HFD.out.1]
            show okFD d fd = false
            unfold okFD
            rw [all_false HPD.out hok']
            rfl
          rw [hok']
          have HOK := Lib.hid hokd
          have r0 : w6.cell? ⟨R, 0, none⟩ = some (.int .i64 0) := QR6.out.cell 0
          have r1 : w6.cell? ⟨R, 1, none⟩ = some (.string ⟨#[]⟩) := QR6.out.cell 1
          have r2 : w6.cell? ⟨R, 2, none⟩ = some (.slice none 0 0) := QR6.out.cell 2
          have f0 := QR6.out.frozen 0
          have f1 := QR6.out.frozen 1
          have f2 := QR6.out.frozen 2
          clear hok hok' hokd
          go_wp2_with fail
          (try simp only [Exit.inBlock, Exit.then])
          refine bodyPost_ret (results_row_tmp rfl _ _ R 36 _ _ rfl QR6.out.set3 Tryz.underlying36 rfl (by kernel_rfl)) rfl ?_
          exact ⟨0, ⟨#[]⟩, none, 0, 0, by rw [HOK.out]; rfl, below_set3 (B4.out.trans (HB6.out.mono B4.out.size)) (by have := HL.out.1; omega) _ _ _, fun e => by rw [HOK.out] at e; cases e⟩
      · obtain rfl : k = fd.pds.length := by omega
        rw [List.take_of_length_le (Nat.le_refl _)] at HM HA
        obtain ⟨vl, hvl⟩ : ∃ vl, fd.pds.foldl clrV v = vl := ⟨_, rfl⟩
        obtain ⟨dl, hdl⟩ : ∃ dl, fd.pds.foldl clr d = dl := ⟨_, rfl⟩
        have hrl : Reads w w.heap.size vl dl := hvl ▸ hdl ▸ fold_reads fd.pds HR.out
        have hokd : okD d = plainB dl := by
          unfold okD
          rw [HFD.out.2.2, formAt_nat (by omega), HFD.out.1]
          show okFD d fd = _
          unfold okFD
          rw [HA.out, hdl]
          rfl
        rw [hvl] at HM
        have QF5 := Lib.hid (QF3.out.below HB.out (by omega))
        have QR5 := Lib.hid (QR3.out.below HB.out QR3.out.lt)
        have HRL := Lib.hid hrl
        have HOK := Lib.hid hokd
        clear hvl hdl hrl hokd HA
        have c1 : wr.cell? ⟨M, 1, none⟩ = some (.int .i64 vl.a) := HM.out.cell 1
        have c2 : wr.cell? ⟨M, 2, none⟩ = some (.int .i64 vl.b) := HM.out.cell 2
        have c3 : wr.cell? ⟨M, 3, none⟩ = some (.string vl.nm) := HM.out.cell 3
        have c4 : wr.cell? ⟨M, 4, none⟩ = some (.string vl.mt) := HM.out.cell 4
        have c5 : wr.cell? ⟨M, 5, none⟩ = some (.slice vl.A vl.n vl.c) := HM.out.cell 5
        have c6 : wr.cell? ⟨M, 6, none⟩ = some (.slice vl.A2 vl.n2 vl.c2) := HM.out.cell 6
        have e0 : wr.cell? ⟨F, 0, none⟩ = some (.int .i64 (q : Int)) := QF5.out.cell 0
        have e1 : wr.cell? ⟨F, 1, none⟩ = some (.string fd.word) := QF5.out.cell 1
        have e2 : wr.cell? ⟨F, 2, none⟩ = some (.slice (some ⟨g2, 0, none⟩) fd.pds.length fd.pds.length) := QF5.out.cell 2
        have r0 : wr.cell? ⟨R, 0, none⟩ = some (.int .i64 0) := QR5.out.cell 0
        have r1 : wr.cell? ⟨R, 1, none⟩ = some (.string ⟨#[]⟩) := QR5.out.cell 1
        have r2 : wr.cell? ⟨R, 2, none⟩ = some (.slice none 0 0) := QR5.out.cell 2
        have f0 := QR5.out.frozen 0
        have f1 := QR5.out.frozen 1
        have f2 := QR5.out.frozen 2
        have HE := Lib.hid (show ∀ x : Bool, plainB dl = x → formOfPost d w (.returned (.tuple #[.agg #[.int .i64 (q : Int), .string fd.word, .slice (some ⟨g2, 0, none⟩) fd.pds.length fd.pds.length], .bool x]))
            (((wr.setCell ⟨R, 0, none⟩ (.int .i64 (q : Int))).setCell ⟨R, 1, none⟩ (.string fd.word)).setCell ⟨R, 2, none⟩ (.slice (some ⟨g2, 0, none⟩) fd.pds.length fd.pds.length)) from fun x hx => by
          refine ⟨_, _, _, _, _, by rw [HOK.out, hx], below_set3 (B4.out.trans (HB.out.mono B4.out.size)) (by have := HL.out.1; omega) _ _ _, fun _ => ⟨fd, g2, by rw [HFD.out.2.2, formAt_nat (by omega), HFD.out.1], HFD.out.2.1.symm, rfl, rfl, rfl, rfl, ?_⟩⟩
          have hp := ((HP3.out.below HB.out).more HB.out.size).other QR5.out (.int .i64 (q : Int)) (.string fd.word) (.slice (some ⟨g2, 0, none⟩) fd.pds.length fd.pds.length)
          simpa using hp)
        have HV := Lib.hid (show plainB dl = ((vl.a == 0) && (vl.b == 0) && vl.nm.toList.isEmpty && vl.mt.toList.isEmpty && ((vl.n : Int) == 0) && ((vl.n2 : Int) == 0)) from by
          unfold plainB onlyB
          rw [← HRL.out.a, ← HRL.out.b, ← HRL.out.nm, ← HRL.out.mt, HRL.out.args.len, HRL.out.surv.len]
          simp only [Bool.false_or]
          grind)
        clear hq0
        by_cases g1 : vl.a = 0
        · have g1' : (vl.a == 0) = true := beq_iff_eq.2 g1
          by_cases g2 : vl.b = 0
          · have g2' : (vl.b == 0) = true := beq_iff_eq.2 g2
            cases g3 : vl.nm.toList.isEmpty with
            | true =>
              cases g4 : vl.mt.toList.isEmpty with
              | true =>
                by_cases g5 : (vl.n : Int) = 0
                · have g5' : ((vl.n : Int) == 0) = true := beq_iff_eq.2 g5
                  cases g6 : ((vl.n2 : Int) == 0) with
                  | true =>
                    have HT := Lib.hid (HE.out true (by rw [HV.out, g1', g2', g3, g4, g5', g6]; rfl))
                    clear HE HV
                    go_wp2_with fail
                    (try simp only [Exit.inBlock, Exit.then])
                    refine bodyPost_ret (results_row_tmp rfl _ _ R 36 _ _ rfl QR5.out.set3 Tryz.underlying36 rfl (by kernel_rfl)) rfl ?_
                    exact HT.out
                  | false =>
                    have HT := Lib.hid (HE.out false (by rw [HV.out, g1', g2', g3, g4, g5', g6]; rfl))
                    clear HE HV
                    go_wp2_with fail
                    (try simp only [Exit.inBlock, Exit.then])
                    refine bodyPost_ret (results_row_tmp rfl _ _ R 36 _ _ rfl QR5.out.set3 Tryz.underlying36 rfl (by kernel_rfl)) rfl ?_
                    exact HT.out
                · have g5' : ((vl.n : Int) == 0) = false := beq_eq_false_iff_ne.2 g5
                  have HT := Lib.hid (HE.out false (by rw [HV.out, g1', g2', g3, g4, g5']; rfl))
                  clear HE HV
                  go_wp2_with fail
                  (try simp only [Exit.inBlock, Exit.then])
                  refine bodyPost_ret (results_row_tmp rfl _ _ R 36 _ _ rfl QR5.out.set3 Tryz.underlying36 rfl (by kernel_rfl)) rfl ?_
                  exact HT.out
              | false =>
                have HT := Lib.hid (HE.out false (by rw [HV.out, g1', g2', g3, g4]; rfl))
                clear HE HV
                go_wp2_with fail
                (try simp only [Exit.inBlock, Exit.then])
                refine bodyPost_ret (results_row_tmp rfl _ _ R 36 _ _ rfl QR5.out.set3 Tryz.underlying36 rfl (by kernel_rfl)) rfl ?_
                exact HT.out
            | false =>
              have HT := Lib.hid (HE.out false (by rw [HV.out, g1', g2', g3]; rfl))
              clear HE HV
              go_wp2_with fail
              (try simp only [Exit.inBlock, Exit.then])
              refine bodyPost_ret (results_row_tmp rfl _ _ R 36 _ _ rfl QR5.out.set3 Tryz.underlying36 rfl (by kernel_rfl)) rfl ?_
              exact HT.out
          · have g2' : (vl.b == 0) = false := beq_eq_false_iff_ne.2 g2
            have HT := Lib.hid (HE.out false (by rw [HV.out, g1', g2']; rfl))
            clear HE HV
            go_wp2_with fail
            (try simp only [Exit.inBlock, Exit.then])
            refine bodyPost_ret (results_row_tmp rfl _ _ R 36 _ _ rfl QR5.out.set3 Tryz.underlying36 rfl (by kernel_rfl)) rfl ?_
            exact HT.out
        · have g1' : (vl.a == 0) = false := beq_eq_false_iff_ne.2 g1
          have HT := Lib.hid (HE.out false (by rw [HV.out, g1']; rfl))
          clear HE HV
          go_wp2_with fail
          (try simp only [Exit.inBlock, Exit.then])
          refine bodyPost_ret (results_row_tmp rfl _ _ R 36 _ _ rfl QR5.out.set3 Tryz.underlying36 rfl (by kernel_rfl)) rfl ?_
          exact HT.out
  · have hidx : idxD d.k = -1 := by unfold idxD; rw [if_neg hk]
    have hok : okD d = false := by
      unfold okD
      cases hf : formAt d.k with
      | none => rfl
      | some f => exact absurd (formAt_some hf) hk
    have HOK := Lib.hid hok
    rw [hidx]
    clear hk hidx hok
    go_wp2_with fail
    (try simp only [Exit.inBlock, Exit.then])
    refine bodyPost_ret (results_row_tmp rfl _ _ R 36 _ _ rfl QR2.out.set3 Tryz.underlying36 rfl (by kernel_rfl)) rfl ?_
    exact ⟨0, ⟨#[]⟩, none, 0, 0, by rw [HOK.out]; rfl, below_set3 B3.out (by have := HL.out.1; omega) _ _ _, fun e => by rw [HOK.out] at e; cases e⟩
end Go.Proofs.YtoejjboanggenaaGreatDoor
