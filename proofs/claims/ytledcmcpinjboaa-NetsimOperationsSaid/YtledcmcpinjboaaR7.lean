/-
The network and the specification side by side.
-/
import Derived.Test.YtledcmcpinjboaaR6
namespace Go.Proofs.Ytledcmcpinjboaa
open Go.RowKit
set_option linter.unusedVariables false
set_option linter.unusedSimpArgs false

/-- blocks of packets and data: none of the network's own, and not the block behind the network. -/
def OkQ (w : World) (N : Nat) (v : Value) (b : Nat) : Prop := Away w N v b ∧ b ≠ N + 1
/-- the same, and not z. -/
def OkZ (w : World) (N : Nat) (v : Value) (z b : Nat) : Prop := Away w N v b ∧ b ≠ z ∧ b ≠ N + 1
theorem OkZ.step {N z b : Nat} {v v' : Value} {w w' : World} (t : NStep N v w v' w') (h : OkZ w N v z b) : OkZ w' N v' z b ∧ w'.heap[b]? = w.heap[b]? := ⟨⟨t.away h.1, h.2⟩, t.same h.1⟩
/-- both read as the same packets. -/
structure Bo (w : World) (B N : Nat) (v : Value) (ps : List Pk) (A : Option Addr) (m c : Nat) (s : AR) : Prop where
  net : NetW w B N v s.last ps
  dp : Rds w (OkQ w N v) ps s.pend
  ref : ∃ pk, Sl w (OkQ w N v) A m pk ∧ Rds w (OkQ w N v) pk s.pend
  cap : m ≤ c
  hB : B ≤ w.heap.size
  hq : N + 1 < w.heap.size
  qv : some (N + 1) ≠ v.ownBlock
theorem Bo.len {w : World} {B N : Nat} {v : Value} {ps : List Pk} {A : Option Addr} {m c : Nat} {s : AR} (h : Bo w B N v ps A m c s) : m = s.pend.length := by
  obtain ⟨pk, h1, h2⟩ := h.ref
  rw [← h2.1, h1.1]
theorem Bo.below {w w' : World} {B N : Nat} {v : Value} {ps : List Pk} {A : Option Addr} {m c : Nat} {s : AR} (h : Bo w B N v ps A m c s) (hb : Below w.heap.size w w') : Bo w' B N v ps A m c s := by
  have k : ∀ b, OkQ w N v b → OkQ w' N v b ∧ w'.heap[b]? = w.heap[b]? := fun b hb' => ⟨⟨⟨Nat.lt_of_lt_of_le hb'.1.1 hb.size, hb'.1.2⟩, hb'.2⟩, hb.block b hb'.1.1⟩
  obtain ⟨pk, h1, h2⟩ := h.ref
  exact ⟨h.net.below hb, h.dp.keep k, ⟨pk, h1.keep k, h2.keep k⟩, h.cap, Nat.le_trans h.hB hb.size, Nat.lt_of_lt_of_le h.hq hb.size, h.qv⟩
/-- the boxes of step. -/
structure B18 (w W : World) (A : Option Addr) (m c : Nat) (l : Int) (o : Op5) : Prop where
  x : Blk W w.heap.size 39 #[.slice A m c, .int .i64 l]
  y : Blk W (w.heap.size + 1) 41 #[.int .u8 o.kind, .int .i64 o.frm, .int .i64 o.dst, .slice o.A o.n o.c, .int .i64 o.i]
  z : Blk W (w.heap.size + 2) 39 #[.slice none 0 0, .int .i64 0]
theorem B18.new (w : World) (A : Option Addr) (m c : Nat) (l : Int) (o : Op5) : B18 w (((w.alloc (.cells #[.slice A m c, .int .i64 l] 39)).alloc (.cells #[.int .u8 o.kind, .int .i64 o.frm, .int .i64 o.dst, .slice o.A o.n o.c, .int .i64 o.i] 41)).alloc (.cells #[.slice none 0 0, .int .i64 0] 39)) A m c l o := by
  refine ⟨((Blk.new _ _ _).alloc _).alloc _, ?_, ?_⟩
  · have := (Blk.new (w.alloc (.cells #[.slice A m c, .int .i64 l] 39)) 41 #[.int .u8 o.kind, .int .i64 o.frm, .int .i64 o.dst, .slice o.A o.n o.c, .int .i64 o.i]).alloc (.cells #[.slice none 0 0, .int .i64 0] 39)
    rwa [World.size_alloc] at this
  · have := Blk.new ((w.alloc (.cells #[.slice A m c, .int .i64 l] 39)).alloc (.cells #[.int .u8 o.kind, .int .i64 o.frm, .int .i64 o.dst, .slice o.A o.n o.c, .int .i64 o.i] 41)) 39 #[.slice none 0 0, .int .i64 0]
    rwa [World.size_alloc, World.size_alloc] at this
/-- inside step. -/
structure Bz (w W : World) (B N : Nat) (v : Value) (ps : List Pk) (A : Option Addr) (m c : Nat) (last : Int) (pn pr : List Pkt) : Prop where
  net : NetW W B N v last ps
  dp : Rds W (OkZ W N v (w.heap.size + 2)) ps pn
  ref : ∃ pk, Sl W (OkZ W N v (w.heap.size + 2)) A m pk ∧ Rds W (OkZ W N v (w.heap.size + 2)) pk pr
  cap : m ≤ c
  away : ∀ j, j < 3 → Away W N v (w.heap.size + j)
  bel : Below B w W
  hB : B ≤ w.heap.size
  hq : N + 1 < w.heap.size
  qv : some (N + 1) ≠ v.ownBlock
  qs : W.heap[N + 1]? = w.heap[N + 1]?
section
variable {w W W' : World} {B N : Nat} {v v' : Value} {ps ps' : List Pk} {A A' : Option Addr} {m c m' c' : Nat} {last last' : Int} {pn pr pn' pr' : List Pkt} {o : Op5} {A0 : Option Addr} {m0 c0 : Nat} {l0 : Int}
theorem Bz.size (h : Bz w W B N v ps A m c last pn pr) : w.heap.size + 3 ≤ W.heap.size := (h.away 2 (by omega)).1
theorem B18.keep (h : B18 w W A0 m0 c0 l0 o) (hk : ∀ j, j < 3 → W'.heap[w.heap.size + j]? = W.heap[w.heap.size + j]?) : B18 w W' A0 m0 c0 l0 o :=
  ⟨(hk 0 (by omega)).trans h.x, (hk 1 (by omega)).trans h.y, (hk 2 (by omega)).trans h.z⟩
theorem B18.step (h : B18 w W A0 m0 c0 l0 o) (hz : Bz w W B N v ps A m c last pn pr) (t : NStep N v W v' W') : B18 w W' A0 m0 c0 l0 o := h.keep fun j hj => t.same (hz.away j hj)
theorem B18.below (h : B18 w W A0 m0 c0 l0 o) (hb : Below W.heap.size W W') : B18 w W' A0 m0 c0 l0 o := h.keep fun j hj => hb.block _ (by have := h.z.lt; omega)
theorem Bz.init {s : AR} (h : Bo w B N v ps A m c s) (hb : Below w.heap.size w W) (hs : w.heap.size + 3 ≤ W.heap.size) : Bz w W B N v ps A m c s.last s.pend s.pend := by
  have k : ∀ b, OkQ w N v b → OkZ W N v (w.heap.size + 2) b ∧ W.heap[b]? = w.heap[b]? := fun b hb' => ⟨⟨⟨Nat.lt_of_lt_of_le hb'.1.1 hb.size, hb'.1.2⟩, by have := hb'.1.1; omega, hb'.2⟩, hb.block b hb'.1.1⟩
  obtain ⟨pk, h1, h2⟩ := h.ref
  exact ⟨h.net.below hb, h.dp.keep k, ⟨pk, h1.keep k, h2.keep k⟩, h.cap, fun j hj => fresh_away h.net _ (by omega) (by omega), hb.mono h.hB, h.hB, h.hq, h.qv, hb.block _ h.hq⟩
theorem Bz.op (h : Bz w W B N v ps A m c last pn pr) (hn : NetW W' B N v' last' ps') (t : NStep N v W v' W') (hd : Rds W' (OkZ W' N v' (w.heap.size + 2)) ps' pn') : Bz w W' B N v' ps' A m c last' pn' pr := by
  obtain ⟨pk, h1, h2⟩ := h.ref
  exact ⟨hn, hd, ⟨pk, h1.keep fun b hb => OkZ.step t hb, h2.keep fun b hb => OkZ.step t hb⟩, h.cap, fun j hj => t.away (h.away j hj), h.bel.trans (h.net.stepBelow t (Nat.le_trans h.hB h.bel.size |> fun x => by have := h.size; have := h.hB; omega)), h.hB, h.hq, t.ne (by have := h.hq; have := h.size; omega) h.qv, (t.block _ (by have := h.hq; have := h.size; omega) (by omega) h.qv).trans h.qs⟩
theorem Bz.below (h : Bz w W B N v ps A m c last pn pr) (hb : Below W.heap.size W W') : Bz w W' B N v ps A m c last pn pr :=
  h.op (h.net.below hb) (NStep.of_below hb) (h.dp.keep fun b hb' => OkZ.step (NStep.of_below hb) hb')
theorem Bz.refN (h : Bz w W B N v ps A m c last pn pr) (r : RefN W W' (OkZ W N v (w.heap.size + 2)) A' m' c' pr') : Bz w W' B N v ps A' m' c' last pn pr' := by
  obtain ⟨pk, h1, h2⟩ := r.reads
  have h3 := h.below r.below
  have hs := h.size
  have k : ∀ b, Gets W W' (OkZ W N v (w.heap.size + 2)) b → OkZ W' N v (w.heap.size + 2) b ∧ W'.heap[b]? = W'.heap[b]? := fun b hb => by
    rcases hb with hb | hb
    · exact ⟨(OkZ.step (NStep.of_below r.below) hb).1, rfl⟩
    · exact ⟨⟨fresh_away h.net _ hb.1 hb.2, by have := hb.1; omega, by have := hb.1; have := h.hq; omega⟩, rfl⟩
  exact ⟨h3.net, h3.dp, ⟨pk, h1.keep k, h2.keep k⟩, r.cap, h3.away, h3.bel, h3.hB, h3.hq, h3.qv, h3.qs⟩
theorem Bz.fin {s : AR} {a b : Value} (h : Bz w W B N v ps A m c last pn pn) (hb : Below W.heap.size W W') (h1 : s.last = last) (h2 : s.pend = pn) :
    Bo ((W'.setCell ⟨w.heap.size + 2, 0, none⟩ a).setCell ⟨w.heap.size + 2, 1, none⟩ b) B N v ps A m c s ∧ Below B w ((W'.setCell ⟨w.heap.size + 2, 0, none⟩ a).setCell ⟨w.heap.size + 2, 1, none⟩ b) ∧ ((W'.setCell ⟨w.heap.size + 2, 0, none⟩ a).setCell ⟨w.heap.size + 2, 1, none⟩ b).heap[N + 1]? = w.heap[N + 1]? := by
  have h3 := h.below hb
  have hz := h3.away 2 (by omega)
  have hsz : ((W'.setCell ⟨w.heap.size + 2, 0, none⟩ a).setCell ⟨w.heap.size + 2, 1, none⟩ b).heap.size = W'.heap.size := by simp
  have k0 : ∀ x, x ≠ w.heap.size + 2 → ((W'.setCell ⟨w.heap.size + 2, 0, none⟩ a).setCell ⟨w.heap.size + 2, 1, none⟩ b).heap[x]? = W'.heap[x]? := fun x hx => by rw [Below.heap_setCell _ _ _ _ hx, Below.heap_setCell _ _ _ _ hx]
  have k : ∀ x, OkZ W' N v (w.heap.size + 2) x → OkQ ((W'.setCell ⟨w.heap.size + 2, 0, none⟩ a).setCell ⟨w.heap.size + 2, 1, none⟩ b) N v x ∧ ((W'.setCell ⟨w.heap.size + 2, 0, none⟩ a).setCell ⟨w.heap.size + 2, 1, none⟩ b).heap[x]? = W'.heap[x]? := fun x hx => ⟨⟨⟨by rw [hsz]; exact hx.1.1, hx.1.2⟩, hx.2.2⟩, k0 x hx.2.1⟩
  obtain ⟨pk, r1, r2⟩ := h3.ref
  have hn := (h3.net.other ⟨w.heap.size + 2, 0, none⟩ a (Ne.symm hz.2.1) hz.2.2).other ⟨w.heap.size + 2, 1, none⟩ b (Ne.symm hz.2.1) hz.2.2
  have hB := h.hB
  have hss := h.size
  have hss' := hb.size
  refine ⟨⟨by rw [h1]; exact hn, by rw [h2]; exact h3.dp.keep k, ⟨pk, r1.keep k, by rw [h2]; exact r2.keep k⟩, h3.cap, by rw [hsz]; omega, by have := h.hq; rw [hsz]; omega, h3.qv⟩, (h3.bel.setCell (by show B ≤ w.heap.size + 2; omega) _).setCell (by show B ≤ w.heap.size + 2; omega) _, (k0 _ (by have := h.hq; omega)).trans h3.qs⟩
theorem Bz.dataZ {bs : List Int} {dd n : Nat} (h : Bz w W B N v ps A m c last pn pr) (hd : Byts W' (Away W' N v') (some ⟨dd, 0, none⟩) n bs) (hb : W.heap.size ≤ dd) : Byts W' (OkZ W' N v' (w.heap.size + 2)) (some ⟨dd, 0, none⟩) n bs :=
  ⟨hd.1, fun h0 => by
    obtain ⟨b', off', e1, e2, e3⟩ := hd.2 h0
    simp only [Option.some.injEq, Addr.mk.injEq, and_true] at e1
    obtain ⟨rfl, rfl⟩ := e1
    have := h.size
    have := h.hq
    exact ⟨_, _, rfl, ⟨e2, by omega, by omega⟩, e3⟩⟩
end
/-- what step leaves. -/
def Post18 (w : World) (B N : Nat) (s : AR) (e : Ending) (w' : World) : Prop :=
  ∃ v ps A m c, e = .returned (.tuple #[.agg #[.slice A m c, .int .i64 s.last], .bool true]) ∧ Bo w' B N v ps A m c s ∧ Below B w w' ∧ w'.heap[N + 1]? = w.heap[N + 1]?
end Go.Proofs.Ytledcmcpinjboaa
