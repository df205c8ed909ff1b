/-
The state of run in memory.
-/
import Derived.Test.YtledcmcpinjboaaJ
namespace Go.Proofs.Ytledcmcpinjboaa
open Go.RowKit
set_option linter.unusedVariables false

theorem own_same {w w' : World} {base size n : Nat} {e : TypeId} {u : Value} {xs : List Value} (h : w.ownsRow base e size u n xs) (hs : ∀ g, u.ownBlock = some g → w'.heap[g]? = w.heap[g]?) : w'.ownsRow base e size u n xs := by
  refine ⟨h.1, ?_⟩
  rcases h.2 with h1 | ⟨g, cap, cur, rfl, h2, h3, h4⟩
  · exact .inl h1
  · exact .inr ⟨g, cap, cur, rfl, h2, (hs g rfl).trans h3, h4⟩
theorem Rd.imp {w : World} {ok ok' : Nat → Prop} {p : Pk} {q : Pkt} (h : Rd w ok p q) (hk : ∀ b, ok b → ok' b) : Rd w ok' p q := h.keep fun b hb => ⟨hk b hb, rfl⟩
theorem Rds.imp {w : World} {ok ok' : Nat → Prop} {ps : List Pk} {qs : List Pkt} (h : Rds w ok ps qs) (hk : ∀ b, ok b → ok' b) : Rds w ok' ps qs := h.keep fun b hb => ⟨hk b hb, rfl⟩
theorem Rds.cons {w : World} {ok : Nat → Prop} {p : Pk} {q : Pkt} {ps : List Pk} {qs : List Pkt} (h : Rd w ok p q) (hs : Rds w ok ps qs) : Rds w ok (p :: ps) (q :: qs) := by
  refine ⟨by simp [hs.1], fun i p' q' hp hq => ?_⟩
  cases i with
  | zero => simp at hp hq; subst hp hq; exact h
  | succ i => exact hs.2 i p' q' (by simpa using hp) (by simpa using hq)
theorem Rds.uncons {w : World} {ok : Nat → Prop} {p : Pk} {q : Pkt} {ps : List Pk} {qs : List Pkt} (h : Rds w ok (p :: ps) (q :: qs)) : Rd w ok p q ∧ Rds w ok ps qs :=
  ⟨h.2 0 p q rfl rfl, by simpa using h.1, fun i p' q' hp hq => h.2 (i + 1) p' q' (by simpa using hp) (by simpa using hq)⟩
theorem Rds.erase {w : World} {ok : Nat → Prop} : ∀ {ps : List Pk} {qs : List Pkt} (k : Nat), Rds w ok ps qs → Rds w ok (ps.eraseIdx k) (qs.eraseIdx k)
  | [], [], k, h => by simpa using h
  | [], q :: qs, k, h => by have := h.1; simp at this
  | p :: ps, [], k, h => by have := h.1; simp at this
  | p :: ps, q :: qs, 0, h => by simpa using h.uncons.2
  | p :: ps, q :: qs, k + 1, h => by
    rw [List.eraseIdx_cons_succ, List.eraseIdx_cons_succ]
    exact Rds.cons h.uncons.1 (Rds.erase k h.uncons.2)
theorem Rds.filter {w : World} {ok : Nat → Prop} (t : Int) : ∀ {ps : List Pk} {qs : List Pkt}, Rds w ok ps qs → Rds w ok (ps.filter (Go.Proofs.Ytledcmcpinjboaa.keep t)) (qs.filter (fun q => !(q.dst == t)))
  | [], [], h => by simpa using h
  | [], q :: qs, h => by have := h.1; simp at this
  | p :: ps, [], h => by have := h.1; simp at this
  | p :: ps, q :: qs, h => by
    obtain ⟨h1, h2⟩ := h.uncons
    have hk : Go.Proofs.Ytledcmcpinjboaa.keep t p = !(q.dst == t) := by rw [Go.Proofs.Ytledcmcpinjboaa.keep, h1.dst]
    rw [List.filter_cons, List.filter_cons, hk]
    by_cases hq : (!(q.dst == t)) = true
    · rw [if_pos hq, if_pos hq]; exact Rds.cons h1 (Rds.filter t h2)
    · rw [if_neg hq, if_neg hq]; exact Rds.filter t h2

/-- the block of a packet's data: none of the blocks that run writes. -/
def Ok (w : World) (N m : Nat) (v u : Value) (b : Nat) : Prop := Away w N v b ∧ b ≠ m ∧ some b ≠ u.ownBlock
def kv (p : Pk) : Int × Value := (p.num, .agg #[.int .i64 p.num, .int .i64 p.frm, .int .i64 p.dst, .slice p.A p.n p.c])
/-- the data of the packets lie in blocks from B on. -/
def Fresh (B : Nat) (ps : List Pk) : Prop := ∀ p ∈ ps, ∀ b off, p.A = some ⟨b, off, none⟩ → B ≤ b
theorem Fresh.sub {B : Nat} {ps ps' : List Pk} (h : Fresh B ps) (hs : ∀ p ∈ ps', p ∈ ps) : Fresh B ps' := fun p hp => h p (hs p hp)
theorem Fresh.snoc {B : Nat} {ps : List Pk} {num frm dst : Int} {d n c : Nat} (h : Fresh B ps) (hd : B ≤ d) : Fresh B (ps ++ [⟨num, frm, dst, some ⟨d, 0, none⟩, n, c⟩]) := fun p hp b off e => by
  rcases List.mem_append.1 hp with hp | hp
  · exact h p hp b off e
  · simp at hp
    subst hp
    simp only [Option.some.injEq, Addr.mk.injEq, and_true] at e
    omega
structure St (w : World) (B N m : Nat) (v u : Value) (ps es gs : List Pk) (s : AR) : Prop where
  net : NetW w B N v s.last ps
  map : IMap w m (es.map kv)
  row : w.ownsRow B 31 4 u gs.length (gs.flatMap Pk.enc)
  mN : m ≠ N
  mv : some m ≠ v.ownBlock
  mu : some m ≠ u.ownBlock
  uN : some N ≠ u.ownBlock
  uv : ∀ g, u.ownBlock = some g → some g ≠ v.ownBlock
  hB : B ≤ w.heap.size
  hm : B ≤ m
  pB : Fresh B ps
  dp : Rds w (Ok w N m v u) ps s.pend
  ds : Rds w (Ok w N m v u) es s.sent
  dg : Rds w (Ok w N m v u) gs s.got
section
variable {w w' : World} {B N m : Nat} {v v' u : Value} {ps ps' es gs : List Pk} {s : AR}
theorem St.awm (h : St w B N m v u ps es gs s) : Away w N v m := ⟨h.map.lt, h.mN, h.mv⟩
theorem St.awu (h : St w B N m v u ps es gs s) {g : Nat} (hg : u.ownBlock = some g) : Away w N v g := ⟨(h.row.lt g hg).2, fun e => h.uN (by rw [hg, e]), h.uv g hg⟩
theorem Ok.step (t : NStep N v w v' w') {b : Nat} (h : Ok w N m v u b) : Ok w' N m v' u b ∧ w'.heap[b]? = w.heap[b]? := ⟨⟨t.away h.1, h.2⟩, t.same h.1⟩
/-- an operation of the network. -/
theorem St.op (h : St w B N m v u ps es gs s) {last : Int} {pend : List Pkt} (hn : NetW w' B N v' last ps') (t : NStep N v w v' w') (hp : Rds w' (Ok w' N m v' u) ps' pend) (hf : Fresh B ps') : St w' B N m v' u ps' es gs { s with last := last, pend := pend } where
  net := hn
  map := (t.same h.awm).trans h.map
  row := own_same h.row fun g hg => t.same (h.awu hg)
  mN := h.mN
  mv := (t.away h.awm).2.2
  mu := h.mu
  uN := h.uN
  uv := fun g hg => (t.away (h.awu hg)).2.2
  hB := Nat.le_trans h.hB t.size
  hm := h.hm
  pB := hf
  dp := hp
  ds := h.ds.keep fun b hb => Ok.step t hb
  dg := h.dg.keep fun b hb => Ok.step t hb
theorem St.below (h : St w B N m v u ps es gs s) (hb : Below w.heap.size w w') : St w' B N m v u ps es gs s :=
  h.op (h.net.below hb) (NStep.of_below hb) (h.dp.keep fun b hb' => Ok.step (NStep.of_below hb) hb') h.pB
theorem St.alloc (h : St w B N m v u ps es gs s) (o : Obj) : St (w.alloc o) B N m v u ps es gs s := h.below ((Below.refl _ _).alloc (Nat.le_refl _) _)
theorem St.drew (h : St w B N m v u ps es gs s) : St w.drew B N m v u ps es gs s := h.below (Below.refl _ _).drew
/-- only the map is turned. -/
theorem St.mapAdd (h : St w B N m v u ps es gs s) {p : Pk} {q : Pkt} (hmp : IMap w' m (es.map kv ++ [kv p])) (hg : w.grownBy w' (some m)) (hp : Rd w (Ok w N m v u) p q) : St w' B N m v u ps (es ++ [p]) gs { s with sent := s.sent ++ [q] } := by
  have hk : ∀ b, Ok w N m v u b → Ok w' N m v u b ∧ w'.heap[b]? = w.heap[b]? := fun b hb => ⟨⟨⟨Nat.lt_of_lt_of_le hb.1.1 hg.size, hb.1.2⟩, hb.2⟩, hg.block b hb.1.1 (by simpa using hb.2.1)⟩
  have hN : w'.heap[N]? = w.heap[N]? := hg.block N h.net.box.lt (by simpa using Ne.symm h.mN)
  refine ⟨⟨hN.trans h.net.box, own_same h.net.row fun g hg' => hg.block g (h.net.row.lt g hg').2 (fun e => h.mv (by rw [hg']; exact e.symm)), h.net.ne, h.net.le⟩, by simpa using hmp,
    own_same h.row fun g hg' => hg.block g (h.row.lt g hg').2 (fun e => h.mu (by rw [hg']; exact e.symm)), h.mN, h.mv, h.mu, h.uN, h.uv, Nat.le_trans h.hB hg.size, h.hm, h.pB, h.dp.keep hk, (h.ds.keep hk).snoc (hp.keep hk), h.dg.keep hk⟩
/-- a packet is added to those that were delivered. -/
theorem St.gotAdd {g cap : Nat} {o : Obj} (h : St w B N m v u ps es gs s) {p : Pk} {q : Pkt} (hown : w'.ownsRow B 31 4 (.slice (some ⟨g, 0, none⟩) (gs.length + 1) cap) (gs.length + 1) (gs.flatMap Pk.enc ++ p.enc)) (hg : (w.alloc o).grownBy w' u.ownBlock)
    (hat : u.ownBlock = some g ∨ g = w.heap.size + 1) (hp : Rd w (Ok w N m v u) p q) : St w' B N m v (.slice (some ⟨g, 0, none⟩) (gs.length + 1) cap) ps es (gs ++ [p]) { s with got := s.got ++ [q] } := by
  have hz : (w.alloc o).heap.size = w.heap.size + 1 := by simp
  have hsz := hg.size
  have hne : ∀ b, b < w.heap.size → some b ≠ u.ownBlock → b ≠ g := fun b hb h1 e => by
    rcases hat with h2 | h2
    · exact h1 (by rw [h2, e])
    · omega
  have hsame : ∀ b, b < w.heap.size → some b ≠ u.ownBlock → w'.heap[b]? = w.heap[b]? := fun b hb h1 => (hg.block b (by omega) h1).trans (Below.heap_alloc w o b hb)
  have hk : ∀ b, Ok w N m v u b → Ok w' N m v (.slice (some ⟨g, 0, none⟩) (gs.length + 1) cap) b ∧ w'.heap[b]? = w.heap[b]? := fun b hb =>
    ⟨⟨⟨by have := hb.1.1; omega, hb.1.2⟩, hb.2.1, by simpa [Value.ownBlock] using hne b hb.1.1 hb.2.2⟩, hsame b hb.1.1 hb.2.2⟩
  refine ⟨⟨(hsame N h.net.box.lt h.uN).trans h.net.box, own_same h.net.row fun x hx => hsame x (h.net.row.lt x hx).2 (fun e => h.uv x e.symm (by rw [hx])), h.net.ne, h.net.le⟩, (hsame m h.map.lt h.mu).trans h.map, ?_, h.mN, h.mv, ?_, ?_, ?_, by have := h.hB; omega, h.hm, h.pB, h.dp.keep hk, h.ds.keep hk, (h.dg.keep hk).snoc (hp.keep hk)⟩
  · rw [List.flatMap_append, List.length_append]; simpa using hown
  · simpa [Value.ownBlock] using hne m h.map.lt h.mu
  · simpa [Value.ownBlock] using hne N h.net.box.lt h.uN
  · intro x hx e
    simp only [Value.ownBlock, Option.some.injEq] at hx
    subst hx
    rcases hat with h2 | h2
    · exact h.uv g h2 e
    · have := (h.net.row.lt g e.symm).2; omega
end
theorem St.init (w : World) : St ((w.alloc (.cells #[.int .i64 0, .slice none 0 0] 58)).alloc (.map #[] 0)) w.heap.size w.heap.size (w.heap.size + 1) (.slice none 0 0) (.slice none 0 0) [] [] [] ar0 where
  net := (NetW.new w w.heap.size (Nat.le_refl _)).alloc _
  map := by
    have := heap_alloc_new (w.alloc (.cells #[.int .i64 0, .slice none 0 0] 58)) (.map #[] 0)
    rw [World.size_alloc] at this
    exact this
  row := World.ownsRow_nil _ _ _ _
  mN := by omega
  mv := by simp [Value.ownBlock]
  mu := by simp [Value.ownBlock]
  uN := by simp [Value.ownBlock]
  uv := by simp [Value.ownBlock]
  hB := by simp; omega
  hm := by omega
  pB := fun p hp => by simp at hp
  dp := Rds.nil _ _
  ds := Rds.nil _ _
  dg := Rds.nil _ _
/-- data of the arguments are none of run's blocks. -/
theorem St.arg {w : World} {B N m : Nat} {v u : Value} {ps es gs : List Pk} {s : AR} (h : St w B N m v u ps es gs s) {b : Nat} (hb : b < B) : Ok w N m v u b :=
  ⟨⟨Nat.lt_of_lt_of_le hb h.hB, by have := h.net.le; omega, fun e => by have := (h.net.row.lt b e.symm).1; omega⟩, by have := h.hm; omega, fun e => by have := (h.row.lt b e.symm).1; omega⟩
/-- new blocks are none of run's blocks. -/
theorem St.fresh {w w' : World} {B N m : Nat} {v v' u : Value} {ps ps' es gs : List Pk} {s : AR} {last : Int} (h : St w B N m v u ps es gs s) (hn : NetW w' B N v' last ps') (t : NStep N v w v' w') {b : Nat} (hb : w.heap.size ≤ b) (haw : Away w' N v' b) : Ok w' N m v' u b :=
  ⟨haw, by have := h.map.lt; omega, fun e => by have := (h.row.lt b e.symm).2; omega⟩
end Go.Proofs.Ytledcmcpinjboaa
