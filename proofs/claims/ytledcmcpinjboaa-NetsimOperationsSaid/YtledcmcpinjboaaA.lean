/-
Words for packets, networks and their memory; the contract of netsim.copied.
-/
import Derived.Test.YtledcmcpinjboaaRows
import Derived.WalkKit
import Derived.WalkSpells
import Derived.WalkLawsBesides
import Derived.Lib.Hide
import Derived.Deep.QuietTactic
import Derived.BigQuiet
import Derived.Laws.CopyOwn
import Derived.Laws.MakeOwn
import Derived.Laws.OwnMore
import Derived.Maps.AppendAt
import Derived.Deep.AppendLies
namespace Go.Proofs.Ytledcmcpinjboaa
open Go.RowKit
set_option linter.unusedVariables false

theorem ret_int {k : IntKind} {a b : Int} (h : a = b) : Ending.returned (.int k a) = .returned (.int k b) := by rw [h]
theorem ret_bool {a b : Bool} (h : a = b) : Ending.returned (.bool a) = .returned (.bool b) := by rw [h]

/-- a packet as it lies in memory. -/
structure Pk where
  num : Int
  frm : Int
  dst : Int
  A : Option Addr
  n : Nat
  c : Nat
def Pk.enc (p : Pk) : List Value := [.int .i64 p.num, .int .i64 p.frm, .int .i64 p.dst, .slice p.A p.n p.c]

/-- a slice of bytes that reads as bs; the number of its block has the property ok. -/
def Byts (w : World) (ok : Nat → Prop) (A : Option Addr) (n : Nat) (bs : List Int) : Prop :=
  bs.length = n ∧ (0 < n → ∃ b off, A = some ⟨b, off, none⟩ ∧ ok b ∧ ∀ j v, bs[j]? = some v → w.cell? ⟨b, off + j, none⟩ = some (.int .u8 v))
theorem Byts.imp {w : World} {ok ok' : Nat → Prop} {A : Option Addr} {n : Nat} {bs : List Int} (h : Byts w ok A n bs) (hk : ∀ b, ok b → ok' b) : Byts w ok' A n bs :=
  ⟨h.1, fun h0 => by obtain ⟨b, off, h1, h2, h3⟩ := h.2 h0; exact ⟨b, off, h1, hk b h2, h3⟩⟩
theorem Byts.keep {w w' : World} {ok ok' : Nat → Prop} {A : Option Addr} {n : Nat} {bs : List Int} (h : Byts w ok A n bs) (hk : ∀ b, ok b → ok' b ∧ w'.heap[b]? = w.heap[b]?) : Byts w' ok' A n bs :=
  ⟨h.1, fun h0 => by
    obtain ⟨b, off, h1, h2, h3⟩ := h.2 h0
    exact ⟨b, off, h1, (hk b h2).1, fun j v hv => (World.cell?_of_block (hk b h2).2).trans (h3 j v hv)⟩⟩
theorem Byts.below {w w' : World} {A : Option Addr} {n B : Nat} {bs : List Int} (h : Byts w (· < B) A n bs) (hb : Below B w w') : Byts w' (· < B) A n bs := h.keep fun b hb' => ⟨hb', hb.block b hb'⟩
theorem Byts.drew {w : World} {ok : Nat → Prop} {A : Option Addr} {n : Nat} {bs : List Int} (h : Byts w ok A n bs) : Byts w.drew ok A n bs := h

/-- a block known whole. -/
def Blk (w : World) (g : Nat) (t : TypeId) (cs : Array Value) : Prop := w.heap[g]? = some (.cells cs t (0, 0))
section
variable {w w' : World} {g : Nat} {t : TypeId} {cs : Array Value}
theorem Blk.lt (h : Blk w g t cs) : g < w.heap.size := by
  rcases Nat.lt_or_ge g w.heap.size with hlt | hge
  · exact hlt
  · unfold Blk at h; rw [Array.getElem?_eq_none hge] at h; cases h
theorem Blk.cell (h : Blk w g t cs) (i : Nat) : w.cell? ⟨g, i, none⟩ = cs[i]? := by
  unfold Blk at h; simp [World.cell?, h]
theorem Blk.frozen (h : Blk w g t cs) (i : Nat) : w.frozen? ⟨g, i, none⟩ = false := by
  unfold Blk at h
  simp [World.frozen?, h]
theorem Blk.new (w : World) (t : TypeId) (cs : Array Value) : Blk (w.alloc (.cells cs t)) w.heap.size t cs := heap_alloc_new w _
theorem Blk.alloc (h : Blk w g t cs) (o : Obj) : Blk (w.alloc o) g t cs := (Below.heap_alloc w o g h.lt).trans h
theorem Blk.below {B : Nat} (h : Blk w g t cs) (hb : Below B w w') (hg : g < B) : Blk w' g t cs := (hb.block g hg).trans h
theorem Blk.grown {row : Option Nat} (h : Blk w g t cs) (hb : w.grownBy w' row) (hg : some g ≠ row) : Blk w' g t cs := (hb.block g h.lt hg).trans h
theorem Blk.drew (h : Blk w g t cs) : Blk w.drew g t cs := h
theorem Blk.set (h : Blk w g t cs) (i : Nat) (v : Value) : Blk (w.setCell ⟨g, i, none⟩ v) g t (cs.setIfInBounds i v) := by
  unfold Blk at *
  obtain ⟨hlt, hg⟩ := Array.getElem?_eq_some_iff.1 h
  simp [World.setCell, hlt, Array.getElem_modify, hg]
theorem Blk.other (h : Blk w g t cs) (p : Addr) (v : Value) (hne : g ≠ p.block) : Blk (w.setCell p v) g t cs := (Below.heap_setCell w p v g hne).trans h
end
theorem below_drewN {B : Nat} {a w : World} (h : Below B a w) (n : Nat) : Below B a (w.drewN n) := ⟨h.os, h.tape, h.output, h.size, h.block⟩
theorem grown_below {w w' : World} (h : Below w.heap.size w w') : w.grownBy w' none := ⟨h.os, h.tape, h.output, h.size, fun k hk _ => h.block k hk⟩
theorem own_below {w w' : World} {base : Nat} {t : TypeId} {v : Value} {n size : Nat} {xs : List Value} (h : w.ownsRow base t size v n xs) (hb : Below w.heap.size w w') : w'.ownsRow base t size v n xs :=
  h.kept (row := none) (grown_below hb) (by cases v.ownBlock <;> simp)
theorem slice_of_own {w : World} {base : Nat} {t : TypeId} {v : Value} {n size : Nat} {xs : List Value} (h : w.ownsRow base t size v n xs) : ∃ A c, v = .slice A n c := by
  rcases h.2 with ⟨rfl, rfl⟩ | ⟨g, cap, _, rfl, _⟩
  · exact ⟨_, _, rfl⟩
  · exact ⟨_, _, rfl⟩
theorem cells_below {B : Nat} {w w' : World} (hb : Below B w w') {b : Nat} (h : b < B) (o : Nat) : w'.cell? ⟨b, o, none⟩ = w.cell? ⟨b, o, none⟩ := hb.cell (p := ⟨b, o, none⟩) h

/-- the block b is none of the network's. -/
def Away (w : World) (N : Nat) (v : Value) (b : Nat) : Prop := b < w.heap.size ∧ b ≠ N ∧ some b ≠ v.ownBlock
/-- one operation of the network: only its own blocks are turned. -/
structure NStep (N : Nat) (v : Value) (w : World) (v' : Value) (w' : World) : Prop where
  os : w'.os = w.os
  tape : w'.tape = w.tape
  output : w'.output = w.output
  size : w.heap.size ≤ w'.heap.size
  block : ∀ k, k < w.heap.size → k ≠ N → some k ≠ v.ownBlock → w'.heap[k]? = w.heap[k]?
  lies : ∀ g, v'.ownBlock = some g → v.ownBlock = some g ∨ w.heap.size ≤ g
theorem NStep.refl (N : Nat) (v : Value) (w : World) : NStep N v w v w := ⟨rfl, rfl, rfl, Nat.le_refl _, fun _ _ _ _ => rfl, fun _ h => .inl h⟩
theorem NStep.ne {N k : Nat} {v v' : Value} {w w' : World} (h : NStep N v w v' w') (hk : k < w.heap.size) (hne : some k ≠ v.ownBlock) : some k ≠ v'.ownBlock := fun e => by
  rcases h.lies k e.symm with h1 | h1
  · exact hne h1.symm
  · omega
theorem NStep.trans {N : Nat} {v v' v'' : Value} {w w' w'' : World} (h : NStep N v w v' w') (k : NStep N v' w' v'' w'') : NStep N v w v'' w'' :=
  ⟨k.os.trans h.os, k.tape.trans h.tape, k.output.trans h.output, Nat.le_trans h.size k.size,
    fun i hi h1 h2 => (k.block i (Nat.lt_of_lt_of_le hi h.size) h1 (h.ne hi h2)).trans (h.block i hi h1 h2),
    fun g hg => by
      rcases k.lies g hg with h1 | h1
      · exact h.lies g h1
      · exact .inr (Nat.le_trans h.size h1)⟩
theorem NStep.of_below {N : Nat} {v : Value} {w w' : World} (h : Below w.heap.size w w') : NStep N v w v w' := ⟨h.os, h.tape, h.output, h.size, fun k hk _ _ => h.block k hk, fun _ h => .inl h⟩
theorem NStep.away {N k : Nat} {v v' : Value} {w w' : World} (h : NStep N v w v' w') (hk : Away w N v k) : Away w' N v' k := ⟨Nat.lt_of_lt_of_le hk.1 h.size, hk.2.1, h.ne hk.1 hk.2.2⟩
theorem NStep.same {N k : Nat} {v v' : Value} {w w' : World} (h : NStep N v w v' w') (hk : Away w N v k) : w'.heap[k]? = w.heap[k]? := h.block k hk.1 hk.2.1 hk.2.2
theorem NStep.below {N B : Nat} {v v' : Value} {w w' : World} (h : NStep N v w v' w') (hN : B ≤ N) (hv : ∀ g, v.ownBlock = some g → B ≤ g) (hB : B ≤ w.heap.size) : Below B w w' :=
  ⟨h.os, h.tape, h.output, h.size, fun k hk => h.block k (by omega) (by omega) (fun e => by have := hv k e.symm; omega)⟩
theorem Byts.step {N : Nat} {v v' : Value} {w w' : World} {A : Option Addr} {n : Nat} {bs : List Int} (h : Byts w (Away w N v) A n bs) (s : NStep N v w v' w') : Byts w' (Away w' N v') A n bs :=
  h.keep fun _ hb => ⟨s.away hb, s.same hb⟩
theorem Byts.lt {N : Nat} {v : Value} {w : World} {A : Option Addr} {n : Nat} {bs : List Int} (h : Byts w (Away w N v) A n bs) : Byts w (· < w.heap.size) A n bs := h.imp fun _ hb => hb.1

/-- the network behind the pointer N. -/
structure NetW (w : World) (B N : Nat) (v : Value) (last : Int) (ps : List Pk) : Prop where
  box : Blk w N 58 #[.int .i64 last, v]
  row : w.ownsRow B 31 4 v ps.length (ps.flatMap Pk.enc)
  ne : some N ≠ v.ownBlock
  le : B ≤ N
theorem NetW.below {w w' : World} {B N : Nat} {v : Value} {last : Int} {ps : List Pk} (h : NetW w B N v last ps) (hb : Below w.heap.size w w') : NetW w' B N v last ps :=
  ⟨h.box.below hb h.box.lt, own_below h.row hb, h.ne, h.le⟩
theorem NetW.ge {w : World} {B N : Nat} {v : Value} {last : Int} {ps : List Pk} (h : NetW w B N v last ps) : ∀ g, v.ownBlock = some g → B ≤ g := fun g hg => (h.row.lt g hg).1
theorem NetW.stepBelow {w w' : World} {B N : Nat} {v v' : Value} {last : Int} {ps : List Pk} (h : NetW w B N v last ps) (s : NStep N v w v' w') (hB : B ≤ w.heap.size) : Below B w w' := s.below h.le h.ge hB

theorem length_enc (ps : List Pk) : (ps.flatMap Pk.enc).length = ps.length * 4 := by
  induction ps with
  | nil => rfl
  | cons e es ih => simp only [List.flatMap_cons, List.length_append, ih, List.length_cons]; simp [Pk.enc]; omega
theorem get_enc : ∀ (es : List Pk) (i : Nat) (e : Pk), es[i]? = some e → ∀ j v, e.enc[j]? = some v → (es.flatMap Pk.enc)[i * 4 + j]? = some v
  | [], i, e, h, j, v, hv => by simp at h
  | x :: es, 0, e, h, j, v, hv => by
    simp at h; subst h
    have : j < x.enc.length := (List.getElem?_eq_some_iff.1 hv).1
    rw [List.flatMap_cons, List.getElem?_append_left (by simpa using this)]
    simpa using hv
  | x :: es, i + 1, e, h, j, v, hv => by
    have hl : x.enc.length = 4 := rfl
    rw [List.flatMap_cons, List.getElem?_append_right (by omega), hl, show (i + 1) * 4 + j - 4 = i * 4 + j from by omega]
    exact get_enc es i e (by simpa using h) j v hv
theorem oneCell_enc (ps : List Pk) : ∀ u ∈ ps.flatMap Pk.enc, u.oneCell' = true := by
  intro u hu
  rw [List.mem_flatMap] at hu
  obtain ⟨e, _, he⟩ := hu
  simp [Pk.enc] at he
  rcases he with rfl | rfl | rfl | rfl <;> rfl

theorem info5 : (Try.prog.info? 5).map (fun i => (i.zero, i.size, i.bytes)) = some (some (.int .u8 0), 1, 1) := by kernel_rfl
theorem info31 : (Try.prog.info? 31).map (fun i => (i.zero, i.size, i.bytes)) = some (some (.agg #[.int .i64 0, .int .i64 0, .int .i64 0, .slice none 0 0]), 4, 48) := by kernel_rfl

set_option maxHeartbeats 1000000 in
theorem copied26 (p : Pk) (bs : List Int) (w : World) (h : Byts w (· < w.heap.size) p.A p.n bs) (hn : p.n ≤ 1000000) :
    Calls Try.prog 26 #[.agg #[.int .i64 p.num, .int .i64 p.frm, .int .i64 p.dst, .slice p.A p.n p.c]] w fun e w' => ∃ d, e = .returned (.agg #[.int .i64 p.num, .int .i64 p.frm, .int .i64 p.dst, .slice (some ⟨d, 0, none⟩) p.n p.n]) ∧ w.heap.size ≤ d ∧ Blk w' d 5 (bs.map (Value.int .u8)).toArray ∧ Below w.heap.size w w' := by
  obtain ⟨num, frm, dst, A, n, c⟩ := p
  dsimp only at *
  obtain ⟨i0, hi, hz0, hz1, hz2⟩ := info_parts info5
  have hmk := fun W => run_make (P := Try.prog) W 22 5 i0 _ Try.underlying22 hi hz0 .i64 .i64 (n : Int) (n : Int) (by omega) (Int.le_refl _) (by rw [hz2]; omega) (by omega)
  rw [hz1, Int.toNat_natCast, Nat.mul_one] at hmk
  generalize hmc : madeCells (Value.int .u8 0).cells n = mc at hmk
  have HMC := Lib.hid hmc
  clear hmc
  obtain ⟨W, hW⟩ : ∃ W, ((w.alloc (.cells #[.int .i64 num, .int .i64 frm, .int .i64 dst, .slice A n c] 31)).alloc (.cells #[.int .i64 0, .int .i64 0, .int .i64 0, .slice none 0 0] 31)).alloc (.cells mc 5) = W := ⟨_, rfl⟩
  have hB : Below w.heap.size w W := by rw [← hW]; exact (((Below.refl _ _).alloc (Nat.le_refl _) _).alloc (by simp) _).alloc (by simp; omega) _
  have k1 : Blk W w.heap.size 31 #[.int .i64 num, .int .i64 frm, .int .i64 dst, .slice A n c] := by rw [← hW]; exact ((Blk.new _ _ _).alloc _).alloc _
  have k2 : Blk W (w.heap.size + 1) 31 #[.int .i64 0, .int .i64 0, .int .i64 0, .slice none 0 0] := by
    rw [← hW]; have := (Blk.new (w.alloc (.cells #[.int .i64 num, .int .i64 frm, .int .i64 dst, .slice A n c] 31)) 31 #[.int .i64 0, .int .i64 0, .int .i64 0, .slice none 0 0]).alloc (.cells mc 5)
    rwa [World.size_alloc] at this
  have k3 : Blk W (w.heap.size + 1 + 1) 5 mc := by
    rw [← hW]; have := Blk.new ((w.alloc (.cells #[.int .i64 num, .int .i64 frm, .int .i64 dst, .slice A n c] 31)).alloc (.cells #[.int .i64 0, .int .i64 0, .int .i64 0, .slice none 0 0] 31)) 5 mc
    rwa [World.size_alloc, World.size_alloc] at this
  have hb' : Byts W (· < w.heap.size) A n bs := h.keep fun b hb => ⟨hb, hB.block b hb⟩
  have hlen : bs.length = n := h.1
  have hmcl : mc.size = n := by rw [← HMC.out, size_madeCells]
  have q1 := Lib.hid (show W.heap[w.heap.size + 1 + 1]? = some (.cells mc.toList.toArray 5 (0, 0)) from k3)
  have q2 := Lib.hid (show (bs.map (Value.int .u8)).length = Nat.min n n by simp [hlen])
  have q3 : Hid (0 < (bs.map (Value.int .u8)).length → some (⟨w.heap.size + 1 + 1, 0, none⟩ : Addr) = some ⟨w.heap.size + 1 + 1, 0, none⟩ ∧ ∃ ad, A = some ad ∧ ∀ j v, (bs.map (Value.int .u8))[j]? = some v → W.cell? (ad.add j) = some v) := fun h0 => by
    refine ⟨rfl, ?_⟩
    obtain ⟨b, off, rfl, _, hc⟩ := hb'.2 (by simpa [hlen] using h0)
    refine ⟨_, rfl, fun j v hv => ?_⟩
    rw [List.getElem?_map] at hv
    obtain ⟨x, hx, rfl⟩ := Option.map_eq_some_iff.1 hv
    rw [show ((⟨b, off, none⟩ : Addr).add j) = ⟨b, off + j, none⟩ from by unfold Addr.add; split <;> simp_all]
    exact hc j x hx
  have q4 := Lib.hid (show 0 + (bs.map (Value.int .u8)).length ≤ mc.toList.length by simp [hlen, hmcl])
  have q5 : Hid (∀ v ∈ bs.map (Value.int .u8), v.oneCell' = true) := fun v hv => by obtain ⟨x, _, rfl⟩ := List.mem_map.1 hv; rfl
  have q6 := Lib.hid (show splice mc.toList 0 (bs.map (Value.int .u8)) = bs.map (Value.int .u8) by
    unfold splice; rw [List.drop_eq_nil_of_le (by simp [hlen, hmcl])]; simp)
  have HK1 := Lib.hid k1
  have HK2 := Lib.hid k2
  have HB := Lib.hid hB
  have HW := Lib.hid hW
  clear k1 k2 k3 hb' hlen hmcl hB h hW hn
  go_enter Try.func26, Try.ntmps26
  go_wp2_with (rw [HW.out]; with_reducible refine wpList_copy_splice rfl (.tmp 8) (.tmp 10) 22 22 rfl 5 Try.underlying22 (by kernel_rfl) (some ⟨w.heap.size + 1 + 1, 0, none⟩) A n n n c rfl rfl (w.heap.size + 1 + 1) 0 mc.toList 5 q1.out (bs.map (Value.int .u8)) q2.out q3.out q4.out q5.out (w.heap.size + 1 + 1) W (Below.refl _ _) (Nat.le_refl _) ?_)
  intro w2 hg2 hb2
  rw [q6.out] at hg2
  have k1 := HK1.out.below hb2 (by omega)
  have k2 := HK2.out.below hb2 (by omega)
  have hB2 := HB.out.trans (hb2.mono (by omega))
  have hs2 : w.heap.size + 1 < w2.heap.size := k2.lt
  have hl2 := (show Blk w2 _ _ _ from hg2.out).lt
  have a0 : w2.cell? ⟨w.heap.size, 0, none⟩ = some (.int .i64 num) := k1.cell 0
  have a1 : w2.cell? ⟨w.heap.size, 1, none⟩ = some (.int .i64 frm) := k1.cell 1
  have a2 : w2.cell? ⟨w.heap.size, 2, none⟩ = some (.int .i64 dst) := k1.cell 2
  have a3 : w2.cell? ⟨w.heap.size, 3, none⟩ = some (.slice A n c) := k1.cell 3
  have f3 := k1.frozen 3
  have b0 : w2.cell? ⟨w.heap.size + 1, 0, none⟩ = some (.int .i64 0) := k2.cell 0
  have b1 : w2.cell? ⟨w.heap.size + 1, 1, none⟩ = some (.int .i64 0) := k2.cell 1
  have b2 : w2.cell? ⟨w.heap.size + 1, 2, none⟩ = some (.int .i64 0) := k2.cell 2
  have b3 : w2.cell? ⟨w.heap.size + 1, 3, none⟩ = some (.slice none 0 0) := k2.cell 3
  have g0 := k2.frozen 0
  have g1 := k2.frozen 1
  have g2 := k2.frozen 2
  have g3 := k2.frozen 3
  clear k1 k2
  go_wp2_with fail
  refine bodyPost_ret (v := .agg #[.int .i64 num, .int .i64 frm, .int .i64 dst, .slice (some ⟨w.heap.size + 1 + 1, 0, none⟩) n n]) (by simp [results, Try.results26, go_sem, b0, b1, b2, b3]) rfl ⟨_, rfl, by omega, ?_, ?_⟩
  · exact (((((show Blk w2 _ 5 _ from hg2.out).other _ _ (by simp; omega)).other _ _ (by simp)).other _ _ (by simp)).other _ _ (by simp)).other _ _ (by simp)
  · exact ((((hB2.setCell (by simp) _).setCell (by simp) _).setCell (by simp) _).setCell (by simp) _).setCell (by simp) _
end Go.Proofs.Ytledcmcpinjboaa
