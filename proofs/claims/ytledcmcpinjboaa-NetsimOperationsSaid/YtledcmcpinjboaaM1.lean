/-
Small facts for the laws.
-/
import Derived.Test.YtledcmcpinjboaaOpenX
namespace Go.Proofs.Ytledcmcpinjboaa
open Go.RowKit
set_option linter.unusedVariables false
theorem opsl_more {w : World} {B B' : Nat} {A : Option Addr} {n : Nat} {os : List Op5} {ds : List (List Int)} (h : OpSl w B A n os ds) (hB : B ≤ B') : OpSl w B' A n os ds :=
  ⟨h.1, h.2.1, fun h0 => by
    obtain ⟨b, off, h1, h2, h3⟩ := h.2.2.1 h0
    exact ⟨b, off, h1, Nat.lt_of_lt_of_le h2 hB, h3⟩, fun i o d ho hd => (h.2.2.2 i o d ho hd).imp fun b hb => Nat.lt_of_lt_of_le hb hB⟩
theorem below_alloc_size {B : Nat} {w W : World} {o : Obj} (h : Below B (w.alloc o) W) : w.heap.size + 1 ≤ W.heap.size := by have := h.size; simpa using this
theorem zip_le {w : World} {B : Nat} {A : Option Addr} {n : Nat} {os : List Op5} {ds : List (List Int)} (h : OpSl w B A n os ds) : (os.zip ds).length = n := by rw [List.length_zip, h.1, h.2.1]; omega
theorem NetW.beside {w w' : World} {B N N' : Nat} {v v' v'' : Value} {last : Int} {ps : List Pk} (h : NetW w B N v last ps) (t : NStep N' v' w v'' w') (h1 : N ≠ N') (h2 : some N ≠ v'.ownBlock) (h3 : ∀ g, v.ownBlock = some g → g ≠ N' ∧ some g ≠ v'.ownBlock) : NetW w' B N v last ps :=
  ⟨(t.block N h.box.lt h1 h2).trans h.box, own_same h.row fun g hg => t.block g (h.row.lt g hg).2 (h3 g hg).1 (h3 g hg).2, h.ne, h.le⟩
theorem Rds.fresh {w : World} {ok : Nat → Prop} {B : Nat} {ps : List Pk} {qs : List Pkt} (h : Rds w ok ps qs) (hf : Fresh B ps) : Rds w (fun b => ok b ∧ B ≤ b) ps qs :=
  ⟨h.1, fun i p q hp hq => by
    have h1 := h.2 i p q hp hq
    refine ⟨h1.num, h1.frm, h1.dst, ⟨h1.data.1, fun h0 => ?_⟩, h1.small⟩
    obtain ⟨b, off, e1, e2, e3⟩ := h1.data.2 h0
    exact ⟨b, off, e1, ⟨e2, hf p (List.mem_of_getElem? hp) b off e1⟩, e3⟩⟩
/-- the packet at place k is the next one of those that stay. -/
theorem filter_at {α : Type} {f : α → Bool} : ∀ {l : List α} {k : Nat} {q : α}, l[k]? = some q → f q = true → (l.filter f)[((l.take k).filter f).length]? = some q
  | [], k, q, h, _ => by simp at h
  | x :: l, 0, q, h, hq => by simp at h; subst h; simp [hq]
  | x :: l, k + 1, q, h, hq => by
    have h1 := filter_at (l := l) (k := k) (by simpa using h) hq
    rw [List.take_succ_cons, List.filter_cons, List.filter_cons]
    by_cases hx : f x = true
    · rw [if_pos hx, if_pos hx, List.length_cons]; simpa using h1
    · rw [if_neg hx, if_neg hx]; exact h1
theorem filter_len_snoc {α : Type} {f : α → Bool} {l : List α} {k : Nat} {q : α} (h : l[k]? = some q) : ((l.take (k + 1)).filter f).length = ((l.take k).filter f).length + (if f q then 1 else 0) := by
  rw [take_snoc h, List.filter_append, List.length_append]
  by_cases hq : f q = true <;> simp [hq]
end Go.Proofs.Ytledcmcpinjboaa
