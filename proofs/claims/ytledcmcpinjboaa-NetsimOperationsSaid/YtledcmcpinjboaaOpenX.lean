/-
Arguments of the statements of refmeshlaw17: bytes, operations.
-/
import Derived.Test.YtledcmcpinjboaaOpen
import Derived.Test.YtledcmcpinjboaaL
namespace Go.Proofs.Ytledcmcpinjboaa
open Go.RowKit Go.ChangeShapes Go.WideShapes Go.Deep
set_option linter.unusedVariables false

theorem leaves41 : leavesF Try.prog 5 41 = some [5, 3, 3, 22, 3] := by kernel_rfl
section
variable {H : Type} {enc : TypeId × Value → H} {w : World} {base : Nat} {spare : Nat → Bool} {held : Bool}
theorem leaf_i64 {m : Nat} {v : Value} {y : DataW H × List MemPlace} (h : DataW.trod enc Try.prog w base spare held m 3 [v] = some y) : ∃ n, v = .int .i64 n := by
  obtain ⟨n, hn, _⟩ := DataW.trod_int Try.underlying3 h
  exact ⟨n, by simpa using hn⟩
theorem leaf_u8 {m : Nat} {v : Value} {y : DataW H × List MemPlace} (h : DataW.trod enc Try.prog w base spare held m 5 [v] = some y) : ∃ n, v = .int .u8 n := by
  obtain ⟨n, hn, _⟩ := DataW.trod_int Try.underlying5 h
  exact ⟨n, by simpa using hn⟩
theorem add_none {b off j : Nat} : ((⟨b, off, none⟩ : Addr).add j) = ⟨b, off + j, none⟩ := by unfold Addr.add; split <;> simp_all
theorem bytes_of_trod {fuel : Nat} {A : Option Addr} {n cp : Nat} {x : DataW H × List MemPlace} (h : DataW.trod enc Try.prog w 0 spare held fuel 22 [.slice A n cp] = some x) : n ≤ maxLen ∧ ∃ bs, Byts w (· < w.heap.size) A n bs := by
  rcases open_slice Try.underlying22 h with ⟨hcs, _⟩ | ⟨a, len, cap, m, n', D, Pl, hcs, _, hl, hm, hmm, _, hi⟩
  · simp at hcs
    obtain ⟨rfl, rfl, rfl⟩ := hcs
    exact ⟨Nat.zero_le _, [], rfl, fun h => absurd h (by omega)⟩
  · simp at hcs
    obtain ⟨rfl, rfl, rfl⟩ := hcs
    have hle : n ≤ m := by rw [hmm]; split <;> omega
    have hc5 : Try.prog.cellsOf 5 = 1 := by kernel_rfl
    obtain ⟨bs, hel, hes⟩ := choose_list (n := n) (Q := fun i (z : Int) => w.cell? (a.add i) = some (.int .u8 z)) (fun i hin => by
      obtain ⟨cs', h1, h2⟩ := hi i (by omega)
      rw [hc5, Nat.mul_one] at h1
      obtain ⟨_, _, h3⟩ := World.cells?_some h1
      obtain ⟨v, rfl⟩ := trod_one (by intro fs h; rw [Try.underlying5] at h; cases h) (by intro n e h; rw [Try.underlying5] at h; cases h) h2
      obtain ⟨z, rfl⟩ := leaf_u8 h2
      refine ⟨z, ?_⟩
      have := h3 0 (by simp)
      rw [show ((a.add i).add 0) = a.add i from by unfold Addr.add; simp] at this
      simpa using this)
    refine ⟨by omega, bs, hel, fun h0 => ?_⟩
    have h00 : 0 < bs.length := by omega
    have hc0 := hes 0 bs[0] (List.getElem?_eq_getElem h00)
    obtain ⟨b, off, spot⟩ := a
    have hspot : spot = none := by simpa [Addr.add] using World.cell?_spot hc0
    subst hspot
    refine ⟨b, off, rfl, by simpa [Addr.add] using World.block_lt_of_cell? w _ hc0, fun j v hv => ?_⟩
    rw [← hes j v hv, add_none]
theorem leaf_bytes {m : Nat} {v : Value} {y : DataW H × List MemPlace} (h : DataW.trod enc Try.prog w 0 spare held m 22 [v] = some y) : ∃ A n c bs, v = .slice A n c ∧ Byts w (· < w.heap.size) A n bs := by
  rcases open_slice Try.underlying22 h with ⟨hcs, _⟩ | ⟨a, len, cap, m, n', D, Pl, hcs, _⟩
  · simp at hcs
    subst hcs
    obtain ⟨_, bs, hb⟩ := bytes_of_trod h
    exact ⟨_, _, _, bs, rfl, hb⟩
  · simp at hcs
    subst hcs
    obtain ⟨_, bs, hb⟩ := bytes_of_trod h
    exact ⟨_, _, _, bs, rfl, hb⟩
theorem list5 {cs : List Value} {a b c d e : Value} (hl : cs.length = 5) (h0 : cs[0]? = some a) (h1 : cs[1]? = some b) (h2 : cs[2]? = some c) (h3 : cs[3]? = some d) (h4 : cs[4]? = some e) : cs = [a, b, c, d, e] := by
  apply List.ext_getElem?
  intro n
  rcases Nat.lt_or_ge n 5 with hn | hn
  · rcases n with _ | _ | _ | _ | _ | n <;> first | assumption | omega
  · rw [List.getElem?_eq_none (by omega), List.getElem?_eq_none (by simpa using hn)]
theorem op_of_leaves {cs : List Value} (h : LeafRead enc Try.prog w 0 spare held [5, 3, 3, 22, 3] cs) : ∃ (o : Op5) (bs : List Int), cs = o.enc ∧ Byts w (· < w.heap.size) o.A o.n bs := by
  obtain ⟨hl, hr⟩ := h
  obtain ⟨v0, _, _, c0, t0⟩ := hr 0 5 rfl
  obtain ⟨v1, _, _, c1, t1⟩ := hr 1 3 rfl
  obtain ⟨v2, _, _, c2, t2⟩ := hr 2 3 rfl
  obtain ⟨v3, _, _, c3, t3⟩ := hr 3 22 rfl
  obtain ⟨v4, _, _, c4, t4⟩ := hr 4 3 rfl
  obtain ⟨a, rfl⟩ := leaf_u8 t0
  obtain ⟨f, rfl⟩ := leaf_i64 t1
  obtain ⟨t, rfl⟩ := leaf_i64 t2
  obtain ⟨A, n, c, bs, rfl, hb⟩ := leaf_bytes t3
  obtain ⟨i, rfl⟩ := leaf_i64 t4
  exact ⟨⟨a, f, t, A, n, c, i⟩, bs, list5 hl c0 c1 c2 c3 c4, hb⟩
theorem ops_of_trod {fuel : Nat} {A : Option Addr} {n cp : Nat} {x : DataW H × List MemPlace} (h : DataW.trod enc Try.prog w 0 spare held fuel 36 [.slice A n cp] = some x) : n ≤ maxLen ∧ ∃ os ds, OpSl w w.heap.size A n os ds := by
  rcases open_slice Try.underlying36 h with ⟨hcs, _⟩ | ⟨a, len, cap, m, n', D, Pl, hcs, _, hl, hm, hmm, _, hi⟩
  · simp at hcs
    obtain ⟨rfl, rfl, rfl⟩ := hcs
    exact ⟨Nat.zero_le _, [], [], rfl, rfl, fun h => absurd h (by omega), by simp⟩
  · simp at hcs
    obtain ⟨rfl, rfl, rfl⟩ := hcs
    have hle : n ≤ m := by rw [hmm]; split <;> omega
    have hc : Try.prog.cellsOf 41 = 5 := by kernel_rfl
    obtain ⟨zs, hel, hes⟩ := choose_list (n := n) (Q := fun i (z : Op5 × List Int) => (∃ cs', w.cells? 0 (a.add (i * 5)) 5 = some cs' ∧ cs' = z.1.enc) ∧ Byts w (· < w.heap.size) z.1.A z.1.n z.2) (fun i hin => by
      obtain ⟨cs', h1, h2⟩ := hi i (by omega)
      obtain ⟨o, bs, he, hb⟩ := op_of_leaves (trod_leaves 5 41 _ _ _ _ leaves41 h2)
      exact ⟨(o, bs), ⟨cs', by rw [← hc]; exact h1, he⟩, hb⟩)
    refine ⟨by omega, zs.map (·.1), zs.map (·.2), by simpa using hel, by simpa using hel, fun h0 => ?_, fun i o d ho hd => ?_⟩
    · have hcell : ∀ (i : Nat) (o : Op5), (zs.map (·.1))[i]? = some o → ∀ (j : Nat) (v : Value), o.enc[j]? = some v → w.cell? ((a.add (i * 5)).add j) = some v := by
        intro i o ho j v hv
        rw [List.getElem?_map] at ho
        obtain ⟨z, hz, rfl⟩ := Option.map_eq_some_iff.1 ho
        obtain ⟨⟨cs', h1, rfl⟩, _⟩ := hes i z hz
        obtain ⟨_, _, h3⟩ := World.cells?_some h1
        have : j < z.1.enc.length := (List.getElem?_eq_some_iff.1 hv).1
        rw [h3 j this, hv]
      have h00 : 0 < zs.length := by omega
      have hc0 := hcell 0 (zs[0]).1 (by rw [List.getElem?_map, List.getElem?_eq_getElem h00]; rfl) 0 _ rfl
      obtain ⟨b, off, spot⟩ := a
      have hspot : spot = none := by simpa [Addr.add] using World.cell?_spot hc0
      subst hspot
      refine ⟨b, off, rfl, by simpa [Addr.add] using World.block_lt_of_cell? w _ hc0, fun i o ho j v hv => ?_⟩
      rw [← hcell i o ho j v hv, add_none, add_none]
    · rw [List.getElem?_map] at ho hd
      obtain ⟨z, hz, rfl⟩ := Option.map_eq_some_iff.1 ho
      rw [hz] at hd
      simp at hd
      subst hd
      exact (hes i z hz).2
end
theorem own_ : ownKnob Try.prog.godebug = none := by kernel_rfl
theorem laidOut_ : laidOutB Try.prog = true := by kernel_rfl
end Go.Proofs.Ytledcmcpinjboaa
