/-
awake returns true.
-/
import Derived.Test.YtledcmcpinjboaaH
import Derived.Lib.SlBytesConst
import Derived.Laws.BytesArg
namespace Go.Proofs.Ytledcmcpinjboaa
open Go.RowKit
set_option linter.unusedVariables false

theorem away_fresh {w : World} {B N : Nat} {v : Value} {last : Int} {ps : List Pk} {o : Obj} (h : NetW w B N v last ps) : Away (w.alloc o) N v w.heap.size := by
  have h1 := h.box.lt
  refine ⟨by simp, by omega, fun e => ?_⟩
  have := (h.row.lt _ e.symm).2
  omega
theorem byts_fresh {w : World} {B N : Nat} {v : Value} {last : Int} {ps : List Pk} {cs : Array Value} {bs : List Int} {fr : Nat × Nat} (h : NetW w B N v last ps) (hc : cs = (bs.map (Value.int .u8)).toArray) : Byts (w.alloc (.cells cs 5 fr)) (Away (w.alloc (.cells cs 5 fr)) N v) (some ⟨w.heap.size, 0, none⟩) bs.length bs :=
  ⟨rfl, fun _ => ⟨w.heap.size, 0, rfl, away_fresh h, fun j v hv => by
    have hb : (w.alloc (.cells cs 5 fr)).heap[w.heap.size]? = some (.cells cs 5 fr) := heap_alloc_new w _
    rw [cell_of_row _ _ _ cs 5 fr hb, hc]; simp [hv]⟩⟩

set_option maxRecDepth 100000 in
set_option maxHeartbeats 2000000 in
theorem awake10 (w : World) : Calls Try.prog 10 #[] w fun e w' => e = .returned (.bool true) ∧ Below w.heap.size w w' := by
  have kc := fun (w : World) (C : Array Value) (n c : Nat) => Lib.run_convert_bytes_const (P := Try.prog) w 22 5 C n c Try.underlying22 Try.underlying5
  go_enter Try.func10, Try.ntmps10
  go_wp2_with fail
  refine (new11 _).mono ?_
  rintro e w1 ⟨rfl, rfl⟩
  have hn1 := NetW.new w w.heap.size (Nat.le_refl _)
  have hb1 : Below w.heap.size w (w.alloc (.cells #[.int .i64 0, .slice none 0 0] 58)) := (Below.refl _ _).alloc (Nat.le_refl _) _
  generalize w.alloc (.cells #[.int .i64 0, .slice none 0 0] 58) = w1 at *
  have hN := hn1.box.lt
  go_wp2_with fail
  have d1 := byts_fresh (cs := #[.int .u8 97]) (bs := [97]) (fr := (1, 1 + 1)) hn1 rfl
  refine (send12 w.heap.size _ _ 0 1 2 _ 1 1 [97] [] _ (hn1.alloc _) d1 (by omega) (by omega) (by omega) (by simp) (by simp; omega)).mono ?_
  rintro e w2 ⟨v2, k2, rfl, hn2, _, e2, s2⟩
  have b2 := hb1.trans ((((Below.refl _ _).alloc hb1.size _).trans ((hn1.alloc _).stepBelow s2 (by simp; omega))))
  have hz2 := b2.size
  clear d1 s2
  go_wp2_with fail
  have d2 := byts_fresh (cs := #[.int .u8 98]) (bs := [98]) (fr := (1, 1 + 1)) hn2 rfl
  have e2' := e2.step ((NStep.refl _ _ _).trans (NStep.of_below ((Below.refl _ _).alloc (Nat.le_refl _) (.cells #[.int .u8 98] 5 (1, 1 + 1)))))
  refine (send12 w.heap.size _ _ _ 2 1 _ 1 1 [98] _ _ (hn2.alloc _) d2 (by omega) (by omega) (by omega) (by simp) (by simp; omega)).mono ?_
  rintro e w3 ⟨v3, k3, rfl, hn3, _, e3, s3⟩
  have b3 := b2.trans (((Below.refl _ _).alloc b2.size _).trans ((hn2.alloc _).stepBelow s3 (by simp; omega)))
  have e2'' := e2'.step s3
  have hz3 := b3.size
  clear d2 s3 e2 e2'
  go_wp2_with fail
  refine (double13 w.heap.size _ _ _ 0 _ _ hn3 ⟨0 + 1, 1, 2, some ⟨k2, 0, none⟩, 1, 1⟩ [97] rfl e2'' (by simp) (by omega) (by omega) (by simp) (by simp) (by omega)).mono ?_
  rintro e w4 ⟨rfl, v4, k4, hn4, _, e4, s4⟩
  have b4 := b3.trans (hn3.stepBelow s4 (by omega))
  have hz4 := b4.size
  clear s4 e3 e2''
  go_wp2_with fail
  refine (len19 _ _ _ _ _ _ hn4).mono ?_
  rintro e w4' ⟨rfl, rfl⟩
  go_wp2_with fail
  refine (deliver15 _ _ _ _ (-1) _ _ hn4 (by simp) (by simp)).mono ?_
  rintro e w5 ⟨p, v5, hp, rfl, hd⟩
  have e5 := e4.step hd.step
  have b5 := b4.trans (hn4.stepBelow hd.step (by omega))
  obtain rfl : p = ⟨0 + 1 + 1 + 1, 1, 2, some ⟨k4, 0, none⟩, 1, 1⟩ := by
    have hq : pos (-1) 3 = 2 := by decide
    simpa [hq] using hp.symm
  obtain ⟨b, off, x, hA, hok, hx, c0⟩ := e5.at_ (k := 0) (by omega)
  simp only [Option.some.injEq, Addr.mk.injEq, and_true] at hA
  obtain ⟨rfl, rfl⟩ := hA
  simp at hx
  subst hx
  have hlt := hok.1
  have hcv : ∀ o, (convert 22 9 (.slice (some ⟨k4, 0, none⟩) 1 1)).run Try.prog (w5.alloc o) = .ok (.string ⟨#[97]⟩) (w5.alloc o) := fun o =>
    run_convert_bytes_back (P := Try.prog) (w5.alloc o) 22 9 5 ⟨k4, 0, none⟩ 1 [97] Try.underlying22 Try.underlying5 Try.underlying9 (fun j hj => by
      have hj0 : j = 0 := by simpa using hj
      subst hj0
      rw [add0]
      exact (World.cell?_of_block (Below.heap_alloc w5 o k4 hlt)).trans c0)
  clear hp e4 e5 hok c0 hd
  dsimp only
  go_wp2_with fail
  go_ret
  exact ⟨rfl, b5.alloc b5.size _⟩
end Go.Proofs.Ytledcmcpinjboaa
