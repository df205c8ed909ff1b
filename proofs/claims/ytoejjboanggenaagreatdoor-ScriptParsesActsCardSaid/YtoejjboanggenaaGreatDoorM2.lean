/-
Contract of forms: the walk.
-/
import Derived.Test.YtoejjboanggenaaGreatDoorM
import Derived.Deep.DeepCutAuto
namespace Go.Proofs.YtoejjboanggenaaGreatDoor
open Go.RowKit
set_option linter.unusedVariables false
set_option linter.unusedSimpArgs false
theorem parts1 {W : World} {p0 : PD} {a0 b0 c0 d0 : Value} (h0 : PartV W W.heap.size p0 [a0, b0, c0, d0]) :
    Parts (W.alloc (.cells #[a0, b0, c0, d0] 44)) (W.alloc (.cells #[a0, b0, c0, d0] 44)).heap.size W.heap.size [p0] := by
  have hb : Below W.heap.size W (W.alloc (.cells #[a0, b0, c0, d0] 44)) := (Below.refl _ _).alloc (Nat.le_refl _) _
  refine ⟨by simp, fun i pd hp => ?_⟩
  have hc := fun k => (Blk.new W 44 #[a0, b0, c0, d0]).cell k
  rcases i with _ | i
  · simp at hp
    subst hp
    refine ⟨_, (h0.below hb).more hb.size, fun j v hv => ?_⟩
    rw [hc]
    rcases j with _ | _ | _ | _ | j
    · simpa using hv
    · simpa using hv
    · simpa using hv
    · simpa using hv
    · simp at hv
  simp at hp
theorem parts2 {W : World} {p0 p1 : PD} {a0 b0 c0 d0 a1 b1 c1 d1 : Value} (h0 : PartV W W.heap.size p0 [a0, b0, c0, d0]) (h1 : PartV W W.heap.size p1 [a1, b1, c1, d1]) :
    Parts (W.alloc (.cells #[a0, b0, c0, d0, a1, b1, c1, d1] 44)) (W.alloc (.cells #[a0, b0, c0, d0, a1, b1, c1, d1] 44)).heap.size W.heap.size [p0, p1] := by
  have hb : Below W.heap.size W (W.alloc (.cells #[a0, b0, c0, d0, a1, b1, c1, d1] 44)) := (Below.refl _ _).alloc (Nat.le_refl _) _
  refine ⟨by simp, fun i pd hp => ?_⟩
  have hc := fun k => (Blk.new W 44 #[a0, b0, c0, d0, a1, b1, c1, d1]).cell k
  rcases i with _ | i
  · simp at hp
    subst hp
    refine ⟨_, (h0.below hb).more hb.size, fun j v hv => ?_⟩
    rw [hc]
    rcases j with _ | _ | _ | _ | j
    · simpa using hv
    · simpa using hv
    · simpa using hv
    · simpa using hv
    · simp at hv
  rcases i with _ | i
  · simp at hp
    subst hp
    refine ⟨_, (h1.below hb).more hb.size, fun j v hv => ?_⟩
    rw [hc]
    rcases j with _ | _ | _ | _ | j
    · simpa using hv
    · simpa using hv
    · simpa using hv
    · simpa using hv
    · simp at hv
  simp at hp
theorem parts3 {W : World} {p0 p1 p2 : PD} {a0 b0 c0 d0 a1 b1 c1 d1 a2 b2 c2 d2 : Value} (h0 : PartV W W.heap.size p0 [a0, b0, c0, d0]) (h1 : PartV W W.heap.size p1 [a1, b1, c1, d1]) (h2 : PartV W W.heap.size p2 [a2, b2, c2, d2]) :
    Parts (W.alloc (.cells #[a0, b0, c0, d0, a1, b1, c1, d1, a2, b2, c2, d2] 44)) (W.alloc (.cells #[a0, b0, c0, d0, a1, b1, c1, d1, a2, b2, c2, d2] 44)).heap.size W.heap.size [p0, p1, p2] := by
  have hb : Below W.heap.size W (W.alloc (.cells #[a0, b0, c0, d0, a1, b1, c1, d1, a2, b2, c2, d2] 44)) := (Below.refl _ _).alloc (Nat.le_refl _) _
  refine ⟨by simp, fun i pd hp => ?_⟩
  have hc := fun k => (Blk.new W 44 #[a0, b0, c0, d0, a1, b1, c1, d1, a2, b2, c2, d2]).cell k
  rcases i with _ | i
  · simp at hp
    subst hp
    refine ⟨_, (h0.below hb).more hb.size, fun j v hv => ?_⟩
    rw [hc]
    rcases j with _ | _ | _ | _ | j
    · simpa using hv
    · simpa using hv
    · simpa using hv
    · simpa using hv
    · simp at hv
  rcases i with _ | i
  · simp at hp
    subst hp
    refine ⟨_, (h1.below hb).more hb.size, fun j v hv => ?_⟩
    rw [hc]
    rcases j with _ | _ | _ | _ | j
    · simpa using hv
    · simpa using hv
    · simpa using hv
    · simpa using hv
    · simp at hv
  rcases i with _ | i
  · simp at hp
    subst hp
    refine ⟨_, (h2.below hb).more hb.size, fun j v hv => ?_⟩
    rw [hc]
    rcases j with _ | _ | _ | _ | j
    · simpa using hv
    · simpa using hv
    · simpa using hv
    · simpa using hv
    · simp at hv
  simp at hp
theorem parts4 {W : World} {p0 p1 p2 p3 : PD} {a0 b0 c0 d0 a1 b1 c1 d1 a2 b2 c2 d2 a3 b3 c3 d3 : Value} (h0 : PartV W W.heap.size p0 [a0, b0, c0, d0]) (h1 : PartV W W.heap.size p1 [a1, b1, c1, d1]) (h2 : PartV W W.heap.size p2 [a2, b2, c2, d2]) (h3 : PartV W W.heap.size p3 [a3, b3, c3, d3]) :
    Parts (W.alloc (.cells #[a0, b0, c0, d0, a1, b1, c1, d1, a2, b2, c2, d2, a3, b3, c3, d3] 44)) (W.alloc (.cells #[a0, b0, c0, d0, a1, b1, c1, d1, a2, b2, c2, d2, a3, b3, c3, d3] 44)).heap.size W.heap.size [p0, p1, p2, p3] := by
  have hb : Below W.heap.size W (W.alloc (.cells #[a0, b0, c0, d0, a1, b1, c1, d1, a2, b2, c2, d2, a3, b3, c3, d3] 44)) := (Below.refl _ _).alloc (Nat.le_refl _) _
  refine ⟨by simp, fun i pd hp => ?_⟩
  have hc := fun k => (Blk.new W 44 #[a0, b0, c0, d0, a1, b1, c1, d1, a2, b2, c2, d2, a3, b3, c3, d3]).cell k
  rcases i with _ | i
  · simp at hp
    subst hp
    refine ⟨_, (h0.below hb).more hb.size, fun j v hv => ?_⟩
    rw [hc]
    rcases j with _ | _ | _ | _ | j
    · simpa using hv
    · simpa using hv
    · simpa using hv
    · simpa using hv
    · simp at hv
  rcases i with _ | i
  · simp at hp
    subst hp
    refine ⟨_, (h1.below hb).more hb.size, fun j v hv => ?_⟩
    rw [hc]
    rcases j with _ | _ | _ | _ | j
    · simpa using hv
    · simpa using hv
    · simpa using hv
    · simpa using hv
    · simp at hv
  rcases i with _ | i
  · simp at hp
    subst hp
    refine ⟨_, (h2.below hb).more hb.size, fun j v hv => ?_⟩
    rw [hc]
    rcases j with _ | _ | _ | _ | j
    · simpa using hv
    · simpa using hv
    · simpa using hv
    · simpa using hv
    · simp at hv
  rcases i with _ | i
  · simp at hp
    subst hp
    refine ⟨_, (h3.below hb).more hb.size, fun j v hv => ?_⟩
    rw [hc]
    rcases j with _ | _ | _ | _ | j
    · simpa using hv
    · simpa using hv
    · simpa using hv
    · simpa using hv
    · simp at hv
  simp at hp
set_option maxRecDepth 100000 in
set_option maxHeartbeats 4000000 in
theorem forms_new {W : World} {g0 g1 g2 g3 g4 g5 g6 g7 g8 g9 g10 g11 g12 g13 g14 g15 : Nat} (h0 : Parts W W.heap.size g0 [.numA 1 8, .numB 0 1099511627776]) (h1 : Parts W W.heap.size g1 [.numA 0 1099511627776]) (h2 : Parts W W.heap.size g2 [.numA 0 1099511627776]) (h3 : Parts W W.heap.size g3 [.numA 0 1099511627776]) (h4 : Parts W W.heap.size g4 [.numA 1 8]) (h5 : Parts W W.heap.size g5 [.numA 1 8]) (h6 : Parts W W.heap.size g6 [.numA 1 8]) (h7 : Parts W W.heap.size g7 [.numA 1 8, .surv]) (h8 : Parts W W.heap.size g8 [.numA 1 8]) (h9 : Parts W W.heap.size g9 [.numA 1 8]) (h10 : Parts W W.heap.size g10 [.numA 1 8, .numB 0 1099511627776]) (h11 : Parts W W.heap.size g11 [.numA 1 8, .nam 2, .met 3, .rest 30]) (h12 : Parts W W.heap.size g12 [.nam 2, .met 2, .rest 8]) (h13 : Parts W W.heap.size g13 [.nam 2]) (h14 : Parts W W.heap.size g14 [.numA 1 8, .numB 1 8]) (h15 : Parts W W.heap.size g15 [.numB 0 1000]) :
    Forms (W.alloc (.cells #[.int .i64 0, .string ⟨#[116, 117, 114, 110]⟩, .slice (some ⟨g0, 0, none⟩) 2 2, .int .i64 1, .string ⟨#[100, 101, 108, 105, 118, 101, 114]⟩, .slice (some ⟨g1, 0, none⟩) 1 1, .int .i64 2, .string ⟨#[100, 114, 111, 112]⟩, .slice (some ⟨g2, 0, none⟩) 1 1, .int .i64 3, .string ⟨#[100, 111, 117, 98, 108, 101]⟩, .slice (some ⟨g3, 0, none⟩) 1 1, .int .i64 4, .string ⟨#[116, 105, 99, 107]⟩, .slice (some ⟨g4, 0, none⟩) 1 1, .int .i64 5, .string ⟨#[109, 105, 110, 111, 114]⟩, .slice (some ⟨g5, 0, none⟩) 1 1, .int .i64 6, .string ⟨#[109, 97, 106, 111, 114]⟩, .slice (some ⟨g6, 0, none⟩) 1 1, .int .i64 7, .string ⟨#[99, 114, 97, 115, 104]⟩, .slice (some ⟨g7, 0, none⟩) 2 2, .int .i64 8, .string ⟨#[114, 101, 115, 116, 97, 114, 116]⟩, .slice (some ⟨g8, 0, none⟩) 1 1, .int .i64 9, .string ⟨#[99, 104, 101, 99, 107, 112, 111, 105, 110, 116]⟩, .slice (some ⟨g9, 0, none⟩) 1 1, .int .i64 10, .string ⟨#[102, 97, 105, 108]⟩, .slice (some ⟨g10, 0, none⟩) 2 2, .int .i64 11, .string ⟨#[115, 112, 97, 119, 110]⟩, .slice (some ⟨g11, 0, none⟩) 4 4, .int .i64 12, .string ⟨#[112, 111, 115, 116]⟩, .slice (some ⟨g12, 0, none⟩) 3 3, .int .i64 13, .string ⟨#[114, 101, 108, 101, 97, 115, 101]⟩, .slice (some ⟨g13, 0, none⟩) 1 1, .int .i64 14, .string ⟨#[114, 101, 116, 105, 114, 101]⟩, .slice (some ⟨g14, 0, none⟩) 2 2, .int .i64 15, .string ⟨#[99, 97, 108, 109]⟩, .slice (some ⟨g15, 0, none⟩) 1 1] 36)) (W.alloc (.cells #[.int .i64 0, .string ⟨#[116, 117, 114, 110]⟩, .slice (some ⟨g0, 0, none⟩) 2 2, .int .i64 1, .string ⟨#[100, 101, 108, 105, 118, 101, 114]⟩, .slice (some ⟨g1, 0, none⟩) 1 1, .int .i64 2, .string ⟨#[100, 114, 111, 112]⟩, .slice (some ⟨g2, 0, none⟩) 1 1, .int .i64 3, .string ⟨#[100, 111, 117, 98, 108, 101]⟩, .slice (some ⟨g3, 0, none⟩) 1 1, .int .i64 4, .string ⟨#[116, 105, 99, 107]⟩, .slice (some ⟨g4, 0, none⟩) 1 1, .int .i64 5, .string ⟨#[109, 105, 110, 111, 114]⟩, .slice (some ⟨g5, 0, none⟩) 1 1, .int .i64 6, .string ⟨#[109, 97, 106, 111, 114]⟩, .slice (some ⟨g6, 0, none⟩) 1 1, .int .i64 7, .string ⟨#[99, 114, 97, 115, 104]⟩, .slice (some ⟨g7, 0, none⟩) 2 2, .int .i64 8, .string ⟨#[114, 101, 115, 116, 97, 114, 116]⟩, .slice (some ⟨g8, 0, none⟩) 1 1, .int .i64 9, .string ⟨#[99, 104, 101, 99, 107, 112, 111, 105, 110, 116]⟩, .slice (some ⟨g9, 0, none⟩) 1 1, .int .i64 10, .string ⟨#[102, 97, 105, 108]⟩, .slice (some ⟨g10, 0, none⟩) 2 2, .int .i64 11, .string ⟨#[115, 112, 97, 119, 110]⟩, .slice (some ⟨g11, 0, none⟩) 4 4, .int .i64 12, .string ⟨#[112, 111, 115, 116]⟩, .slice (some ⟨g12, 0, none⟩) 3 3, .int .i64 13, .string ⟨#[114, 101, 108, 101, 97, 115, 101]⟩, .slice (some ⟨g13, 0, none⟩) 1 1, .int .i64 14, .string ⟨#[114, 101, 116, 105, 114, 101]⟩, .slice (some ⟨g14, 0, none⟩) 2 2, .int .i64 15, .string ⟨#[99, 97, 108, 109]⟩, .slice (some ⟨g15, 0, none⟩) 1 1] 36)).heap.size W.heap.size formsFD := by
  have hb : Below W.heap.size W (W.alloc (.cells #[.int .i64 0, .string ⟨#[116, 117, 114, 110]⟩, .slice (some ⟨g0, 0, none⟩) 2 2, .int .i64 1, .string ⟨#[100, 101, 108, 105, 118, 101, 114]⟩, .slice (some ⟨g1, 0, none⟩) 1 1, .int .i64 2, .string ⟨#[100, 114, 111, 112]⟩, .slice (some ⟨g2, 0, none⟩) 1 1, .int .i64 3, .string ⟨#[100, 111, 117, 98, 108, 101]⟩, .slice (some ⟨g3, 0, none⟩) 1 1, .int .i64 4, .string ⟨#[116, 105, 99, 107]⟩, .slice (some ⟨g4, 0, none⟩) 1 1, .int .i64 5, .string ⟨#[109, 105, 110, 111, 114]⟩, .slice (some ⟨g5, 0, none⟩) 1 1, .int .i64 6, .string ⟨#[109, 97, 106, 111, 114]⟩, .slice (some ⟨g6, 0, none⟩) 1 1, .int .i64 7, .string ⟨#[99, 114, 97, 115, 104]⟩, .slice (some ⟨g7, 0, none⟩) 2 2, .int .i64 8, .string ⟨#[114, 101, 115, 116, 97, 114, 116]⟩, .slice (some ⟨g8, 0, none⟩) 1 1, .int .i64 9, .string ⟨#[99, 104, 101, 99, 107, 112, 111, 105, 110, 116]⟩, .slice (some ⟨g9, 0, none⟩) 1 1, .int .i64 10, .string ⟨#[102, 97, 105, 108]⟩, .slice (some ⟨g10, 0, none⟩) 2 2, .int .i64 11, .string ⟨#[115, 112, 97, 119, 110]⟩, .slice (some ⟨g11, 0, none⟩) 4 4, .int .i64 12, .string ⟨#[112, 111, 115, 116]⟩, .slice (some ⟨g12, 0, none⟩) 3 3, .int .i64 13, .string ⟨#[114, 101, 108, 101, 97, 115, 101]⟩, .slice (some ⟨g13, 0, none⟩) 1 1, .int .i64 14, .string ⟨#[114, 101, 116, 105, 114, 101]⟩, .slice (some ⟨g14, 0, none⟩) 2 2, .int .i64 15, .string ⟨#[99, 97, 108, 109]⟩, .slice (some ⟨g15, 0, none⟩) 1 1] 36)) := (Below.refl _ _).alloc (Nat.le_refl _) _
  refine ⟨by simp, fun i fd hp => ?_⟩
  have hc := fun k => (Blk.new W 36 #[.int .i64 0, .string ⟨#[116, 117, 114, 110]⟩, .slice (some ⟨g0, 0, none⟩) 2 2, .int .i64 1, .string ⟨#[100, 101, 108, 105, 118, 101, 114]⟩, .slice (some ⟨g1, 0, none⟩) 1 1, .int .i64 2, .string ⟨#[100, 114, 111, 112]⟩, .slice (some ⟨g2, 0, none⟩) 1 1, .int .i64 3, .string ⟨#[100, 111, 117, 98, 108, 101]⟩, .slice (some ⟨g3, 0, none⟩) 1 1, .int .i64 4, .string ⟨#[116, 105, 99, 107]⟩, .slice (some ⟨g4, 0, none⟩) 1 1, .int .i64 5, .string ⟨#[109, 105, 110, 111, 114]⟩, .slice (some ⟨g5, 0, none⟩) 1 1, .int .i64 6, .string ⟨#[109, 97, 106, 111, 114]⟩, .slice (some ⟨g6, 0, none⟩) 1 1, .int .i64 7, .string ⟨#[99, 114, 97, 115, 104]⟩, .slice (some ⟨g7, 0, none⟩) 2 2, .int .i64 8, .string ⟨#[114, 101, 115, 116, 97, 114, 116]⟩, .slice (some ⟨g8, 0, none⟩) 1 1, .int .i64 9, .string ⟨#[99, 104, 101, 99, 107, 112, 111, 105, 110, 116]⟩, .slice (some ⟨g9, 0, none⟩) 1 1, .int .i64 10, .string ⟨#[102, 97, 105, 108]⟩, .slice (some ⟨g10, 0, none⟩) 2 2, .int .i64 11, .string ⟨#[115, 112, 97, 119, 110]⟩, .slice (some ⟨g11, 0, none⟩) 4 4, .int .i64 12, .string ⟨#[112, 111, 115, 116]⟩, .slice (some ⟨g12, 0, none⟩) 3 3, .int .i64 13, .string ⟨#[114, 101, 108, 101, 97, 115, 101]⟩, .slice (some ⟨g13, 0, none⟩) 1 1, .int .i64 14, .string ⟨#[114, 101, 116, 105, 114, 101]⟩, .slice (some ⟨g14, 0, none⟩) 2 2, .int .i64 15, .string ⟨#[99, 97, 108, 109]⟩, .slice (some ⟨g15, 0, none⟩) 1 1]).cell k
  unfold formsFD at hp
  rcases i with _ | i
  · simp at hp
    subst hp
    refine ⟨g0, (h0.below hb).more hb.size, fun j v hv => ?_⟩
    rw [hc]
    unfold formV at hv
    rcases j with _ | _ | _ | j
    · simpa using hv
    · simpa using hv
    · simpa using hv
    · simp at hv
  rcases i with _ | i
  · simp at hp
    subst hp
    refine ⟨g1, (h1.below hb).more hb.size, fun j v hv => ?_⟩
    rw [hc]
    unfold formV at hv
    rcases j with _ | _ | _ | j
    · simpa using hv
    · simpa using hv
    · simpa using hv
    · simp at hv
  rcases i with _ | i
  · simp at hp
    subst hp
    refine ⟨g2, (h2.below hb).more hb.size, fun j v hv => ?_⟩
    rw [hc]
    unfold formV at hv
    rcases j with _ | _ | _ | j
    · simpa using hv
    · simpa using hv
    · simpa using hv
    · simp at hv
  rcases i with _ | i
  · simp at hp
    subst hp
    refine ⟨g3, (h3.below hb).more hb.size, fun j v hv => ?_⟩
    rw [hc]
    unfold formV at hv
    rcases j with _ | _ | _ | j
    · simpa using hv
    · simpa using hv
    · simpa using hv
    · simp at hv
  rcases i with _ | i
  · simp at hp
    subst hp
    refine ⟨g4, (h4.below hb).more hb.size, fun j v hv => ?_⟩
    rw [hc]
    unfold formV at hv
    rcases j with _ | _ | _ | j
    · simpa using hv
    · simpa using hv
    · simpa using hv
    · simp at hv
  rcases i with _ | i
  · simp at hp
    subst hp
    refine ⟨g5, (h5.below hb).more hb.size, fun j v hv => ?_⟩
    rw [hc]
    unfold formV at hv
    rcases j with _ | _ | _ | j
    · simpa using hv
    · simpa using hv
    · simpa using hv
    · simp at hv
  rcases i with _ | i
  · simp at hp
    subst hp
    refine ⟨g6, (h6.below hb).more hb.size, fun j v hv => ?_⟩
    rw [hc]
    unfold formV at hv
    rcases j with _ | _ | _ | j
    · simpa using hv
    · simpa using hv
    · simpa using hv
    · simp at hv
  rcases i with _ | i
  · simp at hp
    subst hp
    refine ⟨g7, (h7.below hb).more hb.size, fun j v hv => ?_⟩
    rw [hc]
    unfold formV at hv
    rcases j with _ | _ | _ | j
    · simpa using hv
    · simpa using hv
    · simpa using hv
    · simp at hv
  rcases i with _ | i
  · simp at hp
    subst hp
    refine ⟨g8, (h8.below hb).more hb.size, fun j v hv => ?_⟩
    rw [hc]
    unfold formV at hv
    rcases j with _ | _ | _ | j
    · simpa using hv
    · simpa using hv
    · simpa using hv
    · simp at hv
  rcases i with _ | i
  · simp at hp
    subst hp
    refine ⟨g9, (h9.below hb).more hb.size, fun j v hv => ?_⟩
    rw [hc]
    unfold formV at hv
    rcases j with _ | _ | _ | j
    · simpa using hv
    · simpa using hv
    · simpa using hv
    · simp at hv
  rcases i with _ | i
  · simp at hp
    subst hp
    refine ⟨g10, (h10.below hb).more hb.size, fun j v hv => ?_⟩
    rw [hc]
    unfold formV at hv
    rcases j with _ | _ | _ | j
    · simpa using hv
    · simpa using hv
    · simpa using hv
    · simp at hv
  rcases i with _ | i
  · simp at hp
    subst hp
    refine ⟨g11, (h11.below hb).more hb.size, fun j v hv => ?_⟩
    rw [hc]
    unfold formV at hv
    rcases j with _ | _ | _ | j
    · simpa using hv
    · simpa using hv
    · simpa using hv
    · simp at hv
  rcases i with _ | i
  · simp at hp
    subst hp
    refine ⟨g12, (h12.below hb).more hb.size, fun j v hv => ?_⟩
    rw [hc]
    unfold formV at hv
    rcases j with _ | _ | _ | j
    · simpa using hv
    · simpa using hv
    · simpa using hv
    · simp at hv
  rcases i with _ | i
  · simp at hp
    subst hp
    refine ⟨g13, (h13.below hb).more hb.size, fun j v hv => ?_⟩
    rw [hc]
    unfold formV at hv
    rcases j with _ | _ | _ | j
    · simpa using hv
    · simpa using hv
    · simpa using hv
    · simp at hv
  rcases i with _ | i
  · simp at hp
    subst hp
    refine ⟨g14, (h14.below hb).more hb.size, fun j v hv => ?_⟩
    rw [hc]
    unfold formV at hv
    rcases j with _ | _ | _ | j
    · simpa using hv
    · simpa using hv
    · simpa using hv
    · simp at hv
  rcases i with _ | i
  · simp at hp
    subst hp
    refine ⟨g15, (h15.below hb).more hb.size, fun j v hv => ?_⟩
    rw [hc]
    unfold formV at hv
    rcases j with _ | _ | _ | j
    · simpa using hv
    · simpa using hv
    · simpa using hv
    · simp at hv
  simp at hp
set_option maxRecDepth 100000 in
set_option maxHeartbeats 40000000 in
theorem forms27 (w : World) : Calls Tryz.prog 27 #[] w fun e w' => ∃ g, e = .returned (.slice (some ⟨g, 0, none⟩) 16 16) ∧ Forms w' w'.heap.size g formsFD ∧ Below w.heap.size w w' := by
  have n38 := fun lo hi w => numeric37_38 lo hi w
  have n39 := fun lo hi w => numeric37_39 lo hi w
  have n41 := fun k w => named40_41 k w
  have n42 := fun k w => named40_42 k w
  unfold fnv at n38 n39 n41 n42
  have N38 := Lib.hid n38
  have N39 := Lib.hid n39
  have N41 := Lib.hid n41
  have N42 := Lib.hid n42
  clear n38 n39 n41 n42
  go_enter Tryz.func27, Tryz.ntmps27
  go_wp2_with fail
  refine (N38.out _ _ _).mono ?_
  rintro e w1 ⟨_, _, _, _, rfl, h1, k1⟩
  have H1 := Lib.hid h1
  obtain ⟨b10, b11, b12, e1, h1⟩ := h1
  simp only [List.cons.injEq, and_true] at e1
  obtain ⟨rfl, rfl, rfl, rfl⟩ := e1
  have B1 := Lib.hid (k1)
  clear h1 k1
  go_wp2_with fail
  refine (N39.out _ _ _).mono ?_
  rintro e w2 ⟨_, _, _, _, rfl, h2, k2⟩
  have H2 := Lib.hid h2
  obtain ⟨b20, b21, b22, e2, h2⟩ := h2
  simp only [List.cons.injEq, and_true] at e2
  obtain ⟨rfl, rfl, rfl, rfl⟩ := e2
  have B2 := Lib.hid ((B1.out.trans (k2.mono B1.out.size)))
  have H1 := Lib.hid ((H1.out.below k2).more k2.size)
  clear h2 k2
  go_wp2_with fail
  have q1 := ((Blk.new w2 44 #[.func (.func 54) #[] #[ptr b10], .func (.func 56) #[] #[ptr b10], .func (.func 58) #[] #[ptr b10, ptr b11, ptr b12], .func (.func 59) #[] #[ptr b10]]).alloc (.cells #[.func (.func 54) #[] #[ptr b20], .func (.func 56) #[] #[ptr b20], .func (.func 58) #[] #[ptr b20, ptr b21, ptr b22], .func (.func 59) #[] #[ptr b20]] 44))
  have q2 := (Blk.new (w2.alloc (.cells #[.func (.func 54) #[] #[ptr b10], .func (.func 56) #[] #[ptr b10], .func (.func 58) #[] #[ptr b10, ptr b11, ptr b12], .func (.func 59) #[] #[ptr b10]] 44)) 44 #[.func (.func 54) #[] #[ptr b20], .func (.func 56) #[] #[ptr b20], .func (.func 58) #[] #[ptr b20, ptr b21, ptr b22], .func (.func 59) #[] #[ptr b20]])
  rw [World.size_alloc] at q2
  have k0 : Below w2.heap.size w2 ((w2.alloc (.cells #[.func (.func 54) #[] #[ptr b10], .func (.func 56) #[] #[ptr b10], .func (.func 58) #[] #[ptr b10, ptr b11, ptr b12], .func (.func 59) #[] #[ptr b10]] 44)).alloc (.cells #[.func (.func 54) #[] #[ptr b20], .func (.func 56) #[] #[ptr b20], .func (.func 58) #[] #[ptr b20, ptr b21, ptr b22], .func (.func 59) #[] #[ptr b20]] 44)) := (((Below.refl _ _).alloc (by simp <;> omega) (.cells #[.func (.func 54) #[] #[ptr b10], .func (.func 56) #[] #[ptr b10], .func (.func 58) #[] #[ptr b10, ptr b11, ptr b12], .func (.func 59) #[] #[ptr b10]] 44)).alloc (by simp <;> omega) (.cells #[.func (.func 54) #[] #[ptr b20], .func (.func 56) #[] #[ptr b20], .func (.func 58) #[] #[ptr b20, ptr b21, ptr b22], .func (.func 59) #[] #[ptr b20]] 44))
  have H1 := Lib.hid ((H1.out.below k0).more k0.size)
  have H2 := Lib.hid ((H2.out.below k0).more k0.size)
  have B2 := Lib.hid (B2.out.trans (k0.mono B2.out.size))
  generalize ((w2.alloc (.cells #[.func (.func 54) #[] #[ptr b10], .func (.func 56) #[] #[ptr b10], .func (.func 58) #[] #[ptr b10, ptr b11, ptr b12], .func (.func 59) #[] #[ptr b10]] 44)).alloc (.cells #[.func (.func 54) #[] #[ptr b20], .func (.func 56) #[] #[ptr b20], .func (.func 58) #[] #[ptr b20, ptr b21, ptr b22], .func (.func 59) #[] #[ptr b20]] 44)) = W0 at *
  have P1 := Lib.hid q1
  clear q1
  have P2 := Lib.hid q2
  clear q2
  clear k0
  refine (N38.out _ _ _).mono ?_
  rintro e w3 ⟨_, _, _, _, rfl, h3, k3⟩
  have H3 := Lib.hid h3
  obtain ⟨b30, b31, b32, e3, h3⟩ := h3
  simp only [List.cons.injEq, and_true] at e3
  obtain ⟨rfl, rfl, rfl, rfl⟩ := e3
  have B3 := Lib.hid ((B2.out.trans (k3.mono B2.out.size)))
  have H1 := Lib.hid ((H1.out.below k3).more k3.size)
  have H2 := Lib.hid ((H2.out.below k3).more k3.size)
  have P1 := Lib.hid (P1.out.below k3 P1.out.lt)
  have P2 := Lib.hid (P2.out.below k3 P2.out.lt)
  clear h3 k3
  go_wp2_with fail
  refine (N39.out _ _ _).mono ?_
  rintro e w4 ⟨_, _, _, _, rfl, h4, k4⟩
  have H4 := Lib.hid h4
  obtain ⟨b40, b41, b42, e4, h4⟩ := h4
  simp only [List.cons.injEq, and_true] at e4
  obtain ⟨rfl, rfl, rfl, rfl⟩ := e4
  have B4 := Lib.hid ((B3.out.trans (k4.mono B3.out.size)))
  have H1 := Lib.hid ((H1.out.below k4).more k4.size)
  have H2 := Lib.hid ((H2.out.below k4).more k4.size)
  have H3 := Lib.hid ((H3.out.below k4).more k4.size)
  have P1 := Lib.hid (P1.out.below k4 P1.out.lt)
  have P2 := Lib.hid (P2.out.below k4 P2.out.lt)
  clear h4 k4
  go_wp2_with fail
  have q3 := ((Blk.new w4 44 #[.func (.func 54) #[] #[ptr b30], .func (.func 56) #[] #[ptr b30], .func (.func 58) #[] #[ptr b30, ptr b31, ptr b32], .func (.func 59) #[] #[ptr b30]]).alloc (.cells #[.func (.func 54) #[] #[ptr b40], .func (.func 56) #[] #[ptr b40], .func (.func 58) #[] #[ptr b40, ptr b41, ptr b42], .func (.func 59) #[] #[ptr b40]] 44))
  have q4 := (Blk.new (w4.alloc (.cells #[.func (.func 54) #[] #[ptr b30], .func (.func 56) #[] #[ptr b30], .func (.func 58) #[] #[ptr b30, ptr b31, ptr b32], .func (.func 59) #[] #[ptr b30]] 44)) 44 #[.func (.func 54) #[] #[ptr b40], .func (.func 56) #[] #[ptr b40], .func (.func 58) #[] #[ptr b40, ptr b41, ptr b42], .func (.func 59) #[] #[ptr b40]])
  rw [World.size_alloc] at q4
  have k0 : Below w4.heap.size w4 ((w4.alloc (.cells #[.func (.func 54) #[] #[ptr b30], .func (.func 56) #[] #[ptr b30], .func (.func 58) #[] #[ptr b30, ptr b31, ptr b32], .func (.func 59) #[] #[ptr b30]] 44)).alloc (.cells #[.func (.func 54) #[] #[ptr b40], .func (.func 56) #[] #[ptr b40], .func (.func 58) #[] #[ptr b40, ptr b41, ptr b42], .func (.func 59) #[] #[ptr b40]] 44)) := (((Below.refl _ _).alloc (by simp <;> omega) (.cells #[.func (.func 54) #[] #[ptr b30], .func (.func 56) #[] #[ptr b30], .func (.func 58) #[] #[ptr b30, ptr b31, ptr b32], .func (.func 59) #[] #[ptr b30]] 44)).alloc (by simp <;> omega) (.cells #[.func (.func 54) #[] #[ptr b40], .func (.func 56) #[] #[ptr b40], .func (.func 58) #[] #[ptr b40, ptr b41, ptr b42], .func (.func 59) #[] #[ptr b40]] 44))
  have H1 := Lib.hid ((H1.out.below k0).more k0.size)
  have H2 := Lib.hid ((H2.out.below k0).more k0.size)
  have H3 := Lib.hid ((H3.out.below k0).more k0.size)
  have H4 := Lib.hid ((H4.out.below k0).more k0.size)
  have P1 := Lib.hid (P1.out.below k0 P1.out.lt)
  have P2 := Lib.hid (P2.out.below k0 P2.out.lt)
  have B4 := Lib.hid (B4.out.trans (k0.mono B4.out.size))
  generalize ((w4.alloc (.cells #[.func (.func 54) #[] #[ptr b30], .func (.func 56) #[] #[ptr b30], .func (.func 58) #[] #[ptr b30, ptr b31, ptr b32], .func (.func 59) #[] #[ptr b30]] 44)).alloc (.cells #[.func (.func 54) #[] #[ptr b40], .func (.func 56) #[] #[ptr b40], .func (.func 58) #[] #[ptr b40, ptr b41, ptr b42], .func (.func 59) #[] #[ptr b40]] 44)) = W1 at *
  have P3 := Lib.hid q3
  clear q3
  have P4 := Lib.hid q4
  clear q4
  clear k0
  refine (N41.out _ _).mono ?_
  rintro e w5 ⟨_, _, _, _, rfl, h5, k5⟩
  have H5 := Lib.hid h5
  obtain ⟨b50, b51, e5, h5⟩ := h5
  simp only [List.cons.injEq, and_true] at e5
  obtain ⟨rfl, rfl, rfl, rfl⟩ := e5
  have B5 := Lib.hid ((B4.out.trans (k5.mono B4.out.size)))
  have H1 := Lib.hid ((H1.out.below k5).more k5.size)
  have H2 := Lib.hid ((H2.out.below k5).more k5.size)
  have H3 := Lib.hid ((H3.out.below k5).more k5.size)
  have H4 := Lib.hid ((H4.out.below k5).more k5.size)
  have P1 := Lib.hid (P1.out.below k5 P1.out.lt)
  have P2 := Lib.hid (P2.out.below k5 P2.out.lt)
  have P3 := Lib.hid (P3.out.below k5 P3.out.lt)
  have P4 := Lib.hid (P4.out.below k5 P4.out.lt)
  clear h5 k5
  go_wp2_with fail
  refine (N42.out _ _).mono ?_
  rintro e w6 ⟨_, _, _, _, rfl, h6, k6⟩
  have H6 := Lib.hid h6
  obtain ⟨b60, b61, e6, h6⟩ := h6
  simp only [List.cons.injEq, and_true] at e6
  obtain ⟨rfl, rfl, rfl, rfl⟩ := e6
  have B6 := Lib.hid ((B5.out.trans (k6.mono B5.out.size)))
  have H1 := Lib.hid ((H1.out.below k6).more k6.size)
  have H2 := Lib.hid ((H2.out.below k6).more k6.size)
  have H3 := Lib.hid ((H3.out.below k6).more k6.size)
  have H4 := Lib.hid ((H4.out.below k6).more k6.size)
  have H5 := Lib.hid ((H5.out.below k6).more k6.size)
  have P1 := Lib.hid (P1.out.below k6 P1.out.lt)
  have P2 := Lib.hid (P2.out.below k6 P2.out.lt)
  have P3 := Lib.hid (P3.out.below k6 P3.out.lt)
  have P4 := Lib.hid (P4.out.below k6 P4.out.lt)
  clear h6 k6
  go_wp2_with fail
  refine (N42.out _ _).mono ?_
  rintro e w7 ⟨_, _, _, _, rfl, h7, k7⟩
  have H7 := Lib.hid h7
  obtain ⟨b70, b71, e7, h7⟩ := h7
  simp only [List.cons.injEq, and_true] at e7
  obtain ⟨rfl, rfl, rfl, rfl⟩ := e7
  have B7 := Lib.hid ((B6.out.trans (k7.mono B6.out.size)))
  have H1 := Lib.hid ((H1.out.below k7).more k7.size)
  have H2 := Lib.hid ((H2.out.below k7).more k7.size)
  have H3 := Lib.hid ((H3.out.below k7).more k7.size)
  have H4 := Lib.hid ((H4.out.below k7).more k7.size)
  have H5 := Lib.hid ((H5.out.below k7).more k7.size)
  have H6 := Lib.hid ((H6.out.below k7).more k7.size)
  have P1 := Lib.hid (P1.out.below k7 P1.out.lt)
  have P2 := Lib.hid (P2.out.below k7 P2.out.lt)
  have P3 := Lib.hid (P3.out.below k7 P3.out.lt)
  have P4 := Lib.hid (P4.out.below k7 P4.out.lt)
  clear h7 k7
  go_upto_region 4 with (fail)
  have q5 := (((Blk.new w7 44 #[.func (.func 60) #[] #[ptr b50], .func (.func 61) #[] #[ptr b50], .func (.func 62) #[] #[ptr b50, ptr b51], .func (.func 64) #[] #[ptr b50]]).alloc (.cells #[.func (.func 60) #[] #[ptr b60], .func (.func 61) #[] #[ptr b60], .func (.func 62) #[] #[ptr b60, ptr b61], .func (.func 64) #[] #[ptr b60]] 44)).alloc (.cells #[.func (.func 60) #[] #[ptr b70], .func (.func 61) #[] #[ptr b70], .func (.func 62) #[] #[ptr b70, ptr b71], .func (.func 64) #[] #[ptr b70]] 44))
  have q6 := ((Blk.new (w7.alloc (.cells #[.func (.func 60) #[] #[ptr b50], .func (.func 61) #[] #[ptr b50], .func (.func 62) #[] #[ptr b50, ptr b51], .func (.func 64) #[] #[ptr b50]] 44)) 44 #[.func (.func 60) #[] #[ptr b60], .func (.func 61) #[] #[ptr b60], .func (.func 62) #[] #[ptr b60, ptr b61], .func (.func 64) #[] #[ptr b60]]).alloc (.cells #[.func (.func 60) #[] #[ptr b70], .func (.func 61) #[] #[ptr b70], .func (.func 62) #[] #[ptr b70, ptr b71], .func (.func 64) #[] #[ptr b70]] 44))
  rw [World.size_alloc] at q6
  have q7 := (Blk.new ((w7.alloc (.cells #[.func (.func 60) #[] #[ptr b50], .func (.func 61) #[] #[ptr b50], .func (.func 62) #[] #[ptr b50, ptr b51], .func (.func 64) #[] #[ptr b50]] 44)).alloc (.cells #[.func (.func 60) #[] #[ptr b60], .func (.func 61) #[] #[ptr b60], .func (.func 62) #[] #[ptr b60, ptr b61], .func (.func 64) #[] #[ptr b60]] 44)) 44 #[.func (.func 60) #[] #[ptr b70], .func (.func 61) #[] #[ptr b70], .func (.func 62) #[] #[ptr b70, ptr b71], .func (.func 64) #[] #[ptr b70]])
  rw [World.size_alloc, World.size_alloc] at q7
  have k0 : Below w7.heap.size w7 (((w7.alloc (.cells #[.func (.func 60) #[] #[ptr b50], .func (.func 61) #[] #[ptr b50], .func (.func 62) #[] #[ptr b50, ptr b51], .func (.func 64) #[] #[ptr b50]] 44)).alloc (.cells #[.func (.func 60) #[] #[ptr b60], .func (.func 61) #[] #[ptr b60], .func (.func 62) #[] #[ptr b60, ptr b61], .func (.func 64) #[] #[ptr b60]] 44)).alloc (.cells #[.func (.func 60) #[] #[ptr b70], .func (.func 61) #[] #[ptr b70], .func (.func 62) #[] #[ptr b70, ptr b71], .func (.func 64) #[] #[ptr b70]] 44)) := ((((Below.refl _ _).alloc (by simp <;> omega) (.cells #[.func (.func 60) #[] #[ptr b50], .func (.func 61) #[] #[ptr b50], .func (.func 62) #[] #[ptr b50, ptr b51], .func (.func 64) #[] #[ptr b50]] 44)).alloc (by simp <;> omega) (.cells #[.func (.func 60) #[] #[ptr b60], .func (.func 61) #[] #[ptr b60], .func (.func 62) #[] #[ptr b60, ptr b61], .func (.func 64) #[] #[ptr b60]] 44)).alloc (by simp <;> omega) (.cells #[.func (.func 60) #[] #[ptr b70], .func (.func 61) #[] #[ptr b70], .func (.func 62) #[] #[ptr b70, ptr b71], .func (.func 64) #[] #[ptr b70]] 44))
  have H1 := Lib.hid ((H1.out.below k0).more k0.size)
  have H2 := Lib.hid ((H2.out.below k0).more k0.size)
  have H3 := Lib.hid ((H3.out.below k0).more k0.size)
  have H4 := Lib.hid ((H4.out.below k0).more k0.size)
  have H5 := Lib.hid ((H5.out.below k0).more k0.size)
  have H6 := Lib.hid ((H6.out.below k0).more k0.size)
  have H7 := Lib.hid ((H7.out.below k0).more k0.size)
  have P1 := Lib.hid (P1.out.below k0 P1.out.lt)
  have P2 := Lib.hid (P2.out.below k0 P2.out.lt)
  have P3 := Lib.hid (P3.out.below k0 P3.out.lt)
  have P4 := Lib.hid (P4.out.below k0 P4.out.lt)
  have B7 := Lib.hid (B7.out.trans (k0.mono B7.out.size))
  generalize (((w7.alloc (.cells #[.func (.func 60) #[] #[ptr b50], .func (.func 61) #[] #[ptr b50], .func (.func 62) #[] #[ptr b50, ptr b51], .func (.func 64) #[] #[ptr b50]] 44)).alloc (.cells #[.func (.func 60) #[] #[ptr b60], .func (.func 61) #[] #[ptr b60], .func (.func 62) #[] #[ptr b60, ptr b61], .func (.func 64) #[] #[ptr b60]] 44)).alloc (.cells #[.func (.func 60) #[] #[ptr b70], .func (.func 61) #[] #[ptr b70], .func (.func 62) #[] #[ptr b70, ptr b71], .func (.func 64) #[] #[ptr b70]] 44)) = W2 at *
  have P5 := Lib.hid q5
  clear q5
  have P6 := Lib.hid q6
  clear q6
  have P7 := Lib.hid q7
  clear q7
  clear k0
  refine wp_region_facts (fun xs => { tmps := #[xs 58, .pointer (some ⟨w2.heap.size, 0, none⟩), .pointer (some ⟨(w2.heap.size + 1), 0, none⟩), .pointer (some ⟨w4.heap.size, 0, none⟩), .pointer (some ⟨(w4.heap.size + 1), 0, none⟩), .pointer (some ⟨w7.heap.size, 0, none⟩), .pointer (some ⟨(w7.heap.size + 1), 0, none⟩), .pointer (some ⟨(w7.heap.size + 2), 0, none⟩), .agg #[.func (.func 54) #[] #[ptr b10], .func (.func 56) #[] #[ptr b10], .func (.func 58) #[] #[ptr b10, ptr b11, ptr b12], .func (.func 59) #[] #[ptr b10]], .agg #[.func (.func 54) #[] #[ptr b20], .func (.func 56) #[] #[ptr b20], .func (.func 58) #[] #[ptr b20, ptr b21, ptr b22], .func (.func 59) #[] #[ptr b20]], .agg #[.func (.func 54) #[] #[ptr b30], .func (.func 56) #[] #[ptr b30], .func (.func 58) #[] #[ptr b30, ptr b31, ptr b32], .func (.func 59) #[] #[ptr b30]], .agg #[.func (.func 54) #[] #[ptr b40], .func (.func 56) #[] #[ptr b40], .func (.func 58) #[] #[ptr b40, ptr b41, ptr b42], .func (.func 59) #[] #[ptr b40]], .agg #[.func (.func 60) #[] #[ptr b50], .func (.func 61) #[] #[ptr b50], .func (.func 62) #[] #[ptr b50, ptr b51], .func (.func 64) #[] #[ptr b50]], .agg #[.func (.func 60) #[] #[ptr b60], .func (.func 61) #[] #[ptr b60], .func (.func 62) #[] #[ptr b60, ptr b61], .func (.func 64) #[] #[ptr b60]], .agg #[.func (.func 60) #[] #[ptr b70], .func (.func 61) #[] #[ptr b70], .func (.func 62) #[] #[ptr b70, ptr b71], .func (.func 64) #[] #[ptr b70]], xs 0, xs 1, xs 2, xs 3, xs 4, xs 5, xs 6, xs 7, xs 8, xs 9, xs 10, xs 11, xs 12, xs 13, xs 14, xs 15, xs 16, xs 17, xs 18, xs 19, xs 20, xs 21, xs 22, xs 23, xs 24, xs 25, xs 26, xs 27, xs 28, xs 29, xs 30, xs 31, xs 32, xs 33, xs 34, xs 35, xs 36, xs 37, xs 38, xs 39, xs 40, xs 41, xs 42, xs 43, xs 44, xs 45, xs 46, xs 47, xs 48, xs 49, xs 50, xs 51, xs 52, xs 53, xs 54, xs 55, xs 56, xs 57], defers := [] }) (fun j => if j = 58 then .slice none 0 0 else undef) (fun W => Below W2.heap.size W2 W) F27 (by kernel_rfl) (by kernel_rfl) rfl (Below.refl _ _).drew ?_ ?_
  · intro i hi xs W hJ hd
    obtain rfl | rfl | rfl | rfl | rfl | rfl | rfl | rfl | rfl | rfl | rfl | rfl | rfl | rfl | rfl | rfl | rfl | rfl | rfl | rfl | rfl | rfl | rfl | rfl | rfl | rfl | rfl | rfl | rfl | rfl | rfl | rfl | rfl | rfl | rfl | rfl | rfl | rfl | rfl | rfl | rfl | rfl | rfl | rfl | rfl | rfl | rfl | rfl | rfl | rfl | rfl | rfl | rfl | rfl | rfl | rfl | rfl | rfl | rfl : i = 0 ∨ i = 1 ∨ i = 2 ∨ i = 3 ∨ i = 4 ∨ i = 5 ∨ i = 6 ∨ i = 7 ∨ i = 8 ∨ i = 9 ∨ i = 10 ∨ i = 11 ∨ i = 12 ∨ i = 13 ∨ i = 14 ∨ i = 15 ∨ i = 16 ∨ i = 17 ∨ i = 18 ∨ i = 19 ∨ i = 20 ∨ i = 21 ∨ i = 22 ∨ i = 23 ∨ i = 24 ∨ i = 25 ∨ i = 26 ∨ i = 27 ∨ i = 28 ∨ i = 29 ∨ i = 30 ∨ i = 31 ∨ i = 32 ∨ i = 33 ∨ i = 34 ∨ i = 35 ∨ i = 36 ∨ i = 37 ∨ i = 38 ∨ i = 39 ∨ i = 40 ∨ i = 41 ∨ i = 42 ∨ i = 43 ∨ i = 44 ∨ i = 45 ∨ i = 46 ∨ i = 47 ∨ i = 48 ∨ i = 49 ∨ i = 50 ∨ i = 51 ∨ i = 52 ∨ i = 53 ∨ i = 54 ∨ i = 55 ∨ i = 56 ∨ i = 57 ∨ i = 58 := by simp at hi; omega
    · have q := P1.out.below hJ P1.out.lt
      have c0 : W.cell? ⟨w2.heap.size, 0, none⟩ = some (.func (.func 54) #[] #[ptr b10]) := q.cell 0
      have c1 : W.cell? ⟨w2.heap.size, 1, none⟩ = some (.func (.func 56) #[] #[ptr b10]) := q.cell 1
      have c2 : W.cell? ⟨w2.heap.size, 2, none⟩ = some (.func (.func 58) #[] #[ptr b10, ptr b11, ptr b12]) := q.cell 2
      have c3 : W.cell? ⟨w2.heap.size, 3, none⟩ = some (.func (.func 59) #[] #[ptr b10]) := q.cell 3
      have HQ := Lib.hid q
      clear q
      refine wpOp_step rfl fun K hK => ?_
      go_simp
      exact hK _ _ ⟨.agg #[.func (.func 54) #[] #[ptr b10], .func (.func 56) #[] #[ptr b10], .func (.func 58) #[] #[ptr b10, ptr b11, ptr b12], .func (.func 59) #[] #[ptr b10]], rfl, hJ, ⟨_, _, _, _, rfl, (H1.out.below hJ).more hJ.size⟩, fun _ _ h => h⟩
    · have q := P4.out.below hJ P4.out.lt
      have c0 : W.cell? ⟨(w4.heap.size + 1), 0, none⟩ = some (.func (.func 54) #[] #[ptr b40]) := q.cell 0
      have c1 : W.cell? ⟨(w4.heap.size + 1), 1, none⟩ = some (.func (.func 56) #[] #[ptr b40]) := q.cell 1
      have c2 : W.cell? ⟨(w4.heap.size + 1), 2, none⟩ = some (.func (.func 58) #[] #[ptr b40, ptr b41, ptr b42]) := q.cell 2
      have c3 : W.cell? ⟨(w4.heap.size + 1), 3, none⟩ = some (.func (.func 59) #[] #[ptr b40]) := q.cell 3
      have HQ := Lib.hid q
      clear q
      refine wpOp_step rfl fun K hK => ?_
      go_simp
      exact hK _ _ ⟨.agg #[.func (.func 54) #[] #[ptr b40], .func (.func 56) #[] #[ptr b40], .func (.func 58) #[] #[ptr b40, ptr b41, ptr b42], .func (.func 59) #[] #[ptr b40]], rfl, hJ, ⟨_, _, _, _, rfl, (H4.out.below hJ).more hJ.size⟩, fun _ _ h => h⟩
    · obtain ⟨a0, b0, c0, d0, e0, h0⟩ := hd 0 (by kernel_rfl)
      change xs 0 = _ at e0
      obtain ⟨a1, b1, c1, d1, e1, h1⟩ := hd 1 (by kernel_rfl)
      change xs 1 = _ at e1
      have h0' := Lib.hid h0
      have h1' := Lib.hid h1
      clear h0 h1
      refine wpOp_step rfl fun K hK => ?_
      go_simp
      exact hK _ _ ⟨.slice (some ⟨W.heap.size, 0, none⟩) 2 2, by rw [← e0, ← e1]; rfl, hJ.alloc hJ.size _, ⟨W.heap.size, rfl, parts2 h0'.out h1'.out⟩, fun _ _ h => h.below ((Below.refl _ _).alloc (Nat.le_refl _) _)⟩
    · obtain ⟨g, e, h⟩ := hd 2 (by kernel_rfl)
      change xs 2 = _ at e
      simp only [List.length_cons, List.length_nil] at e
      have h' := Lib.hid h
      clear h
      refine wpOp_step rfl fun K hK => ?_
      go_simp
      exact hK _ _ ⟨.agg #[.int .i64 0, .string ⟨#[116, 117, 114, 110]⟩, .slice (some ⟨g, 0, none⟩) 2 2], by rw [← e]; rfl, hJ, ⟨g, rfl, h'.out⟩, fun _ _ h => h⟩
    · have q := P3.out.below hJ P3.out.lt
      have c0 : W.cell? ⟨w4.heap.size, 0, none⟩ = some (.func (.func 54) #[] #[ptr b30]) := q.cell 0
      have c1 : W.cell? ⟨w4.heap.size, 1, none⟩ = some (.func (.func 56) #[] #[ptr b30]) := q.cell 1
      have c2 : W.cell? ⟨w4.heap.size, 2, none⟩ = some (.func (.func 58) #[] #[ptr b30, ptr b31, ptr b32]) := q.cell 2
      have c3 : W.cell? ⟨w4.heap.size, 3, none⟩ = some (.func (.func 59) #[] #[ptr b30]) := q.cell 3
      have HQ := Lib.hid q
      clear q
      refine wpOp_step rfl fun K hK => ?_
      go_simp
      exact hK _ _ ⟨.agg #[.func (.func 54) #[] #[ptr b30], .func (.func 56) #[] #[ptr b30], .func (.func 58) #[] #[ptr b30, ptr b31, ptr b32], .func (.func 59) #[] #[ptr b30]], rfl, hJ, ⟨_, _, _, _, rfl, (H3.out.below hJ).more hJ.size⟩, fun _ _ h => h⟩
    · obtain ⟨a0, b0, c0, d0, e0, h0⟩ := hd 4 (by kernel_rfl)
      change xs 4 = _ at e0
      have h0' := Lib.hid h0
      clear h0
      refine wpOp_step rfl fun K hK => ?_
      go_simp
      exact hK _ _ ⟨.slice (some ⟨W.heap.size, 0, none⟩) 1 1, by rw [← e0]; rfl, hJ.alloc hJ.size _, ⟨W.heap.size, rfl, parts1 h0'.out⟩, fun _ _ h => h.below ((Below.refl _ _).alloc (Nat.le_refl _) _)⟩
    · obtain ⟨g, e, h⟩ := hd 5 (by kernel_rfl)
      change xs 5 = _ at e
      simp only [List.length_cons, List.length_nil] at e
      have h' := Lib.hid h
      clear h
      refine wpOp_step rfl fun K hK => ?_
      go_simp
      exact hK _ _ ⟨.agg #[.int .i64 1, .string ⟨#[100, 101, 108, 105, 118, 101, 114]⟩, .slice (some ⟨g, 0, none⟩) 1 1], by rw [← e]; rfl, hJ, ⟨g, rfl, h'.out⟩, fun _ _ h => h⟩
    · have q := P3.out.below hJ P3.out.lt
      have c0 : W.cell? ⟨w4.heap.size, 0, none⟩ = some (.func (.func 54) #[] #[ptr b30]) := q.cell 0
      have c1 : W.cell? ⟨w4.heap.size, 1, none⟩ = some (.func (.func 56) #[] #[ptr b30]) := q.cell 1
      have c2 : W.cell? ⟨w4.heap.size, 2, none⟩ = some (.func (.func 58) #[] #[ptr b30, ptr b31, ptr b32]) := q.cell 2
      have c3 : W.cell? ⟨w4.heap.size, 3, none⟩ = some (.func (.func 59) #[] #[ptr b30]) := q.cell 3
      have HQ := Lib.hid q
      clear q
      refine wpOp_step rfl fun K hK => ?_
      go_simp
      exact hK _ _ ⟨.agg #[.func (.func 54) #[] #[ptr b30], .func (.func 56) #[] #[ptr b30], .func (.func 58) #[] #[ptr b30, ptr b31, ptr b32], .func (.func 59) #[] #[ptr b30]], rfl, hJ, ⟨_, _, _, _, rfl, (H3.out.below hJ).more hJ.size⟩, fun _ _ h => h⟩
    · obtain ⟨a0, b0, c0, d0, e0, h0⟩ := hd 7 (by kernel_rfl)
      change xs 7 = _ at e0
      have h0' := Lib.hid h0
      clear h0
      refine wpOp_step rfl fun K hK => ?_
      go_simp
      exact hK _ _ ⟨.slice (some ⟨W.heap.size, 0, none⟩) 1 1, by rw [← e0]; rfl, hJ.alloc hJ.size _, ⟨W.heap.size, rfl, parts1 h0'.out⟩, fun _ _ h => h.below ((Below.refl _ _).alloc (Nat.le_refl _) _)⟩
    · obtain ⟨g, e, h⟩ := hd 8 (by kernel_rfl)
      change xs 8 = _ at e
      simp only [List.length_cons, List.length_nil] at e
      have h' := Lib.hid h
      clear h
      refine wpOp_step rfl fun K hK => ?_
      go_simp
      exact hK _ _ ⟨.agg #[.int .i64 2, .string ⟨#[100, 114, 111, 112]⟩, .slice (some ⟨g, 0, none⟩) 1 1], by rw [← e]; rfl, hJ, ⟨g, rfl, h'.out⟩, fun _ _ h => h⟩
    · have q := P3.out.below hJ P3.out.lt
      have c0 : W.cell? ⟨w4.heap.size, 0, none⟩ = some (.func (.func 54) #[] #[ptr b30]) := q.cell 0
      have c1 : W.cell? ⟨w4.heap.size, 1, none⟩ = some (.func (.func 56) #[] #[ptr b30]) := q.cell 1
      have c2 : W.cell? ⟨w4.heap.size, 2, none⟩ = some (.func (.func 58) #[] #[ptr b30, ptr b31, ptr b32]) := q.cell 2
      have c3 : W.cell? ⟨w4.heap.size, 3, none⟩ = some (.func (.func 59) #[] #[ptr b30]) := q.cell 3
      have HQ := Lib.hid q
      clear q
      refine wpOp_step rfl fun K hK => ?_
      go_simp
      exact hK _ _ ⟨.agg #[.func (.func 54) #[] #[ptr b30], .func (.func 56) #[] #[ptr b30], .func (.func 58) #[] #[ptr b30, ptr b31, ptr b32], .func (.func 59) #[] #[ptr b30]], rfl, hJ, ⟨_, _, _, _, rfl, (H3.out.below hJ).more hJ.size⟩, fun _ _ h => h⟩
    · obtain ⟨a0, b0, c0, d0, e0, h0⟩ := hd 10 (by kernel_rfl)
      change xs 10 = _ at e0
      have h0' := Lib.hid h0
      clear h0
      refine wpOp_step rfl fun K hK => ?_
      go_simp
      exact hK _ _ ⟨.slice (some ⟨W.heap.size, 0, none⟩) 1 1, by rw [← e0]; rfl, hJ.alloc hJ.size _, ⟨W.heap.size, rfl, parts1 h0'.out⟩, fun _ _ h => h.below ((Below.refl _ _).alloc (Nat.le_refl _) _)⟩
    · obtain ⟨g, e, h⟩ := hd 11 (by kernel_rfl)
      change xs 11 = _ at e
      simp only [List.length_cons, List.length_nil] at e
      have h' := Lib.hid h
      clear h
      refine wpOp_step rfl fun K hK => ?_
      go_simp
      exact hK _ _ ⟨.agg #[.int .i64 3, .string ⟨#[100, 111, 117, 98, 108, 101]⟩, .slice (some ⟨g, 0, none⟩) 1 1], by rw [← e]; rfl, hJ, ⟨g, rfl, h'.out⟩, fun _ _ h => h⟩
    · have q := P1.out.below hJ P1.out.lt
      have c0 : W.cell? ⟨w2.heap.size, 0, none⟩ = some (.func (.func 54) #[] #[ptr b10]) := q.cell 0
      have c1 : W.cell? ⟨w2.heap.size, 1, none⟩ = some (.func (.func 56) #[] #[ptr b10]) := q.cell 1
      have c2 : W.cell? ⟨w2.heap.size, 2, none⟩ = some (.func (.func 58) #[] #[ptr b10, ptr b11, ptr b12]) := q.cell 2
      have c3 : W.cell? ⟨w2.heap.size, 3, none⟩ = some (.func (.func 59) #[] #[ptr b10]) := q.cell 3
      have HQ := Lib.hid q
      clear q
      refine wpOp_step rfl fun K hK => ?_
      go_simp
      exact hK _ _ ⟨.agg #[.func (.func 54) #[] #[ptr b10], .func (.func 56) #[] #[ptr b10], .func (.func 58) #[] #[ptr b10, ptr b11, ptr b12], .func (.func 59) #[] #[ptr b10]], rfl, hJ, ⟨_, _, _, _, rfl, (H1.out.below hJ).more hJ.size⟩, fun _ _ h => h⟩
    · obtain ⟨a0, b0, c0, d0, e0, h0⟩ := hd 13 (by kernel_rfl)
      change xs 13 = _ at e0
      have h0' := Lib.hid h0
      clear h0
      refine wpOp_step rfl fun K hK => ?_
      go_simp
      exact hK _ _ ⟨.slice (some ⟨W.heap.size, 0, none⟩) 1 1, by rw [← e0]; rfl, hJ.alloc hJ.size _, ⟨W.heap.size, rfl, parts1 h0'.out⟩, fun _ _ h => h.below ((Below.refl _ _).alloc (Nat.le_refl _) _)⟩
    · obtain ⟨g, e, h⟩ := hd 14 (by kernel_rfl)
      change xs 14 = _ at e
      simp only [List.length_cons, List.length_nil] at e
      have h' := Lib.hid h
      clear h
      refine wpOp_step rfl fun K hK => ?_
      go_simp
      exact hK _ _ ⟨.agg #[.int .i64 4, .string ⟨#[116, 105, 99, 107]⟩, .slice (some ⟨g, 0, none⟩) 1 1], by rw [← e]; rfl, hJ, ⟨g, rfl, h'.out⟩, fun _ _ h => h⟩
    · have q := P1.out.below hJ P1.out.lt
      have c0 : W.cell? ⟨w2.heap.size, 0, none⟩ = some (.func (.func 54) #[] #[ptr b10]) := q.cell 0
      have c1 : W.cell? ⟨w2.heap.size, 1, none⟩ = some (.func (.func 56) #[] #[ptr b10]) := q.cell 1
      have c2 : W.cell? ⟨w2.heap.size, 2, none⟩ = some (.func (.func 58) #[] #[ptr b10, ptr b11, ptr b12]) := q.cell 2
      have c3 : W.cell? ⟨w2.heap.size, 3, none⟩ = some (.func (.func 59) #[] #[ptr b10]) := q.cell 3
      have HQ := Lib.hid q
      clear q
      refine wpOp_step rfl fun K hK => ?_
      go_simp
      exact hK _ _ ⟨.agg #[.func (.func 54) #[] #[ptr b10], .func (.func 56) #[] #[ptr b10], .func (.func 58) #[] #[ptr b10, ptr b11, ptr b12], .func (.func 59) #[] #[ptr b10]], rfl, hJ, ⟨_, _, _, _, rfl, (H1.out.below hJ).more hJ.size⟩, fun _ _ h => h⟩
    · obtain ⟨a0, b0, c0, d0, e0, h0⟩ := hd 16 (by kernel_rfl)
      change xs 16 = _ at e0
      have h0' := Lib.hid h0
      clear h0
      refine wpOp_step rfl fun K hK => ?_
      go_simp
      exact hK _ _ ⟨.slice (some ⟨W.heap.size, 0, none⟩) 1 1, by rw [← e0]; rfl, hJ.alloc hJ.size _, ⟨W.heap.size, rfl, parts1 h0'.out⟩, fun _ _ h => h.below ((Below.refl _ _).alloc (Nat.le_refl _) _)⟩
    · obtain ⟨g, e, h⟩ := hd 17 (by kernel_rfl)
      change xs 17 = _ at e
      simp only [List.length_cons, List.length_nil] at e
      have h' := Lib.hid h
      clear h
      refine wpOp_step rfl fun K hK => ?_
      go_simp
      exact hK _ _ ⟨.agg #[.int .i64 5, .string ⟨#[109, 105, 110, 111, 114]⟩, .slice (some ⟨g, 0, none⟩) 1 1], by rw [← e]; rfl, hJ, ⟨g, rfl, h'.out⟩, fun _ _ h => h⟩
    · have q := P1.out.below hJ P1.out.lt
      have c0 : W.cell? ⟨w2.heap.size, 0, none⟩ = some (.func (.func 54) #[] #[ptr b10]) := q.cell 0
      have c1 : W.cell? ⟨w2.heap.size, 1, none⟩ = some (.func (.func 56) #[] #[ptr b10]) := q.cell 1
      have c2 : W.cell? ⟨w2.heap.size, 2, none⟩ = some (.func (.func 58) #[] #[ptr b10, ptr b11, ptr b12]) := q.cell 2
      have c3 : W.cell? ⟨w2.heap.size, 3, none⟩ = some (.func (.func 59) #[] #[ptr b10]) := q.cell 3
      have HQ := Lib.hid q
      clear q
      refine wpOp_step rfl fun K hK => ?_
      go_simp
      exact hK _ _ ⟨.agg #[.func (.func 54) #[] #[ptr b10], .func (.func 56) #[] #[ptr b10], .func (.func 58) #[] #[ptr b10, ptr b11, ptr b12], .func (.func 59) #[] #[ptr b10]], rfl, hJ, ⟨_, _, _, _, rfl, (H1.out.below hJ).more hJ.size⟩, fun _ _ h => h⟩
    · obtain ⟨a0, b0, c0, d0, e0, h0⟩ := hd 19 (by kernel_rfl)
      change xs 19 = _ at e0
      have h0' := Lib.hid h0
      clear h0
      refine wpOp_step rfl fun K hK => ?_
      go_simp
      exact hK _ _ ⟨.slice (some ⟨W.heap.size, 0, none⟩) 1 1, by rw [← e0]; rfl, hJ.alloc hJ.size _, ⟨W.heap.size, rfl, parts1 h0'.out⟩, fun _ _ h => h.below ((Below.refl _ _).alloc (Nat.le_refl _) _)⟩
    · obtain ⟨g, e, h⟩ := hd 20 (by kernel_rfl)
      change xs 20 = _ at e
      simp only [List.length_cons, List.length_nil] at e
      have h' := Lib.hid h
      clear h
      refine wpOp_step rfl fun K hK => ?_
      go_simp
      exact hK _ _ ⟨.agg #[.int .i64 6, .string ⟨#[109, 97, 106, 111, 114]⟩, .slice (some ⟨g, 0, none⟩) 1 1], by rw [← e]; rfl, hJ, ⟨g, rfl, h'.out⟩, fun _ _ h => h⟩
    · have q := P1.out.below hJ P1.out.lt
      have c0 : W.cell? ⟨w2.heap.size, 0, none⟩ = some (.func (.func 54) #[] #[ptr b10]) := q.cell 0
      have c1 : W.cell? ⟨w2.heap.size, 1, none⟩ = some (.func (.func 56) #[] #[ptr b10]) := q.cell 1
      have c2 : W.cell? ⟨w2.heap.size, 2, none⟩ = some (.func (.func 58) #[] #[ptr b10, ptr b11, ptr b12]) := q.cell 2
      have c3 : W.cell? ⟨w2.heap.size, 3, none⟩ = some (.func (.func 59) #[] #[ptr b10]) := q.cell 3
      have HQ := Lib.hid q
      clear q
      refine wpOp_step rfl fun K hK => ?_
      go_simp
      exact hK _ _ ⟨.agg #[.func (.func 54) #[] #[ptr b10], .func (.func 56) #[] #[ptr b10], .func (.func 58) #[] #[ptr b10, ptr b11, ptr b12], .func (.func 59) #[] #[ptr b10]], rfl, hJ, ⟨_, _, _, _, rfl, (H1.out.below hJ).more hJ.size⟩, fun _ _ h => h⟩
    · refine wpOp_step rfl fun K hK => ?_
      go_simp
      refine (survive43 _).mono ?_
      rintro e W' ⟨a, b, c, d, rfl, hp, hb⟩
      exact hK _ _ ⟨.agg #[a, b, c, d], rfl, hJ.trans (hb.mono hJ.size), ⟨a, b, c, d, rfl, hp⟩, fun _ _ h => h.below hb⟩
    · obtain ⟨a0, b0, c0, d0, e0, h0⟩ := hd 22 (by kernel_rfl)
      change xs 22 = _ at e0
      obtain ⟨a1, b1, c1, d1, e1, h1⟩ := hd 23 (by kernel_rfl)
      change xs 23 = _ at e1
      have h0' := Lib.hid h0
      have h1' := Lib.hid h1
      clear h0 h1
      refine wpOp_step rfl fun K hK => ?_
      go_simp
      exact hK _ _ ⟨.slice (some ⟨W.heap.size, 0, none⟩) 2 2, by rw [← e0, ← e1]; rfl, hJ.alloc hJ.size _, ⟨W.heap.size, rfl, parts2 h0'.out h1'.out⟩, fun _ _ h => h.below ((Below.refl _ _).alloc (Nat.le_refl _) _)⟩
    · obtain ⟨g, e, h⟩ := hd 24 (by kernel_rfl)
      change xs 24 = _ at e
      simp only [List.length_cons, List.length_nil] at e
      have h' := Lib.hid h
      clear h
      refine wpOp_step rfl fun K hK => ?_
      go_simp
      exact hK _ _ ⟨.agg #[.int .i64 7, .string ⟨#[99, 114, 97, 115, 104]⟩, .slice (some ⟨g, 0, none⟩) 2 2], by rw [← e]; rfl, hJ, ⟨g, rfl, h'.out⟩, fun _ _ h => h⟩
    · have q := P1.out.below hJ P1.out.lt
      have c0 : W.cell? ⟨w2.heap.size, 0, none⟩ = some (.func (.func 54) #[] #[ptr b10]) := q.cell 0
      have c1 : W.cell? ⟨w2.heap.size, 1, none⟩ = some (.func (.func 56) #[] #[ptr b10]) := q.cell 1
      have c2 : W.cell? ⟨w2.heap.size, 2, none⟩ = some (.func (.func 58) #[] #[ptr b10, ptr b11, ptr b12]) := q.cell 2
      have c3 : W.cell? ⟨w2.heap.size, 3, none⟩ = some (.func (.func 59) #[] #[ptr b10]) := q.cell 3
      have HQ := Lib.hid q
      clear q
      refine wpOp_step rfl fun K hK => ?_
      go_simp
      exact hK _ _ ⟨.agg #[.func (.func 54) #[] #[ptr b10], .func (.func 56) #[] #[ptr b10], .func (.func 58) #[] #[ptr b10, ptr b11, ptr b12], .func (.func 59) #[] #[ptr b10]], rfl, hJ, ⟨_, _, _, _, rfl, (H1.out.below hJ).more hJ.size⟩, fun _ _ h => h⟩
    · obtain ⟨a0, b0, c0, d0, e0, h0⟩ := hd 26 (by kernel_rfl)
      change xs 26 = _ at e0
      have h0' := Lib.hid h0
      clear h0
      refine wpOp_step rfl fun K hK => ?_
      go_simp
      exact hK _ _ ⟨.slice (some ⟨W.heap.size, 0, none⟩) 1 1, by rw [← e0]; rfl, hJ.alloc hJ.size _, ⟨W.heap.size, rfl, parts1 h0'.out⟩, fun _ _ h => h.below ((Below.refl _ _).alloc (Nat.le_refl _) _)⟩
    · obtain ⟨g, e, h⟩ := hd 27 (by kernel_rfl)
      change xs 27 = _ at e
      simp only [List.length_cons, List.length_nil] at e
      have h' := Lib.hid h
      clear h
      refine wpOp_step rfl fun K hK => ?_
      go_simp
      exact hK _ _ ⟨.agg #[.int .i64 8, .string ⟨#[114, 101, 115, 116, 97, 114, 116]⟩, .slice (some ⟨g, 0, none⟩) 1 1], by rw [← e]; rfl, hJ, ⟨g, rfl, h'.out⟩, fun _ _ h => h⟩
    · have q := P1.out.below hJ P1.out.lt
      have c0 : W.cell? ⟨w2.heap.size, 0, none⟩ = some (.func (.func 54) #[] #[ptr b10]) := q.cell 0
      have c1 : W.cell? ⟨w2.heap.size, 1, none⟩ = some (.func (.func 56) #[] #[ptr b10]) := q.cell 1
      have c2 : W.cell? ⟨w2.heap.size, 2, none⟩ = some (.func (.func 58) #[] #[ptr b10, ptr b11, ptr b12]) := q.cell 2
      have c3 : W.cell? ⟨w2.heap.size, 3, none⟩ = some (.func (.func 59) #[] #[ptr b10]) := q.cell 3
      have HQ := Lib.hid q
      clear q
      refine wpOp_step rfl fun K hK => ?_
      go_simp
      exact hK _ _ ⟨.agg #[.func (.func 54) #[] #[ptr b10], .func (.func 56) #[] #[ptr b10], .func (.func 58) #[] #[ptr b10, ptr b11, ptr b12], .func (.func 59) #[] #[ptr b10]], rfl, hJ, ⟨_, _, _, _, rfl, (H1.out.below hJ).more hJ.size⟩, fun _ _ h => h⟩
    · obtain ⟨a0, b0, c0, d0, e0, h0⟩ := hd 29 (by kernel_rfl)
      change xs 29 = _ at e0
      have h0' := Lib.hid h0
      clear h0
      refine wpOp_step rfl fun K hK => ?_
      go_simp
      exact hK _ _ ⟨.slice (some ⟨W.heap.size, 0, none⟩) 1 1, by rw [← e0]; rfl, hJ.alloc hJ.size _, ⟨W.heap.size, rfl, parts1 h0'.out⟩, fun _ _ h => h.below ((Below.refl _ _).alloc (Nat.le_refl _) _)⟩
    · obtain ⟨g, e, h⟩ := hd 30 (by kernel_rfl)
      change xs 30 = _ at e
      simp only [List.length_cons, List.length_nil] at e
      have h' := Lib.hid h
      clear h
      refine wpOp_step rfl fun K hK => ?_
      go_simp
      exact hK _ _ ⟨.agg #[.int .i64 9, .string ⟨#[99, 104, 101, 99, 107, 112, 111, 105, 110, 116]⟩, .slice (some ⟨g, 0, none⟩) 1 1], by rw [← e]; rfl, hJ, ⟨g, rfl, h'.out⟩, fun _ _ h => h⟩
    · have q := P1.out.below hJ P1.out.lt
      have c0 : W.cell? ⟨w2.heap.size, 0, none⟩ = some (.func (.func 54) #[] #[ptr b10]) := q.cell 0
      have c1 : W.cell? ⟨w2.heap.size, 1, none⟩ = some (.func (.func 56) #[] #[ptr b10]) := q.cell 1
      have c2 : W.cell? ⟨w2.heap.size, 2, none⟩ = some (.func (.func 58) #[] #[ptr b10, ptr b11, ptr b12]) := q.cell 2
      have c3 : W.cell? ⟨w2.heap.size, 3, none⟩ = some (.func (.func 59) #[] #[ptr b10]) := q.cell 3
      have HQ := Lib.hid q
      clear q
      refine wpOp_step rfl fun K hK => ?_
      go_simp
      exact hK _ _ ⟨.agg #[.func (.func 54) #[] #[ptr b10], .func (.func 56) #[] #[ptr b10], .func (.func 58) #[] #[ptr b10, ptr b11, ptr b12], .func (.func 59) #[] #[ptr b10]], rfl, hJ, ⟨_, _, _, _, rfl, (H1.out.below hJ).more hJ.size⟩, fun _ _ h => h⟩
    · have q := P4.out.below hJ P4.out.lt
      have c0 : W.cell? ⟨(w4.heap.size + 1), 0, none⟩ = some (.func (.func 54) #[] #[ptr b40]) := q.cell 0
      have c1 : W.cell? ⟨(w4.heap.size + 1), 1, none⟩ = some (.func (.func 56) #[] #[ptr b40]) := q.cell 1
      have c2 : W.cell? ⟨(w4.heap.size + 1), 2, none⟩ = some (.func (.func 58) #[] #[ptr b40, ptr b41, ptr b42]) := q.cell 2
      have c3 : W.cell? ⟨(w4.heap.size + 1), 3, none⟩ = some (.func (.func 59) #[] #[ptr b40]) := q.cell 3
      have HQ := Lib.hid q
      clear q
      refine wpOp_step rfl fun K hK => ?_
      go_simp
      exact hK _ _ ⟨.agg #[.func (.func 54) #[] #[ptr b40], .func (.func 56) #[] #[ptr b40], .func (.func 58) #[] #[ptr b40, ptr b41, ptr b42], .func (.func 59) #[] #[ptr b40]], rfl, hJ, ⟨_, _, _, _, rfl, (H4.out.below hJ).more hJ.size⟩, fun _ _ h => h⟩
    · obtain ⟨a0, b0, c0, d0, e0, h0⟩ := hd 32 (by kernel_rfl)
      change xs 32 = _ at e0
      obtain ⟨a1, b1, c1, d1, e1, h1⟩ := hd 33 (by kernel_rfl)
      change xs 33 = _ at e1
      have h0' := Lib.hid h0
      have h1' := Lib.hid h1
      clear h0 h1
      refine wpOp_step rfl fun K hK => ?_
      go_simp
      exact hK _ _ ⟨.slice (some ⟨W.heap.size, 0, none⟩) 2 2, by rw [← e0, ← e1]; rfl, hJ.alloc hJ.size _, ⟨W.heap.size, rfl, parts2 h0'.out h1'.out⟩, fun _ _ h => h.below ((Below.refl _ _).alloc (Nat.le_refl _) _)⟩
    · obtain ⟨g, e, h⟩ := hd 34 (by kernel_rfl)
      change xs 34 = _ at e
      simp only [List.length_cons, List.length_nil] at e
      have h' := Lib.hid h
      clear h
      refine wpOp_step rfl fun K hK => ?_
      go_simp
      exact hK _ _ ⟨.agg #[.int .i64 10, .string ⟨#[102, 97, 105, 108]⟩, .slice (some ⟨g, 0, none⟩) 2 2], by rw [← e]; rfl, hJ, ⟨g, rfl, h'.out⟩, fun _ _ h => h⟩
    · have q := P1.out.below hJ P1.out.lt
      have c0 : W.cell? ⟨w2.heap.size, 0, none⟩ = some (.func (.func 54) #[] #[ptr b10]) := q.cell 0
      have c1 : W.cell? ⟨w2.heap.size, 1, none⟩ = some (.func (.func 56) #[] #[ptr b10]) := q.cell 1
      have c2 : W.cell? ⟨w2.heap.size, 2, none⟩ = some (.func (.func 58) #[] #[ptr b10, ptr b11, ptr b12]) := q.cell 2
      have c3 : W.cell? ⟨w2.heap.size, 3, none⟩ = some (.func (.func 59) #[] #[ptr b10]) := q.cell 3
      have HQ := Lib.hid q
      clear q
      refine wpOp_step rfl fun K hK => ?_
      go_simp
      exact hK _ _ ⟨.agg #[.func (.func 54) #[] #[ptr b10], .func (.func 56) #[] #[ptr b10], .func (.func 58) #[] #[ptr b10, ptr b11, ptr b12], .func (.func 59) #[] #[ptr b10]], rfl, hJ, ⟨_, _, _, _, rfl, (H1.out.below hJ).more hJ.size⟩, fun _ _ h => h⟩
    · have q := P5.out.below hJ P5.out.lt
      have c0 : W.cell? ⟨w7.heap.size, 0, none⟩ = some (.func (.func 60) #[] #[ptr b50]) := q.cell 0
      have c1 : W.cell? ⟨w7.heap.size, 1, none⟩ = some (.func (.func 61) #[] #[ptr b50]) := q.cell 1
      have c2 : W.cell? ⟨w7.heap.size, 2, none⟩ = some (.func (.func 62) #[] #[ptr b50, ptr b51]) := q.cell 2
      have c3 : W.cell? ⟨w7.heap.size, 3, none⟩ = some (.func (.func 64) #[] #[ptr b50]) := q.cell 3
      have HQ := Lib.hid q
      clear q
      refine wpOp_step rfl fun K hK => ?_
      go_simp
      exact hK _ _ ⟨.agg #[.func (.func 60) #[] #[ptr b50], .func (.func 61) #[] #[ptr b50], .func (.func 62) #[] #[ptr b50, ptr b51], .func (.func 64) #[] #[ptr b50]], rfl, hJ, ⟨_, _, _, _, rfl, (H5.out.below hJ).more hJ.size⟩, fun _ _ h => h⟩
    · have q := P7.out.below hJ P7.out.lt
      have c0 : W.cell? ⟨(w7.heap.size + 2), 0, none⟩ = some (.func (.func 60) #[] #[ptr b70]) := q.cell 0
      have c1 : W.cell? ⟨(w7.heap.size + 2), 1, none⟩ = some (.func (.func 61) #[] #[ptr b70]) := q.cell 1
      have c2 : W.cell? ⟨(w7.heap.size + 2), 2, none⟩ = some (.func (.func 62) #[] #[ptr b70, ptr b71]) := q.cell 2
      have c3 : W.cell? ⟨(w7.heap.size + 2), 3, none⟩ = some (.func (.func 64) #[] #[ptr b70]) := q.cell 3
      have HQ := Lib.hid q
      clear q
      refine wpOp_step rfl fun K hK => ?_
      go_simp
      exact hK _ _ ⟨.agg #[.func (.func 60) #[] #[ptr b70], .func (.func 61) #[] #[ptr b70], .func (.func 62) #[] #[ptr b70, ptr b71], .func (.func 64) #[] #[ptr b70]], rfl, hJ, ⟨_, _, _, _, rfl, (H7.out.below hJ).more hJ.size⟩, fun _ _ h => h⟩
    · refine wpOp_step rfl fun K hK => ?_
      go_simp
      refine (rest44 30 _).mono ?_
      rintro e W' ⟨a, b, c, d, rfl, hp, hb⟩
      exact hK _ _ ⟨.agg #[a, b, c, d], rfl, hJ.trans (hb.mono hJ.size), ⟨a, b, c, d, rfl, hp⟩, fun _ _ h => h.below hb⟩
    · obtain ⟨a0, b0, c0, d0, e0, h0⟩ := hd 36 (by kernel_rfl)
      change xs 36 = _ at e0
      obtain ⟨a1, b1, c1, d1, e1, h1⟩ := hd 37 (by kernel_rfl)
      change xs 37 = _ at e1
      obtain ⟨a2, b2, c2, d2, e2, h2⟩ := hd 38 (by kernel_rfl)
      change xs 38 = _ at e2
      obtain ⟨a3, b3, c3, d3, e3, h3⟩ := hd 39 (by kernel_rfl)
      change xs 39 = _ at e3
      have h0' := Lib.hid h0
      have h1' := Lib.hid h1
      have h2' := Lib.hid h2
      have h3' := Lib.hid h3
      clear h0 h1 h2 h3
      refine wpOp_step rfl fun K hK => ?_
      go_simp
      exact hK _ _ ⟨.slice (some ⟨W.heap.size, 0, none⟩) 4 4, by rw [← e0, ← e1, ← e2, ← e3]; rfl, hJ.alloc hJ.size _, ⟨W.heap.size, rfl, parts4 h0'.out h1'.out h2'.out h3'.out⟩, fun _ _ h => h.below ((Below.refl _ _).alloc (Nat.le_refl _) _)⟩
    · obtain ⟨g, e, h⟩ := hd 40 (by kernel_rfl)
      change xs 40 = _ at e
      simp only [List.length_cons, List.length_nil] at e
      have h' := Lib.hid h
      clear h
      refine wpOp_step rfl fun K hK => ?_
      go_simp
      exact hK _ _ ⟨.agg #[.int .i64 11, .string ⟨#[115, 112, 97, 119, 110]⟩, .slice (some ⟨g, 0, none⟩) 4 4], by rw [← e]; rfl, hJ, ⟨g, rfl, h'.out⟩, fun _ _ h => h⟩
    · have q := P5.out.below hJ P5.out.lt
      have c0 : W.cell? ⟨w7.heap.size, 0, none⟩ = some (.func (.func 60) #[] #[ptr b50]) := q.cell 0
      have c1 : W.cell? ⟨w7.heap.size, 1, none⟩ = some (.func (.func 61) #[] #[ptr b50]) := q.cell 1
      have c2 : W.cell? ⟨w7.heap.size, 2, none⟩ = some (.func (.func 62) #[] #[ptr b50, ptr b51]) := q.cell 2
      have c3 : W.cell? ⟨w7.heap.size, 3, none⟩ = some (.func (.func 64) #[] #[ptr b50]) := q.cell 3
      have HQ := Lib.hid q
      clear q
      refine wpOp_step rfl fun K hK => ?_
      go_simp
      exact hK _ _ ⟨.agg #[.func (.func 60) #[] #[ptr b50], .func (.func 61) #[] #[ptr b50], .func (.func 62) #[] #[ptr b50, ptr b51], .func (.func 64) #[] #[ptr b50]], rfl, hJ, ⟨_, _, _, _, rfl, (H5.out.below hJ).more hJ.size⟩, fun _ _ h => h⟩
    · have q := P6.out.below hJ P6.out.lt
      have c0 : W.cell? ⟨(w7.heap.size + 1), 0, none⟩ = some (.func (.func 60) #[] #[ptr b60]) := q.cell 0
      have c1 : W.cell? ⟨(w7.heap.size + 1), 1, none⟩ = some (.func (.func 61) #[] #[ptr b60]) := q.cell 1
      have c2 : W.cell? ⟨(w7.heap.size + 1), 2, none⟩ = some (.func (.func 62) #[] #[ptr b60, ptr b61]) := q.cell 2
      have c3 : W.cell? ⟨(w7.heap.size + 1), 3, none⟩ = some (.func (.func 64) #[] #[ptr b60]) := q.cell 3
      have HQ := Lib.hid q
      clear q
      refine wpOp_step rfl fun K hK => ?_
      go_simp
      exact hK _ _ ⟨.agg #[.func (.func 60) #[] #[ptr b60], .func (.func 61) #[] #[ptr b60], .func (.func 62) #[] #[ptr b60, ptr b61], .func (.func 64) #[] #[ptr b60]], rfl, hJ, ⟨_, _, _, _, rfl, (H6.out.below hJ).more hJ.size⟩, fun _ _ h => h⟩
    · refine wpOp_step rfl fun K hK => ?_
      go_simp
      refine (rest44 8 _).mono ?_
      rintro e W' ⟨a, b, c, d, rfl, hp, hb⟩
      exact hK _ _ ⟨.agg #[a, b, c, d], rfl, hJ.trans (hb.mono hJ.size), ⟨a, b, c, d, rfl, hp⟩, fun _ _ h => h.below hb⟩
    · obtain ⟨a0, b0, c0, d0, e0, h0⟩ := hd 42 (by kernel_rfl)
      change xs 42 = _ at e0
      obtain ⟨a1, b1, c1, d1, e1, h1⟩ := hd 43 (by kernel_rfl)
      change xs 43 = _ at e1
      obtain ⟨a2, b2, c2, d2, e2, h2⟩ := hd 44 (by kernel_rfl)
      change xs 44 = _ at e2
      have h0' := Lib.hid h0
      have h1' := Lib.hid h1
      have h2' := Lib.hid h2
      clear h0 h1 h2
      refine wpOp_step rfl fun K hK => ?_
      go_simp
      exact hK _ _ ⟨.slice (some ⟨W.heap.size, 0, none⟩) 3 3, by rw [← e0, ← e1, ← e2]; rfl, hJ.alloc hJ.size _, ⟨W.heap.size, rfl, parts3 h0'.out h1'.out h2'.out⟩, fun _ _ h => h.below ((Below.refl _ _).alloc (Nat.le_refl _) _)⟩
    · obtain ⟨g, e, h⟩ := hd 45 (by kernel_rfl)
      change xs 45 = _ at e
      simp only [List.length_cons, List.length_nil] at e
      have h' := Lib.hid h
      clear h
      refine wpOp_step rfl fun K hK => ?_
      go_simp
      exact hK _ _ ⟨.agg #[.int .i64 12, .string ⟨#[112, 111, 115, 116]⟩, .slice (some ⟨g, 0, none⟩) 3 3], by rw [← e]; rfl, hJ, ⟨g, rfl, h'.out⟩, fun _ _ h => h⟩
    · have q := P5.out.below hJ P5.out.lt
      have c0 : W.cell? ⟨w7.heap.size, 0, none⟩ = some (.func (.func 60) #[] #[ptr b50]) := q.cell 0
      have c1 : W.cell? ⟨w7.heap.size, 1, none⟩ = some (.func (.func 61) #[] #[ptr b50]) := q.cell 1
      have c2 : W.cell? ⟨w7.heap.size, 2, none⟩ = some (.func (.func 62) #[] #[ptr b50, ptr b51]) := q.cell 2
      have c3 : W.cell? ⟨w7.heap.size, 3, none⟩ = some (.func (.func 64) #[] #[ptr b50]) := q.cell 3
      have HQ := Lib.hid q
      clear q
      refine wpOp_step rfl fun K hK => ?_
      go_simp
      exact hK _ _ ⟨.agg #[.func (.func 60) #[] #[ptr b50], .func (.func 61) #[] #[ptr b50], .func (.func 62) #[] #[ptr b50, ptr b51], .func (.func 64) #[] #[ptr b50]], rfl, hJ, ⟨_, _, _, _, rfl, (H5.out.below hJ).more hJ.size⟩, fun _ _ h => h⟩
    · obtain ⟨a0, b0, c0, d0, e0, h0⟩ := hd 47 (by kernel_rfl)
      change xs 47 = _ at e0
      have h0' := Lib.hid h0
      clear h0
      refine wpOp_step rfl fun K hK => ?_
      go_simp
      exact hK _ _ ⟨.slice (some ⟨W.heap.size, 0, none⟩) 1 1, by rw [← e0]; rfl, hJ.alloc hJ.size _, ⟨W.heap.size, rfl, parts1 h0'.out⟩, fun _ _ h => h.below ((Below.refl _ _).alloc (Nat.le_refl _) _)⟩
    · obtain ⟨g, e, h⟩ := hd 48 (by kernel_rfl)
      change xs 48 = _ at e
      simp only [List.length_cons, List.length_nil] at e
      have h' := Lib.hid h
      clear h
      refine wpOp_step rfl fun K hK => ?_
      go_simp
      exact hK _ _ ⟨.agg #[.int .i64 13, .string ⟨#[114, 101, 108, 101, 97, 115, 101]⟩, .slice (some ⟨g, 0, none⟩) 1 1], by rw [← e]; rfl, hJ, ⟨g, rfl, h'.out⟩, fun _ _ h => h⟩
    · have q := P1.out.below hJ P1.out.lt
      have c0 : W.cell? ⟨w2.heap.size, 0, none⟩ = some (.func (.func 54) #[] #[ptr b10]) := q.cell 0
      have c1 : W.cell? ⟨w2.heap.size, 1, none⟩ = some (.func (.func 56) #[] #[ptr b10]) := q.cell 1
      have c2 : W.cell? ⟨w2.heap.size, 2, none⟩ = some (.func (.func 58) #[] #[ptr b10, ptr b11, ptr b12]) := q.cell 2
      have c3 : W.cell? ⟨w2.heap.size, 3, none⟩ = some (.func (.func 59) #[] #[ptr b10]) := q.cell 3
      have HQ := Lib.hid q
      clear q
      refine wpOp_step rfl fun K hK => ?_
      go_simp
      exact hK _ _ ⟨.agg #[.func (.func 54) #[] #[ptr b10], .func (.func 56) #[] #[ptr b10], .func (.func 58) #[] #[ptr b10, ptr b11, ptr b12], .func (.func 59) #[] #[ptr b10]], rfl, hJ, ⟨_, _, _, _, rfl, (H1.out.below hJ).more hJ.size⟩, fun _ _ h => h⟩
    · have q := P2.out.below hJ P2.out.lt
      have c0 : W.cell? ⟨(w2.heap.size + 1), 0, none⟩ = some (.func (.func 54) #[] #[ptr b20]) := q.cell 0
      have c1 : W.cell? ⟨(w2.heap.size + 1), 1, none⟩ = some (.func (.func 56) #[] #[ptr b20]) := q.cell 1
      have c2 : W.cell? ⟨(w2.heap.size + 1), 2, none⟩ = some (.func (.func 58) #[] #[ptr b20, ptr b21, ptr b22]) := q.cell 2
      have c3 : W.cell? ⟨(w2.heap.size + 1), 3, none⟩ = some (.func (.func 59) #[] #[ptr b20]) := q.cell 3
      have HQ := Lib.hid q
      clear q
      refine wpOp_step rfl fun K hK => ?_
      go_simp
      exact hK _ _ ⟨.agg #[.func (.func 54) #[] #[ptr b20], .func (.func 56) #[] #[ptr b20], .func (.func 58) #[] #[ptr b20, ptr b21, ptr b22], .func (.func 59) #[] #[ptr b20]], rfl, hJ, ⟨_, _, _, _, rfl, (H2.out.below hJ).more hJ.size⟩, fun _ _ h => h⟩
    · obtain ⟨a0, b0, c0, d0, e0, h0⟩ := hd 50 (by kernel_rfl)
      change xs 50 = _ at e0
      obtain ⟨a1, b1, c1, d1, e1, h1⟩ := hd 51 (by kernel_rfl)
      change xs 51 = _ at e1
      have h0' := Lib.hid h0
      have h1' := Lib.hid h1
      clear h0 h1
      refine wpOp_step rfl fun K hK => ?_
      go_simp
      exact hK _ _ ⟨.slice (some ⟨W.heap.size, 0, none⟩) 2 2, by rw [← e0, ← e1]; rfl, hJ.alloc hJ.size _, ⟨W.heap.size, rfl, parts2 h0'.out h1'.out⟩, fun _ _ h => h.below ((Below.refl _ _).alloc (Nat.le_refl _) _)⟩
    · obtain ⟨g, e, h⟩ := hd 52 (by kernel_rfl)
      change xs 52 = _ at e
      simp only [List.length_cons, List.length_nil] at e
      have h' := Lib.hid h
      clear h
      refine wpOp_step rfl fun K hK => ?_
      go_simp
      exact hK _ _ ⟨.agg #[.int .i64 14, .string ⟨#[114, 101, 116, 105, 114, 101]⟩, .slice (some ⟨g, 0, none⟩) 2 2], by rw [← e]; rfl, hJ, ⟨g, rfl, h'.out⟩, fun _ _ h => h⟩
    · refine wpOp_step rfl fun K hK => ?_
      go_simp
      refine (N39.out 0 1000 _).mono ?_
      rintro e W' ⟨a, b, c, d, rfl, hp, hb⟩
      exact hK _ _ ⟨.agg #[a, b, c, d], rfl, hJ.trans (hb.mono hJ.size), ⟨a, b, c, d, rfl, hp⟩, fun _ _ h => h.below hb⟩
    · obtain ⟨a0, b0, c0, d0, e0, h0⟩ := hd 54 (by kernel_rfl)
      change xs 54 = _ at e0
      have h0' := Lib.hid h0
      clear h0
      refine wpOp_step rfl fun K hK => ?_
      go_simp
      exact hK _ _ ⟨.slice (some ⟨W.heap.size, 0, none⟩) 1 1, by rw [← e0]; rfl, hJ.alloc hJ.size _, ⟨W.heap.size, rfl, parts1 h0'.out⟩, fun _ _ h => h.below ((Below.refl _ _).alloc (Nat.le_refl _) _)⟩
    · obtain ⟨g, e, h⟩ := hd 55 (by kernel_rfl)
      change xs 55 = _ at e
      simp only [List.length_cons, List.length_nil] at e
      have h' := Lib.hid h
      clear h
      refine wpOp_step rfl fun K hK => ?_
      go_simp
      exact hK _ _ ⟨.agg #[.int .i64 15, .string ⟨#[99, 97, 108, 109]⟩, .slice (some ⟨g, 0, none⟩) 1 1], by rw [← e]; rfl, hJ, ⟨g, rfl, h'.out⟩, fun _ _ h => h⟩
    · obtain ⟨g0, e0, h0⟩ := hd 3 (by kernel_rfl)
      change xs 3 = _ at e0
      dsimp only at h0
      simp only [List.length_cons, List.length_nil] at e0
      have h0' := Lib.hid h0
      clear h0
      obtain ⟨g1, e1, h1⟩ := hd 6 (by kernel_rfl)
      change xs 6 = _ at e1
      dsimp only at h1
      simp only [List.length_cons, List.length_nil] at e1
      have h1' := Lib.hid h1
      clear h1
      obtain ⟨g2, e2, h2⟩ := hd 9 (by kernel_rfl)
      change xs 9 = _ at e2
      dsimp only at h2
      simp only [List.length_cons, List.length_nil] at e2
      have h2' := Lib.hid h2
      clear h2
      obtain ⟨g3, e3, h3⟩ := hd 12 (by kernel_rfl)
      change xs 12 = _ at e3
      dsimp only at h3
      simp only [List.length_cons, List.length_nil] at e3
      have h3' := Lib.hid h3
      clear h3
      obtain ⟨g4, e4, h4⟩ := hd 15 (by kernel_rfl)
      change xs 15 = _ at e4
      dsimp only at h4
      simp only [List.length_cons, List.length_nil] at e4
      have h4' := Lib.hid h4
      clear h4
      obtain ⟨g5, e5, h5⟩ := hd 18 (by kernel_rfl)
      change xs 18 = _ at e5
      dsimp only at h5
      simp only [List.length_cons, List.length_nil] at e5
      have h5' := Lib.hid h5
      clear h5
      obtain ⟨g6, e6, h6⟩ := hd 21 (by kernel_rfl)
      change xs 21 = _ at e6
      dsimp only at h6
      simp only [List.length_cons, List.length_nil] at e6
      have h6' := Lib.hid h6
      clear h6
      obtain ⟨g7, e7, h7⟩ := hd 25 (by kernel_rfl)
      change xs 25 = _ at e7
      dsimp only at h7
      simp only [List.length_cons, List.length_nil] at e7
      have h7' := Lib.hid h7
      clear h7
      obtain ⟨g8, e8, h8⟩ := hd 28 (by kernel_rfl)
      change xs 28 = _ at e8
      dsimp only at h8
      simp only [List.length_cons, List.length_nil] at e8
      have h8' := Lib.hid h8
      clear h8
      obtain ⟨g9, e9, h9⟩ := hd 31 (by kernel_rfl)
      change xs 31 = _ at e9
      dsimp only at h9
      simp only [List.length_cons, List.length_nil] at e9
      have h9' := Lib.hid h9
      clear h9
      obtain ⟨g10, e10, h10⟩ := hd 35 (by kernel_rfl)
      change xs 35 = _ at e10
      dsimp only at h10
      simp only [List.length_cons, List.length_nil] at e10
      have h10' := Lib.hid h10
      clear h10
      obtain ⟨g11, e11, h11⟩ := hd 41 (by kernel_rfl)
      change xs 41 = _ at e11
      dsimp only at h11
      simp only [List.length_cons, List.length_nil] at e11
      have h11' := Lib.hid h11
      clear h11
      obtain ⟨g12, e12, h12⟩ := hd 46 (by kernel_rfl)
      change xs 46 = _ at e12
      dsimp only at h12
      simp only [List.length_cons, List.length_nil] at e12
      have h12' := Lib.hid h12
      clear h12
      obtain ⟨g13, e13, h13⟩ := hd 49 (by kernel_rfl)
      change xs 49 = _ at e13
      dsimp only at h13
      simp only [List.length_cons, List.length_nil] at e13
      have h13' := Lib.hid h13
      clear h13
      obtain ⟨g14, e14, h14⟩ := hd 53 (by kernel_rfl)
      change xs 53 = _ at e14
      dsimp only at h14
      simp only [List.length_cons, List.length_nil] at e14
      have h14' := Lib.hid h14
      clear h14
      obtain ⟨g15, e15, h15⟩ := hd 56 (by kernel_rfl)
      change xs 56 = _ at e15
      dsimp only at h15
      simp only [List.length_cons, List.length_nil] at e15
      have h15' := Lib.hid h15
      clear h15
      refine wpOp_step rfl fun K hK => ?_
      go_simp
      exact hK _ _ ⟨.slice (some ⟨W.heap.size, 0, none⟩) 16 16, by rw [← e0, ← e1, ← e2, ← e3, ← e4, ← e5, ← e6, ← e7, ← e8, ← e9, ← e10, ← e11, ← e12, ← e13, ← e14, ← e15]; rfl, hJ.alloc hJ.size _, ⟨W.heap.size, rfl, forms_new h0'.out h1'.out h2'.out h3'.out h4'.out h5'.out h6'.out h7'.out h8'.out h9'.out h10'.out h11'.out h12'.out h13'.out h14'.out h15'.out⟩, fun _ _ h => h.below ((Below.refl _ _).alloc (Nat.le_refl _) _)⟩
    · obtain ⟨g, e, h⟩ := hd 57 (by kernel_rfl)
      change xs 57 = _ at e
      have h' := Lib.hid h
      clear h
      refine wpOp_step rfl fun K hK => ?_
      go_simp
      exact hK _ _ ⟨.slice (some ⟨g, 0, none⟩) 16 16, by rw [← e]; rfl, hJ, ⟨g, rfl, h'.out⟩, fun _ _ h => h⟩
  · intro xs W hJ hF
    obtain ⟨g, e, h⟩ := hF 58 (by simp)
    change xs 58 = _ at e
    have HE := Lib.hid (And.intro h hJ)
    rw [e]
    clear h hJ hF
    go_wp2_with fail
    go_ret
    exact ⟨g, rfl, HE.out.1, B7.out.trans (HE.out.2.mono B7.out.size)⟩
end Go.Proofs.YtoejjboanggenaaGreatDoor
