/-
The reading function of a part, as data.
-/
import Derived.Test.YtoejjboanggenaaGreatDoorY
namespace Go.Proofs.YtoejjboanggenaaGreatDoor
open Go.RowKit
set_option linter.unusedVariables false
set_option linter.unusedSimpArgs false

/-- an act without lists, in memory. -/
def vOf (a : Ad) : Av := ⟨a.k, a.a, a.b, a.nm, a.mt, none, 0, 0, none, 0, 0⟩
theorem vOf_reads {w : World} {B : Nat} {a : Ad} (h1 : a.args = []) (h2 : a.surv = []) : Reads w B (vOf a) a :=
  ⟨rfl, rfl, rfl, rfl, rfl, by rw [h1]; exact Ints.none w B, by rw [h2]; exact Ints.none w B⟩
def PD.list : PD → Bool
  | .surv => true
  | .rest _ => true
  | _ => false
/-- the lists of the act lie behind a block. -/
def Av.apart (v : Av) (M : Nat) : Prop := (∀ b o, v.A = some ⟨b, o, none⟩ → M < b) ∧ ∀ b o, v.A2 = some ⟨b, o, none⟩ → M < b
theorem vOf_apart (a : Ad) (M : Nat) : (vOf a).apart M := ⟨fun b o h => (by cases h), fun b o h => (by cases h)⟩
def ReadRes (w : World) (M : Nat) (ad : Ad) (ws : List ByteArray) (pd : PD) (e : Ending) (w' : World) : Prop :=
  Below M w w' ∧ w.heap.size ≤ w'.heap.size ∧
  match rdPD ad ws pd with
  | none => ∃ A n c, e = .returned (.tuple #[.slice A n c, .bool false])
  | some (ad', ws') => ∃ v A c, e = .returned (.tuple #[.slice A ws'.length c, .bool true]) ∧ Blk w' M 25 v.cells ∧ Reads w' w'.heap.size v ad' ∧ Strs w' M A ws'.length ws' ∧ ws'.length ≤ c ∧ v.n ≤ 1000000 ∧ v.n2 ≤ 1000000 ∧ v.apart M ∧
      (pd.list = false → v = vOf ad' ∧ ad'.args = [] ∧ ad'.surv = [])
theorem strs_cons {w : World} {B n : Nat} {A : Option Addr} {s : ByteArray} {ss : List ByteArray} (h : Strs w B A n (s :: ss)) : ∃ b off, A = some ⟨b, off, none⟩ ∧ n = ss.length + 1 := by
  have hl := h.len
  simp only [List.length_cons] at hl
  obtain ⟨b, off, h1, _⟩ := h.2 (by omega)
  exact ⟨b, off, h1, hl.symm⟩
theorem num_res {w w' w1 : World} {M j b off c : Nat} {ad ad' : Ad} {s : ByteArray} {ss : List ByteArray} {e : Ending} {x : Value} {pd : PD} (hL : Blk w M 25 (vOf ad).cells) (hs : Strs w M (some ⟨b, off, none⟩) (ss.length + 1) (s :: ss)) (hc : ss.length + 1 ≤ c)
    (ha : ad'.args = []) (hsv : ad'.surv = []) (hcell : (vOf ad).cells.setIfInBounds j x = (vOf ad').cells) (b1 : Below w.heap.size w w1) (hw : w1.setCell ⟨M, j, none⟩ x = w') (ok : Bool)
    (he : e = .returned (.tuple #[.slice (cutA b off c) ss.length (c - 1), .bool ok])) (hr : rdPD ad (s :: ss) pd = if ok = true then some (ad', ss) else none) : ReadRes w M ad (s :: ss) pd e w' := by
  have hlt := hL.lt
  have hb : Below M w w' := hw ▸ (b1.mono (Nat.le_of_lt hlt)).setCell (p := ⟨M, j, none⟩) (Nat.le_refl M) x
  have hsz : w'.heap.size = w1.heap.size := by rw [← hw]; simp
  refine ⟨hb, by rw [hsz]; exact b1.size, ?_⟩
  rw [hr]
  cases ok with
  | false => exact ⟨_, _, _, he⟩
  | true =>
    refine ⟨vOf ad', cutA b off c, c - 1, he, ?_, vOf_reads ha hsv, (hs.cut hc).below hb, by omega, Nat.zero_le _, Nat.zero_le _, vOf_apart _ _, fun _ => ⟨rfl, ha, hsv⟩⟩
    rw [← hw, ← hcell]
    exact (hL.below b1 hlt).set j x
theorem nil_res {w : World} {M : Nat} {ad : Ad} {e : Ending} {w' : World} {pd : PD} (h : e = .returned (.tuple #[.slice none 0 0, .bool false]) ∧ w = w') (hr : rdPD ad [] pd = none) : ReadRes w M ad [] pd e w' := by
  obtain ⟨rfl, rfl⟩ := h
  refine ⟨Below.refl _ _, Nat.le_refl _, ?_⟩
  rw [hr]
  exact ⟨_, _, _, rfl⟩
theorem part_read {w : World} {B : Nat} {pd : PD} {a b c d : Value} (h : PartV w B pd [a, b, c, d]) (M : Nat) (ad : Ad) (ha : ad.args = []) (hsv : ad.surv = []) (hL : Blk w M 25 (vOf ad).cells) (hg : GlB w M)
    (A : Option Addr) (ws : List ByteArray) (n cap : Nat) (hs : Strs w M A n ws) (hcap : n ≤ cap) (hn : n ≤ 1000000) (hsz : ∀ s ∈ ws, s.size ≤ 1000000) :
    RunsOn a #[.pointer (some ⟨M, 0, none⟩), .slice A n cap] w (ReadRes w M ad ws pd) := by
  have hlen := hs.len
  have hM := hL.lt
  cases pd with
  | numA lo hi =>
    obtain ⟨b0, b1, b2, e, h0, h1, h2, k0, k1, k2⟩ := h
    simp only [List.cons.injEq, and_true] at e
    obtain ⟨rfl, _, _, _⟩ := e
    refine ⟨54, _, rfl, fun _ _ => by kernel_rfl, ?_⟩
    cases ws with
    | nil =>
      simp only [List.length_nil] at hlen
      subst hlen
      exact (num54_0 M b0 A cap w).mono fun e w' q => nil_res q rfl
    | cons s ss =>
      obtain ⟨b', off, rfl, rfl⟩ := strs_cons hs
      exact (num54_38 M _ b0 b' off ss.length cap M s ss w hg.gl (hsz s (by simp)) k0 hL (by show _ < 7; decide) hs hcap (by omega)).mono fun e w' ⟨q1, w1, q2, q3⟩ =>
        num_res (ad' := { ad with a := numV s }) hL hs hcap ha hsv rfl q2 q3 (numOk s) q1 rfl
  | numB lo hi =>
    obtain ⟨b0, b1, b2, e, h0, h1, h2, k0, k1, k2⟩ := h
    simp only [List.cons.injEq, and_true] at e
    obtain ⟨rfl, _, _, _⟩ := e
    refine ⟨54, _, rfl, fun _ _ => by kernel_rfl, ?_⟩
    cases ws with
    | nil =>
      simp only [List.length_nil] at hlen
      subst hlen
      exact (num54_0 M b0 A cap w).mono fun e w' q => nil_res q rfl
    | cons s ss =>
      obtain ⟨b', off, rfl, rfl⟩ := strs_cons hs
      exact (num54_39 M _ b0 b' off ss.length cap M s ss w hg.gl (hsz s (by simp)) k0 hL (by show _ < 7; decide) hs hcap (by omega)).mono fun e w' ⟨q1, w1, q2, q3⟩ =>
        num_res (ad' := { ad with b := numV s }) hL hs hcap ha hsv rfl q2 q3 (numOk s) q1 rfl
  | nam k =>
    obtain ⟨b0, b1, e, h0, h1, k0, k1⟩ := h
    simp only [List.cons.injEq, and_true] at e
    obtain ⟨rfl, _, _, _⟩ := e
    refine ⟨60, _, rfl, fun _ _ => by kernel_rfl, ?_⟩
    cases ws with
    | nil =>
      simp only [List.length_nil] at hlen
      subst hlen
      exact (nam60_0 M b0 A cap w).mono fun e w' q => nil_res q rfl
    | cons s ss =>
      obtain ⟨b', off, rfl, rfl⟩ := strs_cons hs
      exact (nam60_41 M _ b0 b' off ss.length cap M s ss w k0 hL (by show _ < 7; decide) hs hcap (by omega)).mono fun e w' ⟨q1, w1, q2, q3⟩ =>
        num_res (ad' := { ad with nm := s }) hL hs hcap ha hsv rfl q2 q3 true q1 rfl
  | met k =>
    obtain ⟨b0, b1, e, h0, h1, k0, k1⟩ := h
    simp only [List.cons.injEq, and_true] at e
    obtain ⟨rfl, _, _, _⟩ := e
    refine ⟨60, _, rfl, fun _ _ => by kernel_rfl, ?_⟩
    cases ws with
    | nil =>
      simp only [List.length_nil] at hlen
      subst hlen
      exact (nam60_0 M b0 A cap w).mono fun e w' q => nil_res q rfl
    | cons s ss =>
      obtain ⟨b', off, rfl, rfl⟩ := strs_cons hs
      exact (nam60_42 M _ b0 b' off ss.length cap M s ss w k0 hL (by show _ < 7; decide) hs hcap (by omega)).mono fun e w' ⟨q1, w1, q2, q3⟩ =>
        num_res (ad' := { ad with mt := s }) hL hs hcap ha hsv rfl q2 q3 true q1 rfl
  | surv =>
    have e : [a, b, c, d] = [fnv 65, fnv 66, fnv 67, fnv 70] := h
    simp only [List.cons.injEq, and_true] at e
    obtain ⟨rfl, _, _, _⟩ := e
    refine ⟨65, _, rfl, fun _ _ => by kernel_rfl, ?_⟩
    cases hall : ws.all numOk with
    | false =>
      refine (read65_no M _ A n cap ws w hg hs hn hsz hL rfl hall).mono fun e w' ⟨q1, q2⟩ => ⟨q2, ?_, ?_⟩
      · exact q2.size
      · rw [show rdPD ad ws .surv = none from by unfold rdPD; dsimp only; rw [hall]; rfl]
        exact ⟨_, _, _, q1⟩
    | true =>
      refine (read65_yes M _ A n cap ws w hg hs hn hsz hL rfl hall).mono fun e w' ⟨A', c', q1, q2, q3, q4, q5, q6⟩ => ⟨q4, q5, ?_⟩
      rw [show rdPD ad ws .surv = some ({ ad with surv := ws.map numV }, []) from by unfold rdPD; dsimp only; rw [hall]; rfl]
      exact ⟨{ vOf ad with A2 := A', n2 := ws.length, c2 := c' }, none, 0, q1, q3, ⟨rfl, rfl, rfl, rfl, rfl, by rw [show ({ ad with surv := ws.map numV } : Ad).args = [] from ha]; exact Ints.none _ _, q2⟩, ⟨rfl, fun h0 => absurd h0 (Nat.lt_irrefl 0)⟩, Nat.le_refl _, Nat.zero_le _, by show ws.length ≤ _; omega, ⟨fun b o h => (by cases h), q6⟩, fun h => by cases h⟩
  | rest m =>
    obtain ⟨b0, e, h0, k0⟩ := h
    simp only [List.cons.injEq, and_true] at e
    obtain ⟨rfl, _, _, _⟩ := e
    refine ⟨71, _, rfl, fun _ _ => by kernel_rfl, ?_⟩
    cases hall : ws.all numOk with
    | false =>
      refine (read71_no M _ A n cap ws w hg hs hn hsz hL rfl hall).mono fun e w' ⟨q1, q2⟩ => ⟨q2, ?_, ?_⟩
      · exact q2.size
      · rw [show rdPD ad ws (.rest m) = none from by unfold rdPD; dsimp only; rw [hall]; rfl]
        exact ⟨_, _, _, q1⟩
    | true =>
      refine (read71_yes M _ A n cap ws w hg hs hn hsz hL rfl hall).mono fun e w' ⟨A', c', q1, q2, q3, q4, q5, q6⟩ => ⟨q4, q5, ?_⟩
      rw [show rdPD ad ws (.rest m) = some ({ ad with args := ws.map numV }, []) from by unfold rdPD; dsimp only; rw [hall]; rfl]
      exact ⟨{ vOf ad with A := A', n := ws.length, c := c' }, none, 0, q1, q3, ⟨rfl, rfl, rfl, rfl, rfl, q2, by rw [show ({ ad with args := ws.map numV } : Ad).surv = [] from hsv]; exact Ints.none _ _⟩, ⟨rfl, fun h0 => absurd h0 (Nat.lt_irrefl 0)⟩, Nat.le_refl _, by show ws.length ≤ _; omega, Nat.zero_le _, ⟨q6, fun b o h => (by cases h)⟩, fun h => by cases h⟩
end Go.Proofs.YtoejjboanggenaaGreatDoor
