/-
Contract of forms.
-/
import Derived.Test.YtoejjboanggenaaGreatDoorL
import Derived.Test.YtoejjboanggenaaGreatDoorFx
namespace Go.Proofs.YtoejjboanggenaaGreatDoor
open Go.RowKit
set_option linter.unusedVariables false
set_option linter.unusedSimpArgs false

/-- a form: its number, its word, its parts. -/
structure FD where
  k : Int
  word : ByteArray
  pds : List PD
def formsFD : List FD := [⟨0, ⟨#[116, 117, 114, 110]⟩, [.numA 1 8, .numB 0 1099511627776]⟩, ⟨1, ⟨#[100, 101, 108, 105, 118, 101, 114]⟩, [.numA 0 1099511627776]⟩, ⟨2, ⟨#[100, 114, 111, 112]⟩, [.numA 0 1099511627776]⟩, ⟨3, ⟨#[100, 111, 117, 98, 108, 101]⟩, [.numA 0 1099511627776]⟩, ⟨4, ⟨#[116, 105, 99, 107]⟩, [.numA 1 8]⟩, ⟨5, ⟨#[109, 105, 110, 111, 114]⟩, [.numA 1 8]⟩, ⟨6, ⟨#[109, 97, 106, 111, 114]⟩, [.numA 1 8]⟩, ⟨7, ⟨#[99, 114, 97, 115, 104]⟩, [.numA 1 8, .surv]⟩, ⟨8, ⟨#[114, 101, 115, 116, 97, 114, 116]⟩, [.numA 1 8]⟩, ⟨9, ⟨#[99, 104, 101, 99, 107, 112, 111, 105, 110, 116]⟩, [.numA 1 8]⟩, ⟨10, ⟨#[102, 97, 105, 108]⟩, [.numA 1 8, .numB 0 1099511627776]⟩, ⟨11, ⟨#[115, 112, 97, 119, 110]⟩, [.numA 1 8, .nam 2, .met 3, .rest 30]⟩, ⟨12, ⟨#[112, 111, 115, 116]⟩, [.nam 2, .met 2, .rest 8]⟩, ⟨13, ⟨#[114, 101, 108, 101, 97, 115, 101]⟩, [.nam 2]⟩, ⟨14, ⟨#[114, 101, 116, 105, 114, 101]⟩, [.numA 1 8, .numB 1 8]⟩, ⟨15, ⟨#[99, 97, 108, 109]⟩, [.numB 0 1000]⟩]
/-- a slice of parts in block b, all of it below B. -/
def Parts (W : World) (B b : Nat) (pds : List PD) : Prop :=
  b < B ∧ ∀ i pd, pds[i]? = some pd → ∃ vs, PartV W B pd vs ∧ ∀ j v, vs[j]? = some v → W.cell? ⟨b, i * 4 + j, none⟩ = some v
theorem Parts.below {W W' : World} {B b : Nat} {pds : List PD} (h : Parts W B b pds) (hb : Below B W W') : Parts W' B b pds :=
  ⟨h.1, fun i pd hp => by
    obtain ⟨vs, h1, h2⟩ := h.2 i pd hp
    exact ⟨vs, h1.below hb, fun j v hv => (cells_below hb h.1 _).trans (h2 j v hv)⟩⟩
theorem Parts.more {W : World} {B B' b : Nat} {pds : List PD} (h : Parts W B b pds) (hB : B ≤ B') : Parts W B' b pds :=
  ⟨Nat.lt_of_lt_of_le h.1 hB, fun i pd hp => by
    obtain ⟨vs, h1, h2⟩ := h.2 i pd hp
    exact ⟨vs, h1.more hB, h2⟩⟩
def formV (fd : FD) (g : Nat) : List Value := [.int .i64 fd.k, .string fd.word, .slice (some ⟨g, 0, none⟩) fd.pds.length fd.pds.length]
/-- a slice of forms in block b, all of it below B. -/
def Forms (W : World) (B b : Nat) (fds : List FD) : Prop :=
  b < B ∧ ∀ i fd, fds[i]? = some fd → ∃ g, Parts W B g fd.pds ∧ ∀ j v, (formV fd g)[j]? = some v → W.cell? ⟨b, i * 3 + j, none⟩ = some v
theorem Forms.below {W W' : World} {B b : Nat} {fds : List FD} (h : Forms W B b fds) (hb : Below B W W') : Forms W' B b fds :=
  ⟨h.1, fun i pd hp => by
    obtain ⟨g, h1, h2⟩ := h.2 i pd hp
    exact ⟨g, h1.below hb, fun j v hv => (cells_below hb h.1 _).trans (h2 j v hv)⟩⟩
theorem Forms.more {W : World} {B B' b : Nat} {fds : List FD} (h : Forms W B b fds) (hB : B ≤ B') : Forms W B' b fds :=
  ⟨Nat.lt_of_lt_of_le h.1 hB, fun i pd hp => by
    obtain ⟨g, h1, h2⟩ := h.2 i pd hp
    exact ⟨g, h1.more hB, h2⟩⟩
def IsPart (W : World) (pd : PD) (v : Value) : Prop := ∃ a b c d, v = .agg #[a, b, c, d] ∧ PartV W W.heap.size pd [a, b, c, d]
def IsParts (W : World) (pds : List PD) (v : Value) : Prop := ∃ g, v = .slice (some ⟨g, 0, none⟩) pds.length pds.length ∧ Parts W W.heap.size g pds
def IsForm (W : World) (fd : FD) (v : Value) : Prop := ∃ g, v = .agg #[.int .i64 fd.k, .string fd.word, .slice (some ⟨g, 0, none⟩) fd.pds.length fd.pds.length] ∧ Parts W W.heap.size g fd.pds
def IsForms (W : World) (fds : List FD) (v : Value) : Prop := ∃ g, v = .slice (some ⟨g, 0, none⟩) 16 16 ∧ Forms W W.heap.size g fds
theorem IsPart.below {W W' : World} {pd : PD} {v : Value} (h : IsPart W pd v) (hb : Below W.heap.size W W') : IsPart W' pd v := by
  obtain ⟨a, b, c, d, h1, h2⟩ := h; exact ⟨a, b, c, d, h1, (h2.below hb).more hb.size⟩
theorem IsParts.below {W W' : World} {pds : List PD} {v : Value} (h : IsParts W pds v) (hb : Below W.heap.size W W') : IsParts W' pds v := by
  obtain ⟨g, h1, h2⟩ := h; exact ⟨g, h1, (h2.below hb).more hb.size⟩
theorem IsForm.below {W W' : World} {fd : FD} {v : Value} (h : IsForm W fd v) (hb : Below W.heap.size W W') : IsForm W' fd v := by
  obtain ⟨g, h1, h2⟩ := h; exact ⟨g, h1, (h2.below hb).more hb.size⟩
theorem IsForms.below {W W' : World} {fds : List FD} {v : Value} (h : IsForms W fds v) (hb : Below W.heap.size W W') : IsForms W' fds v := by
  obtain ⟨g, h1, h2⟩ := h; exact ⟨g, h1, (h2.below hb).more hb.size⟩
/-- the facts of the operations of the last region. -/
def F27 (i : Nat) (v : Value) (W : World) : Prop :=
  match i with
  | 0 => IsPart W (.numA 1 8) v
  | 1 => IsPart W (.numB 0 1099511627776) v
  | 2 => IsParts W [.numA 1 8, .numB 0 1099511627776] v
  | 3 => IsForm W ⟨0, ⟨#[116, 117, 114, 110]⟩, [.numA 1 8, .numB 0 1099511627776]⟩ v
  | 4 => IsPart W (.numA 0 1099511627776) v
  | 5 => IsParts W [.numA 0 1099511627776] v
  | 6 => IsForm W ⟨1, ⟨#[100, 101, 108, 105, 118, 101, 114]⟩, [.numA 0 1099511627776]⟩ v
  | 7 => IsPart W (.numA 0 1099511627776) v
  | 8 => IsParts W [.numA 0 1099511627776] v
  | 9 => IsForm W ⟨2, ⟨#[100, 114, 111, 112]⟩, [.numA 0 1099511627776]⟩ v
  | 10 => IsPart W (.numA 0 1099511627776) v
  | 11 => IsParts W [.numA 0 1099511627776] v
  | 12 => IsForm W ⟨3, ⟨#[100, 111, 117, 98, 108, 101]⟩, [.numA 0 1099511627776]⟩ v
  | 13 => IsPart W (.numA 1 8) v
  | 14 => IsParts W [.numA 1 8] v
  | 15 => IsForm W ⟨4, ⟨#[116, 105, 99, 107]⟩, [.numA 1 8]⟩ v
  | 16 => IsPart W (.numA 1 8) v
  | 17 => IsParts W [.numA 1 8] v
  | 18 => IsForm W ⟨5, ⟨#[109, 105, 110, 111, 114]⟩, [.numA 1 8]⟩ v
  | 19 => IsPart W (.numA 1 8) v
  | 20 => IsParts W [.numA 1 8] v
  | 21 => IsForm W ⟨6, ⟨#[109, 97, 106, 111, 114]⟩, [.numA 1 8]⟩ v
  | 22 => IsPart W (.numA 1 8) v
  | 23 => IsPart W (.surv) v
  | 24 => IsParts W [.numA 1 8, .surv] v
  | 25 => IsForm W ⟨7, ⟨#[99, 114, 97, 115, 104]⟩, [.numA 1 8, .surv]⟩ v
  | 26 => IsPart W (.numA 1 8) v
  | 27 => IsParts W [.numA 1 8] v
  | 28 => IsForm W ⟨8, ⟨#[114, 101, 115, 116, 97, 114, 116]⟩, [.numA 1 8]⟩ v
  | 29 => IsPart W (.numA 1 8) v
  | 30 => IsParts W [.numA 1 8] v
  | 31 => IsForm W ⟨9, ⟨#[99, 104, 101, 99, 107, 112, 111, 105, 110, 116]⟩, [.numA 1 8]⟩ v
  | 32 => IsPart W (.numA 1 8) v
  | 33 => IsPart W (.numB 0 1099511627776) v
  | 34 => IsParts W [.numA 1 8, .numB 0 1099511627776] v
  | 35 => IsForm W ⟨10, ⟨#[102, 97, 105, 108]⟩, [.numA 1 8, .numB 0 1099511627776]⟩ v
  | 36 => IsPart W (.numA 1 8) v
  | 37 => IsPart W (.nam 2) v
  | 38 => IsPart W (.met 3) v
  | 39 => IsPart W (.rest 30) v
  | 40 => IsParts W [.numA 1 8, .nam 2, .met 3, .rest 30] v
  | 41 => IsForm W ⟨11, ⟨#[115, 112, 97, 119, 110]⟩, [.numA 1 8, .nam 2, .met 3, .rest 30]⟩ v
  | 42 => IsPart W (.nam 2) v
  | 43 => IsPart W (.met 2) v
  | 44 => IsPart W (.rest 8) v
  | 45 => IsParts W [.nam 2, .met 2, .rest 8] v
  | 46 => IsForm W ⟨12, ⟨#[112, 111, 115, 116]⟩, [.nam 2, .met 2, .rest 8]⟩ v
  | 47 => IsPart W (.nam 2) v
  | 48 => IsParts W [.nam 2] v
  | 49 => IsForm W ⟨13, ⟨#[114, 101, 108, 101, 97, 115, 101]⟩, [.nam 2]⟩ v
  | 50 => IsPart W (.numA 1 8) v
  | 51 => IsPart W (.numB 1 8) v
  | 52 => IsParts W [.numA 1 8, .numB 1 8] v
  | 53 => IsForm W ⟨14, ⟨#[114, 101, 116, 105, 114, 101]⟩, [.numA 1 8, .numB 1 8]⟩ v
  | 54 => IsPart W (.numB 0 1000) v
  | 55 => IsParts W [.numB 0 1000] v
  | 56 => IsForm W ⟨15, ⟨#[99, 97, 108, 109]⟩, [.numB 0 1000]⟩ v
  | 57 => IsForms W formsFD v
  | 58 => IsForms W formsFD v
  | _ => True
theorem F27.below {i : Nat} {v : Value} {W W' : World} (hb : Below W.heap.size W W') (h : F27 i v W) : F27 i v W' := by
  unfold F27 at h ⊢
  split at h <;> first | exact IsPart.below h hb | exact IsParts.below h hb | exact IsForm.below h hb | exact IsForms.below h hb | trivial
end Go.Proofs.YtoejjboanggenaaGreatDoor
