/-
  No cell of these rows narrows 'for every input' (looked for: loops, veiled, ifaces, maps, wideKeys, modest, calm, conditions, laid).
  DERIVED. THE GIVEN ROWS OF THIS SEAT. 7 by the template 'for every input the law returns true; each argument reads behind the call as it read before'; 0 by the template 'total and deterministic' (their statements: YtnlgkjnlfeeaoaaTotals.lean).
  GIVEN WITH THE SEED: the statements are not yours to turn. If you find one false, say at which input.
  Laid BY PROGRAM, IN A SANDBOX (cutbox-rows.mjs): the forced cells as the released guide's own fill.sh prints them over the translation f92b4698e985edce… (all of the seat's roots in one cut). By AI agents, Wed Nov 11 2026. No macro, syntax, notation, axiom, sorry.
-/
import Derived.Test.YtnlgkjnlfeeaoaaChecked
import GoSem.Claim
import GoSem.ClaimJoined
import GoSem.ClaimMapViews
import Derived.JoinedTies
import Derived.KernelRfl
namespace Go.Proofs.Ytnlgkjnlfeeaoaa
/- THE CELL 'sum', in the pinned program and in every row, IS THE sha256 OF THE DUMP (.gsa) THAT YtnlgkjnlfeeaoaaProg.lean LOADS. Nothing in Lean hashes anything: it is a label: what it is worth is what the hold of that sum in a sandbox is worth. -/
noncomputable def Try.pinned : Pinned := { name := "ytnlgkjnlfeeaoaa", sum := "f92b4698e985edcea819cfdb35b517e6b4a3343b2c72321157992c67db6253d8", checked := Try.checked }
namespace Rows
def none {H : Type} : Left H := { results := [], args := [] }

/-- 'refmeshlaw29.ShortcutWanted': WHATEVER THE INPUT: true; the input reads as it did. -/
def shortcutWantedSpec : ChangeSpec := { name := "shortcutWanted", fn := fun _ => fun
  | [d1, d2] => { results := [.lit (.bool true)], args := [d1, d2] }
  | _ => none }
def shortcutWantedRow : OpenClaim := { program := "ytnlgkjnlfeeaoaa", sum := "f92b4698e985edcea819cfdb35b517e6b4a3343b2c72321157992c67db6253d8", func := "refmesh/refmeshlaw29.ShortcutWanted", spec := "shortcutWanted", unfollowed := true, recurses := true, plainKeys := false, apart := false }
def ShortcutWantedSaid : Prop := shortcutWantedRow.holds Try.pinned (OpenSpec.ofChange shortcutWantedSpec)

/-- ITS FALSE NEIGHBOUR: 'it returns false'. Refute it at one input. -/
def shortcutWantedWrong : ChangeSpec := { name := "shortcutWanted", fn := fun _ => fun
  | [d1, d2] => { results := [.lit (.bool false)], args := [d1, d2] }
  | _ => none }
def ShortcutWantedWrongFalsely : Prop := shortcutWantedRow.holds Try.pinned (OpenSpec.ofChange shortcutWantedWrong)

/-- 'refmeshlaw29.ShortcutTargets': WHATEVER THE INPUT: true; the input reads as it did. -/
def shortcutTargetsSpec : ChangeSpec := { name := "shortcutTargets", fn := fun _ => fun
  | [d1, d2] => { results := [.lit (.bool true)], args := [d1, d2] }
  | _ => none }
def shortcutTargetsRow : OpenClaim := { program := "ytnlgkjnlfeeaoaa", sum := "f92b4698e985edcea819cfdb35b517e6b4a3343b2c72321157992c67db6253d8", func := "refmesh/refmeshlaw29.ShortcutTargets", spec := "shortcutTargets", unfollowed := true, recurses := true, plainKeys := false, apart := false }
def ShortcutTargetsSaid : Prop := shortcutTargetsRow.holds Try.pinned (OpenSpec.ofChange shortcutTargetsSpec)

/-- ITS FALSE NEIGHBOUR: 'it returns false'. Refute it at one input. -/
def shortcutTargetsWrong : ChangeSpec := { name := "shortcutTargets", fn := fun _ => fun
  | [d1, d2] => { results := [.lit (.bool false)], args := [d1, d2] }
  | _ => none }
def ShortcutTargetsWrongFalsely : Prop := shortcutTargetsRow.holds Try.pinned (OpenSpec.ofChange shortcutTargetsWrong)

/-- 'refmeshlaw29.ShortcutPasses': WHATEVER THE INPUT: true; the input reads as it did. -/
def shortcutPassesSpec : ChangeSpec := { name := "shortcutPasses", fn := fun _ => fun
  | [d1, d2] => { results := [.lit (.bool true)], args := [d1, d2] }
  | _ => none }
def shortcutPassesRow : OpenClaim := { program := "ytnlgkjnlfeeaoaa", sum := "f92b4698e985edcea819cfdb35b517e6b4a3343b2c72321157992c67db6253d8", func := "refmesh/refmeshlaw29.ShortcutPasses", spec := "shortcutPasses", unfollowed := true, recurses := true, plainKeys := false, apart := false }
def ShortcutPassesSaid : Prop := shortcutPassesRow.holds Try.pinned (OpenSpec.ofChange shortcutPassesSpec)

/-- ITS FALSE NEIGHBOUR: 'it returns false'. Refute it at one input. -/
def shortcutPassesWrong : ChangeSpec := { name := "shortcutPasses", fn := fun _ => fun
  | [d1, d2] => { results := [.lit (.bool false)], args := [d1, d2] }
  | _ => none }
def ShortcutPassesWrongFalsely : Prop := shortcutPassesRow.holds Try.pinned (OpenSpec.ofChange shortcutPassesWrong)

/-- 'refmeshlaw29.ShortcutOnce': WHATEVER THE INPUT: true; the input reads as it did. -/
def shortcutOnceSpec : ChangeSpec := { name := "shortcutOnce", fn := fun _ => fun
  | [d1, d2] => { results := [.lit (.bool true)], args := [d1, d2] }
  | _ => none }
def shortcutOnceRow : OpenClaim := { program := "ytnlgkjnlfeeaoaa", sum := "f92b4698e985edcea819cfdb35b517e6b4a3343b2c72321157992c67db6253d8", func := "refmesh/refmeshlaw29.ShortcutOnce", spec := "shortcutOnce", unfollowed := true, recurses := true, plainKeys := false, apart := false }
def ShortcutOnceSaid : Prop := shortcutOnceRow.holds Try.pinned (OpenSpec.ofChange shortcutOnceSpec)

/-- ITS FALSE NEIGHBOUR: 'it returns false'. Refute it at one input. -/
def shortcutOnceWrong : ChangeSpec := { name := "shortcutOnce", fn := fun _ => fun
  | [d1, d2] => { results := [.lit (.bool false)], args := [d1, d2] }
  | _ => none }
def ShortcutOnceWrongFalsely : Prop := shortcutOnceRow.holds Try.pinned (OpenSpec.ofChange shortcutOnceWrong)

/-- 'refmeshlaw29.ShortcutDirect': WHATEVER THE INPUT: true; the input reads as it did. -/
def shortcutDirectSpec : ChangeSpec := { name := "shortcutDirect", fn := fun _ => fun
  | [d1, d2] => { results := [.lit (.bool true)], args := [d1, d2] }
  | _ => none }
def shortcutDirectRow : OpenClaim := { program := "ytnlgkjnlfeeaoaa", sum := "f92b4698e985edcea819cfdb35b517e6b4a3343b2c72321157992c67db6253d8", func := "refmesh/refmeshlaw29.ShortcutDirect", spec := "shortcutDirect", unfollowed := true, recurses := true, plainKeys := false, apart := false }
def ShortcutDirectSaid : Prop := shortcutDirectRow.holds Try.pinned (OpenSpec.ofChange shortcutDirectSpec)

/-- ITS FALSE NEIGHBOUR: 'it returns false'. Refute it at one input. -/
def shortcutDirectWrong : ChangeSpec := { name := "shortcutDirect", fn := fun _ => fun
  | [d1, d2] => { results := [.lit (.bool false)], args := [d1, d2] }
  | _ => none }
def ShortcutDirectWrongFalsely : Prop := shortcutDirectRow.holds Try.pinned (OpenSpec.ofChange shortcutDirectWrong)

/-- 'refmeshlaw29.ShortcutReroute': WHATEVER THE INPUT: true; the input reads as it did. -/
def shortcutRerouteSpec : ChangeSpec := { name := "shortcutReroute", fn := fun _ => fun
  | [d1, d2] => { results := [.lit (.bool true)], args := [d1, d2] }
  | _ => none }
def shortcutRerouteRow : OpenClaim := { program := "ytnlgkjnlfeeaoaa", sum := "f92b4698e985edcea819cfdb35b517e6b4a3343b2c72321157992c67db6253d8", func := "refmesh/refmeshlaw29.ShortcutReroute", spec := "shortcutReroute", unfollowed := true, recurses := true, plainKeys := false, apart := false }
def ShortcutRerouteSaid : Prop := shortcutRerouteRow.holds Try.pinned (OpenSpec.ofChange shortcutRerouteSpec)

/-- ITS FALSE NEIGHBOUR: 'it returns false'. Refute it at one input. -/
def shortcutRerouteWrong : ChangeSpec := { name := "shortcutReroute", fn := fun _ => fun
  | [d1, d2] => { results := [.lit (.bool false)], args := [d1, d2] }
  | _ => none }
def ShortcutRerouteWrongFalsely : Prop := shortcutRerouteRow.holds Try.pinned (OpenSpec.ofChange shortcutRerouteWrong)

/-- 'refmeshlaw29.ShortcutArrives': WHATEVER THE INPUT: true; the input reads as it did. -/
def shortcutArrivesSpec : ChangeSpec := { name := "shortcutArrives", fn := fun _ => fun
  | [d1, d2, d3] => { results := [.lit (.bool true)], args := [d1, d2, d3] }
  | _ => none }
def shortcutArrivesRow : OpenClaim := { program := "ytnlgkjnlfeeaoaa", sum := "f92b4698e985edcea819cfdb35b517e6b4a3343b2c72321157992c67db6253d8", func := "refmesh/refmeshlaw29.ShortcutArrives", spec := "shortcutArrives", unfollowed := true, recurses := true, plainKeys := false, apart := false }
def ShortcutArrivesSaid : Prop := shortcutArrivesRow.holds Try.pinned (OpenSpec.ofChange shortcutArrivesSpec)

/-- ITS FALSE NEIGHBOUR: 'it returns false'. Refute it at one input. -/
def shortcutArrivesWrong : ChangeSpec := { name := "shortcutArrives", fn := fun _ => fun
  | [d1, d2, d3] => { results := [.lit (.bool false)], args := [d1, d2, d3] }
  | _ => none }
def ShortcutArrivesWrongFalsely : Prop := shortcutArrivesRow.holds Try.pinned (OpenSpec.ofChange shortcutArrivesWrong)

/- THE SECOND FORM. 'bulk': how many values and letters a reading holds, each counted each time it is reached (what is shared counts as often as it is met; a slice's spare places count too). A statement '..UptoSaid' is the law's where the arguments, and the package variables that the reading takes, are together of bulk at most 1048576: NARROWER than '..Said'. Prove '..Said' where nothing that the law and all that it calls make is longer than what came in: it says more and counts as full. Else prove '..UptoSaid'. A law counts once. -/
mutual
def uptoBulk {H : Type} : DataW H → Nat
  | .lit (.string bytes) => bytes.length + 1
  | .lit _ => 1
  | .nil => 1
  | .ptr d => uptoBulk d + 1
  | .slice elems spare => uptoBulkAll elems + uptoBulkAll spare + 1
  | .agg parts => uptoBulkAll parts + 1
  | .iface _ d => uptoBulk d + 1
  | .map entries => uptoBulkEntries entries + 1
  | .held _ => 1
def uptoBulkAll {H : Type} : List (DataW H) → Nat
  | [] => 0
  | d :: r => uptoBulk d + uptoBulkAll r
def uptoBulkEntries {H : Type} : List (Lit × DataW H) → Nat
  | [] => 0
  | x :: r => uptoBulkEntry x + uptoBulkEntries r
def uptoBulkEntry {H : Type} : Lit × DataW H → Nat
  | (.string bytes, d) => bytes.length + uptoBulk d + 1
  | (_, d) => uptoBulk d + 1
 end
def uptoSmall : (H : Type) → List (DataW H) → Bool := fun _ ds => decide (uptoBulkAll ds ≤ 1048576)
def OpenSpec.upto (s : _root_.Go.ChangeSpec) : _root_.Go.OpenSpec := { _root_.Go.OpenSpec.ofChange s with cond := some uptoSmall }

/-- 'refmeshlaw29.ShortcutWanted', WHERE WHAT IT READS IS OF BULK AT MOST 1048576: true; the input reads as it did. -/
def shortcutWantedUptoRow : OpenClaim := { program := "ytnlgkjnlfeeaoaa", sum := "f92b4698e985edcea819cfdb35b517e6b4a3343b2c72321157992c67db6253d8", func := "refmesh/refmeshlaw29.ShortcutWanted", spec := "shortcutWanted", unfollowed := true, recurses := true, plainKeys := false, apart := false, narrowed := true }
def ShortcutWantedUptoSaid : Prop := shortcutWantedUptoRow.holds Try.pinned (OpenSpec.upto shortcutWantedSpec)

/-- 'refmeshlaw29.ShortcutTargets', WHERE WHAT IT READS IS OF BULK AT MOST 1048576: true; the input reads as it did. -/
def shortcutTargetsUptoRow : OpenClaim := { program := "ytnlgkjnlfeeaoaa", sum := "f92b4698e985edcea819cfdb35b517e6b4a3343b2c72321157992c67db6253d8", func := "refmesh/refmeshlaw29.ShortcutTargets", spec := "shortcutTargets", unfollowed := true, recurses := true, plainKeys := false, apart := false, narrowed := true }
def ShortcutTargetsUptoSaid : Prop := shortcutTargetsUptoRow.holds Try.pinned (OpenSpec.upto shortcutTargetsSpec)

/-- 'refmeshlaw29.ShortcutPasses', WHERE WHAT IT READS IS OF BULK AT MOST 1048576: true; the input reads as it did. -/
def shortcutPassesUptoRow : OpenClaim := { program := "ytnlgkjnlfeeaoaa", sum := "f92b4698e985edcea819cfdb35b517e6b4a3343b2c72321157992c67db6253d8", func := "refmesh/refmeshlaw29.ShortcutPasses", spec := "shortcutPasses", unfollowed := true, recurses := true, plainKeys := false, apart := false, narrowed := true }
def ShortcutPassesUptoSaid : Prop := shortcutPassesUptoRow.holds Try.pinned (OpenSpec.upto shortcutPassesSpec)

/-- 'refmeshlaw29.ShortcutOnce', WHERE WHAT IT READS IS OF BULK AT MOST 1048576: true; the input reads as it did. -/
def shortcutOnceUptoRow : OpenClaim := { program := "ytnlgkjnlfeeaoaa", sum := "f92b4698e985edcea819cfdb35b517e6b4a3343b2c72321157992c67db6253d8", func := "refmesh/refmeshlaw29.ShortcutOnce", spec := "shortcutOnce", unfollowed := true, recurses := true, plainKeys := false, apart := false, narrowed := true }
def ShortcutOnceUptoSaid : Prop := shortcutOnceUptoRow.holds Try.pinned (OpenSpec.upto shortcutOnceSpec)

/-- 'refmeshlaw29.ShortcutDirect', WHERE WHAT IT READS IS OF BULK AT MOST 1048576: true; the input reads as it did. -/
def shortcutDirectUptoRow : OpenClaim := { program := "ytnlgkjnlfeeaoaa", sum := "f92b4698e985edcea819cfdb35b517e6b4a3343b2c72321157992c67db6253d8", func := "refmesh/refmeshlaw29.ShortcutDirect", spec := "shortcutDirect", unfollowed := true, recurses := true, plainKeys := false, apart := false, narrowed := true }
def ShortcutDirectUptoSaid : Prop := shortcutDirectUptoRow.holds Try.pinned (OpenSpec.upto shortcutDirectSpec)

/-- 'refmeshlaw29.ShortcutReroute', WHERE WHAT IT READS IS OF BULK AT MOST 1048576: true; the input reads as it did. -/
def shortcutRerouteUptoRow : OpenClaim := { program := "ytnlgkjnlfeeaoaa", sum := "f92b4698e985edcea819cfdb35b517e6b4a3343b2c72321157992c67db6253d8", func := "refmesh/refmeshlaw29.ShortcutReroute", spec := "shortcutReroute", unfollowed := true, recurses := true, plainKeys := false, apart := false, narrowed := true }
def ShortcutRerouteUptoSaid : Prop := shortcutRerouteUptoRow.holds Try.pinned (OpenSpec.upto shortcutRerouteSpec)

/-- 'refmeshlaw29.ShortcutArrives', WHERE WHAT IT READS IS OF BULK AT MOST 1048576: true; the input reads as it did. -/
def shortcutArrivesUptoRow : OpenClaim := { program := "ytnlgkjnlfeeaoaa", sum := "f92b4698e985edcea819cfdb35b517e6b4a3343b2c72321157992c67db6253d8", func := "refmesh/refmeshlaw29.ShortcutArrives", spec := "shortcutArrives", unfollowed := true, recurses := true, plainKeys := false, apart := false, narrowed := true }
def ShortcutArrivesUptoSaid : Prop := shortcutArrivesUptoRow.holds Try.pinned (OpenSpec.upto shortcutArrivesSpec)

end Rows
end Go.Proofs.Ytnlgkjnlfeeaoaa
