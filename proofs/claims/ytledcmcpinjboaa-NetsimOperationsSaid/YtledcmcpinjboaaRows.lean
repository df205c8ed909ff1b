/-
  No cell of these rows narrows 'for every input' (looked for: loops, veiled, ifaces, maps, wideKeys, modest, calm, conditions, laid).
  DERIVED. THE GIVEN ROWS OF THIS SEAT. 7 by the template 'for every input the law returns true; each argument reads behind the call as it read before'; 0 by the template 'total and deterministic' (their statements: YtledcmcpinjboaaTotals.lean).
  GIVEN WITH THE SEED: the statements are not yours to turn. If you find one false, say at which input.
  Laid BY PROGRAM, IN A SANDBOX (cutbox-rows.mjs): the forced cells as the released guide's own fill.sh prints them over the translation 78ebcb08653bbbd8… (all of the seat's roots in one cut). By AI agents, Wed Nov 11 2026. No macro, syntax, notation, axiom, sorry.
-/
import Derived.Test.YtledcmcpinjboaaChecked
import GoSem.Claim
import GoSem.ClaimJoined
import GoSem.ClaimMapViews
import Derived.JoinedTies
import Derived.KernelRfl
namespace Go.Proofs.Ytledcmcpinjboaa
/- THE CELL 'sum', in the pinned program and in every row, IS THE sha256 OF THE DUMP (.gsa) THAT YtledcmcpinjboaaProg.lean LOADS. Nothing in Lean hashes anything: it is a label: what it is worth is what the hold of that sum in a sandbox is worth. -/
noncomputable def Try.pinned : Pinned := { name := "ytledcmcpinjboaa", sum := "78ebcb08653bbbd88e100fbe5dc12a7642d54f726ea2ffdf23b0cbfa3abfb738", checked := Try.checked }
namespace Rows
def none {H : Type} : Left H := { results := [], args := [] }

/-- 'refmeshlaw17.NetsimMemory': WHATEVER THE INPUT: true; the input reads as it did. -/
def netsimMemorySpec : ChangeSpec := { name := "netsimMemory", fn := fun _ => fun
  | [d] => { results := [.lit (.bool true)], args := [d] }
  | _ => none }
def netsimMemoryRow : OpenClaim := { program := "ytledcmcpinjboaa", sum := "78ebcb08653bbbd88e100fbe5dc12a7642d54f726ea2ffdf23b0cbfa3abfb738", func := "refmesh/refmeshlaw17.NetsimMemory", spec := "netsimMemory", unfollowed := true, recurses := true, apart := false }
def NetsimMemorySaid : Prop := netsimMemoryRow.holds Try.pinned (OpenSpec.ofChange netsimMemorySpec)

/-- ITS FALSE NEIGHBOUR: 'it returns false'. Refute it at one input. -/
def netsimMemoryWrong : ChangeSpec := { name := "netsimMemory", fn := fun _ => fun
  | [d] => { results := [.lit (.bool false)], args := [d] }
  | _ => none }
def NetsimMemoryWrongFalsely : Prop := netsimMemoryRow.holds Try.pinned (OpenSpec.ofChange netsimMemoryWrong)

/-- 'refmeshlaw17.NetsimOperations': WHATEVER THE INPUT: true; the input reads as it did. -/
def netsimOperationsSpec : ChangeSpec := { name := "netsimOperations", fn := fun _ => fun
  | [d] => { results := [.lit (.bool true)], args := [d] }
  | _ => none }
def netsimOperationsRow : OpenClaim := { program := "ytledcmcpinjboaa", sum := "78ebcb08653bbbd88e100fbe5dc12a7642d54f726ea2ffdf23b0cbfa3abfb738", func := "refmesh/refmeshlaw17.NetsimOperations", spec := "netsimOperations", unfollowed := true, recurses := true, apart := false }
def NetsimOperationsSaid : Prop := netsimOperationsRow.holds Try.pinned (OpenSpec.ofChange netsimOperationsSpec)

/-- ITS FALSE NEIGHBOUR: 'it returns false'. Refute it at one input. -/
def netsimOperationsWrong : ChangeSpec := { name := "netsimOperations", fn := fun _ => fun
  | [d] => { results := [.lit (.bool false)], args := [d] }
  | _ => none }
def NetsimOperationsWrongFalsely : Prop := netsimOperationsRow.holds Try.pinned (OpenSpec.ofChange netsimOperationsWrong)

/-- 'refmeshlaw17.NetsimHonest': WHATEVER THE INPUT: true; the input reads as it did. -/
def netsimHonestSpec : ChangeSpec := { name := "netsimHonest", fn := fun _ => fun
  | [d] => { results := [.lit (.bool true)], args := [d] }
  | _ => none }
def netsimHonestRow : OpenClaim := { program := "ytledcmcpinjboaa", sum := "78ebcb08653bbbd88e100fbe5dc12a7642d54f726ea2ffdf23b0cbfa3abfb738", func := "refmesh/refmeshlaw17.NetsimHonest", spec := "netsimHonest", unfollowed := true, recurses := true, apart := false }
def NetsimHonestSaid : Prop := netsimHonestRow.holds Try.pinned (OpenSpec.ofChange netsimHonestSpec)

/-- ITS FALSE NEIGHBOUR: 'it returns false'. Refute it at one input. -/
def netsimHonestWrong : ChangeSpec := { name := "netsimHonest", fn := fun _ => fun
  | [d] => { results := [.lit (.bool false)], args := [d] }
  | _ => none }
def NetsimHonestWrongFalsely : Prop := netsimHonestRow.holds Try.pinned (OpenSpec.ofChange netsimHonestWrong)

/-- 'refmeshlaw17.NetsimAscending': WHATEVER THE INPUT: true; the input reads as it did. -/
def netsimAscendingSpec : ChangeSpec := { name := "netsimAscending", fn := fun _ => fun
  | [d] => { results := [.lit (.bool true)], args := [d] }
  | _ => none }
def netsimAscendingRow : OpenClaim := { program := "ytledcmcpinjboaa", sum := "78ebcb08653bbbd88e100fbe5dc12a7642d54f726ea2ffdf23b0cbfa3abfb738", func := "refmesh/refmeshlaw17.NetsimAscending", spec := "netsimAscending", unfollowed := true, recurses := true, apart := false }
def NetsimAscendingSaid : Prop := netsimAscendingRow.holds Try.pinned (OpenSpec.ofChange netsimAscendingSpec)

/-- ITS FALSE NEIGHBOUR: 'it returns false'. Refute it at one input. -/
def netsimAscendingWrong : ChangeSpec := { name := "netsimAscending", fn := fun _ => fun
  | [d] => { results := [.lit (.bool false)], args := [d] }
  | _ => none }
def NetsimAscendingWrongFalsely : Prop := netsimAscendingRow.holds Try.pinned (OpenSpec.ofChange netsimAscendingWrong)

/-- 'refmeshlaw17.NetsimIndex': WHATEVER THE INPUT: true; the input reads as it did. -/
def netsimIndexSpec : ChangeSpec := { name := "netsimIndex", fn := fun _ => fun
  | [d1, d2, d3] => { results := [.lit (.bool true)], args := [d1, d2, d3] }
  | _ => none }
def netsimIndexRow : OpenClaim := { program := "ytledcmcpinjboaa", sum := "78ebcb08653bbbd88e100fbe5dc12a7642d54f726ea2ffdf23b0cbfa3abfb738", func := "refmesh/refmeshlaw17.NetsimIndex", spec := "netsimIndex", unfollowed := true, recurses := true, apart := false }
def NetsimIndexSaid : Prop := netsimIndexRow.holds Try.pinned (OpenSpec.ofChange netsimIndexSpec)

/-- ITS FALSE NEIGHBOUR: 'it returns false'. Refute it at one input. -/
def netsimIndexWrong : ChangeSpec := { name := "netsimIndex", fn := fun _ => fun
  | [d1, d2, d3] => { results := [.lit (.bool false)], args := [d1, d2, d3] }
  | _ => none }
def NetsimIndexWrongFalsely : Prop := netsimIndexRow.holds Try.pinned (OpenSpec.ofChange netsimIndexWrong)

/-- 'refmeshlaw17.NetsimPurges': WHATEVER THE INPUT: true; the input reads as it did. -/
def netsimPurgesSpec : ChangeSpec := { name := "netsimPurges", fn := fun _ => fun
  | [d1, d2] => { results := [.lit (.bool true)], args := [d1, d2] }
  | _ => none }
def netsimPurgesRow : OpenClaim := { program := "ytledcmcpinjboaa", sum := "78ebcb08653bbbd88e100fbe5dc12a7642d54f726ea2ffdf23b0cbfa3abfb738", func := "refmesh/refmeshlaw17.NetsimPurges", spec := "netsimPurges", unfollowed := true, recurses := true, apart := false }
def NetsimPurgesSaid : Prop := netsimPurgesRow.holds Try.pinned (OpenSpec.ofChange netsimPurgesSpec)

/-- ITS FALSE NEIGHBOUR: 'it returns false'. Refute it at one input. -/
def netsimPurgesWrong : ChangeSpec := { name := "netsimPurges", fn := fun _ => fun
  | [d1, d2] => { results := [.lit (.bool false)], args := [d1, d2] }
  | _ => none }
def NetsimPurgesWrongFalsely : Prop := netsimPurgesRow.holds Try.pinned (OpenSpec.ofChange netsimPurgesWrong)

/-- 'refmeshlaw17.NetsimLoses': WHATEVER THE INPUT: true; the input reads as it did. -/
def netsimLosesSpec : ChangeSpec := { name := "netsimLoses", fn := fun _ => fun
  | [d1, d2] => { results := [.lit (.bool true)], args := [d1, d2] }
  | _ => none }
def netsimLosesRow : OpenClaim := { program := "ytledcmcpinjboaa", sum := "78ebcb08653bbbd88e100fbe5dc12a7642d54f726ea2ffdf23b0cbfa3abfb738", func := "refmesh/refmeshlaw17.NetsimLoses", spec := "netsimLoses", unfollowed := true, recurses := true, apart := false }
def NetsimLosesSaid : Prop := netsimLosesRow.holds Try.pinned (OpenSpec.ofChange netsimLosesSpec)

/-- ITS FALSE NEIGHBOUR: 'it returns false'. Refute it at one input. -/
def netsimLosesWrong : ChangeSpec := { name := "netsimLoses", fn := fun _ => fun
  | [d1, d2] => { results := [.lit (.bool false)], args := [d1, d2] }
  | _ => none }
def NetsimLosesWrongFalsely : Prop := netsimLosesRow.holds Try.pinned (OpenSpec.ofChange netsimLosesWrong)

/- THE SECOND FORM. 'bulk': how many values and letters a reading holds, each counted each time it is reached (what is shared counts as often as it is met; a slice's spare places count too). A statement '..UptoSaid' is the law's where the arguments, and the package variables that the reading takes, are together of bulk at most 1048576: NARROWER than '..Said'. Prove '..Said' where nothing that the law and all that it calls make is longer than what came in: it says more and counts as full. Else prove '..UptoSaid'. A law counts once. -/
mutual
def uptoBulk {H : Type} : DataW H → Nat
  | .lit (.string bytes) => bytes.length + 1
  | .lit _ => 1
  | .nil => 1
  | .ptr d => uptoBulk d + 1
  | .slice elems spare => uptoBulkAll elems + uptoBulkAll spare + 1
  | .agg parts => uptoBulkAll parts + 1
  | .iface _ d => uptoBulk d + 1
  | .map entries => uptoBulkEntries entries + 1
  | .held _ => 1
def uptoBulkAll {H : Type} : List (DataW H) → Nat
  | [] => 0
  | d :: r => uptoBulk d + uptoBulkAll r
def uptoBulkEntries {H : Type} : List (Lit × DataW H) → Nat
  | [] => 0
  | x :: r => uptoBulkEntry x + uptoBulkEntries r
def uptoBulkEntry {H : Type} : Lit × DataW H → Nat
  | (.string bytes, d) => bytes.length + uptoBulk d + 1
  | (_, d) => uptoBulk d + 1
 end
def uptoSmall : (H : Type) → List (DataW H) → Bool := fun _ ds => decide (uptoBulkAll ds ≤ 1048576)
def OpenSpec.upto (s : _root_.Go.ChangeSpec) : _root_.Go.OpenSpec := { _root_.Go.OpenSpec.ofChange s with cond := some uptoSmall }

/-- 'refmeshlaw17.NetsimMemory', WHERE WHAT IT READS IS OF BULK AT MOST 1048576: true; the input reads as it did. -/
def netsimMemoryUptoRow : OpenClaim := { program := "ytledcmcpinjboaa", sum := "78ebcb08653bbbd88e100fbe5dc12a7642d54f726ea2ffdf23b0cbfa3abfb738", func := "refmesh/refmeshlaw17.NetsimMemory", spec := "netsimMemory", unfollowed := true, recurses := true, apart := false, narrowed := true }
def NetsimMemoryUptoSaid : Prop := netsimMemoryUptoRow.holds Try.pinned (OpenSpec.upto netsimMemorySpec)

/-- 'refmeshlaw17.NetsimOperations', WHERE WHAT IT READS IS OF BULK AT MOST 1048576: true; the input reads as it did. -/
def netsimOperationsUptoRow : OpenClaim := { program := "ytledcmcpinjboaa", sum := "78ebcb08653bbbd88e100fbe5dc12a7642d54f726ea2ffdf23b0cbfa3abfb738", func := "refmesh/refmeshlaw17.NetsimOperations", spec := "netsimOperations", unfollowed := true, recurses := true, apart := false, narrowed := true }
def NetsimOperationsUptoSaid : Prop := netsimOperationsUptoRow.holds Try.pinned (OpenSpec.upto netsimOperationsSpec)

/-- 'refmeshlaw17.NetsimHonest', WHERE WHAT IT READS IS OF BULK AT MOST 1048576: true; the input reads as it did. -/
def netsimHonestUptoRow : OpenClaim := { program := "ytledcmcpinjboaa", sum := "78ebcb08653bbbd88e100fbe5dc12a7642d54f726ea2ffdf23b0cbfa3abfb738", func := "refmesh/refmeshlaw17.NetsimHonest", spec := "netsimHonest", unfollowed := true, recurses := true, apart := false, narrowed := true }
def NetsimHonestUptoSaid : Prop := netsimHonestUptoRow.holds Try.pinned (OpenSpec.upto netsimHonestSpec)

/-- 'refmeshlaw17.NetsimAscending', WHERE WHAT IT READS IS OF BULK AT MOST 1048576: true; the input reads as it did. -/
def netsimAscendingUptoRow : OpenClaim := { program := "ytledcmcpinjboaa", sum := "78ebcb08653bbbd88e100fbe5dc12a7642d54f726ea2ffdf23b0cbfa3abfb738", func := "refmesh/refmeshlaw17.NetsimAscending", spec := "netsimAscending", unfollowed := true, recurses := true, apart := false, narrowed := true }
def NetsimAscendingUptoSaid : Prop := netsimAscendingUptoRow.holds Try.pinned (OpenSpec.upto netsimAscendingSpec)

/-- 'refmeshlaw17.NetsimIndex', WHERE WHAT IT READS IS OF BULK AT MOST 1048576: true; the input reads as it did. -/
def netsimIndexUptoRow : OpenClaim := { program := "ytledcmcpinjboaa", sum := "78ebcb08653bbbd88e100fbe5dc12a7642d54f726ea2ffdf23b0cbfa3abfb738", func := "refmesh/refmeshlaw17.NetsimIndex", spec := "netsimIndex", unfollowed := true, recurses := true, apart := false, narrowed := true }
def NetsimIndexUptoSaid : Prop := netsimIndexUptoRow.holds Try.pinned (OpenSpec.upto netsimIndexSpec)

/-- 'refmeshlaw17.NetsimPurges', WHERE WHAT IT READS IS OF BULK AT MOST 1048576: true; the input reads as it did. -/
def netsimPurgesUptoRow : OpenClaim := { program := "ytledcmcpinjboaa", sum := "78ebcb08653bbbd88e100fbe5dc12a7642d54f726ea2ffdf23b0cbfa3abfb738", func := "refmesh/refmeshlaw17.NetsimPurges", spec := "netsimPurges", unfollowed := true, recurses := true, apart := false, narrowed := true }
def NetsimPurgesUptoSaid : Prop := netsimPurgesUptoRow.holds Try.pinned (OpenSpec.upto netsimPurgesSpec)

/-- 'refmeshlaw17.NetsimLoses', WHERE WHAT IT READS IS OF BULK AT MOST 1048576: true; the input reads as it did. -/
def netsimLosesUptoRow : OpenClaim := { program := "ytledcmcpinjboaa", sum := "78ebcb08653bbbd88e100fbe5dc12a7642d54f726ea2ffdf23b0cbfa3abfb738", func := "refmesh/refmeshlaw17.NetsimLoses", spec := "netsimLoses", unfollowed := true, recurses := true, apart := false, narrowed := true }
def NetsimLosesUptoSaid : Prop := netsimLosesUptoRow.holds Try.pinned (OpenSpec.upto netsimLosesSpec)

end Rows
end Go.Proofs.Ytledcmcpinjboaa
