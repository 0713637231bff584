/-
  No cell of these rows narrows 'for every input' (looked for: loops, veiled, ifaces, maps, wideKeys, modest, calm, conditions, laid).
  DERIVED. THE GIVEN ROWS OF THIS SEAT. 7 by the template 'for every input the law returns true; each argument reads behind the call as it read before'; 0 by the template 'total and deterministic' (their statements: YtdlcbilgemnomaaGreatTotals.lean).
  GIVEN WITH THE SEED: the statements are not yours to turn. If you find one false, say at which input.
  Laid BY PROGRAM, IN A SANDBOX (cutbox-rows.mjs): the forced cells as the released guide's own fill.sh prints them over the translation 47b07c61de3ae345… (all of the seat's roots in one cut). By AI agents, Wed Nov 11 2026. No macro, syntax, notation, axiom, sorry.
-/
import Derived.Test.YtdlcbilgemnomaaGreatChecked
import GoSem.Claim
import GoSem.ClaimJoined
import GoSem.ClaimMapViews
import Derived.JoinedTies
import Derived.KernelRfl
namespace Go.Proofs.YtdlcbilgemnomaaGreat
/- THE CELL 'sum', in the pinned program and in every row, IS THE sha256 OF THE DUMP (.gsa) THAT YtdlcbilgemnomaaGreatProg.lean LOADS. Nothing in Lean hashes anything: it is a label: what it is worth is what the hold of that sum in a sandbox is worth. -/
noncomputable def Tryz.pinned : Pinned := { name := "ytdlcbilgemnomaagreat", sum := "47b07c61de3ae3458a47e7795b291b8300d9b0152bb39d3509b86b9acd9350c6", checked := Tryz.checked }
namespace Rows
def none {H : Type} : Left H := { results := [], args := [] }

/-- 'hopmeshlaw30.MeshChecks': WHATEVER THE INPUT: true; the input reads as it did. -/
def meshChecksSpec : ChangeSpec := { name := "meshChecks", fn := fun _ => fun
  | [d1, d2, d3, d4, d5, d6] => { results := [.lit (.bool true)], args := [d1, d2, d3, d4, d5, d6] }
  | _ => none }
def meshChecksRow : OpenClaim := { program := "ytdlcbilgemnomaagreat", sum := "47b07c61de3ae3458a47e7795b291b8300d9b0152bb39d3509b86b9acd9350c6", func := "hopmesh/hopmeshlaw30.MeshChecks", spec := "meshChecks", inPlace := ["slices.overlaps[hopmesh/api.Packet]", "slices.overlaps[int]", "slices.overlaps[hopmesh/api.Seen]", "slices.overlaps[hopmesh/api.Neighbour]"], unfollowed := true, recurses := true, apart := false }
def MeshChecksSaid : Prop := meshChecksRow.holds Tryz.pinned (OpenSpec.ofChange meshChecksSpec)

/-- ITS FALSE NEIGHBOUR: 'it returns false'. Refute it at one input. -/
def meshChecksWrong : ChangeSpec := { name := "meshChecks", fn := fun _ => fun
  | [d1, d2, d3, d4, d5, d6] => { results := [.lit (.bool false)], args := [d1, d2, d3, d4, d5, d6] }
  | _ => none }
def MeshChecksWrongFalsely : Prop := meshChecksRow.holds Tryz.pinned (OpenSpec.ofChange meshChecksWrong)

/-- 'hopmeshlaw30.MeshRuns': WHATEVER THE INPUT: true; the input reads as it did. -/
def meshRunsSpec : ChangeSpec := { name := "meshRuns", fn := fun _ => fun
  | [d1, d2, d3, d4] => { results := [.lit (.bool true)], args := [d1, d2, d3, d4] }
  | _ => none }
def meshRunsRow : OpenClaim := { program := "ytdlcbilgemnomaagreat", sum := "47b07c61de3ae3458a47e7795b291b8300d9b0152bb39d3509b86b9acd9350c6", func := "hopmesh/hopmeshlaw30.MeshRuns", spec := "meshRuns", inPlace := ["slices.overlaps[hopmesh/api.Packet]", "slices.overlaps[int]", "slices.overlaps[hopmesh/api.Seen]", "slices.overlaps[hopmesh/api.Neighbour]"], unfollowed := true, recurses := true, apart := false }
def MeshRunsSaid : Prop := meshRunsRow.holds Tryz.pinned (OpenSpec.ofChange meshRunsSpec)

/-- ITS FALSE NEIGHBOUR: 'it returns false'. Refute it at one input. -/
def meshRunsWrong : ChangeSpec := { name := "meshRuns", fn := fun _ => fun
  | [d1, d2, d3, d4] => { results := [.lit (.bool false)], args := [d1, d2, d3, d4] }
  | _ => none }
def MeshRunsWrongFalsely : Prop := meshRunsRow.holds Tryz.pinned (OpenSpec.ofChange meshRunsWrong)

/-- 'hopmeshlaw30.MeshArrivals': WHATEVER THE INPUT: true; the input reads as it did. -/
def meshArrivalsSpec : ChangeSpec := { name := "meshArrivals", fn := fun _ => fun
  | [d1, d2, d3, d4, d5] => { results := [.lit (.bool true)], args := [d1, d2, d3, d4, d5] }
  | _ => none }
def meshArrivalsRow : OpenClaim := { program := "ytdlcbilgemnomaagreat", sum := "47b07c61de3ae3458a47e7795b291b8300d9b0152bb39d3509b86b9acd9350c6", func := "hopmesh/hopmeshlaw30.MeshArrivals", spec := "meshArrivals", inPlace := ["slices.overlaps[hopmesh/api.Packet]", "slices.overlaps[int]", "slices.overlaps[hopmesh/api.Seen]", "slices.overlaps[hopmesh/api.Neighbour]"], unfollowed := true, recurses := true, apart := false }
def MeshArrivalsSaid : Prop := meshArrivalsRow.holds Tryz.pinned (OpenSpec.ofChange meshArrivalsSpec)

/-- ITS FALSE NEIGHBOUR: 'it returns false'. Refute it at one input. -/
def meshArrivalsWrong : ChangeSpec := { name := "meshArrivals", fn := fun _ => fun
  | [d1, d2, d3, d4, d5] => { results := [.lit (.bool false)], args := [d1, d2, d3, d4, d5] }
  | _ => none }
def MeshArrivalsWrongFalsely : Prop := meshArrivalsRow.holds Tryz.pinned (OpenSpec.ofChange meshArrivalsWrong)

/-- 'hopmeshlaw30.MeshLine': WHATEVER THE INPUT: true; the input reads as it did. -/
def meshLineSpec : ChangeSpec := { name := "meshLine", fn := fun _ => fun
  | [d1, d2, d3] => { results := [.lit (.bool true)], args := [d1, d2, d3] }
  | _ => none }
def meshLineRow : OpenClaim := { program := "ytdlcbilgemnomaagreat", sum := "47b07c61de3ae3458a47e7795b291b8300d9b0152bb39d3509b86b9acd9350c6", func := "hopmesh/hopmeshlaw30.MeshLine", spec := "meshLine", inPlace := ["slices.overlaps[hopmesh/api.Packet]", "slices.overlaps[int]", "slices.overlaps[hopmesh/api.Seen]", "slices.overlaps[hopmesh/api.Neighbour]"], unfollowed := true, recurses := true, apart := false }
def MeshLineSaid : Prop := meshLineRow.holds Tryz.pinned (OpenSpec.ofChange meshLineSpec)

/-- ITS FALSE NEIGHBOUR: 'it returns false'. Refute it at one input. -/
def meshLineWrong : ChangeSpec := { name := "meshLine", fn := fun _ => fun
  | [d1, d2, d3] => { results := [.lit (.bool false)], args := [d1, d2, d3] }
  | _ => none }
def MeshLineWrongFalsely : Prop := meshLineRow.holds Tryz.pinned (OpenSpec.ofChange meshLineWrong)

/-- 'hopmeshlaw30.MeshSteps': WHATEVER THE INPUT: true; the input reads as it did. -/
def meshStepsSpec : ChangeSpec := { name := "meshSteps", fn := fun _ => fun
  | [d1, d2, d3] => { results := [.lit (.bool true)], args := [d1, d2, d3] }
  | _ => none }
def meshStepsRow : OpenClaim := { program := "ytdlcbilgemnomaagreat", sum := "47b07c61de3ae3458a47e7795b291b8300d9b0152bb39d3509b86b9acd9350c6", func := "hopmesh/hopmeshlaw30.MeshSteps", spec := "meshSteps", inPlace := ["slices.overlaps[hopmesh/api.Packet]", "slices.overlaps[int]", "slices.overlaps[hopmesh/api.Seen]", "slices.overlaps[hopmesh/api.Neighbour]"], unfollowed := true, recurses := true, apart := false }
def MeshStepsSaid : Prop := meshStepsRow.holds Tryz.pinned (OpenSpec.ofChange meshStepsSpec)

/-- ITS FALSE NEIGHBOUR: 'it returns false'. Refute it at one input. -/
def meshStepsWrong : ChangeSpec := { name := "meshSteps", fn := fun _ => fun
  | [d1, d2, d3] => { results := [.lit (.bool false)], args := [d1, d2, d3] }
  | _ => none }
def MeshStepsWrongFalsely : Prop := meshStepsRow.holds Tryz.pinned (OpenSpec.ofChange meshStepsWrong)

/-- 'hopmeshlaw30.MeshNoCycle': WHATEVER THE INPUT: true; the input reads as it did. -/
def meshNoCycleSpec : ChangeSpec := { name := "meshNoCycle", fn := fun _ => fun
  | [d1, d2, d3, d4, d5] => { results := [.lit (.bool true)], args := [d1, d2, d3, d4, d5] }
  | _ => none }
def meshNoCycleRow : OpenClaim := { program := "ytdlcbilgemnomaagreat", sum := "47b07c61de3ae3458a47e7795b291b8300d9b0152bb39d3509b86b9acd9350c6", func := "hopmesh/hopmeshlaw30.MeshNoCycle", spec := "meshNoCycle", inPlace := ["slices.overlaps[hopmesh/api.Packet]", "slices.overlaps[int]", "slices.overlaps[hopmesh/api.Seen]", "slices.overlaps[hopmesh/api.Neighbour]"], unfollowed := true, recurses := true, apart := false }
def MeshNoCycleSaid : Prop := meshNoCycleRow.holds Tryz.pinned (OpenSpec.ofChange meshNoCycleSpec)

/-- ITS FALSE NEIGHBOUR: 'it returns false'. Refute it at one input. -/
def meshNoCycleWrong : ChangeSpec := { name := "meshNoCycle", fn := fun _ => fun
  | [d1, d2, d3, d4, d5] => { results := [.lit (.bool false)], args := [d1, d2, d3, d4, d5] }
  | _ => none }
def MeshNoCycleWrongFalsely : Prop := meshNoCycleRow.holds Tryz.pinned (OpenSpec.ofChange meshNoCycleWrong)

/-- 'hopmeshlaw30.MeshParts': WHATEVER THE INPUT: true; the input reads as it did. -/
def meshPartsSpec : ChangeSpec := { name := "meshParts", fn := fun _ => fun
  | [d1, d2, d3, d4, d5] => { results := [.lit (.bool true)], args := [d1, d2, d3, d4, d5] }
  | _ => none }
def meshPartsRow : OpenClaim := { program := "ytdlcbilgemnomaagreat", sum := "47b07c61de3ae3458a47e7795b291b8300d9b0152bb39d3509b86b9acd9350c6", func := "hopmesh/hopmeshlaw30.MeshParts", spec := "meshParts", inPlace := ["slices.overlaps[hopmesh/api.Packet]", "slices.overlaps[int]", "slices.overlaps[hopmesh/api.Seen]", "slices.overlaps[hopmesh/api.Neighbour]"], unfollowed := true, recurses := true, apart := false }
def MeshPartsSaid : Prop := meshPartsRow.holds Tryz.pinned (OpenSpec.ofChange meshPartsSpec)

/-- ITS FALSE NEIGHBOUR: 'it returns false'. Refute it at one input. -/
def meshPartsWrong : ChangeSpec := { name := "meshParts", fn := fun _ => fun
  | [d1, d2, d3, d4, d5] => { results := [.lit (.bool false)], args := [d1, d2, d3, d4, d5] }
  | _ => none }
def MeshPartsWrongFalsely : Prop := meshPartsRow.holds Tryz.pinned (OpenSpec.ofChange meshPartsWrong)

/- THE SECOND FORM. 'bulk': how many values and letters a reading holds, each counted each time it is reached (what is shared counts as often as it is met; a slice's spare places count too). A statement '..UptoSaid' is the law's where the arguments, and the package variables that the reading takes, are together of bulk at most 1048576: NARROWER than '..Said'. Prove '..Said' where nothing that the law and all that it calls make is longer than what came in: it says more and counts as full. Else prove '..UptoSaid'. A law counts once. -/
mutual
def uptoBulk {H : Type} : DataW H → Nat
  | .lit (.string bytes) => bytes.length + 1
  | .lit _ => 1
  | .nil => 1
  | .ptr d => uptoBulk d + 1
  | .slice elems spare => uptoBulkAll elems + uptoBulkAll spare + 1
  | .agg parts => uptoBulkAll parts + 1
  | .iface _ d => uptoBulk d + 1
  | .map entries => uptoBulkEntries entries + 1
  | .held _ => 1
def uptoBulkAll {H : Type} : List (DataW H) → Nat
  | [] => 0
  | d :: r => uptoBulk d + uptoBulkAll r
def uptoBulkEntries {H : Type} : List (Lit × DataW H) → Nat
  | [] => 0
  | x :: r => uptoBulkEntry x + uptoBulkEntries r
def uptoBulkEntry {H : Type} : Lit × DataW H → Nat
  | (.string bytes, d) => bytes.length + uptoBulk d + 1
  | (_, d) => uptoBulk d + 1
 end
def uptoSmall : (H : Type) → List (DataW H) → Bool := fun _ ds => decide (uptoBulkAll ds ≤ 1048576)
def OpenSpec.upto (s : _root_.Go.ChangeSpec) : _root_.Go.OpenSpec := { _root_.Go.OpenSpec.ofChange s with cond := some uptoSmall }

/-- 'hopmeshlaw30.MeshChecks', WHERE WHAT IT READS IS OF BULK AT MOST 1048576: true; the input reads as it did. -/
def meshChecksUptoRow : OpenClaim := { program := "ytdlcbilgemnomaagreat", sum := "47b07c61de3ae3458a47e7795b291b8300d9b0152bb39d3509b86b9acd9350c6", func := "hopmesh/hopmeshlaw30.MeshChecks", spec := "meshChecks", inPlace := ["slices.overlaps[hopmesh/api.Packet]", "slices.overlaps[int]", "slices.overlaps[hopmesh/api.Seen]", "slices.overlaps[hopmesh/api.Neighbour]"], unfollowed := true, recurses := true, apart := false, narrowed := true }
def MeshChecksUptoSaid : Prop := meshChecksUptoRow.holds Tryz.pinned (OpenSpec.upto meshChecksSpec)

/-- 'hopmeshlaw30.MeshRuns', WHERE WHAT IT READS IS OF BULK AT MOST 1048576: true; the input reads as it did. -/
def meshRunsUptoRow : OpenClaim := { program := "ytdlcbilgemnomaagreat", sum := "47b07c61de3ae3458a47e7795b291b8300d9b0152bb39d3509b86b9acd9350c6", func := "hopmesh/hopmeshlaw30.MeshRuns", spec := "meshRuns", inPlace := ["slices.overlaps[hopmesh/api.Packet]", "slices.overlaps[int]", "slices.overlaps[hopmesh/api.Seen]", "slices.overlaps[hopmesh/api.Neighbour]"], unfollowed := true, recurses := true, apart := false, narrowed := true }
def MeshRunsUptoSaid : Prop := meshRunsUptoRow.holds Tryz.pinned (OpenSpec.upto meshRunsSpec)

/-- 'hopmeshlaw30.MeshArrivals', WHERE WHAT IT READS IS OF BULK AT MOST 1048576: true; the input reads as it did. -/
def meshArrivalsUptoRow : OpenClaim := { program := "ytdlcbilgemnomaagreat", sum := "47b07c61de3ae3458a47e7795b291b8300d9b0152bb39d3509b86b9acd9350c6", func := "hopmesh/hopmeshlaw30.MeshArrivals", spec := "meshArrivals", inPlace := ["slices.overlaps[hopmesh/api.Packet]", "slices.overlaps[int]", "slices.overlaps[hopmesh/api.Seen]", "slices.overlaps[hopmesh/api.Neighbour]"], unfollowed := true, recurses := true, apart := false, narrowed := true }
def MeshArrivalsUptoSaid : Prop := meshArrivalsUptoRow.holds Tryz.pinned (OpenSpec.upto meshArrivalsSpec)

/-- 'hopmeshlaw30.MeshLine', WHERE WHAT IT READS IS OF BULK AT MOST 1048576: true; the input reads as it did. -/
def meshLineUptoRow : OpenClaim := { program := "ytdlcbilgemnomaagreat", sum := "47b07c61de3ae3458a47e7795b291b8300d9b0152bb39d3509b86b9acd9350c6", func := "hopmesh/hopmeshlaw30.MeshLine", spec := "meshLine", inPlace := ["slices.overlaps[hopmesh/api.Packet]", "slices.overlaps[int]", "slices.overlaps[hopmesh/api.Seen]", "slices.overlaps[hopmesh/api.Neighbour]"], unfollowed := true, recurses := true, apart := false, narrowed := true }
def MeshLineUptoSaid : Prop := meshLineUptoRow.holds Tryz.pinned (OpenSpec.upto meshLineSpec)

/-- 'hopmeshlaw30.MeshSteps', WHERE WHAT IT READS IS OF BULK AT MOST 1048576: true; the input reads as it did. -/
def meshStepsUptoRow : OpenClaim := { program := "ytdlcbilgemnomaagreat", sum := "47b07c61de3ae3458a47e7795b291b8300d9b0152bb39d3509b86b9acd9350c6", func := "hopmesh/hopmeshlaw30.MeshSteps", spec := "meshSteps", inPlace := ["slices.overlaps[hopmesh/api.Packet]", "slices.overlaps[int]", "slices.overlaps[hopmesh/api.Seen]", "slices.overlaps[hopmesh/api.Neighbour]"], unfollowed := true, recurses := true, apart := false, narrowed := true }
def MeshStepsUptoSaid : Prop := meshStepsUptoRow.holds Tryz.pinned (OpenSpec.upto meshStepsSpec)

/-- 'hopmeshlaw30.MeshNoCycle', WHERE WHAT IT READS IS OF BULK AT MOST 1048576: true; the input reads as it did. -/
def meshNoCycleUptoRow : OpenClaim := { program := "ytdlcbilgemnomaagreat", sum := "47b07c61de3ae3458a47e7795b291b8300d9b0152bb39d3509b86b9acd9350c6", func := "hopmesh/hopmeshlaw30.MeshNoCycle", spec := "meshNoCycle", inPlace := ["slices.overlaps[hopmesh/api.Packet]", "slices.overlaps[int]", "slices.overlaps[hopmesh/api.Seen]", "slices.overlaps[hopmesh/api.Neighbour]"], unfollowed := true, recurses := true, apart := false, narrowed := true }
def MeshNoCycleUptoSaid : Prop := meshNoCycleUptoRow.holds Tryz.pinned (OpenSpec.upto meshNoCycleSpec)

/-- 'hopmeshlaw30.MeshParts', WHERE WHAT IT READS IS OF BULK AT MOST 1048576: true; the input reads as it did. -/
def meshPartsUptoRow : OpenClaim := { program := "ytdlcbilgemnomaagreat", sum := "47b07c61de3ae3458a47e7795b291b8300d9b0152bb39d3509b86b9acd9350c6", func := "hopmesh/hopmeshlaw30.MeshParts", spec := "meshParts", inPlace := ["slices.overlaps[hopmesh/api.Packet]", "slices.overlaps[int]", "slices.overlaps[hopmesh/api.Seen]", "slices.overlaps[hopmesh/api.Neighbour]"], unfollowed := true, recurses := true, apart := false, narrowed := true }
def MeshPartsUptoSaid : Prop := meshPartsUptoRow.holds Tryz.pinned (OpenSpec.upto meshPartsSpec)

end Rows
end Go.Proofs.YtdlcbilgemnomaaGreat
