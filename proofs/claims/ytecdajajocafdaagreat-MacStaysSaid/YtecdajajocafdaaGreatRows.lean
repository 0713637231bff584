/-
  No cell of these rows narrows 'for every input' (looked for: loops, veiled, ifaces, maps, wideKeys, modest, calm, conditions, laid).
  DERIVED. THE GIVEN ROWS OF THIS SEAT. 6 by the template 'for every input the law returns true; each argument reads behind the call as it read before'; 0 by the template 'total and deterministic' (their statements: YtecdajajocafdaaGreatTotals.lean).
  GIVEN WITH THE SEED: the statements are not yours to turn. If you find one false, say at which input.
  Laid BY PROGRAM, IN A SANDBOX (cutbox-rows.mjs): the forced cells as the released guide's own fill.sh prints them over the translation f88b3e899fee0567… (all of the seat's roots in one cut). By AI agents, Wed Nov 11 2026. No macro, syntax, notation, axiom, sorry.
-/
import Derived.Test.YtecdajajocafdaaGreatChecked
import GoSem.Claim
import GoSem.ClaimJoined
import GoSem.ClaimMapViews
import Derived.JoinedTies
import Derived.KernelRfl
namespace Go.Proofs.YtecdajajocafdaaGreat
/- THE CELL 'sum', in the pinned program and in every row, IS THE sha256 OF THE DUMP (.gsa) THAT YtecdajajocafdaaGreatProg.lean LOADS. Nothing in Lean hashes anything: it is a label: what it is worth is what the hold of that sum in a sandbox is worth. -/
noncomputable def Tryz.pinned : Pinned := { name := "ytecdajajocafdaagreat", sum := "f88b3e899fee056714b11f7d1fafaf615e91df69957002a803efdaa52e352b83", checked := Tryz.checked }
namespace Rows
def none {H : Type} : Left H := { results := [], args := [] }

/-- 'hopmeshlaw18.MacStations': WHATEVER THE INPUT: true; the input reads as it did. -/
def macStationsSpec : ChangeSpec := { name := "macStations", fn := fun _ => fun
  | [d1, d2, d3] => { results := [.lit (.bool true)], args := [d1, d2, d3] }
  | _ => none }
def macStationsRow : OpenClaim := { program := "ytecdajajocafdaagreat", sum := "f88b3e899fee056714b11f7d1fafaf615e91df69957002a803efdaa52e352b83", func := "hopmesh/hopmeshlaw18.MacStations", spec := "macStations", inPlace := ["slices.overlaps[hopmesh/api.Packet]", "slices.overlaps[int]", "slices.overlaps[hopmesh/api.Seen]"], unfollowed := true, recurses := true, apart := false }
def MacStationsSaid : Prop := macStationsRow.holds Tryz.pinned (OpenSpec.ofChange macStationsSpec)

/-- ITS FALSE NEIGHBOUR: 'it returns false'. Refute it at one input. -/
def macStationsWrong : ChangeSpec := { name := "macStations", fn := fun _ => fun
  | [d1, d2, d3] => { results := [.lit (.bool false)], args := [d1, d2, d3] }
  | _ => none }
def MacStationsWrongFalsely : Prop := macStationsRow.holds Tryz.pinned (OpenSpec.ofChange macStationsWrong)

/-- 'hopmeshlaw18.MacActs': WHATEVER THE INPUT: true; the input reads as it did. -/
def macActsSpec : ChangeSpec := { name := "macActs", fn := fun _ => fun
  | [d1, d2] => { results := [.lit (.bool true)], args := [d1, d2] }
  | _ => none }
def macActsRow : OpenClaim := { program := "ytecdajajocafdaagreat", sum := "f88b3e899fee056714b11f7d1fafaf615e91df69957002a803efdaa52e352b83", func := "hopmesh/hopmeshlaw18.MacActs", spec := "macActs", inPlace := ["slices.overlaps[hopmesh/api.Packet]", "slices.overlaps[int]", "slices.overlaps[hopmesh/api.Seen]"], unfollowed := true, recurses := true, apart := false }
def MacActsSaid : Prop := macActsRow.holds Tryz.pinned (OpenSpec.ofChange macActsSpec)

/-- ITS FALSE NEIGHBOUR: 'it returns false'. Refute it at one input. -/
def macActsWrong : ChangeSpec := { name := "macActs", fn := fun _ => fun
  | [d1, d2] => { results := [.lit (.bool false)], args := [d1, d2] }
  | _ => none }
def MacActsWrongFalsely : Prop := macActsRow.holds Tryz.pinned (OpenSpec.ofChange macActsWrong)

/-- 'hopmeshlaw18.MacDone': WHATEVER THE INPUT: true; the input reads as it did. -/
def macDoneSpec : ChangeSpec := { name := "macDone", fn := fun _ => fun
  | [d1, d2, d3] => { results := [.lit (.bool true)], args := [d1, d2, d3] }
  | _ => none }
def macDoneRow : OpenClaim := { program := "ytecdajajocafdaagreat", sum := "f88b3e899fee056714b11f7d1fafaf615e91df69957002a803efdaa52e352b83", func := "hopmesh/hopmeshlaw18.MacDone", spec := "macDone", inPlace := ["slices.overlaps[hopmesh/api.Packet]", "slices.overlaps[int]", "slices.overlaps[hopmesh/api.Seen]"], unfollowed := true, recurses := true, apart := false }
def MacDoneSaid : Prop := macDoneRow.holds Tryz.pinned (OpenSpec.ofChange macDoneSpec)

/-- ITS FALSE NEIGHBOUR: 'it returns false'. Refute it at one input. -/
def macDoneWrong : ChangeSpec := { name := "macDone", fn := fun _ => fun
  | [d1, d2, d3] => { results := [.lit (.bool false)], args := [d1, d2, d3] }
  | _ => none }
def MacDoneWrongFalsely : Prop := macDoneRow.holds Tryz.pinned (OpenSpec.ofChange macDoneWrong)

/-- 'hopmeshlaw18.MacStays': WHATEVER THE INPUT: true; the input reads as it did. -/
def macStaysSpec : ChangeSpec := { name := "macStays", fn := fun _ => fun
  | [d1, d2, d3] => { results := [.lit (.bool true)], args := [d1, d2, d3] }
  | _ => none }
def macStaysRow : OpenClaim := { program := "ytecdajajocafdaagreat", sum := "f88b3e899fee056714b11f7d1fafaf615e91df69957002a803efdaa52e352b83", func := "hopmesh/hopmeshlaw18.MacStays", spec := "macStays", inPlace := ["slices.overlaps[hopmesh/api.Packet]", "slices.overlaps[int]", "slices.overlaps[hopmesh/api.Seen]"], unfollowed := true, recurses := true, apart := false }
def MacStaysSaid : Prop := macStaysRow.holds Tryz.pinned (OpenSpec.ofChange macStaysSpec)

/-- ITS FALSE NEIGHBOUR: 'it returns false'. Refute it at one input. -/
def macStaysWrong : ChangeSpec := { name := "macStays", fn := fun _ => fun
  | [d1, d2, d3] => { results := [.lit (.bool false)], args := [d1, d2, d3] }
  | _ => none }
def MacStaysWrongFalsely : Prop := macStaysRow.holds Tryz.pinned (OpenSpec.ofChange macStaysWrong)

/-- 'hopmeshlaw18.MacFlows': WHATEVER THE INPUT: true; the input reads as it did. -/
def macFlowsSpec : ChangeSpec := { name := "macFlows", fn := fun _ => fun
  | [d1, d2, d3, d4] => { results := [.lit (.bool true)], args := [d1, d2, d3, d4] }
  | _ => none }
def macFlowsRow : OpenClaim := { program := "ytecdajajocafdaagreat", sum := "f88b3e899fee056714b11f7d1fafaf615e91df69957002a803efdaa52e352b83", func := "hopmesh/hopmeshlaw18.MacFlows", spec := "macFlows", inPlace := ["slices.overlaps[hopmesh/api.Packet]", "slices.overlaps[int]", "slices.overlaps[hopmesh/api.Seen]", "slices.overlaps[hopmesh/api.Held]"], unfollowed := true, recurses := true, apart := false }
def MacFlowsSaid : Prop := macFlowsRow.holds Tryz.pinned (OpenSpec.ofChange macFlowsSpec)

/-- ITS FALSE NEIGHBOUR: 'it returns false'. Refute it at one input. -/
def macFlowsWrong : ChangeSpec := { name := "macFlows", fn := fun _ => fun
  | [d1, d2, d3, d4] => { results := [.lit (.bool false)], args := [d1, d2, d3, d4] }
  | _ => none }
def MacFlowsWrongFalsely : Prop := macFlowsRow.holds Tryz.pinned (OpenSpec.ofChange macFlowsWrong)

/-- 'hopmeshlaw18.MacChanges': WHATEVER THE INPUT: true; the input reads as it did. -/
def macChangesSpec : ChangeSpec := { name := "macChanges", fn := fun _ => fun
  | [d1, d2, d3, d4] => { results := [.lit (.bool true)], args := [d1, d2, d3, d4] }
  | _ => none }
def macChangesRow : OpenClaim := { program := "ytecdajajocafdaagreat", sum := "f88b3e899fee056714b11f7d1fafaf615e91df69957002a803efdaa52e352b83", func := "hopmesh/hopmeshlaw18.MacChanges", spec := "macChanges", inPlace := ["slices.overlaps[hopmesh/api.Packet]", "slices.overlaps[int]", "slices.overlaps[hopmesh/api.Seen]", "slices.overlaps[hopmesh/api.Held]"], unfollowed := true, recurses := true, apart := false }
def MacChangesSaid : Prop := macChangesRow.holds Tryz.pinned (OpenSpec.ofChange macChangesSpec)

/-- ITS FALSE NEIGHBOUR: 'it returns false'. Refute it at one input. -/
def macChangesWrong : ChangeSpec := { name := "macChanges", fn := fun _ => fun
  | [d1, d2, d3, d4] => { results := [.lit (.bool false)], args := [d1, d2, d3, d4] }
  | _ => none }
def MacChangesWrongFalsely : Prop := macChangesRow.holds Tryz.pinned (OpenSpec.ofChange macChangesWrong)

/- THE SECOND FORM. 'bulk': how many values and letters a reading holds, each counted each time it is reached (what is shared counts as often as it is met; a slice's spare places count too). A statement '..UptoSaid' is the law's where the arguments, and the package variables that the reading takes, are together of bulk at most 1048576: NARROWER than '..Said'. Prove '..Said' where nothing that the law and all that it calls make is longer than what came in: it says more and counts as full. Else prove '..UptoSaid'. A law counts once. -/
mutual
def uptoBulk {H : Type} : DataW H → Nat
  | .lit (.string bytes) => bytes.length + 1
  | .lit _ => 1
  | .nil => 1
  | .ptr d => uptoBulk d + 1
  | .slice elems spare => uptoBulkAll elems + uptoBulkAll spare + 1
  | .agg parts => uptoBulkAll parts + 1
  | .iface _ d => uptoBulk d + 1
  | .map entries => uptoBulkEntries entries + 1
  | .held _ => 1
def uptoBulkAll {H : Type} : List (DataW H) → Nat
  | [] => 0
  | d :: r => uptoBulk d + uptoBulkAll r
def uptoBulkEntries {H : Type} : List (Lit × DataW H) → Nat
  | [] => 0
  | x :: r => uptoBulkEntry x + uptoBulkEntries r
def uptoBulkEntry {H : Type} : Lit × DataW H → Nat
  | (.string bytes, d) => bytes.length + uptoBulk d + 1
  | (_, d) => uptoBulk d + 1
 end
def uptoSmall : (H : Type) → List (DataW H) → Bool := fun _ ds => decide (uptoBulkAll ds ≤ 1048576)
def OpenSpec.upto (s : _root_.Go.ChangeSpec) : _root_.Go.OpenSpec := { _root_.Go.OpenSpec.ofChange s with cond := some uptoSmall }

/-- 'hopmeshlaw18.MacStations', WHERE WHAT IT READS IS OF BULK AT MOST 1048576: true; the input reads as it did. -/
def macStationsUptoRow : OpenClaim := { program := "ytecdajajocafdaagreat", sum := "f88b3e899fee056714b11f7d1fafaf615e91df69957002a803efdaa52e352b83", func := "hopmesh/hopmeshlaw18.MacStations", spec := "macStations", inPlace := ["slices.overlaps[hopmesh/api.Packet]", "slices.overlaps[int]", "slices.overlaps[hopmesh/api.Seen]"], unfollowed := true, recurses := true, apart := false, narrowed := true }
def MacStationsUptoSaid : Prop := macStationsUptoRow.holds Tryz.pinned (OpenSpec.upto macStationsSpec)

/-- 'hopmeshlaw18.MacActs', WHERE WHAT IT READS IS OF BULK AT MOST 1048576: true; the input reads as it did. -/
def macActsUptoRow : OpenClaim := { program := "ytecdajajocafdaagreat", sum := "f88b3e899fee056714b11f7d1fafaf615e91df69957002a803efdaa52e352b83", func := "hopmesh/hopmeshlaw18.MacActs", spec := "macActs", inPlace := ["slices.overlaps[hopmesh/api.Packet]", "slices.overlaps[int]", "slices.overlaps[hopmesh/api.Seen]"], unfollowed := true, recurses := true, apart := false, narrowed := true }
def MacActsUptoSaid : Prop := macActsUptoRow.holds Tryz.pinned (OpenSpec.upto macActsSpec)

/-- 'hopmeshlaw18.MacDone', WHERE WHAT IT READS IS OF BULK AT MOST 1048576: true; the input reads as it did. -/
def macDoneUptoRow : OpenClaim := { program := "ytecdajajocafdaagreat", sum := "f88b3e899fee056714b11f7d1fafaf615e91df69957002a803efdaa52e352b83", func := "hopmesh/hopmeshlaw18.MacDone", spec := "macDone", inPlace := ["slices.overlaps[hopmesh/api.Packet]", "slices.overlaps[int]", "slices.overlaps[hopmesh/api.Seen]"], unfollowed := true, recurses := true, apart := false, narrowed := true }
def MacDoneUptoSaid : Prop := macDoneUptoRow.holds Tryz.pinned (OpenSpec.upto macDoneSpec)

/-- 'hopmeshlaw18.MacStays', WHERE WHAT IT READS IS OF BULK AT MOST 1048576: true; the input reads as it did. -/
def macStaysUptoRow : OpenClaim := { program := "ytecdajajocafdaagreat", sum := "f88b3e899fee056714b11f7d1fafaf615e91df69957002a803efdaa52e352b83", func := "hopmesh/hopmeshlaw18.MacStays", spec := "macStays", inPlace := ["slices.overlaps[hopmesh/api.Packet]", "slices.overlaps[int]", "slices.overlaps[hopmesh/api.Seen]"], unfollowed := true, recurses := true, apart := false, narrowed := true }
def MacStaysUptoSaid : Prop := macStaysUptoRow.holds Tryz.pinned (OpenSpec.upto macStaysSpec)

/-- 'hopmeshlaw18.MacFlows', WHERE WHAT IT READS IS OF BULK AT MOST 1048576: true; the input reads as it did. -/
def macFlowsUptoRow : OpenClaim := { program := "ytecdajajocafdaagreat", sum := "f88b3e899fee056714b11f7d1fafaf615e91df69957002a803efdaa52e352b83", func := "hopmesh/hopmeshlaw18.MacFlows", spec := "macFlows", inPlace := ["slices.overlaps[hopmesh/api.Packet]", "slices.overlaps[int]", "slices.overlaps[hopmesh/api.Seen]", "slices.overlaps[hopmesh/api.Held]"], unfollowed := true, recurses := true, apart := false, narrowed := true }
def MacFlowsUptoSaid : Prop := macFlowsUptoRow.holds Tryz.pinned (OpenSpec.upto macFlowsSpec)

/-- 'hopmeshlaw18.MacChanges', WHERE WHAT IT READS IS OF BULK AT MOST 1048576: true; the input reads as it did. -/
def macChangesUptoRow : OpenClaim := { program := "ytecdajajocafdaagreat", sum := "f88b3e899fee056714b11f7d1fafaf615e91df69957002a803efdaa52e352b83", func := "hopmesh/hopmeshlaw18.MacChanges", spec := "macChanges", inPlace := ["slices.overlaps[hopmesh/api.Packet]", "slices.overlaps[int]", "slices.overlaps[hopmesh/api.Seen]", "slices.overlaps[hopmesh/api.Held]"], unfollowed := true, recurses := true, apart := false, narrowed := true }
def MacChangesUptoSaid : Prop := macChangesUptoRow.holds Tryz.pinned (OpenSpec.upto macChangesSpec)

end Rows
end Go.Proofs.YtecdajajocafdaaGreat
