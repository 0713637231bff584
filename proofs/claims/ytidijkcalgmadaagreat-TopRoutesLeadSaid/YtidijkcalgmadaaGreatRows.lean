/-
  No cell of these rows narrows 'for every input' (looked for: loops, veiled, ifaces, maps, wideKeys, modest, calm, conditions, laid).
  DERIVED. THE GIVEN ROWS OF THIS SEAT. 3 by the template 'for every input the law returns true; each argument reads behind the call as it read before'; 0 by the template 'total and deterministic' (their statements: YtidijkcalgmadaaGreatTotals.lean).
  GIVEN WITH THE SEED: the statements are not yours to turn. If you find one false, say at which input.
  Laid BY PROGRAM, IN A SANDBOX (cutbox-rows.mjs): the forced cells as the released guide's own fill.sh prints them over the translation 771662c27250813e… (all of the seat's roots in one cut). By AI agents, Wed Nov 11 2026. No macro, syntax, notation, axiom, sorry.
-/
import Derived.Test.YtidijkcalgmadaaGreatChecked
import GoSem.Claim
import GoSem.ClaimJoined
import GoSem.ClaimMapViews
import Derived.JoinedTies
import Derived.KernelRfl
namespace Go.Proofs.YtidijkcalgmadaaGreat
/- THE CELL 'sum', in the pinned program and in every row, IS THE sha256 OF THE DUMP (.gsa) THAT YtidijkcalgmadaaGreatProg.lean LOADS. Nothing in Lean hashes anything: it is a label: what it is worth is what the hold of that sum in a sandbox is worth. -/
noncomputable def Tryz.pinned : Pinned := { name := "ytidijkcalgmadaagreat", sum := "771662c27250813e497959541a615c00cb9b815feaf8c3c61ba5e70b620e3982", checked := Tryz.checked }
namespace Rows
def none {H : Type} : Left H := { results := [], args := [] }

/-- 'hopmeshtop.TopQueueResidence': WHATEVER THE INPUT: true; the input reads as it did. -/
def topQueueResidenceSpec : ChangeSpec := { name := "topQueueResidence", fn := fun _ => fun
  | [d1, d2, d3, d4] => { results := [.lit (.bool true)], args := [d1, d2, d3, d4] }
  | _ => none }
def topQueueResidenceRow : OpenClaim := { program := "ytidijkcalgmadaagreat", sum := "771662c27250813e497959541a615c00cb9b815feaf8c3c61ba5e70b620e3982", func := "hopmesh/hopmeshtop.TopQueueResidence", spec := "topQueueResidence", inPlace := ["slices.overlaps[hopmesh/api.Packet]", "slices.overlaps[int]", "slices.overlaps[hopmesh/api.Seen]"], unfollowed := true, recurses := true, apart := false }
def TopQueueResidenceSaid : Prop := topQueueResidenceRow.holds Tryz.pinned (OpenSpec.ofChange topQueueResidenceSpec)

/-- ITS FALSE NEIGHBOUR: 'it returns false'. Refute it at one input. -/
def topQueueResidenceWrong : ChangeSpec := { name := "topQueueResidence", fn := fun _ => fun
  | [d1, d2, d3, d4] => { results := [.lit (.bool false)], args := [d1, d2, d3, d4] }
  | _ => none }
def TopQueueResidenceWrongFalsely : Prop := topQueueResidenceRow.holds Tryz.pinned (OpenSpec.ofChange topQueueResidenceWrong)

/-- 'hopmeshtop.TopRoutesLead': WHATEVER THE INPUT: true; the input reads as it did. -/
def topRoutesLeadSpec : ChangeSpec := { name := "topRoutesLead", fn := fun _ => fun
  | [d1, d2, d3, d4] => { results := [.lit (.bool true)], args := [d1, d2, d3, d4] }
  | _ => none }
def topRoutesLeadRow : OpenClaim := { program := "ytidijkcalgmadaagreat", sum := "771662c27250813e497959541a615c00cb9b815feaf8c3c61ba5e70b620e3982", func := "hopmesh/hopmeshtop.TopRoutesLead", spec := "topRoutesLead", inPlace := ["slices.overlaps[hopmesh/api.Neighbour]", "slices.overlaps[hopmesh/api.Report]"], unfollowed := true, recurses := true, apart := false }
def TopRoutesLeadSaid : Prop := topRoutesLeadRow.holds Tryz.pinned (OpenSpec.ofChange topRoutesLeadSpec)

/-- ITS FALSE NEIGHBOUR: 'it returns false'. Refute it at one input. -/
def topRoutesLeadWrong : ChangeSpec := { name := "topRoutesLead", fn := fun _ => fun
  | [d1, d2, d3, d4] => { results := [.lit (.bool false)], args := [d1, d2, d3, d4] }
  | _ => none }
def TopRoutesLeadWrongFalsely : Prop := topRoutesLeadRow.holds Tryz.pinned (OpenSpec.ofChange topRoutesLeadWrong)

/-- 'hopmeshtop.TopNoLoops': WHATEVER THE INPUT: true; the input reads as it did. -/
def topNoLoopsSpec : ChangeSpec := { name := "topNoLoops", fn := fun _ => fun
  | [d1, d2, d3] => { results := [.lit (.bool true)], args := [d1, d2, d3] }
  | _ => none }
def topNoLoopsRow : OpenClaim := { program := "ytidijkcalgmadaagreat", sum := "771662c27250813e497959541a615c00cb9b815feaf8c3c61ba5e70b620e3982", func := "hopmesh/hopmeshtop.TopNoLoops", spec := "topNoLoops", inPlace := ["slices.overlaps[hopmesh/api.Neighbour]"], unfollowed := true, recurses := true, apart := false }
def TopNoLoopsSaid : Prop := topNoLoopsRow.holds Tryz.pinned (OpenSpec.ofChange topNoLoopsSpec)

/-- ITS FALSE NEIGHBOUR: 'it returns false'. Refute it at one input. -/
def topNoLoopsWrong : ChangeSpec := { name := "topNoLoops", fn := fun _ => fun
  | [d1, d2, d3] => { results := [.lit (.bool false)], args := [d1, d2, d3] }
  | _ => none }
def TopNoLoopsWrongFalsely : Prop := topNoLoopsRow.holds Tryz.pinned (OpenSpec.ofChange topNoLoopsWrong)

/- THE SECOND FORM. 'bulk': how many values and letters a reading holds, each counted each time it is reached (what is shared counts as often as it is met; a slice's spare places count too). A statement '..UptoSaid' is the law's where the arguments, and the package variables that the reading takes, are together of bulk at most 1048576: NARROWER than '..Said'. Prove '..Said' where nothing that the law and all that it calls make is longer than what came in: it says more and counts as full. Else prove '..UptoSaid'. A law counts once. -/
mutual
def uptoBulk {H : Type} : DataW H → Nat
  | .lit (.string bytes) => bytes.length + 1
  | .lit _ => 1
  | .nil => 1
  | .ptr d => uptoBulk d + 1
  | .slice elems spare => uptoBulkAll elems + uptoBulkAll spare + 1
  | .agg parts => uptoBulkAll parts + 1
  | .iface _ d => uptoBulk d + 1
  | .map entries => uptoBulkEntries entries + 1
  | .held _ => 1
def uptoBulkAll {H : Type} : List (DataW H) → Nat
  | [] => 0
  | d :: r => uptoBulk d + uptoBulkAll r
def uptoBulkEntries {H : Type} : List (Lit × DataW H) → Nat
  | [] => 0
  | x :: r => uptoBulkEntry x + uptoBulkEntries r
def uptoBulkEntry {H : Type} : Lit × DataW H → Nat
  | (.string bytes, d) => bytes.length + uptoBulk d + 1
  | (_, d) => uptoBulk d + 1
 end
def uptoSmall : (H : Type) → List (DataW H) → Bool := fun _ ds => decide (uptoBulkAll ds ≤ 1048576)
def OpenSpec.upto (s : _root_.Go.ChangeSpec) : _root_.Go.OpenSpec := { _root_.Go.OpenSpec.ofChange s with cond := some uptoSmall }

/-- 'hopmeshtop.TopQueueResidence', WHERE WHAT IT READS IS OF BULK AT MOST 1048576: true; the input reads as it did. -/
def topQueueResidenceUptoRow : OpenClaim := { program := "ytidijkcalgmadaagreat", sum := "771662c27250813e497959541a615c00cb9b815feaf8c3c61ba5e70b620e3982", func := "hopmesh/hopmeshtop.TopQueueResidence", spec := "topQueueResidence", inPlace := ["slices.overlaps[hopmesh/api.Packet]", "slices.overlaps[int]", "slices.overlaps[hopmesh/api.Seen]"], unfollowed := true, recurses := true, apart := false, narrowed := true }
def TopQueueResidenceUptoSaid : Prop := topQueueResidenceUptoRow.holds Tryz.pinned (OpenSpec.upto topQueueResidenceSpec)

/-- 'hopmeshtop.TopRoutesLead', WHERE WHAT IT READS IS OF BULK AT MOST 1048576: true; the input reads as it did. -/
def topRoutesLeadUptoRow : OpenClaim := { program := "ytidijkcalgmadaagreat", sum := "771662c27250813e497959541a615c00cb9b815feaf8c3c61ba5e70b620e3982", func := "hopmesh/hopmeshtop.TopRoutesLead", spec := "topRoutesLead", inPlace := ["slices.overlaps[hopmesh/api.Neighbour]", "slices.overlaps[hopmesh/api.Report]"], unfollowed := true, recurses := true, apart := false, narrowed := true }
def TopRoutesLeadUptoSaid : Prop := topRoutesLeadUptoRow.holds Tryz.pinned (OpenSpec.upto topRoutesLeadSpec)

/-- 'hopmeshtop.TopNoLoops', WHERE WHAT IT READS IS OF BULK AT MOST 1048576: true; the input reads as it did. -/
def topNoLoopsUptoRow : OpenClaim := { program := "ytidijkcalgmadaagreat", sum := "771662c27250813e497959541a615c00cb9b815feaf8c3c61ba5e70b620e3982", func := "hopmesh/hopmeshtop.TopNoLoops", spec := "topNoLoops", inPlace := ["slices.overlaps[hopmesh/api.Neighbour]"], unfollowed := true, recurses := true, apart := false, narrowed := true }
def TopNoLoopsUptoSaid : Prop := topNoLoopsUptoRow.holds Tryz.pinned (OpenSpec.upto topNoLoopsSpec)

end Rows
end Go.Proofs.YtidijkcalgmadaaGreat
