/-
  No cell of these rows narrows 'for every input' (looked for: loops, veiled, ifaces, maps, wideKeys, modest, calm, conditions, laid).
  DERIVED. THE GIVEN ROWS OF THIS SEAT. 7 by the template 'for every input the law returns true; each argument reads behind the call as it read before'; 0 by the template 'total and deterministic' (their statements: YtplonmkbgocmlaaTotals.lean).
  GIVEN WITH THE SEED: the statements are not yours to turn. If you find one false, say at which input.
  Laid BY PROGRAM, IN A SANDBOX (cutbox-rows.mjs): the forced cells as the released guide's own fill.sh prints them over the translation c4b29d2956f576db… (all of the seat's roots in one cut). By AI agents, Wed Nov 11 2026. No macro, syntax, notation, axiom, sorry.
-/
import Derived.Test.YtplonmkbgocmlaaChecked
import GoSem.Claim
import GoSem.ClaimJoined
import GoSem.ClaimMapViews
import Derived.JoinedTies
import Derived.KernelRfl
namespace Go.Proofs.Ytplonmkbgocmlaa
/- THE CELL 'sum', in the pinned program and in every row, IS THE sha256 OF THE DUMP (.gsa) THAT YtplonmkbgocmlaaProg.lean LOADS. Nothing in Lean hashes anything: it is a label: what it is worth is what the hold of that sum in a sandbox is worth. -/
noncomputable def Try.pinned : Pinned := { name := "ytplonmkbgocmlaa", sum := "c4b29d2956f576dbd4362d718db6b0bc94ce321f17c5fe9d522205d18070b13b", checked := Try.checked }
namespace Rows
def none {H : Type} : Left H := { results := [], args := [] }

/-- 'hopmeshlaw24.DownwardPuts': WHATEVER THE INPUT: true; the input reads as it did. -/
def downwardPutsSpec : ChangeSpec := { name := "downwardPuts", fn := fun _ => fun
  | [d1, d2] => { results := [.lit (.bool true)], args := [d1, d2] }
  | _ => none }
def downwardPutsRow : OpenClaim := { program := "ytplonmkbgocmlaa", sum := "c4b29d2956f576dbd4362d718db6b0bc94ce321f17c5fe9d522205d18070b13b", func := "hopmesh/hopmeshlaw24.DownwardPuts", spec := "downwardPuts", inPlace := ["slices.overlaps[hopmesh/api.Report]"], unfollowed := true, recurses := true, apart := false }
def DownwardPutsSaid : Prop := downwardPutsRow.holds Try.pinned (OpenSpec.ofChange downwardPutsSpec)

/-- ITS FALSE NEIGHBOUR: 'it returns false'. Refute it at one input. -/
def downwardPutsWrong : ChangeSpec := { name := "downwardPuts", fn := fun _ => fun
  | [d1, d2] => { results := [.lit (.bool false)], args := [d1, d2] }
  | _ => none }
def DownwardPutsWrongFalsely : Prop := downwardPutsRow.holds Try.pinned (OpenSpec.ofChange downwardPutsWrong)

/-- 'hopmeshlaw24.DownwardHeaders': WHATEVER THE INPUT: true; the input reads as it did. -/
def downwardHeadersSpec : ChangeSpec := { name := "downwardHeaders", fn := fun _ => fun
  | [d1, d2, d3] => { results := [.lit (.bool true)], args := [d1, d2, d3] }
  | _ => none }
def downwardHeadersRow : OpenClaim := { program := "ytplonmkbgocmlaa", sum := "c4b29d2956f576dbd4362d718db6b0bc94ce321f17c5fe9d522205d18070b13b", func := "hopmesh/hopmeshlaw24.DownwardHeaders", spec := "downwardHeaders", inPlace := ["slices.overlaps[hopmesh/api.Report]"], unfollowed := true, recurses := true, apart := false }
def DownwardHeadersSaid : Prop := downwardHeadersRow.holds Try.pinned (OpenSpec.ofChange downwardHeadersSpec)

/-- ITS FALSE NEIGHBOUR: 'it returns false'. Refute it at one input. -/
def downwardHeadersWrong : ChangeSpec := { name := "downwardHeaders", fn := fun _ => fun
  | [d1, d2, d3] => { results := [.lit (.bool false)], args := [d1, d2, d3] }
  | _ => none }
def DownwardHeadersWrongFalsely : Prop := downwardHeadersRow.holds Try.pinned (OpenSpec.ofChange downwardHeadersWrong)

/-- 'hopmeshlaw24.DownwardAnyOrder': WHATEVER THE INPUT: true; the input reads as it did. -/
def downwardAnyOrderSpec : ChangeSpec := { name := "downwardAnyOrder", fn := fun _ => fun
  | [d1, d2, d3] => { results := [.lit (.bool true)], args := [d1, d2, d3] }
  | _ => none }
def downwardAnyOrderRow : OpenClaim := { program := "ytplonmkbgocmlaa", sum := "c4b29d2956f576dbd4362d718db6b0bc94ce321f17c5fe9d522205d18070b13b", func := "hopmesh/hopmeshlaw24.DownwardAnyOrder", spec := "downwardAnyOrder", inPlace := ["slices.overlaps[hopmesh/api.Report]"], unfollowed := true, recurses := true, apart := false }
def DownwardAnyOrderSaid : Prop := downwardAnyOrderRow.holds Try.pinned (OpenSpec.ofChange downwardAnyOrderSpec)

/-- ITS FALSE NEIGHBOUR: 'it returns false'. Refute it at one input. -/
def downwardAnyOrderWrong : ChangeSpec := { name := "downwardAnyOrder", fn := fun _ => fun
  | [d1, d2, d3] => { results := [.lit (.bool false)], args := [d1, d2, d3] }
  | _ => none }
def DownwardAnyOrderWrongFalsely : Prop := downwardAnyOrderRow.holds Try.pinned (OpenSpec.ofChange downwardAnyOrderWrong)

/-- 'hopmeshlaw24.DownwardLeads': WHATEVER THE INPUT: true; the input reads as it did. -/
def downwardLeadsSpec : ChangeSpec := { name := "downwardLeads", fn := fun _ => fun
  | [d] => { results := [.lit (.bool true)], args := [d] }
  | _ => none }
def downwardLeadsRow : OpenClaim := { program := "ytplonmkbgocmlaa", sum := "c4b29d2956f576dbd4362d718db6b0bc94ce321f17c5fe9d522205d18070b13b", func := "hopmesh/hopmeshlaw24.DownwardLeads", spec := "downwardLeads", inPlace := ["slices.overlaps[hopmesh/api.Report]"], unfollowed := true, recurses := true, apart := false }
def DownwardLeadsSaid : Prop := downwardLeadsRow.holds Try.pinned (OpenSpec.ofChange downwardLeadsSpec)

/-- ITS FALSE NEIGHBOUR: 'it returns false'. Refute it at one input. -/
def downwardLeadsWrong : ChangeSpec := { name := "downwardLeads", fn := fun _ => fun
  | [d] => { results := [.lit (.bool false)], args := [d] }
  | _ => none }
def DownwardLeadsWrongFalsely : Prop := downwardLeadsRow.holds Try.pinned (OpenSpec.ofChange downwardLeadsWrong)

/-- 'hopmeshlaw24.DownwardOld': WHATEVER THE INPUT: true; the input reads as it did. -/
def downwardOldSpec : ChangeSpec := { name := "downwardOld", fn := fun _ => fun
  | [d1, d2] => { results := [.lit (.bool true)], args := [d1, d2] }
  | _ => none }
def downwardOldRow : OpenClaim := { program := "ytplonmkbgocmlaa", sum := "c4b29d2956f576dbd4362d718db6b0bc94ce321f17c5fe9d522205d18070b13b", func := "hopmesh/hopmeshlaw24.DownwardOld", spec := "downwardOld", inPlace := ["slices.overlaps[hopmesh/api.Report]"], unfollowed := true, recurses := true, apart := false }
def DownwardOldSaid : Prop := downwardOldRow.holds Try.pinned (OpenSpec.ofChange downwardOldSpec)

/-- ITS FALSE NEIGHBOUR: 'it returns false'. Refute it at one input. -/
def downwardOldWrong : ChangeSpec := { name := "downwardOld", fn := fun _ => fun
  | [d1, d2] => { results := [.lit (.bool false)], args := [d1, d2] }
  | _ => none }
def DownwardOldWrongFalsely : Prop := downwardOldRow.holds Try.pinned (OpenSpec.ofChange downwardOldWrong)

/-- 'hopmeshlaw24.DownwardWalks': WHATEVER THE INPUT: true; the input reads as it did. -/
def downwardWalksSpec : ChangeSpec := { name := "downwardWalks", fn := fun _ => fun
  | [d1, d2] => { results := [.lit (.bool true)], args := [d1, d2] }
  | _ => none }
def downwardWalksRow : OpenClaim := { program := "ytplonmkbgocmlaa", sum := "c4b29d2956f576dbd4362d718db6b0bc94ce321f17c5fe9d522205d18070b13b", func := "hopmesh/hopmeshlaw24.DownwardWalks", spec := "downwardWalks", inPlace := ["slices.overlaps[hopmesh/api.Report]"], unfollowed := true, recurses := true, apart := false }
def DownwardWalksSaid : Prop := downwardWalksRow.holds Try.pinned (OpenSpec.ofChange downwardWalksSpec)

/-- ITS FALSE NEIGHBOUR: 'it returns false'. Refute it at one input. -/
def downwardWalksWrong : ChangeSpec := { name := "downwardWalks", fn := fun _ => fun
  | [d1, d2] => { results := [.lit (.bool false)], args := [d1, d2] }
  | _ => none }
def DownwardWalksWrongFalsely : Prop := downwardWalksRow.holds Try.pinned (OpenSpec.ofChange downwardWalksWrong)

/-- 'hopmeshlaw24.DownwardParents': WHATEVER THE INPUT: true; the input reads as it did. -/
def downwardParentsSpec : ChangeSpec := { name := "downwardParents", fn := fun _ => fun
  | [d1, d2] => { results := [.lit (.bool true)], args := [d1, d2] }
  | _ => none }
def downwardParentsRow : OpenClaim := { program := "ytplonmkbgocmlaa", sum := "c4b29d2956f576dbd4362d718db6b0bc94ce321f17c5fe9d522205d18070b13b", func := "hopmesh/hopmeshlaw24.DownwardParents", spec := "downwardParents", inPlace := ["slices.overlaps[hopmesh/api.Report]"], unfollowed := true, recurses := true, apart := false }
def DownwardParentsSaid : Prop := downwardParentsRow.holds Try.pinned (OpenSpec.ofChange downwardParentsSpec)

/-- ITS FALSE NEIGHBOUR: 'it returns false'. Refute it at one input. -/
def downwardParentsWrong : ChangeSpec := { name := "downwardParents", fn := fun _ => fun
  | [d1, d2] => { results := [.lit (.bool false)], args := [d1, d2] }
  | _ => none }
def DownwardParentsWrongFalsely : Prop := downwardParentsRow.holds Try.pinned (OpenSpec.ofChange downwardParentsWrong)

/- THE SECOND FORM. 'bulk': how many values and letters a reading holds, each counted each time it is reached (what is shared counts as often as it is met; a slice's spare places count too). A statement '..UptoSaid' is the law's where the arguments, and the package variables that the reading takes, are together of bulk at most 1048576: NARROWER than '..Said'. Prove '..Said' where nothing that the law and all that it calls make is longer than what came in: it says more and counts as full. Else prove '..UptoSaid'. A law counts once. -/
mutual
def uptoBulk {H : Type} : DataW H → Nat
  | .lit (.string bytes) => bytes.length + 1
  | .lit _ => 1
  | .nil => 1
  | .ptr d => uptoBulk d + 1
  | .slice elems spare => uptoBulkAll elems + uptoBulkAll spare + 1
  | .agg parts => uptoBulkAll parts + 1
  | .iface _ d => uptoBulk d + 1
  | .map entries => uptoBulkEntries entries + 1
  | .held _ => 1
def uptoBulkAll {H : Type} : List (DataW H) → Nat
  | [] => 0
  | d :: r => uptoBulk d + uptoBulkAll r
def uptoBulkEntries {H : Type} : List (Lit × DataW H) → Nat
  | [] => 0
  | x :: r => uptoBulkEntry x + uptoBulkEntries r
def uptoBulkEntry {H : Type} : Lit × DataW H → Nat
  | (.string bytes, d) => bytes.length + uptoBulk d + 1
  | (_, d) => uptoBulk d + 1
 end
def uptoSmall : (H : Type) → List (DataW H) → Bool := fun _ ds => decide (uptoBulkAll ds ≤ 1048576)
def OpenSpec.upto (s : _root_.Go.ChangeSpec) : _root_.Go.OpenSpec := { _root_.Go.OpenSpec.ofChange s with cond := some uptoSmall }

/-- 'hopmeshlaw24.DownwardPuts', WHERE WHAT IT READS IS OF BULK AT MOST 1048576: true; the input reads as it did. -/
def downwardPutsUptoRow : OpenClaim := { program := "ytplonmkbgocmlaa", sum := "c4b29d2956f576dbd4362d718db6b0bc94ce321f17c5fe9d522205d18070b13b", func := "hopmesh/hopmeshlaw24.DownwardPuts", spec := "downwardPuts", inPlace := ["slices.overlaps[hopmesh/api.Report]"], unfollowed := true, recurses := true, apart := false, narrowed := true }
def DownwardPutsUptoSaid : Prop := downwardPutsUptoRow.holds Try.pinned (OpenSpec.upto downwardPutsSpec)

/-- 'hopmeshlaw24.DownwardHeaders', WHERE WHAT IT READS IS OF BULK AT MOST 1048576: true; the input reads as it did. -/
def downwardHeadersUptoRow : OpenClaim := { program := "ytplonmkbgocmlaa", sum := "c4b29d2956f576dbd4362d718db6b0bc94ce321f17c5fe9d522205d18070b13b", func := "hopmesh/hopmeshlaw24.DownwardHeaders", spec := "downwardHeaders", inPlace := ["slices.overlaps[hopmesh/api.Report]"], unfollowed := true, recurses := true, apart := false, narrowed := true }
def DownwardHeadersUptoSaid : Prop := downwardHeadersUptoRow.holds Try.pinned (OpenSpec.upto downwardHeadersSpec)

/-- 'hopmeshlaw24.DownwardAnyOrder', WHERE WHAT IT READS IS OF BULK AT MOST 1048576: true; the input reads as it did. -/
def downwardAnyOrderUptoRow : OpenClaim := { program := "ytplonmkbgocmlaa", sum := "c4b29d2956f576dbd4362d718db6b0bc94ce321f17c5fe9d522205d18070b13b", func := "hopmesh/hopmeshlaw24.DownwardAnyOrder", spec := "downwardAnyOrder", inPlace := ["slices.overlaps[hopmesh/api.Report]"], unfollowed := true, recurses := true, apart := false, narrowed := true }
def DownwardAnyOrderUptoSaid : Prop := downwardAnyOrderUptoRow.holds Try.pinned (OpenSpec.upto downwardAnyOrderSpec)

/-- 'hopmeshlaw24.DownwardLeads', WHERE WHAT IT READS IS OF BULK AT MOST 1048576: true; the input reads as it did. -/
def downwardLeadsUptoRow : OpenClaim := { program := "ytplonmkbgocmlaa", sum := "c4b29d2956f576dbd4362d718db6b0bc94ce321f17c5fe9d522205d18070b13b", func := "hopmesh/hopmeshlaw24.DownwardLeads", spec := "downwardLeads", inPlace := ["slices.overlaps[hopmesh/api.Report]"], unfollowed := true, recurses := true, apart := false, narrowed := true }
def DownwardLeadsUptoSaid : Prop := downwardLeadsUptoRow.holds Try.pinned (OpenSpec.upto downwardLeadsSpec)

/-- 'hopmeshlaw24.DownwardOld', WHERE WHAT IT READS IS OF BULK AT MOST 1048576: true; the input reads as it did. -/
def downwardOldUptoRow : OpenClaim := { program := "ytplonmkbgocmlaa", sum := "c4b29d2956f576dbd4362d718db6b0bc94ce321f17c5fe9d522205d18070b13b", func := "hopmesh/hopmeshlaw24.DownwardOld", spec := "downwardOld", inPlace := ["slices.overlaps[hopmesh/api.Report]"], unfollowed := true, recurses := true, apart := false, narrowed := true }
def DownwardOldUptoSaid : Prop := downwardOldUptoRow.holds Try.pinned (OpenSpec.upto downwardOldSpec)

/-- 'hopmeshlaw24.DownwardWalks', WHERE WHAT IT READS IS OF BULK AT MOST 1048576: true; the input reads as it did. -/
def downwardWalksUptoRow : OpenClaim := { program := "ytplonmkbgocmlaa", sum := "c4b29d2956f576dbd4362d718db6b0bc94ce321f17c5fe9d522205d18070b13b", func := "hopmesh/hopmeshlaw24.DownwardWalks", spec := "downwardWalks", inPlace := ["slices.overlaps[hopmesh/api.Report]"], unfollowed := true, recurses := true, apart := false, narrowed := true }
def DownwardWalksUptoSaid : Prop := downwardWalksUptoRow.holds Try.pinned (OpenSpec.upto downwardWalksSpec)

/-- 'hopmeshlaw24.DownwardParents', WHERE WHAT IT READS IS OF BULK AT MOST 1048576: true; the input reads as it did. -/
def downwardParentsUptoRow : OpenClaim := { program := "ytplonmkbgocmlaa", sum := "c4b29d2956f576dbd4362d718db6b0bc94ce321f17c5fe9d522205d18070b13b", func := "hopmesh/hopmeshlaw24.DownwardParents", spec := "downwardParents", inPlace := ["slices.overlaps[hopmesh/api.Report]"], unfollowed := true, recurses := true, apart := false, narrowed := true }
def DownwardParentsUptoSaid : Prop := downwardParentsUptoRow.holds Try.pinned (OpenSpec.upto downwardParentsSpec)

end Rows
end Go.Proofs.Ytplonmkbgocmlaa
