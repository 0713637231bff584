/-
  No cell of these rows narrows 'for every input' (looked for: loops, veiled, ifaces, maps, wideKeys, modest, calm, conditions, laid).
  DERIVED. THE GIVEN ROWS OF THIS SEAT. 8 by the template 'for every input the law returns true; each argument reads behind the call as it read before'; 0 by the template 'total and deterministic' (their statements: YtiikkppedglpjaaTotals.lean).
  GIVEN WITH THE SEED: the statements are not yours to turn. If you find one false, say at which input.
  Laid BY PROGRAM, IN A SANDBOX (cutbox-rows.mjs): the forced cells as the released guide's own fill.sh prints them over the translation 9122fd27ef27d32e… (all of the seat's roots in one cut). By AI agents, Wed Nov 11 2026. No macro, syntax, notation, axiom, sorry.
-/
import Derived.Test.YtiikkppedglpjaaChecked
import GoSem.Claim
import GoSem.ClaimJoined
import GoSem.ClaimMapViews
import Derived.JoinedTies
import Derived.KernelRfl
namespace Go.Proofs.Ytiikkppedglpjaa
/- THE CELL 'sum', in the pinned program and in every row, IS THE sha256 OF THE DUMP (.gsa) THAT YtiikkppedglpjaaProg.lean LOADS. Nothing in Lean hashes anything: it is a label: what it is worth is what the hold of that sum in a sandbox is worth. -/
noncomputable def Try.pinned : Pinned := { name := "ytiikkppedglpjaa", sum := "9122fd27ef27d32e874717b36ec0420801d9210a93561e38bb5834cb1f65c3c1", checked := Try.checked }
namespace Rows
def none {H : Type} : Left H := { results := [], args := [] }

/-- 'hopmeshlaw16.CelltableChecks': WHATEVER THE INPUT: true; the input reads as it did. -/
def celltableChecksSpec : ChangeSpec := { name := "celltableChecks", fn := fun _ => fun
  | [d] => { results := [.lit (.bool true)], args := [d] }
  | _ => none }
def celltableChecksRow : OpenClaim := { program := "ytiikkppedglpjaa", sum := "9122fd27ef27d32e874717b36ec0420801d9210a93561e38bb5834cb1f65c3c1", func := "hopmesh/hopmeshlaw16.CelltableChecks", spec := "celltableChecks", inPlace := ["slices.overlaps[hopmesh/api.TableCell]"], unfollowed := true, recurses := true, apart := false }
def CelltableChecksSaid : Prop := celltableChecksRow.holds Try.pinned (OpenSpec.ofChange celltableChecksSpec)

/-- ITS FALSE NEIGHBOUR: 'it returns false'. Refute it at one input. -/
def celltableChecksWrong : ChangeSpec := { name := "celltableChecks", fn := fun _ => fun
  | [d] => { results := [.lit (.bool false)], args := [d] }
  | _ => none }
def CelltableChecksWrongFalsely : Prop := celltableChecksRow.holds Try.pinned (OpenSpec.ofChange celltableChecksWrong)

/-- 'hopmeshlaw16.CelltableOf': WHATEVER THE INPUT: true; the input reads as it did. -/
def celltableOfSpec : ChangeSpec := { name := "celltableOf", fn := fun _ => fun
  | [d1, d2] => { results := [.lit (.bool true)], args := [d1, d2] }
  | _ => none }
def celltableOfRow : OpenClaim := { program := "ytiikkppedglpjaa", sum := "9122fd27ef27d32e874717b36ec0420801d9210a93561e38bb5834cb1f65c3c1", func := "hopmesh/hopmeshlaw16.CelltableOf", spec := "celltableOf", inPlace := ["slices.overlaps[hopmesh/api.TableCell]"], unfollowed := true, recurses := true, apart := false }
def CelltableOfSaid : Prop := celltableOfRow.holds Try.pinned (OpenSpec.ofChange celltableOfSpec)

/-- ITS FALSE NEIGHBOUR: 'it returns false'. Refute it at one input. -/
def celltableOfWrong : ChangeSpec := { name := "celltableOf", fn := fun _ => fun
  | [d1, d2] => { results := [.lit (.bool false)], args := [d1, d2] }
  | _ => none }
def CelltableOfWrongFalsely : Prop := celltableOfRow.holds Try.pinned (OpenSpec.ofChange celltableOfWrong)

/-- 'hopmeshlaw16.CelltableEnds': WHATEVER THE INPUT: true; the input reads as it did. -/
def celltableEndsSpec : ChangeSpec := { name := "celltableEnds", fn := fun _ => fun
  | [d] => { results := [.lit (.bool true)], args := [d] }
  | _ => none }
def celltableEndsRow : OpenClaim := { program := "ytiikkppedglpjaa", sum := "9122fd27ef27d32e874717b36ec0420801d9210a93561e38bb5834cb1f65c3c1", func := "hopmesh/hopmeshlaw16.CelltableEnds", spec := "celltableEnds", inPlace := ["slices.overlaps[hopmesh/api.TableCell]"], unfollowed := true, recurses := true, apart := false }
def CelltableEndsSaid : Prop := celltableEndsRow.holds Try.pinned (OpenSpec.ofChange celltableEndsSpec)

/-- ITS FALSE NEIGHBOUR: 'it returns false'. Refute it at one input. -/
def celltableEndsWrong : ChangeSpec := { name := "celltableEnds", fn := fun _ => fun
  | [d] => { results := [.lit (.bool false)], args := [d] }
  | _ => none }
def CelltableEndsWrongFalsely : Prop := celltableEndsRow.holds Try.pinned (OpenSpec.ofChange celltableEndsWrong)

/-- 'hopmeshlaw16.CelltableAt': WHATEVER THE INPUT: true; the input reads as it did. -/
def celltableAtSpec : ChangeSpec := { name := "celltableAt", fn := fun _ => fun
  | [d1, d2, d3] => { results := [.lit (.bool true)], args := [d1, d2, d3] }
  | _ => none }
def celltableAtRow : OpenClaim := { program := "ytiikkppedglpjaa", sum := "9122fd27ef27d32e874717b36ec0420801d9210a93561e38bb5834cb1f65c3c1", func := "hopmesh/hopmeshlaw16.CelltableAt", spec := "celltableAt", inPlace := ["slices.overlaps[hopmesh/api.TableCell]"], unfollowed := true, recurses := true, apart := false }
def CelltableAtSaid : Prop := celltableAtRow.holds Try.pinned (OpenSpec.ofChange celltableAtSpec)

/-- ITS FALSE NEIGHBOUR: 'it returns false'. Refute it at one input. -/
def celltableAtWrong : ChangeSpec := { name := "celltableAt", fn := fun _ => fun
  | [d1, d2, d3] => { results := [.lit (.bool false)], args := [d1, d2, d3] }
  | _ => none }
def CelltableAtWrongFalsely : Prop := celltableAtRow.holds Try.pinned (OpenSpec.ofChange celltableAtWrong)

/-- 'hopmeshlaw16.CelltablePlaces': WHATEVER THE INPUT: true; the input reads as it did. -/
def celltablePlacesSpec : ChangeSpec := { name := "celltablePlaces", fn := fun _ => fun
  | [d1, d2, d3, d4, d5] => { results := [.lit (.bool true)], args := [d1, d2, d3, d4, d5] }
  | _ => none }
def celltablePlacesRow : OpenClaim := { program := "ytiikkppedglpjaa", sum := "9122fd27ef27d32e874717b36ec0420801d9210a93561e38bb5834cb1f65c3c1", func := "hopmesh/hopmeshlaw16.CelltablePlaces", spec := "celltablePlaces", inPlace := ["slices.overlaps[hopmesh/api.TableCell]"], unfollowed := true, recurses := true, apart := false }
def CelltablePlacesSaid : Prop := celltablePlacesRow.holds Try.pinned (OpenSpec.ofChange celltablePlacesSpec)

/-- ITS FALSE NEIGHBOUR: 'it returns false'. Refute it at one input. -/
def celltablePlacesWrong : ChangeSpec := { name := "celltablePlaces", fn := fun _ => fun
  | [d1, d2, d3, d4, d5] => { results := [.lit (.bool false)], args := [d1, d2, d3, d4, d5] }
  | _ => none }
def CelltablePlacesWrongFalsely : Prop := celltablePlacesRow.holds Try.pinned (OpenSpec.ofChange celltablePlacesWrong)

/-- 'hopmeshlaw16.CelltableChanges': WHATEVER THE INPUT: true; the input reads as it did. -/
def celltableChangesSpec : ChangeSpec := { name := "celltableChanges", fn := fun _ => fun
  | [d1, d2] => { results := [.lit (.bool true)], args := [d1, d2] }
  | _ => none }
def celltableChangesRow : OpenClaim := { program := "ytiikkppedglpjaa", sum := "9122fd27ef27d32e874717b36ec0420801d9210a93561e38bb5834cb1f65c3c1", func := "hopmesh/hopmeshlaw16.CelltableChanges", spec := "celltableChanges", inPlace := ["slices.overlaps[hopmesh/api.TableCell]"], unfollowed := true, recurses := true, apart := false }
def CelltableChangesSaid : Prop := celltableChangesRow.holds Try.pinned (OpenSpec.ofChange celltableChangesSpec)

/-- ITS FALSE NEIGHBOUR: 'it returns false'. Refute it at one input. -/
def celltableChangesWrong : ChangeSpec := { name := "celltableChanges", fn := fun _ => fun
  | [d1, d2] => { results := [.lit (.bool false)], args := [d1, d2] }
  | _ => none }
def CelltableChangesWrongFalsely : Prop := celltableChangesRow.holds Try.pinned (OpenSpec.ofChange celltableChangesWrong)

/-- 'hopmeshlaw16.CelltableUndone': WHATEVER THE INPUT: true; the input reads as it did. -/
def celltableUndoneSpec : ChangeSpec := { name := "celltableUndone", fn := fun _ => fun
  | [d1, d2, d3] => { results := [.lit (.bool true)], args := [d1, d2, d3] }
  | _ => none }
def celltableUndoneRow : OpenClaim := { program := "ytiikkppedglpjaa", sum := "9122fd27ef27d32e874717b36ec0420801d9210a93561e38bb5834cb1f65c3c1", func := "hopmesh/hopmeshlaw16.CelltableUndone", spec := "celltableUndone", inPlace := ["slices.overlaps[hopmesh/api.TableCell]"], unfollowed := true, recurses := true, apart := false }
def CelltableUndoneSaid : Prop := celltableUndoneRow.holds Try.pinned (OpenSpec.ofChange celltableUndoneSpec)

/-- ITS FALSE NEIGHBOUR: 'it returns false'. Refute it at one input. -/
def celltableUndoneWrong : ChangeSpec := { name := "celltableUndone", fn := fun _ => fun
  | [d1, d2, d3] => { results := [.lit (.bool false)], args := [d1, d2, d3] }
  | _ => none }
def CelltableUndoneWrongFalsely : Prop := celltableUndoneRow.holds Try.pinned (OpenSpec.ofChange celltableUndoneWrong)

/-- 'hopmeshlaw16.CelltableFree': WHATEVER THE INPUT: true; the input reads as it did. -/
def celltableFreeSpec : ChangeSpec := { name := "celltableFree", fn := fun _ => fun
  | [d1, d2, d3, d4] => { results := [.lit (.bool true)], args := [d1, d2, d3, d4] }
  | _ => none }
def celltableFreeRow : OpenClaim := { program := "ytiikkppedglpjaa", sum := "9122fd27ef27d32e874717b36ec0420801d9210a93561e38bb5834cb1f65c3c1", func := "hopmesh/hopmeshlaw16.CelltableFree", spec := "celltableFree", inPlace := ["slices.overlaps[hopmesh/api.TableCell]"], unfollowed := true, recurses := true, apart := false }
def CelltableFreeSaid : Prop := celltableFreeRow.holds Try.pinned (OpenSpec.ofChange celltableFreeSpec)

/-- ITS FALSE NEIGHBOUR: 'it returns false'. Refute it at one input. -/
def celltableFreeWrong : ChangeSpec := { name := "celltableFree", fn := fun _ => fun
  | [d1, d2, d3, d4] => { results := [.lit (.bool false)], args := [d1, d2, d3, d4] }
  | _ => none }
def CelltableFreeWrongFalsely : Prop := celltableFreeRow.holds Try.pinned (OpenSpec.ofChange celltableFreeWrong)

/- THE SECOND FORM. 'bulk': how many values and letters a reading holds, each counted each time it is reached (what is shared counts as often as it is met; a slice's spare places count too). A statement '..UptoSaid' is the law's where the arguments, and the package variables that the reading takes, are together of bulk at most 1048576: NARROWER than '..Said'. Prove '..Said' where nothing that the law and all that it calls make is longer than what came in: it says more and counts as full. Else prove '..UptoSaid'. A law counts once. -/
mutual
def uptoBulk {H : Type} : DataW H → Nat
  | .lit (.string bytes) => bytes.length + 1
  | .lit _ => 1
  | .nil => 1
  | .ptr d => uptoBulk d + 1
  | .slice elems spare => uptoBulkAll elems + uptoBulkAll spare + 1
  | .agg parts => uptoBulkAll parts + 1
  | .iface _ d => uptoBulk d + 1
  | .map entries => uptoBulkEntries entries + 1
  | .held _ => 1
def uptoBulkAll {H : Type} : List (DataW H) → Nat
  | [] => 0
  | d :: r => uptoBulk d + uptoBulkAll r
def uptoBulkEntries {H : Type} : List (Lit × DataW H) → Nat
  | [] => 0
  | x :: r => uptoBulkEntry x + uptoBulkEntries r
def uptoBulkEntry {H : Type} : Lit × DataW H → Nat
  | (.string bytes, d) => bytes.length + uptoBulk d + 1
  | (_, d) => uptoBulk d + 1
 end
def uptoSmall : (H : Type) → List (DataW H) → Bool := fun _ ds => decide (uptoBulkAll ds ≤ 1048576)
def OpenSpec.upto (s : _root_.Go.ChangeSpec) : _root_.Go.OpenSpec := { _root_.Go.OpenSpec.ofChange s with cond := some uptoSmall }

/-- 'hopmeshlaw16.CelltableChecks', WHERE WHAT IT READS IS OF BULK AT MOST 1048576: true; the input reads as it did. -/
def celltableChecksUptoRow : OpenClaim := { program := "ytiikkppedglpjaa", sum := "9122fd27ef27d32e874717b36ec0420801d9210a93561e38bb5834cb1f65c3c1", func := "hopmesh/hopmeshlaw16.CelltableChecks", spec := "celltableChecks", inPlace := ["slices.overlaps[hopmesh/api.TableCell]"], unfollowed := true, recurses := true, apart := false, narrowed := true }
def CelltableChecksUptoSaid : Prop := celltableChecksUptoRow.holds Try.pinned (OpenSpec.upto celltableChecksSpec)

/-- 'hopmeshlaw16.CelltableOf', WHERE WHAT IT READS IS OF BULK AT MOST 1048576: true; the input reads as it did. -/
def celltableOfUptoRow : OpenClaim := { program := "ytiikkppedglpjaa", sum := "9122fd27ef27d32e874717b36ec0420801d9210a93561e38bb5834cb1f65c3c1", func := "hopmesh/hopmeshlaw16.CelltableOf", spec := "celltableOf", inPlace := ["slices.overlaps[hopmesh/api.TableCell]"], unfollowed := true, recurses := true, apart := false, narrowed := true }
def CelltableOfUptoSaid : Prop := celltableOfUptoRow.holds Try.pinned (OpenSpec.upto celltableOfSpec)

/-- 'hopmeshlaw16.CelltableEnds', WHERE WHAT IT READS IS OF BULK AT MOST 1048576: true; the input reads as it did. -/
def celltableEndsUptoRow : OpenClaim := { program := "ytiikkppedglpjaa", sum := "9122fd27ef27d32e874717b36ec0420801d9210a93561e38bb5834cb1f65c3c1", func := "hopmesh/hopmeshlaw16.CelltableEnds", spec := "celltableEnds", inPlace := ["slices.overlaps[hopmesh/api.TableCell]"], unfollowed := true, recurses := true, apart := false, narrowed := true }
def CelltableEndsUptoSaid : Prop := celltableEndsUptoRow.holds Try.pinned (OpenSpec.upto celltableEndsSpec)

/-- 'hopmeshlaw16.CelltableAt', WHERE WHAT IT READS IS OF BULK AT MOST 1048576: true; the input reads as it did. -/
def celltableAtUptoRow : OpenClaim := { program := "ytiikkppedglpjaa", sum := "9122fd27ef27d32e874717b36ec0420801d9210a93561e38bb5834cb1f65c3c1", func := "hopmesh/hopmeshlaw16.CelltableAt", spec := "celltableAt", inPlace := ["slices.overlaps[hopmesh/api.TableCell]"], unfollowed := true, recurses := true, apart := false, narrowed := true }
def CelltableAtUptoSaid : Prop := celltableAtUptoRow.holds Try.pinned (OpenSpec.upto celltableAtSpec)

/-- 'hopmeshlaw16.CelltablePlaces', WHERE WHAT IT READS IS OF BULK AT MOST 1048576: true; the input reads as it did. -/
def celltablePlacesUptoRow : OpenClaim := { program := "ytiikkppedglpjaa", sum := "9122fd27ef27d32e874717b36ec0420801d9210a93561e38bb5834cb1f65c3c1", func := "hopmesh/hopmeshlaw16.CelltablePlaces", spec := "celltablePlaces", inPlace := ["slices.overlaps[hopmesh/api.TableCell]"], unfollowed := true, recurses := true, apart := false, narrowed := true }
def CelltablePlacesUptoSaid : Prop := celltablePlacesUptoRow.holds Try.pinned (OpenSpec.upto celltablePlacesSpec)

/-- 'hopmeshlaw16.CelltableChanges', WHERE WHAT IT READS IS OF BULK AT MOST 1048576: true; the input reads as it did. -/
def celltableChangesUptoRow : OpenClaim := { program := "ytiikkppedglpjaa", sum := "9122fd27ef27d32e874717b36ec0420801d9210a93561e38bb5834cb1f65c3c1", func := "hopmesh/hopmeshlaw16.CelltableChanges", spec := "celltableChanges", inPlace := ["slices.overlaps[hopmesh/api.TableCell]"], unfollowed := true, recurses := true, apart := false, narrowed := true }
def CelltableChangesUptoSaid : Prop := celltableChangesUptoRow.holds Try.pinned (OpenSpec.upto celltableChangesSpec)

/-- 'hopmeshlaw16.CelltableUndone', WHERE WHAT IT READS IS OF BULK AT MOST 1048576: true; the input reads as it did. -/
def celltableUndoneUptoRow : OpenClaim := { program := "ytiikkppedglpjaa", sum := "9122fd27ef27d32e874717b36ec0420801d9210a93561e38bb5834cb1f65c3c1", func := "hopmesh/hopmeshlaw16.CelltableUndone", spec := "celltableUndone", inPlace := ["slices.overlaps[hopmesh/api.TableCell]"], unfollowed := true, recurses := true, apart := false, narrowed := true }
def CelltableUndoneUptoSaid : Prop := celltableUndoneUptoRow.holds Try.pinned (OpenSpec.upto celltableUndoneSpec)

/-- 'hopmeshlaw16.CelltableFree', WHERE WHAT IT READS IS OF BULK AT MOST 1048576: true; the input reads as it did. -/
def celltableFreeUptoRow : OpenClaim := { program := "ytiikkppedglpjaa", sum := "9122fd27ef27d32e874717b36ec0420801d9210a93561e38bb5834cb1f65c3c1", func := "hopmesh/hopmeshlaw16.CelltableFree", spec := "celltableFree", inPlace := ["slices.overlaps[hopmesh/api.TableCell]"], unfollowed := true, recurses := true, apart := false, narrowed := true }
def CelltableFreeUptoSaid : Prop := celltableFreeUptoRow.holds Try.pinned (OpenSpec.upto celltableFreeSpec)

end Rows
end Go.Proofs.Ytiikkppedglpjaa
