/-
  No cell of these rows narrows 'for every input' (looked for: loops, veiled, ifaces, maps, wideKeys, modest, calm, conditions, laid).
  DERIVED. THE GIVEN ROWS OF THIS SEAT. 8 by the template 'for every input the law returns true; each argument reads behind the call as it read before'; 0 by the template 'total and deterministic' (their statements: YtdhgkddfhfcidaaTotals.lean).
  GIVEN WITH THE SEED: the statements are not yours to turn. If you find one false, say at which input.
  Laid BY PROGRAM, IN A SANDBOX (cutbox-rows.mjs): the forced cells as the released guide's own fill.sh prints them over the translation 7618770439a78a48… (all of the seat's roots in one cut). By AI agents, Wed Nov 11 2026. No macro, syntax, notation, axiom, sorry.
-/
import Derived.Test.YtdhgkddfhfcidaaChecked
import GoSem.Claim
import GoSem.ClaimJoined
import GoSem.ClaimMapViews
import Derived.JoinedTies
import Derived.KernelRfl
namespace Go.Proofs.Ytdhgkddfhfcidaa
/- THE CELL 'sum', in the pinned program and in every row, IS THE sha256 OF THE DUMP (.gsa) THAT YtdhgkddfhfcidaaProg.lean LOADS. Nothing in Lean hashes anything: it is a label: what it is worth is what the hold of that sum in a sandbox is worth. -/
noncomputable def Try.pinned : Pinned := { name := "ytdhgkddfhfcidaa", sum := "7618770439a78a481047aab25f16f11dc1486303417f87d3c0fe291239b9b836", checked := Try.checked }
namespace Rows
def none {H : Type} : Left H := { results := [], args := [] }

/-- 'hopmeshlaw17.QueueChecks': WHATEVER THE INPUT: true; the input reads as it did. -/
def queueChecksSpec : ChangeSpec := { name := "queueChecks", fn := fun _ => fun
  | [d] => { results := [.lit (.bool true)], args := [d] }
  | _ => none }
def queueChecksRow : OpenClaim := { program := "ytdhgkddfhfcidaa", sum := "7618770439a78a481047aab25f16f11dc1486303417f87d3c0fe291239b9b836", func := "hopmesh/hopmeshlaw17.QueueChecks", spec := "queueChecks", inPlace := ["slices.overlaps[hopmesh/api.Packet]"], unfollowed := true, recurses := true, plainKeys := false, apart := false }
def QueueChecksSaid : Prop := queueChecksRow.holds Try.pinned (OpenSpec.ofChange queueChecksSpec)

/-- ITS FALSE NEIGHBOUR: 'it returns false'. Refute it at one input. -/
def queueChecksWrong : ChangeSpec := { name := "queueChecks", fn := fun _ => fun
  | [d] => { results := [.lit (.bool false)], args := [d] }
  | _ => none }
def QueueChecksWrongFalsely : Prop := queueChecksRow.holds Try.pinned (OpenSpec.ofChange queueChecksWrong)

/-- 'hopmeshlaw17.QueuePuts': WHATEVER THE INPUT: true; the input reads as it did. -/
def queuePutsSpec : ChangeSpec := { name := "queuePuts", fn := fun _ => fun
  | [d1, d2] => { results := [.lit (.bool true)], args := [d1, d2] }
  | _ => none }
def queuePutsRow : OpenClaim := { program := "ytdhgkddfhfcidaa", sum := "7618770439a78a481047aab25f16f11dc1486303417f87d3c0fe291239b9b836", func := "hopmesh/hopmeshlaw17.QueuePuts", spec := "queuePuts", inPlace := ["slices.overlaps[hopmesh/api.Packet]"], unfollowed := true, recurses := true, plainKeys := false, apart := false }
def QueuePutsSaid : Prop := queuePutsRow.holds Try.pinned (OpenSpec.ofChange queuePutsSpec)

/-- ITS FALSE NEIGHBOUR: 'it returns false'. Refute it at one input. -/
def queuePutsWrong : ChangeSpec := { name := "queuePuts", fn := fun _ => fun
  | [d1, d2] => { results := [.lit (.bool false)], args := [d1, d2] }
  | _ => none }
def QueuePutsWrongFalsely : Prop := queuePutsRow.holds Try.pinned (OpenSpec.ofChange queuePutsWrong)

/-- 'hopmeshlaw17.QueueBounds': WHATEVER THE INPUT: true; the input reads as it did. -/
def queueBoundsSpec : ChangeSpec := { name := "queueBounds", fn := fun _ => fun
  | [d1, d2, d3] => { results := [.lit (.bool true)], args := [d1, d2, d3] }
  | _ => none }
def queueBoundsRow : OpenClaim := { program := "ytdhgkddfhfcidaa", sum := "7618770439a78a481047aab25f16f11dc1486303417f87d3c0fe291239b9b836", func := "hopmesh/hopmeshlaw17.QueueBounds", spec := "queueBounds", inPlace := ["slices.overlaps[hopmesh/api.Packet]"], unfollowed := true, recurses := true, plainKeys := false, apart := false }
def QueueBoundsSaid : Prop := queueBoundsRow.holds Try.pinned (OpenSpec.ofChange queueBoundsSpec)

/-- ITS FALSE NEIGHBOUR: 'it returns false'. Refute it at one input. -/
def queueBoundsWrong : ChangeSpec := { name := "queueBounds", fn := fun _ => fun
  | [d1, d2, d3] => { results := [.lit (.bool false)], args := [d1, d2, d3] }
  | _ => none }
def QueueBoundsWrongFalsely : Prop := queueBoundsRow.holds Try.pinned (OpenSpec.ofChange queueBoundsWrong)

/-- 'hopmeshlaw17.QueueServes': WHATEVER THE INPUT: true; the input reads as it did. -/
def queueServesSpec : ChangeSpec := { name := "queueServes", fn := fun _ => fun
  | [d1, d2, d3] => { results := [.lit (.bool true)], args := [d1, d2, d3] }
  | _ => none }
def queueServesRow : OpenClaim := { program := "ytdhgkddfhfcidaa", sum := "7618770439a78a481047aab25f16f11dc1486303417f87d3c0fe291239b9b836", func := "hopmesh/hopmeshlaw17.QueueServes", spec := "queueServes", inPlace := ["slices.overlaps[hopmesh/api.Packet]"], unfollowed := true, recurses := true, plainKeys := false, apart := false }
def QueueServesSaid : Prop := queueServesRow.holds Try.pinned (OpenSpec.ofChange queueServesSpec)

/-- ITS FALSE NEIGHBOUR: 'it returns false'. Refute it at one input. -/
def queueServesWrong : ChangeSpec := { name := "queueServes", fn := fun _ => fun
  | [d1, d2, d3] => { results := [.lit (.bool false)], args := [d1, d2, d3] }
  | _ => none }
def QueueServesWrongFalsely : Prop := queueServesRow.holds Try.pinned (OpenSpec.ofChange queueServesWrong)

/-- 'hopmeshlaw17.QueueKeeps': WHATEVER THE INPUT: true; the input reads as it did. -/
def queueKeepsSpec : ChangeSpec := { name := "queueKeeps", fn := fun _ => fun
  | [d1, d2, d3, d4] => { results := [.lit (.bool true)], args := [d1, d2, d3, d4] }
  | _ => none }
def queueKeepsRow : OpenClaim := { program := "ytdhgkddfhfcidaa", sum := "7618770439a78a481047aab25f16f11dc1486303417f87d3c0fe291239b9b836", func := "hopmesh/hopmeshlaw17.QueueKeeps", spec := "queueKeeps", inPlace := ["slices.overlaps[hopmesh/api.Packet]"], unfollowed := true, recurses := true, plainKeys := false, apart := false }
def QueueKeepsSaid : Prop := queueKeepsRow.holds Try.pinned (OpenSpec.ofChange queueKeepsSpec)

/-- ITS FALSE NEIGHBOUR: 'it returns false'. Refute it at one input. -/
def queueKeepsWrong : ChangeSpec := { name := "queueKeeps", fn := fun _ => fun
  | [d1, d2, d3, d4] => { results := [.lit (.bool false)], args := [d1, d2, d3, d4] }
  | _ => none }
def QueueKeepsWrongFalsely : Prop := queueKeepsRow.holds Try.pinned (OpenSpec.ofChange queueKeepsWrong)

/-- 'hopmeshlaw17.QueueInTime': WHATEVER THE INPUT: true; the input reads as it did. -/
def queueInTimeSpec : ChangeSpec := { name := "queueInTime", fn := fun _ => fun
  | [d1, d2, d3, d4, d5] => { results := [.lit (.bool true)], args := [d1, d2, d3, d4, d5] }
  | _ => none }
def queueInTimeRow : OpenClaim := { program := "ytdhgkddfhfcidaa", sum := "7618770439a78a481047aab25f16f11dc1486303417f87d3c0fe291239b9b836", func := "hopmesh/hopmeshlaw17.QueueInTime", spec := "queueInTime", inPlace := ["slices.overlaps[hopmesh/api.Packet]"], unfollowed := true, recurses := true, plainKeys := false, apart := false }
def QueueInTimeSaid : Prop := queueInTimeRow.holds Try.pinned (OpenSpec.ofChange queueInTimeSpec)

/-- ITS FALSE NEIGHBOUR: 'it returns false'. Refute it at one input. -/
def queueInTimeWrong : ChangeSpec := { name := "queueInTime", fn := fun _ => fun
  | [d1, d2, d3, d4, d5] => { results := [.lit (.bool false)], args := [d1, d2, d3, d4, d5] }
  | _ => none }
def QueueInTimeWrongFalsely : Prop := queueInTimeRow.holds Try.pinned (OpenSpec.ofChange queueInTimeWrong)

/-- 'hopmeshlaw17.QueueTakes': WHATEVER THE INPUT: true; the input reads as it did. -/
def queueTakesSpec : ChangeSpec := { name := "queueTakes", fn := fun _ => fun
  | [d1, d2, d3, d4] => { results := [.lit (.bool true)], args := [d1, d2, d3, d4] }
  | _ => none }
def queueTakesRow : OpenClaim := { program := "ytdhgkddfhfcidaa", sum := "7618770439a78a481047aab25f16f11dc1486303417f87d3c0fe291239b9b836", func := "hopmesh/hopmeshlaw17.QueueTakes", spec := "queueTakes", inPlace := ["slices.overlaps[hopmesh/api.Packet]"], unfollowed := true, recurses := true, plainKeys := false, apart := false }
def QueueTakesSaid : Prop := queueTakesRow.holds Try.pinned (OpenSpec.ofChange queueTakesSpec)

/-- ITS FALSE NEIGHBOUR: 'it returns false'. Refute it at one input. -/
def queueTakesWrong : ChangeSpec := { name := "queueTakes", fn := fun _ => fun
  | [d1, d2, d3, d4] => { results := [.lit (.bool false)], args := [d1, d2, d3, d4] }
  | _ => none }
def QueueTakesWrongFalsely : Prop := queueTakesRow.holds Try.pinned (OpenSpec.ofChange queueTakesWrong)

/-- 'hopmeshlaw17.QueueOrders': WHATEVER THE INPUT: true; the input reads as it did. -/
def queueOrdersSpec : ChangeSpec := { name := "queueOrders", fn := fun _ => fun
  | [d1, d2, d3] => { results := [.lit (.bool true)], args := [d1, d2, d3] }
  | _ => none }
def queueOrdersRow : OpenClaim := { program := "ytdhgkddfhfcidaa", sum := "7618770439a78a481047aab25f16f11dc1486303417f87d3c0fe291239b9b836", func := "hopmesh/hopmeshlaw17.QueueOrders", spec := "queueOrders", inPlace := ["slices.overlaps[hopmesh/api.Packet]"], unfollowed := true, recurses := true, plainKeys := false, apart := false }
def QueueOrdersSaid : Prop := queueOrdersRow.holds Try.pinned (OpenSpec.ofChange queueOrdersSpec)

/-- ITS FALSE NEIGHBOUR: 'it returns false'. Refute it at one input. -/
def queueOrdersWrong : ChangeSpec := { name := "queueOrders", fn := fun _ => fun
  | [d1, d2, d3] => { results := [.lit (.bool false)], args := [d1, d2, d3] }
  | _ => none }
def QueueOrdersWrongFalsely : Prop := queueOrdersRow.holds Try.pinned (OpenSpec.ofChange queueOrdersWrong)

/- THE SECOND FORM. 'bulk': how many values and letters a reading holds, each counted each time it is reached (what is shared counts as often as it is met; a slice's spare places count too). A statement '..UptoSaid' is the law's where the arguments, and the package variables that the reading takes, are together of bulk at most 1048576: NARROWER than '..Said'. Prove '..Said' where nothing that the law and all that it calls make is longer than what came in: it says more and counts as full. Else prove '..UptoSaid'. A law counts once. -/
mutual
def uptoBulk {H : Type} : DataW H → Nat
  | .lit (.string bytes) => bytes.length + 1
  | .lit _ => 1
  | .nil => 1
  | .ptr d => uptoBulk d + 1
  | .slice elems spare => uptoBulkAll elems + uptoBulkAll spare + 1
  | .agg parts => uptoBulkAll parts + 1
  | .iface _ d => uptoBulk d + 1
  | .map entries => uptoBulkEntries entries + 1
  | .held _ => 1
def uptoBulkAll {H : Type} : List (DataW H) → Nat
  | [] => 0
  | d :: r => uptoBulk d + uptoBulkAll r
def uptoBulkEntries {H : Type} : List (Lit × DataW H) → Nat
  | [] => 0
  | x :: r => uptoBulkEntry x + uptoBulkEntries r
def uptoBulkEntry {H : Type} : Lit × DataW H → Nat
  | (.string bytes, d) => bytes.length + uptoBulk d + 1
  | (_, d) => uptoBulk d + 1
 end
def uptoSmall : (H : Type) → List (DataW H) → Bool := fun _ ds => decide (uptoBulkAll ds ≤ 1048576)
def OpenSpec.upto (s : _root_.Go.ChangeSpec) : _root_.Go.OpenSpec := { _root_.Go.OpenSpec.ofChange s with cond := some uptoSmall }

/-- 'hopmeshlaw17.QueueChecks', WHERE WHAT IT READS IS OF BULK AT MOST 1048576: true; the input reads as it did. -/
def queueChecksUptoRow : OpenClaim := { program := "ytdhgkddfhfcidaa", sum := "7618770439a78a481047aab25f16f11dc1486303417f87d3c0fe291239b9b836", func := "hopmesh/hopmeshlaw17.QueueChecks", spec := "queueChecks", inPlace := ["slices.overlaps[hopmesh/api.Packet]"], unfollowed := true, recurses := true, plainKeys := false, apart := false, narrowed := true }
def QueueChecksUptoSaid : Prop := queueChecksUptoRow.holds Try.pinned (OpenSpec.upto queueChecksSpec)

/-- 'hopmeshlaw17.QueuePuts', WHERE WHAT IT READS IS OF BULK AT MOST 1048576: true; the input reads as it did. -/
def queuePutsUptoRow : OpenClaim := { program := "ytdhgkddfhfcidaa", sum := "7618770439a78a481047aab25f16f11dc1486303417f87d3c0fe291239b9b836", func := "hopmesh/hopmeshlaw17.QueuePuts", spec := "queuePuts", inPlace := ["slices.overlaps[hopmesh/api.Packet]"], unfollowed := true, recurses := true, plainKeys := false, apart := false, narrowed := true }
def QueuePutsUptoSaid : Prop := queuePutsUptoRow.holds Try.pinned (OpenSpec.upto queuePutsSpec)

/-- 'hopmeshlaw17.QueueBounds', WHERE WHAT IT READS IS OF BULK AT MOST 1048576: true; the input reads as it did. -/
def queueBoundsUptoRow : OpenClaim := { program := "ytdhgkddfhfcidaa", sum := "7618770439a78a481047aab25f16f11dc1486303417f87d3c0fe291239b9b836", func := "hopmesh/hopmeshlaw17.QueueBounds", spec := "queueBounds", inPlace := ["slices.overlaps[hopmesh/api.Packet]"], unfollowed := true, recurses := true, plainKeys := false, apart := false, narrowed := true }
def QueueBoundsUptoSaid : Prop := queueBoundsUptoRow.holds Try.pinned (OpenSpec.upto queueBoundsSpec)

/-- 'hopmeshlaw17.QueueServes', WHERE WHAT IT READS IS OF BULK AT MOST 1048576: true; the input reads as it did. -/
def queueServesUptoRow : OpenClaim := { program := "ytdhgkddfhfcidaa", sum := "7618770439a78a481047aab25f16f11dc1486303417f87d3c0fe291239b9b836", func := "hopmesh/hopmeshlaw17.QueueServes", spec := "queueServes", inPlace := ["slices.overlaps[hopmesh/api.Packet]"], unfollowed := true, recurses := true, plainKeys := false, apart := false, narrowed := true }
def QueueServesUptoSaid : Prop := queueServesUptoRow.holds Try.pinned (OpenSpec.upto queueServesSpec)

/-- 'hopmeshlaw17.QueueKeeps', WHERE WHAT IT READS IS OF BULK AT MOST 1048576: true; the input reads as it did. -/
def queueKeepsUptoRow : OpenClaim := { program := "ytdhgkddfhfcidaa", sum := "7618770439a78a481047aab25f16f11dc1486303417f87d3c0fe291239b9b836", func := "hopmesh/hopmeshlaw17.QueueKeeps", spec := "queueKeeps", inPlace := ["slices.overlaps[hopmesh/api.Packet]"], unfollowed := true, recurses := true, plainKeys := false, apart := false, narrowed := true }
def QueueKeepsUptoSaid : Prop := queueKeepsUptoRow.holds Try.pinned (OpenSpec.upto queueKeepsSpec)

/-- 'hopmeshlaw17.QueueInTime', WHERE WHAT IT READS IS OF BULK AT MOST 1048576: true; the input reads as it did. -/
def queueInTimeUptoRow : OpenClaim := { program := "ytdhgkddfhfcidaa", sum := "7618770439a78a481047aab25f16f11dc1486303417f87d3c0fe291239b9b836", func := "hopmesh/hopmeshlaw17.QueueInTime", spec := "queueInTime", inPlace := ["slices.overlaps[hopmesh/api.Packet]"], unfollowed := true, recurses := true, plainKeys := false, apart := false, narrowed := true }
def QueueInTimeUptoSaid : Prop := queueInTimeUptoRow.holds Try.pinned (OpenSpec.upto queueInTimeSpec)

/-- 'hopmeshlaw17.QueueTakes', WHERE WHAT IT READS IS OF BULK AT MOST 1048576: true; the input reads as it did. -/
def queueTakesUptoRow : OpenClaim := { program := "ytdhgkddfhfcidaa", sum := "7618770439a78a481047aab25f16f11dc1486303417f87d3c0fe291239b9b836", func := "hopmesh/hopmeshlaw17.QueueTakes", spec := "queueTakes", inPlace := ["slices.overlaps[hopmesh/api.Packet]"], unfollowed := true, recurses := true, plainKeys := false, apart := false, narrowed := true }
def QueueTakesUptoSaid : Prop := queueTakesUptoRow.holds Try.pinned (OpenSpec.upto queueTakesSpec)

/-- 'hopmeshlaw17.QueueOrders', WHERE WHAT IT READS IS OF BULK AT MOST 1048576: true; the input reads as it did. -/
def queueOrdersUptoRow : OpenClaim := { program := "ytdhgkddfhfcidaa", sum := "7618770439a78a481047aab25f16f11dc1486303417f87d3c0fe291239b9b836", func := "hopmesh/hopmeshlaw17.QueueOrders", spec := "queueOrders", inPlace := ["slices.overlaps[hopmesh/api.Packet]"], unfollowed := true, recurses := true, plainKeys := false, apart := false, narrowed := true }
def QueueOrdersUptoSaid : Prop := queueOrdersUptoRow.holds Try.pinned (OpenSpec.upto queueOrdersSpec)

end Rows
end Go.Proofs.Ytdhgkddfhfcidaa
