/-
  What functions of the given program hand back, by walks over its code, and plain laws on that. No condition.
-/
import Derived.Test.YtiikkppedglpjaaSxP16h
import Derived.Test.YtiikkppedglpjaaSxLibB
-- SXU
namespace Go.Proofs
open Go Go.Sx
set_option linter.unusedSimpArgs false
set_option linter.unusedVariables false
attribute [local irreducible] VR VC thenQ blockQ retL

/-- The cell of a node's table that a schedule's cell gives. -/
def ofCell (self : Int) (c : CE) : Option TC :=
  if c.frm = self then some ⟨c.slot, c.offset, 1, true, c.to, c.flow⟩ else if c.to = self then some ⟨c.slot, c.offset, 1, false, c.frm, c.flow⟩ else none
/-- The cells behind the first k of a schedule; none: a conflict. -/
def ofTo (self : Int) (s : Sch) : Nat → Option (List TC)
  | 0 => some []
  | k + 1 => match ofTo self s k with
    | none => none
    | some l => match ofCell self (s.cells.getD k default) with
      | none => some l
      | some x => if foundTC l x = true then none else some (insAt l (bsTC l x) x)

abbrev noTb : List C := [.d (.int .i64 0), .d (.int .i64 0), .d .nils]
end Go.Proofs


