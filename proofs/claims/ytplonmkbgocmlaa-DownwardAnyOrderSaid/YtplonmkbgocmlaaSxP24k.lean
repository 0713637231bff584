/-
  What functions of the given program hand back, by walks over its code, and plain laws on that. No condition.
-/
import Derived.Test.YtplonmkbgocmlaaSxP24j
-- SXS
-- SXB
-- SXM
namespace Go.Proofs
open Go Go.Sx
set_option maxRecDepth 4000
set_option linter.unusedSimpArgs false
set_option linter.unusedVariables false
attribute [local irreducible] VR VC thenQ blockQ retL

/-! Walk. -/
structure GoodR (r : List Int) : Prop where
  nd : r.Nodup
  rg : ∀ x ∈ r, 0 ≤ x ∧ x < 32
  h0 : r.getD 0 default = 0
  pos : 0 < r.length
  len : r.length ≤ 9
end Go.Proofs


