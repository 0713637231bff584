/-
  What functions of the given program hand back, by walks over its code, and plain laws on that. No condition.
-/
import Derived.Test.YtdhgkddfhfcidaaSxP17o
-- SXS
-- SXM
namespace Go.Proofs
open Go Go.Sx
set_option linter.unusedSimpArgs false
set_option linter.unusedVariables false
attribute [local irreducible] VR VC thenQ blockQ retL

theorem staleB_nn {x : Pk} {slot : Int} (h : 0 ≤ slot) : staleB x slot = decide (x.life ≤ IntKind.i64.wrap (slot - x.born)) := by simp [staleB, h]
end Go.Proofs


