/-
  What functions of the given program hand back, by walks over its code, and plain laws on that. No condition.
-/
import Derived.Test.YtiikkppedglpjaaSxP16b
-- SXU
namespace Go.Proofs
open Go Go.Sx
set_option linter.unusedSimpArgs false
set_option linter.unusedVariables false
attribute [local irreducible] VR VC thenQ blockQ retL

def lessB (a b : TC) : Bool := decide (a.slot < b.slot) || (decide (a.slot = b.slot) && decide (a.kind < b.kind))
theorem less_cmp (a b : TC) : 0 ≤ cmpTC a b ↔ lessB a b = false := by
  unfold cmpTC lessB orI orI orI cmpI
  by_cases h1 : a.slot < b.slot
  · simp [h1]
  · by_cases h2 : b.slot < a.slot
    · have : ¬ a.slot = b.slot := by omega
      simp [h1, h2, this]
    · have e : a.slot = b.slot := by omega
      by_cases h3 : a.kind < b.kind
      · simp [e, h3]
      · by_cases h4 : b.kind < a.kind
        · simp [e, h3, h4]
        · simp [e, h3, h4]
end Go.Proofs


