/-
  What functions of the given program hand back, by walks over its code, and plain laws on that. No condition.
-/
import Derived.Test.YtiikkppedglpjaaSxP16g
-- SXU
namespace Go.Proofs
open Go Go.Sx
set_option linter.unusedSimpArgs false
set_option linter.unusedVariables false
attribute [local irreducible] VR VC thenQ blockQ retL

theorem badC_f {s : Sch} {c : CE} : badC s c = false ↔ 0 ≤ c.slot ∧ c.slot < s.len ∧ 0 ≤ c.offset ∧ c.offset < s.offs ∧ 0 ≤ c.frm ∧ c.frm < 32 ∧ 0 ≤ c.to ∧ c.to < 32 ∧ c.frm ≠ c.to ∧ 0 ≤ c.flow := by
  unfold badC nodeB
  simp only [decide_eq_false_iff_not, not_or, Int.not_lt, Int.not_le, Decidable.not_not]
  omega
end Go.Proofs


