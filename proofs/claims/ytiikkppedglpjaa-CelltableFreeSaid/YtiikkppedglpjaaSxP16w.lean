/-
  What functions of the given program hand back, by walks over its code, and plain laws on that. No condition.
-/
import Derived.Test.YtiikkppedglpjaaSxP16v
-- SXU
namespace Go.Proofs
open Go Go.Sx
set_option linter.unusedSimpArgs false
set_option linter.unusedVariables false
attribute [local irreducible] VR VC thenQ blockQ retL

theorem few40 {t : Tb} (h : fewT t = true) (hc : checkT t = 0) : t.cells.length ≤ 40 := by
  have := checkT_len hc
  simp only [fewT, fewN, Bool.and_eq_true, decide_eq_true_eq] at h
  omega
end Go.Proofs


