/-
  What functions of the given program hand back, by walks over its code, and plain laws on that. No condition.
-/
import Derived.Test.YtidijkcalgmadaaGreatSxVTd
-- SXU
namespace Go.Proofs.T
open Go Go.Sx
set_option maxRecDepth 4000
set_option linter.unusedSimpArgs false
set_option linter.unusedVariables false
attribute [local irreducible] VR VC thenQ blockQ retL

theorem checkT_len {t : Tb} (h : checkT t = 0) : t.cells.length ≤ 512 ∧ 1 ≤ t.len ∧ t.len ≤ 512 ∧ nodeB t.node = true := by
  unfold checkT at h
  split at h
  · cases h
  · split at h
    · cases h
    · rename_i h1 h2
      simp only [not_or] at h1
      refine ⟨by omega, by omega, by omega, by simpa using h1.1⟩
end Go.Proofs.T


