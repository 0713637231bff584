/-
  What functions of the given program hand back, by walks over its code, and plain laws on that. No condition.
-/
import Derived.Test.YtiikkppedglpjaaSxP16s
import Derived.Test.YtiikkppedglpjaaSxLibB
-- SXU
namespace Go.Proofs
open Go Go.Sx
set_option linter.unusedSimpArgs false
set_option linter.unusedVariables false
attribute [local irreducible] VR VC thenQ blockQ retL

theorem ins_len {l : List TC} {c : TC} : (insAt l (bsTC l c) c).length = l.length + 1 := by have := bsTC_le l c; simp [insAt]; omega
end Go.Proofs


