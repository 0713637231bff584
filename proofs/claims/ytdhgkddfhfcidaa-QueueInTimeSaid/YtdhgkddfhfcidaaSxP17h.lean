/-
  What functions of the given program hand back, by walks over its code, and plain laws on that. No condition.
-/
import Derived.Test.YtdhgkddfhfcidaaSxP17g
-- SXS
namespace Go.Proofs
open Go Go.Sx
set_option linter.unusedSimpArgs false
set_option linter.unusedVariables false
attribute [local irreducible] VR VC thenQ blockQ retL

def freshL (l : List Pk) (slot : Int) : List Pk := l.filter fun x => !staleB x slot
def staleL (l : List Pk) (slot : Int) : List Pk := l.filter fun x => staleB x slot
theorem staleL_len (l : List Pk) (slot : Int) : (staleL l slot).length ≤ l.length := List.length_filter_le _ _
end Go.Proofs


