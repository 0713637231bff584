/-
  What functions of the given program hand back, by walks over its code, and plain laws on that. No condition.
-/
import Derived.Test.YtecdajajocafdaaSxO18k
import Derived.Test.YtecdajajocafdaaSxO18l
import Derived.Test.YtecdajajocafdaaSxLibC
-- SXS
-- SXM
-- SXN
namespace Go.Proofs
open Go Go.Sx Go.Proofs.T Go.Proofs.Q
set_option maxRecDepth 4000
set_option linter.unusedSimpArgs false
set_option linter.unusedVariables false
attribute [local irreducible] VR VC thenQ blockQ retL

/-! Short data. -/
abbrev strs (l : List ByteArray) : D := rdOf (fun x => [.str x]) 1 l
abbrev predφStr (p : ByteArray → Bool) : List DV → DV → Prop := fun ds r => ∃ x : ByteArray, ds = [.d (.str x)] ∧ r = .d (.bool (p x))
end Go.Proofs


