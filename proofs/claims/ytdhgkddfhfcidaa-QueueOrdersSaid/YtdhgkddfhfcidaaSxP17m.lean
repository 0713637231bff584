/-
  What functions of the given program hand back, by walks over its code, and plain laws on that. No condition.
-/
import Derived.Test.YtdhgkddfhfcidaaSxP17l
-- SXS
-- SXM
namespace Go.Proofs
open Go Go.Sx
set_option linter.unusedSimpArgs false
set_option linter.unusedVariables false
attribute [local irreducible] VR VC thenQ blockQ retL

theorem idxId_at {lim : Int} {l : List Pk} (h : OkQ lim l) {i : Nat} (hi : i < l.length) : idxId l (l.getD i default).id = some i := by
  refine fstO_hit (fun j hj => decide_eq_false ?_) hi (decide_eq_true rfl)
  have := (List.pairwise_iff_getElem.1 h.pair j i (by omega) hi hj).1
  rw [getD_el hi, getD_el (show j < l.length by omega)]
  exact this
end Go.Proofs


