/-
  What functions of the given program hand back, by walks over its code, and plain laws on that. No condition.
-/
import Derived.Test.YtplonmkbgocmlaaSxP24j
-- SXS
-- SXB
-- SXM
namespace Go.Proofs
open Go Go.Sx
set_option maxRecDepth 4000
set_option linter.unusedSimpArgs false
set_option linter.unusedVariables false
attribute [local irreducible] VR VC thenQ blockQ retL

/-! Walk. -/
structure GoodR (r : List Int) : Prop where
  nd : r.Nodup
  rg : ∀ x ∈ r, 0 ≤ x ∧ x < 32
  h0 : r.getD 0 default = 0
  pos : 0 < r.length
  len : r.length ≤ 9
theorem goodR_of {l : List RP} {n : Int} (h : goodL (wayL l n).reverse = true) : GoodR (wayL l n).reverse := by
  obtain ⟨h1, h2, h3⟩ := of_decide_eq_true h
  obtain ⟨h4, h5⟩ := wayL_ok l n
  refine ⟨List.pairwise_reverse.2 (h4.imp fun h => h.symm), fun x hx => h5 x (List.mem_reverse.1 hx), h2, ?_, h3⟩
  rcases Nat.eq_zero_or_pos (wayL l n).reverse.length with h0 | h0
  · exact absurd (List.length_eq_zero_iff.1 h0) h1
  · exact h0
end Go.Proofs


