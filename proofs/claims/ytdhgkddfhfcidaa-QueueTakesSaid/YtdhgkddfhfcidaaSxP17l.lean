/-
  What functions of the given program hand back, by walks over its code, and plain laws on that. No condition.
-/
import Derived.Test.YtdhgkddfhfcidaaSxP17k
-- SXS
-- SXM
namespace Go.Proofs
open Go Go.Sx
set_option linter.unusedSimpArgs false
set_option linter.unusedVariables false
attribute [local irreducible] VR VC thenQ blockQ retL

/-! What a right queue is. -/
structure OkQ (lim : Int) (l : List Pk) : Prop where
  bnd : 1 ≤ lim ∧ lim ≤ 64
  len : (l.length : Int) ≤ lim
  form : ∀ x ∈ l, formP x = 0
  pair : l.Pairwise fun x y => x.id ≠ y.id ∧ x.prio ≤ y.prio

theorem OkQ.sub {lim : Int} {l m : List Pk} (h : OkQ lim l) (hs : m.Sublist l) : OkQ lim m :=
  ⟨h.bnd, by have := h.len; have := hs.length_le; omega, fun x hx => h.form x (hs.subset hx), h.pair.sublist hs⟩
end Go.Proofs


