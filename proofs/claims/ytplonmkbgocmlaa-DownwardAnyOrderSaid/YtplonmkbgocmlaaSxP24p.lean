/-
  What functions of the given program hand back, by walks over its code, and plain laws on that. No condition.
-/
import Derived.Test.YtplonmkbgocmlaaSxP24o
-- SXS
-- SXB
-- SXM
namespace Go.Proofs
open Go Go.Sx
set_option linter.unusedSimpArgs false
set_option linter.unusedVariables false

/-! Routes and parents. -/
/-- A way: each node's parent follows it; it ends with 0. -/
structure Way (l : List RP) (w : List Int) : Prop where
  nd : w.Nodup
  rg : ∀ x ∈ w, 0 ≤ x ∧ x < 32
  st : ∀ i, i + 1 < w.length → w.getD i default ≠ 0 ∧ foundRp l (w.getD i default) = true ∧ parR l (w.getD i default) = w.getD (i + 1) default
  pos : 0 < w.length
  last : w.getD (w.length - 1) default = 0
theorem Way.tail {l : List RP} {w : List Int} (h : Way l w) {i : Nat} (hi : i < w.length) : Way l (w.drop i) := by
  have hg : ∀ j, (w.drop i).getD j default = w.getD (i + j) default := fun j => by
    rw [List.getD_eq_getElem?_getD, List.getElem?_drop, ← List.getD_eq_getElem?_getD]
  refine ⟨h.nd.sublist (List.drop_sublist _ _), fun x hx => h.rg x (List.mem_of_mem_drop hx), fun j hj => ?_, by rw [List.length_drop]; omega, ?_⟩
  · rw [List.length_drop] at hj
    rw [hg, hg, show i + (j + 1) = i + j + 1 by omega]
    exact h.st (i + j) (by omega)
  · rw [List.length_drop, hg, show i + (w.length - i - 1) = w.length - 1 by omega]
    exact h.last
theorem Way.len {l : List RP} {w : List Int} (h : Way l w) : w.length ≤ 32 := len_le 32 w h.nd h.rg
end Go.Proofs


