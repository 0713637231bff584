/-
  What functions of the given program hand back, by walks over its code, and plain laws on that. No condition.
-/
import Derived.Test.YtiikkppedglpjaaSxP16u
namespace Go.Proofs
open Go Go.Sx

abbrev insS (l : List TC) (c : TC) : List TC := insAt l (bsTC l c) c
theorem mem_ins {l : List TC} {c x : TC} : x ∈ insS l c ↔ x = c ∨ x ∈ l := by
  conv => rhs; rw [← List.take_append_drop (bsTC l c) l]
  simp only [insS, insAt, List.mem_append, List.mem_cons]
  constructor
  · rintro (h | h | h)
    · exact .inr (.inl h)
    · exact .inl h
    · exact .inr (.inr h)
  · rintro (h | h | h)
    · exact .inr (.inl h)
    · exact .inl h
    · exact .inr (.inr h)
end Go.Proofs


