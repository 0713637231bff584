/-
  What functions of the given program hand back, by walks over its code, and plain laws on that. No condition.
-/
import Derived.Test.YtdhgkddfhfcidaaSxP17f
-- SXS
namespace Go.Proofs
open Go Go.Sx
set_option linter.unusedSimpArgs false
set_option linter.unusedVariables false
attribute [local irreducible] VR VC thenQ blockQ retL

/-! IDs of a right queue differ. -/
theorem firstErr_zero {n : Nat} {f : Nat → Int} (h : firstErr n f = 0) {i : Nat} (hi : i < n) : f i = 0 := by
  unfold firstErr at h
  cases hf : (List.range n).find? (fun i => f i != 0) with
  | none => have := List.find?_eq_none.1 hf i (List.mem_range.2 hi); simpa using this
  | some k =>
    rw [hf] at h
    have := List.find?_some hf
    simp at this
    exact absurd h this
theorem checkQ_err {q : Qu} (h : checkQ q = 0) {k : Nat} (hk : k < q.packets.length) : pkErr q.packets k = 0 := by
  obtain ⟨h1, h2, h3⟩ := checkQ_len h
  unfold checkQ at h
  rw [if_neg (by simp [inI]; omega), if_neg (by omega)] at h
  exact firstErr_zero h hk
theorem checkQ_at {q : Qu} (h : checkQ q = 0) {k : Nat} (hk : k < q.packets.length) :
    formP (q.packets.getD k default) = 0 ∧ (∀ i, i < k → (q.packets.getD i default).id ≠ (q.packets.getD k default).id) ∧ (0 < k → (q.packets.getD (k - 1) default).prio ≤ (q.packets.getD k default).prio) := by
  have := checkQ_err h hk
  unfold pkErr at this
  split at this
  · rename_i h1; exact absurd this h1
  · rename_i h1
    split at this
    · cases this
    · rename_i h2
      split at this
      · cases this
      · rename_i h3
        refine ⟨by omega, fun i hi e => h2 ?_, fun h0 => by omega⟩
        rw [List.any_eq_true]
        refine ⟨q.packets.getD i default, ?_, decide_eq_true e⟩
        rw [List.getD_eq_getElem?_getD, List.getElem?_eq_getElem (by omega)]
        exact List.mem_take_iff_getElem.2 ⟨i, by omega, rfl⟩
theorem checkQ_ne {q : Qu} (h : checkQ q = 0) {i j : Nat} (hi : i < q.packets.length) (hj : j < q.packets.length) (hij : i ≠ j) : (q.packets.getD i default).id ≠ (q.packets.getD j default).id := by
  rcases Nat.lt_or_gt_of_ne hij with hlt | hlt
  · exact (checkQ_at h hj).2.1 i hlt
  · exact fun e => (checkQ_at h hi).2.1 j hlt e.symm
end Go.Proofs


