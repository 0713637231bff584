/-
  What functions of the given program hand back, by walks over its code, and plain laws on that. No condition.
-/
import Derived.Test.YtiikkppedglpjaaSxP16r
-- SXU
namespace Go.Proofs
open Go Go.Sx
set_option linter.unusedSimpArgs false
set_option linter.unusedVariables false
attribute [local irreducible] VR VC thenQ blockQ retL

/-! ## The reference's order is the program's -/
theorem cmpTC_lt {a b : TC} : cmpTC a b < 0 ↔ lessB a b = true := by
  have := less_cmp a b
  cases h : lessB a b <;> simp [h] at this ⊢ <;> omega
theorem cmpTC_eq {a b : TC} : cmpTC a b = 0 ↔ a.slot = b.slot ∧ a.kind = b.kind := by
  unfold cmpTC orI orI orI cmpI
  by_cases h1 : a.slot < b.slot
  · simp [h1]; omega
  · by_cases h2 : b.slot < a.slot
    · simp [h1, h2]; omega
    · have e : a.slot = b.slot := by omega
      by_cases h3 : a.kind < b.kind
      · simp [e, h3]; omega
      · by_cases h4 : b.kind < a.kind
        · simp [e, h3, h4]; omega
        · simp [e, h3, h4]; omega
theorem bsTC_ok {l : List TC} (h : Srt l) (c : TC) : bsTC l c ≤ l.length ∧ (∀ a, a < bsTC l c → lessB (l.getD a default) c = true) ∧ ∀ a, bsTC l c ≤ a → a < l.length → lessB (l.getD a default) c = false := by
  have hb := bs_spec (f := fun i => decide (cmpTC (l.getD i default) c < 0)) (n := l.length) (fun a b hab hb hf => by
    simp only [decide_eq_true_eq, cmpTC_lt] at hf ⊢
    exact lessB_trans (h a b hab hb) hf)
  change bsTC l c ≤ _ ∧ (∀ a, a < bsTC l c → _) ∧ ∀ a, bsTC l c ≤ a → _ at hb
  simp only [decide_eq_true_eq, decide_eq_false_iff_not, cmpTC_lt, Bool.not_eq_true] at hb
  exact hb
theorem taken_found {l : List TC} (h : Srt l) (c : TC) : takenB l c.slot c.kind = foundTC l c := by
  obtain ⟨h1, h2, h3⟩ := bsTC_ok h c
  unfold takenB foundTC
  cases hf : (decide (bsTC l c < l.length) && decide (cmpTC (l.getD (bsTC l c) default) c = 0)) with
  | true =>
    simp only [Bool.and_eq_true, decide_eq_true_eq, cmpTC_eq] at hf
    exact any_hit hf.1 (decide_eq_true hf.2)
  | false =>
    refine any_none fun k hk => ?_
    rw [decide_eq_false_iff_not]
    rintro ⟨k1, k2⟩
    rcases Nat.lt_or_ge k (bsTC l c) with hlt | hge
    · have := lessB_iff.1 (h2 k hlt); omega
    · have h4 : ¬ lessB (l.getD (bsTC l c) default) c = true := by rw [h3 _ (Nat.le_refl _) (by omega)]; simp
      rw [lessB_iff] at h4
      have h5 : bsTC l c = k ∨ lessB (l.getD (bsTC l c) default) (l.getD k default) = true := by
        rcases Nat.lt_or_ge (bsTC l c) k with h6 | h6
        · exact .inr (h _ _ h6 hk)
        · exact .inl (by omega)
      have : bsTC l c < l.length ∧ cmpTC (l.getD (bsTC l c) default) c = 0 := by
        refine ⟨by omega, cmpTC_eq.2 ?_⟩
        rcases h5 with h5 | h5
        · rw [h5]; exact ⟨k1, k2⟩
        · rw [lessB_iff] at h5; omega
      rw [decide_eq_true this.1, decide_eq_true this.2] at hf; cases hf
theorem ins_getD {l : List TC} {i : Nat} (hi : i ≤ l.length) (c : TC) (j : Nat) : (insAt l i c).getD j default = if j < i then l.getD j default else if j = i then c else l.getD (j - 1) default := by
  unfold insAt
  simp only [List.getD_eq_getElem?_getD]
  split
  · rename_i h; rw [List.getElem?_append_left (by rw [List.length_take]; omega), List.getElem?_take, if_pos h]
  · rename_i h
    rw [List.getElem?_append_right (by rw [List.length_take]; omega), List.length_take, Nat.min_eq_left hi]
    split
    · rename_i h2; subst h2; simp
    · rename_i h2
      obtain ⟨m, rfl⟩ : ∃ m, j = i + m + 1 := ⟨j - i - 1, by omega⟩
      rw [show i + m + 1 - i = m + 1 by omega, List.getElem?_cons_succ, List.getElem?_drop, show i + m + 1 - 1 = i + m by omega]
theorem ins_srt {l : List TC} (h : Srt l) {c : TC} (hf : foundTC l c = false) : Srt (insAt l (bsTC l c) c) := by
  obtain ⟨h1, h2, h3⟩ := bsTC_ok h c
  have hlen : (insAt l (bsTC l c) c).length = l.length + 1 := by simp [insAt]; omega
  have h4 : ∀ k, bsTC l c ≤ k → k < l.length → lessB c (l.getD k default) = true := by
    intro k hk hkl
    have h5 := h3 k hk hkl
    have h6 : ¬ ((l.getD k default).slot = c.slot ∧ (l.getD k default).kind = c.kind) := by
      intro he
      rw [← taken_found h] at hf
      have : takenB l c.slot c.kind = true := any_hit hkl (decide_eq_true he)
      rw [this] at hf; cases hf
    have h7 : ¬ lessB (l.getD k default) c = true := by rw [h5]; simp
    rw [lessB_iff] at *
    omega
  intro i j hij hj
  rw [hlen] at hj
  rw [ins_getD h1 c i, ins_getD h1 c j]
  by_cases hi : i < bsTC l c
  · rw [if_pos hi]
    by_cases hj1 : j < bsTC l c
    · rw [if_pos hj1]; exact h i j hij (by omega)
    · rw [if_neg hj1]
      by_cases hj2 : j = bsTC l c
      · rw [if_pos hj2]; exact h2 i hi
      · rw [if_neg hj2]; exact h i (j - 1) (by omega) (by omega)
  · rw [if_neg hi, if_neg (show ¬ j < bsTC l c by omega), if_neg (show ¬ j = bsTC l c by omega)]
    by_cases hi2 : i = bsTC l c
    · rw [if_pos hi2]; exact h4 (j - 1) (by omega) (by omega)
    · rw [if_neg hi2]; exact h (i - 1) (j - 1) (by omega) (by omega)
end Go.Proofs


