/-
  What functions of the given program hand back, by walks over its code, and plain laws on that. No condition.
-/
import Derived.Test.YtiikkppedglpjaaSxP16u
namespace Go.Proofs
open Go Go.Sx

theorem checkT_iff {t : Tb} : checkT t = 0 ↔ nodeB t.node = true ∧ 1 ≤ t.len ∧ t.len ≤ 512 ∧ t.cells.length ≤ 512 ∧ (∀ x ∈ t.cells, formE x t.node t.len = 0) ∧ Srt t.cells := by
  constructor
  · intro h
    have h1 := checkT_len h
    refine ⟨h1.2.2.2, h1.2.1, h1.2.2.1, h1.1, fun x hx => ?_, checkT_srt h⟩
    obtain ⟨i, hi, rfl⟩ := mem_getD hx
    exact (checkT_ok h i hi).1
  · rintro ⟨h1, h2, h3, h4, h5, h6⟩
    rw [checkT, if_neg (by rw [h1]; simp; omega), if_neg (by omega), firstErr_none fun i hi => ?_]
    rw [tcErr, h5 _ (getD_mem hi), if_neg (by simp), if_neg]
    rintro ⟨h0, hc⟩
    rw [less_cmp] at hc
    have := h6 (i - 1) i (by omega) hi
    rw [hc] at this; cases this
theorem srt_ext {l m : List TC} (hl : Srt l) (hm : Srt m) (h : ∀ x, x ∈ l ↔ x ∈ m) : l = m := by
  induction l generalizing m with
  | nil =>
    cases m with
    | nil => rfl
    | cons y m => exact absurd ((h y).2 (by simp)) (by simp)
  | cons x l ih =>
    cases m with
    | nil => exact absurd ((h x).1 (by simp)) (by simp)
    | cons y m =>
      have tl : ∀ {z : TC} {k : List TC}, Srt (z :: k) → Srt k := fun hs i j hij hj => by
        have := hs (i + 1) (j + 1) (by omega) (by simpa using hj)
        simpa using this
      have hd : ∀ {z w : TC} {k : List TC}, Srt (z :: k) → w ∈ k → lessB z w = true := fun hs hw => by
        obtain ⟨i, hi, rfl⟩ := mem_getD hw
        have := hs 0 (i + 1) (by omega) (by simpa using hi)
        simpa using this
      have irr : ∀ z : TC, ¬ lessB z z = true := fun z hz => by rw [lessB_iff] at hz; omega
      have hxy : x = y := by
        rcases List.mem_cons.1 ((h x).1 (by simp)) with e | hx
        · exact e
        · rcases List.mem_cons.1 ((h y).2 (by simp)) with e | hy
          · exact e.symm
          · exact absurd (lessB_trans (hd hm hx) (hd hl hy)) (irr y)
      subst hxy
      congr 1
      refine ih (tl hl) (tl hm) fun z => ⟨fun hz => ?_, fun hz => ?_⟩
      · rcases List.mem_cons.1 ((h z).1 (by simp [hz])) with e | h2
        · subst e; exact absurd (hd hl hz) (irr z)
        · exact h2
      · rcases List.mem_cons.1 ((h z).2 (by simp [hz])) with e | h2
        · subst e; exact absurd (hd hm hz) (irr z)
        · exact h2
abbrev insS (l : List TC) (c : TC) : List TC := insAt l (bsTC l c) c
theorem mem_ins {l : List TC} {c x : TC} : x ∈ insS l c ↔ x = c ∨ x ∈ l := by
  conv => rhs; rw [← List.take_append_drop (bsTC l c) l]
  simp only [insS, insAt, List.mem_append, List.mem_cons]
  constructor
  · rintro (h | h | h)
    · exact .inr (.inl h)
    · exact .inl h
    · exact .inr (.inr h)
  · rintro (h | h | h)
    · exact .inr (.inl h)
    · exact .inl h
    · exact .inr (.inr h)
theorem found_f {l : List TC} (h : Srt l) {c : TC} : foundTC l c = false ↔ ∀ x ∈ l, ¬ (x.slot = c.slot ∧ x.kind = c.kind) := by
  rw [← taken_found h, takenB, List.any_eq_false]
  simp
theorem addM_ok {t : Tb} {c : TC} (h : (addM t c).2 = 0) : checkT t = 0 ∧ formE c t.node t.len = 0 ∧ foundTC t.cells c = false ∧ t.cells.length ≠ 512 ∧ addM t c = (⟨t.node, t.len, insS t.cells c⟩, 0) := by
  unfold addM at h ⊢
  split at h
  · cases h
  · split at h
    · rename_i h2; exact absurd h h2
    · split at h
      · cases h
      · split at h
        · cases h
        · rename_i h1 h2 h3 h4
          rw [if_neg h1, if_neg h2, if_neg h3, if_neg h4]
          exact ⟨by omega, by omega, by simpa using h3, h4, rfl⟩
theorem addM_of {t : Tb} {c : TC} (h1 : checkT t = 0) (h2 : formE c t.node t.len = 0) (h3 : foundTC t.cells c = false) (h4 : t.cells.length ≠ 512) : addM t c = (⟨t.node, t.len, insS t.cells c⟩, 0) := by
  rw [addM, if_neg (by omega), if_neg (by omega), if_neg (by rw [h3]; simp), if_neg h4]
theorem add_check {t : Tb} {c : TC} (h : (addM t c).2 = 0) : checkT (addM t c).1 = 0 := by
  obtain ⟨h1, h2, h3, h4, e⟩ := addM_ok h
  rw [e]
  obtain ⟨a1, a2, a3, a4, a5, a6⟩ := checkT_iff.1 h1
  refine checkT_iff.2 ⟨a1, a2, a3, by dsimp only; rw [ins_len]; omega, fun x hx => ?_, ins_srt a6 h3⟩
  rcases mem_ins.1 hx with e | hx
  · subst e; exact h2
  · exact a5 x hx
end Go.Proofs


