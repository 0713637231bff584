/-
  What functions of the given program hand back, by walks over its code, and plain laws on that. No condition.
-/
import Derived.Test.YtiikkppedglpjaaSxP16u
namespace Go.Proofs
open Go Go.Sx

theorem checkT_iff {t : Tb} : checkT t = 0 ↔ nodeB t.node = true ∧ 1 ≤ t.len ∧ t.len ≤ 512 ∧ t.cells.length ≤ 512 ∧ (∀ x ∈ t.cells, formE x t.node t.len = 0) ∧ Srt t.cells := by
  constructor
  · intro h
    have h1 := checkT_len h
    refine ⟨h1.2.2.2, h1.2.1, h1.2.2.1, h1.1, fun x hx => ?_, checkT_srt h⟩
    obtain ⟨i, hi, rfl⟩ := mem_getD hx
    exact (checkT_ok h i hi).1
  · rintro ⟨h1, h2, h3, h4, h5, h6⟩
    rw [checkT, if_neg (by rw [h1]; simp; omega), if_neg (by omega), firstErr_none fun i hi => ?_]
    rw [tcErr, h5 _ (getD_mem hi), if_neg (by simp), if_neg]
    rintro ⟨h0, hc⟩
    rw [less_cmp] at hc
    have := h6 (i - 1) i (by omega) hi
    rw [hc] at this; cases this
theorem srt_ext {l m : List TC} (hl : Srt l) (hm : Srt m) (h : ∀ x, x ∈ l ↔ x ∈ m) : l = m := by
  induction l generalizing m with
  | nil =>
    cases m with
    | nil => rfl
    | cons y m => exact absurd ((h y).2 (by simp)) (by simp)
  | cons x l ih =>
    cases m with
    | nil => exact absurd ((h x).1 (by simp)) (by simp)
    | cons y m =>
      have tl : ∀ {z : TC} {k : List TC}, Srt (z :: k) → Srt k := fun hs i j hij hj => by
        have := hs (i + 1) (j + 1) (by omega) (by simpa using hj)
        simpa using this
      have hd : ∀ {z w : TC} {k : List TC}, Srt (z :: k) → w ∈ k → lessB z w = true := fun hs hw => by
        obtain ⟨i, hi, rfl⟩ := mem_getD hw
        have := hs 0 (i + 1) (by omega) (by simpa using hi)
        simpa using this
      have irr : ∀ z : TC, ¬ lessB z z = true := fun z hz => by rw [lessB_iff] at hz; omega
      have hxy : x = y := by
        rcases List.mem_cons.1 ((h x).1 (by simp)) with e | hx
        · exact e
        · rcases List.mem_cons.1 ((h y).2 (by simp)) with e | hy
          · exact e.symm
          · exact absurd (lessB_trans (hd hm hx) (hd hl hy)) (irr y)
      subst hxy
      congr 1
      refine ih (tl hl) (tl hm) fun z => ⟨fun hz => ?_, fun hz => ?_⟩
      · rcases List.mem_cons.1 ((h z).1 (by simp [hz])) with e | h2
        · subst e; exact absurd (hd hl hz) (irr z)
        · exact h2
      · rcases List.mem_cons.1 ((h z).2 (by simp [hz])) with e | h2
        · subst e; exact absurd (hd hm hz) (irr z)
        · exact h2
abbrev insS (l : List TC) (c : TC) : List TC := insAt l (bsTC l c) c
theorem mem_ins {l : List TC} {c x : TC} : x ∈ insS l c ↔ x = c ∨ x ∈ l := by
  conv => rhs; rw [← List.take_append_drop (bsTC l c) l]
  simp only [insS, insAt, List.mem_append, List.mem_cons]
  constructor
  · rintro (h | h | h)
    · exact .inr (.inl h)
    · exact .inl h
    · exact .inr (.inr h)
  · rintro (h | h | h)
    · exact .inr (.inl h)
    · exact .inl h
    · exact .inr (.inr h)
theorem found_f {l : List TC} (h : Srt l) {c : TC} : foundTC l c = false ↔ ∀ x ∈ l, ¬ (x.slot = c.slot ∧ x.kind = c.kind) := by
  rw [← taken_found h, takenB, List.any_eq_false]
  simp
theorem addM_ok {t : Tb} {c : TC} (h : (addM t c).2 = 0) : checkT t = 0 ∧ formE c t.node t.len = 0 ∧ foundTC t.cells c = false ∧ t.cells.length ≠ 512 ∧ addM t c = (⟨t.node, t.len, insS t.cells c⟩, 0) := by
  unfold addM at h ⊢
  split at h
  · cases h
  · split at h
    · rename_i h2; exact absurd h h2
    · split at h
      · cases h
      · split at h
        · cases h
        · rename_i h1 h2 h3 h4
          rw [if_neg h1, if_neg h2, if_neg h3, if_neg h4]
          exact ⟨by omega, by omega, by simpa using h3, h4, rfl⟩
theorem addM_of {t : Tb} {c : TC} (h1 : checkT t = 0) (h2 : formE c t.node t.len = 0) (h3 : foundTC t.cells c = false) (h4 : t.cells.length ≠ 512) : addM t c = (⟨t.node, t.len, insS t.cells c⟩, 0) := by
  rw [addM, if_neg (by omega), if_neg (by omega), if_neg (by rw [h3]; simp), if_neg h4]
theorem add_check {t : Tb} {c : TC} (h : (addM t c).2 = 0) : checkT (addM t c).1 = 0 := by
  obtain ⟨h1, h2, h3, h4, e⟩ := addM_ok h
  rw [e]
  obtain ⟨a1, a2, a3, a4, a5, a6⟩ := checkT_iff.1 h1
  refine checkT_iff.2 ⟨a1, a2, a3, by dsimp only; rw [ins_len]; omega, fun x hx => ?_, ins_srt a6 h3⟩
  rcases mem_ins.1 hx with e | hx
  · subst e; exact h2
  · exact a5 x hx
theorem fst_mem {l : List TC} {c : TC} (h : c ∈ l) : ∃ i, fstO l (fun y => decide (c = y)) = some i := by
  cases hf : fstO l (fun y => decide (c = y)) with
  | some i => exact ⟨i, rfl⟩
  | none => exact absurd rfl (of_decide_eq_false (fstO_notmem hf c h))
theorem erase_getD {l : List TC} (i a : Nat) : (l.eraseIdx i).getD a default = if a < i then l.getD a default else l.getD (a + 1) default := by
  rw [List.getD_eq_getElem?_getD, List.getElem?_eraseIdx]
  split <;> rw [List.getD_eq_getElem?_getD]
theorem erase_srt {l : List TC} (h : Srt l) (i : Nat) : Srt (l.eraseIdx i) := by
  intro a b hab hb
  rcases Nat.lt_or_ge i l.length with hi | hi
  · rw [List.length_eraseIdx_of_lt hi] at hb
    rw [erase_getD i a, erase_getD i b]
    by_cases h1 : a < i
    · rw [if_pos h1]
      by_cases h2 : b < i
      · rw [if_pos h2]; exact h a b hab (by omega)
      · rw [if_neg h2]; exact h a (b + 1) (by omega) (by omega)
    · rw [if_neg h1, if_neg (show ¬ b < i by omega)]; exact h (a + 1) (b + 1) (by omega) (by omega)
  · rw [List.eraseIdx_of_length_le hi] at hb ⊢
    exact h a b hab hb
theorem mem_erase {l : List TC} (h : Srt l) {c : TC} {i : Nat} (hf : fstO l (fun y => decide (c = y)) = some i) {x : TC} : x ∈ l.eraseIdx i ↔ x ∈ l ∧ x ≠ c := by
  rw [← filter_erase h hf, List.mem_filter, decide_eq_true_eq]
/-- Adding, and removing again. -/
theorem add_remove {t : Tb} {c : TC} (h : (addM t c).2 = 0) : removeM (addM t c).1 c = (t, 0) := by
  have hk := add_check h
  obtain ⟨h1, h2, h3, h4, e⟩ := addM_ok h
  rw [e] at hk ⊢
  have hs := checkT_srt h1
  have hs2 := ins_srt hs h3
  obtain ⟨i, hi⟩ := fst_mem (l := insS t.cells c) (c := c) (mem_ins.2 (.inl rfl))
  rw [removeM_some (t := ⟨t.node, t.len, insS t.cells c⟩) hk hi]
  have : (insS t.cells c).eraseIdx i = t.cells := srt_ext (erase_srt hs2 i) hs fun x => by
    rw [mem_erase hs2 hi, mem_ins]
    constructor
    · rintro ⟨h | h, hne⟩
      · exact absurd h hne
      · exact h
    · intro hx
      exact ⟨.inr hx, fun e => (found_f hs).1 h3 x hx (by rw [e]; exact ⟨rfl, rfl⟩)⟩
  dsimp only
  rw [this]
/-- Two cells in either order. -/
theorem add_swap {t : Tb} {c d : TC} (h : (addM t c).2 = 0) (k : (addM (addM t c).1 d).2 = 0) (h40 : t.cells.length ≤ 40) : (addM t d).2 = 0 ∧ (addM (addM t d).1 c).2 = 0 ∧ (addM (addM t c).1 d).1 = (addM (addM t d).1 c).1 := by
  obtain ⟨h1, h2, h3, h4, e⟩ := addM_ok h
  obtain ⟨k1, k2, k3, k4, e2⟩ := addM_ok k
  rw [e] at k1 k2 k3 k4 e2
  dsimp only at k1 k2 k3 k4 e2
  have hs := checkT_srt h1
  have hs2 := ins_srt hs h3
  have hfd : foundTC t.cells d = false := (found_f hs).2 fun x hx => (found_f hs2).1 k3 x (mem_ins.2 (.inr hx))
  have hcd : ¬ (c.slot = d.slot ∧ c.kind = d.kind) := (found_f hs2).1 k3 c (mem_ins.2 (.inl rfl))
  have e3 := addM_of h1 k2 hfd h4
  have hs3 := ins_srt hs hfd
  have hfc : foundTC (insS t.cells d) c = false := (found_f hs3).2 fun x hx => by
    rcases mem_ins.1 hx with e | hx
    · subst e; exact fun hh => hcd ⟨hh.1.symm, hh.2.symm⟩
    · exact (found_f hs).1 h3 x hx
  have hkd : (addM t d).2 = 0 := by rw [e3]
  have hck := add_check hkd
  rw [e3] at hck
  have e4 := addM_of (t := ⟨t.node, t.len, insS t.cells d⟩) hck h2 hfc (by dsimp only; rw [ins_len]; omega)
  refine ⟨hkd, by rw [e3, e4], ?_⟩
  rw [e, e2, e3, e4]
  dsimp only
  congr 1
  refine srt_ext (ins_srt hs2 k3) (ins_srt hs3 hfc) fun x => ?_
  rw [mem_ins, mem_ins, mem_ins, mem_ins]
  constructor
  · rintro (h | h | h)
    · exact .inr (.inl h)
    · exact .inl h
    · exact .inr (.inr h)
  · rintro (h | h | h)
    · exact .inr (.inl h)
    · exact .inl h
    · exact .inr (.inr h)
/-- Removing, and adding again. -/
theorem remove_add {t : Tb} {c : TC} (h : checkT t = 0) (hc : c ∈ t.cells) : (removeM t c).2 = 0 ∧ addM (removeM t c).1 c = (t, 0) := by
  obtain ⟨a1, a2, a3, a4, a5, a6⟩ := checkT_iff.1 h
  obtain ⟨i, hi⟩ := fst_mem hc
  obtain ⟨hil, _, _⟩ := fstO_some hi
  rw [removeM_some h hi]
  refine ⟨rfl, ?_⟩
  have hs := erase_srt a6 i
  have hlen := List.length_eraseIdx_of_lt hil
  have hf : foundTC (t.cells.eraseIdx i) c = false := (found_f hs).2 fun x hx hh => by
    obtain ⟨hx1, hx2⟩ := (mem_erase a6 hi).1 hx
    obtain ⟨p, hp, rfl⟩ := mem_getD hx1
    obtain ⟨q, hq, rfl⟩ := mem_getD hc
    rcases Nat.lt_trichotomy p q with h1 | h1 | h1
    · have := lessB_iff.1 (a6 p q h1 hq); omega
    · exact hx2 (by rw [h1])
    · have := lessB_iff.1 (a6 q p h1 hp); omega
  rw [addM_of (t := ⟨t.node, t.len, t.cells.eraseIdx i⟩) (checkT_iff.2 ⟨a1, a2, a3, by dsimp only; omega, fun x hx => a5 x ((mem_erase a6 hi).1 hx).1, hs⟩) (a5 c hc) hf (by dsimp only; omega)]
  have : insS (t.cells.eraseIdx i) c = t.cells := srt_ext (ins_srt hs hf) a6 fun x => by
    rw [mem_ins, mem_erase a6 hi]
    constructor
    · rintro (h | h)
      · subst h; exact hc
      · exact h.1
    · intro hx
      by_cases hxc : x = c
      · exact .inl hxc
      · exact .inr ⟨hx, hxc⟩
  dsimp only
  rw [this]
end Go.Proofs

