/-
  What functions of the given program hand back, by walks over its code, and plain laws on that. No condition.
-/
import Derived.Test.YtplonmkbgocmlaaSxP24n
-- SXS
-- SXB
-- SXM
namespace Go.Proofs
open Go Go.Sx
set_option linter.unusedSimpArgs false
set_option linter.unusedVariables false
/-! Taking in reports, in any order. -/
theorem getD_setR {l : List RP} {i j : Nat} {x : RP} : (l.set i x).getD j default = if i = j ∧ j < l.length then x else l.getD j default := by
  rw [List.getD_eq_getElem?_getD, List.getElem?_set]
  by_cases h : i = j
  · subst h
    by_cases h2 : i < l.length
    · simp [h2]
    · simp [h2, List.getD]
  · simp [h]
theorem insAt_len {l : List RP} {i : Nat} {x : RP} (h : i ≤ l.length) : (insAt l i x).length = l.length + 1 := by
  simp only [insAt, List.length_append, List.length_cons, List.length_take, List.length_drop]; omega
theorem insAt_get {l : List RP} {i j : Nat} {x : RP} (h : i ≤ l.length) : (insAt l i x).getD j default = if j < i then l.getD j default else if j = i then x else l.getD (j - 1) default := by
  have hl : (l.take i).length = i := by rw [List.length_take]; omega
  rw [insAt, List.getD_eq_getElem?_getD]
  split
  · rename_i h1
    rw [List.getElem?_append_left (by omega), List.getElem?_take, if_pos h1, ← List.getD_eq_getElem?_getD]
  · rename_i h1
    rw [List.getElem?_append_right (by omega), hl]
    split
    · rename_i h2
      subst h2
      simp
    · rename_i h2
      obtain ⟨m, rfl⟩ : ∃ m, j = i + 1 + m := ⟨j - i - 1, by omega⟩
      rw [show i + 1 + m - i = m + 1 by omega, List.getElem?_cons_succ, List.getElem?_drop, show i + 1 + m - 1 = i + m by omega, ← List.getD_eq_getElem?_getD]
theorem mem_insAt {l : List RP} {i : Nat} {x y : RP} (h : i ≤ l.length) : y ∈ insAt l i x ↔ y = x ∨ y ∈ l := by
  rw [insAt, List.mem_append, List.mem_cons]
  have : y ∈ l ↔ y ∈ l.take i ∨ y ∈ l.drop i := by rw [← List.mem_append, List.take_append_drop]
  rw [this]
  constructor
  · rintro (h | h | h)
    · exact .inr (.inl h)
    · exact .inl h
    · exact .inr (.inr h)
  · rintro (h | h | h)
    · exact .inr (.inl h)
    · exact .inl h
    · exact .inr (.inr h)
theorem OkR.set {l : List RP} {r : RP} {i : Nat} (h : OkR l) (hi : i < l.length) (hn : (l.getD i default).node = r.node) (hf : formR r = 0) : OkR (l.set i r) := by
  have hnode : ∀ j, j < l.length → ((l.set i r).getD j default).node = (l.getD j default).node := by
    intro j hj
    rw [getD_setR]
    split
    · rename_i h1; rw [← h1.1, hn]
    · rfl
  refine ⟨fun j hj => ?_, fun j hj => ?_⟩
  · rw [List.length_set] at hj
    rw [getD_setR]
    split
    · exact hf
    · exact h.form j hj
  · rw [List.length_set] at hj
    rw [hnode j (by omega), hnode (j + 1) hj]
    exact h.up j hj
theorem OkR.ins {l : List RP} {r : RP} (h : OkR l) (hf : formR r = 0) (hn : foundRp l r.node = false) : OkR (insAt l (bsRp l r.node) r) := by
  obtain ⟨h1, h2, h3⟩ := h.bs r.node
  have h4 : ∀ a, bsRp l r.node ≤ a → a < l.length → r.node < (l.getD a default).node := by
    intro a ha hl
    have h5 := h3 a ha hl
    have h6 : (l.getD (bsRp l r.node) default).node ≠ r.node := fun e => by
      have := found_iff.2 ⟨by omega, e⟩
      rw [hn] at this; cases this
    rcases Nat.lt_or_ge (bsRp l r.node) a with h7 | h7
    · have := h.lt a _ h7 hl
      have := h3 _ (Nat.le_refl _) (by omega)
      omega
    · have : a = bsRp l r.node := by omega
      subst this; omega
  refine ⟨fun j hj => ?_, fun j hj => ?_⟩
  · rw [insAt_len h1] at hj
    rw [insAt_get h1]
    split
    · exact h.form j (by omega)
    · split
      · exact hf
      · exact h.form _ (by omega)
  · rw [insAt_len h1] at hj
    rw [insAt_get h1, insAt_get h1]
    rcases Nat.lt_trichotomy (j + 1) (bsRp l r.node) with h5 | h5 | h5
    · rw [if_pos (by omega), if_pos h5]; exact h.up j (by omega)
    · rw [if_pos (by omega), if_neg (by omega), if_pos h5]
      exact h2 j (by omega)
    · rcases Nat.lt_or_ge (bsRp l r.node) j with h6 | h6
      · rw [if_neg (by omega), if_neg (by omega), if_neg (by omega), if_neg (by omega)]
        have := h.up (j - 1) (by omega)
        rwa [show j - 1 + 1 = j + 1 - 1 by omega] at this
      · have : j = bsRp l r.node := by omega
        rw [if_neg (by omega), if_pos this, if_neg (by omega), if_neg (by omega), show j + 1 - 1 = j by omega]
        exact h4 j (by omega) (by omega)
structure InvT (P out : List RP) : Prop where
  ok : OkR out
  sub : ∀ e ∈ out, e ∈ P
  top : ∀ r ∈ P, formR r = 0 → ∃ e ∈ out, e.node = r.node ∧ r.number ≤ e.number
theorem formR_cases (r : RP) : formR r = 0 ∨ formR r = 1 ∨ formR r = 2 := by
  unfold formR
  split
  · exact .inr (.inr rfl)
  · split
    · exact .inr (.inl rfl)
    · exact .inl rfl
theorem InvT.step {P out : List RP} (h : InvT P out) (r : RP) : ((putM out r).2.2 = 0 ∧ InvT (P ++ [r]) (putM out r).1) ∨ (((putM out r).2.2 = 2 ∨ (putM out r).2.2 = 1) ∧ InvT (P ++ [r]) out) := by
  have hc := okR_check h.ok
  by_cases hf : formR r = 0
  · left
    obtain ⟨hb1, hb2, hb3⟩ := h.ok.bs r.node
    cases hfo : foundRp out r.node with
    | true =>
      obtain ⟨h4, h5⟩ := found_iff.1 hfo
      have hme := getD_mem h4
      by_cases hle : r.number ≤ (out.getD (bsRp out r.node) default).number
      · have e : putM out r = (out, false, 0) := by rw [putM, if_neg (by simp [hc]), if_neg (by simp [hf]), if_pos hfo, if_pos hle]
        rw [e]
        refine ⟨rfl, h.ok, fun e he => List.mem_append_left _ (h.sub e he), fun x hx hfx => ?_⟩
        rcases List.mem_append.1 hx with hx | hx
        · exact h.top x hx hfx
        · rw [List.mem_singleton] at hx; subst hx
          exact ⟨_, hme, h5, hle⟩
      · have e : putM out r = (out.set (bsRp out r.node) r, true, 0) := by rw [putM, if_neg (by simp [hc]), if_neg (by simp [hf]), if_pos hfo, if_neg hle]
        rw [e]
        have hmem : r ∈ out.set (bsRp out r.node) r := List.mem_iff_getElem.2 ⟨bsRp out r.node, by simpa using h4, by simp⟩
        refine ⟨rfl, h.ok.set h4 h5 hf, fun e he => ?_, fun x hx hfx => ?_⟩
        · rcases List.mem_or_eq_of_mem_set he with he | he
          · exact List.mem_append_left _ (h.sub e he)
          · subst he; simp
        · rcases List.mem_append.1 hx with hx | hx
          · obtain ⟨e, he, h6, h7⟩ := h.top x hx hfx
            by_cases hen : e.node = r.node
            · refine ⟨r, hmem, by rw [← h6, hen], ?_⟩
              obtain ⟨i, hi, rfl⟩ := mem_getD he
              have : i = bsRp out r.node := by
                rcases Nat.lt_trichotomy i (bsRp out r.node) with h8 | h8 | h8
                · have := hb2 i h8; omega
                · exact h8
                · have := h.ok.lt i _ h8 hi; omega
              subst this
              omega
            · obtain ⟨i, hi, rfl⟩ := mem_getD he
              refine ⟨out.getD i default, ?_, h6, h7⟩
              have hne : bsRp out r.node ≠ i := fun e => hen (by rw [← e]; exact h5)
              have := getD_mem (l := out.set (bsRp out r.node) r) (i := i) (by rw [List.length_set]; exact hi)
              rwa [getD_setR, if_neg (fun h => hne h.1)] at this
          · rw [List.mem_singleton] at hx; subst hx
            exact ⟨_, hmem, rfl, Int.le_refl _⟩
    | false =>
      have e : putM out r = (insAt out (bsRp out r.node) r, true, 0) := by rw [putM, if_neg (by simp [hc]), if_neg (by simp [hf]), if_neg (by rw [hfo]; simp)]
      rw [e]
      refine ⟨rfl, h.ok.ins hf hfo, fun e he => ?_, fun x hx hfx => ?_⟩
      · rcases (mem_insAt hb1).1 he with he | he
        · subst he; simp
        · exact List.mem_append_left _ (h.sub e he)
      · rcases List.mem_append.1 hx with hx | hx
        · obtain ⟨e, he, h6, h7⟩ := h.top x hx hfx
          exact ⟨e, (mem_insAt hb1).2 (.inr he), h6, h7⟩
        · rw [List.mem_singleton] at hx; subst hx
          exact ⟨_, (mem_insAt hb1).2 (.inl rfl), rfl, Int.le_refl _⟩
  · right
    have e : putM out r = ([], false, formR r) := by rw [putM, if_neg (by simp [hc]), if_pos hf]
    rw [e]
    refine ⟨?_, h.ok, fun e he => List.mem_append_left _ (h.sub e he), fun x hx hfx => ?_⟩
    · have := formR_cases r
      dsimp only
      omega
    · rcases List.mem_append.1 hx with hx | hx
      · exact h.top x hx hfx
      · rw [List.mem_singleton] at hx; subst hx
        exact absurd hfx hf
theorem takeM_inv : ∀ (l P out : List RP), InvT P out → ∃ o, takeM out l = (o, true) ∧ InvT (P ++ l) o
  | [], P, out, h => ⟨out, rfl, by rw [List.append_nil]; exact h⟩
  | r :: l, P, out, h => by
    have e : P ++ r :: l = (P ++ [r]) ++ l := by simp
    rw [takeM, e]
    rcases h.step r with ⟨h1, h2⟩ | ⟨h1, h2⟩
    · rw [if_pos h1]
      exact takeM_inv l _ _ h2
    · rw [if_neg (by omega), if_neg (by omega)]
      exact takeM_inv l _ _ h2
theorem okR_tail {a : RP} {l : List RP} (h : OkR (a :: l)) : OkR l :=
  ⟨fun i hi => by have := h.form (i + 1) (by simpa using hi); simpa using this, fun i hi => by have := h.up (i + 1) (by simpa using hi); simpa using this⟩
theorem okR_head {a x : RP} {l : List RP} (h : OkR (a :: l)) (hx : x ∈ l) : a.node < x.node := by
  obtain ⟨i, hi, rfl⟩ := mem_getD hx
  have := h.lt (i + 1) 0 (by omega) (by simpa using hi)
  simpa using this
theorem okR_ext {l m : List RP} (hl : OkR l) (hm : OkR m) (h : ∀ x, x ∈ l ↔ x ∈ m) : l = m := by
  induction l generalizing m with
  | nil =>
    cases m with
    | nil => rfl
    | cons y m => exact absurd ((h y).2 (by simp)) (by simp)
  | cons x l ih =>
    cases m with
    | nil => exact absurd ((h x).1 (by simp)) (by simp)
    | cons y m =>
      have hxy : x = y := by
        rcases List.mem_cons.1 ((h x).1 (by simp)) with e | hx
        · exact e
        · rcases List.mem_cons.1 ((h y).2 (by simp)) with e | hy
          · exact e.symm
          · have := okR_head hm hx
            have := okR_head hl hy
            omega
      subst hxy
      congr 1
      refine ih (okR_tail hl) (okR_tail hm) fun z => ⟨fun hz => ?_, fun hz => ?_⟩
      · rcases List.mem_cons.1 ((h z).1 (by simp [hz])) with e | h2
        · subst e; have := okR_head hl hz; omega
        · exact h2
      · rcases List.mem_cons.1 ((h z).2 (by simp [hz])) with e | h2
        · subst e; have := okR_head hm hz; omega
        · exact h2
theorem okR_uniq {l : List RP} (h : OkR l) {a b : RP} (ha : a ∈ l) (hb : b ∈ l) (e : a.node = b.node) : a = b := by
  obtain ⟨i, hi, rfl⟩ := mem_getD ha
  obtain ⟨j, hj, rfl⟩ := mem_getD hb
  rcases Nat.lt_trichotomy i j with h1 | h1 | h1
  · have := h.lt j i h1 hj; omega
  · rw [h1]
  · have := h.lt i j h1 hi; omega
theorem okR_form {l : List RP} (h : OkR l) {a : RP} (ha : a ∈ l) : formR a = 0 := by
  obtain ⟨i, hi, rfl⟩ := mem_getD ha
  exact h.form i hi
theorem InvT.sub_of {P1 P2 o1 o2 : List RP} (h1 : InvT P1 o1) (h2 : InvT P2 o2) (hm : ∀ x, x ∈ P1 ↔ x ∈ P2) (hu : ∀ x ∈ P1, ∀ y ∈ P1, x.node = y.node → x.number = y.number → x = y) : ∀ e ∈ o1, e ∈ o2 := by
  intro e he
  have hp := h1.sub e he
  have hf := okR_form h1.ok he
  obtain ⟨e2, he2, h3, h4⟩ := h2.top e ((hm e).1 hp) hf
  have hp2 := (hm e2).2 (h2.sub e2 he2)
  obtain ⟨e3, he3, h5, h6⟩ := h1.top e2 hp2 (okR_form h2.ok he2)
  have e33 := okR_uniq h1.ok he3 he (by omega)
  subst e33
  have := hu e2 hp2 e3 hp h3 (by omega)
  subst this
  exact he2
theorem InvT.eq {P1 P2 o1 o2 : List RP} (h1 : InvT P1 o1) (h2 : InvT P2 o2) (hm : ∀ x, x ∈ P1 ↔ x ∈ P2) (hu : ∀ x ∈ P1, ∀ y ∈ P1, x.node = y.node → x.number = y.number → x = y) : o1 = o2 :=
  okR_ext h1.ok h2.ok fun x => ⟨h1.sub_of h2 hm hu x, h2.sub_of h1 (fun x => (hm x).symm) (fun x hx y hy => hu x ((hm x).2 hx) y ((hm y).2 hy)) x⟩
theorem invT_nil : InvT [] [] := ⟨⟨fun i hi => absurd hi (Nat.not_lt_zero _), fun i hi => absurd hi (Nat.not_lt_zero _)⟩, fun e he => (by cases he), fun r hr => (by cases hr)⟩
theorem any_order {own other : List RP} (hm : ∀ x, x ∈ own ↔ x ∈ other) (hu : ∀ x ∈ own, ∀ y ∈ own, x.node = y.node → x.number = y.number → x = y) :
    (takeM [] own).2 = true ∧ (takeM [] other).2 = true ∧ (takeM [] own).1 = (takeM [] other).1 ∧ checkR (takeM [] own).1 = 0 := by
  obtain ⟨o1, e1, h1⟩ := takeM_inv own [] [] invT_nil
  obtain ⟨o2, e2, h2⟩ := takeM_inv other [] [] invT_nil
  rw [e1, e2]
  rw [List.nil_append] at h1 h2
  exact ⟨rfl, rfl, h1.eq h2 hm hu, okR_check h1.ok⟩
end Go.Proofs
