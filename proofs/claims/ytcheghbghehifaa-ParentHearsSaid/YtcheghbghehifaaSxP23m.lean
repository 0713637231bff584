/-
  What functions of the given program hand back, by walks over its code, and plain laws on that. No condition.
-/
import Derived.Test.YtcheghbghehifaaSxP23l
namespace Go.Proofs
open Go Go.Sx

/-! ## The plain law: what the program reckons is what the reference reckons -/

theorem nb_lt {l : List Nb} (h : checkNb l = 0) {i : Nat} (h0 : 0 < i) (hi : i < l.length) : (l.getD (i - 1) default).node < (l.getD i default).node := by
  have := (checkNb_ok h).2 i hi
  unfold nbErr at this
  simp only at this
  split at this
  · split at this
    · cases this
    · rename_i hn; omega
  · cases this
theorem nb_mono {l : List Nb} (h : checkNb l = 0) {i j : Nat} (hij : i < j) (hj : j < l.length) : (l.getD i default).node < (l.getD j default).node := by
  induction j with
  | zero => omega
  | succ j ih =>
    have h1 := nb_lt h (i := j + 1) (by omega) hj
    simp only [Nat.add_sub_cancel] at h1
    rcases Nat.lt_or_ge i j with hl | hg
    · have := ih hl (by omega); omega
    · have : i = j := by omega
      subst this; exact h1

theorem bs_below {f : Nat → Bool} {N : Nat} (hm : ∀ i j, i ≤ j → j < N → f j = true → f i = true) (i j : Nat) (hj : j ≤ N) (h1 : ∀ k, k < i → f k = true) (h2 : ∀ k, j ≤ k → k < N → f k = false) :
    (∀ k, k < bs f i j → f k = true) ∧ (∀ k, bs f i j ≤ k → k < N → f k = false) := by
  fun_induction bs f i j with
  | case1 i j hij hf ih => exact ih hj (fun k hk => hm k _ (by omega) (by omega) hf) h2
  | case2 i j hij hf ih =>
    refine ih (by omega) h1 (fun k hk hkN => ?_)
    cases hfk : f k with
    | false => rfl
    | true => exact absurd (hm _ k hk hkN hfk) (by simpa using hf)
  | case3 i j hij => exact ⟨fun k hk => h1 k hk, fun k hk => h2 k (by omega)⟩

theorem cmpI_lt {a b : Int} : cmpI a b < 0 ↔ a < b := by
  unfold cmpI; split
  · simp [*]
  · split
    · simp; omega
    · simp; omega
theorem cmpI_eq {a b : Int} : cmpI a b = 0 ↔ a = b := by
  unfold cmpI; split
  · simp; omega
  · split
    · simp; omega
    · simp; omega

theorem bsNb_ok {l : List Nb} (h : checkNb l = 0) (t : Int) : bsNb l t ≤ l.length ∧ (∀ k, k < bsNb l t → (l.getD k default).node < t) ∧ (∀ k, bsNb l t ≤ k → k < l.length → t ≤ (l.getD k default).node) := by
  have := bs_below (f := fun i => decide (nbCmp t (l.getD i default) < 0)) (N := l.length) (by
    intro i j hij hj hf
    simp only [nbCmp, decide_eq_true_eq, cmpI_lt] at hf ⊢
    rcases Nat.lt_or_ge i j with hl | hg
    · have := nb_mono h hl hj; omega
    · have : i = j := by omega
      subst this; exact hf) 0 l.length (Nat.le_refl _) (fun k hk => absurd hk (Nat.not_lt_zero _)) (fun k hk hk2 => by omega)
  refine ⟨bs_le _ _ _ (Nat.zero_le _), fun k hk => ?_, fun k hk hk2 => ?_⟩
  · have := this.1 k hk
    simpa [nbCmp, cmpI_lt] using this
  · have := this.2 k hk hk2
    simpa [nbCmp, cmpI_lt] using this

theorem found_iff {l : List Nb} {t : Int} : foundNb l t = true ↔ bsNb l t < l.length ∧ (l.getD (bsNb l t) default).node = t := by
  rw [found_t, nbCmp, cmpI_eq]

theorem idx_found {l : List Nb} (h : checkNb l = 0) (t : Int) : idxO l t = if foundNb l t = true then some (bsNb l t) else none := by
  obtain ⟨h1, h2, h3⟩ := bsNb_ok h t
  split
  · rename_i hf
    rw [found_iff] at hf
    exact find_hit (fun i hi => decide_eq_false (by have := h2 i hi; omega)) hf.1 (decide_eq_true hf.2)
  · rename_i hf
    refine find_none fun i hi => ?_
    rw [found_iff] at hf
    simp only [decide_eq_false_iff_not]
    intro he
    rcases Nat.lt_or_ge i (bsNb l t) with hl | hg
    · have := h2 i hl; omega
    · have hb := h3 i hg hi
      rcases Nat.lt_or_ge (bsNb l t) i with hl' | hg'
      · have := h3 (bsNb l t) (Nat.le_refl _) (by omega)
        have := nb_mono h hl' hi
        omega
      · have : i = bsNb l t := by omega
        subst this
        exact hf ⟨hi, he⟩

theorem okLk_eq (l : List Nb) (r : Rk) (k : Nat) : okLk r (mkLk l k) = okNb r (l.getD k default) := rfl

theorem minTo_app (ls : List Lk) (x : Lk) : ∀ j, j < ls.length → minTo (ls ++ [x]) j = minTo ls j
  | 0, h => by
    simp only [minTo, List.getD_eq_getElem?_getD]
    rw [List.getElem?_append_left h]
  | j + 1, h => by
    have e : (ls ++ [x]).getD (j + 1) default = ls.getD (j + 1) default := by
      simp only [List.getD_eq_getElem?_getD]
      rw [List.getElem?_append_left h]
    simp only [minTo, minTo_app ls x j (by omega), e]

theorem better_beats {l : List Nb} (h : checkNb l = 0) {b k : Nat} (hb : b < k) (hk : k < l.length) : betterI (mkLk l k) (mkLk l b) < 0 ↔ beats (l.getD k default) (l.getD b default) = true := by
  have hn := nb_mono h hb hk
  have e1 : (mkLk l k).path = pathC (l.getD k default) := rfl
  have e2 : (mkLk l b).path = pathC (l.getD b default) := rfl
  have e3 : (mkLk l k).n = l.getD k default := rfl
  have e4 : (mkLk l b).n = l.getD b default := rfl
  simp only [betterI, beats, e1, e2, e3, e4, orI, Bool.or_eq_true, Bool.and_eq_true, decide_eq_true_eq]
  generalize pathC (l.getD k default) = p at *
  generalize pathC (l.getD b default) = q at *
  generalize (l.getD k default).epoch = ek at *
  generalize (l.getD b default).epoch = eb at *
  generalize (l.getD k default).node = nk at *
  generalize (l.getD b default).node = nb at *
  clear e1 e2 e3 e4
  have h1 := @cmpI_lt eb ek
  have h2 := @cmpI_eq eb ek
  have h3 := @cmpI_lt p q
  have h4 := @cmpI_eq p q
  have h5 := @cmpI_lt nk nb
  repeat' split
  all_goals omega

theorem best_ref {l : List Nb} (h : checkNb l = 0) (r : Rk) : ∀ k, k ≤ l.length → match refB l r k with
    | none => links l r k = []
    | some b => links l r k ≠ [] ∧ minTo (links l r k) ((links l r k).length - 1) = mkLk l b
  | 0, _ => rfl
  | k + 1, hk => by
    have ih := best_ref h r k (by omega)
    unfold refB links
    rw [okLk_eq]
    by_cases ho : okNb r (l.getD k default) = true
    · simp only [if_pos ho]
      cases hr : refB l r k with
      | none =>
        rw [hr] at ih
        simp only at ih ⊢
        rw [ih]
        exact ⟨by simp, rfl⟩
      | some b =>
        rw [hr] at ih
        simp only at ih ⊢
        obtain ⟨hne, hmin⟩ := ih
        have hlen : 0 < (links l r k).length := List.length_pos_iff.2 hne
        have hb := refB_lt hr
        have e : (links l r k ++ [mkLk l k]).length - 1 = (links l r k).length - 1 + 1 := by simp; omega
        have e2 : (links l r k ++ [mkLk l k]).getD ((links l r k).length - 1 + 1) default = mkLk l k := by
          rw [Nat.sub_add_cancel hlen]
          simp [List.getD_eq_getElem?_getD]
        have key : minTo (links l r k ++ [mkLk l k]) ((links l r k ++ [mkLk l k]).length - 1) = if beats (l.getD k default) (l.getD b default) = true then mkLk l k else mkLk l b := by
          rw [e, minTo, e2, minTo_app _ _ _ (by omega), hmin]
          by_cases hc : betterI (mkLk l k) (mkLk l b) < 0
          · rw [if_pos hc, if_pos ((better_beats h hb (by omega)).1 hc)]
          · rw [if_neg hc, if_neg (fun q => hc ((better_beats h hb (by omega)).2 q))]
        rw [key]
        by_cases hbt : beats (l.getD k default) (l.getD b default) = true
        · simp only [if_pos hbt]; exact ⟨by simp, trivial⟩
        · simp only [if_neg hbt]; exact ⟨by simp, trivial⟩
    · simp only [if_neg ho]
      exact ih

theorem hasLk_ref {l : List Nb} (h : checkNb l = 0) (r : Rk) : hasLk l r = (refB l r l.length).isSome := by
  have := best_ref h r l.length (Nat.le_refl _)
  unfold hasLk
  cases hr : refB l r l.length with
  | none => rw [hr] at this; simp only at this; rw [this]; rfl
  | some b => rw [hr] at this; simp only at this; simp [this.1]
theorem bestLk_ref {l : List Nb} (h : checkNb l = 0) (r : Rk) {b : Nat} (hb : refB l r l.length = some b) : bestLk l r = mkLk l b := by
  have := best_ref h r l.length (Nat.le_refl _)
  rw [hb] at this
  exact this.2
theorem bestLk_none {l : List Nb} (h : checkNb l = 0) (r : Rk) (hb : refB l r l.length = none) : bestLk l r = default := by
  have := best_ref h r l.length (Nat.le_refl _)
  rw [hb] at this
  simp only at this
  rw [bestLk, this]
  rfl
theorem refB_ok {l : List Nb} {r : Rk} : ∀ {k b : Nat}, refB l r k = some b → okNb r (l.getD b default) = true
  | 0, b, h => by cases h
  | k + 1, b, h => by
    unfold refB at h
    split at h
    · rename_i ho
      split at h
      · injection h with h; subst h; exact ho
      · rename_i hb
        have := refB_ok hb
        split at h <;> (injection h with h; subst h; first | exact ho | exact this)
    · exact refB_ok h
theorem okNb_rk {r : Rk} {x : Nb} (h : okNb r x = true) : rkErr r = 0 := by
  simp only [okNb, feasB, Bool.and_eq_true, decide_eq_true_eq] at h
  exact h.1.2.1.1.1
theorem rk_neg {r : Rk} (h : rkErr r = 0) : r.parent < 0 ↔ r.parent = -1 := by
  by_cases hp : r.parent = -1
  · omega
  · have := (rk_parent h hp).2.1
    simp only [nodeB, inR_t] at this
    omega
theorem best_law (l : List Nb) (r : Rk) (hr : rkErr r = 0 ∨ checkNb l ≠ 0) : bestI l r = rbestI l r ∧ bestB l r = rbestB l r := by
  unfold bestI bestB rbestI rbestB
  by_cases h : checkNb l = 0
  · have hr' : rkErr r = 0 := hr.resolve_right (fun q => q h)
    simp only [h, hr', and_self, if_true, hasLk_ref h]
    refine ⟨?_, trivial⟩
    cases hb : refB l r l.length with
    | none => rw [bestLk_none h r hb]; rfl
    | some b => rw [bestLk_ref h r hb]; simp only [oI, mkLk]; omega
  · simp [h]
theorem refB_bad {l : List Nb} {r : Rk} (h : rkErr r ≠ 0) : ∀ k, refB l r k = none
  | 0 => rfl
  | k + 1 => by
    unfold refB
    rw [if_neg (by simp [okNb, feasB, h])]
    exact refB_bad h k
theorem best_law' (l : List Nb) (r : Rk) : bestI l r = rbestI l r ∧ bestB l r = rbestB l r := by
  by_cases hr : rkErr r = 0
  · exact best_law l r (.inl hr)
  · by_cases h : checkNb l = 0
    · unfold bestI bestB rbestI rbestB
      simp [h, hr, refB_bad hr, oI] <;> decide
    · exact best_law l r (.inr h)
end Go.Proofs

