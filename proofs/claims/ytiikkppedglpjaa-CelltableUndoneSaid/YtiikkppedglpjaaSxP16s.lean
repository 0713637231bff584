/-
  What functions of the given program hand back, by walks over its code, and plain laws on that. No condition.
-/
import Derived.Test.YtiikkppedglpjaaSxP16r
-- SXU
namespace Go.Proofs
open Go Go.Sx
set_option linter.unusedSimpArgs false
set_option linter.unusedVariables false
attribute [local irreducible] VR VC thenQ blockQ retL

theorem lawChecks_spec (t : Tb) : FnS Try.prog 3 [tbA t] [] (AB true) [] := by
  refine FnS.of_body (enters_of Try.func3 (by kernel_rfl) rfl) Try.func3 rfl Try.ntmps3 Try.results3 rfl rfl rfl rfl fun E hS => ?_
  repeat' (first
    | (show VR _ _ _ (_ :: _) _ _ _; first | refine x_opF rfl (by first | exact True.intro | omega) ?_ | (show VR _ _ _ (⟨_, .call ⟨.value _, _, _⟩, _, _, _, _⟩ :: _) _ _ _; first | refine vr_calldU (awake_spec) (gk rfl) rfl rfl rfl (by first | rfl | (simp only [wfRes, wfL, wfArgs, List.all_cons, List.all_nil, rowOf_blk]; rfl)) rfl (by first | exact newB_O | rfl) rfl ?_ | refine vr_calldU (fewT_spec t) (gk rfl) rfl rfl rfl (by first | rfl | (simp only [wfRes, wfL, wfArgs, List.all_cons, List.all_nil, rowOf_blk]; rfl)) rfl (by first | exact newB_O | rfl) rfl ?_ | refine vr_calldU (checkT_spec t) (gk rfl) rfl rfl rfl (by first | rfl | (simp only [wfRes, wfL, wfArgs, List.all_cons, List.all_nil, rowOf_blk]; rfl)) rfl (by first | exact newB_O | rfl) rfl ?_ | refine vr_calldU (r_checkT_spec t) (gk rfl) rfl rfl rfl (by first | rfl | (simp only [wfRes, wfL, wfArgs, List.all_cons, List.all_nil, rowOf_blk]; rfl)) rfl (by first | exact newB_O | rfl) rfl ?_) | (show VR _ _ _ (⟨_, .nilCheck _, _, _, _, _⟩ :: _) _ _ _; first | refine vr_nilCheck_rp (gk rfl) rfl rfl ?_ | refine vr_nilCheck_ptr (gk rfl) rfl rfl ?_ | refine vr_nilCheck_ep (gk rfl) rfl rfl ?_) | (show VR _ _ _ (⟨_, .pick _ _ _, _, _, _, _⟩ :: _) _ _ _; first | refine vr_pick_true (gk rfl) rfl (by assumption) rfl rfl ?_ | refine vr_pick_false (gk rfl) rfl (by assumption) rfl rfl ?_) | refine x_gknow rfl (by assumption) ?_ | (refine x_gsplit rfl ?_ ?_ <;> intro h <;> have hq := h <;> (try simp only [decide_eq_true_eq, decide_eq_false_iff_not, Int.not_lt, Int.not_le, ne_eq, Decidable.not_not, Bool.not_eq_true', Bool.not_eq_false'] at hq)))
    | (show VR _ _ _ [] _ _ _; first | refine vr_nil ?_ | refine vr_nil_t (by kernel_rfl) ?_)
    | (show thenQ _ _ _ _; first | refine q_then_n ?_ | refine q_then_x ?_ | refine q_then_r ?_)
    | (show blockQ _ _ _ _; first | refine q_blk_n ?_ | refine q_blk_r ?_ | refine q_blk_x ?_ | refine q_blk_o rfl ?_)
    | refine vc_seq ?_
    | refine vc_region ?_ | refine vc_region_t ?_
    | (show VC _ (.cond _ _ _) _ _; first | refine vc_cond_t rfl ?_ | refine vc_cond_f rfl ?_ | refine x_know rfl (by assumption) ?_ | (refine x_cond rfl ?_ ?_ <;> intro h <;> have hq := h <;> (try simp only [decide_eq_true_eq, decide_eq_false_iff_not, Int.not_lt, Int.not_le, ne_eq, Decidable.not_not, Bool.not_eq_true', Bool.not_eq_false'] at hq)))
    | refine vc_ret ?_ | refine vc_exit ?_ | refine vc_block ?_ | refine vc_skip ?_ | refine vc_label ?_)
  all_goals (refine ret_bool isRet_r rfl ?_; simp_all)

/-! ## The reference's order is the program's -/
theorem cmpTC_lt {a b : TC} : cmpTC a b < 0 ↔ lessB a b = true := by
  have := less_cmp a b
  cases h : lessB a b <;> simp [h] at this ⊢ <;> omega
theorem cmpTC_eq {a b : TC} : cmpTC a b = 0 ↔ a.slot = b.slot ∧ a.kind = b.kind := by
  unfold cmpTC orI orI orI cmpI
  by_cases h1 : a.slot < b.slot
  · simp [h1]; omega
  · by_cases h2 : b.slot < a.slot
    · simp [h1, h2]; omega
    · have e : a.slot = b.slot := by omega
      by_cases h3 : a.kind < b.kind
      · simp [e, h3]; omega
      · by_cases h4 : b.kind < a.kind
        · simp [e, h3, h4]; omega
        · simp [e, h3, h4]; omega
theorem bsTC_ok {l : List TC} (h : Srt l) (c : TC) : bsTC l c ≤ l.length ∧ (∀ a, a < bsTC l c → lessB (l.getD a default) c = true) ∧ ∀ a, bsTC l c ≤ a → a < l.length → lessB (l.getD a default) c = false := by
  have hb := bs_spec (f := fun i => decide (cmpTC (l.getD i default) c < 0)) (n := l.length) (fun a b hab hb hf => by
    simp only [decide_eq_true_eq, cmpTC_lt] at hf ⊢
    exact lessB_trans (h a b hab hb) hf)
  change bsTC l c ≤ _ ∧ (∀ a, a < bsTC l c → _) ∧ ∀ a, bsTC l c ≤ a → _ at hb
  simp only [decide_eq_true_eq, decide_eq_false_iff_not, cmpTC_lt, Bool.not_eq_true] at hb
  exact hb
theorem putL_bs {l : List TC} (h : Srt l) (c : TC) : putL l c = insAt l (bsTC l c) c := by
  obtain ⟨h1, h2, h3⟩ := bsTC_ok h c
  obtain ⟨e1, e2⟩ := takeWhile_at (p := fun x => lessB x c) h2 h1 (fun hl => h3 _ (Nat.le_refl _) hl)
  rw [putL, e1, e2]
theorem taken_found {l : List TC} (h : Srt l) (c : TC) : takenB l c.slot c.kind = foundTC l c := by
  obtain ⟨h1, h2, h3⟩ := bsTC_ok h c
  unfold takenB foundTC
  cases hf : (decide (bsTC l c < l.length) && decide (cmpTC (l.getD (bsTC l c) default) c = 0)) with
  | true =>
    simp only [Bool.and_eq_true, decide_eq_true_eq, cmpTC_eq] at hf
    exact any_hit hf.1 (decide_eq_true hf.2)
  | false =>
    refine any_none fun k hk => ?_
    rw [decide_eq_false_iff_not]
    rintro ⟨k1, k2⟩
    rcases Nat.lt_or_ge k (bsTC l c) with hlt | hge
    · have := lessB_iff.1 (h2 k hlt); omega
    · have h4 : ¬ lessB (l.getD (bsTC l c) default) c = true := by rw [h3 _ (Nat.le_refl _) (by omega)]; simp
      rw [lessB_iff] at h4
      have h5 : bsTC l c = k ∨ lessB (l.getD (bsTC l c) default) (l.getD k default) = true := by
        rcases Nat.lt_or_ge (bsTC l c) k with h6 | h6
        · exact .inr (h _ _ h6 hk)
        · exact .inl (by omega)
      have : bsTC l c < l.length ∧ cmpTC (l.getD (bsTC l c) default) c = 0 := by
        refine ⟨by omega, cmpTC_eq.2 ?_⟩
        rcases h5 with h5 | h5
        · rw [h5]; exact ⟨k1, k2⟩
        · rw [lessB_iff] at h5; omega
      rw [decide_eq_true this.1, decide_eq_true this.2] at hf; cases hf
theorem ins_getD {l : List TC} {i : Nat} (hi : i ≤ l.length) (c : TC) (j : Nat) : (insAt l i c).getD j default = if j < i then l.getD j default else if j = i then c else l.getD (j - 1) default := by
  unfold insAt
  simp only [List.getD_eq_getElem?_getD]
  split
  · rename_i h; rw [List.getElem?_append_left (by rw [List.length_take]; omega), List.getElem?_take, if_pos h]
  · rename_i h
    rw [List.getElem?_append_right (by rw [List.length_take]; omega), List.length_take, Nat.min_eq_left hi]
    split
    · rename_i h2; subst h2; simp
    · rename_i h2
      obtain ⟨m, rfl⟩ : ∃ m, j = i + m + 1 := ⟨j - i - 1, by omega⟩
      rw [show i + m + 1 - i = m + 1 by omega, List.getElem?_cons_succ, List.getElem?_drop, show i + m + 1 - 1 = i + m by omega]
theorem ins_srt {l : List TC} (h : Srt l) {c : TC} (hf : foundTC l c = false) : Srt (insAt l (bsTC l c) c) := by
  obtain ⟨h1, h2, h3⟩ := bsTC_ok h c
  have hlen : (insAt l (bsTC l c) c).length = l.length + 1 := by simp [insAt]; omega
  have h4 : ∀ k, bsTC l c ≤ k → k < l.length → lessB c (l.getD k default) = true := by
    intro k hk hkl
    have h5 := h3 k hk hkl
    have h6 : ¬ ((l.getD k default).slot = c.slot ∧ (l.getD k default).kind = c.kind) := by
      intro he
      rw [← taken_found h] at hf
      have : takenB l c.slot c.kind = true := any_hit hkl (decide_eq_true he)
      rw [this] at hf; cases hf
    have h7 : ¬ lessB (l.getD k default) c = true := by rw [h5]; simp
    rw [lessB_iff] at *
    omega
  intro i j hij hj
  rw [hlen] at hj
  rw [ins_getD h1 c i, ins_getD h1 c j]
  by_cases hi : i < bsTC l c
  · rw [if_pos hi]
    by_cases hj1 : j < bsTC l c
    · rw [if_pos hj1]; exact h i j hij (by omega)
    · rw [if_neg hj1]
      by_cases hj2 : j = bsTC l c
      · rw [if_pos hj2]; exact h2 i hi
      · rw [if_neg hj2]; exact h i (j - 1) (by omega) (by omega)
  · rw [if_neg hi, if_neg (show ¬ j < bsTC l c by omega), if_neg (show ¬ j = bsTC l c by omega)]
    by_cases hi2 : i = bsTC l c
    · rw [if_pos hi2]; exact h4 (j - 1) (by omega) (by omega)
    · rw [if_neg hi2]; exact h (i - 1) (j - 1) (by omega) (by omega)
theorem ofTo_srt {self : Int} {s : Sch} : ∀ {k : Nat}, (∀ l, ofTo self s k = some l → Srt l) ∧ rofTo self s k = ofTo self s k
  | 0 => ⟨fun l h => (by injection h with h; subst h; intro i j _ hj; exact absurd hj (by simp)), rfl⟩
  | k + 1 => by
    obtain ⟨h1, h2⟩ := ofTo_srt (self := self) (s := s) (k := k)
    unfold ofTo rofTo
    rw [h2]
    cases ho : ofTo self s k with
    | none => exact ⟨fun l h => (by cases h), rfl⟩
    | some l0 =>
      have hs := h1 l0 ho
      dsimp only
      cases hc : ofCell self (s.cells.getD k default) with
      | none => exact ⟨fun l h => (by injection h with h; subst h; exact hs), rfl⟩
      | some x =>
        dsimp only
        have hk1 : x.kind = 1 := by
          unfold ofCell at hc
          split at hc
          · injection hc with hc; subst hc; rfl
          · split at hc
            · injection hc with hc; subst hc; rfl
            · cases hc
        have ht : takenB l0 x.slot 1 = foundTC l0 x := by rw [← taken_found hs, hk1]
        rw [ht]
        refine ⟨fun l h => ?_, ?_⟩
        · split at h
          · cases h
          · rename_i hf
            injection h with h; subst h
            exact ins_srt hs (by simpa using hf)
        · rw [putL_bs hs]
theorem rof_eq (s : Sch) (self : Int) : rofM s self = ofM s self := by
  unfold rofM ofM
  rw [ofTo_srt.2] <;> rfl
theorem lawOf_spec (s : Sch) (node : Int) : FnS Try.prog 4 [schA s, AI node] [] (AB true) [] := by
  have h1 := r_of_spec s node
  rw [rof_eq] at h1
  refine FnS.of_body (enters_of Try.func4 (by kernel_rfl) rfl) Try.func4 rfl Try.ntmps4 Try.results4 rfl rfl rfl rfl fun E hS => ?_
  repeat' (first
    | (show VR _ _ _ (_ :: _) _ _ _; first | refine x_opF rfl (by first | exact True.intro | omega) ?_ | (show VR _ _ _ (⟨_, .call ⟨.value _, _, _⟩, _, _, _, _⟩ :: _) _ _ _; first | refine vr_calldU (awake_spec) (gk rfl) rfl rfl rfl (by first | rfl | (simp only [wfRes, wfL, wfArgs, List.all_cons, List.all_nil, rowOf_blk]; rfl)) rfl (by first | exact newB_O | rfl) rfl ?_ | refine vr_calldU (fewS_spec s) (gk rfl) rfl rfl rfl (by first | rfl | (simp only [wfRes, wfL, wfArgs, List.all_cons, List.all_nil, rowOf_blk]; rfl)) rfl (by first | exact newB_O | rfl) rfl ?_ | refine vr_calldU (of_spec s node) (gk rfl) rfl rfl rfl (by first | rfl | (simp only [wfRes, wfL, wfArgs, List.all_cons, List.all_nil, rowOf_blk]; rfl)) rfl (by first | exact newB_O | rfl) rfl ?_ | refine vr_calldU (h1) (gk rfl) rfl rfl rfl (by first | rfl | (simp only [wfRes, wfL, wfArgs, List.all_cons, List.all_nil, rowOf_blk]; rfl)) rfl (by first | exact newB_O | rfl) rfl ?_ | refine vr_calldU (mask_spec s) (gk rfl) rfl rfl rfl (by first | rfl | (simp only [wfRes, wfL, wfArgs, List.all_cons, List.all_nil, rowOf_blk]; rfl)) rfl (by first | exact newB_O | rfl) rfl ?_ | refine vr_calldU (r_mask_spec s) (gk rfl) rfl rfl rfl (by first | rfl | (simp only [wfRes, wfL, wfArgs, List.all_cons, List.all_nil, rowOf_blk]; rfl)) rfl (by first | exact newB_O | rfl) rfl ?_ | refine vr_calldU (same_spec _ _) (gk rfl) rfl rfl rfl (by first | rfl | (simp only [wfRes, wfL, wfArgs, List.all_cons, List.all_nil, rowOf_blk]; rfl)) rfl (by first | exact newB_O | rfl) rfl ?_ | refine vr_calldU (equalI_spec _ _) (gk rfl) rfl rfl rfl (by first | rfl | (simp only [wfRes, wfL, wfArgs, List.all_cons, List.all_nil, rowOf_blk]; rfl)) rfl (by first | exact newB_O | rfl) rfl ?_) | (show VR _ _ _ (⟨_, .nilCheck _, _, _, _, _⟩ :: _) _ _ _; first | refine vr_nilCheck_rp (gk rfl) rfl rfl ?_ | refine vr_nilCheck_ptr (gk rfl) rfl rfl ?_ | refine vr_nilCheck_ep (gk rfl) rfl rfl ?_) | (show VR _ _ _ (⟨_, .pick _ _ _, _, _, _, _⟩ :: _) _ _ _; first | refine vr_pick_true (gk rfl) rfl (by assumption) rfl rfl ?_ | refine vr_pick_false (gk rfl) rfl (by assumption) rfl rfl ?_) | refine x_gknow rfl (by assumption) ?_ | (refine x_gsplit rfl ?_ ?_ <;> intro h <;> have hq := h <;> (try simp only [decide_eq_true_eq, decide_eq_false_iff_not, Int.not_lt, Int.not_le, ne_eq, Decidable.not_not, Bool.not_eq_true', Bool.not_eq_false'] at hq)))
    | (show VR _ _ _ [] _ _ _; first | refine vr_nil ?_ | refine vr_nil_t (by kernel_rfl) ?_)
    | (show thenQ _ _ _ _; first | refine q_then_n ?_ | refine q_then_x ?_ | refine q_then_r ?_)
    | (show blockQ _ _ _ _; first | refine q_blk_n ?_ | refine q_blk_r ?_ | refine q_blk_x ?_ | refine q_blk_o rfl ?_)
    | refine vc_seq ?_
    | refine vc_region ?_ | refine vc_region_t ?_
    | (show VC _ (.cond _ _ _) _ _; first | refine vc_cond_t rfl ?_ | refine vc_cond_f rfl ?_ | refine x_know rfl (by assumption) ?_ | (refine x_cond rfl ?_ ?_ <;> intro h <;> have hq := h <;> (try simp only [decide_eq_true_eq, decide_eq_false_iff_not, Int.not_lt, Int.not_le, ne_eq, Decidable.not_not, Bool.not_eq_true', Bool.not_eq_false'] at hq)))
    | refine vc_ret ?_ | refine vc_exit ?_ | refine vc_block ?_ | refine vc_skip ?_ | refine vc_label ?_)
  all_goals (refine ret_bool isRet_r rfl ?_; simp_all [sameT])
theorem lawAt_spec (t : Tb) (slot peer : Int) : FnS Try.prog 6 [tbA t, AI slot, AI peer] [] (AB true) [] := by
  refine FnS.of_body (enters_of Try.func6 (by kernel_rfl) rfl) Try.func6 rfl Try.ntmps6 Try.results6 rfl rfl rfl rfl fun E hS => ?_
  repeat' (first
    | (show VR _ _ _ (_ :: _) _ _ _; first | refine x_opF rfl (by first | exact True.intro | omega) ?_ | (show VR _ _ _ (⟨_, .call ⟨.value _, _, _⟩, _, _, _, _⟩ :: _) _ _ _; first | refine vr_calldU (awake_spec) (gk rfl) rfl rfl rfl (by first | rfl | (simp only [wfRes, wfL, wfArgs, List.all_cons, List.all_nil, rowOf_blk]; rfl)) rfl (by first | exact newB_O | rfl) rfl ?_ | refine vr_calldU (fewT_spec t) (gk rfl) rfl rfl rfl (by first | rfl | (simp only [wfRes, wfL, wfArgs, List.all_cons, List.all_nil, rowOf_blk]; rfl)) rfl (by first | exact newB_O | rfl) rfl ?_ | refine vr_calldU (at_spec t slot) (gk rfl) rfl rfl rfl (by first | rfl | (simp only [wfRes, wfL, wfArgs, List.all_cons, List.all_nil, rowOf_blk]; rfl)) rfl (by first | exact newB_O | rfl) rfl ?_ | refine vr_calldU (r_at_spec t slot) (gk rfl) rfl rfl rfl (by first | rfl | (simp only [wfRes, wfL, wfArgs, List.all_cons, List.all_nil, rowOf_blk]; rfl)) rfl (by first | exact newB_O | rfl) rfl ?_ | refine vr_calldU (between_spec t peer) (gk rfl) rfl rfl rfl (by first | rfl | (simp only [wfRes, wfL, wfArgs, List.all_cons, List.all_nil, rowOf_blk]; rfl)) rfl (by first | exact newB_O | rfl) rfl ?_ | refine vr_calldU (r_between_spec t peer) (gk rfl) rfl rfl rfl (by first | rfl | (simp only [wfRes, wfL, wfArgs, List.all_cons, List.all_nil, rowOf_blk]; rfl)) rfl (by first | exact newB_O | rfl) rfl ?_ | refine vr_calldU (sameCells_spec _ _) (gk rfl) rfl rfl rfl (by first | rfl | (simp only [wfRes, wfL, wfArgs, List.all_cons, List.all_nil, rowOf_blk]; rfl)) rfl (by first | exact newB_O | rfl) rfl ?_) | (show VR _ _ _ (⟨_, .nilCheck _, _, _, _, _⟩ :: _) _ _ _; first | refine vr_nilCheck_rp (gk rfl) rfl rfl ?_ | refine vr_nilCheck_ptr (gk rfl) rfl rfl ?_ | refine vr_nilCheck_ep (gk rfl) rfl rfl ?_) | (show VR _ _ _ (⟨_, .binOp _ _ _ _ _, _, _, _, _⟩ :: _) _ _ _; first | refine vr_eqlA (gk rfl) rfl rfl rfl rfl rfl rfl rfl ?_) | (show VR _ _ _ (⟨_, .pick _ _ _, _, _, _, _⟩ :: _) _ _ _; first | refine vr_pick_true (gk rfl) rfl (by assumption) rfl rfl ?_ | refine vr_pick_false (gk rfl) rfl (by assumption) rfl rfl ?_) | refine x_gknow rfl (by assumption) ?_ | (refine x_gsplit rfl ?_ ?_ <;> intro h <;> have hq := h <;> (try simp only [decide_eq_true_eq, decide_eq_false_iff_not, Int.not_lt, Int.not_le, ne_eq, Decidable.not_not, Bool.not_eq_true', Bool.not_eq_false'] at hq)))
    | (show VR _ _ _ [] _ _ _; first | refine vr_nil ?_ | refine vr_nil_t (by kernel_rfl) ?_)
    | (show thenQ _ _ _ _; first | refine q_then_n ?_ | refine q_then_x ?_ | refine q_then_r ?_)
    | (show blockQ _ _ _ _; first | refine q_blk_n ?_ | refine q_blk_r ?_ | refine q_blk_x ?_ | refine q_blk_o rfl ?_)
    | refine vc_seq ?_
    | refine vc_region ?_ | refine vc_region_t ?_
    | (show VC _ (.cond _ _ _) _ _; first | refine vc_cond_t rfl ?_ | refine vc_cond_f rfl ?_ | refine x_know rfl (by assumption) ?_ | (refine x_cond rfl ?_ ?_ <;> intro h <;> have hq := h <;> (try simp only [decide_eq_true_eq, decide_eq_false_iff_not, Int.not_lt, Int.not_le, ne_eq, Decidable.not_not, Bool.not_eq_true', Bool.not_eq_false'] at hq)))
    | refine vc_ret ?_ | refine vc_exit ?_ | refine vc_block ?_ | refine vc_skip ?_ | refine vc_label ?_)
  all_goals (refine ret_bool isRet_r rfl ?_; simp_all)
theorem lawPlaces_spec (a b : Tb) (f : List Int) (s : Spot) (n : Int) : FnS Try.prog 7 [tbA a, tbA b, AD (ints f), spA s, AI n] [] (AB true) [] := by
  refine FnS.of_body (enters_of Try.func7 (by kernel_rfl) rfl) Try.func7 rfl Try.ntmps7 Try.results7 rfl rfl rfl rfl fun E hS => ?_
  repeat' (first
    | (show VR _ _ _ (_ :: _) _ _ _; first | refine x_opF rfl (by first | exact True.intro | omega) ?_ | (show VR _ _ _ (⟨_, .call ⟨.value _, _, _⟩, _, _, _, _⟩ :: _) _ _ _; first | refine vr_calldU (awake_spec) (gk rfl) rfl rfl rfl (by first | rfl | (simp only [wfRes, wfL, wfArgs, List.all_cons, List.all_nil, rowOf_blk]; rfl)) rfl (by first | exact newB_O | rfl) rfl ?_ | refine vr_calldU (fewT_spec _) (gk rfl) rfl rfl rfl (by first | rfl | (simp only [wfRes, wfL, wfArgs, List.all_cons, List.all_nil, rowOf_blk]; rfl)) rfl (by first | exact newB_O | rfl) rfl ?_ | refine vr_calldU (fits_spec a f s) (gk rfl) rfl rfl rfl (by first | rfl | (simp only [wfRes, wfL, wfArgs, List.all_cons, List.all_nil, rowOf_blk]; rfl)) rfl (by first | exact newB_O | rfl) rfl ?_ | refine vr_calldU (r_fits_spec a f s) (gk rfl) rfl rfl rfl (by first | rfl | (simp only [wfRes, wfL, wfArgs, List.all_cons, List.all_nil, rowOf_blk]; rfl)) rfl (by first | exact newB_O | rfl) rfl ?_ | refine vr_calldU (cand_spec a f n) (gk rfl) rfl rfl rfl (by first | rfl | (simp only [wfRes, wfL, wfArgs, List.all_cons, List.all_nil, rowOf_blk]; rfl)) rfl (by first | exact newB_O | rfl) rfl ?_ | refine vr_calldU (r_cand_spec a f n) (gk rfl) rfl rfl rfl (by first | rfl | (simp only [wfRes, wfL, wfArgs, List.all_cons, List.all_nil, rowOf_blk]; rfl)) rfl (by first | exact newB_O | rfl) rfl ?_ | refine vr_calldU (equalSp_spec _ _) (gk rfl) rfl rfl rfl (by first | rfl | (simp only [wfRes, wfL, wfArgs, List.all_cons, List.all_nil, rowOf_blk]; rfl)) rfl (by first | exact newB_O | rfl) rfl ?_ | refine vr_calldU (mirror_spec a b) (gk rfl) rfl rfl rfl (by first | rfl | (simp only [wfRes, wfL, wfArgs, List.all_cons, List.all_nil, rowOf_blk]; rfl)) rfl (by first | exact newB_O | rfl) rfl ?_ | refine vr_calldU (r_mirror_spec a b) (gk rfl) rfl rfl rfl (by first | rfl | (simp only [wfRes, wfL, wfArgs, List.all_cons, List.all_nil, rowOf_blk]; rfl)) rfl (by first | exact newB_O | rfl) rfl ?_) | (show VR _ _ _ (⟨_, .call ⟨.builtin .len, _, _⟩, _, _, _, _⟩ :: _) _ _ _; first | refine vr_len_row (gk rfl) rfl rfl (by first | rfl | exact rowOf_length.symm | (simp only [rowOf_length, List.length_set, List.length_replicate, List.length_append, List.length_take, List.length_cons, List.length_nil, List.length_map, List.length_drop, List.length_range] <;> omega)) rfl rfl ?_ | refine vr_len_sub (gk rfl) rfl rfl rfl ?_ | refine vr_len_full (gk rfl) rfl rfl rfl rfl ?_) | (show VR _ _ _ (⟨_, .nilCheck _, _, _, _, _⟩ :: _) _ _ _; first | refine vr_nilCheck_rp (gk rfl) rfl rfl ?_ | refine vr_nilCheck_ptr (gk rfl) rfl rfl ?_ | refine vr_nilCheck_ep (gk rfl) rfl rfl ?_) | (show VR _ _ _ (⟨_, .pick _ _ _, _, _, _, _⟩ :: _) _ _ _; first | refine vr_pick_true (gk rfl) rfl (by assumption) rfl rfl ?_ | refine vr_pick_false (gk rfl) rfl (by assumption) rfl rfl ?_) | refine x_gknow rfl (by assumption) ?_ | (refine x_gsplit rfl ?_ ?_ <;> intro h <;> have hq := h <;> (try simp only [decide_eq_true_eq, decide_eq_false_iff_not, Int.not_lt, Int.not_le, ne_eq, Decidable.not_not, Bool.not_eq_true', Bool.not_eq_false'] at hq)))
    | (show VR _ _ _ [] _ _ _; first | refine vr_nil ?_ | refine vr_nil_t (by kernel_rfl) ?_)
    | (show thenQ _ _ _ _; first | refine q_then_n ?_ | refine q_then_x ?_ | refine q_then_r ?_)
    | (show blockQ _ _ _ _; first | refine q_blk_n ?_ | refine q_blk_r ?_ | refine q_blk_x ?_ | refine q_blk_o rfl ?_)
    | refine vc_seq ?_
    | refine vc_region ?_ | refine vc_region_t ?_
    | (show VC _ (.cond _ _ _) _ _; first | refine vc_cond_t rfl ?_ | refine vc_cond_f rfl ?_ | refine x_know rfl (by assumption) ?_ | (refine x_cond rfl ?_ ?_ <;> intro h <;> have hq := h <;> (try simp only [decide_eq_true_eq, decide_eq_false_iff_not, Int.not_lt, Int.not_le, ne_eq, Decidable.not_not, Bool.not_eq_true', Bool.not_eq_false'] at hq)))
    | refine vc_ret ?_ | refine vc_exit ?_ | refine vc_block ?_ | refine vc_skip ?_ | refine vc_label ?_)
  all_goals (refine ret_bool isRet_r rfl ?_; simp_all)
end Go.Proofs

