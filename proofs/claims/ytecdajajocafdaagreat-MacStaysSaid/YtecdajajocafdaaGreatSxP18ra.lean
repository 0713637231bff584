/-
  What functions of the given program hand back, by walks over its code, and plain laws on that. No condition.
-/
import Derived.Test.YtecdajajocafdaaGreatSxP18g
import Derived.Test.YtecdajajocafdaaGreatSxLibC
-- SXS
-- SXM
-- SXB
namespace Go.Proofs
open Go Go.Sx Go.Proofs.T Go.Proofs.Q
set_option maxRecDepth 4000
set_option linter.unusedSimpArgs false
set_option linter.unusedVariables false
attribute [local irreducible] VR VC thenQ blockQ retL

/-! The reference's check of frames. -/
theorem checkF_zero {f : Fr} (h : okP f) : checkF f = 0 := (checkF_iff f).2 h
theorem checkF_one {f : Fr} (h : ¬ okP f) : checkF f = 1 := by
  have h2 : ¬ checkF f = 0 := fun e => h ((checkF_iff f).1 e)
  unfold checkF at h2 ⊢
  split
  · rename_i h3; rw [if_pos h3] at h2; exact absurd rfl h2
  · rfl
theorem rwin_spec (n m : Int) : FnS Tryz.prog 73 [AI n, AI m] [] (AB (decide (0 ≤ n ∧ n ≤ m))) [] := by
  refine FnS.of_body (enters_of Tryz.func73 (by kernel_rfl) rfl) Tryz.func73 rfl Tryz.ntmps73 Tryz.results73 rfl rfl rfl rfl fun E hS => ?_
  repeat' (first
    | (show VR _ _ _ (_ :: _) _ _ _; first | refine x_opF rfl (by first | exact True.intro | omega) ?_ | (refine x_gsplit rfl ?_ ?_ <;> intro h <;> have hq := h <;> (try simp only [hqs] at hq)))
    | (show VR _ _ _ [] _ _ _; first | refine vr_nil ?_)
    | (show thenQ _ _ _ _; first | refine q_then_n ?_)
    | refine vc_seq ?_
    | refine vc_region ?_
    | refine vc_ret ?_
    | fail)
  · refine ret_bool isRet_r rfl ?_
    exact decide_eq_decide.2 (by omega)
  · refine ret_bool isRet_r rfl ?_
    exact decide_eq_false (by omega)
set_option maxHeartbeats 4000000 in
theorem r_checkF_spec (f : Fr) : FnS Tryz.prog 65 [frA f] [] (AI (checkF f)) [] := by
  obtain ⟨kind, source, target, list, seq, flow, number, err, slot, rank, epoch, data⟩ := f
  refine FnS.of_body (enters_of Tryz.func65 (by kernel_rfl) rfl) Tryz.func65 rfl Tryz.ntmps65 Tryz.results65 rfl rfl rfl rfl fun E hS => ?_
  by_cases k1 : kind = 1
  · subst k1
    repeat' (first
      | (show VR _ _ _ (_ :: _) _ _ _; first | refine x_opF rfl (by first | exact True.intro | omega) ?_ | (show VR _ _ _ (⟨_, .call ⟨.value _, _, _⟩, _, _, _, _⟩ :: _) _ _ _; first | refine vr_calldU (rwin_spec _ _) (gk rfl) rfl rfl rfl (by first | rfl | (simp only [wfRes, wfL, wfArgs, wfs, mpO_namesB, mpO_namesI]; rfl)) rfl (by first | exact newB_O | rfl) rfl ?_) | (refine x_gsplit rfl ?_ ?_ <;> intro h <;> have hq := h <;> (try simp only [hqs] at hq)))
      | (show VR _ _ _ [] _ _ _; first | refine vr_nil ?_ | refine vr_nil_t (by kernel_rfl) ?_)
      | (show thenQ _ _ _ _; first | refine q_then_n ?_ | refine q_then_r ?_)
      | (show blockQ _ _ _ _; first | refine q_blk_n ?_ | refine q_blk_r ?_)
      | refine vc_seq ?_
      | refine vc_region ?_ | refine vc_region_t ?_
      | (show VC _ (.cond _ _ _) _ _; first | refine vc_cond_t rfl ?_ | refine vc_cond_f rfl ?_ | (refine x_cond rfl ?_ ?_ <;> intro h <;> have hq := h <;> (try simp only [hqs] at hq)))
      | refine vc_ret ?_ | refine vc_block ?_ | refine vc_skip ?_
      | fail)
    all_goals first
      | (refine ret_int isRet_r rfl (checkF_one ?_)
         dsimp only [okP, inP, tgtP]
         rintro ⟨h0, h | h | h | h⟩ <;> omega)
      | (refine ret_int isRet_r rfl (checkF_zero ?_)
         dsimp only [okP, inP, tgtP]
         exact ⟨⟨by assumption, by assumption, by assumption⟩, .inl ⟨rfl, ⟨by omega, by omega, by assumption⟩, by assumption, by assumption, by omega, by omega, by omega, by omega⟩⟩)
  by_cases k2 : kind = 2
  · subst k2
    repeat' (first
      | (show VR _ _ _ (_ :: _) _ _ _; first | (show VR _ _ _ (⟨_, .binOp _ _ _ _ _, _, _, _, _⟩ :: _) _ _ _; first | refine vr_neqStr (gk rfl) rfl rfl rfl rfl ?_) | refine x_opF rfl (by first | exact True.intro | omega) ?_ | (show VR _ _ _ (⟨_, .call ⟨.value _, _, _⟩, _, _, _, _⟩ :: _) _ _ _; first | refine vr_calldU (rwin_spec _ _) (gk rfl) rfl rfl rfl (by first | rfl | (simp only [wfRes, wfL, wfArgs, wfs, mpO_namesB, mpO_namesI]; rfl)) rfl (by first | exact newB_O | rfl) rfl ?_) | (refine x_gsplit rfl ?_ ?_ <;> intro h <;> have hq := h <;> (try simp only [hqs] at hq)))
      | (show VR _ _ _ [] _ _ _; first | refine vr_nil ?_ | refine vr_nil_t (by kernel_rfl) ?_)
      | (show thenQ _ _ _ _; first | refine q_then_n ?_ | refine q_then_r ?_)
      | (show blockQ _ _ _ _; first | refine q_blk_n ?_ | refine q_blk_r ?_)
      | refine vc_seq ?_
      | refine vc_region ?_ | refine vc_region_t ?_
      | (show VC _ (.cond _ _ _) _ _; first | refine vc_cond_t rfl ?_ | refine vc_cond_f rfl ?_ | (refine x_cond rfl ?_ ?_ <;> intro h <;> have hq := h <;> (try simp only [hqs] at hq)))
      | refine vc_ret ?_ | refine vc_block ?_ | refine vc_skip ?_
      | fail)
    all_goals first
      | (refine ret_int isRet_r rfl (checkF_one ?_)
         dsimp only [okP, inP, tgtP]
         rintro ⟨h0, h | h | h | h⟩ <;> omega)
      | (refine ret_int isRet_r rfl (checkF_one ?_)
         dsimp only [okP, inP, tgtP]
         rintro ⟨h0, h | h | h | h⟩ <;> first | omega | exact absurd h.2.2.2.2.2.2.2.2 (by assumption))
      | (refine ret_int isRet_r rfl (checkF_zero ?_)
         dsimp only [okP, inP, tgtP]
         exact ⟨⟨by assumption, by assumption, by assumption⟩, .inr (.inl ⟨rfl, ⟨by omega, by omega, by assumption⟩, by omega, by omega, by omega, by omega, by omega, by omega, by assumption⟩)⟩)
  by_cases k3 : kind = 3
  · subst k3
    repeat' (first
      | (show VR _ _ _ (_ :: _) _ _ _; first | refine x_opF rfl (by first | exact True.intro | omega) ?_ | (show VR _ _ _ (⟨_, .call ⟨.value _, _, _⟩, _, _, _, _⟩ :: _) _ _ _; first | refine vr_calldU (rwin_spec _ _) (gk rfl) rfl rfl rfl (by first | rfl | (simp only [wfRes, wfL, wfArgs, wfs, mpO_namesB, mpO_namesI]; rfl)) rfl (by first | exact newB_O | rfl) rfl ?_) | (refine x_gsplit rfl ?_ ?_ <;> intro h <;> have hq := h <;> (try simp only [hqs] at hq)))
      | (show VR _ _ _ [] _ _ _; first | refine vr_nil ?_ | refine vr_nil_t (by kernel_rfl) ?_)
      | (show thenQ _ _ _ _; first | refine q_then_n ?_ | refine q_then_r ?_)
      | (show blockQ _ _ _ _; first | refine q_blk_n ?_ | refine q_blk_r ?_)
      | refine vc_seq ?_
      | refine vc_region ?_ | refine vc_region_t ?_
      | (show VC _ (.cond _ _ _) _ _; first | refine vc_cond_t rfl ?_ | refine vc_cond_f rfl ?_ | (refine x_cond rfl ?_ ?_ <;> intro h <;> have hq := h <;> (try simp only [hqs] at hq)))
      | refine vc_ret ?_ | refine vc_block ?_ | refine vc_skip ?_
      | fail)
    all_goals first
      | (refine ret_int isRet_r rfl (checkF_one ?_)
         dsimp only [okP, inP, tgtP]
         rintro ⟨h0, h | h | h | h⟩ <;> omega)
      | (refine ret_int isRet_r rfl (checkF_zero ?_)
         dsimp only [okP, inP, tgtP]
         exact ⟨⟨by assumption, by assumption, by assumption⟩, .inr (.inr (.inl ⟨rfl, by omega, by assumption, by assumption, by assumption, by omega, by omega, by omega⟩))⟩)
  by_cases k4 : kind = 4
  · subst k4
    repeat' (first
      | (show VR _ _ _ (_ :: _) _ _ _; first | refine x_opF rfl (by first | exact True.intro | omega) ?_ | (show VR _ _ _ (⟨_, .call ⟨.value _, _, _⟩, _, _, _, _⟩ :: _) _ _ _; first | refine vr_calldU (rwin_spec _ _) (gk rfl) rfl rfl rfl (by first | rfl | (simp only [wfRes, wfL, wfArgs, wfs, mpO_namesB, mpO_namesI]; rfl)) rfl (by first | exact newB_O | rfl) rfl ?_) | (refine x_gsplit rfl ?_ ?_ <;> intro h <;> have hq := h <;> (try simp only [hqs] at hq)))
      | (show VR _ _ _ [] _ _ _; first | refine vr_nil ?_ | refine vr_nil_t (by kernel_rfl) ?_)
      | (show thenQ _ _ _ _; first | refine q_then_n ?_ | refine q_then_r ?_)
      | (show blockQ _ _ _ _; first | refine q_blk_n ?_ | refine q_blk_r ?_)
      | refine vc_seq ?_
      | refine vc_region ?_ | refine vc_region_t ?_
      | (show VC _ (.cond _ _ _) _ _; first | refine vc_cond_t rfl ?_ | refine vc_cond_f rfl ?_ | (refine x_cond rfl ?_ ?_ <;> intro h <;> have hq := h <;> (try simp only [hqs] at hq)))
      | refine vc_ret ?_ | refine vc_block ?_ | refine vc_skip ?_
      | fail)
    all_goals first
      | (refine ret_int isRet_r rfl (checkF_one ?_)
         dsimp only [okP, inP, tgtP]
         rintro ⟨h0, h | h | h | h⟩ <;> omega)
      | (refine ret_int isRet_r rfl (checkF_zero ?_)
         dsimp only [okP, inP, tgtP]
         exact ⟨⟨by assumption, by assumption, by assumption⟩, .inr (.inr (.inr ⟨rfl, by omega, by omega, by omega, by omega, by omega, by omega, by omega⟩))⟩)
  have n1 : (!decide (kind = 1)) = true := by simp [k1]
  have n2 : (!decide (kind = 2)) = true := by simp [k2]
  have n3 : (!decide (kind = 3)) = true := by simp [k3]
  have n4 : (!decide (kind = 4)) = true := by simp [k4]
  repeat' (first
    | (show VR _ _ _ (_ :: _) _ _ _; first | refine x_opF rfl (by first | exact True.intro | omega) ?_ | refine x_gknow rfl (by assumption) ?_)
    | (show VR _ _ _ [] _ _ _; first | refine vr_nil ?_ | refine vr_nil_t (by kernel_rfl) ?_)
    | (show thenQ _ _ _ _; first | refine q_then_n ?_ | refine q_then_r ?_)
    | refine vc_seq ?_
    | refine vc_region ?_ | refine vc_region_t ?_
    | (show VC _ (.cond _ _ _) _ _; first | refine vc_cond_t rfl ?_)
    | refine vc_ret ?_
    | fail)
  all_goals (refine ret_int isRet_r rfl (checkF_one ?_))
  all_goals (dsimp only [okP, inP, tgtP]; rintro ⟨h0, h | h | h | h⟩ <;> omega)
set_option maxHeartbeats 2000000 in
theorem r_for_spec (f : Fr) (node : Int) : FnS Tryz.prog 24 [frA f, AI node] [] (AB (forB f node)) [] := by
  have hin := checkF_iff f
  refine FnS.of_body (enters_of Tryz.func24 (by kernel_rfl) rfl) Tryz.func24 rfl Tryz.ntmps24 Tryz.results24 rfl rfl rfl rfl fun E hS => ?_
  by_cases hc : checkF f = 0
  · have d1 : decide (checkF f = 0) = true := decide_eq_true hc
    have hok := hin.1 hc
    have ht : -1 ≤ f.target ∧ f.target ≤ 31 ∧ 0 ≤ f.source ∧ f.source ≤ 31 := by
      obtain ⟨h0, h⟩ := hok
      unfold inP at h0
      unfold tgtP at h
      omega
    have e : forB f node = decide (0 ≤ node ∧ node ≤ 31 ∧ (f.target = node ∨ f.target = -1 ∧ f.source ≠ node)) := by rw [forB, d1]; rfl
    rw [e]
    by_cases h1 : f.target = node
    · have d2 : decide (f.target = node) = true := decide_eq_true h1
      by_cases h2 : 0 ≤ node
      · have d3 : decide (0 ≤ node) = true := decide_eq_true h2
        repeat' (first
          | (show VR _ _ _ (_ :: _) _ _ _; first | refine x_opF rfl (by first | exact True.intro | omega) ?_ | (show VR _ _ _ (⟨_, .call ⟨.value _, _, _⟩, _, _, _, _⟩ :: _) _ _ _; first | refine vr_calldU (r_checkF_spec f) (gk rfl) rfl rfl rfl (by first | rfl | (simp only [wfRes, wfL, wfArgs, wfs, mpO_namesB, mpO_namesI]; rfl)) rfl (by first | exact newB_O | rfl) rfl ?_) | refine x_gknow rfl (by assumption) ?_)
          | (show VR _ _ _ [] _ _ _; first | refine vr_nil ?_)
          | (show thenQ _ _ _ _; first | refine q_then_n ?_)
          | refine vc_seq ?_
          | refine vc_region ?_
          | refine vc_ret ?_
          | fail)
        all_goals (refine ret_bool isRet_r rfl ?_; first | exact decide_eq_true (by omega) | exact decide_eq_false (by omega))
      · have d3 : decide (0 ≤ node) = false := decide_eq_false h2
        repeat' (first
          | (show VR _ _ _ (_ :: _) _ _ _; first | refine x_opF rfl (by first | exact True.intro | omega) ?_ | (show VR _ _ _ (⟨_, .call ⟨.value _, _, _⟩, _, _, _, _⟩ :: _) _ _ _; first | refine vr_calldU (r_checkF_spec f) (gk rfl) rfl rfl rfl (by first | rfl | (simp only [wfRes, wfL, wfArgs, wfs, mpO_namesB, mpO_namesI]; rfl)) rfl (by first | exact newB_O | rfl) rfl ?_ | refine vr_calldU (rwin_spec _ _) (gk rfl) rfl rfl rfl (by first | rfl | (simp only [wfRes, wfL, wfArgs, wfs, mpO_namesB, mpO_namesI]; rfl)) rfl (by first | exact newB_O | rfl) rfl ?_) | refine x_gknow rfl (by assumption) ?_ | (refine x_gsplit rfl ?_ ?_ <;> intro h <;> have hq := h <;> (try simp only [hqs] at hq)))
          | (show VR _ _ _ [] _ _ _; first | refine vr_nil ?_)
          | (show thenQ _ _ _ _; first | refine q_then_n ?_)
          | refine vc_seq ?_
          | refine vc_region ?_
          | refine vc_ret ?_
          | fail)
        all_goals (refine ret_bool isRet_r rfl ?_; first | exact decide_eq_true (by omega) | exact decide_eq_false (by omega) | exact decide_eq_decide.2 (by omega))
    · have d2 : decide (f.target = node) = false := decide_eq_false h1
      repeat' (first
        | (show VR _ _ _ (_ :: _) _ _ _; first | refine x_opF rfl (by first | exact True.intro | omega) ?_ | (show VR _ _ _ (⟨_, .call ⟨.value _, _, _⟩, _, _, _, _⟩ :: _) _ _ _; first | refine vr_calldU (r_checkF_spec f) (gk rfl) rfl rfl rfl (by first | rfl | (simp only [wfRes, wfL, wfArgs, wfs, mpO_namesB, mpO_namesI]; rfl)) rfl (by first | exact newB_O | rfl) rfl ?_ | refine vr_calldU (rwin_spec _ _) (gk rfl) rfl rfl rfl (by first | rfl | (simp only [wfRes, wfL, wfArgs, wfs, mpO_namesB, mpO_namesI]; rfl)) rfl (by first | exact newB_O | rfl) rfl ?_) | refine x_gknow rfl (by assumption) ?_ | (refine x_gsplit rfl ?_ ?_ <;> intro h <;> have hq := h <;> (try simp only [hqs] at hq)))
        | (show VR _ _ _ [] _ _ _; first | refine vr_nil ?_)
        | (show thenQ _ _ _ _; first | refine q_then_n ?_)
        | refine vc_seq ?_
        | refine vc_region ?_
        | refine vc_ret ?_
        | fail)
      all_goals (refine ret_bool isRet_r rfl ?_; first | exact decide_eq_true (by omega) | exact decide_eq_false (by omega) | exact decide_eq_decide.2 (by omega))
  · have d1 : decide (checkF f = 0) = false := decide_eq_false hc
    repeat' (first
      | (show VR _ _ _ (_ :: _) _ _ _; first | refine x_opF rfl (by first | exact True.intro | omega) ?_ | (show VR _ _ _ (⟨_, .call ⟨.value _, _, _⟩, _, _, _, _⟩ :: _) _ _ _; first | refine vr_calldU (r_checkF_spec f) (gk rfl) rfl rfl rfl (by first | rfl | (simp only [wfRes, wfL, wfArgs, wfs, mpO_namesB, mpO_namesI]; rfl)) rfl (by first | exact newB_O | rfl) rfl ?_) | refine x_gknow rfl (by assumption) ?_)
      | (show VR _ _ _ [] _ _ _; first | refine vr_nil ?_)
      | (show thenQ _ _ _ _; first | refine q_then_n ?_)
      | refine vc_seq ?_
      | refine vc_region ?_
      | refine vc_ret ?_
      | fail)
    refine ret_bool isRet_r rfl ?_
    rw [forB, d1]; rfl
end Go.Proofs


