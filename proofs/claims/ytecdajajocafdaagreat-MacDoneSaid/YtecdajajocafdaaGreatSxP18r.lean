/-
  What functions of the given program hand back, by walks over its code, and plain laws on that. No condition.
-/
import Derived.Test.YtecdajajocafdaaGreatSxP18q
-- SXS
-- SXM
-- SXN
namespace Go.Proofs
open Go Go.Sx Go.Proofs.T Go.Proofs.Q
set_option maxRecDepth 4000
set_option linter.unusedSimpArgs false
set_option linter.unusedVariables false
attribute [local irreducible] VR VC thenQ blockQ retL

theorem plan_a (s : Sta) (slot : Int) : (planM s slot (atM s.tb slot).1 (atM s.tb slot).2).a = actM s slot (atM s.tb slot).1 := by
  cases h : (atM s.tb slot).2 with
  | false => rw [at_none h, actM_noC]; rfl
  | true => rfl
set_option maxHeartbeats 1000000 in
theorem r_act_spec (s : Sta) (slot : Int) : FnS Tryz.prog 17 [stA s, AI slot] [] (.tup [acA (actS s slot).1, AI (actS s slot).2]) [] := by
  have hc := r_checkS_spec s
  refine FnS.of_body (enters_of Tryz.func17 (by kernel_rfl) rfl) Tryz.func17 rfl Tryz.ntmps17 Tryz.results17 rfl rfl rfl rfl fun E hS => ?_
  by_cases hck : checkS s = 0
  · rw [hck] at hc
    by_cases hs : slot < 0 ∨ 109951162 < slot
    · have e : actS s slot = (zAc, 2) := by rw [actS, if_neg (by omega), if_pos hs]
      rw [e]
      rcases Int.lt_or_le slot 0 with h0 | h0
      · have d1 : decide (slot < 0) = true := decide_eq_true h0
        repeat' (first
          | (show VR _ _ _ (_ :: _) _ _ _; first | refine x_opF rfl (by first | exact True.intro | omega) ?_ | (show VR _ _ _ (⟨_, .call ⟨.value _, _, _⟩, _, _, _, _⟩ :: _) _ _ _; first | refine vr_calldU (hc) (gk rfl) rfl rfl rfl (by first | rfl | (simp only [wfRes, wfL, wfArgs, wfs, mpO_namesB, mpO_namesI]; rfl)) rfl (by first | exact newB_nil | exact newB_O | ((simp only [newB, List.map_cons, List.map_nil, Blk.shift, rowOf_shift]) <;> rfl) | rfl) rfl ?_) | refine x_gknow rfl (by assumption) ?_)
          | (show VR _ _ _ [] _ _ _; first | refine vr_nil ?_)
          | (show thenQ _ _ _ _; first | refine q_then_n ?_ | refine q_then_r ?_)
          | refine vc_seq ?_
          | refine vc_region ?_
          | (show VC _ (.cond _ _ _) _ _; first | refine vc_cond_t rfl ?_ | refine vc_cond_f rfl ?_)
          | refine vc_ret ?_ | refine vc_skip ?_
          | fail)
        exact ret_agg_dL isRet_r rfl rfl rfl rfl rfl rfl rfl
      · have d1 : decide (slot < 0) = false := decide_eq_false (by omega)
        have d2 : decide (109951162 < slot) = true := decide_eq_true (by omega)
        repeat' (first
          | (show VR _ _ _ (_ :: _) _ _ _; first | refine x_opF rfl (by first | exact True.intro | omega) ?_ | (show VR _ _ _ (⟨_, .call ⟨.value _, _, _⟩, _, _, _, _⟩ :: _) _ _ _; first | refine vr_calldU (hc) (gk rfl) rfl rfl rfl (by first | rfl | (simp only [wfRes, wfL, wfArgs, wfs, mpO_namesB, mpO_namesI]; rfl)) rfl (by first | exact newB_nil | exact newB_O | ((simp only [newB, List.map_cons, List.map_nil, Blk.shift, rowOf_shift]) <;> rfl) | rfl) rfl ?_) | refine x_gknow rfl (by assumption) ?_)
          | (show VR _ _ _ [] _ _ _; first | refine vr_nil ?_)
          | (show thenQ _ _ _ _; first | refine q_then_n ?_ | refine q_then_r ?_)
          | refine vc_seq ?_
          | refine vc_region ?_
          | (show VC _ (.cond _ _ _) _ _; first | refine vc_cond_t rfl ?_ | refine vc_cond_f rfl ?_ | refine x_know rfl (by assumption) ?_)
          | refine vc_ret ?_ | refine vc_skip ?_
          | fail)
        exact ret_agg_dL isRet_r rfl rfl rfl rfl rfl rfl rfl
    · have e : actS s slot = (actM s slot (atM s.tb slot).1, 0) := by rw [actS, if_neg (by omega), if_neg hs]
      have d1 : decide (slot < 0) = false := decide_eq_false (by omega)
      have d2 : decide (109951162 < slot) = false := decide_eq_false (by omega)
      rw [e, ← plan_a]
      repeat' (first
        | (show VR _ _ _ (_ :: _) _ _ _; first | refine x_opF rfl (by first | exact True.intro | omega) ?_ | (show VR _ _ _ (⟨_, .call ⟨.value _, _, _⟩, _, _, _, _⟩ :: _) _ _ _; first | refine vr_calldU (hc) (gk rfl) rfl rfl rfl (by first | rfl | (simp only [wfRes, wfL, wfArgs, wfs, mpO_namesB, mpO_namesI]; rfl)) rfl (by first | exact newB_nil | exact newB_O | ((simp only [newB, List.map_cons, List.map_nil, Blk.shift, rowOf_shift]) <;> rfl) | rfl) rfl ?_ | refine vr_calldU (r_planned_spec s slot hck) (gk rfl) rfl rfl rfl (by first | rfl | (simp only [wfRes, wfL, wfArgs, wfs, mpO_namesB, mpO_namesI]; rfl)) rfl (by first | exact newB_nil | exact newB_O | ((simp only [newB, List.map_cons, List.map_nil, Blk.shift, rowOf_shift]) <;> rfl) | rfl) rfl ?_) | (show VR _ _ _ (⟨_, .field _ _ _, _, _, _, _⟩ :: _) _ _ _; first | refine vr_field_agg (gk rfl) rfl rfl rfl rfl rfl ?_) | refine x_gknow rfl (by assumption) ?_)
        | (show VR _ _ _ [] _ _ _; first | refine vr_nil ?_)
        | (show thenQ _ _ _ _; first | refine q_then_n ?_)
        | refine vc_seq ?_
        | refine vc_region ?_
        | (show VC _ (.cond _ _ _) _ _; first | refine vc_cond_f rfl ?_ | refine x_know rfl (by assumption) ?_)
        | refine vc_ret ?_ | refine vc_skip ?_
        | fail)
      exact ret_agg_dL isRet_r rfl rfl rfl rfl rfl rfl rfl
  · have e : actS s slot = (zAc, 1) := by rw [actS, if_pos hck]
    have hd : decide (checkS s ≠ 0) = true := by simp [hck]
    rw [e]
    repeat' (first
      | (show VR _ _ _ (_ :: _) _ _ _; first | refine x_opF rfl (by first | exact True.intro | omega) ?_ | (show VR _ _ _ (⟨_, .call ⟨.value _, _, _⟩, _, _, _, _⟩ :: _) _ _ _; first | refine vr_calldU (hc) (gk rfl) rfl rfl rfl (by first | rfl | (simp only [wfRes, wfL, wfArgs, wfs, mpO_namesB, mpO_namesI]; rfl)) rfl (by first | exact newB_nil | exact newB_O | ((simp only [newB, List.map_cons, List.map_nil, Blk.shift, rowOf_shift]) <;> rfl) | rfl) rfl ?_))
      | (show VR _ _ _ [] _ _ _; first | refine vr_nil ?_)
      | (show thenQ _ _ _ _; first | refine q_then_n ?_ | refine q_then_r ?_)
      | refine vc_seq ?_
      | refine vc_region ?_
      | (show VC _ (.cond _ _ _) _ _; first | refine vc_cond_t rfl ?_ | refine x_know rfl (by assumption) ?_)
      | refine vc_ret ?_
      | fail)
    exact ret_agg_dL isRet_r rfl rfl rfl rfl rfl rfl rfl

end Go.Proofs


