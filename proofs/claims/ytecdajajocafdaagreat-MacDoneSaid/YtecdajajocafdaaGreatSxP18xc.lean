/-
  What functions of the given program hand back, by walks over its code, and plain laws on that. No condition.
-/
import Derived.Test.YtecdajajocafdaaGreatSxP18xb
import Derived.Test.YtecdajajocafdaaGreatSxP18rf
-- SXS
-- SXM
-- SXN
namespace Go.Proofs
open Go Go.Sx Go.Proofs.T Go.Proofs.Q
set_option maxRecDepth 4000
set_option linter.unusedSimpArgs false
set_option linter.unusedVariables false
attribute [local irreducible] VR VC thenQ blockQ retL
set_option maxHeartbeats 4000000 in
theorem lawDone_spec (s : Sta) (slot : Int) (r : Rs) : FnS Tryz.prog 5 [stA s, AI slot, rsA r] [] (AB true) [] := by
  have hb := done_spec s slot r
  have hr := r_done_spec s slot r
  generalize doneS s slot r = X at hb hr
  obtain ⟨x1, x2, x3⟩ := X
  dsimp only at hb hr
  have d1 : decide (x3 = x3) = true := by simp
  have hl := lfew_spec [r.data]
  generalize (!([r.data].any fun x => decide (200 < (x.size : Int)))) = b at hl
  refine FnS.of_body (enters_of Tryz.func5 (by kernel_rfl) rfl) Tryz.func5 rfl Tryz.ntmps5 Tryz.results5 rfl rfl rfl rfl fun E hS => ?_
  cases hf : fewS s with
  | false =>
    have df : (!fewS s) = true := by rw [hf]; rfl
    repeat' (first
      | (show VR _ _ _ (_ :: _) _ _ _; first | refine x_opF rfl (by first | exact True.intro | omega) ?_ | (show VR _ _ _ (⟨_, .call ⟨.value _, _, _⟩, _, _, _, _⟩ :: _) _ _ _; first | refine vr_calldU (awake_spec) (gk rfl) rfl rfl rfl (by first | rfl | (simp only [wfRes, wfL, wfArgs, wfs, mpO_namesB, mpO_namesI]; rfl)) rfl (by first | exact newB_nil | exact newB_O | ((simp only [newB, List.map_cons, List.map_nil, Blk.shift, rowOf_shift]) <;> rfl) | rfl) rfl ?_ | refine vr_calldU (fewS_spec s) (gk rfl) rfl rfl rfl (by first | rfl | (simp only [wfRes, wfL, wfArgs, wfs, mpO_namesB, mpO_namesI]; rfl)) rfl (by first | exact newB_nil | exact newB_O | ((simp only [newB, List.map_cons, List.map_nil, Blk.shift, rowOf_shift]) <;> rfl) | rfl) rfl ?_) | refine x_gknow rfl (by assumption) ?_)
      | (show VR _ _ _ [] _ _ _; first | refine vr_nil ?_)
      | (show thenQ _ _ _ _; first | refine q_then_n ?_ | refine q_then_r ?_)
      | refine vc_seq ?_
      | refine vc_region ?_
      | (show VC _ (.cond _ _ _) _ _; first | refine vc_cond_t rfl ?_ | refine vc_cond_f rfl ?_)
      | refine vc_ret ?_ | refine vc_skip ?_
      | fail)
    exact ret_bool isRet_r rfl rfl
  | true =>
    have df : (!fewS s) = false := by rw [hf]; rfl
    cases b with
    | false =>
      repeat' (first
        | (show VR _ _ _ (_ :: _) _ _ _; first | refine x_opF rfl (by first | exact True.intro | omega) ?_ | (show VR _ _ _ (⟨_, .call ⟨.value _, _, _⟩, _, _, _, _⟩ :: _) _ _ _; first | refine vr_calldU (awake_spec) (gk rfl) rfl rfl rfl (by first | rfl | (simp only [wfRes, wfL, wfArgs, wfs, mpO_namesB, mpO_namesI]; rfl)) rfl (by first | exact newB_nil | exact newB_O | ((simp only [newB, List.map_cons, List.map_nil, Blk.shift, rowOf_shift]) <;> rfl) | rfl) rfl ?_ | refine vr_calldU (fewS_spec s) (gk rfl) rfl rfl rfl (by first | rfl | (simp only [wfRes, wfL, wfArgs, wfs, mpO_namesB, mpO_namesI]; rfl)) rfl (by first | exact newB_nil | exact newB_O | ((simp only [newB, List.map_cons, List.map_nil, Blk.shift, rowOf_shift]) <;> rfl) | rfl) rfl ?_ | refine vr_callU [22] (hl) (gk rfl) rfl (by (repeat' (first | exact .nil | refine .cons ?_ ?_ | exact .of0 (.c .d) | exact .of0 .ep | exact .clo | exact .of0 (.c .nil) | exact .of0 (.c (cr_rowO (by simp) rfl (by first | rfl | omega) (fun _ => rfl))) | refine .of0 (.agg ?_) | exact .d | exact .nil | exact .of0 (.c (cr_row (by decide) rfl rfl (by repeat' (first | exact trivial | refine ⟨?_, ?_⟩ | rfl)))))) <;> fail) (by first | rfl | exact hfl_O (fun _ => rfl) | exact hfl_O2 rfl (fun _ => rfl)) rfl (by first | rfl | (simp only [wfRes, wfL, wfArgs, wfs, mpO_namesB, mpO_namesI]; rfl)) rfl (by first | exact newB_nil | exact newB_O | ((simp only [newB, List.map_cons, List.map_nil, Blk.shift, rowOf_shift]) <;> rfl) | rfl) rfl ?_) | refine x_gknow rfl (by assumption) ?_)
        | (show VR _ _ _ [] _ _ _; first | refine vr_nil ?_)
        | (show thenQ _ _ _ _; first | refine q_then_n ?_ | refine q_then_r ?_)
        | (show VC _ (.seq _ _) _ _; (fail_if_success (show VC _ (.seq (.seq (.region 5 _ _) _) _) _ _)); (fail_if_success (show VC _ (.seq (.region 5 _ _) _) _ _)); refine vc_seq ?_)
        | refine vc_region ?_
        | (show VC _ (.cond _ _ _) _ _; first | refine vc_cond_t rfl ?_ | refine vc_cond_f rfl ?_)
        | refine vc_ret ?_ | refine vc_skip ?_
        | fail)
      exact ret_bool isRet_r rfl rfl
    | true =>
      repeat' (first
        | (show VR _ _ _ (_ :: _) _ _ _; first | refine x_opF rfl (by first | exact True.intro | omega) ?_ | (show VR _ _ _ (⟨_, .call ⟨.value _, _, _⟩, _, _, _, _⟩ :: _) _ _ _; first | refine vr_calldU (awake_spec) (gk rfl) rfl rfl rfl (by first | rfl | (simp only [wfRes, wfL, wfArgs, wfs, mpO_namesB, mpO_namesI]; rfl)) rfl (by first | exact newB_nil | exact newB_O | ((simp only [newB, List.map_cons, List.map_nil, Blk.shift, rowOf_shift]) <;> rfl) | rfl) rfl ?_ | refine vr_calldU (fewS_spec s) (gk rfl) rfl rfl rfl (by first | rfl | (simp only [wfRes, wfL, wfArgs, wfs, mpO_namesB, mpO_namesI]; rfl)) rfl (by first | exact newB_nil | exact newB_O | ((simp only [newB, List.map_cons, List.map_nil, Blk.shift, rowOf_shift]) <;> rfl) | rfl) rfl ?_ | refine vr_callU [22] (hl) (gk rfl) rfl (by (repeat' (first | exact .nil | refine .cons ?_ ?_ | exact .of0 (.c .d) | exact .of0 .ep | exact .clo | exact .of0 (.c .nil) | exact .of0 (.c (cr_rowO (by simp) rfl (by first | rfl | omega) (fun _ => rfl))) | refine .of0 (.agg ?_) | exact .d | exact .nil | exact .of0 (.c (cr_row (by decide) rfl rfl (by repeat' (first | exact trivial | refine ⟨?_, ?_⟩ | rfl)))))) <;> fail) (by first | rfl | exact hfl_O (fun _ => rfl) | exact hfl_O2 rfl (fun _ => rfl)) rfl (by first | rfl | (simp only [wfRes, wfL, wfArgs, wfs, mpO_namesB, mpO_namesI]; rfl)) rfl (by first | exact newB_nil | exact newB_O | ((simp only [newB, List.map_cons, List.map_nil, Blk.shift, rowOf_shift]) <;> rfl) | rfl) rfl ?_) | refine x_gknow rfl (by assumption) ?_)
        | (show VR _ _ _ [] _ _ _; first | refine vr_nil ?_)
        | (show thenQ _ _ _ _; first | refine q_then_n ?_)
        | (show VC _ (.seq _ _) _ _; (fail_if_success (show VC _ (.seq (.seq (.region 5 _ _) _) _) _ _)); (fail_if_success (show VC _ (.seq (.region 5 _ _) _) _ _)); refine vc_seq ?_)
        | refine vc_region ?_
        | (show VC _ (.cond _ _ _) _ _; first | refine vc_cond_f rfl ?_)
        | refine vc_skip ?_
        | fail)
      repeat' (first
        | (show VR _ _ _ (_ :: _) _ _ _; first | refine x_opF rfl (by first | exact True.intro | omega) ?_ | (show VR _ _ _ (⟨_, .call ⟨.value _, _, _⟩, _, _, _, _⟩ :: _) _ _ _; first | refine vr_calldU (hb) (gk rfl) rfl rfl rfl (by first | rfl | (simp only [wfRes, wfL, wfArgs, wfs, mpO_namesB, mpO_namesI]; rfl)) rfl (by first | exact newB_nil | exact newB_O | ((simp only [newB, List.map_cons, List.map_nil, Blk.shift, rowOf_shift]) <;> rfl) | rfl) rfl ?_ | refine vr_calldU (hr) (gk rfl) rfl rfl rfl (by first | rfl | (simp only [wfRes, wfL, wfArgs, wfs, mpO_namesB, mpO_namesI]; rfl)) rfl (by first | exact newB_nil | exact newB_O | ((simp only [newB, List.map_cons, List.map_nil, Blk.shift, rowOf_shift]) <;> rfl) | rfl) rfl ?_ | refine vr_calldU (same_refl x1) (gk rfl) rfl rfl rfl (by first | rfl | (simp only [wfRes, wfL, wfArgs, wfs, mpO_namesB, mpO_namesI]; rfl)) rfl (by first | exact newB_nil | exact newB_O | ((simp only [newB, List.map_cons, List.map_nil, Blk.shift, rowOf_shift]) <;> rfl) | rfl) rfl ?_) | (show VR _ _ _ (⟨_, .binOp _ _ _ _ _, _, _, _, _⟩ :: _) _ _ _; first | refine vr_eqlA (gk rfl) rfl rfl rfl rfl rfl rfl rfl ?_) | refine x_gknow rfl (by assumption) ?_ | (refine x_gsplit rfl ?_ ?_ <;> intro h <;> have hq := h <;> (try simp only [hqs] at hq)))
        | (show VR _ _ _ [] _ _ _; first | refine vr_nil ?_)
        | (show thenQ _ _ _ _; first | refine q_then_n ?_)
        | refine vc_seq ?_
        | refine vc_region ?_
        | refine vc_ret ?_
        | fail)
      all_goals first
        | exact ret_bool isRet_r rfl rfl
        | (exfalso; simp at hq; done)
        | (exfalso; exact hq trivial)
end Go.Proofs


