/-
  What functions of the given program hand back, by walks over its code, and plain laws on that. No condition.
-/
import Derived.Test.YtecdajajocafdaaGreatSxP18k
import Derived.Test.YtecdajajocafdaaGreatSxP18o
-- SXS
-- SXM
-- SXN
namespace Go.Proofs
open Go Go.Sx Go.Proofs.T Go.Proofs.Q
set_option maxRecDepth 4000
set_option linter.unusedSimpArgs false
set_option linter.unusedVariables false
attribute [local irreducible] VR VC thenQ blockQ retL

/-! The reference's New, searches, messages. -/
theorem r_new_spec (t : Tb) (limit seed : Int) : FnS Tryz.prog 12 [tbA t, AI limit, AI seed] [] (.tup [stA (newS t limit seed).1, AI (newS t limit seed).2]) [] := by
  have hck := r_checkT_spec t
  refine FnS.of_body (enters_of Tryz.func12 (by kernel_rfl) rfl) Tryz.func12 rfl Tryz.ntmps12 Tryz.results12 rfl rfl rfl rfl fun E hS => ?_
  refine vc_retL ?_
  repeat' (first
    | (show VR _ _ _ (_ :: _) _ _ _; first | refine x_opF rfl (by first | exact True.intro | omega) ?_ | (show VR _ _ _ (⟨_, .call ⟨.value _, _, _⟩, _, _, _, _⟩ :: _) _ _ _; first | refine vr_calldU (hck) (gk rfl) rfl rfl rfl (by first | rfl | (simp only [wfRes, wfL, wfArgs, wfs, mpO_namesB, mpO_namesI]; rfl)) rfl (by first | exact newB_nil | exact newB_O | ((simp only [newB, List.map_cons, List.map_nil, Blk.shift, rowOf_shift]) <;> rfl) | rfl) rfl ?_) | (refine x_gsplit rfl ?_ ?_ <;> intro h <;> have hq := h <;> (try simp only [hqs] at hq)))
    | (show VR _ _ _ [] _ _ _; first | refine vr_nil ?_)
    | (show thenQ _ _ _ _; first | refine q_then_n ?_ | refine q_then_r ?_)
    | refine vc_seq ?_
    | refine vc_region ?_
    | (show VC _ (.cond _ _ _) _ _; first | refine vc_cond_t rfl ?_ | (refine x_cond rfl ?_ ?_ <;> intro h <;> have hq := h <;> (try simp only [hqs] at hq)))
    | refine vc_ret ?_ | refine vc_skip ?_
    | fail)
  · have e : newS t limit seed = (noS, 1) := by rw [newS, if_pos hq]
    rw [e]
    refine retL_of (le_gen0 (l := [(6, .c (.ptr 6 0)), (7, AI 1)]) (b := [(6, .box noS.cs)]) (fun n => n) ?_ ?_ rfl (by first | rfl | (simp only [wfL, wfs, mpO_namesB, mpO_namesI]; rfl))) (ret_agg_dL isRet_r rfl rfl rfl rfl rfl rfl rfl)
    all_goals repeat' (first | exact trivial | refine ⟨⟨_, rfl, ?_⟩, ?_⟩ | exact .c .d | exact .c (.ptr rfl) | refine .box ?_ | exact .nil | refine .cons ?_ ?_ | exact .d | fail)
  · have e : newS t limit seed = (noS, 2) := by rw [newS, if_neg (by omega), if_pos (by omega)]
    rw [e]
    refine retL_of (le_gen0 (l := [(6, .c (.ptr 6 0)), (7, AI 2)]) (b := [(6, .box noS.cs)]) (fun n => n) ?_ ?_ rfl (by first | rfl | (simp only [wfL, wfs, mpO_namesB, mpO_namesI]; rfl))) (ret_agg_dL isRet_r rfl rfl rfl rfl rfl rfl rfl)
    all_goals repeat' (first | exact trivial | refine ⟨⟨_, rfl, ?_⟩, ?_⟩ | exact .c .d | exact .c (.ptr rfl) | refine .box ?_ | exact .nil | refine .cons ?_ ?_ | exact .d | fail)
  · have e : newS t limit seed = (noS, 2) := by rw [newS, if_neg (by omega), if_pos (by omega)]
    rw [e]
    refine retL_of (le_gen0 (l := [(6, .c (.ptr 6 0)), (7, AI 2)]) (b := [(6, .box noS.cs)]) (fun n => n) ?_ ?_ rfl (by first | rfl | (simp only [wfL, wfs, mpO_namesB, mpO_namesI]; rfl))) (ret_agg_dL isRet_r rfl rfl rfl rfl rfl rfl rfl)
    all_goals repeat' (first | exact trivial | refine ⟨⟨_, rfl, ?_⟩, ?_⟩ | exact .c .d | exact .c (.ptr rfl) | refine .box ?_ | exact .nil | refine .cons ?_ ?_ | exact .d | fail)
  · have e : newS t limit seed = (noS, 2) := by rw [newS, if_neg (by omega), if_pos (by omega)]
    rw [e]
    refine retL_of (le_gen0 (l := [(6, .c (.ptr 6 0)), (7, AI 2)]) (b := [(6, .box noS.cs)]) (fun n => n) ?_ ?_ rfl (by first | rfl | (simp only [wfL, wfs, mpO_namesB, mpO_namesI]; rfl))) (ret_agg_dL isRet_r rfl rfl rfl rfl rfl rfl rfl)
    all_goals repeat' (first | exact trivial | refine ⟨⟨_, rfl, ?_⟩, ?_⟩ | exact .c .d | exact .c (.ptr rfl) | refine .box ?_ | exact .nil | refine .cons ?_ ?_ | exact .d | fail)
  · have e : newS t limit seed = (noS, 2) := by rw [newS, if_neg (by omega), if_pos (by omega)]
    rw [e]
    refine retL_of (le_gen0 (l := [(6, .c (.ptr 6 0)), (7, AI 2)]) (b := [(6, .box noS.cs)]) (fun n => n) ?_ ?_ rfl (by first | rfl | (simp only [wfL, wfs, mpO_namesB, mpO_namesI]; rfl))) (ret_agg_dL isRet_r rfl rfl rfl rfl rfl rfl rfl)
    all_goals repeat' (first | exact trivial | refine ⟨⟨_, rfl, ?_⟩, ?_⟩ | exact .c .d | exact .c (.ptr rfl) | refine .box ?_ | exact .nil | refine .cons ?_ ?_ | exact .d | fail)
  · have e : newS t limit seed = (⟨t, ⟨limit, []⟩, [], [], 0, 0, -1, 0, 0, 0, seed⟩, 0) := by rw [newS, if_neg (by omega), if_neg (by omega)]
    rw [e]
    refine retL_of (le_gen0 (l := [(6, .c (.ptr 6 0)), (7, AI 0)]) (b := [(6, .box (Sta.cs ⟨t, ⟨limit, []⟩, [], [], 0, 0, -1, 0, 0, 0, seed⟩))]) (fun n => n) ?_ ?_ rfl (by first | rfl | (simp only [wfL, wfs, mpO_namesB, mpO_namesI]; rfl))) (ret_agg_dL isRet_r rfl rfl rfl rfl rfl rfl rfl)
    all_goals repeat' (first | exact trivial | refine ⟨⟨_, rfl, ?_⟩, ?_⟩ | exact .c .d | exact .c (.ptr rfl) | refine .box ?_ | exact .nil | refine .cons ?_ ?_ | exact .d | fail)
end Go.Proofs


