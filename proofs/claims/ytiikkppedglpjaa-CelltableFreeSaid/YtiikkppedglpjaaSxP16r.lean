/-
  What functions of the given program hand back, by walks over its code, and plain laws on that. No condition.
-/
import Derived.Test.YtiikkppedglpjaaSxP16q
-- SXU
namespace Go.Proofs
open Go Go.Sx
set_option linter.unusedSimpArgs false
set_option linter.unusedVariables false
attribute [local irreducible] VR VC thenQ blockQ retL

def exC : TC := ⟨2, 0, 1, true, 2, 5⟩
def exT : Tb := ⟨0, 4, [⟨0, 1, 1, false, 1, 5⟩, exC]⟩
theorem ex_of : ofM exS 0 = (exT, 0) := by
  simp [ofM, rightS, exS, badC, nodeB, ofTo, ofCell, foundTC, bsTC, bs, exT, exC, Go.Sx.insAt, cmpTC, orI, cmpI]
theorem ex_mask : maskM exS = ([1, 3, 2, 3], 0) := by decide +kernel
theorem ex_at : atM exT 6 = (exC, true) := by decide +kernel
theorem ex_cand : candM exT [1, 3, 2, 3] 9 = [⟨1, 0⟩, ⟨3, 0⟩] := by decide +kernel
set_option maxHeartbeats 1000000 in
theorem awake_spec : FnS Try.prog 11 [] [] (AB true) [] := by
  have h1 := of_spec exS 0
  rw [ex_of] at h1
  have h2 := mask_spec exS
  rw [ex_mask] at h2
  have h3 := at_spec exT 6
  rw [ex_at] at h3
  have h4 := cand_spec exT [1, 3, 2, 3] 9
  rw [ex_cand] at h4
  have h5 := equalI_spec [1, 3, 2, 3] [1, 3, 2, 3]
  rw [decide_eq_true rfl] at h5
  have h6 := equalSp_spec [⟨1, 0⟩, ⟨3, 0⟩] [⟨1, 0⟩, ⟨3, 0⟩]
  rw [decide_eq_true rfl] at h6
  refine FnS.of_body (enters_of Try.func11 (by kernel_rfl) rfl) Try.func11 rfl Try.ntmps11 Try.results11 rfl rfl rfl rfl fun E hS => ?_
  repeat' (first
    | (show VR _ _ _ (_ :: _) _ _ _; first | refine x_opF rfl (by first | exact True.intro | omega) ?_ | (show VR _ _ _ (⟨_, .call ⟨.value _, _, _⟩, _, _, _, _⟩ :: _) _ _ _; first | refine vr_calldU (example_spec) (gk rfl) rfl rfl rfl (by first | rfl | (simp only [wfRes, wfL, wfArgs, List.all_cons, List.all_nil, rowOf_blk]; rfl)) rfl (by first | exact newB_O | rfl) rfl ?_ | refine vr_calldU (h1) (gk rfl) rfl rfl rfl (by first | rfl | (simp only [wfRes, wfL, wfArgs, List.all_cons, List.all_nil, rowOf_blk]; rfl)) rfl (by first | exact newB_O | rfl) rfl ?_ | refine vr_calldU (h2) (gk rfl) rfl rfl rfl (by first | rfl | (simp only [wfRes, wfL, wfArgs, List.all_cons, List.all_nil, rowOf_blk]; rfl)) rfl (by first | exact newB_O | rfl) rfl ?_ | refine vr_calldU (h3) (gk rfl) rfl rfl rfl (by first | rfl | (simp only [wfRes, wfL, wfArgs, List.all_cons, List.all_nil, rowOf_blk]; rfl)) rfl (by first | exact newB_O | rfl) rfl ?_ | refine vr_calldU (h4) (gk rfl) rfl rfl rfl (by first | rfl | (simp only [wfRes, wfL, wfArgs, List.all_cons, List.all_nil, rowOf_blk]; rfl)) rfl (by first | exact newB_O | rfl) rfl ?_ | refine vr_callU [] (example_spec) (gk rfl) rfl (by (repeat' (first | exact .nil | refine .cons ?_ ?_ | exact .of0 (.c .d) | exact .of0 .ep | exact .clo | exact .of0 (.c .nil) | exact .of0 (.c (cr_rowO (by simp) rfl (by first | rfl | omega) (fun _ => rfl))) | refine .of0 (.agg ?_) | exact .d | exact .nil | exact .of0 (.c (cr_row (by decide) rfl rfl (by repeat' (first | exact trivial | refine ⟨?_, ?_⟩ | rfl)))))) <;> fail) (by first | rfl | exact hfl_O (fun _ => rfl) | exact hfl_O2 rfl (fun _ => rfl)) rfl (by first | rfl | (simp only [wfRes, wfL, wfArgs, List.all_cons, List.all_nil, rowOf_blk]; rfl)) rfl (by first | exact newB_O | rfl) rfl ?_ | refine vr_callU [] (h1) (gk rfl) rfl (by (repeat' (first | exact .nil | refine .cons ?_ ?_ | exact .of0 (.c .d) | exact .of0 .ep | exact .clo | exact .of0 (.c .nil) | exact .of0 (.c (cr_rowO (by simp) rfl (by first | rfl | omega) (fun _ => rfl))) | refine .of0 (.agg ?_) | exact .d | exact .nil | exact .of0 (.c (cr_row (by decide) rfl rfl (by repeat' (first | exact trivial | refine ⟨?_, ?_⟩ | rfl)))))) <;> fail) (by first | rfl | exact hfl_O (fun _ => rfl) | exact hfl_O2 rfl (fun _ => rfl)) rfl (by first | rfl | (simp only [wfRes, wfL, wfArgs, List.all_cons, List.all_nil, rowOf_blk]; rfl)) rfl (by first | exact newB_O | rfl) rfl ?_ | refine vr_callU [] (h2) (gk rfl) rfl (by (repeat' (first | exact .nil | refine .cons ?_ ?_ | exact .of0 (.c .d) | exact .of0 .ep | exact .clo | exact .of0 (.c .nil) | exact .of0 (.c (cr_rowO (by simp) rfl (by first | rfl | omega) (fun _ => rfl))) | refine .of0 (.agg ?_) | exact .d | exact .nil | exact .of0 (.c (cr_row (by decide) rfl rfl (by repeat' (first | exact trivial | refine ⟨?_, ?_⟩ | rfl)))))) <;> fail) (by first | rfl | exact hfl_O (fun _ => rfl) | exact hfl_O2 rfl (fun _ => rfl)) rfl (by first | rfl | (simp only [wfRes, wfL, wfArgs, List.all_cons, List.all_nil, rowOf_blk]; rfl)) rfl (by first | exact newB_O | rfl) rfl ?_ | refine vr_callU [] (h3) (gk rfl) rfl (by (repeat' (first | exact .nil | refine .cons ?_ ?_ | exact .of0 (.c .d) | exact .of0 .ep | exact .clo | exact .of0 (.c .nil) | exact .of0 (.c (cr_rowO (by simp) rfl (by first | rfl | omega) (fun _ => rfl))) | refine .of0 (.agg ?_) | exact .d | exact .nil | exact .of0 (.c (cr_row (by decide) rfl rfl (by repeat' (first | exact trivial | refine ⟨?_, ?_⟩ | rfl)))))) <;> fail) (by first | rfl | exact hfl_O (fun _ => rfl) | exact hfl_O2 rfl (fun _ => rfl)) rfl (by first | rfl | (simp only [wfRes, wfL, wfArgs, List.all_cons, List.all_nil, rowOf_blk]; rfl)) rfl (by first | exact newB_O | rfl) rfl ?_ | refine vr_callU [] (h4) (gk rfl) rfl (by (repeat' (first | exact .nil | refine .cons ?_ ?_ | exact .of0 (.c .d) | exact .of0 .ep | exact .clo | exact .of0 (.c .nil) | exact .of0 (.c (cr_rowO (by simp) rfl (by first | rfl | omega) (fun _ => rfl))) | refine .of0 (.agg ?_) | exact .d | exact .nil | exact .of0 (.c (cr_row (by decide) rfl rfl (by repeat' (first | exact trivial | refine ⟨?_, ?_⟩ | rfl)))))) <;> fail) (by first | rfl | exact hfl_O (fun _ => rfl) | exact hfl_O2 rfl (fun _ => rfl)) rfl (by first | rfl | (simp only [wfRes, wfL, wfArgs, List.all_cons, List.all_nil, rowOf_blk]; rfl)) rfl (by first | exact newB_O | rfl) rfl ?_ | refine vr_callU [38] (h5) (gk rfl) rfl (by (repeat' (first | exact .nil | refine .cons ?_ ?_ | exact .of0 (.c .d) | exact .of0 .ep | exact .clo | exact .of0 (.c .nil) | exact .of0 (.c (cr_rowO (by simp) rfl (by first | rfl | omega) (fun _ => rfl))) | refine .of0 (.agg ?_) | exact .d | exact .nil | exact .of0 (.c (cr_row (by decide) rfl rfl (by repeat' (first | exact trivial | refine ⟨?_, ?_⟩ | rfl)))))) <;> fail) (by first | rfl | exact hfl_O (fun _ => rfl) | exact hfl_O2 rfl (fun _ => rfl)) rfl (by first | rfl | (simp only [wfRes, wfL, wfArgs, List.all_cons, List.all_nil, rowOf_blk]; rfl)) rfl (by first | exact newB_O | rfl) rfl ?_ | refine vr_callU [47] (h6) (gk rfl) rfl (by (repeat' (first | exact .nil | refine .cons ?_ ?_ | exact .of0 (.c .d) | exact .of0 .ep | exact .clo | exact .of0 (.c .nil) | exact .of0 (.c (cr_rowO (by simp) rfl (by first | rfl | omega) (fun _ => rfl))) | refine .of0 (.agg ?_) | exact .d | exact .nil | exact .of0 (.c (cr_row (by decide) rfl rfl (by repeat' (first | exact trivial | refine ⟨?_, ?_⟩ | rfl)))))) <;> fail) (by first | rfl | exact hfl_O (fun _ => rfl) | exact hfl_O2 rfl (fun _ => rfl)) rfl (by first | rfl | (simp only [wfRes, wfL, wfArgs, List.all_cons, List.all_nil, rowOf_blk]; rfl)) rfl (by first | exact newB_O | rfl) rfl ?_) | (show VR _ _ _ (⟨_, .nilCheck _, _, _, _, _⟩ :: _) _ _ _; first | refine vr_nilCheck_rp (gk rfl) rfl rfl ?_ | refine vr_nilCheck_ptr (gk rfl) rfl rfl ?_ | refine vr_nilCheck_ep (gk rfl) rfl rfl ?_) | (show VR _ _ _ (⟨_, .binOp _ _ _ _ _, _, _, _, _⟩ :: _) _ _ _; first | refine vr_eqlA (gk rfl) rfl rfl rfl rfl rfl rfl rfl ?_) | (show VR _ _ _ (⟨_, .pick _ _ _, _, _, _, _⟩ :: _) _ _ _; first | refine vr_pick_true (gk rfl) rfl (by assumption) rfl rfl ?_ | refine vr_pick_false (gk rfl) rfl (by assumption) rfl rfl ?_) | refine x_gknow rfl (by assumption) ?_ | (refine x_gsplit rfl ?_ ?_ <;> intro h <;> have hq := h <;> (try simp only [decide_eq_true_eq, decide_eq_false_iff_not, Int.not_lt, Int.not_le, ne_eq, Decidable.not_not, Bool.not_eq_true', Bool.not_eq_false'] at hq)))
    | (show VR _ _ _ [] _ _ _; first | refine vr_nil ?_ | refine vr_nil_t (by kernel_rfl) ?_)
    | (show thenQ _ _ _ _; first | refine q_then_n ?_ | refine q_then_x ?_ | refine q_then_r ?_)
    | (show blockQ _ _ _ _; first | refine q_blk_n ?_ | refine q_blk_r ?_ | refine q_blk_x ?_ | refine q_blk_o rfl ?_)
    | refine vc_seq ?_
    | refine vc_region ?_ | refine vc_region_t ?_
    | (show VC _ (.cond _ _ _) _ _; first | refine vc_cond_t rfl ?_ | refine vc_cond_f rfl ?_ | refine x_know rfl (by assumption) ?_ | (refine x_cond rfl ?_ ?_ <;> intro h <;> have hq := h <;> (try simp only [decide_eq_true_eq, decide_eq_false_iff_not, Int.not_lt, Int.not_le, ne_eq, Decidable.not_not, Bool.not_eq_true', Bool.not_eq_false'] at hq)))
    | refine vc_ret ?_ | refine vc_exit ?_ | refine vc_block ?_ | refine vc_skip ?_ | refine vc_label ?_)
  all_goals exact ret_bool isRet_r rfl rfl
end Go.Proofs


