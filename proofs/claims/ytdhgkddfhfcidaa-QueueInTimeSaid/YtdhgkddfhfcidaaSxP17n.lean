/-
  What functions of the given program hand back, by walks over its code, and plain laws on that. No condition.
-/
import Derived.Test.YtdhgkddfhfcidaaSxP17m
-- SXS
-- SXM
namespace Go.Proofs
open Go Go.Sx
set_option linter.unusedSimpArgs false
set_option linter.unusedVariables false
attribute [local irreducible] VR VC thenQ blockQ retL

def xp1 : Pk := ⟨1, 4, 1, 0, 5, ⟨#[]⟩⟩
def xp2 : Pk := ⟨2, 4, 2, 0, 5, ⟨#[]⟩⟩
def xp3 : Pk := ⟨3, 4, 0, 0, 5, ⟨#[]⟩⟩
theorem ex1 : putQ ⟨2, []⟩ xp1 = (⟨2, [xp1]⟩, [], 0) := by decide +kernel
theorem ex2 : putQ ⟨2, [xp1]⟩ xp2 = (⟨2, [xp1, xp2]⟩, [], 0) := by decide +kernel
theorem ex3 : putQ ⟨2, [xp1, xp2]⟩ xp3 = (⟨2, [xp3, xp1]⟩, [xp2], 0) := by decide +kernel
theorem ex4 : boundQ ⟨2, [xp3, xp1]⟩ 1 3 = (6, 0) := by decide +kernel
theorem ex5 : serveQ ⟨2, [xp3, xp1]⟩ 2 [-2, 4, -2, -2] = (⟨2, []⟩, [⟨3, 3, false⟩, ⟨1, 5, true⟩], 0) := by decide +kernel
set_option maxHeartbeats 2000000 in
theorem awake_spec : FnS Try.prog 11 [] [] (AB true) [] := by
  have h1 := put_spec ⟨2, []⟩ xp1
  rw [ex1] at h1
  have h2 := put_spec ⟨2, [xp1]⟩ xp2
  rw [ex2] at h2
  have h3 := put_spec ⟨2, [xp1, xp2]⟩ xp3
  rw [ex3] at h3
  have h4 := bound_spec ⟨2, [xp3, xp1]⟩ 1 3
  rw [ex4] at h4
  have h5 := serve_spec ⟨2, [xp3, xp1]⟩ 2 [-2, 4, -2, -2]
  rw [ex5] at h5
  have h6 := equalDp_spec [⟨3, 3, false⟩, ⟨1, 5, true⟩] [⟨3, 3, false⟩, ⟨1, 5, true⟩]
  rw [decide_eq_true rfl] at h6
  refine FnS.of_body (enters_of Try.func11 (by kernel_rfl) rfl) Try.func11 rfl Try.ntmps11 Try.results11 rfl rfl rfl rfl fun E hS => ?_
  repeat' (first
    | (show VR _ _ _ (_ :: _) _ _ _; first | refine x_opF rfl (by first | exact True.intro | omega) ?_ | (show VR _ _ _ (⟨_, .call ⟨.value _, _, _⟩, _, _, _, _⟩ :: _) _ _ _; first | refine vr_calldU (h2) (gk rfl) rfl rfl rfl (by first | rfl | (simp only [wfRes, wfL, wfArgs, wfs, mpO_namesB, mpO_namesI]; rfl)) rfl (by first | exact newB_O | rfl) rfl ?_ | refine vr_calldU (h3) (gk rfl) rfl rfl rfl (by first | rfl | (simp only [wfRes, wfL, wfArgs, wfs, mpO_namesB, mpO_namesI]; rfl)) rfl (by first | exact newB_O | rfl) rfl ?_ | refine vr_calldU (h4) (gk rfl) rfl rfl rfl (by first | rfl | (simp only [wfRes, wfL, wfArgs, wfs, mpO_namesB, mpO_namesI]; rfl)) rfl (by first | exact newB_O | rfl) rfl ?_ | refine vr_callU [] (h1) (gk rfl) rfl (by (repeat' (first | exact .nil | refine .cons ?_ ?_ | exact .of0 (.c .d) | exact .of0 .ep | exact .clo | exact .of0 (.c .nil) | exact .of0 (.c (cr_rowO (by simp) rfl (by first | rfl | omega) (fun _ => rfl))) | refine .of0 (.agg ?_) | exact .d | exact .nil | exact .of0 (.c (cr_row (by decide) rfl rfl (by repeat' (first | exact trivial | refine ⟨?_, ?_⟩ | rfl)))))) <;> fail) (by first | rfl | exact hfl_O (fun _ => rfl) | exact hfl_O2 rfl (fun _ => rfl)) rfl (by first | rfl | (simp only [wfRes, wfL, wfArgs, wfs, mpO_namesB, mpO_namesI]; rfl)) rfl (by first | exact newB_O | rfl) rfl ?_ | refine vr_callU [91] (h6) (gk rfl) rfl (by (repeat' (first | exact .nil | refine .cons ?_ ?_ | exact .of0 (.c .d) | exact .of0 .ep | exact .clo | exact .of0 (.c .nil) | exact .of0 (.c (cr_rowO (by simp) rfl (by first | rfl | omega) (fun _ => rfl))) | refine .of0 (.agg ?_) | exact .d | exact .nil | exact .of0 (.c (cr_row (by decide) rfl rfl (by repeat' (first | exact trivial | refine ⟨?_, ?_⟩ | rfl)))))) <;> fail) (by first | rfl | exact hfl_O (fun _ => rfl) | exact hfl_O2 rfl (fun _ => rfl)) rfl (by first | rfl | (simp only [wfRes, wfL, wfArgs, wfs, mpO_namesB, mpO_namesI]; rfl)) rfl (by first | exact newB_O | rfl) rfl ?_ | refine vr_callZ (nmL []) [42] [] (FnS.toW (h5)) (gk rfl) rfl rfl (by (repeat' (first | exact .nil | refine .cons ?_ ?_ | exact .w (.c (.ptr rfl)) rfl | exact .w (.c (.row rfl rfl)) rfl | exact .w (.c (.mp rfl)) rfl | exact .w (.c (.fn rfl)) rfl | exact .w (.rp rfl) rfl | (refine .w (.fncC ?_) rfl; repeat' (first | exact .nil | refine .cons ?_ ?_ | exact .d | exact .ptr rfl | exact .row rfl rfl | (refine .row rfl ?_; ((try dsimp only); first | rfl | omega | (simp only [lns] <;> omega)); done) | exact .fn rfl | exact .mp rfl | exact .frzOf (by simp) rfl rfl (fun _ => rfl))) | exact .r (.of0 (.c .d)) | refine .r ?_ | exact .of0 (.c .d) | exact .of0 .ep | exact .clo | exact .of0 (.c .nil) | exact .of0 (.c (cr_rowO (by simp) rfl (by first | rfl | omega) (fun _ => rfl))) | refine .of0 (.agg ?_) | exact .d | exact .nil | exact .of0 (.c (cr_row (by decide) rfl rfl (by repeat' (first | exact trivial | refine ⟨?_, ?_⟩ | rfl)))))) <;> fail) trivial rfl rfl rfl hS rfl (by first | rfl | (simp only [wfRes, wfL, wfArgs, wfs, mpO_namesB, mpO_namesI]; rfl)) rfl rfl rfl rfl (by (simp only [newW, List.map_cons, List.map_nil, Blk.ren, C.ren, rowOf_ren, mpO_renB, mpO_renI, gW, memN, nmL, Nat.reduceBEq, Bool.or_false, Bool.or_true, Bool.false_or, Bool.true_or, cond_true, cond_false, Nat.reduceMul, Nat.reduceAdd]) <;> rfl) (by (simp only [AV.ren, AV.ren0, List.map_cons, List.map_nil, C.ren, gW, memN, nmL, Nat.reduceBEq, Bool.or_false, Bool.or_true, Bool.false_or, Bool.true_or, cond_true, cond_false, Nat.reduceMul, Nat.reduceAdd]) <;> rfl) rfl ?_) | (show VR _ _ _ (⟨_, .indexAddr _ _ _, _, _, _, _⟩ :: _) _ _ _; first | refine vr_index_rd (gk rfl) rfl rfl rfl rfl rfl (by omega) rfl ?_ | refine vr_index_rdP (gk rfl) rfl rfl rfl rfl rfl (by omega) rfl ?_ | refine vr_index_rdN (gk rfl) rfl rfl rfl rfl (by first | omega | decide) rfl ?_ | refine vr_index_rowO (gk rfl) rfl rfl rfl rfl rfl rfl (by omega) (by omega) rfl ?_ | refine vr_index_row (gk rfl) rfl rfl rfl rfl rfl rfl (by omega) (by omega) rfl ?_ | refine vr_index_rowN (gk rfl) rfl rfl rfl rfl rfl (by omega) (by first | rfl | exact rowOf_length.symm | (simp only [lns] <;> omega)) rfl ?_) | (show VR _ _ _ (⟨_, .call ⟨.builtin .len, _, _⟩, _, _, _, _⟩ :: _) _ _ _; first | refine vr_len_row (gk rfl) rfl rfl (by first | rfl | exact rowOf_length.symm | (simp only [lns] <;> omega)) rfl rfl ?_ | refine vr_len_sub (gk rfl) rfl rfl rfl ?_ | refine vr_len_full (gk rfl) rfl rfl rfl rfl ?_) | (show VR _ _ _ (⟨_, .nilCheck _, _, _, _, _⟩ :: _) _ _ _; first | refine vr_nilCheck_rp (gk rfl) rfl rfl ?_ | refine vr_nilCheck_ptr (gk rfl) rfl rfl ?_ | refine vr_nilCheck_ep (gk rfl) rfl rfl ?_) | (show VR _ _ _ (⟨_, .load _ _, _, _, _, _⟩ :: _) _ _ _; first | refine vr_load_rowO_agg (gk rfl) rfl rfl (by omega) rfl rfl rfl ?_ | refine vr_load_rowO (gk rfl) rfl rfl (by omega) rfl rfl rfl ?_ | refine vr_load_rowS_agg (gk rfl) rfl rfl (by omega) rfl rfl rfl ?_ | refine vr_load_rowS (gk rfl) rfl rfl (by omega) rfl rfl rfl ?_) | (show VR _ _ _ (⟨_, .store _ _ _, _, _, _, _⟩ :: _) _ _ _; first | refine vr_store_rowO (gk rfl) rfl rfl rfl (by omega) rfl rfl rfl ?_ | refine vr_store_rowS (gk rfl) rfl rfl rfl (by omega) rfl rfl rfl ?_) | (show VR _ _ _ (⟨_, .pick _ _ _, _, _, _, _⟩ :: _) _ _ _; first | refine vr_pick_true (gk rfl) rfl (by assumption) rfl rfl ?_ | refine vr_pick_false (gk rfl) rfl (by assumption) rfl rfl ?_) | refine x_gknow rfl (by assumption) ?_ | (refine x_gsplit rfl ?_ ?_ <;> intro h <;> have hq := h <;> (try simp only [hqs] at hq)))
    | (show VR _ _ _ [] _ _ _; first | refine vr_nil ?_ | refine vr_nil_t (by kernel_rfl) ?_)
    | (show thenQ _ _ _ _; first | refine q_then_n ?_ | refine q_then_x ?_ | refine q_then_r ?_)
    | (show blockQ _ _ _ _; first | refine q_blk_n ?_ | refine q_blk_r ?_ | refine q_blk_x ?_ | refine q_blk_o rfl ?_)
    | refine vc_seq ?_
    | refine vc_region ?_ | refine vc_region_t ?_
    | (show VC _ (.cond _ _ _) _ _; first | refine vc_cond_t rfl ?_ | refine vc_cond_f rfl ?_ | refine x_know rfl (by assumption) ?_ | (refine x_cond rfl ?_ ?_ <;> intro h <;> have hq := h <;> (try simp only [hqs] at hq)))
    | refine vc_ret ?_ | refine vc_exit ?_ | refine vc_block ?_ | refine vc_skip ?_ | refine vc_label ?_)
  all_goals exact ret_bool isRet_r rfl rfl

end Go.Proofs


