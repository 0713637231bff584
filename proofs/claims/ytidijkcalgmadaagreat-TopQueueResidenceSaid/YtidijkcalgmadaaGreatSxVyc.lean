/-
  What functions of the given program hand back, by walks over its code, and plain laws on that. No condition.
-/
import Derived.Test.YtidijkcalgmadaaGreatSxVyb
-- SXS
-- SXM
-- SXN
namespace Go.Proofs
open Go Go.Sx Go.Proofs.T Go.Proofs.Q
set_option maxRecDepth 4000
set_option linter.unusedSimpArgs false
set_option linter.unusedVariables false
attribute [local irreducible] VR VC thenQ blockQ retL

/-! The example. -/
def qT : Tb := wT 4 [1, 2]
def qS : Sta := ⟨qT, ⟨4, []⟩, [], [], 0, 0, -1, 0, 0, 0, 0⟩
def qP : Pk := ⟨5, 2, 0, 0, 9, ⟨#[97]⟩⟩
def qS1 : Sta := { qS with qu := ⟨4, [qP]⟩ }
theorem q_waits : FnS Tryz.prog 7 [AI 4, AD (rdOf enc8' 1 [1, 2])] [] (.tup [tbA qT, AI 3]) [] := by
  have h := waits_spec 4 [1, 2] (by decide) (by decide) (by decide) (by decide)
  have e1 : wT 4 (wS 4 [1, 2] [(1 : Int), 2].length) = qT := by kernel_rfl
  have e2 : gapW 4 [1, 2] = 3 := by kernel_rfl
  rwa [e1, e2] at h
theorem q_new : FnS Tryz.prog 8 [tbA qT, AI 4, AI 0] [] (.tup [stA qS, AI 0]) [] := by
  have h := new_spec qT 4 0
  have e : newS qT 4 0 = (qS, 0) := by kernel_rfl
  rwa [e] at h
theorem q_put : FnS Tryz.prog 10 [stA qS, pkA qP] [] (.tup [stA qS1, AD (pks []), AI 0]) [] := by
  have h := mput_spec qS qP
  have e : putS qS qP = (qS1, [], 0) := by kernel_rfl
  rwa [e] at h
def qA : Ac := actM qS1 1 (wc 1)
theorem q_act : FnS Tryz.prog 27 [stA qS1, AI 1] [] (.tup [acA qA, AI 0]) [] := by
  have h := act_spec qS1 1
  have e : actS qS1 1 = (qA, 0) := by kernel_rfl
  rwa [e] at h
theorem q_bound : FnS Tryz.prog 11 [quA qS1.qu, AI 5, AI 3] [] (.tup [AI 3, AI 0]) [] := by
  have h := bound_spec qS1.qu 5 3
  have e : boundQ qS1.qu 5 3 = (3, 0) := by kernel_rfl
  rwa [e] at h
theorem q_check : FnS Tryz.prog 28 [tbA qT] [] (AI 0) [] := by
  have h := checkT_spec qT
  have e : checkT qT = 0 := by kernel_rfl
  rwa [e] at h
set_option maxHeartbeats 2000000 in
theorem works_spec : FnS Tryz.prog 6 [] [] (AB true) [] := by
  refine FnS.of_body (enters_of Tryz.func6 (by kernel_rfl) rfl) Tryz.func6 rfl Tryz.ntmps6 Tryz.results6 rfl rfl rfl rfl fun E hS => ?_
  repeat' (first
    | (show VR _ _ _ (_ :: _) _ _ _; first | refine x_opF rfl (by first | exact True.intro | omega) ?_ | (show VR _ _ _ (⟨_, .call ⟨.value _, _, _⟩, _, _, _, _⟩ :: _) _ _ _; first | refine vr_callZ (nmL []) [12] [] (FnS.toW (q_waits)) (gk rfl) rfl rfl (by (repeat' (first | exact .nil | refine .cons ?_ ?_ | exact .w (.c (.ptr rfl)) rfl | exact .w (.c (.row rfl rfl)) rfl | exact .w (.c (.mp rfl)) rfl | exact .w (.c (.fn rfl)) rfl | exact .w (.rp rfl) rfl | (refine .w (.fncC ?_) rfl; repeat' (first | exact .nil | refine .cons ?_ ?_ | exact .d | exact .ptr rfl | exact .row rfl rfl | (refine .row rfl ?_; ((try dsimp only); first | rfl | omega | (simp only [lns] <;> omega)); done) | exact .fn rfl | exact .mp rfl | exact .frzOf (by first | (simp; done) | decide) rfl rfl (fun _ => rfl))) | exact .r (.of0 (.c .d)) | refine .r ?_ | exact .of0 (.c .d) | exact .of0 .ep | exact .clo | exact .of0 (.c .nil) | exact .of0 (.c (cr_rowO (by simp) rfl (by first | rfl | omega) (fun _ => rfl))) | refine .of0 (.agg ?_) | exact .d | exact .nil | exact .of0 (.c (cr_row (by decide) rfl rfl (by repeat' (first | exact trivial | refine ⟨?_, ?_⟩ | rfl)))))) <;> fail) trivial rfl rfl rfl hS rfl (by first | rfl | (simp only [wfRes, wfL, wfArgs, wfs, mpO_namesB, mpO_namesI]; rfl)) rfl rfl rfl rfl (by (simp only [newW, List.map_cons, List.map_nil, Blk.ren, C.ren, rowOf_ren, mpO_renB, mpO_renI, gW, memN, nmL, Nat.reduceBEq, Bool.or_false, Bool.or_true, Bool.false_or, Bool.true_or, cond_true, cond_false, Nat.reduceMul, Nat.reduceAdd]) <;> rfl) (by (simp only [AV.ren, AV.ren0, List.map_cons, List.map_nil, C.ren, gW, memN, nmL, Nat.reduceBEq, Bool.or_false, Bool.or_true, Bool.false_or, Bool.true_or, cond_true, cond_false, Nat.reduceMul, Nat.reduceAdd]) <;> rfl) rfl ?_))
    | (show VR _ _ _ [] _ _ _; first | refine vr_nil ?_)
    | (show thenQ _ _ _ _; first | refine q_then_n ?_)
    | (show VC _ (.seq _ _) _ _; (fail_if_success (show VC _ (.seq (.seq (.region 2 _ _) _) _) _ _)); (fail_if_success (show VC _ (.seq (.region 2 _ _) _) _ _)); refine vc_seq ?_)
    | refine vc_region ?_
    | fail)
  refine VC.le (σ' := stOf [(0, AB false), (1, .c (.ptr 1 0)), (2, AI 3)] [(1, .box qT.cs)]) ?_ ?_
  · refine le_gen0 (fun n => n) ?_ ?_ rfl (by first | rfl | (simp only [wfL, wfs, mpO_namesB, mpO_namesI]; rfl))
    all_goals repeat' (first | exact trivial | refine ⟨⟨_, rfl, ?_⟩, ?_⟩ | exact .c .d | exact .c (.ptr rfl) | exact .boxD rfl rfl | fail)
  repeat' (first
    | (show VR _ _ _ (_ :: _) _ _ _; first | refine x_opF rfl (by first | exact True.intro | omega) ?_ | (show VR _ _ _ (⟨_, .call ⟨.value _, _, _⟩, _, _, _, _⟩ :: _) _ _ _; first | refine vr_calldU (q_new) (gk rfl) rfl rfl rfl (by first | rfl | (simp only [wfRes, wfL, wfArgs, wfs, mpO_namesB, mpO_namesI]; rfl)) rfl (by first | exact newB_nil | exact newB_O | ((simp only [newB, List.map_cons, List.map_nil, Blk.shift, rowOf_shift]) <;> rfl) | rfl) rfl ?_))
    | (show VR _ _ _ [] _ _ _; first | refine vr_nil ?_)
    | (show thenQ _ _ _ _; first | refine q_then_n ?_)
    | (show VC _ (.seq _ _) _ _; (fail_if_success (show VC _ (.seq (.seq (.region 3 _ _) _) _) _ _)); (fail_if_success (show VC _ (.seq (.region 3 _ _) _) _ _)); refine vc_seq ?_)
    | refine vc_region ?_
    | fail)
  refine VC.le (σ' := stOf [(0, AB false), (1, .c (.ptr 1 0)), (2, AI 3), (3, .c (.ptr 3 0)), (4, AI 0)] [(1, .box qT.cs), (3, .box qS.cs)]) ?_ ?_
  · refine le_gen0 (fun n => n) ?_ ?_ rfl (by first | rfl | (simp only [wfL, wfs, mpO_namesB, mpO_namesI]; rfl))
    all_goals repeat' (first | exact trivial | refine ⟨⟨_, rfl, ?_⟩, ?_⟩ | exact .c .d | exact .c (.ptr rfl) | exact .boxD rfl rfl | fail)
  repeat' (first
    | (show VR _ _ _ (_ :: _) _ _ _; first | refine x_opF rfl (by first | exact True.intro | omega) ?_ | (show VR _ _ _ (⟨_, .call ⟨.value _, _, _⟩, _, _, _, _⟩ :: _) _ _ _; first | refine vr_calldU (q_put) (gk rfl) rfl rfl rfl (by first | rfl | (simp only [wfRes, wfL, wfArgs, wfs, mpO_namesB, mpO_namesI]; rfl)) rfl (by first | exact newB_nil | exact newB_O | ((simp only [newB, List.map_cons, List.map_nil, Blk.shift, rowOf_shift]) <;> rfl) | rfl) rfl ?_))
    | (show VR _ _ _ [] _ _ _; first | refine vr_nil ?_)
    | (show thenQ _ _ _ _; first | refine q_then_n ?_)
    | (show VC _ (.seq _ _) _ _; (fail_if_success (show VC _ (.seq (.seq (.region 4 _ _) _) _) _ _)); (fail_if_success (show VC _ (.seq (.region 4 _ _) _) _ _)); refine vc_seq ?_)
    | refine vc_region ?_
    | fail)
  refine VC.le (σ' := stOf [(0, AB false), (1, .c (.ptr 1 0)), (2, AI 3), (3, .c (.ptr 3 0)), (4, AI 0), (6, AI 0)] [(1, .box qT.cs), (3, .box qS1.cs)]) ?_ ?_
  · refine le_gen0 (fun n => n) ?_ ?_ rfl (by first | rfl | (simp only [wfL, wfs, mpO_namesB, mpO_namesI]; rfl))
    all_goals repeat' (first | exact trivial | refine ⟨⟨_, rfl, ?_⟩, ?_⟩ | exact .c .d | exact .c (.ptr rfl) | exact .boxD rfl rfl | fail)
  repeat' (first
    | (show VR _ _ _ (_ :: _) _ _ _; first | refine x_opF rfl (by first | exact True.intro | omega) ?_ | (show VR _ _ _ (⟨_, .call ⟨.value _, _, _⟩, _, _, _, _⟩ :: _) _ _ _; first | refine vr_calldU (q_act) (gk rfl) rfl rfl rfl (by first | rfl | (simp only [wfRes, wfL, wfArgs, wfs, mpO_namesB, mpO_namesI]; rfl)) rfl (by first | exact newB_nil | exact newB_O | ((simp only [newB, List.map_cons, List.map_nil, Blk.shift, rowOf_shift]) <;> rfl) | rfl) rfl ?_))
    | (show VR _ _ _ [] _ _ _; first | refine vr_nil ?_)
    | (show thenQ _ _ _ _; first | refine q_then_n ?_)
    | (show VC _ (.seq _ _) _ _; (fail_if_success (show VC _ (.seq (.seq (.region 5 _ _) _) _) _ _)); (fail_if_success (show VC _ (.seq (.region 5 _ _) _) _ _)); refine vc_seq ?_)
    | refine vc_region ?_
    | fail)
  refine VC.le (σ' := stOf [(0, AB false), (1, .c (.ptr 1 0)), (2, AI 3), (3, .c (.ptr 3 0)), (4, AI 0), (6, AI 0), (7, .c (.ptr 7 0)), (8, AI 0)] [(1, .box qT.cs), (3, .box qS1.cs), (7, .box qA.cs)]) ?_ ?_
  · refine le_gen0 (fun n => n) ?_ ?_ rfl (by first | rfl | (simp only [wfL, wfs, mpO_namesB, mpO_namesI]; rfl))
    all_goals repeat' (first | exact trivial | refine ⟨⟨_, rfl, ?_⟩, ?_⟩ | exact .c .d | exact .c (.ptr rfl) | exact .boxD rfl rfl | fail)
  repeat' (first
    | (show VR _ _ _ (_ :: _) _ _ _; first | refine x_opF rfl (by first | exact True.intro | omega) ?_ | (show VR _ _ _ (⟨_, .call ⟨.value _, _, _⟩, _, _, _, _⟩ :: _) _ _ _; first | refine vr_calldU (q_bound) (gk rfl) rfl rfl rfl (by first | rfl | (simp only [wfRes, wfL, wfArgs, wfs, mpO_namesB, mpO_namesI]; rfl)) rfl (by first | exact newB_nil | exact newB_O | ((simp only [newB, List.map_cons, List.map_nil, Blk.shift, rowOf_shift]) <;> rfl) | rfl) rfl ?_))
    | (show VR _ _ _ [] _ _ _; first | refine vr_nil ?_)
    | (show thenQ _ _ _ _; first | refine q_then_n ?_)
    | (show VC _ (.seq _ _) _ _; (fail_if_success (show VC _ (.seq (.seq (.region 6 _ _) _) _) _ _)); (fail_if_success (show VC _ (.seq (.region 6 _ _) _) _ _)); refine vc_seq ?_)
    | refine vc_region ?_
    | fail)
  have dk : decide (qA.kind = 1) = true := by kernel_rfl
  repeat' (first
    | (show VR _ _ _ (_ :: _) _ _ _; first | refine x_opF rfl (by first | exact True.intro | omega) ?_ | (show VR _ _ _ (⟨_, .call ⟨.value _, _, _⟩, _, _, _, _⟩ :: _) _ _ _; first | refine vr_calldU (q_check) (gk rfl) rfl rfl rfl (by first | rfl | (simp only [wfRes, wfL, wfArgs, wfs, mpO_namesB, mpO_namesI]; rfl)) rfl (by first | exact newB_nil | exact newB_O | ((simp only [newB, List.map_cons, List.map_nil, Blk.shift, rowOf_shift]) <;> rfl) | rfl) rfl ?_))
    | (show VR _ _ _ [] _ _ _; first | refine vr_nil ?_)
    | (show thenQ _ _ _ _; first | refine q_then_n ?_)
    | refine vc_seq ?_
    | refine vc_region ?_
    | refine vc_ret ?_
    | fail)
  all_goals first
    | exact ret_bool isRet_r rfl rfl
    | trace_state
end Go.Proofs


