/-
  What functions of the given program hand back, by walks over its code, and plain laws on that. No condition.
-/
import Derived.Test.YtecdajajocafdaaSxO18m
-- SXS
namespace Go.Proofs
open Go Go.Sx Go.Proofs.T Go.Proofs.Q
set_option maxRecDepth 4000
set_option linter.unusedSimpArgs false
set_option linter.unusedVariables false
attribute [local irreducible] VR VC thenQ blockQ retL
/-! Frames: are they right, and for whom. -/
theorem fin_spec (n m : Int) : FnS Try.prog 85 [AI n, AI m] [] (AB (decide (0 ≤ n ∧ n ≤ m))) [] := by
  refine FnS.of_body (enters_of Try.func85 (by kernel_rfl) rfl) Try.func85 rfl Try.ntmps85 Try.results85 rfl rfl rfl rfl fun E hS => ?_
  repeat' (first
    | (show VR _ _ _ (_ :: _) _ _ _; first | refine x_opF rfl (by first | exact True.intro | omega) ?_ | (refine x_gsplit rfl ?_ ?_ <;> intro h <;> have hq := h <;> (try simp only [hqs] at hq)))
    | (show VR _ _ _ [] _ _ _; first | refine vr_nil ?_)
    | (show thenQ _ _ _ _; first | refine q_then_n ?_)
    | refine vc_seq ?_
    | refine vc_region ?_
    | refine vc_ret ?_
    | fail)
  · refine ret_bool isRet_r rfl ?_
    exact decide_eq_decide.2 (by omega)
  · refine ret_bool isRet_r rfl ?_
    exact decide_eq_false (by omega)
theorem isErr_spec (n : Int) : FnS Try.prog 103 [AI n] [] (AB (decide (-32768 ≤ n ∧ n ≤ 32767))) [] := by
  refine FnS.of_body (enters_of Try.func103 (by kernel_rfl) rfl) Try.func103 rfl Try.ntmps103 Try.results103 rfl rfl rfl rfl fun E hS => ?_
  repeat' (first
    | (show VR _ _ _ (_ :: _) _ _ _; first | refine x_opF rfl (by first | exact True.intro | omega) ?_ | (refine x_gsplit rfl ?_ ?_ <;> intro h <;> have hq := h <;> (try simp only [hqs] at hq)))
    | (show VR _ _ _ [] _ _ _; first | refine vr_nil ?_)
    | (show thenQ _ _ _ _; first | refine q_then_n ?_)
    | refine vc_seq ?_
    | refine vc_region ?_
    | refine vc_ret ?_
    | fail)
  · refine ret_bool isRet_r rfl ?_
    exact decide_eq_decide.2 (by omega)
  · refine ret_bool isRet_r rfl ?_
    exact decide_eq_false (by omega)
theorem isTgt_spec (f : Fr) : FnS Try.prog 102 [frA f] [] (AB (decide (0 ≤ f.target ∧ f.target ≤ 31 ∧ f.target ≠ f.source))) [] := by
  refine FnS.of_body (enters_of Try.func102 (by kernel_rfl) rfl) Try.func102 rfl Try.ntmps102 Try.results102 rfl rfl rfl rfl fun E hS => ?_
  repeat' (first
    | (show VR _ _ _ (_ :: _) _ _ _; first | refine x_opF rfl (by first | exact True.intro | omega) ?_ | (show VR _ _ _ (⟨_, .call ⟨.value _, _, _⟩, _, _, _, _⟩ :: _) _ _ _; first | refine vr_calldU (fin_spec _ _) (gk rfl) rfl rfl rfl (by first | rfl | (simp only [wfRes, wfL, wfArgs, wfs]; rfl)) rfl (by first | exact newB_O | rfl) rfl ?_) | (refine x_gsplit rfl ?_ ?_ <;> intro h <;> have hq := h <;> (try simp only [hqs] at hq)))
    | (show VR _ _ _ [] _ _ _; first | refine vr_nil ?_)
    | (show thenQ _ _ _ _; first | refine q_then_n ?_)
    | refine vc_seq ?_
    | refine vc_region ?_
    | refine vc_ret ?_
    | fail)
  · refine ret_bool isRet_r rfl ?_
    exact decide_eq_decide.2 (by omega)
  · refine ret_bool isRet_r rfl ?_
    exact decide_eq_false (by omega)
def fieldsM (f : Fr) : Fr × Bool :=
  if f.kind = 1 then ({ f with flow := 0, number := 0, data := ⟨#[]⟩ }, decide ((0 ≤ f.target ∧ f.target ≤ 31 ∧ f.target ≠ f.source) ∧ (0 ≤ f.flow ∧ f.flow ≤ 255) ∧ 0 ≤ f.number ∧ f.number ≤ 65535))
  else if f.kind = 2 then ({ f with err := 0 }, decide ((0 ≤ f.target ∧ f.target ≤ 31 ∧ f.target ≠ f.source) ∧ -32768 ≤ f.err ∧ f.err ≤ 32767))
  else if f.kind = 3 then ({ f with slot := 0, rank := 0, epoch := 0, data := ⟨#[]⟩ }, decide (f.target = -1 ∧ (0 ≤ f.slot ∧ f.slot ≤ 109951162) ∧ (0 ≤ f.rank ∧ f.rank ≤ 65535) ∧ 0 ≤ f.epoch ∧ f.epoch ≤ 65535))
  else if f.kind = 4 then ({ f with data := ⟨#[]⟩ }, decide (f.target = -1 ∨ (0 ≤ f.target ∧ f.target ≤ 31 ∧ f.target ≠ f.source)))
  else (f, false)
set_option maxHeartbeats 1000000 in
theorem fields_spec (f : Fr) : FnS Try.prog 97 [frA f] [] (.tup [frA (fieldsM f).1, AB (fieldsM f).2]) [] := by
  refine FnS.of_body (enters_of Try.func97 (by kernel_rfl) rfl) Try.func97 rfl Try.ntmps97 Try.results97 rfl rfl rfl rfl fun E hS => ?_
  by_cases h1 : f.kind = 1
  · have d1 : decide (f.kind = 1) = true := decide_eq_true h1
    rw [fieldsM, if_pos h1]
    repeat' (first
      | (show VR _ _ _ (_ :: _) _ _ _; first | refine x_opF rfl (by first | exact True.intro | omega) ?_ | (show VR _ _ _ (⟨_, .call ⟨.value _, _, _⟩, _, _, _, _⟩ :: _) _ _ _; first | refine vr_calldU (fin_spec _ _) (gk rfl) rfl rfl rfl (by first | rfl | (simp only [wfRes, wfL, wfArgs, wfs]; rfl)) rfl (by first | exact newB_O | rfl) rfl ?_ | refine vr_calldU (isTgt_spec f) (gk rfl) rfl rfl rfl (by first | rfl | (simp only [wfRes, wfL, wfArgs, wfs]; rfl)) rfl (by first | exact newB_O | rfl) rfl ?_) | (refine x_gsplit rfl ?_ ?_ <;> intro h <;> have hq := h <;> (try simp only [hqs] at hq)))
      | (show VR _ _ _ [] _ _ _; first | refine vr_nil ?_)
      | (show thenQ _ _ _ _; first | refine q_then_n ?_)
      | (show blockQ _ _ _ _; first | refine q_blk_n ?_)
      | refine vc_seq ?_
      | refine vc_region ?_
      | (show VC _ (.cond _ _ _) _ _; first | refine vc_cond_t rfl ?_ | refine x_know rfl (by assumption) ?_)
      | refine vc_ret ?_ | refine vc_block ?_
      | fail)
    all_goals
      refine ret_agg_dL isRet_r rfl rfl rfl rfl rfl rfl (congrArg D.bool ?_)
      first | exact decide_eq_decide.2 (by omega) | exact decide_eq_false (by omega) | exact decide_eq_true (by omega)
  have d1 : decide (f.kind = 1) = false := decide_eq_false h1
  by_cases h2 : f.kind = 2
  · have d2 : decide (f.kind = 2) = true := decide_eq_true h2
    rw [fieldsM, if_neg h1, if_pos h2]
    repeat' (first
      | (show VR _ _ _ (_ :: _) _ _ _; first | refine x_opF rfl (by first | exact True.intro | omega) ?_ | (show VR _ _ _ (⟨_, .call ⟨.value _, _, _⟩, _, _, _, _⟩ :: _) _ _ _; first | refine vr_calldU (isErr_spec _) (gk rfl) rfl rfl rfl (by first | rfl | (simp only [wfRes, wfL, wfArgs, wfs]; rfl)) rfl (by first | exact newB_O | rfl) rfl ?_ | refine vr_calldU (isTgt_spec f) (gk rfl) rfl rfl rfl (by first | rfl | (simp only [wfRes, wfL, wfArgs, wfs]; rfl)) rfl (by first | exact newB_O | rfl) rfl ?_) | (refine x_gsplit rfl ?_ ?_ <;> intro h <;> have hq := h <;> (try simp only [hqs] at hq)))
      | (show VR _ _ _ [] _ _ _; first | refine vr_nil ?_)
      | (show thenQ _ _ _ _; first | refine q_then_n ?_)
      | (show blockQ _ _ _ _; first | refine q_blk_n ?_)
      | refine vc_seq ?_
      | refine vc_region ?_
      | (show VC _ (.cond _ _ _) _ _; first | refine vc_cond_t rfl ?_ | refine vc_cond_f rfl ?_ | refine x_know rfl (by assumption) ?_)
      | refine vc_ret ?_ | refine vc_block ?_
      | fail)
    all_goals
      refine ret_agg_dL isRet_r rfl rfl rfl rfl rfl rfl (congrArg D.bool ?_)
      first | exact decide_eq_decide.2 (by omega) | exact decide_eq_false (by omega) | exact decide_eq_true (by omega)
  have d2 : decide (f.kind = 2) = false := decide_eq_false h2
  by_cases h3 : f.kind = 3
  · have d3 : decide (f.kind = 3) = true := decide_eq_true h3
    rw [fieldsM, if_neg h1, if_neg h2, if_pos h3]
    repeat' (first
      | (show VR _ _ _ (_ :: _) _ _ _; first | refine x_opF rfl (by first | exact True.intro | omega) ?_ | (show VR _ _ _ (⟨_, .call ⟨.value _, _, _⟩, _, _, _, _⟩ :: _) _ _ _; first | refine vr_calldU (fin_spec _ _) (gk rfl) rfl rfl rfl (by first | rfl | (simp only [wfRes, wfL, wfArgs, wfs]; rfl)) rfl (by first | exact newB_O | rfl) rfl ?_) | (refine x_gsplit rfl ?_ ?_ <;> intro h <;> have hq := h <;> (try simp only [hqs] at hq)))
      | (show VR _ _ _ [] _ _ _; first | refine vr_nil ?_)
      | (show thenQ _ _ _ _; first | refine q_then_n ?_)
      | (show blockQ _ _ _ _; first | refine q_blk_n ?_)
      | refine vc_seq ?_
      | refine vc_region ?_
      | (show VC _ (.cond _ _ _) _ _; first | refine vc_cond_t rfl ?_ | refine vc_cond_f rfl ?_ | refine x_know rfl (by assumption) ?_)
      | refine vc_ret ?_ | refine vc_block ?_
      | fail)
    all_goals
      refine ret_agg_dL isRet_r rfl rfl rfl rfl rfl rfl (congrArg D.bool ?_)
      first | exact decide_eq_decide.2 (by omega) | exact decide_eq_false (by omega) | exact decide_eq_true (by omega)
  have d3 : decide (f.kind = 3) = false := decide_eq_false h3
  by_cases h4 : f.kind = 4
  · have d4 : decide (f.kind = 4) = true := decide_eq_true h4
    rw [fieldsM, if_neg h1, if_neg h2, if_neg h3, if_pos h4]
    repeat' (first
      | (show VR _ _ _ (_ :: _) _ _ _; first | refine x_opF rfl (by first | exact True.intro | omega) ?_ | (show VR _ _ _ (⟨_, .call ⟨.value _, _, _⟩, _, _, _, _⟩ :: _) _ _ _; first | refine vr_calldU (isTgt_spec f) (gk rfl) rfl rfl rfl (by first | rfl | (simp only [wfRes, wfL, wfArgs, wfs]; rfl)) rfl (by first | exact newB_O | rfl) rfl ?_) | (refine x_gsplit rfl ?_ ?_ <;> intro h <;> have hq := h <;> (try simp only [hqs] at hq)))
      | (show VR _ _ _ [] _ _ _; first | refine vr_nil ?_)
      | (show thenQ _ _ _ _; first | refine q_then_n ?_)
      | (show blockQ _ _ _ _; first | refine q_blk_n ?_)
      | refine vc_seq ?_
      | refine vc_region ?_
      | (show VC _ (.cond _ _ _) _ _; first | refine vc_cond_t rfl ?_ | refine vc_cond_f rfl ?_ | refine x_know rfl (by assumption) ?_)
      | refine vc_ret ?_ | refine vc_block ?_
      | fail)
    all_goals
      refine ret_agg_dL isRet_r rfl rfl rfl rfl rfl rfl (congrArg D.bool ?_)
      first | exact decide_eq_decide.2 (by omega) | exact decide_eq_false (by omega) | exact decide_eq_true (by omega)
  have d4 : decide (f.kind = 4) = false := decide_eq_false h4
  rw [fieldsM, if_neg h1, if_neg h2, if_neg h3, if_neg h4]
  repeat' (first
    | (show VR _ _ _ (_ :: _) _ _ _; first | refine x_opF rfl (by first | exact True.intro | omega) ?_)
    | (show VR _ _ _ [] _ _ _; first | refine vr_nil ?_)
    | (show thenQ _ _ _ _; first | refine q_then_n ?_)
    | (show blockQ _ _ _ _; first | refine q_blk_n ?_)
    | refine vc_seq ?_
    | refine vc_region ?_
    | (show VC _ (.cond _ _ _) _ _; first | refine vc_cond_f rfl ?_ | refine x_know rfl (by assumption) ?_)
    | refine vc_ret ?_ | refine vc_block ?_ | refine vc_skip ?_
    | fail)
  exact ret_agg_dL isRet_r rfl rfl rfl rfl rfl rfl rfl
def zeroF (f : Fr) : Fr := ⟨f.kind, f.source, f.target, f.list, f.seq, 0, 0, 0, 0, 0, 0, ⟨#[]⟩⟩
def inS (f : Fr) : Bool := decide ((0 ≤ f.source ∧ f.source ≤ 31) ∧ (0 ≤ f.list ∧ f.list ≤ 255) ∧ 0 ≤ f.seq ∧ f.seq ≤ 255)
def checkF (f : Fr) : Int := if (fieldsM f).2 = true ∧ (fieldsM f).1 = zeroF f ∧ inS f = true then 0 else 1
set_option maxHeartbeats 1000000 in
theorem checkF_spec (f : Fr) : FnS Try.prog 84 [frA f] [] (AI (checkF f)) [] := by
  refine FnS.of_body (enters_of Try.func84 (by kernel_rfl) rfl) Try.func84 rfl Try.ntmps84 Try.results84 rfl rfl rfl rfl fun E hS => ?_
  repeat' (first
    | (show VR _ _ _ (_ :: _) _ _ _; first | refine x_opF rfl (by first | exact True.intro | omega) ?_ | (show VR _ _ _ (⟨_, .call ⟨.value _, _, _⟩, _, _, _, _⟩ :: _) _ _ _; first | refine vr_calldU (fields_spec f) (gk rfl) rfl rfl rfl (by first | rfl | (simp only [wfRes, wfL, wfArgs, wfs]; rfl)) rfl (by first | exact newB_O | rfl) rfl ?_ | refine vr_calldU (fin_spec _ _) (gk rfl) rfl rfl rfl (by first | rfl | (simp only [wfRes, wfL, wfArgs, wfs]; rfl)) rfl (by first | exact newB_O | rfl) rfl ?_) | (show VR _ _ _ (⟨_, .binOp _ _ _ _ _, _, _, _, _⟩ :: _) _ _ _; first | refine vr_neqA (gk rfl) rfl rfl rfl rfl rfl rfl rfl ?_) | (refine x_gsplit rfl ?_ ?_ <;> intro h <;> have hq := h <;> (try simp only [hqs] at hq)))
    | (show VR _ _ _ [] _ _ _; first | refine vr_nil ?_)
    | (show thenQ _ _ _ _; first | refine q_then_n ?_ | refine q_then_r ?_)
    | refine vc_seq ?_
    | refine vc_region ?_
    | (show VC _ (.cond _ _ _) _ _; first | refine vc_cond_t rfl ?_ | (refine x_cond rfl ?_ ?_ <;> intro h <;> have hq := h <;> (try simp only [hqs] at hq)))
    | refine vc_ret ?_ | refine vc_skip ?_
    | fail)
  · exact ret_int isRet_r rfl (if_neg fun hh => by rw [hq] at hh; cases hh.1)
  · exact ret_int isRet_r rfl (if_neg fun hh => hq (fr_vs hh.2.1))
  · exact ret_int isRet_r rfl (if_neg fun hh => by have := of_decide_eq_true hh.2.2; omega)
  · exact ret_int isRet_r rfl (if_neg fun hh => by have := of_decide_eq_true hh.2.2; omega)
  · exact ret_int isRet_r rfl (if_neg fun hh => by have := of_decide_eq_true hh.2.2; omega)
  · exact ret_int isRet_r rfl (if_pos ⟨by assumption, fr_sv (x := (fieldsM f).1) (y := zeroF f) (by assumption), decide_eq_true ⟨by assumption, by assumption, by assumption⟩⟩)
def forB (f : Fr) (node : Int) : Bool := decide (checkF f = 0) && decide (0 ≤ node ∧ node ≤ 31 ∧ (f.target = node ∨ f.target = -1 ∧ f.source ≠ node))
theorem for_spec (f : Fr) (node : Int) : FnS Try.prog 56 [frA f, AI node] [] (AB (forB f node)) [] := by
  refine FnS.of_body (enters_of Try.func56 (by kernel_rfl) rfl) Try.func56 rfl Try.ntmps56 Try.results56 rfl rfl rfl rfl fun E hS => ?_
  repeat' (first
    | (show VR _ _ _ (_ :: _) _ _ _; first | refine x_opF rfl (by first | exact True.intro | omega) ?_ | (show VR _ _ _ (⟨_, .call ⟨.value _, _, _⟩, _, _, _, _⟩ :: _) _ _ _; first | refine vr_calldU (checkF_spec f) (gk rfl) rfl rfl rfl (by first | rfl | (simp only [wfRes, wfL, wfArgs, wfs]; rfl)) rfl (by first | exact newB_O | rfl) rfl ?_ | refine vr_calldU (fin_spec _ _) (gk rfl) rfl rfl rfl (by first | rfl | (simp only [wfRes, wfL, wfArgs, wfs]; rfl)) rfl (by first | exact newB_O | rfl) rfl ?_) | (refine x_gsplit rfl ?_ ?_ <;> intro h <;> have hq := h <;> (try simp only [hqs] at hq)))
    | (show VR _ _ _ [] _ _ _; first | refine vr_nil ?_)
    | (show thenQ _ _ _ _; first | refine q_then_n ?_)
    | refine vc_seq ?_
    | refine vc_region ?_
    | refine vc_ret ?_
    | fail)
  all_goals
    refine ret_bool isRet_r rfl ?_
    unfold forB
    first
      | (rw [decide_eq_false (p := checkF f = 0) (by assumption)]; rfl)
      | (rw [decide_eq_true (p := checkF f = 0) (by assumption)]
         first | exact decide_eq_true (by omega) | exact decide_eq_false (by omega) | exact decide_eq_decide.2 (by omega))
/-! What is right, plainly. -/
abbrev tgtP (f : Fr) : Prop := 0 ≤ f.target ∧ f.target ≤ 31 ∧ f.target ≠ f.source
abbrev inP (f : Fr) : Prop := (0 ≤ f.source ∧ f.source ≤ 31) ∧ (0 ≤ f.list ∧ f.list ≤ 255) ∧ 0 ≤ f.seq ∧ f.seq ≤ 255
abbrev okP (f : Fr) : Prop := inP f ∧ ((f.kind = 1 ∧ tgtP f ∧ (0 ≤ f.flow ∧ f.flow ≤ 255) ∧ (0 ≤ f.number ∧ f.number ≤ 65535) ∧ f.err = 0 ∧ f.slot = 0 ∧ f.rank = 0 ∧ f.epoch = 0)
  ∨ (f.kind = 2 ∧ tgtP f ∧ (-32768 ≤ f.err ∧ f.err ≤ 32767) ∧ f.flow = 0 ∧ f.number = 0 ∧ f.slot = 0 ∧ f.rank = 0 ∧ f.epoch = 0 ∧ f.data = ⟨#[]⟩)
  ∨ (f.kind = 3 ∧ f.target = -1 ∧ (0 ≤ f.slot ∧ f.slot ≤ 109951162) ∧ (0 ≤ f.rank ∧ f.rank ≤ 65535) ∧ (0 ≤ f.epoch ∧ f.epoch ≤ 65535) ∧ f.flow = 0 ∧ f.number = 0 ∧ f.err = 0)
  ∨ (f.kind = 4 ∧ (f.target = -1 ∨ tgtP f) ∧ f.flow = 0 ∧ f.number = 0 ∧ f.err = 0 ∧ f.slot = 0 ∧ f.rank = 0 ∧ f.epoch = 0))
end Go.Proofs
