/-
  What functions of the given program hand back, by walks over its code, and plain laws on that. No condition.
-/
import Derived.Test.YtidijkcalgmadaaGreatSxVe
-- SXS
-- SXM
-- SXN
namespace Go.Proofs
open Go Go.Sx Go.Proofs.T Go.Proofs.Q
set_option maxRecDepth 4000
set_option linter.unusedSimpArgs false
set_option linter.unusedVariables false
attribute [local irreducible] VR VC thenQ blockQ retL

set_option maxHeartbeats 1000000 in
theorem start_spec (s : Sta) (slot : Int) (hck : checkS s = 0) (hs : 0 ≤ slot ∧ slot ≤ 109951162) : FnS Tryz.prog 41 [stA s, AI slot] [] (.tup [.c (.ptr 100 0), AI 0]) [(100, .box (wcs s (.row 101 s.held.length) (.row 102 s.seen.length) slot (atM s.tb slot).1)), (101, .row 114 5 (rowOf Hd.enc s.held)), (102, .row 186 2 (rowOf Sn.enc s.seen))] := by
  have hc := checkS_spec s
  rw [hck] at hc
  refine FnS.of_body (enters_of Tryz.func41 (by kernel_rfl) rfl) Tryz.func41 rfl Tryz.ntmps41 Tryz.results41 rfl rfl rfl rfl fun E hS => ?_
  refine vc_retL ?_
  repeat' (first
    | (show VR _ _ _ (_ :: _) _ _ _; first | refine x_opF rfl (by first | exact True.intro | omega) ?_ | (show VR _ _ _ (⟨_, .call ⟨.value _, _, _⟩, _, _, _, _⟩ :: _) _ _ _; first | refine vr_calldU (hc) (gk rfl) rfl rfl rfl (by first | rfl | (simp only [wfRes, wfL, wfArgs, wfs, mpO_namesB, mpO_namesI]; rfl)) rfl (by first | exact newB_nil | exact newB_O | ((simp only [newB, List.map_cons, List.map_nil, Blk.shift, rowOf_shift]) <;> rfl) | rfl) rfl ?_ | refine vr_calldU (mwithin_spec _ _) (gk rfl) rfl rfl rfl (by first | rfl | (simp only [wfRes, wfL, wfArgs, wfs, mpO_namesB, mpO_namesI]; rfl)) rfl (by first | exact newB_nil | exact newB_O | ((simp only [newB, List.map_cons, List.map_nil, Blk.shift, rowOf_shift]) <;> rfl) | rfl) rfl ?_ | refine vr_calldU (clone_spec s hck) (gk rfl) rfl rfl rfl (by first | rfl | (simp only [wfRes, wfL, wfArgs, wfs, mpO_namesB, mpO_namesI]; rfl)) rfl (by first | exact newB_nil | exact newB_O | ((simp only [newB, List.map_cons, List.map_nil, Blk.shift, rowOf_shift]) <;> rfl) | rfl) rfl ?_ | refine vr_calldU (at_spec s.tb slot) (gk rfl) rfl rfl rfl (by first | rfl | (simp only [wfRes, wfL, wfArgs, wfs, mpO_namesB, mpO_namesI]; rfl)) rfl (by first | exact newB_nil | exact newB_O | ((simp only [newB, List.map_cons, List.map_nil, Blk.shift, rowOf_shift]) <;> rfl) | rfl) rfl ?_) | (show VR _ _ _ (⟨_, .nilCheck _, _, _, _, _⟩ :: _) _ _ _; first | refine vr_nilCheck_ptr (gk rfl) rfl rfl ?_))
    | (show VR _ _ _ [] _ _ _; first | refine vr_nil ?_)
    | (show thenQ _ _ _ _; first | refine q_then_n ?_ | refine q_then_r ?_)
    | refine vc_seq ?_
    | refine vc_region ?_
    | (show VC _ (.cond _ _ _) _ _; first | refine vc_cond_f rfl ?_ | (refine x_cond rfl ?_ ?_ <;> intro h <;> have hq := h <;> (try simp only [hqs] at hq)))
    | refine vc_ret ?_ | refine vc_skip ?_
    | fail)
  all_goals first
    | (exfalso; omega)
    | skip
  refine retL_of (le_gen0 (l := [(4, .c (.ptr 100 0)), (5, AI 0)]) (b := [(100, .box (wcs s (.row 101 s.held.length) (.row 102 s.seen.length) slot (atM s.tb slot).1)), (101, .row 114 5 (rowOf Hd.enc s.held)), (102, .row 186 2 (rowOf Sn.enc s.seen))]) (fun n => if n = 100 then 17 else if n = 101 then 14101 else if n = 102 then 14102 else n) ?_ ?_ rfl (by first | rfl | (simp only [wfL, wfs, mpO_namesB, mpO_namesI]; rfl))) (retW isRet_r (.tmp rfl rfl (.tmp rfl rfl .nil)) rfl (by repeat' (first | exact trivial | refine ⟨rfl, ?_⟩)))
  all_goals repeat' (first | exact trivial | refine ⟨⟨_, rfl, ?_⟩, ?_⟩ | exact .c .d | exact .c (.ptr rfl) | exact .rowD rfl rowOf_isD | refine .box ?_ | exact .nil | refine .cons ?_ ?_ | exact .d | exact .row rfl rfl | fail)
theorem start_arg (s : Sta) (slot : Int) (hck : ¬ checkS s = 0) : FnS Tryz.prog 41 [stA s, AI slot] [] (.tup [AD (.raw (.pointer none)), AI 1]) [] := by
  have hc := checkS_spec s
  have hd : decide (checkS s ≠ 0) = true := by simp [hck]
  refine FnS.of_body (enters_of Tryz.func41 (by kernel_rfl) rfl) Tryz.func41 rfl Tryz.ntmps41 Tryz.results41 rfl rfl rfl rfl fun E hS => ?_
  repeat' (first
    | (show VR _ _ _ (_ :: _) _ _ _; first | refine x_opF rfl (by first | exact True.intro | omega) ?_ | (show VR _ _ _ (⟨_, .call ⟨.value _, _, _⟩, _, _, _, _⟩ :: _) _ _ _; first | refine vr_calldU (hc) (gk rfl) rfl rfl rfl (by first | rfl | (simp only [wfRes, wfL, wfArgs, wfs, mpO_namesB, mpO_namesI]; rfl)) rfl (by first | exact newB_nil | exact newB_O | ((simp only [newB, List.map_cons, List.map_nil, Blk.shift, rowOf_shift]) <;> rfl) | rfl) rfl ?_))
    | (show VR _ _ _ [] _ _ _; first | refine vr_nil ?_)
    | (show thenQ _ _ _ _; first | refine q_then_n ?_ | refine q_then_r ?_)
    | refine vc_seq ?_
    | refine vc_region ?_
    | (show VC _ (.cond _ _ _) _ _; first | refine vc_cond_t rfl ?_ | refine x_know rfl (by assumption) ?_)
    | refine vc_ret ?_
    | fail)
  exact ret_d2 isRet_r rfl rfl rfl rfl
theorem start_range (s : Sta) (slot : Int) (hck : checkS s = 0) (hs : ¬ (0 ≤ slot ∧ slot ≤ 109951162)) : FnS Tryz.prog 41 [stA s, AI slot] [] (.tup [AD (.raw (.pointer none)), AI 2]) [] := by
  have hc := checkS_spec s
  rw [hck] at hc
  have hd : (!decide (0 ≤ slot ∧ slot ≤ 109951162)) = true := by simp only [Bool.not_eq_true', decide_eq_false_iff_not]; exact hs
  refine FnS.of_body (enters_of Tryz.func41 (by kernel_rfl) rfl) Tryz.func41 rfl Tryz.ntmps41 Tryz.results41 rfl rfl rfl rfl fun E hS => ?_
  repeat' (first
    | (show VR _ _ _ (_ :: _) _ _ _; first | refine x_opF rfl (by first | exact True.intro | omega) ?_ | (show VR _ _ _ (⟨_, .call ⟨.value _, _, _⟩, _, _, _, _⟩ :: _) _ _ _; first | refine vr_calldU (hc) (gk rfl) rfl rfl rfl (by first | rfl | (simp only [wfRes, wfL, wfArgs, wfs, mpO_namesB, mpO_namesI]; rfl)) rfl (by first | exact newB_nil | exact newB_O | ((simp only [newB, List.map_cons, List.map_nil, Blk.shift, rowOf_shift]) <;> rfl) | rfl) rfl ?_ | refine vr_calldU (mwithin_spec _ _) (gk rfl) rfl rfl rfl (by first | rfl | (simp only [wfRes, wfL, wfArgs, wfs, mpO_namesB, mpO_namesI]; rfl)) rfl (by first | exact newB_nil | exact newB_O | ((simp only [newB, List.map_cons, List.map_nil, Blk.shift, rowOf_shift]) <;> rfl) | rfl) rfl ?_))
    | (show VR _ _ _ [] _ _ _; first | refine vr_nil ?_)
    | (show thenQ _ _ _ _; first | refine q_then_n ?_ | refine q_then_r ?_)
    | refine vc_seq ?_
    | refine vc_region ?_
    | (show VC _ (.cond _ _ _) _ _; first | refine vc_cond_t rfl ?_ | refine vc_cond_f rfl ?_ | refine x_know rfl (by assumption) ?_)
    | refine vc_ret ?_ | refine vc_skip ?_
    | fail)
  exact ret_d2 isRet_r rfl rfl rfl rfl

/-! Act. -/
theorem act_spec (s : Sta) (slot : Int) : FnS Tryz.prog 27 [stA s, AI slot] [] (.tup [acA (actS s slot).1, AI (actS s slot).2]) [] := by
  refine FnS.of_body (enters_of Tryz.func27 (by kernel_rfl) rfl) Tryz.func27 rfl Tryz.ntmps27 Tryz.results27 rfl rfl rfl rfl fun E hS => ?_
  by_cases hck : checkS s = 0
  · by_cases hs : 0 ≤ slot ∧ slot ≤ 109951162
    · have e : actS s slot = (actM s slot (atM s.tb slot).1, 0) := by rw [actS, if_neg (by omega), if_neg (by omega)]
      rw [e]
      repeat' (first
        | (show VR _ _ _ (_ :: _) _ _ _; first | refine x_opF rfl (by first | exact True.intro | omega) ?_ | (show VR _ _ _ (⟨_, .call ⟨.value _, _, _⟩, _, _, _, _⟩ :: _) _ _ _; first | refine vr_calldU (start_spec s slot hck hs) (gk rfl) rfl rfl rfl (by first | rfl | (simp only [wfRes, wfL, wfArgs, wfs, mpO_namesB, mpO_namesI]; rfl)) rfl (by first | exact newB_nil | exact newB_O | ((simp only [newB, List.map_cons, List.map_nil, Blk.shift, rowOf_shift]) <;> rfl) | rfl) rfl ?_ | refine vr_callU [11100, 11101, 11102] (action_spec s slot (atM s.tb slot).1 hck) (gk rfl) rfl (by (repeat' (first | exact .nil | refine .cons ?_ ?_ | exact .of0 (.c .d) | exact .of0 .ep | exact .clo | exact (w_ar (by simp) rfl (cr_rowO (by simp) rfl rfl (fun _ => rfl)) (cr_rowO (by simp) rfl rfl (fun _ => rfl))) | exact .of0 (.c .nil) | exact .of0 (.c (cr_rowO (by simp) rfl (by first | rfl | omega) (fun _ => rfl))) | refine .of0 (.agg ?_) | exact .d | exact .nil | exact .of0 (.c (cr_row (by decide) rfl rfl (by repeat' (first | exact trivial | refine ⟨?_, ?_⟩ | rfl)))))) <;> fail) (by first | rfl | exact hfl_O (fun _ => rfl) | exact hfl_O2 rfl (fun _ => rfl)) rfl (by first | rfl | (simp only [wfRes, wfL, wfArgs, wfs, mpO_namesB, mpO_namesI]; rfl)) rfl (by first | exact newB_nil | exact newB_O | ((simp only [newB, List.map_cons, List.map_nil, Blk.shift, rowOf_shift]) <;> rfl) | rfl) rfl ?_))
        | (show VR _ _ _ [] _ _ _; first | refine vr_nil ?_)
        | (show thenQ _ _ _ _; first | refine q_then_n ?_)
        | refine vc_seq ?_
        | refine vc_region ?_
        | (show VC _ (.cond _ _ _) _ _; first | refine vc_cond_f rfl ?_)
        | refine vc_ret ?_ | refine vc_skip ?_
        | fail)
      exact ret_agg_dL isRet_r rfl rfl rfl rfl rfl rfl rfl
    · have e : actS s slot = (zAc, 2) := by rw [actS, if_neg (by omega), if_pos (by omega)]
      rw [e]
      repeat' (first
        | (show VR _ _ _ (_ :: _) _ _ _; first | refine x_opF rfl (by first | exact True.intro | omega) ?_ | (show VR _ _ _ (⟨_, .call ⟨.value _, _, _⟩, _, _, _, _⟩ :: _) _ _ _; first | refine vr_calldU (start_range s slot hck hs) (gk rfl) rfl rfl rfl (by first | rfl | (simp only [wfRes, wfL, wfArgs, wfs, mpO_namesB, mpO_namesI]; rfl)) rfl (by first | exact newB_nil | exact newB_O | ((simp only [newB, List.map_cons, List.map_nil, Blk.shift, rowOf_shift]) <;> rfl) | rfl) rfl ?_))
        | (show VR _ _ _ [] _ _ _; first | refine vr_nil ?_)
        | (show thenQ _ _ _ _; first | refine q_then_n ?_ | refine q_then_r ?_)
        | refine vc_seq ?_
        | refine vc_region ?_
        | (show VC _ (.cond _ _ _) _ _; first | refine vc_cond_t rfl ?_)
        | refine vc_ret ?_
        | fail)
      exact ret_agg_dL isRet_r rfl rfl rfl rfl rfl rfl rfl
  · have e : actS s slot = (zAc, 1) := by rw [actS, if_pos hck]
    rw [e]
    repeat' (first
      | (show VR _ _ _ (_ :: _) _ _ _; first | refine x_opF rfl (by first | exact True.intro | omega) ?_ | (show VR _ _ _ (⟨_, .call ⟨.value _, _, _⟩, _, _, _, _⟩ :: _) _ _ _; first | refine vr_calldU (start_arg s slot hck) (gk rfl) rfl rfl rfl (by first | rfl | (simp only [wfRes, wfL, wfArgs, wfs, mpO_namesB, mpO_namesI]; rfl)) rfl (by first | exact newB_nil | exact newB_O | ((simp only [newB, List.map_cons, List.map_nil, Blk.shift, rowOf_shift]) <;> rfl) | rfl) rfl ?_))
      | (show VR _ _ _ [] _ _ _; first | refine vr_nil ?_)
      | (show thenQ _ _ _ _; first | refine q_then_n ?_ | refine q_then_r ?_)
      | refine vc_seq ?_
      | refine vc_region ?_
      | (show VC _ (.cond _ _ _) _ _; first | refine vc_cond_t rfl ?_)
      | refine vc_ret ?_
      | fail)
    exact ret_agg_dL isRet_r rfl rfl rfl rfl rfl rfl rfl
end Go.Proofs


