/-
  What functions of the given program hand back, by walks over its code, and plain laws on that. No condition.
-/
import Derived.Test.YtecdajajocafdaaGreatSxP18v
-- SXS
-- SXM
-- SXN
namespace Go.Proofs
open Go Go.Sx Go.Proofs.T Go.Proofs.Q
set_option maxRecDepth 4000
set_option linter.unusedSimpArgs false
set_option linter.unusedVariables false
attribute [local irreducible] VR VC thenQ blockQ retL

theorem awA_tb (k : Nat) : (awA k).tb = tA := by unfold awA; repeat' split
                                                 all_goals rfl
theorem awB_tb (k : Nat) : (awB k).tb = tB := by unfold awB; repeat' split
                                                 all_goals rfl
theorem aw_act (k : Nat) (hk : k < 4) : FnS Tryz.prog 16 [stA (awA k), AI (4 + 2 * k)] [] (.tup [acA wantA, AI 0]) [] := by
  have h := act_spec (awA k) (4 + 2 * k)
  obtain ⟨h1, _, h2, _⟩ := aw_step k hk
  have e : actS (awA k) (4 + 2 * k) = (wantA, 0) := by rw [actS, if_neg (by omega), if_neg (by omega), awA_tb, h2]
  rwa [e] at h
theorem aw_doneB (k : Nat) (hk : k < 4) : FnS Tryz.prog 19 [stA (awB k), AI (4 + 2 * k), rsA (awR k)] [] (.tup [stA (awB (k + 1)), upA (awU k), AI 0]) [] := by
  obtain ⟨_, h1, _, h3, _, h4⟩ := aw_step k hk
  have h := done_free (awB k) (4 + 2 * k) (awR k) h1 (by omega)
  rw [awB_tb, h3] at h
  exact h (by rw [h4]; rintro ⟨h5, _⟩; cases h5)
theorem aw_doneA (k : Nat) (hk : k < 4) : FnS Tryz.prog 19 [stA (awA k), AI (4 + 2 * k), rsA awS] [] (.tup [stA (awA (k + 1)), upA zUp, AI 0]) [] := by
  obtain ⟨h1, _, _, _, h3, _⟩ := aw_step k hk
  have h := done_free (awA k) (4 + 2 * k) awS h1 (by omega)
  rw [awA_tb, h3] at h
  exact h (by rintro ⟨_, _, h5⟩; cases h5)
set_option maxHeartbeats 4000000 in
theorem awake_spec : FnS Tryz.prog 9 [] [] (AB true) [] := by
  have hp := mput_spec pA p7
  rw [aw_put] at hp
  refine FnS.of_body (enters_of Tryz.func9 (by kernel_rfl) rfl) Tryz.func9 rfl Tryz.ntmps9 Tryz.results9 rfl rfl rfl rfl fun E hS => ?_
  repeat' (first
    | (show VR _ _ _ (_ :: _) _ _ _; first | refine x_opF rfl (by first | exact True.intro | omega) ?_ | (show VR _ _ _ (⟨_, .call ⟨.value _, _, _⟩, _, _, _, _⟩ :: _) _ _ _; first | refine vr_calldU (pair_spec) (gk rfl) rfl rfl rfl (by first | rfl | (simp only [wfRes, wfL, wfArgs, wfs, mpO_namesB, mpO_namesI]; rfl)) rfl (by first | exact newB_nil | exact newB_O | ((simp only [newB, List.map_cons, List.map_nil, Blk.shift, rowOf_shift]) <;> rfl) | rfl) rfl ?_ | refine vr_calldU (hp) (gk rfl) rfl rfl rfl (by first | rfl | (simp only [wfRes, wfL, wfArgs, wfs, mpO_namesB, mpO_namesI]; rfl)) rfl (by first | exact newB_nil | exact newB_O | ((simp only [newB, List.map_cons, List.map_nil, Blk.shift, rowOf_shift]) <;> rfl) | rfl) rfl ?_))
    | (show VR _ _ _ [] _ _ _; first | refine vr_nil ?_)
    | (show thenQ _ _ _ _; first | refine q_then_n ?_)
    | refine vc_seq ?_
    | refine vc_region ?_
    | (show VC _ (.cond _ _ _) _ _; first | refine vc_cond_f rfl ?_)
    | refine vc_block ?_ | refine vc_skip ?_
    | fail)
  refine vc_loopI (ι := Nat) (fun k => stOf [(0, AB false), (1, .c (.ptr 1 0)), (2, .c (.ptr 2 0)), (6, .c (.ptr 6 0)), (33, AI k)] [(1, .box (awA k).cs), (2, .box (awB k).cs), (6, .box wantA.cs)]) (fun k => k ≤ 4) (fun k => 4 - k) 0 (Nat.zero_le _) ?_ ?_
  · refine le_gen0 (fun n => n) ?_ ?_ rfl (by first | rfl | (simp only [wfL, wfs, mpO_namesB, mpO_namesI]; rfl))
    all_goals repeat' (first | exact trivial | refine ⟨⟨_, rfl, ?_⟩, ?_⟩ | exact .c .d | exact .c (.ptr rfl) | exact .boxD rfl rfl | fail)
  · intro k hk
    rcases Nat.lt_or_ge k 4 with hlt | hge
    · have dlt : decide ((k : Int) < 4) = true := decide_eq_true (by omega)
      repeat' (first
        | (show VR _ _ _ (_ :: _) _ _ _; first | refine x_opF rfl (by first | exact True.intro | omega) ?_ | (show VR _ _ _ (⟨_, .call ⟨.value _, _, _⟩, _, _, _, _⟩ :: _) _ _ _; first | refine vr_calldU (aw_act k hlt) (gk rfl) rfl rfl rfl (by first | rfl | (simp only [wfRes, wfL, wfArgs, wfs, mpO_namesB, mpO_namesI]; rfl)) rfl (by first | exact newB_nil | exact newB_O | ((simp only [newB, List.map_cons, List.map_nil, Blk.shift, rowOf_shift]) <;> rfl) | rfl) rfl ?_ | refine vr_calldU (aw_doneB k hlt) (gk rfl) rfl rfl rfl (by first | rfl | (simp only [wfRes, wfL, wfArgs, wfs, mpO_namesB, mpO_namesI]; rfl)) rfl (by first | exact newB_nil | exact newB_O | ((simp only [newB, List.map_cons, List.map_nil, Blk.shift, rowOf_shift]) <;> rfl) | rfl) rfl ?_ | refine vr_calldU (aw_doneA k hlt) (gk rfl) rfl rfl rfl (by first | rfl | (simp only [wfRes, wfL, wfArgs, wfs, mpO_namesB, mpO_namesI]; rfl)) rfl (by first | exact newB_nil | exact newB_O | ((simp only [newB, List.map_cons, List.map_nil, Blk.shift, rowOf_shift]) <;> rfl) | rfl) rfl ?_) | (show VR _ _ _ (⟨_, .binOp _ _ _ _ _, _, _, _, _⟩ :: _) _ _ _; first | refine vr_neqA (gk rfl) rfl rfl rfl rfl rfl rfl rfl ?_))
        | (show VR _ _ _ [] _ _ _; first | refine vr_nil ?_)
        | (show thenQ _ _ _ _; first | refine q_then_n ?_)
        | (show VC _ (.seq _ _) _ _; (fail_if_success (show VC _ (.seq (.seq (.region 16 _ _) _) _) _ _)); (fail_if_success (show VC _ (.seq (.region 16 _ _) _) _ _)); refine vc_seq ?_)
        | refine vc_region ?_
        | (show VC _ (.cond _ _ _) _ _; first | refine vc_cond_t rfl ?_ | refine vc_cond_f rfl ?_ | refine x_know rfl (by assumption) ?_)
        | refine vc_block ?_ | refine vc_skip ?_
        | fail)
      all_goals first
        | (exfalso; exact hq rfl)
        | skip
      have h : k = 0 ∨ k = 1 ∨ k = 2 ∨ k = 3 := by omega
      rcases h with rfl | rfl | rfl | rfl
      · repeat' (first
          | (show VR _ _ _ (_ :: _) _ _ _; first | refine x_opF rfl (by first | exact True.intro | omega) ?_)
          | (show VR _ _ _ [] _ _ _; first | refine vr_nil ?_)
          | (show thenQ _ _ _ _; first | refine q_then_n ?_)
          | (show blockQ _ _ _ _; first | refine q_blk_n ?_)
          | refine vc_seq ?_
          | refine vc_region ?_
          | (show VC _ (.cond _ _ _) _ _; first | refine vc_cond_f rfl ?_)
          | refine vc_skip ?_
          | fail)
        refine ⟨1, by omega, by omega, ?_⟩
        refine le_gen0 (fun n => n) ?_ ?_ rfl (by first | rfl | (simp only [wfL, wfs, mpO_namesB, mpO_namesI]; rfl))
        all_goals repeat' (first | exact trivial | refine ⟨⟨_, rfl, ?_⟩, ?_⟩ | exact .c .d | exact .c (.ptr rfl) | exact .boxD rfl rfl | fail)
      · repeat' (first
          | (show VR _ _ _ (_ :: _) _ _ _; first | refine x_opF rfl (by first | exact True.intro | omega) ?_)
          | (show VR _ _ _ [] _ _ _; first | refine vr_nil ?_)
          | (show thenQ _ _ _ _; first | refine q_then_n ?_)
          | (show blockQ _ _ _ _; first | refine q_blk_n ?_)
          | refine vc_seq ?_
          | refine vc_region ?_
          | (show VC _ (.cond _ _ _) _ _; first | refine vc_cond_f rfl ?_)
          | refine vc_skip ?_
          | fail)
        refine ⟨2, by omega, by omega, ?_⟩
        refine le_gen0 (fun n => n) ?_ ?_ rfl (by first | rfl | (simp only [wfL, wfs, mpO_namesB, mpO_namesI]; rfl))
        all_goals repeat' (first | exact trivial | refine ⟨⟨_, rfl, ?_⟩, ?_⟩ | exact .c .d | exact .c (.ptr rfl) | exact .boxD rfl rfl | fail)
      · repeat' (first
          | (show VR _ _ _ (_ :: _) _ _ _; first | refine x_opF rfl (by first | exact True.intro | omega) ?_)
          | (show VR _ _ _ [] _ _ _; first | refine vr_nil ?_)
          | (show thenQ _ _ _ _; first | refine q_then_n ?_)
          | (show blockQ _ _ _ _; first | refine q_blk_n ?_)
          | refine vc_seq ?_
          | refine vc_region ?_
          | (show VC _ (.cond _ _ _) _ _; first | refine vc_cond_f rfl ?_)
          | refine vc_skip ?_
          | fail)
        refine ⟨3, by omega, by omega, ?_⟩
        refine le_gen0 (fun n => n) ?_ ?_ rfl (by first | rfl | (simp only [wfL, wfs, mpO_namesB, mpO_namesI]; rfl))
        all_goals repeat' (first | exact trivial | refine ⟨⟨_, rfl, ?_⟩, ?_⟩ | exact .c .d | exact .c (.ptr rfl) | exact .boxD rfl rfl | fail)
      · repeat' (first
          | (show VR _ _ _ (_ :: _) _ _ _; first | refine x_opF rfl (by first | exact True.intro | omega) ?_)
          | (show VR _ _ _ [] _ _ _; first | refine vr_nil ?_)
          | (show thenQ _ _ _ _; first | refine q_then_n ?_)
          | (show blockQ _ _ _ _; first | refine q_blk_n ?_)
          | refine vc_seq ?_
          | refine vc_region ?_
          | (show VC _ (.cond _ _ _) _ _; first | refine vc_cond_f rfl ?_)
          | refine vc_skip ?_
          | fail)
        refine ⟨4, by omega, by omega, ?_⟩
        refine le_gen0 (fun n => n) ?_ ?_ rfl (by first | rfl | (simp only [wfL, wfs, mpO_namesB, mpO_namesI]; rfl))
        all_goals repeat' (first | exact trivial | refine ⟨⟨_, rfl, ?_⟩, ?_⟩ | exact .c .d | exact .c (.ptr rfl) | exact .boxD rfl rfl | fail)
    · have h4 : k = 4 := by omega
      subst h4
      repeat' (first
        | (show VR _ _ _ (_ :: _) _ _ _; first | refine x_opF rfl (by first | exact True.intro | omega) ?_)
        | (show VR _ _ _ [] _ _ _; first | refine vr_nil ?_)
        | (show thenQ _ _ _ _; first | refine q_then_n ?_ | refine q_then_x ?_)
        | (show blockQ _ _ _ _; first | refine q_blk_x ?_)
        | refine vc_seq ?_
        | refine vc_region ?_
        | (show VC _ (.cond _ _ _) _ _; first | refine vc_cond_f rfl ?_)
        | refine vc_ret ?_ | refine vc_exit ?_
        | fail)
      exact ret_bool isRet_r rfl (by kernel_rfl)
end Go.Proofs


