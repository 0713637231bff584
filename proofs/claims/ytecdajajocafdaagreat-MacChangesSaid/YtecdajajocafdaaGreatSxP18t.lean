/-
  What functions of the given program hand back, by walks over its code, and plain laws on that. No condition.
-/
import Derived.Test.YtecdajajocafdaaGreatSxP18s
import Derived.Test.YtecdajajocafdaaGreatSxLibC
-- SXS
-- SXM
-- SXB
namespace Go.Proofs
open Go Go.Sx Go.Proofs.T Go.Proofs.Q
set_option maxRecDepth 4000
set_option linter.unusedSimpArgs false
set_option linter.unusedVariables false
attribute [local irreducible] VR VC thenQ blockQ retL
/-! A station is the same as itself. -/
set_option maxHeartbeats 1000000 in
theorem sameHeld_refl (h : Hd) : FnS Tryz.prog 50 [hdA h, hdA h] [] (AB true) [] := by
  have d0 : ∀ a : Int, decide (a ≠ a) = false := fun a => by simp
  have d1 := d0 h.flow
  have d2 := d0 h.frame
  have d3 := d0 h.til
  have d4 := d0 (h.acked.length : Nat)
  have d5 : decide (h.data ≠ h.data) = false := by simp
  refine FnS.of_body (enters_of Tryz.func50 (by kernel_rfl) rfl) Tryz.func50 rfl Tryz.ntmps50 Tryz.results50 rfl rfl rfl rfl fun E hS => ?_
  repeat' (first
    | (show VR _ _ _ (_ :: _) _ _ _; first | (show VR _ _ _ (⟨_, .binOp _ _ _ _ _, _, _, _, _⟩ :: _) _ _ _; first | refine vr_neqStr (gk rfl) rfl rfl rfl rfl ?_) | refine x_opF rfl (by first | exact True.intro | omega) ?_ | refine x_gknow rfl (by assumption) ?_)
    | (show VR _ _ _ [] _ _ _; first | refine vr_nil ?_)
    | (show thenQ _ _ _ _; first | refine q_then_n ?_)
    | refine vc_seq ?_
    | refine vc_region ?_
    | (show VC _ (.cond _ _ _) _ _; first | refine vc_cond_f rfl ?_ | refine x_know rfl (by assumption) ?_)
    | refine vc_block ?_ | refine vc_skip ?_
    | fail)
  all_goals first
    | (exfalso; simp_all; done)
    | skip
  refine vc_boundB (nm := 2) (j := 4) (n := h.acked.length) rfl rfl fun hbl => ?_
  refine vc_loopI (ι := Nat) (fun k => stOf [(2, .c (.ptr 2 0)), (3, .c (.ptr 3 0)), (5, AI k)] [(2, .box h.cs), (3, .box h.cs)]) (fun k => k ≤ h.acked.length) (fun k => h.acked.length - k) 0 (Nat.zero_le _) ?_ ?_
  · refine le_gen0 (fun n => n) ?_ ?_ rfl (by first | rfl | (simp only [wfL, wfs, mpO_namesB, mpO_namesI]; rfl))
    all_goals repeat' (first | exact trivial | refine ⟨⟨_, rfl, ?_⟩, ?_⟩ | exact .c .d | exact .c (.ptr rfl) | exact .boxD rfl rfl | fail)
  · intro k hk
    have d6 := d0 (h.acked.getD k default)
    rcases Nat.lt_or_ge k h.acked.length with hlt | hge
    · have dlt : decide ((k : Int) < (h.acked.length : Int)) = true := decide_eq_true (by omega)
      repeat' (first
        | (show VR _ _ _ (_ :: _) _ _ _; first | refine x_opF rfl (by first | exact True.intro | omega) ?_ | (show VR _ _ _ (⟨_, .indexAddr _ _ _, _, _, _, _⟩ :: _) _ _ _; first | refine vr_index_rd (gk rfl) rfl rfl rfl rfl rfl (by omega) rfl ?_))
        | (show VR _ _ _ [] _ _ _; first | refine vr_nil ?_ | refine vr_nil_t (by kernel_rfl) ?_)
        | (show thenQ _ _ _ _; first | refine q_then_n ?_)
        | (show blockQ _ _ _ _; first | refine q_blk_n ?_)
        | refine vc_seq ?_
        | refine vc_region ?_ | refine vc_region_t ?_
        | (show VC _ (.cond _ _ _) _ _; first | refine vc_cond_t rfl ?_ | refine vc_cond_f rfl ?_ | refine x_know rfl (by assumption) ?_)
        | refine vc_block ?_ | refine vc_skip ?_
        | fail)
      refine ⟨k + 1, by omega, by omega, ?_⟩
      refine le_gen0 (fun n => n) ?_ ?_ rfl (by first | rfl | (simp only [wfL, wfs, mpO_namesB, mpO_namesI]; rfl))
      all_goals repeat' (first | exact trivial | refine ⟨⟨_, rfl, ?_⟩, ?_⟩ | exact .c .d | exact .c (.ptr rfl) | exact .boxD rfl rfl | fail)
    · have dlt : decide ((k : Int) < (h.acked.length : Int)) = false := decide_eq_false (by omega)
      repeat' (first
        | (show VR _ _ _ (_ :: _) _ _ _; first | refine x_opF rfl (by first | exact True.intro | omega) ?_)
        | (show VR _ _ _ [] _ _ _; first | refine vr_nil ?_)
        | (show thenQ _ _ _ _; first | refine q_then_n ?_ | refine q_then_x ?_)
        | (show blockQ _ _ _ _; first | refine q_blk_x ?_)
        | refine vc_seq ?_
        | refine vc_region ?_
        | (show VC _ (.cond _ _ _) _ _; first | refine vc_cond_f rfl ?_ | refine x_know rfl (by assumption) ?_)
        | refine vc_ret ?_ | refine vc_exit ?_
        | fail)
      exact ret_bool isRet_r rfl rfl
end Go.Proofs
