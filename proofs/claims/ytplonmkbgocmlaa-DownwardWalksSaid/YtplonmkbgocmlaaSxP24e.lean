/-
  What functions of the given program hand back, by walks over its code, and plain laws on that. No condition.
-/
import Derived.Test.YtplonmkbgocmlaaSxP24d
-- SXS
-- SXB
namespace Go.Proofs
open Go Go.Sx
set_option maxRecDepth 4000
set_option linter.unusedSimpArgs false
set_option linter.unusedVariables false
attribute [local irreducible] VR VC thenQ blockQ retL

/-! The reference: Has, Header, right, Step. -/
theorem has_spec (l : List Int) (n : Int) : FnS Try.prog 44 [AD (ints l), AI n] [] (AB (decide (n ∈ l))) [] := by
  refine FnS.of_body (enters_of Try.func44 (by kernel_rfl) rfl) Try.func44 rfl Try.ntmps44 Try.results44 rfl rfl rfl rfl fun E hS => ?_
  refine vc_bound (t := 0) rfl fun hb => ?_
  repeat' (first
    | (show VR _ _ _ (_ :: _) _ _ _; first | (show VR _ _ _ (⟨_, .alloc _, _, _, _, _⟩ :: _) _ _ _; first | refine vr_allocArr (gk rfl) rfl rfl (by decide) rfl rfl ?_) | (show VR _ _ _ (⟨_, .load _ _, _, _, _, _⟩ :: _) _ _ _; first | refine vr_loadArr (gk rfl) rfl rfl rfl (by first | assumption | rfl | ((try simp only [lns]); first | assumption | omega)) rfl rfl ?_) | (show VR _ _ _ (⟨_, .store _ _ _, _, _, _, _⟩ :: _) _ _ _; first | refine vr_storeB (gk rfl) rfl rfl rfl (by omega) rfl ?_ | refine vr_storeI (gk rfl) rfl rfl rfl (by first | omega | ((try simp only [lns]); omega)) rfl ?_ | refine vr_storeArr (gk rfl) rfl rfl rfl (by first | assumption | rfl | ((try simp only [lns]); first | assumption | omega)) (by first | assumption | rfl | ((try simp only [lns]); first | assumption | omega)) rfl ?_) | (show VR _ _ _ (⟨_, .indexAddr _ _ _, _, _, _, _⟩ :: _) _ _ _; first | refine vr_indexArrN (gk rfl) rfl rfl rfl rfl rfl (by omega) rfl ?_ | refine vr_indexArr (gk rfl) rfl rfl rfl rfl (by omega) (by omega) rfl ?_ | refine vr_indexBox (gk rfl) rfl rfl rfl (by decide) (by decide) rfl rfl ?_) | (show VR _ _ _ (⟨_, .binOp _ _ _ _ _, _, _, _, _⟩ :: _) _ _ _; first | refine vr_eqlArr (gk rfl) rfl rfl rfl rfl rfl (by first | assumption | rfl | ((try simp only [lns]); first | assumption | omega)) (by first | assumption | rfl | ((try simp only [lns]); first | assumption | omega)) (by kernel_rfl) rfl ?_ | refine vr_eqlStr (gk rfl) rfl rfl rfl rfl ?_ | refine vr_neqStr (gk rfl) rfl rfl rfl rfl ?_ | refine vr_eqlNil (gk rfl) rfl rfl rfl ?_ | refine vr_neqNil (gk rfl) rfl rfl rfl ?_ | refine vr_eqlRd (gk rfl) rfl rfl (by omega) rfl ?_ | refine vr_neqRd (gk rfl) rfl rfl (by omega) rfl ?_) | (show VR _ _ _ (⟨_, .slice _ _ _ _ _, _, _, _, _⟩ :: _) _ _ _; first | refine vr_tailStr (gk rfl) rfl rfl (by omega) rfl ?_) | (show VR _ _ _ (⟨_, .convert _ _ _, _, _, _, _⟩ :: _) _ _ _; first | refine vr_convStr (gk rfl) rfl rfl (by first | rfl | exact rowOf_length.symm | (simp only [lns] <;> omega)) rfl rfl rfl rfl ?_ | refine vr_convNil (gk rfl) rfl rfl rfl rfl rfl ?_) | refine x_opF rfl (by first | exact True.intro | omega) ?_ | (show VR _ _ _ (⟨_, .indexAddr _ _ _, _, _, _, _⟩ :: _) _ _ _; first | refine vr_index_rd (gk rfl) rfl rfl rfl rfl rfl (by omega) rfl ?_ | refine vr_index_rdP (gk rfl) rfl rfl rfl rfl rfl (by omega) rfl ?_ | refine vr_index_rdN (gk rfl) rfl rfl rfl rfl (by first | omega | decide) rfl ?_) | (show VR _ _ _ (⟨_, .index _ _ _, _, _, _, _⟩ :: _) _ _ _; first | refine vr_indexStr (m := 0) (gk rfl) rfl rfl rfl (by decide) (by omega) rfl rfl ?_ | refine vr_indexStr (gk rfl) rfl rfl rfl (by omega) (by omega) (by first | exact (Int.toNat_natCast _).symm | rfl) rfl ?_) | (show VR _ _ _ (⟨_, .nilCheck _, _, _, _, _⟩ :: _) _ _ _; first | refine vr_nilCheck_rp (gk rfl) rfl rfl ?_ | refine vr_nilCheck_ptr (gk rfl) rfl rfl ?_ | refine vr_nilCheck_ep (gk rfl) rfl rfl ?_) | (show VR _ _ _ (⟨_, .binOp _ _ _ _ _, _, _, _, _⟩ :: _) _ _ _; first | refine x_ariw rfl rfl rfl rfl rfl ?_) | refine x_gknow rfl (by assumption) ?_ | (refine x_gsplit rfl ?_ ?_ <;> intro h <;> have hq := h <;> (try simp only [hqs] at hq)))
    | (show VR _ _ _ [] _ _ _; first | refine vr_nil ?_ | refine vr_nil_t (by kernel_rfl) ?_)
    | (show thenQ _ _ _ _; first | refine q_then_n ?_ | refine q_then_x ?_ | refine q_then_r ?_)
    | (show blockQ _ _ _ _; first | refine q_blk_n ?_ | refine q_blk_r ?_ | refine q_blk_x ?_ | refine q_blk_o rfl ?_)
    | refine vc_seq ?_
    | refine vc_region ?_ | refine vc_region_t ?_
    | (show VC _ (.cond _ _ _) _ _; first | refine vc_cond_t rfl ?_ | refine vc_cond_f rfl ?_ | refine x_know rfl (by assumption) ?_ | (refine x_cond rfl ?_ ?_ <;> intro h <;> have hq := h <;> (try simp only [hqs] at hq)))
    | refine vc_ret ?_ | refine vc_exit ?_ | refine vc_block ?_ | refine vc_skip ?_ | refine vc_label ?_)
  refine vc_loopI (ι := Nat) (fun k => stOf [(0, AD (ints l)), (1, AI n), (5, AI k)] []) (fun k => k ≤ l.length ∧ ∀ i, i < k → l.getD i default ≠ n) (fun k => l.length - k) 0 ⟨Nat.zero_le _, fun i hi => absurd hi (Nat.not_lt_zero _)⟩ ?_ ?_
  · refine le_gen0 (fun n => n) ?_ ?_ rfl (by first | rfl | (simp only [wfL, wfs]; rfl))
    all_goals repeat' (first | exact trivial | refine ⟨⟨_, rfl, ?_⟩, ?_⟩ | exact .c .d | exact .clo | exact .ep | exact .c (.ptr rfl) | exact .rp rfl | exact .c (.mp rfl) | exact .c (.fn rfl) | exact .c (.row rfl rfl) | exact .c .nil | (refine .c (.row rfl ?_); ((try dsimp only); first | rfl | omega | (simp only [lns] <;> omega)); done) | (refine .c (cw_eq ?_); first | rfl | (congr 1; omega); done) | exact .boxD rfl rfl | exact .pin rfl | exact .rowD rfl rowOf_isD | exact .rowD (rowOf_append.symm) rowOf_isD | exact .rowD (rowOf_set rfl) rowOf_isD | (refine .rowD ?_ rowOf_isD; rw [rowOf_append]; rfl) | (refine .rowD ?_ rowOf_isD; simp only [rowOf_append, List.append_assoc]; rfl) | refine .agg ?_ | refine .box ?_ | exact .nil | refine .cons ?_ ?_ | exact .d | exact .ptr rfl | exact .row rfl rfl | (refine .row rfl ?_; ((try dsimp only); first | rfl | omega | (simp only [lns] <;> omega)); done))
  · intro k hk
    repeat' (first
      | (show VR _ _ _ (_ :: _) _ _ _; first | (show VR _ _ _ (⟨_, .alloc _, _, _, _, _⟩ :: _) _ _ _; first | refine vr_allocArr (gk rfl) rfl rfl (by decide) rfl rfl ?_) | (show VR _ _ _ (⟨_, .load _ _, _, _, _, _⟩ :: _) _ _ _; first | refine vr_loadArr (gk rfl) rfl rfl rfl (by first | assumption | rfl | ((try simp only [lns]); first | assumption | omega)) rfl rfl ?_) | (show VR _ _ _ (⟨_, .store _ _ _, _, _, _, _⟩ :: _) _ _ _; first | refine vr_storeB (gk rfl) rfl rfl rfl (by omega) rfl ?_ | refine vr_storeI (gk rfl) rfl rfl rfl (by first | omega | ((try simp only [lns]); omega)) rfl ?_ | refine vr_storeArr (gk rfl) rfl rfl rfl (by first | assumption | rfl | ((try simp only [lns]); first | assumption | omega)) (by first | assumption | rfl | ((try simp only [lns]); first | assumption | omega)) rfl ?_) | (show VR _ _ _ (⟨_, .indexAddr _ _ _, _, _, _, _⟩ :: _) _ _ _; first | refine vr_indexArrN (gk rfl) rfl rfl rfl rfl rfl (by omega) rfl ?_ | refine vr_indexArr (gk rfl) rfl rfl rfl rfl (by omega) (by omega) rfl ?_ | refine vr_indexBox (gk rfl) rfl rfl rfl (by decide) (by decide) rfl rfl ?_) | (show VR _ _ _ (⟨_, .binOp _ _ _ _ _, _, _, _, _⟩ :: _) _ _ _; first | refine vr_eqlArr (gk rfl) rfl rfl rfl rfl rfl (by first | assumption | rfl | ((try simp only [lns]); first | assumption | omega)) (by first | assumption | rfl | ((try simp only [lns]); first | assumption | omega)) (by kernel_rfl) rfl ?_ | refine vr_eqlStr (gk rfl) rfl rfl rfl rfl ?_ | refine vr_neqStr (gk rfl) rfl rfl rfl rfl ?_ | refine vr_eqlNil (gk rfl) rfl rfl rfl ?_ | refine vr_neqNil (gk rfl) rfl rfl rfl ?_ | refine vr_eqlRd (gk rfl) rfl rfl (by omega) rfl ?_ | refine vr_neqRd (gk rfl) rfl rfl (by omega) rfl ?_) | (show VR _ _ _ (⟨_, .slice _ _ _ _ _, _, _, _, _⟩ :: _) _ _ _; first | refine vr_tailStr (gk rfl) rfl rfl (by omega) rfl ?_) | (show VR _ _ _ (⟨_, .convert _ _ _, _, _, _, _⟩ :: _) _ _ _; first | refine vr_convStr (gk rfl) rfl rfl (by first | rfl | exact rowOf_length.symm | (simp only [lns] <;> omega)) rfl rfl rfl rfl ?_ | refine vr_convNil (gk rfl) rfl rfl rfl rfl rfl ?_) | refine x_opF rfl (by first | exact True.intro | omega) ?_ | (show VR _ _ _ (⟨_, .indexAddr _ _ _, _, _, _, _⟩ :: _) _ _ _; first | refine vr_index_rd (gk rfl) rfl rfl rfl rfl rfl (by omega) rfl ?_ | refine vr_index_rdP (gk rfl) rfl rfl rfl rfl rfl (by omega) rfl ?_ | refine vr_index_rdN (gk rfl) rfl rfl rfl rfl (by first | omega | decide) rfl ?_) | (show VR _ _ _ (⟨_, .index _ _ _, _, _, _, _⟩ :: _) _ _ _; first | refine vr_indexStr (m := 0) (gk rfl) rfl rfl rfl (by decide) (by omega) rfl rfl ?_ | refine vr_indexStr (gk rfl) rfl rfl rfl (by omega) (by omega) (by first | exact (Int.toNat_natCast _).symm | rfl) rfl ?_) | (show VR _ _ _ (⟨_, .nilCheck _, _, _, _, _⟩ :: _) _ _ _; first | refine vr_nilCheck_rp (gk rfl) rfl rfl ?_ | refine vr_nilCheck_ptr (gk rfl) rfl rfl ?_ | refine vr_nilCheck_ep (gk rfl) rfl rfl ?_) | (show VR _ _ _ (⟨_, .binOp _ _ _ _ _, _, _, _, _⟩ :: _) _ _ _; first | refine x_ariw rfl rfl rfl rfl rfl ?_) | refine x_gknow rfl (by assumption) ?_ | (refine x_gsplit rfl ?_ ?_ <;> intro h <;> have hq := h <;> (try simp only [hqs] at hq)))
      | (show VR _ _ _ [] _ _ _; first | refine vr_nil ?_ | refine vr_nil_t (by kernel_rfl) ?_)
      | (show thenQ _ _ _ _; first | refine q_then_n ?_ | refine q_then_x ?_ | refine q_then_r ?_)
      | (show blockQ _ _ _ _; first | refine q_blk_n ?_ | refine q_blk_r ?_ | refine q_blk_x ?_ | refine q_blk_o rfl ?_)
      | refine vc_seq ?_
      | refine vc_region ?_ | refine vc_region_t ?_
      | (show VC _ (.cond _ _ _) _ _; first | refine vc_cond_t rfl ?_ | refine vc_cond_f rfl ?_ | refine x_know rfl (by assumption) ?_ | (refine x_cond rfl ?_ ?_ <;> intro h <;> have hq := h <;> (try simp only [hqs] at hq)))
      | refine vc_ret ?_ | refine vc_exit ?_ | refine vc_block ?_ | refine vc_skip ?_ | refine vc_label ?_)
    · refine ret_bool isRet_r rfl (decide_eq_true ?_)
      rw [← hq]
      exact getD_mem (by omega)
    · refine ⟨k + 1, ⟨by omega, fun i hi => ?_⟩, by omega, ?_⟩
      · by_cases hik : i < k
        · exact hk.2 i hik
        · have : i = k := by omega
          subst this
          exact hq
      · refine le_gen0 (fun n => n) ?_ ?_ rfl (by first | rfl | (simp only [wfL, wfs]; rfl))
        all_goals repeat' (first | exact trivial | refine ⟨⟨_, rfl, ?_⟩, ?_⟩ | exact .c .d | exact .clo | exact .ep | exact .c (.ptr rfl) | exact .rp rfl | exact .c (.mp rfl) | exact .c (.fn rfl) | exact .c (.row rfl rfl) | exact .c .nil | (refine .c (.row rfl ?_); ((try dsimp only); first | rfl | omega | (simp only [lns] <;> omega)); done) | (refine .c (cw_eq ?_); first | rfl | (congr 1; omega); done) | exact .boxD rfl rfl | exact .pin rfl | exact .rowD rfl rowOf_isD | exact .rowD (rowOf_append.symm) rowOf_isD | exact .rowD (rowOf_set rfl) rowOf_isD | (refine .rowD ?_ rowOf_isD; rw [rowOf_append]; rfl) | (refine .rowD ?_ rowOf_isD; simp only [rowOf_append, List.append_assoc]; rfl) | refine .agg ?_ | refine .box ?_ | exact .nil | refine .cons ?_ ?_ | exact .d | exact .ptr rfl | exact .row rfl rfl | (refine .row rfl ?_; ((try dsimp only); first | rfl | omega | (simp only [lns] <;> omega)); done))
    · refine ret_bool isRet_r rfl (decide_eq_false fun hm => ?_)
      obtain ⟨i, hi, e⟩ := mem_getD hm
      exact hk.2 i (by omega) e
end Go.Proofs


