/-
  What functions of the given program hand back, by walks over its code, and plain laws on that. No condition.
-/
import Derived.Test.YtcheghbghehifaaSxP23h
namespace Go.Proofs
open Go Go.Sx
set_option linter.unusedSimpArgs false
set_option linter.unusedVariables false
attribute [local irreducible] VR VC thenQ blockQ

/-! ## The reference's functions, by the same words -/

theorem r_ranges_spec (n e r s : Int) : FnS Try.prog 61 [AI n, AI e, AI r, AI s] [] (AB (heardB n e r s)) [] := by
  refine FnS.of_body (enters_of Try.func61 (by kernel_rfl) rfl) Try.func61 rfl Try.ntmps61 Try.results61 rfl rfl rfl rfl fun E hS => ?_
  repeat' (first
    | (show VR _ _ _ (_ :: _) _ _ _; first | refine x_op rfl (by first | exact True.intro | omega) ?_ | (show VR _ _ _ (⟨_, .pick _ _ _, _, _, _, _⟩ :: _) _ _ _; first | refine vr_pick_true (gk rfl) rfl (by assumption) rfl rfl ?_ | refine vr_pick_false (gk rfl) rfl (by assumption) rfl rfl ?_) | refine x_gknow rfl (by assumption) ?_ | (refine x_gsplit rfl ?_ ?_ <;> intro h <;> have hq := h <;> (try simp only [decide_eq_true_eq, decide_eq_false_iff_not, Int.not_lt, Int.not_le, ne_eq, Decidable.not_not, Bool.not_eq_true', Bool.not_eq_false'] at hq)))
    | (show VR _ _ _ [] _ _ _; first | refine vr_nil ?_ | refine vr_nil_t (by kernel_rfl) ?_)
    | (show thenQ _ _ _ _; first | refine q_then_n ?_ | refine q_then_x ?_ | refine q_then_r ?_)
    | (show blockQ _ _ _ _; first | refine q_blk_n ?_ | refine q_blk_r ?_ | refine q_blk_x ?_ | refine q_blk_o rfl ?_)
    | refine vc_seq ?_
    | refine vc_region ?_ | refine vc_region_t ?_
    | (show VC _ (.cond _ _ _) _ _; first | refine vc_cond_t rfl ?_ | refine vc_cond_f rfl ?_ | refine x_know rfl (by assumption) ?_ | (refine x_cond rfl ?_ ?_ <;> intro h <;> have hq := h <;> (try simp only [decide_eq_true_eq, decide_eq_false_iff_not, Int.not_lt, Int.not_le, ne_eq, Decidable.not_not, Bool.not_eq_true', Bool.not_eq_false'] at hq)))
    | refine vc_ret ?_ | refine vc_exit ?_ | refine vc_block ?_ | refine vc_skip ?_ | refine vc_label ?_)
  all_goals refine ret_bool isRet_r rfl ?_
  all_goals simp_all [heardB, inR] <;> omega

theorem r_node_spec (n : Int) : FnS Try.prog 54 [AI n] [] (AB (nodeB n)) [] := by
  refine FnS.of_body (enters_of Try.func54 (by kernel_rfl) rfl) Try.func54 rfl Try.ntmps54 Try.results54 rfl rfl rfl rfl fun E hS => ?_
  repeat' (first
    | (show VR _ _ _ (_ :: _) _ _ _; first | refine x_op rfl (by first | exact True.intro | omega) ?_ | (show VR _ _ _ (⟨_, .pick _ _ _, _, _, _, _⟩ :: _) _ _ _; first | refine vr_pick_true (gk rfl) rfl (by assumption) rfl rfl ?_ | refine vr_pick_false (gk rfl) rfl (by assumption) rfl rfl ?_) | refine x_gknow rfl (by assumption) ?_ | (refine x_gsplit rfl ?_ ?_ <;> intro h <;> have hq := h <;> (try simp only [decide_eq_true_eq, decide_eq_false_iff_not, Int.not_lt, Int.not_le, ne_eq, Decidable.not_not, Bool.not_eq_true', Bool.not_eq_false'] at hq)))
    | (show VR _ _ _ [] _ _ _; first | refine vr_nil ?_ | refine vr_nil_t (by kernel_rfl) ?_)
    | (show thenQ _ _ _ _; first | refine q_then_n ?_ | refine q_then_x ?_ | refine q_then_r ?_)
    | (show blockQ _ _ _ _; first | refine q_blk_n ?_ | refine q_blk_r ?_ | refine q_blk_x ?_ | refine q_blk_o rfl ?_)
    | refine vc_seq ?_
    | refine vc_region ?_ | refine vc_region_t ?_
    | (show VC _ (.cond _ _ _) _ _; first | refine vc_cond_t rfl ?_ | refine vc_cond_f rfl ?_ | refine x_know rfl (by assumption) ?_ | (refine x_cond rfl ?_ ?_ <;> intro h <;> have hq := h <;> (try simp only [decide_eq_true_eq, decide_eq_false_iff_not, Int.not_lt, Int.not_le, ne_eq, Decidable.not_not, Bool.not_eq_true', Bool.not_eq_false'] at hq)))
    | refine vc_ret ?_ | refine vc_exit ?_ | refine vc_block ?_ | refine vc_skip ?_ | refine vc_label ?_)
  all_goals refine ret_bool isRet_r rfl ?_
  all_goals simp_all [nodeB, inR] <;> omega

theorem r_ranges22_spec (e k c : Int) : FnS Try.prog 66 [AI e, AI k, AI c] [] (AB (advB e k && inR c 1 1023)) [] := by
  refine FnS.of_body (enters_of Try.func66 (by kernel_rfl) rfl) Try.func66 rfl Try.ntmps66 Try.results66 rfl rfl rfl rfl fun E hS => ?_
  repeat' (first
    | (show VR _ _ _ (_ :: _) _ _ _; first | refine x_op rfl (by first | exact True.intro | omega) ?_ | (show VR _ _ _ (⟨_, .pick _ _ _, _, _, _, _⟩ :: _) _ _ _; first | refine vr_pick_true (gk rfl) rfl (by assumption) rfl rfl ?_ | refine vr_pick_false (gk rfl) rfl (by assumption) rfl rfl ?_) | refine x_gknow rfl (by assumption) ?_ | (refine x_gsplit rfl ?_ ?_ <;> intro h <;> have hq := h <;> (try simp only [decide_eq_true_eq, decide_eq_false_iff_not, Int.not_lt, Int.not_le, ne_eq, Decidable.not_not, Bool.not_eq_true', Bool.not_eq_false'] at hq)))
    | (show VR _ _ _ [] _ _ _; first | refine vr_nil ?_ | refine vr_nil_t (by kernel_rfl) ?_)
    | (show thenQ _ _ _ _; first | refine q_then_n ?_ | refine q_then_x ?_ | refine q_then_r ?_)
    | (show blockQ _ _ _ _; first | refine q_blk_n ?_ | refine q_blk_r ?_ | refine q_blk_x ?_ | refine q_blk_o rfl ?_)
    | refine vc_seq ?_
    | refine vc_region ?_ | refine vc_region_t ?_
    | (show VC _ (.cond _ _ _) _ _; first | refine vc_cond_t rfl ?_ | refine vc_cond_f rfl ?_ | refine x_know rfl (by assumption) ?_ | (refine x_cond rfl ?_ ?_ <;> intro h <;> have hq := h <;> (try simp only [decide_eq_true_eq, decide_eq_false_iff_not, Int.not_lt, Int.not_le, ne_eq, Decidable.not_not, Bool.not_eq_true', Bool.not_eq_false'] at hq)))
    | refine vc_ret ?_ | refine vc_exit ?_ | refine vc_block ?_ | refine vc_skip ?_ | refine vc_label ?_)
  all_goals refine ret_bool isRet_r rfl ?_
  all_goals simp_all [advB, inR] <;> omega

theorem r_check_spec (l : List Nb) : FnS Try.prog 33 [AD (nbs l)] [] (AI (checkNb l)) [] := by
  refine FnS.of_body (enters_of Try.func33 (by kernel_rfl) rfl) Try.func33 rfl Try.ntmps33 Try.results33 rfl rfl rfl rfl fun E hS => ?_
  refine vc_bound (t := 0) rfl fun hb => ?_
  repeat' (first
    | (show VR _ _ _ (_ :: _) _ _ _; first | refine x_op rfl (by first | exact True.intro | omega) ?_ | (show VR _ _ _ (⟨_, .indexAddr _ _ _, _, _, _, _⟩ :: _) _ _ _; first | refine vr_index_rd (gk rfl) rfl rfl rfl rfl rfl (by omega) rfl ?_ | refine vr_index_rdP (gk rfl) rfl rfl rfl rfl rfl (by omega) rfl ?_ | refine vr_index_rdN (gk rfl) rfl rfl rfl rfl (by omega) rfl ?_ | refine vr_index_row (gk rfl) rfl rfl rfl rfl rfl rfl (by omega) (by omega) rfl ?_ | refine vr_index_rowN (gk rfl) rfl rfl rfl rfl rfl (by omega) (by first | rfl | exact rowOf_length.symm) rfl ?_) | (show VR _ _ _ (⟨_, .call ⟨.builtin .len, _, _⟩, _, _, _, _⟩ :: _) _ _ _; first | refine vr_len_row (gk rfl) rfl rfl (by first | rfl | exact rowOf_length.symm) rfl rfl ?_) | (show VR _ _ _ (⟨_, .binOp _ _ _ _ _, _, _, _, _⟩ :: _) _ _ _; first | refine x_ariw rfl rfl rfl rfl rfl ?_) | (show VR _ _ _ (⟨_, .pick _ _ _, _, _, _, _⟩ :: _) _ _ _; first | refine vr_pick_true (gk rfl) rfl (by assumption) rfl rfl ?_ | refine vr_pick_false (gk rfl) rfl (by assumption) rfl rfl ?_) | refine x_gknow rfl (by assumption) ?_ | (refine x_gsplit rfl ?_ ?_ <;> intro h <;> have hq := h <;> (try simp only [decide_eq_true_eq, decide_eq_false_iff_not, Int.not_lt, Int.not_le, ne_eq, Decidable.not_not, Bool.not_eq_true', Bool.not_eq_false'] at hq)))
    | (show VR _ _ _ [] _ _ _; first | refine vr_nil ?_ | refine vr_nil_t (by kernel_rfl) ?_)
    | (show thenQ _ _ _ _; first | refine q_then_n ?_ | refine q_then_x ?_ | refine q_then_r ?_)
    | (show blockQ _ _ _ _; first | refine q_blk_n ?_ | refine q_blk_r ?_ | refine q_blk_x ?_ | refine q_blk_o rfl ?_)
    | refine vc_seq ?_
    | refine vc_region ?_ | refine vc_region_t ?_
    | (show VC _ (.cond _ _ _) _ _; first | refine vc_cond_t rfl ?_ | refine vc_cond_f rfl ?_ | refine x_know rfl (by assumption) ?_ | (refine x_cond rfl ?_ ?_ <;> intro h <;> have hq := h <;> (try simp only [decide_eq_true_eq, decide_eq_false_iff_not, Int.not_lt, Int.not_le, ne_eq, Decidable.not_not, Bool.not_eq_true', Bool.not_eq_false'] at hq)))
    | refine vc_ret ?_ | refine vc_exit ?_ | refine vc_block ?_ | refine vc_skip ?_ | refine vc_label ?_)
  · refine ret_int isRet_r rfl ?_
    simp [checkNb]; omega
  · refine vc_loopI (ι := Nat) (fun k => stOf [(0, AD (nbs l)), (3, AI k)] []) (fun k => k ≤ l.length ∧ ∀ i, i < k → nbErr l i = 0) (fun k => l.length - k) 0 ⟨Nat.zero_le _, fun i hi => absurd hi (Nat.not_lt_zero _)⟩ ?_ ?_
    · exact le_of ⟨rfl, rfl, trivial⟩ trivial rfl
    · intro k hk
      repeat' (first
        | (show VR _ _ _ (_ :: _) _ _ _; first | refine x_op rfl (by first | exact True.intro | omega) ?_ | (show VR _ _ _ (⟨_, .call ⟨.value _, _, _⟩, _, _, _, _⟩ :: _) _ _ _; first | refine vr_calld (r_ranges_spec _ _ _ _) (gk rfl) rfl rfl rfl rfl rfl rfl ?_) | (show VR _ _ _ (⟨_, .indexAddr _ _ _, _, _, _, _⟩ :: _) _ _ _; first | refine vr_index_rd (gk rfl) rfl rfl rfl rfl rfl (by omega) rfl ?_ | refine vr_index_rdP (gk rfl) rfl rfl rfl rfl rfl (by omega) rfl ?_ | refine vr_index_rdN (gk rfl) rfl rfl rfl rfl (by omega) rfl ?_ | refine vr_index_row (gk rfl) rfl rfl rfl rfl rfl rfl (by omega) (by omega) rfl ?_ | refine vr_index_rowN (gk rfl) rfl rfl rfl rfl rfl (by omega) (by first | rfl | exact rowOf_length.symm) rfl ?_) | (show VR _ _ _ (⟨_, .call ⟨.builtin .len, _, _⟩, _, _, _, _⟩ :: _) _ _ _; first | refine vr_len_row (gk rfl) rfl rfl (by first | rfl | exact rowOf_length.symm) rfl rfl ?_) | (show VR _ _ _ (⟨_, .binOp _ _ _ _ _, _, _, _, _⟩ :: _) _ _ _; first | refine x_ariw rfl rfl rfl rfl rfl ?_) | (show VR _ _ _ (⟨_, .pick _ _ _, _, _, _, _⟩ :: _) _ _ _; first | refine vr_pick_true (gk rfl) rfl (by assumption) rfl rfl ?_ | refine vr_pick_false (gk rfl) rfl (by assumption) rfl rfl ?_) | refine x_gknow rfl (by assumption) ?_ | (refine x_gsplit rfl ?_ ?_ <;> intro h <;> have hq := h <;> (try simp only [decide_eq_true_eq, decide_eq_false_iff_not, Int.not_lt, Int.not_le, ne_eq, Decidable.not_not, Bool.not_eq_true', Bool.not_eq_false'] at hq)))
        | (show VR _ _ _ [] _ _ _; first | refine vr_nil ?_ | refine vr_nil_t (by kernel_rfl) ?_)
        | (show thenQ _ _ _ _; first | refine q_then_n ?_ | refine q_then_x ?_ | refine q_then_r ?_)
        | (show blockQ _ _ _ _; first | refine q_blk_n ?_ | refine q_blk_r ?_ | refine q_blk_x ?_ | refine q_blk_o rfl ?_)
        | refine vc_seq ?_
        | refine vc_region ?_ | refine vc_region_t ?_
        | (show VC _ (.cond _ _ _) _ _; first | refine vc_cond_t rfl ?_ | refine vc_cond_f rfl ?_ | refine x_know rfl (by assumption) ?_ | (refine x_cond rfl ?_ ?_ <;> intro h <;> have hq := h <;> (try simp only [decide_eq_true_eq, decide_eq_false_iff_not, Int.not_lt, Int.not_le, ne_eq, Decidable.not_not, Bool.not_eq_true', Bool.not_eq_false'] at hq)))
        | refine vc_ret ?_ | refine vc_exit ?_ | refine vc_block ?_ | refine vc_skip ?_ | refine vc_label ?_)
      all_goals first
        | (refine ret_int isRet_r rfl ?_
           first
           | exact (checkNb_none (by omega) hk (by omega)).symm
           | (refine (checkNb_hit (by omega) hk (by omega) ?_ (by decide)).symm; simp_all [nbErr, inR] <;> omega))
        | (refine ⟨k + 1, ⟨by omega, fun i hi => ?_⟩, by omega, le_of ⟨rfl, rfl, trivial⟩ trivial rfl⟩
           by_cases hik : i < k
           · exact hk.2 i hik
           · have : i = k := by omega
             subst this
             simp_all [nbErr, inR] <;> omega)
        | trace_state
end Go.Proofs

