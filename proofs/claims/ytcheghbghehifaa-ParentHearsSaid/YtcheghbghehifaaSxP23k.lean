/-
  What functions of the given program hand back, by walks over its code, and plain laws on that. No condition.
-/
import Derived.Test.YtcheghbghehifaaSxP23j
namespace Go.Proofs
open Go Go.Sx
set_option linter.unusedSimpArgs false
set_option linter.unusedVariables false
attribute [local irreducible] VR VC thenQ blockQ

theorem advB_one (e k : Int) : (advB e k && inR 1 1 1023) = advB e k := by simp [inR]
theorem r_feas_spec (r : Rk) (e k : Int) : FnS Try.prog 40 [rkA r, AI e, AI k] [] (AB (feasB r e k)) [] := by
  refine FnS.of_body (enters_of Try.func40 (by kernel_rfl) rfl) Try.func40 rfl Try.ntmps40 Try.results40 rfl rfl rfl rfl fun E hS => ?_
  repeat' (first
    | (show VR _ _ _ (_ :: _) _ _ _; first | refine x_op rfl (by first | exact True.intro | omega) ?_ | (show VR _ _ _ (⟨_, .call ⟨.value _, _, _⟩, _, _, _, _⟩ :: _) _ _ _; first | refine vr_calld (r_rcheck_spec r) (gk rfl) rfl rfl rfl rfl rfl rfl ?_ | refine vr_calld (r_ranges22_spec _ _ _) (gk rfl) rfl rfl rfl rfl rfl rfl ?_) | (show VR _ _ _ (⟨_, .pick _ _ _, _, _, _, _⟩ :: _) _ _ _; first | refine vr_pick_true (gk rfl) rfl (by assumption) rfl rfl ?_ | refine vr_pick_false (gk rfl) rfl (by assumption) rfl rfl ?_) | refine x_gknow rfl (by assumption) ?_ | (refine x_gsplit rfl ?_ ?_ <;> intro h <;> have hq := h <;> (try simp only [decide_eq_true_eq, decide_eq_false_iff_not, Int.not_lt, Int.not_le, ne_eq, Decidable.not_not, Bool.not_eq_true', Bool.not_eq_false'] at hq)))
    | (show VR _ _ _ [] _ _ _; first | refine vr_nil ?_ | refine vr_nil_t (by kernel_rfl) ?_)
    | (show thenQ _ _ _ _; first | refine q_then_n ?_ | refine q_then_x ?_ | refine q_then_r ?_)
    | (show blockQ _ _ _ _; first | refine q_blk_n ?_ | refine q_blk_r ?_ | refine q_blk_x ?_ | refine q_blk_o rfl ?_)
    | refine vc_seq ?_
    | refine vc_region ?_ | refine vc_region_t ?_
    | (show VC _ (.cond _ _ _) _ _; first | refine vc_cond_t rfl ?_ | refine vc_cond_f rfl ?_ | refine x_know rfl (by assumption) ?_ | (refine x_cond rfl ?_ ?_ <;> intro h <;> have hq := h <;> (try simp only [decide_eq_true_eq, decide_eq_false_iff_not, Int.not_lt, Int.not_le, ne_eq, Decidable.not_not, Bool.not_eq_true', Bool.not_eq_false'] at hq)))
    | refine vc_ret ?_ | refine vc_exit ?_ | refine vc_block ?_ | refine vc_skip ?_ | refine vc_label ?_)
  all_goals refine ret_bool isRet_r rfl ?_
  all_goals simp_all [feasB, inR]

theorem r_adopt_spec (r : Rk) (fr e k c : Int) : FnS Try.prog 50 [rkA r, AI fr, AI e, AI k, AI c] [] (.tup [rkA (adopt' r fr e k c).1, AI (adopt' r fr e k c).2]) [] := by
  refine FnS.of_body (enters_of Try.func50 (by kernel_rfl) rfl) Try.func50 rfl Try.ntmps50 Try.results50 rfl rfl rfl rfl fun E hS => ?_
  repeat' (first
    | (show VR _ _ _ (_ :: _) _ _ _; first | refine x_op rfl (by first | exact True.intro | omega) ?_ | (show VR _ _ _ (⟨_, .call ⟨.value _, _, _⟩, _, _, _, _⟩ :: _) _ _ _; first | refine vr_calld (r_rcheck_spec r) (gk rfl) rfl rfl rfl rfl rfl rfl ?_ | refine vr_calld (r_node_spec _) (gk rfl) rfl rfl rfl rfl rfl rfl ?_ | refine vr_calld (r_ranges22_spec _ _ _) (gk rfl) rfl rfl rfl rfl rfl rfl ?_ | refine vr_calld (r_feas_spec r _ _) (gk rfl) rfl rfl rfl rfl rfl rfl ?_) | (show VR _ _ _ (⟨_, .binOp _ _ _ _ _, _, _, _, _⟩ :: _) _ _ _; first | refine x_ariw rfl rfl rfl rfl rfl ?_) | (show VR _ _ _ (⟨_, .pick _ _ _, _, _, _, _⟩ :: _) _ _ _; first | refine vr_pick_true (gk rfl) rfl (by assumption) rfl rfl ?_ | refine vr_pick_false (gk rfl) rfl (by assumption) rfl rfl ?_) | refine x_gknow rfl (by assumption) ?_ | (refine x_gsplit rfl ?_ ?_ <;> intro h <;> have hq := h <;> (try simp only [decide_eq_true_eq, decide_eq_false_iff_not, Int.not_lt, Int.not_le, ne_eq, Decidable.not_not, Bool.not_eq_true', Bool.not_eq_false', advB_t, advB_f, inR_t, inR_f, Bool.and_eq_true] at hq)))
    | (show VR _ _ _ [] _ _ _; first | refine vr_nil ?_ | refine vr_nil_t (by kernel_rfl) ?_)
    | (show thenQ _ _ _ _; first | refine q_then_n ?_ | refine q_then_x ?_ | refine q_then_r ?_)
    | (show blockQ _ _ _ _; first | refine q_blk_n ?_ | refine q_blk_r ?_ | refine q_blk_x ?_ | refine q_blk_o rfl ?_)
    | refine vc_seq ?_
    | refine vc_region ?_ | refine vc_region_t ?_
    | (show VC _ (.cond _ _ _) _ _; first | refine vc_cond_t rfl ?_ | refine vc_cond_f rfl ?_ | refine x_know rfl (by assumption) ?_ | (refine x_cond rfl ?_ ?_ <;> intro h <;> have hq := h <;> (try simp only [decide_eq_true_eq, decide_eq_false_iff_not, Int.not_lt, Int.not_le, ne_eq, Decidable.not_not, Bool.not_eq_true', Bool.not_eq_false', advB_t, advB_f, inR_t, inR_f, Bool.and_eq_true] at hq)))
    | refine vc_ret ?_ | refine vc_exit ?_ | refine vc_block ?_ | refine vc_skip ?_ | refine vc_label ?_)
  all_goals try refine ret_agg_d isRet_r rfl rfl rfl rfl rfl ?_ ?_
  all_goals unfold adopt' begin'
  all_goals repeat' split
  all_goals first | rfl | (exfalso; simp_all; done) | (exfalso; omega) | trace_state

theorem r_lose_spec (r : Rk) : FnS Try.prog 48 [rkA r] [] (rkA (lose' r)) [] := by
  refine FnS.of_body (enters_of Try.func48 (by kernel_rfl) rfl) Try.func48 rfl Try.ntmps48 Try.results48 rfl rfl rfl rfl fun E hS => ?_
  repeat' (first
    | (show VR _ _ _ (_ :: _) _ _ _; first | refine x_op rfl (by first | exact True.intro | omega) ?_ | (show VR _ _ _ (⟨_, .call ⟨.value _, _, _⟩, _, _, _, _⟩ :: _) _ _ _; first | refine vr_calld (r_rcheck_spec r) (gk rfl) rfl rfl rfl rfl rfl rfl ?_) | (show VR _ _ _ (⟨_, .pick _ _ _, _, _, _, _⟩ :: _) _ _ _; first | refine vr_pick_true (gk rfl) rfl (by assumption) rfl rfl ?_ | refine vr_pick_false (gk rfl) rfl (by assumption) rfl rfl ?_) | refine x_gknow rfl (by assumption) ?_ | (refine x_gsplit rfl ?_ ?_ <;> intro h <;> have hq := h <;> (try simp only [decide_eq_true_eq, decide_eq_false_iff_not, Int.not_lt, Int.not_le, ne_eq, Decidable.not_not, Bool.not_eq_true', Bool.not_eq_false'] at hq)))
    | (show VR _ _ _ [] _ _ _; first | refine vr_nil ?_ | refine vr_nil_t (by kernel_rfl) ?_)
    | (show thenQ _ _ _ _; first | refine q_then_n ?_ | refine q_then_x ?_ | refine q_then_r ?_)
    | (show blockQ _ _ _ _; first | refine q_blk_n ?_ | refine q_blk_r ?_ | refine q_blk_x ?_ | refine q_blk_o rfl ?_)
    | refine vc_seq ?_
    | refine vc_region ?_ | refine vc_region_t ?_
    | (show VC _ (.cond _ _ _) _ _; first | refine vc_cond_t rfl ?_ | refine vc_cond_f rfl ?_ | refine x_know rfl (by assumption) ?_ | (refine x_cond rfl ?_ ?_ <;> intro h <;> have hq := h <;> (try simp only [decide_eq_true_eq, decide_eq_false_iff_not, Int.not_lt, Int.not_le, ne_eq, Decidable.not_not, Bool.not_eq_true', Bool.not_eq_false'] at hq)))
    | refine vc_ret ?_ | refine vc_exit ?_ | refine vc_block ?_ | refine vc_skip ?_ | refine vc_label ?_)
  all_goals refine ret_agg1 isRet_r rfl rfl rfl rfl ?_
  all_goals unfold lose'
  all_goals split
  all_goals first | rfl | (exfalso; simp_all; done)

theorem r_cost_spec (a k : Int) (h : a ≤ 2147483648) : FnS Try.prog 26 [.agg [.d (.int .i64 a), .d (.int .i64 k)]] [] (AI (costC a k)) [] := by
  refine FnS.of_body (enters_of Try.func26 (by kernel_rfl) rfl) Try.func26 rfl Try.ntmps26 Try.results26 rfl rfl rfl rfl fun E hS => ?_
  repeat' (first
    | (show VR _ _ _ (_ :: _) _ _ _; first | refine x_op rfl (by first | exact True.intro | omega) ?_ | (show VR _ _ _ (⟨_, .binOp _ _ _ _ _, _, _, _, _⟩ :: _) _ _ _; first | refine x_ariw rfl rfl rfl rfl rfl ?_) | (show VR _ _ _ (⟨_, .pick _ _ _, _, _, _, _⟩ :: _) _ _ _; first | refine vr_pick_true (gk rfl) rfl (by assumption) rfl rfl ?_ | refine vr_pick_false (gk rfl) rfl (by assumption) rfl rfl ?_) | refine x_gknow rfl (by assumption) ?_ | (refine x_gsplit rfl ?_ ?_ <;> intro h <;> have hq := h <;> (try simp only [decide_eq_true_eq, decide_eq_false_iff_not, Int.not_lt, Int.not_le, ne_eq, Decidable.not_not, Bool.not_eq_true', Bool.not_eq_false'] at hq)))
    | (show VR _ _ _ [] _ _ _; first | refine vr_nil ?_ | refine vr_nil_t (by kernel_rfl) ?_)
    | (show thenQ _ _ _ _; first | refine q_then_n ?_ | refine q_then_x ?_ | refine q_then_r ?_)
    | (show blockQ _ _ _ _; first | refine q_blk_n ?_ | refine q_blk_r ?_ | refine q_blk_x ?_ | refine q_blk_o rfl ?_)
    | refine vc_seq ?_
    | refine vc_region ?_ | refine vc_region_t ?_
    | (show VC _ (.cond _ _ _) _ _; first | refine vc_cond_t rfl ?_ | refine vc_cond_f rfl ?_ | refine x_know rfl (by assumption) ?_ | (refine x_cond rfl ?_ ?_ <;> intro h <;> have hq := h <;> (try simp only [decide_eq_true_eq, decide_eq_false_iff_not, Int.not_lt, Int.not_le, ne_eq, Decidable.not_not, Bool.not_eq_true', Bool.not_eq_false'] at hq)))
    | refine vc_ret ?_ | refine vc_exit ?_ | refine vc_block ?_ | refine vc_skip ?_ | refine vc_label ?_)
  all_goals refine ret_int isRet_r rfl ?_
  all_goals unfold costC
  all_goals repeat' split
  all_goals first | rfl | (exfalso; simp_all; done) | (exfalso; omega) | exact Int.min_comm _ _ | trace_state

def pathC (x : Nb) : Int := IntKind.i64.wrap (x.rank + costC x.att x.ack)
theorem r_path_spec (x : Nb) (h : x.att ≤ 2147483648) : FnS Try.prog 41 [.agg (x.enc.map C.d)] [] (AI (pathC x)) [] := by
  refine FnS.of_body (enters_of Try.func41 (by kernel_rfl) rfl) Try.func41 rfl Try.ntmps41 Try.results41 rfl rfl rfl rfl fun E hS => ?_
  repeat' (first
    | (show VR _ _ _ (_ :: _) _ _ _; first | refine x_op rfl (by first | exact True.intro | omega) ?_ | (show VR _ _ _ (⟨_, .call ⟨.value _, _, _⟩, _, _, _, _⟩ :: _) _ _ _; first | refine vr_calld (r_cost_spec _ _ h) (gk rfl) rfl rfl rfl rfl rfl rfl ?_) | (show VR _ _ _ (⟨_, .binOp _ _ _ _ _, _, _, _, _⟩ :: _) _ _ _; first | refine x_ariw rfl rfl rfl rfl rfl ?_) | refine x_gknow rfl (by assumption) ?_ | (refine x_gsplit rfl ?_ ?_ <;> intro h <;> have hq := h <;> (try simp only [decide_eq_true_eq, decide_eq_false_iff_not, Int.not_lt, Int.not_le, ne_eq, Decidable.not_not, Bool.not_eq_true', Bool.not_eq_false'] at hq)))
    | (show VR _ _ _ [] _ _ _; first | refine vr_nil ?_ | refine vr_nil_t (by kernel_rfl) ?_)
    | (show thenQ _ _ _ _; first | refine q_then_n ?_ | refine q_then_x ?_ | refine q_then_r ?_)
    | (show blockQ _ _ _ _; first | refine q_blk_n ?_ | refine q_blk_r ?_ | refine q_blk_x ?_ | refine q_blk_o rfl ?_)
    | refine vc_seq ?_
    | refine vc_region ?_ | refine vc_region_t ?_
    | (show VC _ (.cond _ _ _) _ _; first | refine vc_cond_t rfl ?_ | refine vc_cond_f rfl ?_ | refine x_know rfl (by assumption) ?_ | (refine x_cond rfl ?_ ?_ <;> intro h <;> have hq := h <;> (try simp only [decide_eq_true_eq, decide_eq_false_iff_not, Int.not_lt, Int.not_le, ne_eq, Decidable.not_not, Bool.not_eq_true', Bool.not_eq_false'] at hq)))
    | refine vc_ret ?_ | refine vc_exit ?_ | refine vc_block ?_ | refine vc_skip ?_ | refine vc_label ?_)
  all_goals exact ret_int isRet_r rfl rfl

theorem rk_ok {r : Rk} (h : rkErr r = 0) : nodeB r.node = true ∧ inR r.epoch 0 65535 = true ∧ leastB r = true ∧ rightB r = true := by
  unfold rkErr at h
  split at h
  · rename_i h1
    simp only [Bool.and_eq_true] at h1
    split at h
    · exact ⟨h1.1.1, h1.1.2, h1.2, ‹_›⟩
    · cases h
  · cases h
theorem rk_of {r : Rk} (h1 : nodeB r.node = true) (h2 : inR r.epoch 0 65535 = true) (h3 : leastB r = true) (h4 : rightB r = true) : rkErr r = 0 := by
  simp [rkErr, h1, h2, h3, h4]
theorem rk_parent {r : Rk} (h : rkErr r = 0) (hp : r.parent ≠ -1) : r.node ≠ 0 ∧ nodeB r.parent = true ∧ r.parent ≠ r.node ∧ 1 ≤ r.epoch ∧ 0 ≤ r.heard ∧ r.heard < r.rank ∧ r.heard < r.least ∧ r.rank < 65535 := by
  obtain ⟨_, _, _, h4⟩ := rk_ok h
  unfold rightB at h4
  split at h4
  · simp only [Bool.and_eq_true, decide_eq_true_eq] at h4; exact absurd h4.1.1.1.2 hp
  · rename_i hn
    simp only [if_neg hp, Bool.and_eq_true, decide_eq_true_eq, ne_eq] at h4
    exact ⟨hn, h4.1.1.1.1.1.1, h4.1.1.1.1.1.2, h4.1.1.1.1.2, h4.1.1.1.2, h4.1.1.2, h4.1.2, h4.2⟩
theorem rk_begin {r : Rk} {e : Int} (h : rkErr r = 0) (he : 1 ≤ e ∧ e ≤ 65535) (hp : r.parent ≠ -1) : rkErr (begin' r e) = 0 := by
  unfold begin'
  split
  · obtain ⟨h1, h2, h3, h4⟩ := rk_ok h
    obtain ⟨g1, g2, g3, g4, g5, g6, g7, g8⟩ := rk_parent h hp
    refine rk_of h1 ?_ ?_ ?_
    · simp [inR]; omega
    · simp [leastB, inR]
    · simp [rightB, g1, hp, g2, g3, g5, g6, g8]; omega
  · exact h
theorem begin_lose {r : Rk} {e : Int} (h : rkErr r = 0) (he : 1 ≤ e ∧ e ≤ 65535) (hp : r.parent ≠ -1) : lose' (begin' r e) = begin' (lose' r) e := by
  have hn := (rk_parent h hp).1
  have hb := rk_begin h he hp
  unfold lose'
  rw [if_pos ⟨hb, by unfold begin'; split <;> exact hn⟩, if_pos ⟨h, hn⟩]
  unfold begin'
  split <;> rfl
theorem r_update_spec (r : Rk) (e k c : Int) : FnS Try.prog 49 [rkA r, AI e, AI k, AI c] [] (.tup [rkA (update' r e k c).1, AI (update' r e k c).2]) [] := by
  refine FnS.of_body (enters_of Try.func49 (by kernel_rfl) rfl) Try.func49 rfl Try.ntmps49 Try.results49 rfl rfl rfl rfl fun E hS => ?_
  repeat' (first
    | (show VR _ _ _ (_ :: _) _ _ _; first | refine x_op rfl (by first | exact True.intro | omega) ?_ | (show VR _ _ _ (⟨_, .call ⟨.value _, _, _⟩, _, _, _, _⟩ :: _) _ _ _; first | refine vr_calld (r_rcheck_spec r) (gk rfl) rfl rfl rfl rfl rfl rfl ?_ | refine vr_calld (r_ranges22_spec _ _ _) (gk rfl) rfl rfl rfl rfl rfl rfl ?_ | refine vr_calld (r_adopt_spec r _ _ _ _) (gk rfl) rfl rfl rfl rfl rfl rfl ?_ | refine vr_calld (r_lose_spec r) (gk rfl) rfl rfl rfl rfl rfl rfl ?_) | refine x_gknow rfl (by assumption) ?_ | (refine x_gsplit rfl ?_ ?_ <;> intro h <;> have hq := h <;> (try simp only [decide_eq_true_eq, decide_eq_false_iff_not, Int.not_lt, Int.not_le, ne_eq, Decidable.not_not, Bool.not_eq_true', Bool.not_eq_false'] at hq)))
    | (show VR _ _ _ [] _ _ _; first | refine vr_nil ?_ | refine vr_nil_t (by kernel_rfl) ?_)
    | (show thenQ _ _ _ _; first | refine q_then_n ?_ | refine q_then_x ?_ | refine q_then_r ?_)
    | (show blockQ _ _ _ _; first | refine q_blk_n ?_ | refine q_blk_r ?_ | refine q_blk_x ?_ | refine q_blk_o rfl ?_)
    | refine vc_seq ?_
    | refine vc_region ?_ | refine vc_region_t ?_
    | (show VC _ (.cond _ _ _) _ _; first | refine vc_cond_t rfl ?_ | refine vc_cond_f rfl ?_ | refine x_know rfl (by assumption) ?_ | (refine x_cond rfl ?_ ?_ <;> intro h <;> have hq := h <;> (try simp only [decide_eq_true_eq, decide_eq_false_iff_not, Int.not_lt, Int.not_le, ne_eq, Decidable.not_not, Bool.not_eq_true', Bool.not_eq_false'] at hq)))
    | refine vc_ret ?_ | refine vc_exit ?_ | refine vc_block ?_ | refine vc_skip ?_ | refine vc_label ?_)
  all_goals try refine ret_agg_d isRet_r rfl rfl rfl rfl rfl ?_ ?_
  all_goals unfold update'
  all_goals repeat' split
  all_goals first
    | rfl
    | (exfalso; simp_all; done)
    | (exfalso; omega)
    | (have ha : advB e k = true := by simp_all
       rw [begin_lose (by assumption) (by rw [advB_t] at ha; exact ha.1) (by assumption)]
       unfold begin'
       first | (rw [if_pos (by assumption)]; rfl) | (rw [if_neg (by omega)]; rfl))
    | trace_state
end Go.Proofs

