/-
  What functions of the given program hand back, by walks over its code, and plain laws on that. No condition.
-/
import Derived.Test.YtcheghbghehifaaSxP23m
namespace Go.Proofs
open Go Go.Sx
set_option linter.unusedSimpArgs false
set_option linter.unusedVariables false
attribute [local irreducible] VR VC thenQ blockQ

set_option maxHeartbeats 2000000 in
theorem r_select_spec (l : List Nb) (r : Rk) (m : Int) : FnS Try.prog 16 [AD (nbs l), rkA r, AI m] [] (.tup [rkA (select' l r m).1, AB (select' l r m).2.1, AI (select' l r m).2.2]) [] := by
  refine FnS.of_body (enters_of Try.func16 (by kernel_rfl) rfl) Try.func16 rfl Try.ntmps16 Try.results16 rfl rfl rfl rfl fun E hS => ?_
  repeat' (first
    | (show VR _ _ _ (_ :: _) _ _ _; first | refine x_op rfl (by first | exact True.intro | omega) ?_ | (show VR _ _ _ (⟨_, .call ⟨.value _, _, _⟩, _, _, _, _⟩ :: _) _ _ _; first | refine vr_calld (r_check_spec l) (gk rfl) rfl rfl rfl rfl rfl rfl ?_ | refine vr_calld (r_rcheck_spec r) (gk rfl) rfl rfl rfl rfl rfl rfl ?_) | (show VR _ _ _ (⟨_, .indexAddr _ _ _, _, _, _, _⟩ :: _) _ _ _; first | refine vr_index_rd (gk rfl) rfl rfl rfl rfl rfl (by omega) rfl ?_ | refine vr_index_rdP (gk rfl) rfl rfl rfl rfl rfl (by omega) rfl ?_ | refine vr_index_rdN (gk rfl) rfl rfl rfl rfl (by omega) rfl ?_ | refine vr_index_row (gk rfl) rfl rfl rfl rfl rfl rfl (by omega) (by omega) rfl ?_ | refine vr_index_rowN (gk rfl) rfl rfl rfl rfl rfl (by omega) (by first | rfl | exact rowOf_length.symm) rfl ?_) | (show VR _ _ _ (⟨_, .binOp _ _ _ _ _, _, _, _, _⟩ :: _) _ _ _; first | refine x_ariw rfl rfl rfl rfl rfl ?_) | (show VR _ _ _ (⟨_, .pick _ _ _, _, _, _, _⟩ :: _) _ _ _; first | refine vr_pick_true (gk rfl) rfl (by assumption) rfl rfl ?_ | refine vr_pick_false (gk rfl) rfl (by assumption) rfl rfl ?_) | refine x_gknow rfl (by assumption) ?_ | (refine x_gsplit rfl ?_ ?_ <;> intro h <;> have hq := h <;> (try simp only [decide_eq_true_eq, decide_eq_false_iff_not, Int.not_lt, Int.not_le, ne_eq, Decidable.not_not, Bool.not_eq_true', Bool.not_eq_false', inR_t, inR_f] at hq)))
    | (show VR _ _ _ [] _ _ _; first | refine vr_nil ?_ | refine vr_nil_t (by kernel_rfl) ?_)
    | (show thenQ _ _ _ _; first | refine q_then_n ?_ | refine q_then_x ?_ | refine q_then_r ?_)
    | (show blockQ _ _ _ _; first | refine q_blk_n ?_ | refine q_blk_r ?_ | refine q_blk_x ?_ | refine q_blk_o rfl ?_)
    | (show VC _ (.seq _ _) _ _; (fail_if_success (show VC _ (.seq (.seq (.region 8 _ _) _) _) _ _)); (fail_if_success (show VC _ (.seq (.region 8 _ _) _) _ _)); refine vc_seq ?_)
    | refine vc_region ?_ | refine vc_region_t ?_
    | (show VC _ (.cond _ _ _) _ _; first | refine vc_cond_t rfl ?_ | refine vc_cond_f rfl ?_ | refine x_know rfl (by assumption) ?_ | (refine x_cond rfl ?_ ?_ <;> intro h <;> have hq := h <;> (try simp only [decide_eq_true_eq, decide_eq_false_iff_not, Int.not_lt, Int.not_le, ne_eq, Decidable.not_not, Bool.not_eq_true', Bool.not_eq_false', inR_t, inR_f] at hq)))
    | refine vc_ret ?_ | refine vc_exit ?_ | refine vc_block ?_ | refine vc_skip ?_ | refine vc_label ?_)
  all_goals first
    | (refine ret_agg_d2 isRet_r rfl rfl rfl rfl rfl rfl ?_ ?_ ?_
       all_goals unfold select'
       all_goals repeat' split
       all_goals first | rfl | (exfalso; simp_all; done) | (exfalso; simp only [inR_t, inR_f, ne_eq, Decidable.not_not] at *; omega) | (exfalso; simp_all [inR]; omega))
    | skip
  have hc : checkNb l = 0 := by simp_all
  have hr : rkErr r = 0 := by simp_all
  have hm : inR m 0 65535 = true := by simp only [inR_t]; omega
  have hn : ¬ r.node = 0 := by simp_all
  have hlen := (checkNb_ok hc).1
  have hall := (checkNb_ok hc).2
  refine vc_cut (stOf [(0, AD (nbs l)), (2, AI m), (4, .c (.ptr 4 0)), (6, .c (.ptr 6 0)), (7, AB false), (8, AI 0), (9, .c (.ptr 9 0))] [(4, .box r.cs), (6, .box zero6), (9, .box (stepA l r).cs)]) ?_ ?_
  · have hatt := att_le hc (bsNb l r.parent)
    have hix := r_index_spec l r.parent
    rw [idx_found hc r.parent] at hix
    cases hf : foundNb l r.parent with
    | true =>
      rw [hf] at hix
      have hb := (found_iff.1 hf).1
      have hix' : FnS Try.prog 47 [AD (nbs l), AI r.parent] [] (AI (bsNb l r.parent : Nat)) [] := hix
      repeat' (first
        | (show VR _ _ _ (_ :: _) _ _ _; first | refine x_op rfl (by first | exact True.intro | omega) ?_ | (show VR _ _ _ (⟨_, .call ⟨.value _, _, _⟩, _, _, _, _⟩ :: _) _ _ _; first | refine vr_calld (hix') (gk rfl) rfl rfl rfl rfl rfl rfl ?_ | refine vr_calld (r_cost_spec _ _ (by omega)) (gk rfl) rfl rfl rfl rfl rfl rfl ?_ | refine vr_calld (r_update_spec r _ _ _) (gk rfl) rfl rfl rfl rfl rfl rfl ?_) | (show VR _ _ _ (⟨_, .indexAddr _ _ _, _, _, _, _⟩ :: _) _ _ _; first | refine vr_index_rd (gk rfl) rfl rfl rfl rfl rfl (by omega) rfl ?_ | refine vr_index_rdP (gk rfl) rfl rfl rfl rfl rfl (by omega) rfl ?_ | refine vr_index_rdN (gk rfl) rfl rfl rfl rfl (by omega) rfl ?_ | refine vr_index_row (gk rfl) rfl rfl rfl rfl rfl rfl (by omega) (by omega) rfl ?_ | refine vr_index_rowN (gk rfl) rfl rfl rfl rfl rfl (by omega) (by first | rfl | exact rowOf_length.symm) rfl ?_) | (show VR _ _ _ (⟨_, .binOp _ _ _ _ _, _, _, _, _⟩ :: _) _ _ _; first | refine x_ariw rfl rfl rfl rfl rfl ?_) | (show VR _ _ _ (⟨_, .pick _ _ _, _, _, _, _⟩ :: _) _ _ _; first | refine vr_pick_true (gk rfl) rfl (by assumption) rfl rfl ?_ | refine vr_pick_false (gk rfl) rfl (by assumption) rfl rfl ?_) | refine x_gknow rfl (by assumption) ?_ | (refine x_gsplit rfl ?_ ?_ <;> intro h <;> have hq := h <;> (try simp only [decide_eq_true_eq, decide_eq_false_iff_not, Int.not_lt, Int.not_le, ne_eq, Decidable.not_not, Bool.not_eq_true', Bool.not_eq_false'] at hq)))
        | (show VR _ _ _ [] _ _ _; first | refine vr_nil ?_ | refine vr_nil_t (by kernel_rfl) ?_)
        | (show thenQ _ _ _ _; first | refine q_then_n ?_ | refine q_then_x ?_ | refine q_then_r ?_)
        | (show blockQ _ _ _ _; first | refine q_blk_n ?_ | refine q_blk_r ?_ | refine q_blk_x ?_ | refine q_blk_o rfl ?_)
        | refine vc_seq ?_
        | refine vc_region ?_ | refine vc_region_t ?_
        | (show VC _ (.cond _ _ _) _ _; first | refine vc_cond_t rfl ?_ | refine vc_cond_f rfl ?_ | refine x_know rfl (by assumption) ?_ | (refine x_cond rfl ?_ ?_ <;> intro h <;> have hq := h <;> (try simp only [decide_eq_true_eq, decide_eq_false_iff_not, Int.not_lt, Int.not_le, ne_eq, Decidable.not_not, Bool.not_eq_true', Bool.not_eq_false'] at hq)))
        | refine vc_ret ?_ | refine vc_exit ?_ | refine vc_block ?_ | refine vc_skip ?_ | refine vc_label ?_)
      all_goals first
        | (exfalso; omega)
        | (refine le_of ⟨rfl, rfl, rfl, rfl, rfl, rfl, rfl, trivial⟩ ⟨rfl, rfl, bx_eq ?_ rfl, trivial⟩ rfl
           unfold stepA
           first | (rw [if_pos hq]; rfl) | (rw [if_neg (by omega)]; rfl) | (rw [if_pos (by omega), if_pos hf]; rfl))
    | false =>
      rw [hf] at hix
      have hix' : FnS Try.prog 47 [AD (nbs l), AI r.parent] [] (AI (-1)) [] := hix
      repeat' (first
        | (show VR _ _ _ (_ :: _) _ _ _; first | refine x_op rfl (by first | exact True.intro | omega) ?_ | (show VR _ _ _ (⟨_, .call ⟨.value _, _, _⟩, _, _, _, _⟩ :: _) _ _ _; first | refine vr_calld (hix') (gk rfl) rfl rfl rfl rfl rfl rfl ?_ | refine vr_calld (r_lose_spec r) (gk rfl) rfl rfl rfl rfl rfl rfl ?_) | (show VR _ _ _ (⟨_, .indexAddr _ _ _, _, _, _, _⟩ :: _) _ _ _; first | refine vr_index_rd (gk rfl) rfl rfl rfl rfl rfl (by omega) rfl ?_ | refine vr_index_rdP (gk rfl) rfl rfl rfl rfl rfl (by omega) rfl ?_ | refine vr_index_rdN (gk rfl) rfl rfl rfl rfl (by omega) rfl ?_ | refine vr_index_row (gk rfl) rfl rfl rfl rfl rfl rfl (by omega) (by omega) rfl ?_ | refine vr_index_rowN (gk rfl) rfl rfl rfl rfl rfl (by omega) (by first | rfl | exact rowOf_length.symm) rfl ?_) | (show VR _ _ _ (⟨_, .binOp _ _ _ _ _, _, _, _, _⟩ :: _) _ _ _; first | refine x_ariw rfl rfl rfl rfl rfl ?_) | (show VR _ _ _ (⟨_, .pick _ _ _, _, _, _, _⟩ :: _) _ _ _; first | refine vr_pick_true (gk rfl) rfl (by assumption) rfl rfl ?_ | refine vr_pick_false (gk rfl) rfl (by assumption) rfl rfl ?_) | refine x_gknow rfl (by assumption) ?_ | (refine x_gsplit rfl ?_ ?_ <;> intro h <;> have hq := h <;> (try simp only [decide_eq_true_eq, decide_eq_false_iff_not, Int.not_lt, Int.not_le, ne_eq, Decidable.not_not, Bool.not_eq_true', Bool.not_eq_false'] at hq)))
        | (show VR _ _ _ [] _ _ _; first | refine vr_nil ?_ | refine vr_nil_t (by kernel_rfl) ?_)
        | (show thenQ _ _ _ _; first | refine q_then_n ?_ | refine q_then_x ?_ | refine q_then_r ?_)
        | (show blockQ _ _ _ _; first | refine q_blk_n ?_ | refine q_blk_r ?_ | refine q_blk_x ?_ | refine q_blk_o rfl ?_)
        | refine vc_seq ?_
        | refine vc_region ?_ | refine vc_region_t ?_
        | (show VC _ (.cond _ _ _) _ _; first | refine vc_cond_t rfl ?_ | refine vc_cond_f rfl ?_ | refine x_know rfl (by assumption) ?_ | (refine x_cond rfl ?_ ?_ <;> intro h <;> have hq := h <;> (try simp only [decide_eq_true_eq, decide_eq_false_iff_not, Int.not_lt, Int.not_le, ne_eq, Decidable.not_not, Bool.not_eq_true', Bool.not_eq_false'] at hq)))
        | refine vc_ret ?_ | refine vc_exit ?_ | refine vc_block ?_ | refine vc_skip ?_ | refine vc_label ?_)
      all_goals first
        | (exfalso; omega)
        | (refine le_of ⟨rfl, rfl, rfl, rfl, rfl, rfl, rfl, trivial⟩ ⟨rfl, rfl, bx_eq ?_ rfl, trivial⟩ rfl
           unfold stepA
           first | (rw [if_neg (by omega)]; rfl) | (rw [if_pos (by omega), if_neg (by rw [hf]; decide)]; rfl))
  refine vc_cut (stOf [(4, .c (.ptr 4 0)), (6, .c (.ptr 6 0)), (7, AB false), (8, AI 0), (9, .c (.ptr 9 0))] [(4, .box r.cs), (6, .box zero6), (9, .box (stepB l (stepA l r) m).cs)]) ?_ ?_
  · have hbs := r_best_spec l (stepA l r)
    unfold rbestI rbestB at hbs
    rw [if_pos hc, if_pos hc] at hbs
    cases hb : refB l (stepA l r) l.length with
    | none =>
      rw [hb] at hbs
      have hbs' : FnS Try.prog 14 [AD (nbs l), rkA (stepA l r)] [] (.tup [AI 0, AB false]) [] := hbs
      repeat' (first
        | (show VR _ _ _ (_ :: _) _ _ _; first | refine x_op rfl (by first | exact True.intro | omega) ?_ | (show VR _ _ _ (⟨_, .call ⟨.value _, _, _⟩, _, _, _, _⟩ :: _) _ _ _; first | refine vr_calld (hbs') (gk rfl) rfl rfl rfl rfl rfl rfl ?_) | (show VR _ _ _ (⟨_, .indexAddr _ _ _, _, _, _, _⟩ :: _) _ _ _; first | refine vr_index_rd (gk rfl) rfl rfl rfl rfl rfl (by omega) rfl ?_ | refine vr_index_rdP (gk rfl) rfl rfl rfl rfl rfl (by omega) rfl ?_ | refine vr_index_rdN (gk rfl) rfl rfl rfl rfl (by omega) rfl ?_ | refine vr_index_row (gk rfl) rfl rfl rfl rfl rfl rfl (by omega) (by omega) rfl ?_ | refine vr_index_rowN (gk rfl) rfl rfl rfl rfl rfl (by omega) (by first | rfl | exact rowOf_length.symm) rfl ?_) | (show VR _ _ _ (⟨_, .binOp _ _ _ _ _, _, _, _, _⟩ :: _) _ _ _; first | refine x_ariw rfl rfl rfl rfl rfl ?_) | (show VR _ _ _ (⟨_, .pick _ _ _, _, _, _, _⟩ :: _) _ _ _; first | refine vr_pick_true (gk rfl) rfl (by assumption) rfl rfl ?_ | refine vr_pick_false (gk rfl) rfl (by assumption) rfl rfl ?_) | refine x_gknow rfl (by assumption) ?_ | (refine x_gsplit rfl ?_ ?_ <;> intro h <;> have hq := h <;> (try simp only [decide_eq_true_eq, decide_eq_false_iff_not, Int.not_lt, Int.not_le, ne_eq, Decidable.not_not, Bool.not_eq_true', Bool.not_eq_false'] at hq)))
        | (show VR _ _ _ [] _ _ _; first | refine vr_nil ?_ | refine vr_nil_t (by kernel_rfl) ?_)
        | (show thenQ _ _ _ _; first | refine q_then_n ?_ | refine q_then_x ?_ | refine q_then_r ?_)
        | (show blockQ _ _ _ _; first | refine q_blk_n ?_ | refine q_blk_r ?_ | refine q_blk_x ?_ | refine q_blk_o rfl ?_)
        | refine vc_seq ?_
        | refine vc_region ?_ | refine vc_region_t ?_
        | (show VC _ (.cond _ _ _) _ _; first | refine vc_cond_t rfl ?_ | refine vc_cond_f rfl ?_ | refine x_know rfl (by assumption) ?_ | (refine x_cond rfl ?_ ?_ <;> intro h <;> have hq := h <;> (try simp only [decide_eq_true_eq, decide_eq_false_iff_not, Int.not_lt, Int.not_le, ne_eq, Decidable.not_not, Bool.not_eq_true', Bool.not_eq_false'] at hq)))
        | refine vc_ret ?_ | refine vc_exit ?_ | refine vc_block ?_ | refine vc_skip ?_ | refine vc_label ?_)
      refine le_of ⟨rfl, rfl, rfl, rfl, rfl, trivial⟩ ⟨rfl, rfl, bx_eq ?_ rfl, trivial⟩ rfl
      unfold stepB takeB
      rw [hasLk_ref hc, hb]
      rfl
    | some b =>
      rw [hb] at hbs
      have hbl := refB_lt hb
      have hok := refB_ok hb
      have hrn := rk_neg (okNb_rk hok)
      have hatt := att_le hc b
      have e0 : max 0 (oI (some b)) = (b : Int) := by simp only [oI]; omega
      rw [e0] at hbs
      have hbs' : FnS Try.prog 14 [AD (nbs l), rkA (stepA l r)] [] (.tup [AI (b : Nat), AB true]) [] := hbs
      repeat' (first
        | (show VR _ _ _ (_ :: _) _ _ _; first | refine x_op rfl (by first | exact True.intro | omega) ?_ | (show VR _ _ _ (⟨_, .call ⟨.value _, _, _⟩, _, _, _, _⟩ :: _) _ _ _; first | refine vr_calld (hbs') (gk rfl) rfl rfl rfl rfl rfl rfl ?_ | refine vr_calld (r_path_spec (l.getD b default) (by omega)) (gk rfl) rfl rfl rfl rfl rfl rfl ?_ | refine vr_calld (r_cost_spec _ _ (by omega)) (gk rfl) rfl rfl rfl rfl rfl rfl ?_ | refine vr_calld (r_adopt_spec (stepA l r) _ _ _ _) (gk rfl) rfl rfl rfl rfl rfl rfl ?_) | (show VR _ _ _ (⟨_, .indexAddr _ _ _, _, _, _, _⟩ :: _) _ _ _; first | refine vr_index_rd (gk rfl) rfl rfl rfl rfl rfl (by omega) rfl ?_ | refine vr_index_rdP (gk rfl) rfl rfl rfl rfl rfl (by omega) rfl ?_ | refine vr_index_rdN (gk rfl) rfl rfl rfl rfl (by omega) rfl ?_ | refine vr_index_row (gk rfl) rfl rfl rfl rfl rfl rfl (by omega) (by omega) rfl ?_ | refine vr_index_rowN (gk rfl) rfl rfl rfl rfl rfl (by omega) (by first | rfl | exact rowOf_length.symm) rfl ?_) | (show VR _ _ _ (⟨_, .binOp _ _ _ _ _, _, _, _, _⟩ :: _) _ _ _; first | refine x_ariw rfl rfl rfl rfl rfl ?_) | (show VR _ _ _ (⟨_, .pick _ _ _, _, _, _, _⟩ :: _) _ _ _; first | refine vr_pick_true (gk rfl) rfl (by assumption) rfl rfl ?_ | refine vr_pick_false (gk rfl) rfl (by assumption) rfl rfl ?_) | refine x_gknow rfl (by assumption) ?_ | (refine x_gsplit rfl ?_ ?_ <;> intro h <;> have hq := h <;> (try simp only [decide_eq_true_eq, decide_eq_false_iff_not, Int.not_lt, Int.not_le, ne_eq, Decidable.not_not, Bool.not_eq_true', Bool.not_eq_false'] at hq)))
        | (show VR _ _ _ [] _ _ _; first | refine vr_nil ?_ | refine vr_nil_t (by kernel_rfl) ?_)
        | (show thenQ _ _ _ _; first | refine q_then_n ?_ | refine q_then_x ?_ | refine q_then_r ?_)
        | (show blockQ _ _ _ _; first | refine q_blk_n ?_ | refine q_blk_r ?_ | refine q_blk_x ?_ | refine q_blk_o rfl ?_)
        | refine vc_seq ?_
        | refine vc_region ?_ | refine vc_region_t ?_
        | (show VC _ (.cond _ _ _) _ _; first | refine vc_cond_t rfl ?_ | refine vc_cond_f rfl ?_ | refine x_know rfl (by assumption) ?_ | (refine x_cond rfl ?_ ?_ <;> intro h <;> have hq := h <;> (try simp only [decide_eq_true_eq, decide_eq_false_iff_not, Int.not_lt, Int.not_le, ne_eq, Decidable.not_not, Bool.not_eq_true', Bool.not_eq_false'] at hq)))
        | refine vc_ret ?_ | refine vc_exit ?_ | refine vc_block ?_ | refine vc_skip ?_ | refine vc_label ?_)
      all_goals refine le_of ⟨rfl, rfl, rfl, rfl, rfl, trivial⟩ ⟨rfl, rfl, bx_eq ?_ rfl, trivial⟩ rfl
      all_goals unfold stepB takeB
      all_goals rw [hasLk_ref hc, hb, bestLk_ref hc _ hb]
      all_goals simp only [Option.isSome_some, Bool.true_and]
      all_goals simp only [show (mkLk l b).n = l.getD b default from rfl, show (mkLk l b).path = pathC (l.getD b default) from rfl, Bool.or_eq_true, decide_eq_true_eq]
      all_goals first
        | (rw [if_pos (by omega)]; rfl)
        | (rw [if_neg (by omega)]; done)
        | (rw [if_neg (by omega)]; rfl)
  · repeat' (first
      | (show VR _ _ _ (_ :: _) _ _ _; first | refine x_op rfl (by first | exact True.intro | omega) ?_ | (show VR _ _ _ (⟨_, .indexAddr _ _ _, _, _, _, _⟩ :: _) _ _ _; first | refine vr_index_rd (gk rfl) rfl rfl rfl rfl rfl (by omega) rfl ?_ | refine vr_index_rdP (gk rfl) rfl rfl rfl rfl rfl (by omega) rfl ?_ | refine vr_index_rdN (gk rfl) rfl rfl rfl rfl (by omega) rfl ?_ | refine vr_index_row (gk rfl) rfl rfl rfl rfl rfl rfl (by omega) (by omega) rfl ?_ | refine vr_index_rowN (gk rfl) rfl rfl rfl rfl rfl (by omega) (by first | rfl | exact rowOf_length.symm) rfl ?_) | (show VR _ _ _ (⟨_, .binOp _ _ _ _ _, _, _, _, _⟩ :: _) _ _ _; first | refine x_ariw rfl rfl rfl rfl rfl ?_) | (show VR _ _ _ (⟨_, .pick _ _ _, _, _, _, _⟩ :: _) _ _ _; first | refine vr_pick_true (gk rfl) rfl (by assumption) rfl rfl ?_ | refine vr_pick_false (gk rfl) rfl (by assumption) rfl rfl ?_) | refine x_gknow rfl (by assumption) ?_ | (refine x_gsplit rfl ?_ ?_ <;> intro h <;> have hq := h <;> (try simp only [decide_eq_true_eq, decide_eq_false_iff_not, Int.not_lt, Int.not_le, ne_eq, Decidable.not_not, Bool.not_eq_true', Bool.not_eq_false'] at hq)))
      | (show VR _ _ _ [] _ _ _; first | refine vr_nil ?_ | refine vr_nil_t (by kernel_rfl) ?_)
      | (show thenQ _ _ _ _; first | refine q_then_n ?_ | refine q_then_x ?_ | refine q_then_r ?_)
      | (show blockQ _ _ _ _; first | refine q_blk_n ?_ | refine q_blk_r ?_ | refine q_blk_x ?_ | refine q_blk_o rfl ?_)
      | refine vc_seq ?_
      | refine vc_region ?_ | refine vc_region_t ?_
      | (show VC _ (.cond _ _ _) _ _; first | refine vc_cond_t rfl ?_ | refine vc_cond_f rfl ?_ | refine x_know rfl (by assumption) ?_ | (refine x_cond rfl ?_ ?_ <;> intro h <;> have hq := h <;> (try simp only [decide_eq_true_eq, decide_eq_false_iff_not, Int.not_lt, Int.not_le, ne_eq, Decidable.not_not, Bool.not_eq_true', Bool.not_eq_false'] at hq)))
      | refine vc_ret ?_ | refine vc_exit ?_ | refine vc_block ?_ | refine vc_skip ?_ | refine vc_label ?_)
    refine ret_agg_d2 isRet_r rfl rfl rfl rfl rfl rfl ?_ ?_ ?_
    all_goals unfold select'
    all_goals rw [if_neg (by simp [hc, hr]), if_neg (by simp [hm]), if_neg hn]
    all_goals rfl
end Go.Proofs

