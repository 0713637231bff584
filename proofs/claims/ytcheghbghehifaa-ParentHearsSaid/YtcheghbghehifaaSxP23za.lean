/-
  What functions of the given program hand back, by walks over its code, and plain laws on that. No condition.
-/
import Derived.Test.YtcheghbghehifaaSxP23z
-- SXU
namespace Go.Proofs
open Go Go.Sx
set_option linter.unusedSimpArgs false
set_option linter.unusedVariables false
attribute [local irreducible] VR VC thenQ blockQ retL

/-- What an advertisement makes of what is known of its node. -/
def adOf (x : Nb) (e k s : Int) : Nb := { x with epoch := e, rank := k, slot := s }
def newNb (t : Int) : Nb := ⟨t, 0, 0, 0, 0, 0⟩
def hearX (l : List Nb) (t : Int) : Nb := if foundNb l t = true then l.getD (bsNb l t) default else newNb t
def hearL (l : List Nb) (t e k s : Int) : List Nb := if foundNb l t = true then l.set (bsNb l t) (adOf (l.getD (bsNb l t) default) e k s) else insAt l (bsNb l t) (adOf (newNb t) e k s)

theorem hear_bad (l : List Nb) (t e k s : Int) (h : checkNb l ≠ 0) : FnS Try.prog 30 [AD (nbs l), AI t, AI e, AI k, AI s] [] (.tup [AD .nils, AI 1]) [] := by
  refine FnS.of_body (enters_of Try.func30 (by kernel_rfl) rfl) Try.func30 rfl Try.ntmps30 Try.results30 rfl rfl rfl rfl fun E hS => ?_
  repeat' (first
    | (show VR _ _ _ (_ :: _) _ _ _; first | refine x_op rfl (by first | exact True.intro | omega) ?_ | (show VR _ _ _ (⟨_, .call ⟨.value _, _, _⟩, _, _, _, _⟩ :: _) _ _ _; first | refine vr_calldU (check_spec l) (gk rfl) rfl rfl rfl (by first | rfl | (simp only [wfRes, wfL, wfArgs, List.all_cons, List.all_nil, rowOf_blk]; rfl)) rfl (by first | exact newB_O | rfl) rfl ?_) | (show VR _ _ _ (⟨_, .indexAddr _ _ _, _, _, _, _⟩ :: _) _ _ _; first | refine vr_index_rd (gk rfl) rfl rfl rfl rfl rfl (by omega) rfl ?_ | refine vr_index_rdP (gk rfl) rfl rfl rfl rfl rfl (by omega) rfl ?_ | refine vr_index_rdN (gk rfl) rfl rfl rfl rfl (by first | omega | decide) rfl ?_ | refine vr_index_rowO (gk rfl) rfl rfl rfl rfl rfl rfl (by omega) (by omega) rfl ?_ | refine vr_index_row (gk rfl) rfl rfl rfl rfl rfl rfl (by omega) (by omega) rfl ?_ | refine vr_index_rowN (gk rfl) rfl rfl rfl rfl rfl (by omega) (by first | rfl | exact rowOf_length.symm | (simp only [rowOf_length, List.length_set]; omega)) rfl ?_) | (show VR _ _ _ (⟨_, .nilCheck _, _, _, _, _⟩ :: _) _ _ _; first | refine vr_nilCheck_rp (gk rfl) rfl rfl ?_ | refine vr_nilCheck_ptr (gk rfl) rfl rfl ?_ | refine vr_nilCheck_ep (gk rfl) rfl rfl ?_) | (show VR _ _ _ (⟨_, .load _ _, _, _, _, _⟩ :: _) _ _ _; first | refine vr_load_rowO_agg (gk rfl) rfl rfl (by omega) rfl rfl rfl ?_ | refine vr_load_rowO (gk rfl) rfl rfl (by omega) rfl rfl rfl ?_ | refine vr_load_rowS_agg (gk rfl) rfl rfl (by omega) rfl rfl rfl ?_ | refine vr_load_rowS (gk rfl) rfl rfl (by omega) rfl rfl rfl ?_) | (show VR _ _ _ (⟨_, .store _ _ _, _, _, _, _⟩ :: _) _ _ _; first | refine vr_store_rowO (gk rfl) rfl rfl rfl (by omega) rfl rfl rfl ?_ | refine vr_store_rowS (gk rfl) rfl rfl rfl (by omega) rfl rfl rfl ?_) | refine x_gknow rfl (by assumption) ?_ | (refine x_gsplit rfl ?_ ?_ <;> intro h <;> have hq := h <;> (try simp only [decide_eq_true_eq, decide_eq_false_iff_not, Int.not_lt, Int.not_le, ne_eq, Decidable.not_not, Bool.not_eq_true', Bool.not_eq_false'] at hq)))
    | (show VR _ _ _ [] _ _ _; first | refine vr_nil ?_ | refine vr_nil_t (by kernel_rfl) ?_)
    | (show thenQ _ _ _ _; first | refine q_then_n ?_ | refine q_then_x ?_ | refine q_then_r ?_)
    | (show blockQ _ _ _ _; first | refine q_blk_n ?_ | refine q_blk_r ?_ | refine q_blk_x ?_ | refine q_blk_o rfl ?_)
    | (show VC _ (.seq _ _) _ _; (fail_if_success (show VC _ (.seq (.seq (.region 3 _ _) _) _) _ _)); (fail_if_success (show VC _ (.seq (.region 3 _ _) _) _ _)); refine vc_seq ?_)
    | refine vc_region ?_ | refine vc_region_t ?_
    | (show VC _ (.cond _ _ _) _ _; first | refine vc_cond_t rfl ?_ | refine vc_cond_f rfl ?_ | refine x_know rfl (by assumption) ?_ | (refine x_cond rfl ?_ ?_ <;> intro h <;> have hq := h <;> (try simp only [decide_eq_true_eq, decide_eq_false_iff_not, Int.not_lt, Int.not_le, ne_eq, Decidable.not_not, Bool.not_eq_true', Bool.not_eq_false'] at hq)))
    | refine vc_ret ?_ | refine vc_exit ?_ | refine vc_block ?_ | refine vc_skip ?_ | refine vc_label ?_)
  all_goals first
    | exact ret_d2 isRet_r rfl rfl rfl rfl
    | (exfalso; simp_all; done)
theorem hear_range (l : List Nb) (t e k s : Int) (h : checkNb l = 0) (hr : heardB t e k s = false) : FnS Try.prog 30 [AD (nbs l), AI t, AI e, AI k, AI s] [] (.tup [AD .nils, AI 2]) [] := by
  have hck := check_spec l
  rw [h] at hck
  have hh := heard_spec t e k s
  rw [hr] at hh
  refine FnS.of_body (enters_of Try.func30 (by kernel_rfl) rfl) Try.func30 rfl Try.ntmps30 Try.results30 rfl rfl rfl rfl fun E hS => ?_
  repeat' (first
    | (show VR _ _ _ (_ :: _) _ _ _; first | refine x_op rfl (by first | exact True.intro | omega) ?_ | (show VR _ _ _ (⟨_, .call ⟨.value _, _, _⟩, _, _, _, _⟩ :: _) _ _ _; first | refine vr_calldU (hck) (gk rfl) rfl rfl rfl (by first | rfl | (simp only [wfRes, wfL, wfArgs, List.all_cons, List.all_nil, rowOf_blk]; rfl)) rfl (by first | exact newB_O | rfl) rfl ?_ | refine vr_calldU (hh) (gk rfl) rfl rfl rfl (by first | rfl | (simp only [wfRes, wfL, wfArgs, List.all_cons, List.all_nil, rowOf_blk]; rfl)) rfl (by first | exact newB_O | rfl) rfl ?_) | (show VR _ _ _ (⟨_, .indexAddr _ _ _, _, _, _, _⟩ :: _) _ _ _; first | refine vr_index_rd (gk rfl) rfl rfl rfl rfl rfl (by omega) rfl ?_ | refine vr_index_rdP (gk rfl) rfl rfl rfl rfl rfl (by omega) rfl ?_ | refine vr_index_rdN (gk rfl) rfl rfl rfl rfl (by first | omega | decide) rfl ?_ | refine vr_index_rowO (gk rfl) rfl rfl rfl rfl rfl rfl (by omega) (by omega) rfl ?_ | refine vr_index_row (gk rfl) rfl rfl rfl rfl rfl rfl (by omega) (by omega) rfl ?_ | refine vr_index_rowN (gk rfl) rfl rfl rfl rfl rfl (by omega) (by first | rfl | exact rowOf_length.symm | (simp only [rowOf_length, List.length_set]; omega)) rfl ?_) | (show VR _ _ _ (⟨_, .nilCheck _, _, _, _, _⟩ :: _) _ _ _; first | refine vr_nilCheck_rp (gk rfl) rfl rfl ?_ | refine vr_nilCheck_ptr (gk rfl) rfl rfl ?_ | refine vr_nilCheck_ep (gk rfl) rfl rfl ?_) | (show VR _ _ _ (⟨_, .load _ _, _, _, _, _⟩ :: _) _ _ _; first | refine vr_load_rowO_agg (gk rfl) rfl rfl (by omega) rfl rfl rfl ?_ | refine vr_load_rowO (gk rfl) rfl rfl (by omega) rfl rfl rfl ?_ | refine vr_load_rowS_agg (gk rfl) rfl rfl (by omega) rfl rfl rfl ?_ | refine vr_load_rowS (gk rfl) rfl rfl (by omega) rfl rfl rfl ?_) | (show VR _ _ _ (⟨_, .store _ _ _, _, _, _, _⟩ :: _) _ _ _; first | refine vr_store_rowO (gk rfl) rfl rfl rfl (by omega) rfl rfl rfl ?_ | refine vr_store_rowS (gk rfl) rfl rfl rfl (by omega) rfl rfl rfl ?_) | refine x_gknow rfl (by assumption) ?_ | (refine x_gsplit rfl ?_ ?_ <;> intro h <;> have hq := h <;> (try simp only [decide_eq_true_eq, decide_eq_false_iff_not, Int.not_lt, Int.not_le, ne_eq, Decidable.not_not, Bool.not_eq_true', Bool.not_eq_false'] at hq)))
    | (show VR _ _ _ [] _ _ _; first | refine vr_nil ?_ | refine vr_nil_t (by kernel_rfl) ?_)
    | (show thenQ _ _ _ _; first | refine q_then_n ?_ | refine q_then_x ?_ | refine q_then_r ?_)
    | (show blockQ _ _ _ _; first | refine q_blk_n ?_ | refine q_blk_r ?_ | refine q_blk_x ?_ | refine q_blk_o rfl ?_)
    | refine vc_seq ?_
    | refine vc_region ?_ | refine vc_region_t ?_
    | (show VC _ (.cond _ _ _) _ _; first | refine vc_cond_t rfl ?_ | refine vc_cond_f rfl ?_ | refine x_know rfl (by assumption) ?_ | (refine x_cond rfl ?_ ?_ <;> intro h <;> have hq := h <;> (try simp only [decide_eq_true_eq, decide_eq_false_iff_not, Int.not_lt, Int.not_le, ne_eq, Decidable.not_not, Bool.not_eq_true', Bool.not_eq_false'] at hq)))
    | refine vc_ret ?_ | refine vc_exit ?_ | refine vc_block ?_ | refine vc_skip ?_ | refine vc_label ?_)
  all_goals exact ret_d2 isRet_r rfl rfl rfl rfl
theorem hear_late (l : List Nb) (t e k s : Int) (h : checkNb l = 0) (hr : heardB t e k s = true) (hs : s < (hearX l t).slot) : FnS Try.prog 30 [AD (nbs l), AI t, AI e, AI k, AI s] [] (.tup [AD .nils, AI 15]) [] := by
  have hck := check_spec l
  rw [h] at hck
  have hh := heard_spec t e k s
  rw [hr] at hh
  obtain ⟨hlen, hall⟩ := checkNb_ok h
  have hfd := find_spec l t (by omega)
  have hf : foundNb l t = true := by
    cases hf : foundNb l t with
    | true => rfl
    | false =>
      rw [hearX, hf] at hs
      simp only [heardB, Bool.and_eq_true, inR_t] at hr
      have : s < 0 := hs
      omega
  rw [hearX, if_pos hf] at hs
  rw [hf] at hfd
  have hi := (found_iff.1 hf).1
  generalize bsNb l t = i at *
  refine FnS.of_body (enters_of Try.func30 (by kernel_rfl) rfl) Try.func30 rfl Try.ntmps30 Try.results30 rfl rfl rfl rfl fun E hS => ?_
  repeat' (first
    | (show VR _ _ _ (_ :: _) _ _ _; first | refine x_op rfl (by first | exact True.intro | omega) ?_ | (show VR _ _ _ (⟨_, .call ⟨.value _, _, _⟩, _, _, _, _⟩ :: _) _ _ _; first | refine vr_calldU (hck) (gk rfl) rfl rfl rfl (by first | rfl | (simp only [wfRes, wfL, wfArgs, List.all_cons, List.all_nil, rowOf_blk]; rfl)) rfl (by first | exact newB_O | rfl) rfl ?_ | refine vr_calldU (hh) (gk rfl) rfl rfl rfl (by first | rfl | (simp only [wfRes, wfL, wfArgs, List.all_cons, List.all_nil, rowOf_blk]; rfl)) rfl (by first | exact newB_O | rfl) rfl ?_ | refine vr_calldU (hfd) (gk rfl) rfl rfl rfl (by first | rfl | (simp only [wfRes, wfL, wfArgs, List.all_cons, List.all_nil, rowOf_blk]; rfl)) rfl (by first | exact newB_O | rfl) rfl ?_) | (show VR _ _ _ (⟨_, .indexAddr _ _ _, _, _, _, _⟩ :: _) _ _ _; first | refine vr_index_rd (gk rfl) rfl rfl rfl rfl rfl (by omega) rfl ?_ | refine vr_index_rdP (gk rfl) rfl rfl rfl rfl rfl (by omega) rfl ?_ | refine vr_index_rdN (gk rfl) rfl rfl rfl rfl (by first | omega | decide) rfl ?_ | refine vr_index_rowO (gk rfl) rfl rfl rfl rfl rfl rfl (by omega) (by omega) rfl ?_ | refine vr_index_row (gk rfl) rfl rfl rfl rfl rfl rfl (by omega) (by omega) rfl ?_ | refine vr_index_rowN (gk rfl) rfl rfl rfl rfl rfl (by omega) (by first | rfl | exact rowOf_length.symm | (simp only [rowOf_length, List.length_set]; omega)) rfl ?_) | (show VR _ _ _ (⟨_, .nilCheck _, _, _, _, _⟩ :: _) _ _ _; first | refine vr_nilCheck_rp (gk rfl) rfl rfl ?_ | refine vr_nilCheck_ptr (gk rfl) rfl rfl ?_ | refine vr_nilCheck_ep (gk rfl) rfl rfl ?_) | (show VR _ _ _ (⟨_, .load _ _, _, _, _, _⟩ :: _) _ _ _; first | refine vr_load_rowO_agg (gk rfl) rfl rfl (by omega) rfl rfl rfl ?_ | refine vr_load_rowO (gk rfl) rfl rfl (by omega) rfl rfl rfl ?_ | refine vr_load_rowS_agg (gk rfl) rfl rfl (by omega) rfl rfl rfl ?_ | refine vr_load_rowS (gk rfl) rfl rfl (by omega) rfl rfl rfl ?_) | (show VR _ _ _ (⟨_, .store _ _ _, _, _, _, _⟩ :: _) _ _ _; first | refine vr_store_rowO (gk rfl) rfl rfl rfl (by omega) rfl rfl rfl ?_ | refine vr_store_rowS (gk rfl) rfl rfl rfl (by omega) rfl rfl rfl ?_) | refine x_gknow rfl (by assumption) ?_ | (refine x_gsplit rfl ?_ ?_ <;> intro h <;> have hq := h <;> (try simp only [decide_eq_true_eq, decide_eq_false_iff_not, Int.not_lt, Int.not_le, ne_eq, Decidable.not_not, Bool.not_eq_true', Bool.not_eq_false'] at hq)))
    | (show VR _ _ _ [] _ _ _; first | refine vr_nil ?_ | refine vr_nil_t (by kernel_rfl) ?_)
    | (show thenQ _ _ _ _; first | refine q_then_n ?_ | refine q_then_x ?_ | refine q_then_r ?_)
    | (show blockQ _ _ _ _; first | refine q_blk_n ?_ | refine q_blk_r ?_ | refine q_blk_x ?_ | refine q_blk_o rfl ?_)
    | refine vc_seq ?_
    | refine vc_region ?_ | refine vc_region_t ?_
    | (show VC _ (.cond _ _ _) _ _; first | refine vc_cond_t rfl ?_ | refine vc_cond_f rfl ?_ | refine x_know rfl (by assumption) ?_ | (refine x_cond rfl ?_ ?_ <;> intro h <;> have hq := h <;> (try simp only [decide_eq_true_eq, decide_eq_false_iff_not, Int.not_lt, Int.not_le, ne_eq, Decidable.not_not, Bool.not_eq_true', Bool.not_eq_false'] at hq)))
    | refine vc_ret ?_ | refine vc_exit ?_ | refine vc_block ?_ | refine vc_skip ?_ | refine vc_label ?_)
  all_goals first
    | exact ret_d2 isRet_r rfl rfl rfl rfl
    | (exfalso; omega)
    | trace_state
theorem hear_known (l : List Nb) (t e k s : Int) (h : checkNb l = 0) (hr : heardB t e k s = true) (hs : ¬ s < (hearX l t).slot) (hf : foundNb l t = true) : FnS Try.prog 30 [AD (nbs l), AI t, AI e, AI k, AI s] [] (.tup [.c (.row 7 (hearL l t e k s).length), AI 0]) [(7, .row 41 6 (rowOf Nb.enc (hearL l t e k s)))] := by
  have hck := check_spec l
  rw [h] at hck
  have hh := heard_spec t e k s
  rw [hr] at hh
  obtain ⟨hlen, hall⟩ := checkNb_ok h
  have hfd := find_spec l t (by omega)
  rw [hearX, if_pos hf] at hs
  rw [hf] at hfd
  have hi := (found_iff.1 hf).1
  have hn := (found_iff.1 hf).2
  rw [hearL, if_pos hf]
  generalize bsNb l t = i at *
  refine FnS.of_body (enters_of Try.func30 (by kernel_rfl) rfl) Try.func30 rfl Try.ntmps30 Try.results30 rfl rfl rfl rfl fun E hS => ?_
  refine vc_retL ?_
  repeat' (first
    | (show VR _ _ _ (_ :: _) _ _ _; first | refine x_op rfl (by first | exact True.intro | omega) ?_ | (show VR _ _ _ (⟨_, .call ⟨.value _, _, _⟩, _, _, _, _⟩ :: _) _ _ _; first | refine vr_calldU (hck) (gk rfl) rfl rfl rfl (by first | rfl | (simp only [wfRes, wfL, wfArgs, List.all_cons, List.all_nil, rowOf_blk]; rfl)) rfl (by first | exact newB_O | rfl) rfl ?_ | refine vr_calldU (hh) (gk rfl) rfl rfl rfl (by first | rfl | (simp only [wfRes, wfL, wfArgs, List.all_cons, List.all_nil, rowOf_blk]; rfl)) rfl (by first | exact newB_O | rfl) rfl ?_ | refine vr_calldU (hfd) (gk rfl) rfl rfl rfl (by first | rfl | (simp only [wfRes, wfL, wfArgs, List.all_cons, List.all_nil, rowOf_blk]; rfl)) rfl (by first | exact newB_O | rfl) rfl ?_ | refine vr_calldU (clone_spec l (by omega)) (gk rfl) rfl rfl rfl (by first | rfl | (simp only [wfRes, wfL, wfArgs, List.all_cons, List.all_nil, rowOf_blk]; rfl)) rfl (by first | exact newB_O | rfl) rfl ?_) | (show VR _ _ _ (⟨_, .indexAddr _ _ _, _, _, _, _⟩ :: _) _ _ _; first | refine vr_index_rd (gk rfl) rfl rfl rfl rfl rfl (by omega) rfl ?_ | refine vr_index_rdP (gk rfl) rfl rfl rfl rfl rfl (by omega) rfl ?_ | refine vr_index_rdN (gk rfl) rfl rfl rfl rfl (by first | omega | decide) rfl ?_ | refine vr_index_rowO (gk rfl) rfl rfl rfl rfl rfl rfl (by omega) (by omega) rfl ?_ | refine vr_index_row (gk rfl) rfl rfl rfl rfl rfl rfl (by omega) (by omega) rfl ?_ | refine vr_index_rowN (gk rfl) rfl rfl rfl rfl rfl (by omega) (by first | rfl | exact rowOf_length.symm | (simp only [rowOf_length, List.length_set]; omega)) rfl ?_) | (show VR _ _ _ (⟨_, .nilCheck _, _, _, _, _⟩ :: _) _ _ _; first | refine vr_nilCheck_rp (gk rfl) rfl rfl ?_ | refine vr_nilCheck_ptr (gk rfl) rfl rfl ?_ | refine vr_nilCheck_ep (gk rfl) rfl rfl ?_) | (show VR _ _ _ (⟨_, .load _ _, _, _, _, _⟩ :: _) _ _ _; first | refine vr_load_rowO_agg (gk rfl) rfl rfl (by omega) rfl rfl rfl ?_ | refine vr_load_rowO (gk rfl) rfl rfl (by omega) rfl rfl rfl ?_ | refine vr_load_rowS_agg (gk rfl) rfl rfl (by omega) rfl rfl rfl ?_ | refine vr_load_rowS (gk rfl) rfl rfl (by omega) rfl rfl rfl ?_) | (show VR _ _ _ (⟨_, .store _ _ _, _, _, _, _⟩ :: _) _ _ _; first | refine vr_store_rowO (gk rfl) rfl rfl rfl (by omega) rfl rfl rfl ?_ | refine vr_store_rowS (gk rfl) rfl rfl rfl (by omega) rfl rfl rfl ?_) | refine x_gknow rfl (by assumption) ?_ | (refine x_gsplit rfl ?_ ?_ <;> intro h <;> have hq := h <;> (try simp only [decide_eq_true_eq, decide_eq_false_iff_not, Int.not_lt, Int.not_le, ne_eq, Decidable.not_not, Bool.not_eq_true', Bool.not_eq_false'] at hq)))
    | (show VR _ _ _ [] _ _ _; first | refine vr_nil ?_ | refine vr_nil_t (by kernel_rfl) ?_)
    | (show thenQ _ _ _ _; first | refine q_then_n ?_ | refine q_then_x ?_ | refine q_then_r ?_)
    | (show blockQ _ _ _ _; first | refine q_blk_n ?_ | refine q_blk_r ?_ | refine q_blk_x ?_ | refine q_blk_o rfl ?_)
    | refine vc_seq ?_
    | refine vc_region ?_ | refine vc_region_t ?_
    | (show VC _ (.cond _ _ _) _ _; first | refine vc_cond_t rfl ?_ | refine vc_cond_f rfl ?_ | refine x_know rfl (by assumption) ?_ | (refine x_cond rfl ?_ ?_ <;> intro h <;> have hq := h <;> (try simp only [decide_eq_true_eq, decide_eq_false_iff_not, Int.not_lt, Int.not_le, ne_eq, Decidable.not_not, Bool.not_eq_true', Bool.not_eq_false'] at hq)))
    | refine vc_ret ?_ | refine vc_exit ?_ | refine vc_block ?_ | refine vc_skip ?_ | refine vc_label ?_)
  all_goals first
    | (exfalso; omega)
    | skip
  all_goals refine retL_of (le_gen0 (l := [(10, .c (.row 7 (l.set i (adOf (l.getD i default) e k s)).length)), (11, AI 0)]) (b := [(7, .row 41 6 (rowOf Nb.enc (l.set i (adOf (l.getD i default) e k s))))]) (fun n => if n = 7 then 58007 else n) ⟨⟨_, rfl, .c (.row rfl (by simp))⟩, ⟨_, rfl, .c .d⟩, trivial⟩
      ⟨⟨_, rfl, .rowD (rowOf_set ?_) rowOf_isD⟩, trivial⟩ rfl (by simp only [wfL, List.all_cons, List.all_nil, rowOf_blk]; rfl)) (ret_row_d isRet_r rfl rfl rfl)
  all_goals (rw [← hn]; rfl)
theorem hear_new (l : List Nb) (t e k s : Int) (h : checkNb l = 0) (hr : heardB t e k s = true) (hf : foundNb l t = false) : FnS Try.prog 30 [AD (nbs l), AI t, AI e, AI k, AI s] [] (.tup [.c (.row 7 (hearL l t e k s).length), AI 0]) [(7, .row 41 6 (rowOf Nb.enc (hearL l t e k s)))] := by
  have hck := check_spec l
  rw [h] at hck
  have hh := heard_spec t e k s
  rw [hr] at hh
  obtain ⟨hlen, hall⟩ := checkNb_ok h
  have hfd := find_spec l t (by omega)
  rw [hf] at hfd
  have hi := (bsNb_ok h t).1
  rw [hearL, if_neg (by rw [hf]; simp)]
  generalize bsNb l t = i at *
  have hins := insert_spec l i (adOf (newNb t) e k s) (by omega) hi
  have hil : (insAt l i (adOf (newNb t) e k s)).length = l.length + 1 := by simp [insAt]; omega
  refine FnS.of_body (enters_of Try.func30 (by kernel_rfl) rfl) Try.func30 rfl Try.ntmps30 Try.results30 rfl rfl rfl rfl fun E hS => ?_
  refine vc_retL ?_
  repeat' (first
    | (show VR _ _ _ (_ :: _) _ _ _; first | refine x_op rfl (by first | exact True.intro | omega) ?_ | (show VR _ _ _ (⟨_, .call ⟨.value _, _, _⟩, _, _, _, _⟩ :: _) _ _ _; first | refine vr_calldU (hck) (gk rfl) rfl rfl rfl (by first | rfl | (simp only [wfRes, wfL, wfArgs, List.all_cons, List.all_nil, rowOf_blk]; rfl)) rfl (by first | exact newB_O | rfl) rfl ?_ | refine vr_calldU (hh) (gk rfl) rfl rfl rfl (by first | rfl | (simp only [wfRes, wfL, wfArgs, List.all_cons, List.all_nil, rowOf_blk]; rfl)) rfl (by first | exact newB_O | rfl) rfl ?_ | refine vr_calldU (hfd) (gk rfl) rfl rfl rfl (by first | rfl | (simp only [wfRes, wfL, wfArgs, List.all_cons, List.all_nil, rowOf_blk]; rfl)) rfl (by first | exact newB_O | rfl) rfl ?_ | refine vr_calldU (clone_spec l (by omega)) (gk rfl) rfl rfl rfl (by first | rfl | (simp only [wfRes, wfL, wfArgs, List.all_cons, List.all_nil, rowOf_blk]; rfl)) rfl (by first | exact newB_O | rfl) rfl ?_ | refine vr_callU [] (hck) (gk rfl) rfl (by (repeat' (first | exact .nil | refine .cons ?_ ?_ | exact .of0 (.c .d) | exact .of0 .ep | exact .clo | exact .of0 (.c .nil) | exact .of0 (.c (cr_rowO (by simp) rfl (by first | rfl | omega) (fun _ => rfl))) | refine .of0 (.agg ?_) | exact .d | exact .nil | exact .of0 (.c (cr_row (by decide) rfl rfl (by repeat' (first | exact trivial | refine ⟨?_, ?_⟩ | rfl)))))); done) (by first | rfl | exact hfl_O (fun _ => rfl) | exact hfl_O2 rfl (fun _ => rfl)) rfl (by first | rfl | (simp only [wfRes, wfL, wfArgs, List.all_cons, List.all_nil, rowOf_blk]; rfl)) rfl (by first | exact newB_O | rfl) rfl ?_ | refine vr_callU [] (hh) (gk rfl) rfl (by (repeat' (first | exact .nil | refine .cons ?_ ?_ | exact .of0 (.c .d) | exact .of0 .ep | exact .clo | exact .of0 (.c .nil) | exact .of0 (.c (cr_rowO (by simp) rfl (by first | rfl | omega) (fun _ => rfl))) | refine .of0 (.agg ?_) | exact .d | exact .nil | exact .of0 (.c (cr_row (by decide) rfl rfl (by repeat' (first | exact trivial | refine ⟨?_, ?_⟩ | rfl)))))); done) (by first | rfl | exact hfl_O (fun _ => rfl) | exact hfl_O2 rfl (fun _ => rfl)) rfl (by first | rfl | (simp only [wfRes, wfL, wfArgs, List.all_cons, List.all_nil, rowOf_blk]; rfl)) rfl (by first | exact newB_O | rfl) rfl ?_ | refine vr_callU [] (hfd) (gk rfl) rfl (by (repeat' (first | exact .nil | refine .cons ?_ ?_ | exact .of0 (.c .d) | exact .of0 .ep | exact .clo | exact .of0 (.c .nil) | exact .of0 (.c (cr_rowO (by simp) rfl (by first | rfl | omega) (fun _ => rfl))) | refine .of0 (.agg ?_) | exact .d | exact .nil | exact .of0 (.c (cr_row (by decide) rfl rfl (by repeat' (first | exact trivial | refine ⟨?_, ?_⟩ | rfl)))))); done) (by first | rfl | exact hfl_O (fun _ => rfl) | exact hfl_O2 rfl (fun _ => rfl)) rfl (by first | rfl | (simp only [wfRes, wfL, wfArgs, List.all_cons, List.all_nil, rowOf_blk]; rfl)) rfl (by first | exact newB_O | rfl) rfl ?_ | refine vr_callU [] (clone_spec l (by omega)) (gk rfl) rfl (by (repeat' (first | exact .nil | refine .cons ?_ ?_ | exact .of0 (.c .d) | exact .of0 .ep | exact .clo | exact .of0 (.c .nil) | exact .of0 (.c (cr_rowO (by simp) rfl (by first | rfl | omega) (fun _ => rfl))) | refine .of0 (.agg ?_) | exact .d | exact .nil | exact .of0 (.c (cr_row (by decide) rfl rfl (by repeat' (first | exact trivial | refine ⟨?_, ?_⟩ | rfl)))))); done) (by first | rfl | exact hfl_O (fun _ => rfl) | exact hfl_O2 rfl (fun _ => rfl)) rfl (by first | rfl | (simp only [wfRes, wfL, wfArgs, List.all_cons, List.all_nil, rowOf_blk]; rfl)) rfl (by first | exact newB_O | rfl) rfl ?_ | refine vr_callMU [42] (hins) (gk rfl) rfl rfl rowOf_isD rfl (by (repeat' (first | exact .nil | refine .cons ?_ ?_ | exact .of0 (.c .d) | exact .of0 .ep | exact .clo | exact .of0 (.c .nil) | exact .of0 (.c (cr_rowO (by simp) rfl (by first | rfl | omega) (fun _ => rfl))) | refine .of0 (.agg ?_) | exact .d | exact .nil | exact .of0 (.c (cr_row (by decide) rfl rfl (by repeat' (first | exact trivial | refine ⟨?_, ?_⟩ | rfl)))))); done) rfl (by first | rfl | exact hfl_O (fun _ => rfl) | exact hfl_O2 rfl (fun _ => rfl)) rfl (by first | rfl | (simp only [wfRes, wfL, wfArgs, List.all_cons, List.all_nil, rowOf_blk]; rfl)) rfl (by first | exact newB_O | rfl) rfl ?_) | (show VR _ _ _ (⟨_, .indexAddr _ _ _, _, _, _, _⟩ :: _) _ _ _; first | refine vr_index_rd (gk rfl) rfl rfl rfl rfl rfl (by omega) rfl ?_ | refine vr_index_rdP (gk rfl) rfl rfl rfl rfl rfl (by omega) rfl ?_ | refine vr_index_rdN (gk rfl) rfl rfl rfl rfl (by first | omega | decide) rfl ?_ | refine vr_index_rowO (gk rfl) rfl rfl rfl rfl rfl rfl (by omega) (by omega) rfl ?_ | refine vr_index_row (gk rfl) rfl rfl rfl rfl rfl rfl (by omega) (by omega) rfl ?_ | refine vr_index_rowN (gk rfl) rfl rfl rfl rfl rfl (by omega) (by first | rfl | exact rowOf_length.symm | (simp only [rowOf_length, List.length_set]; omega)) rfl ?_) | (show VR _ _ _ (⟨_, .nilCheck _, _, _, _, _⟩ :: _) _ _ _; first | refine vr_nilCheck_rp (gk rfl) rfl rfl ?_ | refine vr_nilCheck_ptr (gk rfl) rfl rfl ?_ | refine vr_nilCheck_ep (gk rfl) rfl rfl ?_) | (show VR _ _ _ (⟨_, .load _ _, _, _, _, _⟩ :: _) _ _ _; first | refine vr_load_rowO_agg (gk rfl) rfl rfl (by omega) rfl rfl rfl ?_ | refine vr_load_rowO (gk rfl) rfl rfl (by omega) rfl rfl rfl ?_ | refine vr_load_rowS_agg (gk rfl) rfl rfl (by omega) rfl rfl rfl ?_ | refine vr_load_rowS (gk rfl) rfl rfl (by omega) rfl rfl rfl ?_) | (show VR _ _ _ (⟨_, .store _ _ _, _, _, _, _⟩ :: _) _ _ _; first | refine vr_store_rowO (gk rfl) rfl rfl rfl (by omega) rfl rfl rfl ?_ | refine vr_store_rowS (gk rfl) rfl rfl rfl (by omega) rfl rfl rfl ?_) | refine x_gknow rfl (by assumption) ?_ | (refine x_gsplit rfl ?_ ?_ <;> intro h <;> have hq := h <;> (try simp only [decide_eq_true_eq, decide_eq_false_iff_not, Int.not_lt, Int.not_le, ne_eq, Decidable.not_not, Bool.not_eq_true', Bool.not_eq_false'] at hq)))
    | (show VR _ _ _ [] _ _ _; first | refine vr_nil ?_ | refine vr_nil_t (by kernel_rfl) ?_)
    | (show thenQ _ _ _ _; first | refine q_then_n ?_ | refine q_then_x ?_ | refine q_then_r ?_)
    | (show blockQ _ _ _ _; first | refine q_blk_n ?_ | refine q_blk_r ?_ | refine q_blk_x ?_ | refine q_blk_o rfl ?_)
    | refine vc_seq ?_
    | refine vc_region ?_ | refine vc_region_t ?_
    | (show VC _ (.cond _ _ _) _ _; first | refine vc_cond_t rfl ?_ | refine vc_cond_f rfl ?_ | refine x_know rfl (by assumption) ?_ | (refine x_cond rfl ?_ ?_ <;> intro h <;> have hq := h <;> (try simp only [decide_eq_true_eq, decide_eq_false_iff_not, Int.not_lt, Int.not_le, ne_eq, Decidable.not_not, Bool.not_eq_true', Bool.not_eq_false'] at hq)))
    | refine vc_ret ?_ | refine vc_exit ?_ | refine vc_block ?_ | refine vc_skip ?_ | refine vc_label ?_)
  refine retL_of (le_gen0 (l := [(10, .c (.row 7 (insAt l i (adOf (newNb t) e k s)).length)), (11, AI 0)]) (b := [(7, .row 41 6 (rowOf Nb.enc (insAt l i (adOf (newNb t) e k s))))]) (fun n => if n = 7 then 43001 else n) ⟨⟨_, rfl, .c (.row rfl hil.symm)⟩, ⟨_, rfl, .c .d⟩, trivial⟩
      ⟨⟨_, rfl, .rowD rfl rowOf_isD⟩, trivial⟩ rfl (by simp only [wfL, List.all_cons, List.all_nil, rowOf_blk]; rfl)) (ret_row_d isRet_r rfl rfl rfl)
end Go.Proofs

