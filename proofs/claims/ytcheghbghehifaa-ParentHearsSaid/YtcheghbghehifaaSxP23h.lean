/-
  What functions of the given program hand back, by walks over its code, and plain laws on that. No condition.
-/
import Derived.Test.YtcheghbghehifaaSxP23g
namespace Go.Proofs
open Go Go.Sx
set_option linter.unusedSimpArgs false
set_option linter.unusedVariables false
attribute [local irreducible] VR VC thenQ blockQ

/-- The state behind hearing of the parent, or not. -/
def stepA (l : List Nb) (r : Rk) : Rk :=
  if 0 ≤ r.parent then
    (if foundNb l r.parent = true then (update' r (l.getD (bsNb l r.parent) default).epoch (l.getD (bsNb l r.parent) default).rank (costC (l.getD (bsNb l r.parent) default).att (l.getD (bsNb l r.parent) default).ack)).1 else lose' r)
  else r
def takeB (l : List Nb) (r1 : Rk) (m : Int) : Bool :=
  hasLk l r1 && (decide (r1.parent = -1) || decide (r1.epoch < (bestLk l r1).n.epoch) || decide (IntKind.i64.wrap ((bestLk l r1).path + m) < r1.rank))
def stepB (l : List Nb) (r1 : Rk) (m : Int) : Rk :=
  if takeB l r1 m = true then (adopt' r1 (bestLk l r1).n.node (bestLk l r1).n.epoch (bestLk l r1).n.rank (bestLk l r1).cost).1 else r1
def select' (l : List Nb) (r : Rk) (m : Int) : Rk × Bool × Int :=
  if checkNb l ≠ 0 ∨ rkErr r ≠ 0 then (rkZ, false, 1)
  else if inR m 0 65535 = false then (rkZ, false, 2)
  else if r.node = 0 then (r, false, 0)
  else (stepB l (stepA l r) m, decide ((stepB l (stepA l r) m).parent ≠ r.parent), 0)

abbrev zero6 : List C := [.d (.int .i64 0), .d (.int .i64 0), .d (.int .i64 0), .d (.int .i64 0), .d (.int .i64 0), .d (.int .i64 0)]

theorem found_lt {l : List Nb} {t : Int} (h : foundNb l t = true) : bsNb l t < l.length := by
  simp only [foundNb, Bool.and_eq_true, decide_eq_true_eq] at h
  exact h.1

theorem ret_agg_d2 {P : Program} {σ : St} {t u v nm : Nat} {T : TypeId} {ti : TyI} {cs cs' : List C} {x x' y y' : D} {e : Exit} (he : e = .normal ∨ e = .ret) [ht : TyOK P T ti] (hx : σ (.s t) = some (.v (.c (.ptr nm 0)))) (hb : σ (.b nm) = some (.k (.box cs'))) (hagg : ti.isAgg = true)
    (hl : (cs'.take ti.size).length = ti.size) (hu : σ (.s u) = some (.v (AD x'))) (hv : σ (.s v) = some (.v (AD y'))) (h : cs = cs'.take ti.size) (h2 : x = x') (h3 : y = y') : retQ P [.cell t T, .tmp u, .tmp v] (.tup [.agg cs, AD x, AD y]) [] e σ :=
  ⟨he, [.agg ((cs'.drop 0).take ti.size), AD x', AD y'], .agg hx hb hagg hl (.tmp rfl hu (.tmp rfl hv .nil)), by rw [h, h2, h3]; rfl, fun p hp => by cases hp⟩

theorem found_t (l : List Nb) (t : Int) : (foundNb l t = true) = (bsNb l t < l.length ∧ nbCmp t (l.getD (bsNb l t) default) = 0) := by simp [foundNb]
theorem att_le {l : List Nb} (h : checkNb l = 0) (k : Nat) : (l.getD k default).att ≤ 255 := by
  by_cases hk : k < l.length
  · exact (nbErr_ok ((checkNb_ok h).2 k hk)).2.1.2
  · rw [List.getD_eq_getElem?_getD, List.getElem?_eq_none (by omega)]; decide
theorem bx_eq {σ : St} {k : Key} {cs cs' : List C} (h : cs = cs') (hx : σ k = some (.k (.box cs))) : σ k = some (.k (.box cs')) := by rw [← h]; exact hx

set_option maxHeartbeats 2000000 in
theorem select_spec (l : List Nb) (r : Rk) (m : Int) : FnS Try.prog 15 [AD (nbs l), rkA r, AI m] [] (.tup [rkA (select' l r m).1, AB (select' l r m).2.1, AI (select' l r m).2.2]) [] := by
  refine FnS.of_body (enters_of Try.func15 (by kernel_rfl) rfl) Try.func15 rfl Try.ntmps15 Try.results15 rfl rfl rfl rfl fun E hS => ?_
  repeat' (first
    | (show VR _ _ _ (_ :: _) _ _ _; first | refine x_op rfl (by first | exact True.intro | omega) ?_ | (show VR _ _ _ (⟨_, .call ⟨.value _, _, _⟩, _, _, _, _⟩ :: _) _ _ _; first | refine vr_calld (check_spec l) (gk rfl) rfl rfl rfl rfl rfl rfl ?_ | refine vr_calld (rcheck_spec r) (gk rfl) rfl rfl rfl rfl rfl rfl ?_ | refine vr_calld (within_spec _ _ _) (gk rfl) rfl rfl rfl rfl rfl rfl ?_) | (show VR _ _ _ (⟨_, .indexAddr _ _ _, _, _, _, _⟩ :: _) _ _ _; first | refine vr_index_rd (gk rfl) rfl rfl rfl rfl rfl (by omega) rfl ?_ | refine vr_index_rdP (gk rfl) rfl rfl rfl rfl rfl (by omega) rfl ?_ | refine vr_index_rdN (gk rfl) rfl rfl rfl rfl (by omega) rfl ?_ | refine vr_index_row (gk rfl) rfl rfl rfl rfl rfl rfl (by omega) (by omega) rfl ?_ | refine vr_index_rowN (gk rfl) rfl rfl rfl rfl rfl (by omega) (by first | rfl | exact rowOf_length.symm) rfl ?_) | (show VR _ _ _ (⟨_, .binOp _ _ _ _ _, _, _, _, _⟩ :: _) _ _ _; first | refine x_ariw rfl rfl rfl rfl rfl ?_) | (show VR _ _ _ (⟨_, .pick _ _ _, _, _, _, _⟩ :: _) _ _ _; first | refine vr_pick_true (gk rfl) rfl (by assumption) rfl rfl ?_ | refine vr_pick_false (gk rfl) rfl (by assumption) rfl rfl ?_) | refine x_gknow rfl (by assumption) ?_ | (refine x_gsplit rfl ?_ ?_ <;> intro h <;> have hq := h <;> (try simp only [decide_eq_true_eq, decide_eq_false_iff_not, Int.not_lt, Int.not_le, ne_eq, Decidable.not_not, Bool.not_eq_true', Bool.not_eq_false', inR_t, inR_f] at hq)))
    | (show VR _ _ _ [] _ _ _; first | refine vr_nil ?_ | refine vr_nil_t (by kernel_rfl) ?_)
    | (show thenQ _ _ _ _; first | refine q_then_n ?_ | refine q_then_x ?_ | refine q_then_r ?_)
    | (show blockQ _ _ _ _; first | refine q_blk_n ?_ | refine q_blk_r ?_ | refine q_blk_x ?_ | refine q_blk_o rfl ?_)
    | (show VC _ (.seq _ _) _ _; (fail_if_success (show VC _ (.seq (.seq (.region 8 _ _) _) _) _ _)); (fail_if_success (show VC _ (.seq (.region 8 _ _) _) _ _)); refine vc_seq ?_)
    | refine vc_region ?_ | refine vc_region_t ?_
    | (show VC _ (.cond _ _ _) _ _; first | refine vc_cond_t rfl ?_ | refine vc_cond_f rfl ?_ | refine x_know rfl (by assumption) ?_ | (refine x_cond rfl ?_ ?_ <;> intro h <;> have hq := h <;> (try simp only [decide_eq_true_eq, decide_eq_false_iff_not, Int.not_lt, Int.not_le, ne_eq, Decidable.not_not, Bool.not_eq_true', Bool.not_eq_false', inR_t, inR_f] at hq)))
    | refine vc_ret ?_ | refine vc_exit ?_ | refine vc_block ?_ | refine vc_skip ?_ | refine vc_label ?_)
  --A
  all_goals first
    | (refine ret_agg_d2 isRet_r rfl rfl rfl rfl rfl rfl ?_ ?_ ?_
       all_goals unfold select'
       all_goals repeat' split
       all_goals first | rfl | (exfalso; simp_all; done))
    | skip
  --B
  have hc : checkNb l = 0 := by simp_all
  have hr : rkErr r = 0 := by simp_all
  have hm : inR m 0 65535 = true := by simp_all
  have hn : ¬ r.node = 0 := by simp_all
  have hlen := (checkNb_ok hc).1
  have hall := (checkNb_ok hc).2
  --C
  refine vc_cut (stOf [(0, AD (nbs l)), (2, AI m), (4, .c (.ptr 4 0)), (6, .c (.ptr 6 0)), (7, AB false), (8, AI 0), (9, AI r.parent)] [(4, .box (stepA l r).cs), (6, .box zero6)]) ?_ ?_
  · have hatt := att_le hc (bsNb l r.parent)
    repeat' (first
      | (show VR _ _ _ (_ :: _) _ _ _; first | refine x_op rfl (by first | exact True.intro | omega) ?_ | (show VR _ _ _ (⟨_, .call ⟨.value _, _, _⟩, _, _, _, _⟩ :: _) _ _ _; first | refine vr_calld (find_spec l _ (by omega)) (gk rfl) rfl rfl rfl rfl rfl rfl ?_ | refine vr_calld (cost_spec _ _ (by omega)) (gk rfl) rfl rfl rfl rfl rfl rfl ?_ | refine vr_calld (update_spec r _ _ _) (gk rfl) rfl rfl rfl rfl rfl rfl ?_ | refine vr_calld (lose_spec r) (gk rfl) rfl rfl rfl rfl rfl rfl ?_) | (show VR _ _ _ (⟨_, .indexAddr _ _ _, _, _, _, _⟩ :: _) _ _ _; first | refine vr_index_rd (gk rfl) rfl rfl rfl rfl rfl (by omega) rfl ?_ | refine vr_index_rdP (gk rfl) rfl rfl rfl rfl rfl (by omega) rfl ?_ | refine vr_index_rdN (gk rfl) rfl rfl rfl rfl (by omega) rfl ?_ | refine vr_index_row (gk rfl) rfl rfl rfl rfl rfl rfl (by omega) (by omega) rfl ?_ | refine vr_index_rowN (gk rfl) rfl rfl rfl rfl rfl (by omega) (by first | rfl | exact rowOf_length.symm) rfl ?_) | (show VR _ _ _ (⟨_, .binOp _ _ _ _ _, _, _, _, _⟩ :: _) _ _ _; first | refine x_ariw rfl rfl rfl rfl rfl ?_) | (show VR _ _ _ (⟨_, .pick _ _ _, _, _, _, _⟩ :: _) _ _ _; first | refine vr_pick_true (gk rfl) rfl (by assumption) rfl rfl ?_ | refine vr_pick_false (gk rfl) rfl (by assumption) rfl rfl ?_) | refine x_gknow rfl (by assumption) ?_ | (refine x_gsplit rfl ?_ ?_ <;> intro h <;> have hq := h <;> (try simp only [decide_eq_true_eq, decide_eq_false_iff_not, Int.not_lt, Int.not_le, ne_eq, Decidable.not_not, Bool.not_eq_true', Bool.not_eq_false', found_t] at hq)))
      | (show VR _ _ _ [] _ _ _; first | refine vr_nil ?_ | refine vr_nil_t (by kernel_rfl) ?_)
      | (show thenQ _ _ _ _; first | refine q_then_n ?_ | refine q_then_x ?_ | refine q_then_r ?_)
      | (show blockQ _ _ _ _; first | refine q_blk_n ?_ | refine q_blk_r ?_ | refine q_blk_x ?_ | refine q_blk_o rfl ?_)
      | refine vc_seq ?_
      | refine vc_region ?_ | refine vc_region_t ?_
      | (show VC _ (.cond _ _ _) _ _; first | refine vc_cond_t rfl ?_ | refine vc_cond_f rfl ?_ | refine x_know rfl (by assumption) ?_ | (refine x_cond rfl ?_ ?_ <;> intro h <;> have hq := h <;> (try simp only [decide_eq_true_eq, decide_eq_false_iff_not, Int.not_lt, Int.not_le, ne_eq, Decidable.not_not, Bool.not_eq_true', Bool.not_eq_false', found_t] at hq)))
      | refine vc_ret ?_ | refine vc_exit ?_ | refine vc_block ?_ | refine vc_skip ?_ | refine vc_label ?_)
    all_goals refine le_of ⟨rfl, rfl, rfl, rfl, rfl, rfl, rfl, trivial⟩ ⟨bx_eq ?_ rfl, rfl, trivial⟩ rfl
    all_goals unfold stepA
    all_goals repeat' split
    all_goals first | rfl | (exfalso; simp_all; done) | (exfalso; omega)
  refine vc_cut (stOf [(4, .c (.ptr 4 0)), (6, .c (.ptr 6 0)), (7, AB false), (8, AI 0), (9, AI r.parent)] [(4, .box (stepB l (stepA l r) m).cs), (6, .box zero6)]) ?_ ?_
  · repeat' (first
      | (show VR _ _ _ (_ :: _) _ _ _; first | refine x_op rfl (by first | exact True.intro | omega) ?_ | (show VR _ _ _ (⟨_, .call ⟨.value _, _, _⟩, _, _, _, _⟩ :: _) _ _ _; first | refine vr_calld (best_spec l (stepA l r) hc) (gk rfl) rfl rfl rfl rfl rfl rfl ?_ | refine vr_calld (adopt_spec (stepA l r) _ _ _ _) (gk rfl) rfl rfl rfl rfl rfl rfl ?_ | refine vr_calld (path_spec (bestLk l (stepA l r))) (gk rfl) rfl rfl rfl rfl rfl rfl ?_) | (show VR _ _ _ (⟨_, .indexAddr _ _ _, _, _, _, _⟩ :: _) _ _ _; first | refine vr_index_rd (gk rfl) rfl rfl rfl rfl rfl (by omega) rfl ?_ | refine vr_index_rdP (gk rfl) rfl rfl rfl rfl rfl (by omega) rfl ?_ | refine vr_index_rdN (gk rfl) rfl rfl rfl rfl (by omega) rfl ?_ | refine vr_index_row (gk rfl) rfl rfl rfl rfl rfl rfl (by omega) (by omega) rfl ?_ | refine vr_index_rowN (gk rfl) rfl rfl rfl rfl rfl (by omega) (by first | rfl | exact rowOf_length.symm) rfl ?_) | (show VR _ _ _ (⟨_, .binOp _ _ _ _ _, _, _, _, _⟩ :: _) _ _ _; first | refine x_ariw rfl rfl rfl rfl rfl ?_) | (show VR _ _ _ (⟨_, .pick _ _ _, _, _, _, _⟩ :: _) _ _ _; first | refine vr_pick_true (gk rfl) rfl (by assumption) rfl rfl ?_ | refine vr_pick_false (gk rfl) rfl (by assumption) rfl rfl ?_) | refine x_gknow rfl (by assumption) ?_ | (refine x_gsplit rfl ?_ ?_ <;> intro h <;> have hq := h <;> (try simp only [decide_eq_true_eq, decide_eq_false_iff_not, Int.not_lt, Int.not_le, ne_eq, Decidable.not_not, Bool.not_eq_true', Bool.not_eq_false'] at hq)))
      | (show VR _ _ _ [] _ _ _; first | refine vr_nil ?_ | refine vr_nil_t (by kernel_rfl) ?_)
      | (show thenQ _ _ _ _; first | refine q_then_n ?_ | refine q_then_x ?_ | refine q_then_r ?_)
      | (show blockQ _ _ _ _; first | refine q_blk_n ?_ | refine q_blk_r ?_ | refine q_blk_x ?_ | refine q_blk_o rfl ?_)
      | refine vc_seq ?_
      | refine vc_region ?_ | refine vc_region_t ?_
      | (show VC _ (.cond _ _ _) _ _; first | refine vc_cond_t rfl ?_ | refine vc_cond_f rfl ?_ | refine x_know rfl (by assumption) ?_ | (refine x_cond rfl ?_ ?_ <;> intro h <;> have hq := h <;> (try simp only [decide_eq_true_eq, decide_eq_false_iff_not, Int.not_lt, Int.not_le, ne_eq, Decidable.not_not, Bool.not_eq_true', Bool.not_eq_false'] at hq)))
      | refine vc_ret ?_ | refine vc_exit ?_ | refine vc_block ?_ | refine vc_skip ?_ | refine vc_label ?_)
    all_goals refine le_of ⟨rfl, rfl, rfl, rfl, rfl, trivial⟩ ⟨bx_eq ?_ rfl, rfl, trivial⟩ rfl
    all_goals unfold stepB takeB
    all_goals split
    all_goals first | rfl | (exfalso; simp_all; done) | (exfalso; simp_all; omega)
  · repeat' (first
      | (show VR _ _ _ (_ :: _) _ _ _; first | refine x_op rfl (by first | exact True.intro | omega) ?_ | (show VR _ _ _ (⟨_, .indexAddr _ _ _, _, _, _, _⟩ :: _) _ _ _; first | refine vr_index_rd (gk rfl) rfl rfl rfl rfl rfl (by omega) rfl ?_ | refine vr_index_rdP (gk rfl) rfl rfl rfl rfl rfl (by omega) rfl ?_ | refine vr_index_rdN (gk rfl) rfl rfl rfl rfl (by omega) rfl ?_ | refine vr_index_row (gk rfl) rfl rfl rfl rfl rfl rfl (by omega) (by omega) rfl ?_ | refine vr_index_rowN (gk rfl) rfl rfl rfl rfl rfl (by omega) (by first | rfl | exact rowOf_length.symm) rfl ?_) | (show VR _ _ _ (⟨_, .binOp _ _ _ _ _, _, _, _, _⟩ :: _) _ _ _; first | refine x_ariw rfl rfl rfl rfl rfl ?_) | (show VR _ _ _ (⟨_, .pick _ _ _, _, _, _, _⟩ :: _) _ _ _; first | refine vr_pick_true (gk rfl) rfl (by assumption) rfl rfl ?_ | refine vr_pick_false (gk rfl) rfl (by assumption) rfl rfl ?_) | refine x_gknow rfl (by assumption) ?_ | (refine x_gsplit rfl ?_ ?_ <;> intro h <;> have hq := h <;> (try simp only [decide_eq_true_eq, decide_eq_false_iff_not, Int.not_lt, Int.not_le, ne_eq, Decidable.not_not, Bool.not_eq_true', Bool.not_eq_false'] at hq)))
      | (show VR _ _ _ [] _ _ _; first | refine vr_nil ?_ | refine vr_nil_t (by kernel_rfl) ?_)
      | (show thenQ _ _ _ _; first | refine q_then_n ?_ | refine q_then_x ?_ | refine q_then_r ?_)
      | (show blockQ _ _ _ _; first | refine q_blk_n ?_ | refine q_blk_r ?_ | refine q_blk_x ?_ | refine q_blk_o rfl ?_)
      | refine vc_seq ?_
      | refine vc_region ?_ | refine vc_region_t ?_
      | (show VC _ (.cond _ _ _) _ _; first | refine vc_cond_t rfl ?_ | refine vc_cond_f rfl ?_ | refine x_know rfl (by assumption) ?_ | (refine x_cond rfl ?_ ?_ <;> intro h <;> have hq := h <;> (try simp only [decide_eq_true_eq, decide_eq_false_iff_not, Int.not_lt, Int.not_le, ne_eq, Decidable.not_not, Bool.not_eq_true', Bool.not_eq_false'] at hq)))
      | refine vc_ret ?_ | refine vc_exit ?_ | refine vc_block ?_ | refine vc_skip ?_ | refine vc_label ?_)
    refine ret_agg_d2 isRet_r rfl rfl rfl rfl rfl rfl ?_ ?_ ?_
    all_goals unfold select'
    all_goals rw [if_neg (by simp [hc, hr]), if_neg (by simp [hm]), if_neg hn]
    all_goals rfl
end Go.Proofs

