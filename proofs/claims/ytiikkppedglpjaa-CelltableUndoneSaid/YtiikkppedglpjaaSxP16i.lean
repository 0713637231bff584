/-
  What functions of the given program hand back, by walks over its code, and plain laws on that. No condition.
-/
import Derived.Test.YtiikkppedglpjaaSxP16h
import Derived.Test.YtiikkppedglpjaaSxLibB
-- SXU
namespace Go.Proofs
open Go Go.Sx
set_option linter.unusedSimpArgs false
set_option linter.unusedVariables false
attribute [local irreducible] VR VC thenQ blockQ retL

/-- The cell of a node's table that a schedule's cell gives. -/
def ofCell (self : Int) (c : CE) : Option TC :=
  if c.frm = self then some ⟨c.slot, c.offset, 1, true, c.to, c.flow⟩ else if c.to = self then some ⟨c.slot, c.offset, 1, false, c.frm, c.flow⟩ else none
/-- The cells behind the first k of a schedule; none: a conflict. -/
def ofTo (self : Int) (s : Sch) : Nat → Option (List TC)
  | 0 => some []
  | k + 1 => match ofTo self s k with
    | none => none
    | some l => match ofCell self (s.cells.getD k default) with
      | none => some l
      | some x => if foundTC l x = true then none else some (insAt l (bsTC l x) x)

theorem ret_agg_d {P : Program} {σ : St} {t u nm : Nat} {T : TypeId} {ti : TyI} {cs cs' : List C} {x x' : D} {e : Exit} (he : e = .normal ∨ e = .ret) [ht : TyOK P T ti] (hx : σ (.s t) = some (.v (.c (.ptr nm 0)))) (hb : σ (.b nm) = some (.k (.box cs'))) (hagg : ti.isAgg = true)
    (hl : (cs'.take ti.size).length = ti.size) (hu : σ (.s u) = some (.v (AD x'))) (h : cs = cs'.take ti.size) (h2 : x = x') : retQ P [.cell t T, .tmp u] (.tup [.agg cs, AD x]) [] e σ :=
  ⟨he, [.agg ((cs'.drop 0).take ti.size), AD x'], .agg hx hb hagg hl (.tmp rfl hu .nil), by rw [h, h2]; rfl, fun p hp => by cases hp⟩
abbrev noTb : List C := [.d (.int .i64 0), .d (.int .i64 0), .d .nils]
theorem of_bad (s : Sch) (self : Int) (h : rightS s = false) : FnS Try.prog 16 [schA s, AI self] [] (.tup [.agg noTb, AI 1]) [] := by
  have hr := right_spec s
  rw [h] at hr
  refine FnS.of_body (enters_of Try.func16 (by kernel_rfl) rfl) Try.func16 rfl Try.ntmps16 Try.results16 rfl rfl rfl rfl fun E hS => ?_
  repeat' (first
    | (show VR _ _ _ (_ :: _) _ _ _; first | refine x_opF rfl (by first | exact True.intro | omega) ?_ | (show VR _ _ _ (⟨_, .call ⟨.value _, _, _⟩, _, _, _, _⟩ :: _) _ _ _; first | refine vr_calldU (hr) (gk rfl) rfl rfl rfl (by first | rfl | (simp only [wfRes, wfL, wfArgs, List.all_cons, List.all_nil, rowOf_blk]; rfl)) rfl (by first | exact newB_O | rfl) rfl ?_) | (show VR _ _ _ (⟨_, .indexAddr _ _ _, _, _, _, _⟩ :: _) _ _ _; first | refine vr_index_rd (gk rfl) rfl rfl rfl rfl rfl (by omega) rfl ?_ | refine vr_index_rdP (gk rfl) rfl rfl rfl rfl rfl (by omega) rfl ?_ | refine vr_index_rdN (gk rfl) rfl rfl rfl rfl (by first | omega | decide) rfl ?_ | refine vr_index_rowO (gk rfl) rfl rfl rfl rfl rfl rfl (by omega) (by omega) rfl ?_ | refine vr_index_row (gk rfl) rfl rfl rfl rfl rfl rfl (by omega) (by omega) rfl ?_ | refine vr_index_rowN (gk rfl) rfl rfl rfl rfl rfl (by omega) (by first | rfl | exact rowOf_length.symm | (simp only [rowOf_length, List.length_set, List.length_replicate, List.length_append, List.length_take, List.length_cons, List.length_nil, List.length_map, List.length_drop, List.length_range] <;> omega)) rfl ?_) | (show VR _ _ _ (⟨_, .call ⟨.builtin .len, _, _⟩, _, _, _, _⟩ :: _) _ _ _; first | refine vr_len_row (gk rfl) rfl rfl (by first | rfl | exact rowOf_length.symm | (simp only [rowOf_length, List.length_set, List.length_replicate, List.length_append, List.length_take, List.length_cons, List.length_nil, List.length_map, List.length_drop, List.length_range] <;> omega)) rfl rfl ?_ | refine vr_len_sub (gk rfl) rfl rfl rfl ?_ | refine vr_len_full (gk rfl) rfl rfl rfl rfl ?_) | (show VR _ _ _ (⟨_, .nilCheck _, _, _, _, _⟩ :: _) _ _ _; first | refine vr_nilCheck_rp (gk rfl) rfl rfl ?_ | refine vr_nilCheck_ptr (gk rfl) rfl rfl ?_ | refine vr_nilCheck_ep (gk rfl) rfl rfl ?_) | (show VR _ _ _ (⟨_, .load _ _, _, _, _, _⟩ :: _) _ _ _; first | refine vr_load_rowO_agg (gk rfl) rfl rfl (by omega) rfl rfl rfl ?_ | refine vr_load_rowO (gk rfl) rfl rfl (by omega) rfl rfl rfl ?_ | refine vr_load_rowS_agg (gk rfl) rfl rfl (by omega) rfl rfl rfl ?_ | refine vr_load_rowS (gk rfl) rfl rfl (by omega) rfl rfl rfl ?_) | (show VR _ _ _ (⟨_, .store _ _ _, _, _, _, _⟩ :: _) _ _ _; first | refine vr_store_rowO (gk rfl) rfl rfl rfl (by omega) rfl rfl rfl ?_ | refine vr_store_rowS (gk rfl) rfl rfl rfl (by omega) rfl rfl rfl ?_) | (show VR _ _ _ (⟨_, .binOp _ _ _ _ _, _, _, _, _⟩ :: _) _ _ _; first | refine x_ariw rfl rfl rfl rfl rfl ?_) | refine x_gknow rfl (by assumption) ?_ | (refine x_gsplit rfl ?_ ?_ <;> intro h <;> have hq := h <;> (try simp only [decide_eq_true_eq, decide_eq_false_iff_not, Int.not_lt, Int.not_le, ne_eq, Decidable.not_not, Bool.not_eq_true', Bool.not_eq_false'] at hq)))
    | (show VR _ _ _ [] _ _ _; first | refine vr_nil ?_ | refine vr_nil_t (by kernel_rfl) ?_)
    | (show thenQ _ _ _ _; first | refine q_then_n ?_ | refine q_then_x ?_ | refine q_then_r ?_)
    | (show blockQ _ _ _ _; first | refine q_blk_n ?_ | refine q_blk_r ?_ | refine q_blk_x ?_ | refine q_blk_o rfl ?_)
    | refine vc_seq ?_
    | refine vc_region ?_ | refine vc_region_t ?_
    | (show VC _ (.cond _ _ _) _ _; first | refine vc_cond_t rfl ?_ | refine vc_cond_f rfl ?_ | refine x_know rfl (by assumption) ?_ | (refine x_cond rfl ?_ ?_ <;> intro h <;> have hq := h <;> (try simp only [decide_eq_true_eq, decide_eq_false_iff_not, Int.not_lt, Int.not_le, ne_eq, Decidable.not_not, Bool.not_eq_true', Bool.not_eq_false'] at hq)))
    | refine vc_ret ?_ | refine vc_exit ?_ | refine vc_block ?_ | refine vc_skip ?_ | refine vc_label ?_)
  all_goals exact ret_agg_d isRet_r rfl rfl rfl rfl rfl rfl rfl
theorem of_range (s : Sch) (self : Int) (h : rightS s = true) (hn : nodeB self = false) : FnS Try.prog 16 [schA s, AI self] [] (.tup [.agg noTb, AI 2]) [] := by
  have hr := right_spec s
  rw [h] at hr
  have hnd := node_spec self
  rw [hn] at hnd
  refine FnS.of_body (enters_of Try.func16 (by kernel_rfl) rfl) Try.func16 rfl Try.ntmps16 Try.results16 rfl rfl rfl rfl fun E hS => ?_
  repeat' (first
    | (show VR _ _ _ (_ :: _) _ _ _; first | refine x_opF rfl (by first | exact True.intro | omega) ?_ | (show VR _ _ _ (⟨_, .call ⟨.value _, _, _⟩, _, _, _, _⟩ :: _) _ _ _; first | refine vr_calldU (hr) (gk rfl) rfl rfl rfl (by first | rfl | (simp only [wfRes, wfL, wfArgs, List.all_cons, List.all_nil, rowOf_blk]; rfl)) rfl (by first | exact newB_O | rfl) rfl ?_ | refine vr_calldU (hnd) (gk rfl) rfl rfl rfl (by first | rfl | (simp only [wfRes, wfL, wfArgs, List.all_cons, List.all_nil, rowOf_blk]; rfl)) rfl (by first | exact newB_O | rfl) rfl ?_) | (show VR _ _ _ (⟨_, .indexAddr _ _ _, _, _, _, _⟩ :: _) _ _ _; first | refine vr_index_rd (gk rfl) rfl rfl rfl rfl rfl (by omega) rfl ?_ | refine vr_index_rdP (gk rfl) rfl rfl rfl rfl rfl (by omega) rfl ?_ | refine vr_index_rdN (gk rfl) rfl rfl rfl rfl (by first | omega | decide) rfl ?_ | refine vr_index_rowO (gk rfl) rfl rfl rfl rfl rfl rfl (by omega) (by omega) rfl ?_ | refine vr_index_row (gk rfl) rfl rfl rfl rfl rfl rfl (by omega) (by omega) rfl ?_ | refine vr_index_rowN (gk rfl) rfl rfl rfl rfl rfl (by omega) (by first | rfl | exact rowOf_length.symm | (simp only [rowOf_length, List.length_set, List.length_replicate, List.length_append, List.length_take, List.length_cons, List.length_nil, List.length_map, List.length_drop, List.length_range] <;> omega)) rfl ?_) | (show VR _ _ _ (⟨_, .call ⟨.builtin .len, _, _⟩, _, _, _, _⟩ :: _) _ _ _; first | refine vr_len_row (gk rfl) rfl rfl (by first | rfl | exact rowOf_length.symm | (simp only [rowOf_length, List.length_set, List.length_replicate, List.length_append, List.length_take, List.length_cons, List.length_nil, List.length_map, List.length_drop, List.length_range] <;> omega)) rfl rfl ?_ | refine vr_len_sub (gk rfl) rfl rfl rfl ?_ | refine vr_len_full (gk rfl) rfl rfl rfl rfl ?_) | (show VR _ _ _ (⟨_, .nilCheck _, _, _, _, _⟩ :: _) _ _ _; first | refine vr_nilCheck_rp (gk rfl) rfl rfl ?_ | refine vr_nilCheck_ptr (gk rfl) rfl rfl ?_ | refine vr_nilCheck_ep (gk rfl) rfl rfl ?_) | (show VR _ _ _ (⟨_, .load _ _, _, _, _, _⟩ :: _) _ _ _; first | refine vr_load_rowO_agg (gk rfl) rfl rfl (by omega) rfl rfl rfl ?_ | refine vr_load_rowO (gk rfl) rfl rfl (by omega) rfl rfl rfl ?_ | refine vr_load_rowS_agg (gk rfl) rfl rfl (by omega) rfl rfl rfl ?_ | refine vr_load_rowS (gk rfl) rfl rfl (by omega) rfl rfl rfl ?_) | (show VR _ _ _ (⟨_, .store _ _ _, _, _, _, _⟩ :: _) _ _ _; first | refine vr_store_rowO (gk rfl) rfl rfl rfl (by omega) rfl rfl rfl ?_ | refine vr_store_rowS (gk rfl) rfl rfl rfl (by omega) rfl rfl rfl ?_) | (show VR _ _ _ (⟨_, .binOp _ _ _ _ _, _, _, _, _⟩ :: _) _ _ _; first | refine x_ariw rfl rfl rfl rfl rfl ?_) | refine x_gknow rfl (by assumption) ?_ | (refine x_gsplit rfl ?_ ?_ <;> intro h <;> have hq := h <;> (try simp only [decide_eq_true_eq, decide_eq_false_iff_not, Int.not_lt, Int.not_le, ne_eq, Decidable.not_not, Bool.not_eq_true', Bool.not_eq_false'] at hq)))
    | (show VR _ _ _ [] _ _ _; first | refine vr_nil ?_ | refine vr_nil_t (by kernel_rfl) ?_)
    | (show thenQ _ _ _ _; first | refine q_then_n ?_ | refine q_then_x ?_ | refine q_then_r ?_)
    | (show blockQ _ _ _ _; first | refine q_blk_n ?_ | refine q_blk_r ?_ | refine q_blk_x ?_ | refine q_blk_o rfl ?_)
    | refine vc_seq ?_
    | refine vc_region ?_ | refine vc_region_t ?_
    | (show VC _ (.cond _ _ _) _ _; first | refine vc_cond_t rfl ?_ | refine vc_cond_f rfl ?_ | refine x_know rfl (by assumption) ?_ | (refine x_cond rfl ?_ ?_ <;> intro h <;> have hq := h <;> (try simp only [decide_eq_true_eq, decide_eq_false_iff_not, Int.not_lt, Int.not_le, ne_eq, Decidable.not_not, Bool.not_eq_true', Bool.not_eq_false'] at hq)))
    | refine vc_ret ?_ | refine vc_exit ?_ | refine vc_block ?_ | refine vc_skip ?_ | refine vc_label ?_)
  all_goals exact ret_agg_d isRet_r rfl rfl rfl rfl rfl rfl rfl
end Go.Proofs

