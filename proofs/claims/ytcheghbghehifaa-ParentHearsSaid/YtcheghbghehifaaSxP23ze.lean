/-
  What functions of the given program hand back, by walks over its code, and plain laws on that. No condition.
-/
import Derived.Test.YtcheghbghehifaaSxP23zd
import Derived.Test.YtcheghbghehifaaSxLibB
-- SXU
namespace Go.Proofs
open Go Go.Sx
set_option linter.unusedSimpArgs false
set_option linter.unusedVariables false
attribute [local irreducible] VR VC thenQ blockQ retL

theorem nb_sv' {x y : Nb} : ([SV.int IntKind.i64 x.ack, SV.int IntKind.i64 x.att, SV.int IntKind.i64 x.slot, SV.int IntKind.i64 x.rank, SV.int IntKind.i64 x.epoch, SV.int IntKind.i64 x.node].reverse =
    [SV.int IntKind.i64 y.ack, SV.int IntKind.i64 y.att, SV.int IntKind.i64 y.slot, SV.int IntKind.i64 y.rank, SV.int IntKind.i64 y.epoch, SV.int IntKind.i64 y.node].reverse) ↔ x = y := ⟨nb_sv, fun h => by rw [h]⟩
theorem index_spec (l : List Nb) (x : Nb) : FnS Try.prog 62 [AD (nbs l), nbA x] [] (AI (oI (fstO l fun y => decide (x = y)))) [] := by
  refine FnS.of_body (enters_of Try.func62 (by kernel_rfl) rfl) Try.func62 rfl Try.ntmps62 Try.results62 rfl rfl rfl rfl fun E hS => ?_
  refine vc_bound (t := 0) rfl fun hb => ?_
  repeat' (first
    | (show VR _ _ _ (_ :: _) _ _ _; first | refine x_op rfl (by first | exact True.intro | omega) ?_ | (show VR _ _ _ (⟨_, .indexAddr _ _ _, _, _, _, _⟩ :: _) _ _ _; first | refine vr_index_rd (gk rfl) rfl rfl rfl rfl rfl (by omega) rfl ?_ | refine vr_index_rdP (gk rfl) rfl rfl rfl rfl rfl (by omega) rfl ?_ | refine vr_index_rdN (gk rfl) rfl rfl rfl rfl (by first | omega | decide) rfl ?_ | refine vr_index_rowO (gk rfl) rfl rfl rfl rfl rfl rfl (by omega) (by omega) rfl ?_ | refine vr_index_row (gk rfl) rfl rfl rfl rfl rfl rfl (by omega) (by omega) rfl ?_ | refine vr_index_rowN (gk rfl) rfl rfl rfl rfl rfl (by omega) (by first | rfl | exact rowOf_length.symm | (simp only [rowOf_length, List.length_set]; omega)) rfl ?_) | (show VR _ _ _ (⟨_, .call ⟨.builtin .len, _, _⟩, _, _, _, _⟩ :: _) _ _ _; first | refine vr_len_row (gk rfl) rfl rfl (by first | rfl | exact rowOf_length.symm | (simp only [rowOf_length, List.length_set]; omega)) rfl rfl ?_ | refine vr_len_sub (gk rfl) rfl rfl rfl ?_ | refine vr_len_full (gk rfl) rfl rfl rfl rfl ?_) | (show VR _ _ _ (⟨_, .nilCheck _, _, _, _, _⟩ :: _) _ _ _; first | refine vr_nilCheck_rp (gk rfl) rfl rfl ?_ | refine vr_nilCheck_ptr (gk rfl) rfl rfl ?_ | refine vr_nilCheck_ep (gk rfl) rfl rfl ?_) | (show VR _ _ _ (⟨_, .load _ _, _, _, _, _⟩ :: _) _ _ _; first | refine vr_load_rowO_agg (gk rfl) rfl rfl (by omega) rfl rfl rfl ?_ | refine vr_load_rowO (gk rfl) rfl rfl (by omega) rfl rfl rfl ?_ | refine vr_load_rowS_agg (gk rfl) rfl rfl (by omega) rfl rfl rfl ?_ | refine vr_load_rowS (gk rfl) rfl rfl (by omega) rfl rfl rfl ?_) | (show VR _ _ _ (⟨_, .store _ _ _, _, _, _, _⟩ :: _) _ _ _; first | refine vr_store_rowO (gk rfl) rfl rfl rfl (by omega) rfl rfl rfl ?_ | refine vr_store_rowS (gk rfl) rfl rfl rfl (by omega) rfl rfl rfl ?_) | (show VR _ _ _ (⟨_, .binOp _ _ _ _ _, _, _, _, _⟩ :: _) _ _ _; first | refine vr_eqlA (gk rfl) rfl rfl rfl rfl rfl rfl rfl ?_ | refine x_ariw rfl rfl rfl rfl rfl ?_) | refine x_gknow rfl (by assumption) ?_ | (refine x_gsplit rfl ?_ ?_ <;> intro h <;> have hq := h <;> (try simp only [decide_eq_true_eq, decide_eq_false_iff_not, Int.not_lt, Int.not_le, ne_eq, Decidable.not_not, Bool.not_eq_true', Bool.not_eq_false'] at hq)))
    | (show VR _ _ _ [] _ _ _; first | refine vr_nil ?_ | refine vr_nil_t (by kernel_rfl) ?_)
    | (show thenQ _ _ _ _; first | refine q_then_n ?_ | refine q_then_x ?_ | refine q_then_r ?_)
    | (show blockQ _ _ _ _; first | refine q_blk_n ?_ | refine q_blk_r ?_ | refine q_blk_x ?_ | refine q_blk_o rfl ?_)
    | refine vc_seq ?_
    | refine vc_region ?_ | refine vc_region_t ?_
    | (show VC _ (.cond _ _ _) _ _; first | refine vc_cond_t rfl ?_ | refine vc_cond_f rfl ?_ | refine x_know rfl (by assumption) ?_ | (refine x_cond rfl ?_ ?_ <;> intro h <;> have hq := h <;> (try simp only [decide_eq_true_eq, decide_eq_false_iff_not, Int.not_lt, Int.not_le, ne_eq, Decidable.not_not, Bool.not_eq_true', Bool.not_eq_false'] at hq)))
    | refine vc_ret ?_ | refine vc_exit ?_ | refine vc_block ?_ | refine vc_skip ?_ | refine vc_label ?_)
  refine vc_loopI (ι := Nat) (fun k => stOf [(0, AD (nbs l)), (3, .c (.ptr 3 0)), (7, AI l.length), (8, AI k)] [(3, .box x.cs)]) (fun k => k ≤ l.length ∧ ∀ i, i < k → decide (x = l.getD i default) = false) (fun k => l.length - k) 0 ⟨Nat.zero_le _, fun i hi => absurd hi (Nat.not_lt_zero _)⟩ ?_ ?_
  · exact le_of ⟨rfl, rfl, rfl, rfl, trivial⟩ ⟨rfl, trivial⟩ rfl
  · intro k hk
    repeat' (first
      | (show VR _ _ _ (_ :: _) _ _ _; first | refine x_op rfl (by first | exact True.intro | omega) ?_ | (show VR _ _ _ (⟨_, .indexAddr _ _ _, _, _, _, _⟩ :: _) _ _ _; first | refine vr_index_rd (gk rfl) rfl rfl rfl rfl rfl (by omega) rfl ?_ | refine vr_index_rdP (gk rfl) rfl rfl rfl rfl rfl (by omega) rfl ?_ | refine vr_index_rdN (gk rfl) rfl rfl rfl rfl (by first | omega | decide) rfl ?_ | refine vr_index_rowO (gk rfl) rfl rfl rfl rfl rfl rfl (by omega) (by omega) rfl ?_ | refine vr_index_row (gk rfl) rfl rfl rfl rfl rfl rfl (by omega) (by omega) rfl ?_ | refine vr_index_rowN (gk rfl) rfl rfl rfl rfl rfl (by omega) (by first | rfl | exact rowOf_length.symm | (simp only [rowOf_length, List.length_set]; omega)) rfl ?_) | (show VR _ _ _ (⟨_, .call ⟨.builtin .len, _, _⟩, _, _, _, _⟩ :: _) _ _ _; first | refine vr_len_row (gk rfl) rfl rfl (by first | rfl | exact rowOf_length.symm | (simp only [rowOf_length, List.length_set]; omega)) rfl rfl ?_ | refine vr_len_sub (gk rfl) rfl rfl rfl ?_ | refine vr_len_full (gk rfl) rfl rfl rfl rfl ?_) | (show VR _ _ _ (⟨_, .nilCheck _, _, _, _, _⟩ :: _) _ _ _; first | refine vr_nilCheck_rp (gk rfl) rfl rfl ?_ | refine vr_nilCheck_ptr (gk rfl) rfl rfl ?_ | refine vr_nilCheck_ep (gk rfl) rfl rfl ?_) | (show VR _ _ _ (⟨_, .load _ _, _, _, _, _⟩ :: _) _ _ _; first | refine vr_load_rowO_agg (gk rfl) rfl rfl (by omega) rfl rfl rfl ?_ | refine vr_load_rowO (gk rfl) rfl rfl (by omega) rfl rfl rfl ?_ | refine vr_load_rowS_agg (gk rfl) rfl rfl (by omega) rfl rfl rfl ?_ | refine vr_load_rowS (gk rfl) rfl rfl (by omega) rfl rfl rfl ?_) | (show VR _ _ _ (⟨_, .store _ _ _, _, _, _, _⟩ :: _) _ _ _; first | refine vr_store_rowO (gk rfl) rfl rfl rfl (by omega) rfl rfl rfl ?_ | refine vr_store_rowS (gk rfl) rfl rfl rfl (by omega) rfl rfl rfl ?_) | (show VR _ _ _ (⟨_, .binOp _ _ _ _ _, _, _, _, _⟩ :: _) _ _ _; first | refine vr_eqlA (gk rfl) rfl rfl rfl rfl rfl rfl rfl ?_ | refine x_ariw rfl rfl rfl rfl rfl ?_) | refine x_gknow rfl (by assumption) ?_ | (refine x_gsplit rfl ?_ ?_ <;> intro h <;> have hq := h <;> (try simp only [decide_eq_true_eq, decide_eq_false_iff_not, Int.not_lt, Int.not_le, ne_eq, Decidable.not_not, Bool.not_eq_true', Bool.not_eq_false'] at hq)))
      | (show VR _ _ _ [] _ _ _; first | refine vr_nil ?_ | refine vr_nil_t (by kernel_rfl) ?_)
      | (show thenQ _ _ _ _; first | refine q_then_n ?_ | refine q_then_x ?_ | refine q_then_r ?_)
      | (show blockQ _ _ _ _; first | refine q_blk_n ?_ | refine q_blk_r ?_ | refine q_blk_x ?_ | refine q_blk_o rfl ?_)
      | refine vc_seq ?_
      | refine vc_region ?_ | refine vc_region_t ?_
      | (show VC _ (.cond _ _ _) _ _; first | refine vc_cond_t rfl ?_ | refine vc_cond_f rfl ?_ | refine x_know rfl (by assumption) ?_ | (refine x_cond rfl ?_ ?_ <;> intro h <;> have hq := h <;> (try simp only [decide_eq_true_eq, decide_eq_false_iff_not, Int.not_lt, Int.not_le, ne_eq, Decidable.not_not, Bool.not_eq_true', Bool.not_eq_false'] at hq)))
      | refine vc_ret ?_ | refine vc_exit ?_ | refine vc_block ?_ | refine vc_skip ?_ | refine vc_label ?_)
    · refine ret_int isRet_r rfl ?_
      rw [fstO, find_hit hk.2 (by omega) (decide_eq_true (nb_sv hq))]; rfl
    · refine ⟨k + 1, ⟨by omega, fun i hi => ?_⟩, by omega, le_of ⟨rfl, rfl, rfl, rfl, trivial⟩ ⟨rfl, trivial⟩ rfl⟩
      by_cases hik : i < k
      · exact hk.2 i hik
      · have : i = k := by omega
        subst this
        exact decide_eq_false fun e => hq (nb_sv'.2 e)
    · refine ret_int isRet_r rfl ?_
      have : k = l.length := by omega
      subst this
      rw [fstO, find_none hk.2]; rfl
theorem fst_any (l : List Nb) (p : Nb → Bool) : decide (0 ≤ oI (fstO l p)) = l.any p := by
  cases h : fstO l p with
  | none =>
    have := fst_none h
    rw [List.any_eq_false.2 (fun x hx => by rw [this x hx]; simp)]
    rfl
  | some i =>
    obtain ⟨h1, h2, _⟩ := fst_some h
    have : l.any p = true := List.any_eq_true.2 ⟨l.getD i default, by rw [List.getD_eq_getElem?_getD, List.getElem?_eq_getElem h1]; exact List.getElem_mem h1, h2⟩
    rw [this]
    simp [oI]
theorem contains_spec (l : List Nb) (x : Nb) : FnS Try.prog 38 [AD (nbs l), nbA x] [] (AB (l.any fun y => decide (x = y))) [] := by
  refine FnS.of_body (enters_of Try.func38 (by kernel_rfl) rfl) Try.func38 rfl Try.ntmps38 Try.results38 rfl rfl rfl rfl fun E hS => ?_
  repeat' (first
    | (show VR _ _ _ (_ :: _) _ _ _; first | refine x_op rfl (by first | exact True.intro | omega) ?_ | (show VR _ _ _ (⟨_, .call ⟨.value _, _, _⟩, _, _, _, _⟩ :: _) _ _ _; first | refine vr_calldU (index_spec l x) (gk rfl) rfl rfl rfl (by first | rfl | (simp only [wfRes, wfL, wfArgs, List.all_cons, List.all_nil, rowOf_blk]; rfl)) rfl (by first | exact newB_O | rfl) rfl ?_) | (show VR _ _ _ (⟨_, .nilCheck _, _, _, _, _⟩ :: _) _ _ _; first | refine vr_nilCheck_rp (gk rfl) rfl rfl ?_ | refine vr_nilCheck_ptr (gk rfl) rfl rfl ?_ | refine vr_nilCheck_ep (gk rfl) rfl rfl ?_) | refine x_gknow rfl (by assumption) ?_ | (refine x_gsplit rfl ?_ ?_ <;> intro h <;> have hq := h <;> (try simp only [decide_eq_true_eq, decide_eq_false_iff_not, Int.not_lt, Int.not_le, ne_eq, Decidable.not_not, Bool.not_eq_true', Bool.not_eq_false'] at hq)))
    | (show VR _ _ _ [] _ _ _; first | refine vr_nil ?_ | refine vr_nil_t (by kernel_rfl) ?_)
    | (show thenQ _ _ _ _; first | refine q_then_n ?_ | refine q_then_x ?_ | refine q_then_r ?_)
    | (show blockQ _ _ _ _; first | refine q_blk_n ?_ | refine q_blk_r ?_ | refine q_blk_x ?_ | refine q_blk_o rfl ?_)
    | refine vc_seq ?_
    | refine vc_region ?_ | refine vc_region_t ?_
    | (show VC _ (.cond _ _ _) _ _; first | refine vc_cond_t rfl ?_ | refine vc_cond_f rfl ?_ | refine x_know rfl (by assumption) ?_ | (refine x_cond rfl ?_ ?_ <;> intro h <;> have hq := h <;> (try simp only [decide_eq_true_eq, decide_eq_false_iff_not, Int.not_lt, Int.not_le, ne_eq, Decidable.not_not, Bool.not_eq_true', Bool.not_eq_false'] at hq)))
    | refine vc_ret ?_ | refine vc_exit ?_ | refine vc_block ?_ | refine vc_skip ?_ | refine vc_label ?_)
  all_goals exact ret_bool isRet_r rfl (fst_any _ _).symm
theorem containsf_spec (l : List Nb) (p : Nb → Bool) : FnS Try.prog 36 [AD (nbs l), .clo (predφ p)] [] (AB (l.any p)) [] := by
  refine FnS.of_body (enters_of Try.func36 (by kernel_rfl) rfl) Try.func36 rfl Try.ntmps36 Try.results36 rfl rfl rfl rfl fun E hS => ?_
  repeat' (first
    | (show VR _ _ _ (_ :: _) _ _ _; first | refine x_op rfl (by first | exact True.intro | omega) ?_ | (show VR _ _ _ (⟨_, .call ⟨.value _, _, _⟩, _, _, _, _⟩ :: _) _ _ _; first | refine vr_callU [] (idxf_spec l p) (gk rfl) rfl (by (repeat' (first | exact .nil | refine .cons ?_ ?_ | exact .of0 (.c .d) | exact .of0 .ep | exact .clo | exact .of0 (.c .nil) | exact .of0 (.c (cr_rowO (by simp) rfl (by first | rfl | omega) (fun _ => rfl))) | refine .of0 (.agg ?_) | exact .d | exact .nil | exact .of0 (.c (cr_row (by decide) rfl rfl (by repeat' (first | exact trivial | refine ⟨?_, ?_⟩ | rfl)))))) <;> fail) (by first | rfl | exact hfl_O (fun _ => rfl) | exact hfl_O2 rfl (fun _ => rfl)) rfl (by first | rfl | (simp only [wfRes, wfL, wfArgs, List.all_cons, List.all_nil, rowOf_blk]; rfl)) rfl (by first | exact newB_O | rfl) rfl ?_) | (show VR _ _ _ (⟨_, .nilCheck _, _, _, _, _⟩ :: _) _ _ _; first | refine vr_nilCheck_rp (gk rfl) rfl rfl ?_ | refine vr_nilCheck_ptr (gk rfl) rfl rfl ?_ | refine vr_nilCheck_ep (gk rfl) rfl rfl ?_) | refine x_gknow rfl (by assumption) ?_ | (refine x_gsplit rfl ?_ ?_ <;> intro h <;> have hq := h <;> (try simp only [decide_eq_true_eq, decide_eq_false_iff_not, Int.not_lt, Int.not_le, ne_eq, Decidable.not_not, Bool.not_eq_true', Bool.not_eq_false'] at hq)))
    | (show VR _ _ _ [] _ _ _; first | refine vr_nil ?_ | refine vr_nil_t (by kernel_rfl) ?_)
    | (show thenQ _ _ _ _; first | refine q_then_n ?_ | refine q_then_x ?_ | refine q_then_r ?_)
    | (show blockQ _ _ _ _; first | refine q_blk_n ?_ | refine q_blk_r ?_ | refine q_blk_x ?_ | refine q_blk_o rfl ?_)
    | refine vc_seq ?_
    | refine vc_region ?_ | refine vc_region_t ?_
    | (show VC _ (.cond _ _ _) _ _; first | refine vc_cond_t rfl ?_ | refine vc_cond_f rfl ?_ | refine x_know rfl (by assumption) ?_ | (refine x_cond rfl ?_ ?_ <;> intro h <;> have hq := h <;> (try simp only [decide_eq_true_eq, decide_eq_false_iff_not, Int.not_lt, Int.not_le, ne_eq, Decidable.not_not, Bool.not_eq_true', Bool.not_eq_false'] at hq)))
    | refine vc_ret ?_ | refine vc_exit ?_ | refine vc_block ?_ | refine vc_skip ?_ | refine vc_label ?_)
  all_goals exact ret_bool isRet_r rfl (fst_any _ _).symm

theorem hears11_spec (x : Nb) (t : Int) : FnS Try.prog 35 [nbA x, AD (.pt 1 fun _ => .int .i64 t)] [] (AB (decide (x.node = t))) [] := by
  refine FnS.of_body (enters_of Try.func35 (by kernel_rfl) rfl) Try.func35 rfl Try.ntmps35 Try.results35 rfl rfl rfl rfl fun E hS => ?_
  repeat' (first
    | (show VR _ _ _ (_ :: _) _ _ _; first | refine x_op rfl (by first | exact True.intro | omega) ?_ | (show VR _ _ _ (⟨_, .nilCheck _, _, _, _, _⟩ :: _) _ _ _; first | refine vr_nilCheck_rp (gk rfl) rfl rfl ?_ | refine vr_nilCheck_ptr (gk rfl) rfl rfl ?_ | refine vr_nilCheck_ep (gk rfl) rfl rfl ?_) | (show VR _ _ _ (⟨_, .load _ _, _, _, _, _⟩ :: _) _ _ _; first | refine vr_load_pt (gk rfl) rfl rfl rfl rfl ?_) | refine x_gknow rfl (by assumption) ?_ | (refine x_gsplit rfl ?_ ?_ <;> intro h <;> have hq := h <;> (try simp only [decide_eq_true_eq, decide_eq_false_iff_not, Int.not_lt, Int.not_le, ne_eq, Decidable.not_not, Bool.not_eq_true', Bool.not_eq_false'] at hq)))
    | (show VR _ _ _ [] _ _ _; first | refine vr_nil ?_ | refine vr_nil_t (by kernel_rfl) ?_)
    | (show thenQ _ _ _ _; first | refine q_then_n ?_ | refine q_then_x ?_ | refine q_then_r ?_)
    | (show blockQ _ _ _ _; first | refine q_blk_n ?_ | refine q_blk_r ?_ | refine q_blk_x ?_ | refine q_blk_o rfl ?_)
    | refine vc_seq ?_
    | refine vc_region ?_ | refine vc_region_t ?_
    | (show VC _ (.cond _ _ _) _ _; first | refine vc_cond_t rfl ?_ | refine vc_cond_f rfl ?_ | refine x_know rfl (by assumption) ?_ | (refine x_cond rfl ?_ ?_ <;> intro h <;> have hq := h <;> (try simp only [decide_eq_true_eq, decide_eq_false_iff_not, Int.not_lt, Int.not_le, ne_eq, Decidable.not_not, Bool.not_eq_true', Bool.not_eq_false'] at hq)))
    | refine vc_ret ?_ | refine vc_exit ?_ | refine vc_block ?_ | refine vc_skip ?_ | refine vc_label ?_)
  all_goals exact ret_bool isRet_r rfl rfl
theorem hears2_spec (x : Nb) (t : Int) : FnS Try.prog 37 [nbA x, .ep (fun _ => .int .i64 t) 1] [] (AB (decide (x.node = t))) [] := by
  refine FnS.of_body (enters_of Try.func37 (by kernel_rfl) rfl) Try.func37 rfl Try.ntmps37 Try.results37 rfl rfl rfl rfl fun E hS => ?_
  repeat' (first
    | (show VR _ _ _ (_ :: _) _ _ _; first | refine x_op rfl (by first | exact True.intro | omega) ?_ | (show VR _ _ _ (⟨_, .nilCheck _, _, _, _, _⟩ :: _) _ _ _; first | refine vr_nilCheck_rp (gk rfl) rfl rfl ?_ | refine vr_nilCheck_ptr (gk rfl) rfl rfl ?_ | refine vr_nilCheck_ep (gk rfl) rfl rfl ?_) | refine x_gknow rfl (by assumption) ?_ | (refine x_gsplit rfl ?_ ?_ <;> intro h <;> have hq := h <;> (try simp only [decide_eq_true_eq, decide_eq_false_iff_not, Int.not_lt, Int.not_le, ne_eq, Decidable.not_not, Bool.not_eq_true', Bool.not_eq_false'] at hq)))
    | (show VR _ _ _ [] _ _ _; first | refine vr_nil ?_ | refine vr_nil_t (by kernel_rfl) ?_)
    | (show thenQ _ _ _ _; first | refine q_then_n ?_ | refine q_then_x ?_ | refine q_then_r ?_)
    | (show blockQ _ _ _ _; first | refine q_blk_n ?_ | refine q_blk_r ?_ | refine q_blk_x ?_ | refine q_blk_o rfl ?_)
    | refine vc_seq ?_
    | refine vc_region ?_ | refine vc_region_t ?_
    | (show VC _ (.cond _ _ _) _ _; first | refine vc_cond_t rfl ?_ | refine vc_cond_f rfl ?_ | refine x_know rfl (by assumption) ?_ | (refine x_cond rfl ?_ ?_ <;> intro h <;> have hq := h <;> (try simp only [decide_eq_true_eq, decide_eq_false_iff_not, Int.not_lt, Int.not_le, ne_eq, Decidable.not_not, Bool.not_eq_true', Bool.not_eq_false'] at hq)))
    | refine vc_ret ?_ | refine vc_exit ?_ | refine vc_block ?_ | refine vc_skip ?_ | refine vc_label ?_)
  all_goals exact ret_bool isRet_r rfl rfl
theorem hears2_fnc {σ : St} {t : Int} {n1 : Nat} (h1 : σ (.b n1) = some (.k (.box [.d (.int .i64 t)]))) : AR Try.prog σ [n1] (.fnc 37 [.ptr n1 0]) (.clo (predφ fun x => decide (x.node = t))) :=
  .fnc (eps := [.ep (fun _ => .int .i64 t) 1]) (.cons (.ptr (by simp) h1 (fun j hj => by
    have : j = 0 := by omega
    subst this; rfl)) .nil) (enters_of Try.func37 (by kernel_rfl) rfl)
    (by rintro _ _ ⟨x, rfl, rfl⟩; exact ⟨rfl, hears2_spec x t⟩)
theorem hears11_fnc {σ : St} {L : List Nat} {t : Int} : AR Try.prog σ L (.fnc 35 [.d (.pt 1 fun _ => .int .i64 t)]) (.clo (predφ fun x => decide (x.node = t))) :=
  .fnc (eps := [AD (.pt 1 fun _ => .int .i64 t)]) (.cons (.c .d) .nil) (enters_of Try.func35 (by kernel_rfl) rfl)
    (by rintro _ _ ⟨x, rfl, rfl⟩; exact ⟨rfl, hears11_spec x t⟩)

def atO (l : List Nb) (t : Int) : Nb := match idxO l t with | some i => l.getD i default | none => newNb t
theorem at_spec (l : List Nb) (t : Int) : FnS Try.prog 34 [AD (nbs l), AD (.pt 1 fun _ => .int .i64 t)] [] (nbA (atO l t)) [] := by
  have hidx := idxf_spec l (fun x => decide (x.node = t))
  rw [fst_idx] at hidx
  unfold atO
  cases hi : idxO l t with
  | none =>
    rw [hi] at hidx
    have hidx' : FnS Try.prog 21 [AD (nbs l), .clo (predφ fun x => decide (x.node = t))] [] (AI (-1)) [] := hidx
    refine FnS.of_body (enters_of Try.func34 (by kernel_rfl) rfl) Try.func34 rfl Try.ntmps34 Try.results34 rfl rfl rfl rfl fun E hS => ?_
    repeat' (first
      | (show VR _ _ _ (_ :: _) _ _ _; first | refine x_op rfl (by first | exact True.intro | omega) ?_ | (show VR _ _ _ (⟨_, .call ⟨.value _, _, _⟩, _, _, _, _⟩ :: _) _ _ _; first | refine vr_callU [] (hidx') (gk rfl) rfl (by (repeat' (first | exact .nil | refine .cons ?_ ?_ | exact .of0 (.c .d) | exact .of0 .ep | exact .clo | exact (hears11_fnc) | exact .of0 (.c .nil) | exact .of0 (.c (cr_rowO (by simp) rfl (by first | rfl | omega) (fun _ => rfl))) | refine .of0 (.agg ?_) | exact .d | exact .nil | exact .of0 (.c (cr_row (by decide) rfl rfl (by repeat' (first | exact trivial | refine ⟨?_, ?_⟩ | rfl)))))) <;> fail) (by first | rfl | exact hfl_O (fun _ => rfl) | exact hfl_O2 rfl (fun _ => rfl)) rfl (by first | rfl | (simp only [wfRes, wfL, wfArgs, List.all_cons, List.all_nil, rowOf_blk]; rfl)) rfl (by first | exact newB_O | rfl) rfl ?_) | (show VR _ _ _ (⟨_, .indexAddr _ _ _, _, _, _, _⟩ :: _) _ _ _; first | refine vr_index_rd (gk rfl) rfl rfl rfl rfl rfl (by omega) rfl ?_ | refine vr_index_rdP (gk rfl) rfl rfl rfl rfl rfl (by omega) rfl ?_ | refine vr_index_rdN (gk rfl) rfl rfl rfl rfl (by first | omega | decide) rfl ?_ | refine vr_index_rowO (gk rfl) rfl rfl rfl rfl rfl rfl (by omega) (by omega) rfl ?_ | refine vr_index_row (gk rfl) rfl rfl rfl rfl rfl rfl (by omega) (by omega) rfl ?_ | refine vr_index_rowN (gk rfl) rfl rfl rfl rfl rfl (by omega) (by first | rfl | exact rowOf_length.symm | (simp only [rowOf_length, List.length_set]; omega)) rfl ?_) | (show VR _ _ _ (⟨_, .nilCheck _, _, _, _, _⟩ :: _) _ _ _; first | refine vr_nilCheck_rp (gk rfl) rfl rfl ?_ | refine vr_nilCheck_ptr (gk rfl) rfl rfl ?_ | refine vr_nilCheck_ep (gk rfl) rfl rfl ?_) | (show VR _ _ _ (⟨_, .load _ _, _, _, _, _⟩ :: _) _ _ _; first | refine vr_load_pt (gk rfl) rfl rfl rfl rfl ?_) | (show VR _ _ _ (⟨_, .load _ _, _, _, _, _⟩ :: _) _ _ _; first | refine vr_load_rowO_agg (gk rfl) rfl rfl (by omega) rfl rfl rfl ?_ | refine vr_load_rowO (gk rfl) rfl rfl (by omega) rfl rfl rfl ?_ | refine vr_load_rowS_agg (gk rfl) rfl rfl (by omega) rfl rfl rfl ?_ | refine vr_load_rowS (gk rfl) rfl rfl (by omega) rfl rfl rfl ?_) | (show VR _ _ _ (⟨_, .store _ _ _, _, _, _, _⟩ :: _) _ _ _; first | refine vr_store_rowO (gk rfl) rfl rfl rfl (by omega) rfl rfl rfl ?_ | refine vr_store_rowS (gk rfl) rfl rfl rfl (by omega) rfl rfl rfl ?_) | refine x_gknow rfl (by assumption) ?_ | (refine x_gsplit rfl ?_ ?_ <;> intro h <;> have hq := h <;> (try simp only [decide_eq_true_eq, decide_eq_false_iff_not, Int.not_lt, Int.not_le, ne_eq, Decidable.not_not, Bool.not_eq_true', Bool.not_eq_false'] at hq)))
      | (show VR _ _ _ [] _ _ _; first | refine vr_nil ?_ | refine vr_nil_t (by kernel_rfl) ?_)
      | (show thenQ _ _ _ _; first | refine q_then_n ?_ | refine q_then_x ?_ | refine q_then_r ?_)
      | (show blockQ _ _ _ _; first | refine q_blk_n ?_ | refine q_blk_r ?_ | refine q_blk_x ?_ | refine q_blk_o rfl ?_)
      | refine vc_seq ?_
      | refine vc_region ?_ | refine vc_region_t ?_
      | (show VC _ (.cond _ _ _) _ _; first | refine vc_cond_t rfl ?_ | refine vc_cond_f rfl ?_ | refine x_know rfl (by assumption) ?_ | (refine x_cond rfl ?_ ?_ <;> intro h <;> have hq := h <;> (try simp only [decide_eq_true_eq, decide_eq_false_iff_not, Int.not_lt, Int.not_le, ne_eq, Decidable.not_not, Bool.not_eq_true', Bool.not_eq_false'] at hq)))
      | refine vc_ret ?_ | refine vc_exit ?_ | refine vc_block ?_ | refine vc_skip ?_ | refine vc_label ?_)
    all_goals exact ret_agg1 isRet_r rfl rfl rfl rfl rfl
  | some i =>
    rw [hi] at hidx
    have hil : i < l.length := List.mem_range.1 (List.mem_of_find?_eq_some hi)
    have hidx' : FnS Try.prog 21 [AD (nbs l), .clo (predφ fun x => decide (x.node = t))] [] (AI (i : Nat)) [] := hidx
    refine FnS.of_body (enters_of Try.func34 (by kernel_rfl) rfl) Try.func34 rfl Try.ntmps34 Try.results34 rfl rfl rfl rfl fun E hS => ?_
    repeat' (first
      | (show VR _ _ _ (_ :: _) _ _ _; first | refine x_op rfl (by first | exact True.intro | omega) ?_ | (show VR _ _ _ (⟨_, .call ⟨.value _, _, _⟩, _, _, _, _⟩ :: _) _ _ _; first | refine vr_callU [] (hidx') (gk rfl) rfl (by (repeat' (first | exact .nil | refine .cons ?_ ?_ | exact .of0 (.c .d) | exact .of0 .ep | exact .clo | exact (hears11_fnc) | exact .of0 (.c .nil) | exact .of0 (.c (cr_rowO (by simp) rfl (by first | rfl | omega) (fun _ => rfl))) | refine .of0 (.agg ?_) | exact .d | exact .nil | exact .of0 (.c (cr_row (by decide) rfl rfl (by repeat' (first | exact trivial | refine ⟨?_, ?_⟩ | rfl)))))) <;> fail) (by first | rfl | exact hfl_O (fun _ => rfl) | exact hfl_O2 rfl (fun _ => rfl)) rfl (by first | rfl | (simp only [wfRes, wfL, wfArgs, List.all_cons, List.all_nil, rowOf_blk]; rfl)) rfl (by first | exact newB_O | rfl) rfl ?_) | (show VR _ _ _ (⟨_, .indexAddr _ _ _, _, _, _, _⟩ :: _) _ _ _; first | refine vr_index_rd (gk rfl) rfl rfl rfl rfl rfl (by omega) rfl ?_ | refine vr_index_rdP (gk rfl) rfl rfl rfl rfl rfl (by omega) rfl ?_ | refine vr_index_rdN (gk rfl) rfl rfl rfl rfl (by first | omega | decide) rfl ?_ | refine vr_index_rowO (gk rfl) rfl rfl rfl rfl rfl rfl (by omega) (by omega) rfl ?_ | refine vr_index_row (gk rfl) rfl rfl rfl rfl rfl rfl (by omega) (by omega) rfl ?_ | refine vr_index_rowN (gk rfl) rfl rfl rfl rfl rfl (by omega) (by first | rfl | exact rowOf_length.symm | (simp only [rowOf_length, List.length_set]; omega)) rfl ?_) | (show VR _ _ _ (⟨_, .nilCheck _, _, _, _, _⟩ :: _) _ _ _; first | refine vr_nilCheck_rp (gk rfl) rfl rfl ?_ | refine vr_nilCheck_ptr (gk rfl) rfl rfl ?_ | refine vr_nilCheck_ep (gk rfl) rfl rfl ?_) | (show VR _ _ _ (⟨_, .load _ _, _, _, _, _⟩ :: _) _ _ _; first | refine vr_load_pt (gk rfl) rfl rfl rfl rfl ?_) | (show VR _ _ _ (⟨_, .load _ _, _, _, _, _⟩ :: _) _ _ _; first | refine vr_load_rowO_agg (gk rfl) rfl rfl (by omega) rfl rfl rfl ?_ | refine vr_load_rowO (gk rfl) rfl rfl (by omega) rfl rfl rfl ?_ | refine vr_load_rowS_agg (gk rfl) rfl rfl (by omega) rfl rfl rfl ?_ | refine vr_load_rowS (gk rfl) rfl rfl (by omega) rfl rfl rfl ?_) | (show VR _ _ _ (⟨_, .store _ _ _, _, _, _, _⟩ :: _) _ _ _; first | refine vr_store_rowO (gk rfl) rfl rfl rfl (by omega) rfl rfl rfl ?_ | refine vr_store_rowS (gk rfl) rfl rfl rfl (by omega) rfl rfl rfl ?_) | refine x_gknow rfl (by assumption) ?_ | (refine x_gsplit rfl ?_ ?_ <;> intro h <;> have hq := h <;> (try simp only [decide_eq_true_eq, decide_eq_false_iff_not, Int.not_lt, Int.not_le, ne_eq, Decidable.not_not, Bool.not_eq_true', Bool.not_eq_false'] at hq)))
      | (show VR _ _ _ [] _ _ _; first | refine vr_nil ?_ | refine vr_nil_t (by kernel_rfl) ?_)
      | (show thenQ _ _ _ _; first | refine q_then_n ?_ | refine q_then_x ?_ | refine q_then_r ?_)
      | (show blockQ _ _ _ _; first | refine q_blk_n ?_ | refine q_blk_r ?_ | refine q_blk_x ?_ | refine q_blk_o rfl ?_)
      | refine vc_seq ?_
      | refine vc_region ?_ | refine vc_region_t ?_
      | (show VC _ (.cond _ _ _) _ _; first | refine vc_cond_t rfl ?_ | refine vc_cond_f rfl ?_ | refine x_know rfl (by assumption) ?_ | (refine x_cond rfl ?_ ?_ <;> intro h <;> have hq := h <;> (try simp only [decide_eq_true_eq, decide_eq_false_iff_not, Int.not_lt, Int.not_le, ne_eq, Decidable.not_not, Bool.not_eq_true', Bool.not_eq_false'] at hq)))
      | refine vc_ret ?_ | refine vc_exit ?_ | refine vc_block ?_ | refine vc_skip ?_ | refine vc_label ?_)
    all_goals exact ret_agg1 isRet_r rfl rfl rfl rfl rfl
end Go.Proofs

