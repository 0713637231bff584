/-
  What functions of the given program hand back, by walks over its code, and plain laws on that. No condition.
-/
import Derived.Test.YtiikkppedglpjaaSxP16m
-- SXU
namespace Go.Proofs
open Go Go.Sx
set_option linter.unusedSimpArgs false
set_option linter.unusedVariables false
attribute [local irreducible] VR VC thenQ blockQ retL

structure Spot where
  slot : Int
  offset : Int
  deriving DecidableEq, Inhabited
def Spot.enc (x : Spot) : List D := [.int .i64 x.slot, .int .i64 x.offset]
def Spot.cs (x : Spot) : List C := [.d (.int .i64 x.slot), .d (.int .i64 x.offset)]
abbrev spA (x : Spot) : AV := .agg x.cs
abbrev sps (l : List Spot) : D := rdOf Spot.enc 2 l
theorem sp_sv {x y : Spot} (h : [SV.int IntKind.i64 x.offset, SV.int IntKind.i64 x.slot].reverse = [SV.int IntKind.i64 y.offset, SV.int IntKind.i64 y.slot].reverse) : x = y := by
  have h := List.reverse_inj.1 h
  cases x; cases y
  simp only [List.cons.injEq, SV.int.injEq, SV.bool.injEq, SV.str.injEq, true_and, and_true] at h
  obtain ⟨rfl, rfl⟩ := h
  rfl
abbrev predφI (p : Int → Bool) : List DV → DV → Prop := fun ds r => ∃ x : Int, ds = [.d (.int .i64 x)] ∧ r = .d (.bool (p x))
theorem idxf_I (l : List Int) (p : Int → Bool) : FnS Try.prog 83 [AD (ints l), .clo (predφI p)] [] (AI (oI (fstO l p))) [] := by
  refine FnS.of_body (enters_of Try.func83 (by kernel_rfl) rfl) Try.func83 rfl Try.ntmps83 Try.results83 rfl rfl rfl rfl fun E hS => ?_
  refine vc_bound (t := 0) rfl fun hb => ?_
  repeat' (first
    | (show VR _ _ _ (_ :: _) _ _ _; first | refine x_opF rfl (by first | exact True.intro | omega) ?_ | (show VR _ _ _ (⟨_, .indexAddr _ _ _, _, _, _, _⟩ :: _) _ _ _; first | refine vr_index_rd (gk rfl) rfl rfl rfl rfl rfl (by omega) rfl ?_ | refine vr_index_rdP (gk rfl) rfl rfl rfl rfl rfl (by omega) rfl ?_ | refine vr_index_rdN (gk rfl) rfl rfl rfl rfl (by first | omega | decide) rfl ?_ | refine vr_index_rowO (gk rfl) rfl rfl rfl rfl rfl rfl (by omega) (by omega) rfl ?_ | refine vr_index_row (gk rfl) rfl rfl rfl rfl rfl rfl (by omega) (by omega) rfl ?_ | refine vr_index_rowN (gk rfl) rfl rfl rfl rfl rfl (by omega) (by first | rfl | exact rowOf_length.symm | (simp only [rowOf_length, List.length_set, List.length_replicate, List.length_append, List.length_take, List.length_cons, List.length_nil, List.length_map, List.length_drop, List.length_range] <;> omega)) rfl ?_) | (show VR _ _ _ (⟨_, .call ⟨.builtin .len, _, _⟩, _, _, _, _⟩ :: _) _ _ _; first | refine vr_len_row (gk rfl) rfl rfl (by first | rfl | exact rowOf_length.symm | (simp only [rowOf_length, List.length_set, List.length_replicate, List.length_append, List.length_take, List.length_cons, List.length_nil, List.length_map, List.length_drop, List.length_range] <;> omega)) rfl rfl ?_ | refine vr_len_sub (gk rfl) rfl rfl rfl ?_ | refine vr_len_full (gk rfl) rfl rfl rfl rfl ?_) | (show VR _ _ _ (⟨_, .nilCheck _, _, _, _, _⟩ :: _) _ _ _; first | refine vr_nilCheck_rp (gk rfl) rfl rfl ?_ | refine vr_nilCheck_ptr (gk rfl) rfl rfl ?_ | refine vr_nilCheck_ep (gk rfl) rfl rfl ?_) | (show VR _ _ _ (⟨_, .load _ _, _, _, _, _⟩ :: _) _ _ _; first | refine vr_load_rowO_agg (gk rfl) rfl rfl (by omega) rfl rfl rfl ?_ | refine vr_load_rowO (gk rfl) rfl rfl (by omega) rfl rfl rfl ?_ | refine vr_load_rowS_agg (gk rfl) rfl rfl (by omega) rfl rfl rfl ?_ | refine vr_load_rowS (gk rfl) rfl rfl (by omega) rfl rfl rfl ?_) | (show VR _ _ _ (⟨_, .store _ _ _, _, _, _, _⟩ :: _) _ _ _; first | refine vr_store_rowO (gk rfl) rfl rfl rfl (by omega) rfl rfl rfl ?_ | refine vr_store_rowS (gk rfl) rfl rfl rfl (by omega) rfl rfl rfl ?_) | (show VR _ _ _ (⟨_, .binOp _ _ _ _ _, _, _, _, _⟩ :: _) _ _ _; first | refine x_ariw rfl rfl rfl rfl rfl ?_) | refine x_gknow rfl (by assumption) ?_ | (refine x_gsplit rfl ?_ ?_ <;> intro h <;> have hq := h <;> (try simp only [decide_eq_true_eq, decide_eq_false_iff_not, Int.not_lt, Int.not_le, ne_eq, Decidable.not_not, Bool.not_eq_true', Bool.not_eq_false'] at hq)))
    | (show VR _ _ _ [] _ _ _; first | refine vr_nil ?_ | refine vr_nil_t (by kernel_rfl) ?_)
    | (show thenQ _ _ _ _; first | refine q_then_n ?_ | refine q_then_x ?_ | refine q_then_r ?_)
    | (show blockQ _ _ _ _; first | refine q_blk_n ?_ | refine q_blk_r ?_ | refine q_blk_x ?_ | refine q_blk_o rfl ?_)
    | refine vc_seq ?_
    | refine vc_region ?_ | refine vc_region_t ?_
    | (show VC _ (.cond _ _ _) _ _; first | refine vc_cond_t rfl ?_ | refine vc_cond_f rfl ?_ | refine x_know rfl (by assumption) ?_ | (refine x_cond rfl ?_ ?_ <;> intro h <;> have hq := h <;> (try simp only [decide_eq_true_eq, decide_eq_false_iff_not, Int.not_lt, Int.not_le, ne_eq, Decidable.not_not, Bool.not_eq_true', Bool.not_eq_false'] at hq)))
    | refine vc_ret ?_ | refine vc_exit ?_ | refine vc_block ?_ | refine vc_skip ?_ | refine vc_label ?_)
  refine vc_loopI (ι := Nat) (fun k => stOf [(0, AD (ints l)), (1, .clo (predφI p)), (7, AI l.length), (8, AI k)] []) (fun k => k ≤ l.length ∧ ∀ i, i < k → p (l.getD i default) = false) (fun k => l.length - k) 0 ⟨Nat.zero_le _, fun i hi => absurd hi (Nat.not_lt_zero _)⟩ ?_ ?_
  · exact le_of ⟨rfl, rfl, rfl, rfl, trivial⟩ trivial rfl
  · intro k hk
    repeat' (first
      | (show VR _ _ _ (_ :: _) _ _ _; first | refine x_opF rfl (by first | exact True.intro | omega) ?_ | (show VR _ _ _ (⟨_, .call ⟨.value _, _, _⟩, _, _, _, _⟩ :: _) _ _ _; first | refine vr_clo (⟨_, rfl, rfl⟩) (gk rfl) rfl rfl rfl rfl ?_) | (show VR _ _ _ (⟨_, .indexAddr _ _ _, _, _, _, _⟩ :: _) _ _ _; first | refine vr_index_rd (gk rfl) rfl rfl rfl rfl rfl (by omega) rfl ?_ | refine vr_index_rdP (gk rfl) rfl rfl rfl rfl rfl (by omega) rfl ?_ | refine vr_index_rdN (gk rfl) rfl rfl rfl rfl (by first | omega | decide) rfl ?_ | refine vr_index_rowO (gk rfl) rfl rfl rfl rfl rfl rfl (by omega) (by omega) rfl ?_ | refine vr_index_row (gk rfl) rfl rfl rfl rfl rfl rfl (by omega) (by omega) rfl ?_ | refine vr_index_rowN (gk rfl) rfl rfl rfl rfl rfl (by omega) (by first | rfl | exact rowOf_length.symm | (simp only [rowOf_length, List.length_set, List.length_replicate, List.length_append, List.length_take, List.length_cons, List.length_nil, List.length_map, List.length_drop, List.length_range] <;> omega)) rfl ?_) | (show VR _ _ _ (⟨_, .call ⟨.builtin .len, _, _⟩, _, _, _, _⟩ :: _) _ _ _; first | refine vr_len_row (gk rfl) rfl rfl (by first | rfl | exact rowOf_length.symm | (simp only [rowOf_length, List.length_set, List.length_replicate, List.length_append, List.length_take, List.length_cons, List.length_nil, List.length_map, List.length_drop, List.length_range] <;> omega)) rfl rfl ?_ | refine vr_len_sub (gk rfl) rfl rfl rfl ?_ | refine vr_len_full (gk rfl) rfl rfl rfl rfl ?_) | (show VR _ _ _ (⟨_, .nilCheck _, _, _, _, _⟩ :: _) _ _ _; first | refine vr_nilCheck_rp (gk rfl) rfl rfl ?_ | refine vr_nilCheck_ptr (gk rfl) rfl rfl ?_ | refine vr_nilCheck_ep (gk rfl) rfl rfl ?_) | (show VR _ _ _ (⟨_, .load _ _, _, _, _, _⟩ :: _) _ _ _; first | refine vr_load_rowO_agg (gk rfl) rfl rfl (by omega) rfl rfl rfl ?_ | refine vr_load_rowO (gk rfl) rfl rfl (by omega) rfl rfl rfl ?_ | refine vr_load_rowS_agg (gk rfl) rfl rfl (by omega) rfl rfl rfl ?_ | refine vr_load_rowS (gk rfl) rfl rfl (by omega) rfl rfl rfl ?_) | (show VR _ _ _ (⟨_, .store _ _ _, _, _, _, _⟩ :: _) _ _ _; first | refine vr_store_rowO (gk rfl) rfl rfl rfl (by omega) rfl rfl rfl ?_ | refine vr_store_rowS (gk rfl) rfl rfl rfl (by omega) rfl rfl rfl ?_) | (show VR _ _ _ (⟨_, .binOp _ _ _ _ _, _, _, _, _⟩ :: _) _ _ _; first | refine x_ariw rfl rfl rfl rfl rfl ?_) | refine x_gknow rfl (by assumption) ?_ | (refine x_gsplit rfl ?_ ?_ <;> intro h <;> have hq := h <;> (try simp only [decide_eq_true_eq, decide_eq_false_iff_not, Int.not_lt, Int.not_le, ne_eq, Decidable.not_not, Bool.not_eq_true', Bool.not_eq_false'] at hq)))
      | (show VR _ _ _ [] _ _ _; first | refine vr_nil ?_ | refine vr_nil_t (by kernel_rfl) ?_)
      | (show thenQ _ _ _ _; first | refine q_then_n ?_ | refine q_then_x ?_ | refine q_then_r ?_)
      | (show blockQ _ _ _ _; first | refine q_blk_n ?_ | refine q_blk_r ?_ | refine q_blk_x ?_ | refine q_blk_o rfl ?_)
      | refine vc_seq ?_
      | refine vc_region ?_ | refine vc_region_t ?_
      | (show VC _ (.cond _ _ _) _ _; first | refine vc_cond_t rfl ?_ | refine vc_cond_f rfl ?_ | refine x_know rfl (by assumption) ?_ | (refine x_cond rfl ?_ ?_ <;> intro h <;> have hq := h <;> (try simp only [decide_eq_true_eq, decide_eq_false_iff_not, Int.not_lt, Int.not_le, ne_eq, Decidable.not_not, Bool.not_eq_true', Bool.not_eq_false'] at hq)))
      | refine vc_ret ?_ | refine vc_exit ?_ | refine vc_block ?_ | refine vc_skip ?_ | refine vc_label ?_)
    · refine ret_int isRet_r rfl ?_
      rw [fstO_hit hk.2 (by omega) h]; rfl
    · refine ⟨k + 1, ⟨by omega, fun i hi => ?_⟩, by omega, le_of ⟨rfl, rfl, rfl, rfl, trivial⟩ trivial rfl⟩
      by_cases hik : i < k
      · exact hk.2 i hik
      · have : i = k := by omega
        subst this
        exact h
    · refine ret_int isRet_r rfl ?_
      have : k = l.length := by omega
      subst this
      rw [fstO_none hk.2]; rfl
theorem containsf_I (l : List Int) (p : Int → Bool) : FnS Try.prog 78 [AD (ints l), .clo (predφI p)] [] (AB (l.any p)) [] := by
  refine FnS.of_body (enters_of Try.func78 (by kernel_rfl) rfl) Try.func78 rfl Try.ntmps78 Try.results78 rfl rfl rfl rfl fun E hS => ?_
  repeat' (first
    | (show VR _ _ _ (_ :: _) _ _ _; first | refine x_opF rfl (by first | exact True.intro | omega) ?_ | (show VR _ _ _ (⟨_, .call ⟨.value _, _, _⟩, _, _, _, _⟩ :: _) _ _ _; first | refine vr_callU [] (idxf_I l p) (gk rfl) rfl (by (repeat' (first | exact .nil | refine .cons ?_ ?_ | exact .of0 (.c .d) | exact .of0 .ep | exact .clo | exact .of0 (.c .nil) | exact .of0 (.c (cr_rowO (by simp) rfl (by first | rfl | omega) (fun _ => rfl))) | refine .of0 (.agg ?_) | exact .d | exact .nil | exact .of0 (.c (cr_row (by decide) rfl rfl (by repeat' (first | exact trivial | refine ⟨?_, ?_⟩ | rfl)))))) <;> fail) (by first | rfl | exact hfl_O (fun _ => rfl) | exact hfl_O2 rfl (fun _ => rfl)) rfl (by first | rfl | (simp only [wfRes, wfL, wfArgs, List.all_cons, List.all_nil, rowOf_blk]; rfl)) rfl (by first | exact newB_O | rfl) rfl ?_) | (show VR _ _ _ (⟨_, .nilCheck _, _, _, _, _⟩ :: _) _ _ _; first | refine vr_nilCheck_rp (gk rfl) rfl rfl ?_ | refine vr_nilCheck_ptr (gk rfl) rfl rfl ?_ | refine vr_nilCheck_ep (gk rfl) rfl rfl ?_) | refine x_gknow rfl (by assumption) ?_ | (refine x_gsplit rfl ?_ ?_ <;> intro h <;> have hq := h <;> (try simp only [decide_eq_true_eq, decide_eq_false_iff_not, Int.not_lt, Int.not_le, ne_eq, Decidable.not_not, Bool.not_eq_true', Bool.not_eq_false'] at hq)))
    | (show VR _ _ _ [] _ _ _; first | refine vr_nil ?_ | refine vr_nil_t (by kernel_rfl) ?_)
    | (show thenQ _ _ _ _; first | refine q_then_n ?_ | refine q_then_x ?_ | refine q_then_r ?_)
    | (show blockQ _ _ _ _; first | refine q_blk_n ?_ | refine q_blk_r ?_ | refine q_blk_x ?_ | refine q_blk_o rfl ?_)
    | refine vc_seq ?_
    | refine vc_region ?_ | refine vc_region_t ?_
    | (show VC _ (.cond _ _ _) _ _; first | refine vc_cond_t rfl ?_ | refine vc_cond_f rfl ?_ | refine x_know rfl (by assumption) ?_ | (refine x_cond rfl ?_ ?_ <;> intro h <;> have hq := h <;> (try simp only [decide_eq_true_eq, decide_eq_false_iff_not, Int.not_lt, Int.not_le, ne_eq, Decidable.not_not, Bool.not_eq_true', Bool.not_eq_false'] at hq)))
    | refine vc_ret ?_ | refine vc_exit ?_ | refine vc_block ?_ | refine vc_skip ?_ | refine vc_label ?_)
  all_goals exact ret_bool isRet_r rfl (fstO_any _ _).symm
theorem containsf_TC (l : List TC) (p : TC → Bool) : FnS Try.prog 80 [AD (tcs l), .clo (predφTC p)] [] (AB (l.any p)) [] := by
  refine FnS.of_body (enters_of Try.func80 (by kernel_rfl) rfl) Try.func80 rfl Try.ntmps80 Try.results80 rfl rfl rfl rfl fun E hS => ?_
  repeat' (first
    | (show VR _ _ _ (_ :: _) _ _ _; first | refine x_opF rfl (by first | exact True.intro | omega) ?_ | (show VR _ _ _ (⟨_, .call ⟨.value _, _, _⟩, _, _, _, _⟩ :: _) _ _ _; first | refine vr_callU [] (idxf_TC l p) (gk rfl) rfl (by (repeat' (first | exact .nil | refine .cons ?_ ?_ | exact .of0 (.c .d) | exact .of0 .ep | exact .clo | exact .of0 (.c .nil) | exact .of0 (.c (cr_rowO (by simp) rfl (by first | rfl | omega) (fun _ => rfl))) | refine .of0 (.agg ?_) | exact .d | exact .nil | exact .of0 (.c (cr_row (by decide) rfl rfl (by repeat' (first | exact trivial | refine ⟨?_, ?_⟩ | rfl)))))) <;> fail) (by first | rfl | exact hfl_O (fun _ => rfl) | exact hfl_O2 rfl (fun _ => rfl)) rfl (by first | rfl | (simp only [wfRes, wfL, wfArgs, List.all_cons, List.all_nil, rowOf_blk]; rfl)) rfl (by first | exact newB_O | rfl) rfl ?_) | (show VR _ _ _ (⟨_, .nilCheck _, _, _, _, _⟩ :: _) _ _ _; first | refine vr_nilCheck_rp (gk rfl) rfl rfl ?_ | refine vr_nilCheck_ptr (gk rfl) rfl rfl ?_ | refine vr_nilCheck_ep (gk rfl) rfl rfl ?_) | refine x_gknow rfl (by assumption) ?_ | (refine x_gsplit rfl ?_ ?_ <;> intro h <;> have hq := h <;> (try simp only [decide_eq_true_eq, decide_eq_false_iff_not, Int.not_lt, Int.not_le, ne_eq, Decidable.not_not, Bool.not_eq_true', Bool.not_eq_false'] at hq)))
    | (show VR _ _ _ [] _ _ _; first | refine vr_nil ?_ | refine vr_nil_t (by kernel_rfl) ?_)
    | (show thenQ _ _ _ _; first | refine q_then_n ?_ | refine q_then_x ?_ | refine q_then_r ?_)
    | (show blockQ _ _ _ _; first | refine q_blk_n ?_ | refine q_blk_r ?_ | refine q_blk_x ?_ | refine q_blk_o rfl ?_)
    | refine vc_seq ?_
    | refine vc_region ?_ | refine vc_region_t ?_
    | (show VC _ (.cond _ _ _) _ _; first | refine vc_cond_t rfl ?_ | refine vc_cond_f rfl ?_ | refine x_know rfl (by assumption) ?_ | (refine x_cond rfl ?_ ?_ <;> intro h <;> have hq := h <;> (try simp only [decide_eq_true_eq, decide_eq_false_iff_not, Int.not_lt, Int.not_le, ne_eq, Decidable.not_not, Bool.not_eq_true', Bool.not_eq_false'] at hq)))
    | refine vc_ret ?_ | refine vc_exit ?_ | refine vc_block ?_ | refine vc_skip ?_ | refine vc_label ?_)
  all_goals exact ret_bool isRet_r rfl (fstO_any _ _).symm
def badM (n : Int) : Bool := decide (n < 0 ∨ 65536 ≤ n)
theorem masked1_spec (n : Int) : FnS Try.prog 79 [AI n] [] (AB (badM n)) [] := by
  refine FnS.of_body (enters_of Try.func79 (by kernel_rfl) rfl) Try.func79 rfl Try.ntmps79 Try.results79 rfl rfl rfl rfl fun E hS => ?_
  repeat' (first
    | (show VR _ _ _ (_ :: _) _ _ _; first | refine x_opF rfl (by first | exact True.intro | omega) ?_ | (show VR _ _ _ (⟨_, .nilCheck _, _, _, _, _⟩ :: _) _ _ _; first | refine vr_nilCheck_rp (gk rfl) rfl rfl ?_ | refine vr_nilCheck_ptr (gk rfl) rfl rfl ?_ | refine vr_nilCheck_ep (gk rfl) rfl rfl ?_) | (show VR _ _ _ (⟨_, .pick _ _ _, _, _, _, _⟩ :: _) _ _ _; first | refine vr_pick_true (gk rfl) rfl (by assumption) rfl rfl ?_ | refine vr_pick_false (gk rfl) rfl (by assumption) rfl rfl ?_) | refine x_gknow rfl (by assumption) ?_ | (refine x_gsplit rfl ?_ ?_ <;> intro h <;> have hq := h <;> (try simp only [decide_eq_true_eq, decide_eq_false_iff_not, Int.not_lt, Int.not_le, ne_eq, Decidable.not_not, Bool.not_eq_true', Bool.not_eq_false'] at hq)))
    | (show VR _ _ _ [] _ _ _; first | refine vr_nil ?_ | refine vr_nil_t (by kernel_rfl) ?_)
    | (show thenQ _ _ _ _; first | refine q_then_n ?_ | refine q_then_x ?_ | refine q_then_r ?_)
    | (show blockQ _ _ _ _; first | refine q_blk_n ?_ | refine q_blk_r ?_ | refine q_blk_x ?_ | refine q_blk_o rfl ?_)
    | refine vc_seq ?_
    | refine vc_region ?_ | refine vc_region_t ?_
    | (show VC _ (.cond _ _ _) _ _; first | refine vc_cond_t rfl ?_ | refine vc_cond_f rfl ?_ | refine x_know rfl (by assumption) ?_ | (refine x_cond rfl ?_ ?_ <;> intro h <;> have hq := h <;> (try simp only [decide_eq_true_eq, decide_eq_false_iff_not, Int.not_lt, Int.not_le, ne_eq, Decidable.not_not, Bool.not_eq_true', Bool.not_eq_false'] at hq)))
    | refine vc_ret ?_ | refine vc_exit ?_ | refine vc_block ?_ | refine vc_skip ?_ | refine vc_label ?_)
  all_goals (refine ret_bool isRet_r rfl ?_; unfold badM; simp_all)
  all_goals omega
theorem masked1_fnc {σ : St} {L : List Nat} : AR Try.prog σ L (.fnc 79 []) (.clo (predφI badM)) :=
  .fnc .nil (enters_of Try.func79 (by kernel_rfl) rfl) (by rintro _ _ ⟨x, rfl, rfl⟩; exact ⟨rfl, masked1_spec x⟩)
def maskedB (f : List Int) (len : Int) : Bool := decide ((f.length : Int) = len) && !(f.any badM)
theorem masked_spec (f : List Int) (len : Int) : FnS Try.prog 64 [AD (ints f), AI len] [] (AB (maskedB f len)) [] := by
  refine FnS.of_body (enters_of Try.func64 (by kernel_rfl) rfl) Try.func64 rfl Try.ntmps64 Try.results64 rfl rfl rfl rfl fun E hS => ?_
  repeat' (first
    | (show VR _ _ _ (_ :: _) _ _ _; first | refine x_opF rfl (by first | exact True.intro | omega) ?_ | (show VR _ _ _ (⟨_, .call ⟨.value _, _, _⟩, _, _, _, _⟩ :: _) _ _ _; first | refine vr_callU [] (containsf_I f badM) (gk rfl) rfl (by (repeat' (first | exact .nil | refine .cons ?_ ?_ | exact .of0 (.c .d) | exact .of0 .ep | exact .clo | exact (masked1_fnc) | exact .of0 (.c .nil) | exact .of0 (.c (cr_rowO (by simp) rfl (by first | rfl | omega) (fun _ => rfl))) | refine .of0 (.agg ?_) | exact .d | exact .nil | exact .of0 (.c (cr_row (by decide) rfl rfl (by repeat' (first | exact trivial | refine ⟨?_, ?_⟩ | rfl)))))) <;> fail) (by first | rfl | exact hfl_O (fun _ => rfl) | exact hfl_O2 rfl (fun _ => rfl)) rfl (by first | rfl | (simp only [wfRes, wfL, wfArgs, List.all_cons, List.all_nil, rowOf_blk]; rfl)) rfl (by first | exact newB_O | rfl) rfl ?_) | (show VR _ _ _ (⟨_, .call ⟨.builtin .len, _, _⟩, _, _, _, _⟩ :: _) _ _ _; first | refine vr_len_row (gk rfl) rfl rfl (by first | rfl | exact rowOf_length.symm | (simp only [rowOf_length, List.length_set, List.length_replicate, List.length_append, List.length_take, List.length_cons, List.length_nil, List.length_map, List.length_drop, List.length_range] <;> omega)) rfl rfl ?_ | refine vr_len_sub (gk rfl) rfl rfl rfl ?_ | refine vr_len_full (gk rfl) rfl rfl rfl rfl ?_) | (show VR _ _ _ (⟨_, .nilCheck _, _, _, _, _⟩ :: _) _ _ _; first | refine vr_nilCheck_rp (gk rfl) rfl rfl ?_ | refine vr_nilCheck_ptr (gk rfl) rfl rfl ?_ | refine vr_nilCheck_ep (gk rfl) rfl rfl ?_) | (show VR _ _ _ (⟨_, .pick _ _ _, _, _, _, _⟩ :: _) _ _ _; first | refine vr_pick_true (gk rfl) rfl (by assumption) rfl rfl ?_ | refine vr_pick_false (gk rfl) rfl (by assumption) rfl rfl ?_) | refine x_gknow rfl (by assumption) ?_ | (refine x_gsplit rfl ?_ ?_ <;> intro h <;> have hq := h <;> (try simp only [decide_eq_true_eq, decide_eq_false_iff_not, Int.not_lt, Int.not_le, ne_eq, Decidable.not_not, Bool.not_eq_true', Bool.not_eq_false'] at hq)))
    | (show VR _ _ _ [] _ _ _; first | refine vr_nil ?_ | refine vr_nil_t (by kernel_rfl) ?_)
    | (show thenQ _ _ _ _; first | refine q_then_n ?_ | refine q_then_x ?_ | refine q_then_r ?_)
    | (show blockQ _ _ _ _; first | refine q_blk_n ?_ | refine q_blk_r ?_ | refine q_blk_x ?_ | refine q_blk_o rfl ?_)
    | refine vc_seq ?_
    | refine vc_region ?_ | refine vc_region_t ?_
    | (show VC _ (.cond _ _ _) _ _; first | refine vc_cond_t rfl ?_ | refine vc_cond_f rfl ?_ | refine x_know rfl (by assumption) ?_ | (refine x_cond rfl ?_ ?_ <;> intro h <;> have hq := h <;> (try simp only [decide_eq_true_eq, decide_eq_false_iff_not, Int.not_lt, Int.not_le, ne_eq, Decidable.not_not, Bool.not_eq_true', Bool.not_eq_false'] at hq)))
    | refine vc_ret ?_ | refine vc_exit ?_ | refine vc_block ?_ | refine vc_skip ?_ | refine vc_label ?_)
  all_goals (refine ret_bool isRet_r rfl ?_; unfold maskedB; simp_all)
def usedB (t : Tb) (slot : Int) : Bool := t.cells.any fun c => decide (c.slot = slot)
theorem used1_spec (c : TC) (slot : Int) : FnS Try.prog 81 [tcA c, .ep (fun _ => .int .i64 slot) 1] [] (AB (decide (c.slot = slot))) [] := by
  refine FnS.of_body (enters_of Try.func81 (by kernel_rfl) rfl) Try.func81 rfl Try.ntmps81 Try.results81 rfl rfl rfl rfl fun E hS => ?_
  repeat' (first
    | (show VR _ _ _ (_ :: _) _ _ _; first | refine x_opF rfl (by first | exact True.intro | omega) ?_ | (show VR _ _ _ (⟨_, .nilCheck _, _, _, _, _⟩ :: _) _ _ _; first | refine vr_nilCheck_rp (gk rfl) rfl rfl ?_ | refine vr_nilCheck_ptr (gk rfl) rfl rfl ?_ | refine vr_nilCheck_ep (gk rfl) rfl rfl ?_) | refine x_gknow rfl (by assumption) ?_ | (refine x_gsplit rfl ?_ ?_ <;> intro h <;> have hq := h <;> (try simp only [decide_eq_true_eq, decide_eq_false_iff_not, Int.not_lt, Int.not_le, ne_eq, Decidable.not_not, Bool.not_eq_true', Bool.not_eq_false'] at hq)))
    | (show VR _ _ _ [] _ _ _; first | refine vr_nil ?_ | refine vr_nil_t (by kernel_rfl) ?_)
    | (show thenQ _ _ _ _; first | refine q_then_n ?_ | refine q_then_x ?_ | refine q_then_r ?_)
    | (show blockQ _ _ _ _; first | refine q_blk_n ?_ | refine q_blk_r ?_ | refine q_blk_x ?_ | refine q_blk_o rfl ?_)
    | refine vc_seq ?_
    | refine vc_region ?_ | refine vc_region_t ?_
    | (show VC _ (.cond _ _ _) _ _; first | refine vc_cond_t rfl ?_ | refine vc_cond_f rfl ?_ | refine x_know rfl (by assumption) ?_ | (refine x_cond rfl ?_ ?_ <;> intro h <;> have hq := h <;> (try simp only [decide_eq_true_eq, decide_eq_false_iff_not, Int.not_lt, Int.not_le, ne_eq, Decidable.not_not, Bool.not_eq_true', Bool.not_eq_false'] at hq)))
    | refine vc_ret ?_ | refine vc_exit ?_ | refine vc_block ?_ | refine vc_skip ?_ | refine vc_label ?_)
  all_goals exact ret_bool isRet_r rfl rfl
theorem used1_fnc {σ : St} {slot : Int} {nm : Nat} (hb : σ (.b nm) = some (.k (.box [.d (.int .i64 slot)]))) : AR Try.prog σ [nm] (.fnc 81 [.ptr nm 0]) (.clo (predφTC fun c => decide (c.slot = slot))) :=
  .fnc (eps := [.ep (fun _ => .int .i64 slot) 1]) (.cons (.ptr (by simp) hb (fun j hj => by
    have : j = 0 := by omega
    subst this; rfl)) .nil) (enters_of Try.func81 (by kernel_rfl) rfl)
    (by rintro _ _ ⟨x, rfl, rfl⟩; exact ⟨rfl, used1_spec x slot⟩)
theorem used_spec (t : Tb) (slot : Int) : FnS Try.prog 65 [tbA t, AI slot] [] (AB (usedB t slot)) [] := by
  refine FnS.of_body (enters_of Try.func65 (by kernel_rfl) rfl) Try.func65 rfl Try.ntmps65 Try.results65 rfl rfl rfl rfl fun E hS => ?_
  repeat' (first
    | (show VR _ _ _ (_ :: _) _ _ _; first | refine x_opF rfl (by first | exact True.intro | omega) ?_ | (show VR _ _ _ (⟨_, .call ⟨.value _, _, _⟩, _, _, _, _⟩ :: _) _ _ _; first | refine vr_callU [3] (containsf_TC t.cells (fun c => decide (c.slot = slot))) (gk rfl) rfl (by (repeat' (first | exact .nil | refine .cons ?_ ?_ | exact .of0 (.c .d) | exact .of0 .ep | exact .clo | exact (used1_fnc rfl) | exact .of0 (.c .nil) | exact .of0 (.c (cr_rowO (by simp) rfl (by first | rfl | omega) (fun _ => rfl))) | refine .of0 (.agg ?_) | exact .d | exact .nil | exact .of0 (.c (cr_row (by decide) rfl rfl (by repeat' (first | exact trivial | refine ⟨?_, ?_⟩ | rfl)))))) <;> fail) (by first | rfl | exact hfl_O (fun _ => rfl) | exact hfl_O2 rfl (fun _ => rfl)) rfl (by first | rfl | (simp only [wfRes, wfL, wfArgs, List.all_cons, List.all_nil, rowOf_blk]; rfl)) rfl (by first | exact newB_O | rfl) rfl ?_) | (show VR _ _ _ (⟨_, .nilCheck _, _, _, _, _⟩ :: _) _ _ _; first | refine vr_nilCheck_rp (gk rfl) rfl rfl ?_ | refine vr_nilCheck_ptr (gk rfl) rfl rfl ?_ | refine vr_nilCheck_ep (gk rfl) rfl rfl ?_) | refine x_gknow rfl (by assumption) ?_ | (refine x_gsplit rfl ?_ ?_ <;> intro h <;> have hq := h <;> (try simp only [decide_eq_true_eq, decide_eq_false_iff_not, Int.not_lt, Int.not_le, ne_eq, Decidable.not_not, Bool.not_eq_true', Bool.not_eq_false'] at hq)))
    | (show VR _ _ _ [] _ _ _; first | refine vr_nil ?_ | refine vr_nil_t (by kernel_rfl) ?_)
    | (show thenQ _ _ _ _; first | refine q_then_n ?_ | refine q_then_x ?_ | refine q_then_r ?_)
    | (show blockQ _ _ _ _; first | refine q_blk_n ?_ | refine q_blk_r ?_ | refine q_blk_x ?_ | refine q_blk_o rfl ?_)
    | refine vc_seq ?_
    | refine vc_region ?_ | refine vc_region_t ?_
    | (show VC _ (.cond _ _ _) _ _; first | refine vc_cond_t rfl ?_ | refine vc_cond_f rfl ?_ | refine x_know rfl (by assumption) ?_ | (refine x_cond rfl ?_ ?_ <;> intro h <;> have hq := h <;> (try simp only [decide_eq_true_eq, decide_eq_false_iff_not, Int.not_lt, Int.not_le, ne_eq, Decidable.not_not, Bool.not_eq_true', Bool.not_eq_false'] at hq)))
    | refine vc_ret ?_ | refine vc_exit ?_ | refine vc_block ?_ | refine vc_skip ?_ | refine vc_label ?_)
  all_goals exact ret_bool isRet_r rfl rfl
def fitsB (t : Tb) (f : List Int) (s : Spot) : Bool := decide (checkT t = 0) && maskedB f t.len && decide (0 ≤ s.slot ∧ s.slot < t.len ∧ 0 ≤ s.offset ∧ s.offset < 16) && bitB (f.getD s.slot.toNat default) s.offset && !usedB t s.slot
theorem maskedB_t {f : List Int} {len : Int} (h : maskedB f len = true) : (f.length : Int) = len ∧ ∀ i, i < f.length → 0 ≤ f.getD i default ∧ f.getD i default < 65536 := by
  simp only [maskedB, Bool.and_eq_true, decide_eq_true_eq, Bool.not_eq_true'] at h
  refine ⟨h.1, fun i hi => ?_⟩
  have := List.any_eq_false.1 h.2 _ (getD_mem hi)
  simp only [badM, decide_eq_true_eq] at this
  omega
theorem bitB_eq {n o : Int} (h : 0 ≤ n ∧ n < 65536) (ho : 0 ≤ o) : bitF .and .i64 (n / 2 ^ o.toNat) 1 = 1 ↔ bitB n o = true := by
  obtain ⟨m, rfl⟩ : ∃ m : Nat, n = m := ⟨n.toNat, by omega⟩
  have e : ((m : Int) / (2 : Int) ^ o.toNat) = ((m / 2 ^ o.toNat : Nat) : Int) := by rw [Int.natCast_ediv, Int.natCast_pow]; rfl
  have hle : m / 2 ^ o.toNat ≤ m := Nat.div_le_self _ _
  rw [e, bitB, decide_eq_true_eq, Int.toNat_natCast]
  generalize m / 2 ^ o.toNat = q at *
  rw [bit_and1 (by omega)]
  omega
theorem checkT_len {t : Tb} (h : checkT t = 0) : t.cells.length ≤ 512 ∧ 1 ≤ t.len ∧ t.len ≤ 512 ∧ nodeB t.node = true := by
  unfold checkT at h
  split at h
  · cases h
  · split at h
    · cases h
    · rename_i h1 h2
      simp only [not_or] at h1
      refine ⟨by omega, by omega, by omega, by simpa using h1.1⟩
set_option maxHeartbeats 1000000 in
theorem fits_spec (t : Tb) (f : List Int) (s : Spot) : FnS Try.prog 30 [tbA t, AD (ints f), spA s] [] (AB (fitsB t f s)) [] := by
  refine FnS.of_body (enters_of Try.func30 (by kernel_rfl) rfl) Try.func30 rfl Try.ntmps30 Try.results30 rfl rfl rfl rfl fun E hS => ?_
  cases hm : maskedB f t.len with
  | false =>
    have hmk := masked_spec f t.len
    rw [hm] at hmk
    repeat' (first
      | (show VR _ _ _ (_ :: _) _ _ _; first | refine x_opF rfl (by first | exact True.intro | omega) ?_ | (show VR _ _ _ (⟨_, .call ⟨.value _, _, _⟩, _, _, _, _⟩ :: _) _ _ _; first | refine vr_calldU (checkT_spec t) (gk rfl) rfl rfl rfl (by first | rfl | (simp only [wfRes, wfL, wfArgs, List.all_cons, List.all_nil, rowOf_blk]; rfl)) rfl (by first | exact newB_O | rfl) rfl ?_ | refine vr_calldU (hmk) (gk rfl) rfl rfl rfl (by first | rfl | (simp only [wfRes, wfL, wfArgs, List.all_cons, List.all_nil, rowOf_blk]; rfl)) rfl (by first | exact newB_O | rfl) rfl ?_) | (show VR _ _ _ (⟨_, .indexAddr _ _ _, _, _, _, _⟩ :: _) _ _ _; first | refine vr_index_rd (gk rfl) rfl rfl rfl rfl rfl (by omega) rfl ?_ | refine vr_index_rdP (gk rfl) rfl rfl rfl rfl rfl (by omega) rfl ?_ | refine vr_index_rdN (gk rfl) rfl rfl rfl rfl (by first | omega | decide) rfl ?_ | refine vr_index_rowO (gk rfl) rfl rfl rfl rfl rfl rfl (by omega) (by omega) rfl ?_ | refine vr_index_row (gk rfl) rfl rfl rfl rfl rfl rfl (by omega) (by omega) rfl ?_ | refine vr_index_rowN (gk rfl) rfl rfl rfl rfl rfl (by omega) (by first | rfl | exact rowOf_length.symm | (simp only [rowOf_length, List.length_set, List.length_replicate, List.length_append, List.length_take, List.length_cons, List.length_nil, List.length_map, List.length_drop, List.length_range] <;> omega)) rfl ?_) | (show VR _ _ _ (⟨_, .nilCheck _, _, _, _, _⟩ :: _) _ _ _; first | refine vr_nilCheck_rp (gk rfl) rfl rfl ?_ | refine vr_nilCheck_ptr (gk rfl) rfl rfl ?_ | refine vr_nilCheck_ep (gk rfl) rfl rfl ?_) | (show VR _ _ _ (⟨_, .load _ _, _, _, _, _⟩ :: _) _ _ _; first | refine vr_load_rowO_agg (gk rfl) rfl rfl (by omega) rfl rfl rfl ?_ | refine vr_load_rowO (gk rfl) rfl rfl (by omega) rfl rfl rfl ?_ | refine vr_load_rowS_agg (gk rfl) rfl rfl (by omega) rfl rfl rfl ?_ | refine vr_load_rowS (gk rfl) rfl rfl (by omega) rfl rfl rfl ?_) | (show VR _ _ _ (⟨_, .store _ _ _, _, _, _, _⟩ :: _) _ _ _; first | refine vr_store_rowO (gk rfl) rfl rfl rfl (by omega) rfl rfl rfl ?_ | refine vr_store_rowS (gk rfl) rfl rfl rfl (by omega) rfl rfl rfl ?_) | (show VR _ _ _ (⟨_, .binOp _ _ _ _ _, _, _, _, _⟩ :: _) _ _ _; first | refine vr_shr (m := 1) (gk rfl) rfl rfl rfl (by decide) rfl ?_ | refine vr_shr (m := 8) (gk rfl) rfl rfl rfl (by decide) rfl ?_ | refine vr_shlI (gk rfl) rfl rfl (by omega) rfl (by omega) ?_ | refine vr_shrV (gk rfl) rfl rfl (by omega) (by first | (show _ ≤ 64; omega) | (show _ ≤ 8; omega)) rfl ?_ | refine vr_bits (gk rfl) rfl rfl rfl rfl rfl ?_) | (show VR _ _ _ (⟨_, .pick _ _ _, _, _, _, _⟩ :: _) _ _ _; first | refine vr_pick_true (gk rfl) rfl (by assumption) rfl rfl ?_ | refine vr_pick_false (gk rfl) rfl (by assumption) rfl rfl ?_) | refine x_gknow rfl (by assumption) ?_ | (refine x_gsplit rfl ?_ ?_ <;> intro h <;> have hq := h <;> (try simp only [decide_eq_true_eq, decide_eq_false_iff_not, Int.not_lt, Int.not_le, ne_eq, Decidable.not_not, Bool.not_eq_true', Bool.not_eq_false'] at hq)))
      | (show VR _ _ _ [] _ _ _; first | refine vr_nil ?_ | refine vr_nil_t (by kernel_rfl) ?_)
      | (show thenQ _ _ _ _; first | refine q_then_n ?_ | refine q_then_x ?_ | refine q_then_r ?_)
      | (show blockQ _ _ _ _; first | refine q_blk_n ?_ | refine q_blk_r ?_ | refine q_blk_x ?_ | refine q_blk_o rfl ?_)
      | refine vc_seq ?_
      | refine vc_region ?_ | refine vc_region_t ?_
      | (show VC _ (.cond _ _ _) _ _; first | refine vc_cond_t rfl ?_ | refine vc_cond_f rfl ?_ | refine x_know rfl (by assumption) ?_ | (refine x_cond rfl ?_ ?_ <;> intro h <;> have hq := h <;> (try simp only [decide_eq_true_eq, decide_eq_false_iff_not, Int.not_lt, Int.not_le, ne_eq, Decidable.not_not, Bool.not_eq_true', Bool.not_eq_false'] at hq)))
      | refine vc_ret ?_ | refine vc_exit ?_ | refine vc_block ?_ | refine vc_skip ?_ | refine vc_label ?_)
    all_goals (refine ret_bool isRet_r rfl ?_; unfold fitsB; simp_all)
  | true =>
    have hmk := masked_spec f t.len
    rw [hm] at hmk
    obtain ⟨m1, m2⟩ := maskedB_t hm
    have m3 := m2 s.slot.toNat
    repeat' (first
      | (show VR _ _ _ (_ :: _) _ _ _; first | refine x_opF rfl (by first | exact True.intro | omega) ?_ | (show VR _ _ _ (⟨_, .call ⟨.value _, _, _⟩, _, _, _, _⟩ :: _) _ _ _; first | refine vr_calldU (checkT_spec t) (gk rfl) rfl rfl rfl (by first | rfl | (simp only [wfRes, wfL, wfArgs, List.all_cons, List.all_nil, rowOf_blk]; rfl)) rfl (by first | exact newB_O | rfl) rfl ?_ | refine vr_calldU (hmk) (gk rfl) rfl rfl rfl (by first | rfl | (simp only [wfRes, wfL, wfArgs, List.all_cons, List.all_nil, rowOf_blk]; rfl)) rfl (by first | exact newB_O | rfl) rfl ?_ | refine vr_calldU (used_spec _ _) (gk rfl) rfl rfl rfl (by first | rfl | (simp only [wfRes, wfL, wfArgs, List.all_cons, List.all_nil, rowOf_blk]; rfl)) rfl (by first | exact newB_O | rfl) rfl ?_) | (show VR _ _ _ (⟨_, .indexAddr _ _ _, _, _, _, _⟩ :: _) _ _ _; first | refine vr_index_rd (gk rfl) rfl rfl rfl rfl rfl (by omega) rfl ?_ | refine vr_index_rdP (gk rfl) rfl rfl rfl rfl rfl (by omega) rfl ?_ | refine vr_index_rdN (gk rfl) rfl rfl rfl rfl (by first | omega | decide) rfl ?_ | refine vr_index_rowO (gk rfl) rfl rfl rfl rfl rfl rfl (by omega) (by omega) rfl ?_ | refine vr_index_row (gk rfl) rfl rfl rfl rfl rfl rfl (by omega) (by omega) rfl ?_ | refine vr_index_rowN (gk rfl) rfl rfl rfl rfl rfl (by omega) (by first | rfl | exact rowOf_length.symm | (simp only [rowOf_length, List.length_set, List.length_replicate, List.length_append, List.length_take, List.length_cons, List.length_nil, List.length_map, List.length_drop, List.length_range] <;> omega)) rfl ?_) | (show VR _ _ _ (⟨_, .nilCheck _, _, _, _, _⟩ :: _) _ _ _; first | refine vr_nilCheck_rp (gk rfl) rfl rfl ?_ | refine vr_nilCheck_ptr (gk rfl) rfl rfl ?_ | refine vr_nilCheck_ep (gk rfl) rfl rfl ?_) | (show VR _ _ _ (⟨_, .load _ _, _, _, _, _⟩ :: _) _ _ _; first | refine vr_load_rowO_agg (gk rfl) rfl rfl (by omega) rfl rfl rfl ?_ | refine vr_load_rowO (gk rfl) rfl rfl (by omega) rfl rfl rfl ?_ | refine vr_load_rowS_agg (gk rfl) rfl rfl (by omega) rfl rfl rfl ?_ | refine vr_load_rowS (gk rfl) rfl rfl (by omega) rfl rfl rfl ?_) | (show VR _ _ _ (⟨_, .store _ _ _, _, _, _, _⟩ :: _) _ _ _; first | refine vr_store_rowO (gk rfl) rfl rfl rfl (by omega) rfl rfl rfl ?_ | refine vr_store_rowS (gk rfl) rfl rfl rfl (by omega) rfl rfl rfl ?_) | (show VR _ _ _ (⟨_, .binOp _ _ _ _ _, _, _, _, _⟩ :: _) _ _ _; first | refine vr_shr (m := 1) (gk rfl) rfl rfl rfl (by decide) rfl ?_ | refine vr_shr (m := 8) (gk rfl) rfl rfl rfl (by decide) rfl ?_ | refine vr_shlI (gk rfl) rfl rfl (by omega) rfl (by omega) ?_ | refine vr_shrV (gk rfl) rfl rfl (by omega) (by first | (show _ ≤ 64; omega) | (show _ ≤ 8; omega)) rfl ?_ | refine vr_bits (gk rfl) rfl rfl rfl rfl rfl ?_) | (show VR _ _ _ (⟨_, .pick _ _ _, _, _, _, _⟩ :: _) _ _ _; first | refine vr_pick_true (gk rfl) rfl (by assumption) rfl rfl ?_ | refine vr_pick_false (gk rfl) rfl (by assumption) rfl rfl ?_) | refine x_gknow rfl (by assumption) ?_ | (refine x_gsplit rfl ?_ ?_ <;> intro h <;> have hq := h <;> (try simp only [decide_eq_true_eq, decide_eq_false_iff_not, Int.not_lt, Int.not_le, ne_eq, Decidable.not_not, Bool.not_eq_true', Bool.not_eq_false'] at hq)))
      | (show VR _ _ _ [] _ _ _; first | refine vr_nil ?_ | refine vr_nil_t (by kernel_rfl) ?_)
      | (show thenQ _ _ _ _; first | refine q_then_n ?_ | refine q_then_x ?_ | refine q_then_r ?_)
      | (show blockQ _ _ _ _; first | refine q_blk_n ?_ | refine q_blk_r ?_ | refine q_blk_x ?_ | refine q_blk_o rfl ?_)
      | refine vc_seq ?_
      | refine vc_region ?_ | refine vc_region_t ?_
      | (show VC _ (.cond _ _ _) _ _; first | refine vc_cond_t rfl ?_ | refine vc_cond_f rfl ?_ | refine x_know rfl (by assumption) ?_ | (refine x_cond rfl ?_ ?_ <;> intro h <;> have hq := h <;> (try simp only [decide_eq_true_eq, decide_eq_false_iff_not, Int.not_lt, Int.not_le, ne_eq, Decidable.not_not, Bool.not_eq_true', Bool.not_eq_false'] at hq)))
      | refine vc_ret ?_ | refine vc_exit ?_ | refine vc_block ?_ | refine vc_skip ?_ | refine vc_label ?_)
    all_goals refine ret_bool isRet_r rfl ?_
    rotate_right 2
    · have := (bitB_eq (m3 (by omega)) (by omega : 0 ≤ s.offset)).1 hq
      unfold fitsB; simp_all
    · have : bitB (f.getD s.slot.toNat default) s.offset = false := by
        cases hb : bitB (f.getD s.slot.toNat default) s.offset with
        | false => rfl
        | true => exact absurd ((bitB_eq (m3 (by omega)) (by omega : 0 ≤ s.offset)).2 hb) hq
      unfold fitsB; simp_all
    · unfold fitsB; simp_all
    all_goals
      have : ¬ (0 ≤ s.slot ∧ s.slot < t.len ∧ 0 ≤ s.offset ∧ s.offset < 16) := by omega
      unfold fitsB
      rw [decide_eq_false this]
      simp
theorem between1_spec (c : TC) (peer : Int) : FnS Try.prog 63 [tcA c, .ep (fun _ => .int .i64 peer) 1] [] (AB (decide (c.kind ≠ 2 ∨ c.peer ≠ peer))) [] := by
  refine FnS.of_body (enters_of Try.func63 (by kernel_rfl) rfl) Try.func63 rfl Try.ntmps63 Try.results63 rfl rfl rfl rfl fun E hS => ?_
  repeat' (first
    | (show VR _ _ _ (_ :: _) _ _ _; first | refine x_opF rfl (by first | exact True.intro | omega) ?_ | (show VR _ _ _ (⟨_, .nilCheck _, _, _, _, _⟩ :: _) _ _ _; first | refine vr_nilCheck_rp (gk rfl) rfl rfl ?_ | refine vr_nilCheck_ptr (gk rfl) rfl rfl ?_ | refine vr_nilCheck_ep (gk rfl) rfl rfl ?_) | (show VR _ _ _ (⟨_, .pick _ _ _, _, _, _, _⟩ :: _) _ _ _; first | refine vr_pick_true (gk rfl) rfl (by assumption) rfl rfl ?_ | refine vr_pick_false (gk rfl) rfl (by assumption) rfl rfl ?_) | refine x_gknow rfl (by assumption) ?_ | (refine x_gsplit rfl ?_ ?_ <;> intro h <;> have hq := h <;> (try simp only [decide_eq_true_eq, decide_eq_false_iff_not, Int.not_lt, Int.not_le, ne_eq, Decidable.not_not, Bool.not_eq_true', Bool.not_eq_false'] at hq)))
    | (show VR _ _ _ [] _ _ _; first | refine vr_nil ?_ | refine vr_nil_t (by kernel_rfl) ?_)
    | (show thenQ _ _ _ _; first | refine q_then_n ?_ | refine q_then_x ?_ | refine q_then_r ?_)
    | (show blockQ _ _ _ _; first | refine q_blk_n ?_ | refine q_blk_r ?_ | refine q_blk_x ?_ | refine q_blk_o rfl ?_)
    | refine vc_seq ?_
    | refine vc_region ?_ | refine vc_region_t ?_
    | (show VC _ (.cond _ _ _) _ _; first | refine vc_cond_t rfl ?_ | refine vc_cond_f rfl ?_ | refine x_know rfl (by assumption) ?_ | (refine x_cond rfl ?_ ?_ <;> intro h <;> have hq := h <;> (try simp only [decide_eq_true_eq, decide_eq_false_iff_not, Int.not_lt, Int.not_le, ne_eq, Decidable.not_not, Bool.not_eq_true', Bool.not_eq_false'] at hq)))
    | refine vc_ret ?_ | refine vc_exit ?_ | refine vc_block ?_ | refine vc_skip ?_ | refine vc_label ?_)
  all_goals (refine ret_bool isRet_r rfl ?_; simp_all)
theorem between1_fnc {σ : St} {peer : Int} {nm : Nat} (hb : σ (.b nm) = some (.k (.box [.d (.int .i64 peer)]))) : AR Try.prog σ [nm] (.fnc 63 [.ptr nm 0]) (.clo (predφTC fun c => decide (c.kind ≠ 2 ∨ c.peer ≠ peer))) :=
  .fnc (eps := [.ep (fun _ => .int .i64 peer) 1]) (.cons (.ptr (by simp) hb (fun j hj => by
    have : j = 0 := by omega
    subst this; rfl)) .nil) (enters_of Try.func63 (by kernel_rfl) rfl)
    (by rintro _ _ ⟨x, rfl, rfl⟩; exact ⟨rfl, between1_spec x peer⟩)
def betweenM (t : Tb) (peer : Int) : List TC := if checkT t ≠ 0 then [] else t.cells.filter fun c => decide (c.kind = 2 ∧ c.peer = peer)
theorem between_spec (t : Tb) (peer : Int) : FnS Try.prog 28 [tbA t, AI peer] [] (AD (tcs (betweenM t peer))) [] := by
  have hck := checkT_spec t
  refine FnS.of_body (enters_of Try.func28 (by kernel_rfl) rfl) Try.func28 rfl Try.ntmps28 Try.results28 rfl rfl rfl rfl fun E hS => ?_
  refine vc_retL ?_
  by_cases hc : checkT t = 0
  · rw [hc] at hck
    have hl := checkT_len hc
    repeat' (first
      | (show VR _ _ _ (_ :: _) _ _ _; first | refine x_opF rfl (by first | exact True.intro | omega) ?_ | (show VR _ _ _ (⟨_, .call ⟨.value _, _, _⟩, _, _, _, _⟩ :: _) _ _ _; first | refine vr_calldU (hck) (gk rfl) rfl rfl rfl (by first | rfl | (simp only [wfRes, wfL, wfArgs, List.all_cons, List.all_nil, rowOf_blk]; rfl)) rfl (by first | exact newB_O | rfl) rfl ?_ | refine vr_calldU (clone_TC t.cells (by omega)) (gk rfl) rfl rfl rfl (by first | rfl | (simp only [wfRes, wfL, wfArgs, List.all_cons, List.all_nil, rowOf_blk]; rfl)) rfl (by first | exact newB_O | rfl) rfl ?_ | refine vr_callU [] (hck) (gk rfl) rfl (by (repeat' (first | exact .nil | refine .cons ?_ ?_ | exact .of0 (.c .d) | exact .of0 .ep | exact .clo | exact (between1_fnc rfl) | exact .of0 (.c .nil) | exact .of0 (.c (cr_rowO (by simp) rfl (by first | rfl | omega) (fun _ => rfl))) | refine .of0 (.agg ?_) | exact .d | exact .nil | exact .of0 (.c (cr_row (by decide) rfl rfl (by repeat' (first | exact trivial | refine ⟨?_, ?_⟩ | rfl)))))) <;> fail) (by first | rfl | exact hfl_O (fun _ => rfl) | exact hfl_O2 rfl (fun _ => rfl)) rfl (by first | rfl | (simp only [wfRes, wfL, wfArgs, List.all_cons, List.all_nil, rowOf_blk]; rfl)) rfl (by first | exact newB_O | rfl) rfl ?_ | refine vr_callU [] (clone_TC t.cells (by omega)) (gk rfl) rfl (by (repeat' (first | exact .nil | refine .cons ?_ ?_ | exact .of0 (.c .d) | exact .of0 .ep | exact .clo | exact (between1_fnc rfl) | exact .of0 (.c .nil) | exact .of0 (.c (cr_rowO (by simp) rfl (by first | rfl | omega) (fun _ => rfl))) | refine .of0 (.agg ?_) | exact .d | exact .nil | exact .of0 (.c (cr_row (by decide) rfl rfl (by repeat' (first | exact trivial | refine ⟨?_, ?_⟩ | rfl)))))) <;> fail) (by first | rfl | exact hfl_O (fun _ => rfl) | exact hfl_O2 rfl (fun _ => rfl)) rfl (by first | rfl | (simp only [wfRes, wfL, wfArgs, List.all_cons, List.all_nil, rowOf_blk]; rfl)) rfl (by first | exact newB_O | rfl) rfl ?_ | refine vr_callMU [3] (del_TC t.cells (fun c => decide (c.kind ≠ 2 ∨ c.peer ≠ peer)) (by omega)) (gk rfl) rfl rfl rowOf_isD rfl (by (repeat' (first | exact .nil | refine .cons ?_ ?_ | exact .of0 (.c .d) | exact .of0 .ep | exact .clo | exact (between1_fnc rfl) | exact .of0 (.c .nil) | exact .of0 (.c (cr_rowO (by simp) rfl (by first | rfl | omega) (fun _ => rfl))) | refine .of0 (.agg ?_) | exact .d | exact .nil | exact .of0 (.c (cr_row (by decide) rfl rfl (by repeat' (first | exact trivial | refine ⟨?_, ?_⟩ | rfl)))))) <;> fail) rfl (by first | rfl | exact hfl_O (fun _ => rfl) | exact hfl_O2 rfl (fun _ => rfl)) rfl (by first | rfl | (simp only [wfRes, wfL, wfArgs, List.all_cons, List.all_nil, rowOf_blk]; rfl)) rfl (by first | exact newB_O | rfl) rfl ?_) | (show VR _ _ _ (⟨_, .nilCheck _, _, _, _, _⟩ :: _) _ _ _; first | refine vr_nilCheck_rp (gk rfl) rfl rfl ?_ | refine vr_nilCheck_ptr (gk rfl) rfl rfl ?_ | refine vr_nilCheck_ep (gk rfl) rfl rfl ?_) | refine x_gknow rfl (by assumption) ?_ | (refine x_gsplit rfl ?_ ?_ <;> intro h <;> have hq := h <;> (try simp only [decide_eq_true_eq, decide_eq_false_iff_not, Int.not_lt, Int.not_le, ne_eq, Decidable.not_not, Bool.not_eq_true', Bool.not_eq_false'] at hq)))
      | (show VR _ _ _ [] _ _ _; first | refine vr_nil ?_ | refine vr_nil_t (by kernel_rfl) ?_)
      | (show thenQ _ _ _ _; first | refine q_then_n ?_ | refine q_then_x ?_ | refine q_then_r ?_)
      | (show blockQ _ _ _ _; first | refine q_blk_n ?_ | refine q_blk_r ?_ | refine q_blk_x ?_ | refine q_blk_o rfl ?_)
      | refine vc_seq ?_
      | refine vc_region ?_ | refine vc_region_t ?_
      | (show VC _ (.cond _ _ _) _ _; first | refine vc_cond_t rfl ?_ | refine vc_cond_f rfl ?_ | refine x_know rfl (by assumption) ?_ | (refine x_cond rfl ?_ ?_ <;> intro h <;> have hq := h <;> (try simp only [decide_eq_true_eq, decide_eq_false_iff_not, Int.not_lt, Int.not_le, ne_eq, Decidable.not_not, Bool.not_eq_true', Bool.not_eq_false'] at hq)))
      | refine vc_ret ?_ | refine vc_exit ?_ | refine vc_block ?_ | refine vc_skip ?_ | refine vc_label ?_)
    have e : (t.cells.filter fun x => !decide (x.kind ≠ 2 ∨ x.peer ≠ peer)) = betweenM t peer := by
      rw [betweenM, if_neg (by omega)]
      congr 1; funext c; simp
    rw [e]
    refine retL_of (le_gen (l := [(4, AD (tcs (betweenM t peer)))]) (b := []) (fun n => n) [12000] hS ?_ ?_ rfl (by first | rfl | (simp only [wfL, List.all_cons, List.all_nil, rowOf_blk]; rfl))) (ret_d isRet_r rfl rfl)
    all_goals repeat' (first | exact trivial | refine ⟨⟨_, rfl, ?_⟩, ?_⟩ | exact .c .d | exact .clo | exact .ep | exact .c (.ptr rfl) | exact .c (.row rfl rfl) | exact .c .nil | (refine .c (.row rfl ?_); ((try dsimp only); first | rfl | omega | (simp only [rowOf_length, List.length_set, List.length_append, List.length_take, List.length_drop, List.length_cons, List.length_nil, List.length_map, List.length_replicate, List.length_range] <;> omega)); done) | (refine .c (cw_eq ?_); first | rfl | (congr 1; omega); done) | exact .c (.frzOf (by simp) rfl rfl (fun _ => rfl)) | (refine .c (.frzOf (by simp) rfl ?_ (fun _ => rfl)); ((try dsimp only); first | rfl | omega | (simp only [rowOf_length, List.length_set, List.length_append, List.length_take, List.length_drop, List.length_cons, List.length_nil, List.length_map, List.length_replicate, List.length_range] <;> omega)); done) | exact .boxD rfl rfl | exact .rowD rfl rowOf_isD | exact .rowD (rowOf_append.symm) rowOf_isD | exact .rowD (rowOf_set rfl) rowOf_isD | (refine .rowD ?_ rowOf_isD; rw [rowOf_append]; rfl) | (refine .rowD ?_ rowOf_isD; simp only [rowOf_append, List.append_assoc]; rfl) | refine .agg ?_ | refine .box ?_ | exact .nil | refine .cons ?_ ?_ | exact .d | exact .ptr rfl | exact .row rfl rfl | (refine .row rfl ?_; ((try dsimp only); first | rfl | omega | (simp only [rowOf_length, List.length_set, List.length_append, List.length_take, List.length_drop, List.length_cons, List.length_nil, List.length_map, List.length_replicate, List.length_range] <;> omega)); done) | exact .frzOf (by simp) rfl rfl (fun _ => rfl) | (refine .frzOf (by simp) rfl ?_ (fun _ => rfl); ((try dsimp only); first | rfl | omega | (simp only [rowOf_length, List.length_set, List.length_append, List.length_take, List.length_drop, List.length_cons, List.length_nil, List.length_map, List.length_replicate, List.length_range] <;> omega)); done))
  · repeat' (first
      | (show VR _ _ _ (_ :: _) _ _ _; first | refine x_opF rfl (by first | exact True.intro | omega) ?_ | (show VR _ _ _ (⟨_, .call ⟨.value _, _, _⟩, _, _, _, _⟩ :: _) _ _ _; first | refine vr_calldU (hck) (gk rfl) rfl rfl rfl (by first | rfl | (simp only [wfRes, wfL, wfArgs, List.all_cons, List.all_nil, rowOf_blk]; rfl)) rfl (by first | exact newB_O | rfl) rfl ?_) | (show VR _ _ _ (⟨_, .nilCheck _, _, _, _, _⟩ :: _) _ _ _; first | refine vr_nilCheck_rp (gk rfl) rfl rfl ?_ | refine vr_nilCheck_ptr (gk rfl) rfl rfl ?_ | refine vr_nilCheck_ep (gk rfl) rfl rfl ?_) | refine x_gknow rfl (by assumption) ?_ | (refine x_gsplit rfl ?_ ?_ <;> intro h <;> have hq := h <;> (try simp only [decide_eq_true_eq, decide_eq_false_iff_not, Int.not_lt, Int.not_le, ne_eq, Decidable.not_not, Bool.not_eq_true', Bool.not_eq_false'] at hq)))
      | (show VR _ _ _ [] _ _ _; first | refine vr_nil ?_ | refine vr_nil_t (by kernel_rfl) ?_)
      | (show thenQ _ _ _ _; first | refine q_then_n ?_ | refine q_then_x ?_ | refine q_then_r ?_)
      | (show blockQ _ _ _ _; first | refine q_blk_n ?_ | refine q_blk_r ?_ | refine q_blk_x ?_ | refine q_blk_o rfl ?_)
      | refine vc_seq ?_
      | refine vc_region ?_ | refine vc_region_t ?_
      | (show VC _ (.cond _ _ _) _ _; first | refine vc_cond_t rfl ?_ | refine vc_cond_f rfl ?_ | refine x_know rfl (by assumption) ?_ | (refine x_cond rfl ?_ ?_ <;> intro h <;> have hq := h <;> (try simp only [decide_eq_true_eq, decide_eq_false_iff_not, Int.not_lt, Int.not_le, ne_eq, Decidable.not_not, Bool.not_eq_true', Bool.not_eq_false'] at hq)))
      | refine vc_ret ?_ | refine vc_exit ?_ | refine vc_block ?_ | refine vc_skip ?_ | refine vc_label ?_)
    all_goals first
      | (exfalso; omega)
      | skip
    rw [betweenM, if_pos hc]
    refine retL_of (le_gen0 (l := [(4, AD (tcs []))]) (b := []) (fun n => n) ?_ ?_ rfl (by first | rfl | (simp only [wfL, List.all_cons, List.all_nil, rowOf_blk]; rfl))) (ret_d isRet_r rfl rfl)
    all_goals repeat' (first | exact trivial | refine ⟨⟨_, rfl, ?_⟩, ?_⟩ | exact .c .d | exact .clo | exact .ep | exact .c (.ptr rfl) | exact .c (.row rfl rfl) | exact .c .nil | (refine .c (.row rfl ?_); ((try dsimp only); first | rfl | omega | (simp only [rowOf_length, List.length_set, List.length_append, List.length_take, List.length_drop, List.length_cons, List.length_nil, List.length_map, List.length_replicate, List.length_range] <;> omega)); done) | (refine .c (cw_eq ?_); first | rfl | (congr 1; omega); done) | exact .boxD rfl rfl | exact .rowD rfl rowOf_isD | exact .rowD (rowOf_append.symm) rowOf_isD | exact .rowD (rowOf_set rfl) rowOf_isD | (refine .rowD ?_ rowOf_isD; rw [rowOf_append]; rfl) | (refine .rowD ?_ rowOf_isD; simp only [rowOf_append, List.append_assoc]; rfl) | refine .agg ?_ | refine .box ?_ | exact .nil | refine .cons ?_ ?_ | exact .d | exact .ptr rfl | exact .row rfl rfl | (refine .row rfl ?_; ((try dsimp only); first | rfl | omega | (simp only [rowOf_length, List.length_set, List.length_append, List.length_take, List.length_drop, List.length_cons, List.length_nil, List.length_map, List.length_replicate, List.length_range] <;> omega)); done))
end Go.Proofs


