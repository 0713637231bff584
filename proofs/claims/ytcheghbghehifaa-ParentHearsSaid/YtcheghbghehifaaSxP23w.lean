/-
  What functions of the given program hand back, by walks over its code, and plain laws on that. No condition.
-/
import Derived.Test.YtcheghbghehifaaSxP23v
import Derived.Test.YtcheghbghehifaaSxP23o
-- SXU
namespace Go.Proofs
open Go Go.Sx
set_option linter.unusedSimpArgs false
set_option linter.unusedVariables false
attribute [local irreducible] VR VC thenQ blockQ retL

theorem cnt_node (x : Nb) (b : Bool) : (cnt x b).node = x.node := rfl
theorem cnt_rest (x : Nb) (b : Bool) : (cnt x b).epoch = x.epoch ∧ (cnt x b).rank = x.rank ∧ (cnt x b).slot = x.slot := ⟨rfl, rfl, rfl⟩
theorem cnt_range {x : Nb} {b : Bool} (h : (0 ≤ x.att ∧ x.att ≤ 255) ∧ 0 ≤ x.ack ∧ x.ack ≤ x.att) : (1 ≤ (cnt x b).att ∧ (cnt x b).att ≤ 255) ∧ 0 ≤ (cnt x b).ack ∧ (cnt x b).ack ≤ (cnt x b).att := by
  unfold cnt
  cases b <;> dsimp only <;> split <;> simp <;> omega
theorem set_getD {l : List Nb} {i j : Nat} {x : Nb} (hi : i < l.length) : (l.set i x).getD j default = if j = i then x else l.getD j default := by
  by_cases h : j = i
  · subst h; simp [List.getD_eq_getElem?_getD, hi]
  · simp [List.getD_eq_getElem?_getD, h, List.getElem?_set_ne (Ne.symm h)]
theorem check_cnt {l : List Nb} {i : Nat} {b : Bool} (h : checkNb l = 0) (hi : i < l.length) : checkNb (l.set i (cnt (l.getD i default) b)) = 0 := by
  obtain ⟨hlen, hall⟩ := checkNb_ok h
  have hx := (nbErr_ok (hall _ hi)).2
  have key : ∀ k, k < (l.set i (cnt (l.getD i default) b)).length → nbErr (l.set i (cnt (l.getD i default) b)) k = 0 := by
    intro k hk
    rw [List.length_set] at hk
    have h0 := hall k hk
    have hc := @cnt_range _ b hx
    have hnode : ∀ j, ((l.set i (cnt (l.getD i default) b)).getD j default).node = (l.getD j default).node := fun j => by
      rw [set_getD hi]; split
      · rename_i e; rw [e]; rfl
      · rfl
    have hr : heardB ((l.set i (cnt (l.getD i default) b)).getD k default).node ((l.set i (cnt (l.getD i default) b)).getD k default).epoch ((l.set i (cnt (l.getD i default) b)).getD k default).rank ((l.set i (cnt (l.getD i default) b)).getD k default).slot
        = heardB (l.getD k default).node (l.getD k default).epoch (l.getD k default).rank (l.getD k default).slot := by
      rw [set_getD hi]; split
      · rename_i e; rw [e]; rfl
      · rfl
    have ha : inR ((l.set i (cnt (l.getD i default) b)).getD k default).att 0 255 = true := by
      rw [set_getD hi, inR_t]; split
      · omega
      · have := (nbErr_ok h0).2.1; omega
    have hb : inR ((l.set i (cnt (l.getD i default) b)).getD k default).ack 0 ((l.set i (cnt (l.getD i default) b)).getD k default).att = true := by
      rw [set_getD hi, inR_t]; split
      · omega
      · have := (nbErr_ok h0).2.2; omega
    have hh := (nbErr_ok h0).1
    unfold nbErr at h0 ⊢
    dsimp only at h0 ⊢
    rw [hr, ha, hb, hnode, hnode]
    have ha0 : inR (l.getD k default).att 0 255 = true := by rw [inR_t]; have := (nbErr_ok (hall k hk)).2.1; omega
    have hb0 : inR (l.getD k default).ack 0 (l.getD k default).att = true := by rw [inR_t]; have := (nbErr_ok (hall k hk)).2.2; omega
    rw [ha0, hb0] at h0
    exact h0
  unfold checkNb
  rw [List.length_set, if_neg (by omega)]
  exact firstErr_none fun k hk => key k (by rw [List.length_set]; exact hk)

theorem cost_pos {a k : Int} (h : 0 ≤ k ∧ k ≤ a) (h4 : 4 ≤ a) (hk : 0 < k) : costC a k = min ((128 * a + k - 1) / k) 1023 := by
  unfold costC
  rw [if_neg (by omega), if_neg (by omega), if_neg (by omega)]
theorem cost_zero {a : Int} (h4 : 4 ≤ a) : costC a 0 = 1023 := by
  unfold costC
  rw [if_neg (by omega), if_neg (by omega), if_pos rfl]
theorem ceil_le {n m k j : Int} (hk : 0 < k) (hj : 0 < j) (h : n * j ≤ m * k) : (n + k - 1) / k ≤ (m + j - 1) / j := by
  have h1 : m ≤ j * ((m + j - 1) / j) := by
    have := Int.mul_ediv_add_emod (m + j - 1) j
    have := Int.emod_lt_of_pos (m + j - 1) hj
    omega
  have h2 : n ≤ k * ((m + j - 1) / j) := by
    refine Int.le_of_mul_le_mul_right ?_ hj
    calc n * j ≤ m * k := h
      _ ≤ j * ((m + j - 1) / j) * k := Int.mul_le_mul_of_nonneg_right h1 (by omega)
      _ = k * ((m + j - 1) / j) * j := by rw [Int.mul_comm j, Int.mul_assoc, Int.mul_comm j k, ← Int.mul_assoc, Int.mul_comm _ k]
  have h3 : (n + k - 1) / k < (m + j - 1) / j + 1 := by
    refine Int.ediv_lt_of_lt_mul hk ?_
    rw [Int.add_mul, Int.mul_comm _ k]
    omega
  omega
theorem cost_full {a k : Int} (h : 0 ≤ k ∧ k ≤ a) (h4 : 4 ≤ a) : costC a k = 128 ↔ k = a := by
  by_cases hk : k = 0
  · subst hk; rw [cost_zero h4]; omega
  · rw [cost_pos h h4 (by omega)]
    have h1 : 128 ≤ (128 * a + k - 1) / k := Int.le_ediv_of_mul_le (by omega) (by omega)
    constructor
    · intro e
      have h2 : (128 * a + k - 1) / k = 128 := by omega
      have := Int.mul_ediv_add_emod (128 * a + k - 1) k
      rw [h2] at this
      have := Int.emod_lt_of_pos (128 * a + k - 1) (show 0 < k by omega)
      omega
    · intro e
      subst e
      have h2 : (128 * k + k - 1) / k < 129 := Int.ediv_lt_of_lt_mul (by omega) (by omega)
      omega
theorem cost_bounds {a k : Int} (h : 0 ≤ k ∧ k ≤ a) : 128 ≤ costC a k ∧ costC a k ≤ 1023 := by
  by_cases h4 : 4 ≤ a
  · by_cases hk : k = 0
    · subst hk; rw [cost_zero h4]; omega
    · rw [cost_pos h h4 (by omega)]
      have h1 : 128 ≤ (128 * a + k - 1) / k := Int.le_ediv_of_mul_le (by omega) (by omega)
      omega
  · unfold costC
    rw [if_neg (by omega), if_pos (by omega)]
    omega
theorem cost_up {a k : Int} (h : 0 ≤ k ∧ k ≤ a) (h4 : 4 ≤ a) : costC (a + 1) (k + 1) ≤ costC a k := by
  rw [cost_pos (a := a + 1) (by omega) (by omega) (by omega)]
  by_cases hk : k = 0
  · subst hk; rw [cost_zero h4]; omega
  · rw [cost_pos h h4 (by omega)]
    have := @ceil_le (128 * (a + 1)) (128 * a) (k + 1) k (by omega) (by omega) (by
      rw [Int.mul_add, Int.mul_add, Int.add_mul, Int.mul_assoc, Int.mul_assoc]; omega)
    omega
theorem cost_down {a k : Int} (h : 0 ≤ k ∧ k ≤ a) (h4 : 4 ≤ a) : costC a k ≤ costC (a + 1) k := by
  by_cases hk : k = 0
  · subst hk; rw [cost_zero h4, cost_zero (by omega)]; omega
  · rw [cost_pos h h4 (by omega), cost_pos (a := a + 1) (by omega) (by omega) (by omega)]
    have := @ceil_le (128 * a) (128 * (a + 1)) k k (by omega) (by omega) (Int.mul_le_mul_of_nonneg_right (by omega) (by omega))
    omega

theorem counts1_spec (x : Nb) (t : Int) : FnS Try.prog 24 [nbA x, .ep (fun _ => .int .i64 t) 1] [] (AB (decide (x.node = t))) [] := by
  refine FnS.of_body (enters_of Try.func24 (by kernel_rfl) rfl) Try.func24 rfl Try.ntmps24 Try.results24 rfl rfl rfl rfl fun E hS => ?_
  repeat' (first
    | (show VR _ _ _ (_ :: _) _ _ _; first | refine x_op rfl (by first | exact True.intro | omega) ?_ | (show VR _ _ _ (⟨_, .nilCheck _, _, _, _, _⟩ :: _) _ _ _; first | refine vr_nilCheck_rp (gk rfl) rfl rfl ?_ | refine vr_nilCheck_ptr (gk rfl) rfl rfl ?_ | refine vr_nilCheck_ep (gk rfl) rfl rfl ?_) | refine x_gknow rfl (by assumption) ?_ | (refine x_gsplit rfl ?_ ?_ <;> intro h <;> have hq := h <;> (try simp only [decide_eq_true_eq, decide_eq_false_iff_not, Int.not_lt, Int.not_le, ne_eq, Decidable.not_not, Bool.not_eq_true', Bool.not_eq_false'] at hq)))
    | (show VR _ _ _ [] _ _ _; first | refine vr_nil ?_ | refine vr_nil_t (by kernel_rfl) ?_)
    | (show thenQ _ _ _ _; first | refine q_then_n ?_ | refine q_then_x ?_ | refine q_then_r ?_)
    | (show blockQ _ _ _ _; first | refine q_blk_n ?_ | refine q_blk_r ?_ | refine q_blk_x ?_ | refine q_blk_o rfl ?_)
    | refine vc_seq ?_
    | refine vc_region ?_ | refine vc_region_t ?_
    | (show VC _ (.cond _ _ _) _ _; first | refine vc_cond_t rfl ?_ | refine vc_cond_f rfl ?_ | refine x_know rfl (by assumption) ?_ | (refine x_cond rfl ?_ ?_ <;> intro h <;> have hq := h <;> (try simp only [decide_eq_true_eq, decide_eq_false_iff_not, Int.not_lt, Int.not_le, ne_eq, Decidable.not_not, Bool.not_eq_true', Bool.not_eq_false'] at hq)))
    | refine vc_ret ?_ | refine vc_exit ?_ | refine vc_block ?_ | refine vc_skip ?_ | refine vc_label ?_)
  all_goals exact ret_bool isRet_r rfl rfl
theorem counts1_fnc {σ : St} {t : Int} {n1 : Nat} (h1 : σ (.b n1) = some (.k (.box [.d (.int .i64 t)]))) : AR Try.prog σ [n1] (.fnc 24 [.ptr n1 0]) (.clo (predφ fun x => decide (x.node = t))) :=
  .fnc (eps := [.ep (fun _ => .int .i64 t) 1]) (.cons (.ptr (by simp) h1 (fun j hj => by
    have : j = 0 := by omega
    subst this; rfl)) .nil) (enters_of Try.func24 (by kernel_rfl) rfl)
    (by rintro _ _ ⟨x, rfl, rfl⟩; exact ⟨rfl, counts1_spec x t⟩)

theorem count_step {l : List Nb} (h : checkNb l = 0) {t : Int} (b : Bool) (hf : foundNb l t = true) : ∃ l' : List Nb, l'.length = l.length ∧ checkNb l' = 0 ∧ l'.getD (bsNb l t) default = cnt (l.getD (bsNb l t) default) b ∧
    FnS Try.prog 25 [AD (nbs l), AI t, AB b] [] (.tup [.c (.row 24007 l.length), AI 0]) [(24007, .row 41 6 (rowOf Nb.enc l'))] := by
  have hi := (found_iff.1 hf).1
  exact ⟨_, List.length_set .., check_cnt h hi, by rw [set_getD hi, if_pos rfl], count_ok l t b h hf⟩

abbrev bls (l : List Bool) : D := rdOf (fun b => [.bool b]) 1 l
set_option maxHeartbeats 4000000 in
set_option maxRecDepth 100000 in
theorem lawCounts_spec (l0 : List Nb) (t : Int) (bs : List Bool) : FnS Try.prog 7 [AD (nbs l0), AI t, AD (bls bs)] [] (AB true) [] := by
  refine FnS.of_body (enters_of Try.func7 (by kernel_rfl) rfl) Try.func7 rfl Try.ntmps7 Try.results7 rfl rfl rfl rfl fun E hS => ?_
  refine vc_bound (t := 2) rfl fun hbs => ?_
  repeat' (first
    | (show VR _ _ _ (_ :: _) _ _ _; first | refine x_op rfl (by first | exact True.intro | omega) ?_ | (show VR _ _ _ (⟨_, .call ⟨.value _, _, _⟩, _, _, _, _⟩ :: _) _ _ _; first | refine vr_calldU (awake_spec) (gk rfl) rfl rfl rfl (by first | rfl | (simp only [wfRes, wfL, wfArgs, List.all_cons, List.all_nil, rowOf_blk]; rfl)) rfl (by first | exact newB_O | rfl) rfl ?_ | refine vr_calldU (few_spec l0) (gk rfl) rfl rfl rfl (by first | rfl | (simp only [wfRes, wfL, wfArgs, List.all_cons, List.all_nil, rowOf_blk]; rfl)) rfl (by first | exact newB_O | rfl) rfl ?_ | refine vr_calldU (check_spec l0) (gk rfl) rfl rfl rfl (by first | rfl | (simp only [wfRes, wfL, wfArgs, List.all_cons, List.all_nil, rowOf_blk]; rfl)) rfl (by first | exact newB_O | rfl) rfl ?_) | (show VR _ _ _ (⟨_, .indexAddr _ _ _, _, _, _, _⟩ :: _) _ _ _; first | refine vr_index_rd (gk rfl) rfl rfl rfl rfl rfl (by omega) rfl ?_ | refine vr_index_rdP (gk rfl) rfl rfl rfl rfl rfl (by omega) rfl ?_ | refine vr_index_rdN (gk rfl) rfl rfl rfl rfl (by first | omega | decide) rfl ?_ | refine vr_index_rowO (gk rfl) rfl rfl rfl rfl rfl rfl (by omega) (by omega) rfl ?_ | refine vr_index_row (gk rfl) rfl rfl rfl rfl rfl rfl (by omega) (by omega) rfl ?_ | refine vr_index_rowN (gk rfl) rfl rfl rfl rfl rfl (by omega) (by first | rfl | exact rowOf_length.symm | (simp only [rowOf_length, List.length_set]; omega)) rfl ?_) | (show VR _ _ _ (⟨_, .call ⟨.builtin .len, _, _⟩, _, _, _, _⟩ :: _) _ _ _; first | refine vr_len_row (gk rfl) rfl rfl (by first | rfl | exact rowOf_length.symm | (simp only [rowOf_length, List.length_set]; omega)) rfl rfl ?_ | refine vr_len_sub (gk rfl) rfl rfl rfl ?_ | refine vr_len_full (gk rfl) rfl rfl rfl rfl ?_) | (show VR _ _ _ (⟨_, .nilCheck _, _, _, _, _⟩ :: _) _ _ _; first | refine vr_nilCheck_rp (gk rfl) rfl rfl ?_ | refine vr_nilCheck_ptr (gk rfl) rfl rfl ?_ | refine vr_nilCheck_ep (gk rfl) rfl rfl ?_) | (show VR _ _ _ (⟨_, .load _ _, _, _, _, _⟩ :: _) _ _ _; first | refine vr_load_rowO_agg (gk rfl) rfl rfl (by omega) rfl rfl rfl ?_ | refine vr_load_rowO (gk rfl) rfl rfl (by omega) rfl rfl rfl ?_ | refine vr_load_rowS_agg (gk rfl) rfl rfl (by omega) rfl rfl rfl ?_ | refine vr_load_rowS (gk rfl) rfl rfl (by omega) rfl rfl rfl ?_) | (show VR _ _ _ (⟨_, .store _ _ _, _, _, _, _⟩ :: _) _ _ _; first | refine vr_store_rowO (gk rfl) rfl rfl rfl (by omega) rfl rfl rfl ?_ | refine vr_store_rowS (gk rfl) rfl rfl rfl (by omega) rfl rfl rfl ?_) | (show VR _ _ _ (⟨_, .binOp _ _ _ _ _, _, _, _, _⟩ :: _) _ _ _; first | refine x_ariw rfl rfl rfl rfl rfl ?_) | (show VR _ _ _ (⟨_, .pick _ _ _, _, _, _, _⟩ :: _) _ _ _; first | refine vr_pick_true (gk rfl) rfl (by assumption) rfl rfl ?_ | refine vr_pick_false (gk rfl) rfl (by assumption) rfl rfl ?_) | refine x_gknow rfl (by assumption) ?_ | (refine x_gsplit rfl ?_ ?_ <;> intro h <;> have hq := h <;> (try simp only [decide_eq_true_eq, decide_eq_false_iff_not, Int.not_lt, Int.not_le, ne_eq, Decidable.not_not, Bool.not_eq_true', Bool.not_eq_false'] at hq)))
    | (show VR _ _ _ [] _ _ _; first | refine vr_nil ?_ | refine vr_nil_t (by kernel_rfl) ?_)
    | (show thenQ _ _ _ _; first | refine q_then_n ?_ | refine q_then_x ?_ | refine q_then_r ?_)
    | (show blockQ _ _ _ _; first | refine q_blk_n ?_ | refine q_blk_r ?_ | refine q_blk_x ?_ | refine q_blk_o rfl ?_)
    | refine vc_seq ?_
    | refine vc_region ?_ | refine vc_region_t ?_
    | (show VC _ (.cond _ _ _) _ _; first | refine vc_cond_t rfl ?_ | refine vc_cond_f rfl ?_ | refine x_know rfl (by assumption) ?_ | (refine x_cond rfl ?_ ?_ <;> intro h <;> have hq := h <;> (try simp only [decide_eq_true_eq, decide_eq_false_iff_not, Int.not_lt, Int.not_le, ne_eq, Decidable.not_not, Bool.not_eq_true', Bool.not_eq_false'] at hq)))
    | refine vc_ret ?_ | refine vc_exit ?_ | refine vc_block ?_ | refine vc_skip ?_ | refine vc_label ?_)
  all_goals first
    | (refine ret_bool isRet_r rfl ?_; simp_all; done)
    | skip
  have hck : checkNb l0 = 0 := by assumption
  refine vc_loopI (ι := Nat × List Nb) (fun q => stOf [(0, AD (nbs q.2)), (4, .c (.ptr 4 0)), (30, AD (bls bs)), (31, AI bs.length), (32, AI q.1)] [(4, .box [.d (.int .i64 t)])])
    (fun q => q.1 ≤ bs.length ∧ checkNb q.2 = 0) (fun q => bs.length - q.1) (0, l0) ⟨Nat.zero_le _, hck⟩ ?_ ?_
  · exact le_of ⟨rfl, rfl, rfl, rfl, rfl, trivial⟩ ⟨rfl, trivial⟩ rfl
  · rintro ⟨k, l⟩ ⟨hk, hl⟩
    dsimp only at hk hl ⊢
    have hidx := idxf_spec l (fun x => decide (x.node = t))
    rw [fst_idx, idx_found hl] at hidx
    generalize hB : bs.getD k default = b
    cases hf : foundNb l t with
    | false =>
      rw [hf] at hidx
      have hidx' : FnS Try.prog 21 [AD (nbs l), .clo (predφ fun x => decide (x.node = t))] [] (AI (-1)) [] := hidx
      repeat' (first
        | (show VR _ _ _ (_ :: _) _ _ _; first | refine x_op rfl (by first | exact True.intro | omega) ?_ | (show VR _ _ _ (⟨_, .call ⟨.value _, _, _⟩, _, _, _, _⟩ :: _) _ _ _; first | refine vr_calldU (count_none l t _ hl hf) (gk rfl) rfl rfl rfl (by first | rfl | (simp only [wfRes, wfL, wfArgs, List.all_cons, List.all_nil, rowOf_blk]; rfl)) rfl (by first | exact newB_O | rfl) rfl ?_ | refine vr_callU [4] (hidx') (gk rfl) rfl (by (repeat' (first | exact .nil | refine .cons ?_ ?_ | exact .of0 (.c .d) | exact .of0 .ep | exact .clo | exact (counts1_fnc rfl) | exact .of0 (.c .nil) | exact .of0 (.c (cr_rowO (by simp) rfl (by first | rfl | omega) (fun _ => rfl))) | refine .of0 (.agg ?_) | exact .d | exact .nil | exact .of0 (.c (cr_row (by decide) rfl rfl (by repeat' (first | exact trivial | refine ⟨?_, ?_⟩ | rfl)))))); done) (by first | rfl | exact hfl_O (fun _ => rfl) | exact hfl_O2 rfl (fun _ => rfl)) rfl (by first | rfl | (simp only [wfRes, wfL, wfArgs, List.all_cons, List.all_nil, rowOf_blk]; rfl)) rfl (by first | exact newB_O | rfl) rfl ?_ | refine vr_callU [] (count_none l t _ hl hf) (gk rfl) rfl (by (repeat' (first | exact .nil | refine .cons ?_ ?_ | exact .of0 (.c .d) | exact .of0 .ep | exact .clo | exact (counts1_fnc rfl) | exact .of0 (.c .nil) | exact .of0 (.c (cr_rowO (by simp) rfl (by first | rfl | omega) (fun _ => rfl))) | refine .of0 (.agg ?_) | exact .d | exact .nil | exact .of0 (.c (cr_row (by decide) rfl rfl (by repeat' (first | exact trivial | refine ⟨?_, ?_⟩ | rfl)))))); done) (by first | rfl | exact hfl_O (fun _ => rfl) | exact hfl_O2 rfl (fun _ => rfl)) rfl (by first | rfl | (simp only [wfRes, wfL, wfArgs, List.all_cons, List.all_nil, rowOf_blk]; rfl)) rfl (by first | exact newB_O | rfl) rfl ?_) | (show VR _ _ _ (⟨_, .indexAddr _ _ _, _, _, _, _⟩ :: _) _ _ _; first | refine vr_index_rd (gk rfl) rfl rfl rfl rfl rfl (by omega) rfl ?_ | refine vr_index_rdP (gk rfl) rfl rfl rfl rfl rfl (by omega) rfl ?_ | refine vr_index_rdN (gk rfl) rfl rfl rfl rfl (by first | omega | decide) rfl ?_ | refine vr_index_rowO (gk rfl) rfl rfl rfl rfl rfl rfl (by omega) (by omega) rfl ?_ | refine vr_index_row (gk rfl) rfl rfl rfl rfl rfl rfl (by omega) (by omega) rfl ?_ | refine vr_index_rowN (gk rfl) rfl rfl rfl rfl rfl (by omega) (by first | rfl | exact rowOf_length.symm | (simp only [rowOf_length, List.length_set]; omega)) rfl ?_) | (show VR _ _ _ (⟨_, .call ⟨.builtin .len, _, _⟩, _, _, _, _⟩ :: _) _ _ _; first | refine vr_len_row (gk rfl) rfl rfl (by first | rfl | exact rowOf_length.symm | (simp only [rowOf_length, List.length_set]; omega)) rfl rfl ?_ | refine vr_len_sub (gk rfl) rfl rfl rfl ?_ | refine vr_len_full (gk rfl) rfl rfl rfl rfl ?_) | (show VR _ _ _ (⟨_, .nilCheck _, _, _, _, _⟩ :: _) _ _ _; first | refine vr_nilCheck_rp (gk rfl) rfl rfl ?_ | refine vr_nilCheck_ptr (gk rfl) rfl rfl ?_ | refine vr_nilCheck_ep (gk rfl) rfl rfl ?_) | (show VR _ _ _ (⟨_, .load _ _, _, _, _, _⟩ :: _) _ _ _; first | refine vr_load_rowO_agg (gk rfl) rfl rfl (by omega) rfl rfl rfl ?_ | refine vr_load_rowO (gk rfl) rfl rfl (by omega) rfl rfl rfl ?_ | refine vr_load_rowS_agg (gk rfl) rfl rfl (by omega) rfl rfl rfl ?_ | refine vr_load_rowS (gk rfl) rfl rfl (by omega) rfl rfl rfl ?_) | (show VR _ _ _ (⟨_, .store _ _ _, _, _, _, _⟩ :: _) _ _ _; first | refine vr_store_rowO (gk rfl) rfl rfl rfl (by omega) rfl rfl rfl ?_ | refine vr_store_rowS (gk rfl) rfl rfl rfl (by omega) rfl rfl rfl ?_) | (show VR _ _ _ (⟨_, .binOp _ _ _ _ _, _, _, _, _⟩ :: _) _ _ _; first | refine x_ariw rfl rfl rfl rfl rfl ?_) | (show VR _ _ _ (⟨_, .pick _ _ _, _, _, _, _⟩ :: _) _ _ _; first | refine vr_pick_true (gk rfl) rfl (by assumption) rfl rfl ?_ | refine vr_pick_false (gk rfl) rfl (by assumption) rfl rfl ?_) | refine x_gknow rfl (by assumption) ?_ | (refine x_gsplit rfl ?_ ?_ <;> intro h <;> have hq := h <;> (try simp only [decide_eq_true_eq, decide_eq_false_iff_not, Int.not_lt, Int.not_le, ne_eq, Decidable.not_not, Bool.not_eq_true', Bool.not_eq_false'] at hq)))
        | (show VR _ _ _ [] _ _ _; first | refine vr_nil ?_ | refine vr_nil_t (by kernel_rfl) ?_)
        | (show thenQ _ _ _ _; first | refine q_then_n ?_ | refine q_then_x ?_ | refine q_then_r ?_)
        | (show blockQ _ _ _ _; first | refine q_blk_n ?_ | refine q_blk_r ?_ | refine q_blk_x ?_ | refine q_blk_o rfl ?_)
        | refine vc_seq ?_
        | refine vc_region ?_ | refine vc_region_t ?_
        | (show VC _ (.cond _ _ _) _ _; first | refine vc_cond_t rfl ?_ | refine vc_cond_f rfl ?_ | refine x_know rfl (by assumption) ?_ | (refine x_cond rfl ?_ ?_ <;> intro h <;> have hq := h <;> (try simp only [decide_eq_true_eq, decide_eq_false_iff_not, Int.not_lt, Int.not_le, ne_eq, Decidable.not_not, Bool.not_eq_true', Bool.not_eq_false'] at hq)))
        | refine vc_ret ?_ | refine vc_exit ?_ | refine vc_block ?_ | refine vc_skip ?_ | refine vc_label ?_)
      all_goals first
        | (refine ret_bool isRet_r rfl ?_; rfl)
        | trace_state
    | true =>
      rw [hf] at hidx
      obtain ⟨hi, hnode⟩ := found_iff.1 hf
      obtain ⟨l', hlen', hchk', hget, hcount⟩ := count_step hl b hf
      have hxr := (nbErr_ok ((checkNb_ok hl).2 _ hi)).2
      have hcr := @cnt_range _ b hxr
      have hck' := check_spec l'
      rw [hchk'] at hck'
      have hnode' : (l'.getD (bsNb l t) default).node = t := by rw [hget, cnt_node]; exact hnode
      rw [← hget] at hcr
      have hfull := @cost_full (l'.getD (bsNb l t) default).att (l'.getD (bsNb l t) default).ack (by omega)
      have hbnd := @cost_bounds (l'.getD (bsNb l t) default).att (l'.getD (bsNb l t) default).ack (by omega)
      have hstep : 4 ≤ (l.getD (bsNb l t) default).att → (l.getD (bsNb l t) default).att < 255 →
          (b = true → costC (l'.getD (bsNb l t) default).att (l'.getD (bsNb l t) default).ack ≤ costC (l.getD (bsNb l t) default).att (l.getD (bsNb l t) default).ack) ∧
          (b = false → costC (l.getD (bsNb l t) default).att (l.getD (bsNb l t) default).ack ≤ costC (l'.getD (bsNb l t) default).att (l'.getD (bsNb l t) default).ack) := fun h4 h5 => by
        rw [hget]
        have e : ¬ (l.getD (bsNb l t) default).att = 255 := by omega
        constructor <;> (rintro rfl; unfold cnt; simp only [if_neg e, Bool.false_eq_true, if_true, if_false, Int.add_zero])
        · exact cost_up (by omega) h4
        · exact cost_down (by omega) h4
      generalize bsNb l t = i at *
      have hidx' : FnS Try.prog 21 [AD (nbs l), .clo (predφ fun x => decide (x.node = t))] [] (AI (i : Nat)) [] := hidx
      have hcount' : FnS Try.prog 25 [AD (nbs l), AI t, AB (bs.getD k default)] [] (.tup [.c (.row 24007 l.length), AI 0]) [(24007, .row 41 6 (rowOf Nb.enc l'))] := by rw [hB]; exact hcount
      have hc1 := cost_spec (l.getD i default).att (l.getD i default).ack (by omega)
      have hc2 := cost_spec (l'.getD i default).att (l'.getD i default).ack (by omega)
      have hdec : decide ((l.length : Int) ≠ (l.length : Int)) = false := by simp
      have hdec2 : decide ((l'.getD i default).node ≠ t) = false := by simp [-List.getD_eq_getElem?_getD, hnode']
      cases b
      all_goals
        simp only [forall_const, Bool.false_eq_true, Bool.true_eq_false, false_implies, true_and, and_true] at hstep
        repeat' (first
          | (show VR _ _ _ (_ :: _) _ _ _; first | refine x_op rfl (by first | exact True.intro | omega) ?_ | (show VR _ _ _ (⟨_, .call ⟨.value _, _, _⟩, _, _, _, _⟩ :: _) _ _ _; first | refine vr_calldU (hcount') (gk rfl) rfl rfl rfl (by first | rfl | (simp only [wfRes, wfL, wfArgs, List.all_cons, List.all_nil, rowOf_blk]; rfl)) rfl (by first | exact newB_O | rfl) rfl ?_ | refine vr_calldU (hc1) (gk rfl) rfl rfl rfl (by first | rfl | (simp only [wfRes, wfL, wfArgs, List.all_cons, List.all_nil, rowOf_blk]; rfl)) rfl (by first | exact newB_O | rfl) rfl ?_ | refine vr_calldU (hc2) (gk rfl) rfl rfl rfl (by first | rfl | (simp only [wfRes, wfL, wfArgs, List.all_cons, List.all_nil, rowOf_blk]; rfl)) rfl (by first | exact newB_O | rfl) rfl ?_ | refine vr_callU [4] (hidx') (gk rfl) rfl (by (repeat' (first | exact .nil | refine .cons ?_ ?_ | exact .of0 (.c .d) | exact .of0 .ep | exact .clo | exact (counts1_fnc rfl) | exact .of0 (.c .nil) | exact .of0 (.c (cr_rowO (by simp) rfl (by first | rfl | omega) (fun _ => rfl))) | refine .of0 (.agg ?_) | exact .d | exact .nil | exact .of0 (.c (cr_row (by decide) rfl rfl (by repeat' (first | exact trivial | refine ⟨?_, ?_⟩ | rfl)))))); done) (by first | rfl | exact hfl_O (fun _ => rfl) | exact hfl_O2 rfl (fun _ => rfl)) rfl (by first | rfl | (simp only [wfRes, wfL, wfArgs, List.all_cons, List.all_nil, rowOf_blk]; rfl)) rfl (by first | exact newB_O | rfl) rfl ?_ | refine vr_callU [] (hcount') (gk rfl) rfl (by (repeat' (first | exact .nil | refine .cons ?_ ?_ | exact .of0 (.c .d) | exact .of0 .ep | exact .clo | exact (counts1_fnc rfl) | exact .of0 (.c .nil) | exact .of0 (.c (cr_rowO (by simp) rfl (by first | rfl | omega) (fun _ => rfl))) | refine .of0 (.agg ?_) | exact .d | exact .nil | exact .of0 (.c (cr_row (by decide) rfl rfl (by repeat' (first | exact trivial | refine ⟨?_, ?_⟩ | rfl)))))); done) (by first | rfl | exact hfl_O (fun _ => rfl) | exact hfl_O2 rfl (fun _ => rfl)) rfl (by first | rfl | (simp only [wfRes, wfL, wfArgs, List.all_cons, List.all_nil, rowOf_blk]; rfl)) rfl (by first | exact newB_O | rfl) rfl ?_ | refine vr_callU [67007] (hck') (gk rfl) rfl (by (repeat' (first | exact .nil | refine .cons ?_ ?_ | exact .of0 (.c .d) | exact .of0 .ep | exact .clo | exact (counts1_fnc rfl) | exact .of0 (.c .nil) | exact .of0 (.c (cr_rowO (by simp) rfl (by first | rfl | omega) (fun _ => rfl))) | refine .of0 (.agg ?_) | exact .d | exact .nil | exact .of0 (.c (cr_row (by decide) rfl rfl (by repeat' (first | exact trivial | refine ⟨?_, ?_⟩ | rfl)))))); done) (by first | rfl | exact hfl_O (fun _ => rfl) | exact hfl_O2 rfl (fun _ => rfl)) rfl (by first | rfl | (simp only [wfRes, wfL, wfArgs, List.all_cons, List.all_nil, rowOf_blk]; rfl)) rfl (by first | exact newB_O | rfl) rfl ?_ | refine vr_callU [] (hc1) (gk rfl) rfl (by (repeat' (first | exact .nil | refine .cons ?_ ?_ | exact .of0 (.c .d) | exact .of0 .ep | exact .clo | exact (counts1_fnc rfl) | exact .of0 (.c .nil) | exact .of0 (.c (cr_rowO (by simp) rfl (by first | rfl | omega) (fun _ => rfl))) | refine .of0 (.agg ?_) | exact .d | exact .nil | exact .of0 (.c (cr_row (by decide) rfl rfl (by repeat' (first | exact trivial | refine ⟨?_, ?_⟩ | rfl)))))); done) (by first | rfl | exact hfl_O (fun _ => rfl) | exact hfl_O2 rfl (fun _ => rfl)) rfl (by first | rfl | (simp only [wfRes, wfL, wfArgs, List.all_cons, List.all_nil, rowOf_blk]; rfl)) rfl (by first | exact newB_O | rfl) rfl ?_ | refine vr_callU [] (hc2) (gk rfl) rfl (by (repeat' (first | exact .nil | refine .cons ?_ ?_ | exact .of0 (.c .d) | exact .of0 .ep | exact .clo | exact (counts1_fnc rfl) | exact .of0 (.c .nil) | exact .of0 (.c (cr_rowO (by simp) rfl (by first | rfl | omega) (fun _ => rfl))) | refine .of0 (.agg ?_) | exact .d | exact .nil | exact .of0 (.c (cr_row (by decide) rfl rfl (by repeat' (first | exact trivial | refine ⟨?_, ?_⟩ | rfl)))))); done) (by first | rfl | exact hfl_O (fun _ => rfl) | exact hfl_O2 rfl (fun _ => rfl)) rfl (by first | rfl | (simp only [wfRes, wfL, wfArgs, List.all_cons, List.all_nil, rowOf_blk]; rfl)) rfl (by first | exact newB_O | rfl) rfl ?_) | (show VR _ _ _ (⟨_, .indexAddr _ _ _, _, _, _, _⟩ :: _) _ _ _; first | refine vr_index_rd (gk rfl) rfl rfl rfl rfl rfl (by omega) rfl ?_ | refine vr_index_rdP (gk rfl) rfl rfl rfl rfl rfl (by omega) rfl ?_ | refine vr_index_rdN (gk rfl) rfl rfl rfl rfl (by first | omega | decide) rfl ?_ | refine vr_index_rowO (gk rfl) rfl rfl rfl rfl rfl rfl (by omega) (by omega) rfl ?_ | refine vr_index_row (gk rfl) rfl rfl rfl rfl rfl rfl (by omega) (by omega) rfl ?_ | refine vr_index_rowN (gk rfl) rfl rfl rfl rfl rfl (by omega) (by first | rfl | exact rowOf_length.symm | (simp only [rowOf_length, List.length_set]; omega)) rfl ?_) | (show VR _ _ _ (⟨_, .call ⟨.builtin .len, _, _⟩, _, _, _, _⟩ :: _) _ _ _; first | refine vr_len_row (gk rfl) rfl rfl (by first | rfl | exact rowOf_length.symm | (simp only [rowOf_length, List.length_set]; omega)) rfl rfl ?_ | refine vr_len_sub (gk rfl) rfl rfl rfl ?_ | refine vr_len_full (gk rfl) rfl rfl rfl rfl ?_) | (show VR _ _ _ (⟨_, .nilCheck _, _, _, _, _⟩ :: _) _ _ _; first | refine vr_nilCheck_rp (gk rfl) rfl rfl ?_ | refine vr_nilCheck_ptr (gk rfl) rfl rfl ?_ | refine vr_nilCheck_ep (gk rfl) rfl rfl ?_) | (show VR _ _ _ (⟨_, .load _ _, _, _, _, _⟩ :: _) _ _ _; first | refine vr_load_rowO_agg (gk rfl) rfl rfl (by omega) rfl rfl rfl ?_ | refine vr_load_rowO (gk rfl) rfl rfl (by omega) rfl rfl rfl ?_ | refine vr_load_rowS_agg (gk rfl) rfl rfl (by omega) rfl rfl rfl ?_ | refine vr_load_rowS (gk rfl) rfl rfl (by omega) rfl rfl rfl ?_) | (show VR _ _ _ (⟨_, .store _ _ _, _, _, _, _⟩ :: _) _ _ _; first | refine vr_store_rowO (gk rfl) rfl rfl rfl (by omega) rfl rfl rfl ?_ | refine vr_store_rowS (gk rfl) rfl rfl rfl (by omega) rfl rfl rfl ?_) | (show VR _ _ _ (⟨_, .binOp _ _ _ _ _, _, _, _, _⟩ :: _) _ _ _; first | refine x_ariw rfl rfl rfl rfl rfl ?_) | (show VR _ _ _ (⟨_, .pick _ _ _, _, _, _, _⟩ :: _) _ _ _; first | refine vr_pick_true (gk rfl) rfl (by assumption) rfl rfl ?_ | refine vr_pick_false (gk rfl) rfl (by assumption) rfl rfl ?_) | refine x_gknow rfl (by assumption) ?_ | (refine x_gsplit rfl ?_ ?_ <;> intro h <;> have hq := h <;> (try simp only [decide_eq_true_eq, decide_eq_false_iff_not, Int.not_lt, Int.not_le, ne_eq, Decidable.not_not, Bool.not_eq_true', Bool.not_eq_false'] at hq)))
          | (show VR _ _ _ [] _ _ _; first | refine vr_nil ?_ | refine vr_nil_t (by kernel_rfl) ?_)
          | (show thenQ _ _ _ _; first | refine q_then_n ?_ | refine q_then_x ?_ | refine q_then_r ?_)
          | (show blockQ _ _ _ _; first | refine q_blk_n ?_ | refine q_blk_r ?_ | refine q_blk_x ?_ | refine q_blk_o rfl ?_)
          | refine vc_seq ?_
          | refine vc_region ?_ | refine vc_region_t ?_
          | (show VC _ (.cond _ _ _) _ _; first | refine vc_cond_t rfl ?_ | refine vc_cond_f rfl ?_ | refine x_know rfl (by assumption) ?_ | (refine x_cond rfl ?_ ?_ <;> intro h <;> have hq := h <;> (try simp only [decide_eq_true_eq, decide_eq_false_iff_not, Int.not_lt, Int.not_le, ne_eq, Decidable.not_not, Bool.not_eq_true', Bool.not_eq_false'] at hq)))
          | refine vc_ret ?_ | refine vc_exit ?_ | refine vc_block ?_ | refine vc_skip ?_ | refine vc_label ?_)
        all_goals first
          | (refine ret_bool isRet_r rfl ?_; rfl)
          | (exfalso; omega)
          | (refine ⟨(k + 1, l'), ⟨by dsimp only; omega, hchk'⟩, by dsimp only; omega, le_gen (fun n => n) [67007] hS ⟨⟨_, rfl, .c (.frzOf (by simp) rfl hlen'.symm (fun _ => rfl))⟩, ⟨_, rfl, .c (.ptr rfl)⟩, ⟨_, rfl, .c .d⟩, ⟨_, rfl, .c .d⟩, ⟨_, rfl, .c .d⟩, trivial⟩ ⟨⟨_, rfl, .boxD rfl rfl⟩, trivial⟩ rfl rfl⟩; done)
          | (exfalso; have hf1 := hfull (by omega); clear hidx hidx' hcount hcount' hc1 hc2 hck'; simp_all; done)
          | (exfalso; exact Bool.noConfusion (hB.symm.trans ‹bs.getD k default = false›))
          | (exfalso; exact Bool.noConfusion (hB.symm.trans ‹bs.getD k default = true›))
end Go.Proofs

