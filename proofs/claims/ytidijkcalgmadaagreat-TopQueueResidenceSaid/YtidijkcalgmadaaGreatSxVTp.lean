/-
  What functions of the given program hand back, by walks over its code, and plain laws on that. No condition.
-/
import Derived.Test.YtidijkcalgmadaaGreatSxVTo
import Derived.Test.YtidijkcalgmadaaGreatSxLibB
import Derived.Test.YtidijkcalgmadaaGreatSxVTd
-- SXU
namespace Go.Proofs.T
open Go Go.Sx
set_option maxRecDepth 4000
set_option linter.unusedSimpArgs false
set_option linter.unusedVariables false
attribute [local irreducible] VR VC thenQ blockQ retL

/-! The reference's Add. -/
def takenB (l : List TC) (slot kind : Int) : Bool := l.any fun x => decide (x.slot = slot ∧ x.kind = kind)
theorem taken_spec (l : List TC) (slot kind : Int) : FnS Tryz.prog 83 [AD (tcs l), AI slot, AI kind] [] (AB (takenB l slot kind)) [] := by
  refine FnS.of_body (enters_of Tryz.func83 (by kernel_rfl) rfl) Tryz.func83 rfl Tryz.ntmps83 Tryz.results83 rfl rfl rfl rfl fun E hS => ?_
  refine vc_bound (t := 0) rfl fun hb => ?_
  repeat' (first
    | (show VR _ _ _ (_ :: _) _ _ _; first | refine x_opF rfl (by first | exact True.intro | omega) ?_)
    | (show VR _ _ _ [] _ _ _; first | refine vr_nil ?_)
    | (show thenQ _ _ _ _; first | refine q_then_n ?_)
    | refine vc_seq ?_
    | refine vc_region ?_
    | refine vc_block ?_
    | fail)
  refine vc_loopI (ι := Nat) (fun k => stOf [(0, AD (tcs l)), (1, AI slot), (2, AI kind), (7, AI k)] []) (fun k => k ≤ l.length ∧ ∀ i, i < k → (decide ((l.getD i default).slot = slot ∧ (l.getD i default).kind = kind)) = false) (fun k => l.length - k) 0 ⟨Nat.zero_le _, fun i hi => absurd hi (Nat.not_lt_zero _)⟩ ?_ ?_
  · refine le_gen0 (fun n => n) ?_ ?_ rfl (by first | rfl | (simp only [wfL, List.all_cons, List.all_nil, rowOf_blk]; rfl))
    all_goals repeat' (first | exact trivial | refine ⟨⟨_, rfl, ?_⟩, ?_⟩ | exact .c .d | fail)
  · intro k hk
    repeat' (first
      | (show VR _ _ _ (_ :: _) _ _ _; first | refine x_opF rfl (by first | exact True.intro | omega) ?_ | (show VR _ _ _ (⟨_, .indexAddr _ _ _, _, _, _, _⟩ :: _) _ _ _; first | refine vr_index_rd (gk rfl) rfl rfl rfl rfl rfl (by omega) rfl ?_) | (refine x_gsplit rfl ?_ ?_ <;> intro h <;> have hq := h <;> (try simp only [decide_eq_true_eq, decide_eq_false_iff_not, Int.not_lt, Int.not_le, ne_eq, Decidable.not_not, Bool.not_eq_true', Bool.not_eq_false'] at hq)))
      | (show VR _ _ _ [] _ _ _; first | refine vr_nil ?_)
      | (show thenQ _ _ _ _; first | refine q_then_n ?_ | refine q_then_x ?_ | refine q_then_r ?_)
      | (show blockQ _ _ _ _; first | refine q_blk_n ?_ | refine q_blk_r ?_ | refine q_blk_x ?_)
      | refine vc_seq ?_
      | refine vc_region ?_
      | (show VC _ (.cond _ _ _) _ _; first | refine vc_cond_f rfl ?_ | (refine x_cond rfl ?_ ?_ <;> intro h <;> have hq := h <;> (try simp only [decide_eq_true_eq, decide_eq_false_iff_not, Int.not_lt, Int.not_le, ne_eq, Decidable.not_not, Bool.not_eq_true', Bool.not_eq_false'] at hq)))
      | refine vc_ret ?_ | refine vc_exit ?_ | refine vc_block ?_ | refine vc_skip ?_
      | fail)
    all_goals first
      | (refine ret_bool isRet_r rfl ?_
         first
         | (rw [takenB, any_hit (k := k) (by omega) (by simp_all)]; done)
         | (rw [takenB, any_none (fun i hi => hk.2 i (by omega))]; done))
      | (refine ⟨k + 1, ⟨by omega, fun i hi => ?_⟩, by omega, ?_⟩
         · by_cases hik : i < k
           · exact hk.2 i hik
           · have : i = k := by omega
             subst this
             simp_all
         · refine le_gen0 (fun n => n) ?_ ?_ rfl (by first | rfl | (simp only [wfL, List.all_cons, List.all_nil, rowOf_blk]; rfl))
           all_goals repeat' (first | exact trivial | refine ⟨⟨_, rfl, ?_⟩, ?_⟩ | exact .c .d | fail)
         )
      | trace_state
def putL (l : List TC) (c : TC) : List TC := l.takeWhile (fun x => lessB x c) ++ c :: l.dropWhile (fun x => lessB x c)
theorem put_spec (l : List TC) (c : TC) (hl : l.length ≤ 100000) : FnS Tryz.prog 84 [AD (tcs l), tcA c] [] (AD (tcs (putL l c))) [] := by
  refine FnS.of_body (enters_of Tryz.func84 (by kernel_rfl) rfl) Tryz.func84 rfl Tryz.ntmps84 Tryz.results84 rfl rfl rfl rfl fun E hS => ?_
  refine vc_retL ?_
  repeat' (first
    | (show VR _ _ _ (_ :: _) _ _ _; first | refine x_opF rfl (by first | exact True.intro | omega) ?_)
    | (show VR _ _ _ [] _ _ _; first | refine vr_nil ?_)
    | (show thenQ _ _ _ _; first | refine q_then_n ?_)
    | refine vc_seq ?_
    | refine vc_region ?_
    | refine vc_block ?_
    | fail)
  refine VC.le (le_nil (t := 5) (nm := 44) (T := 103) (sz := 6) rfl rfl) ?_
  refine vc_loopI (ι := Nat) (fun k => stOf [(0, AD (tcs l)), (3, .c (.ptr 3 0)), (5, .c (.row 44 (l.take k).length)), (6, AI k)] [(3, .box c.cs), (44, .row 103 6 (rowOf TC.enc (l.take k)))]) (fun k => k ≤ l.length ∧ ∀ i, i < k → lessB (l.getD i default) c = true) (fun k => l.length - k) 0 ⟨Nat.zero_le _, fun i hi => absurd hi (Nat.not_lt_zero _)⟩ ?_ ?_
  · refine le_gen0 (fun n => n) ?_ ?_ rfl (by first | rfl | (simp only [wfL, List.all_cons, List.all_nil, rowOf_blk]; rfl))
    all_goals repeat' (first | exact trivial | refine ⟨⟨_, rfl, ?_⟩, ?_⟩ | exact .c .d | exact .c (.ptr rfl) | exact .c (.row rfl rfl) | exact .boxD rfl rfl | exact .rowD rfl rowOf_isD | fail)
  · rintro k ⟨hk, hall⟩
    have hkl : (l.take k).length = k := by rw [List.length_take]; omega
    repeat' (first
      | (show VR _ _ _ (_ :: _) _ _ _; first | refine x_opF rfl (by first | exact True.intro | omega) ?_ | (show VR _ _ _ (⟨_, .call ⟨.value _, _, _⟩, _, _, _, _⟩ :: _) _ _ _; first | refine vr_calldU (r_less_spec _ c) (gk rfl) rfl rfl rfl (by first | rfl | (simp only [wfRes, wfL, wfArgs, List.all_cons, List.all_nil, rowOf_blk]; rfl)) rfl (by first | exact newB_O | rfl) rfl ?_) | (show VR _ _ _ (⟨_, .indexAddr _ _ _, _, _, _, _⟩ :: _) _ _ _; first | refine vr_index_rd (gk rfl) rfl rfl rfl rfl rfl (by omega) rfl ?_) | (show VR _ _ _ (⟨_, .call ⟨.builtin .append, _, _⟩, _, _, _, _⟩ :: _) _ _ _; first | refine vr_append0 (gk rfl) rfl rfl rfl (by first | rfl | exact rowOf_length.symm | (simp only [rowOf_length, List.length_set, List.length_replicate, List.length_append, List.length_take, List.length_cons, List.length_nil, List.length_map, List.length_drop, List.length_range] <;> omega)) (by first | exact .row rfl (by first | rfl | exact rowOf_length.symm) | exact .rd | exact .nils) rfl rfl rfl (by (try dsimp only); omega) rfl rfl ?_) | (show VR _ _ _ (⟨_, .slice _ _ _ _ _, _, _, _, _⟩ :: _) _ _ _; first | refine vr_slice_rd (gk rfl) rfl rfl rfl (by first | exact .no | exact .int rfl rfl | exact .nat rfl (by omega)) (by first | exact .no | exact .int rfl rfl | exact .nat rfl (by omega)) (by omega) (by omega) rfl ?_) | (refine x_gsplit rfl ?_ ?_ <;> intro h <;> have hq := h <;> (try simp only [decide_eq_true_eq, decide_eq_false_iff_not, Int.not_lt, Int.not_le, ne_eq, Decidable.not_not, Bool.not_eq_true', Bool.not_eq_false'] at hq)))
      | (show VR _ _ _ [] _ _ _; first | refine vr_nil ?_ | refine vr_nil_t (by kernel_rfl) ?_)
      | (show thenQ _ _ _ _; first | refine q_then_n ?_ | refine q_then_x ?_)
      | (show blockQ _ _ _ _; first | refine q_blk_n ?_ | refine q_blk_x ?_)
      | refine vc_seq ?_
      | refine vc_region ?_ | refine vc_region_t ?_
      | (show VC _ (.cond _ _ _) _ _; first | refine vc_cond_f rfl ?_ | (refine x_cond rfl ?_ ?_ <;> intro h <;> have hq := h <;> (try simp only [decide_eq_true_eq, decide_eq_false_iff_not, Int.not_lt, Int.not_le, ne_eq, Decidable.not_not, Bool.not_eq_true', Bool.not_eq_false'] at hq)))
      | refine vc_ret ?_ | refine vc_exit ?_ | refine vc_block ?_ | refine vc_skip ?_
      | fail)
    · refine ⟨k + 1, ⟨by omega, fun i hi => ?_⟩, by omega, ?_⟩
      · by_cases hik : i < k
        · exact hall i hik
        · have : i = k := by omega
          subst this; exact hq
      · rw [take_getD (by omega)]
        refine le_gen0 (fun n => if n = 44 then 27 else n) ?_ ?_ rfl (by first | rfl | (simp only [wfL, List.all_cons, List.all_nil, rowOf_blk]; rfl))
        all_goals repeat' (first | exact trivial | refine ⟨⟨_, rfl, ?_⟩, ?_⟩ | exact .c .d | exact .c (.ptr rfl) | (refine .c (.row rfl ?_); ((try dsimp only); first | rfl | omega | (simp only [rowOf_length, List.length_set, List.length_append, List.length_take, List.length_drop, List.length_cons, List.length_nil, List.length_map, List.length_replicate, List.length_range] <;> omega)); done) | exact .boxD rfl rfl | (refine .rowD ?_ rowOf_isD; rw [rowOf_append]; rfl) | fail)
    all_goals
      obtain ⟨e1, e2⟩ := takeWhile_at (l := l) (p := fun x => lessB x c) (q := k) hall hk (by intro hk'; first | exact hq | omega)
      refine retL_of (le_gen (l := [(4, AD (tcs (putL l c)))]) (b := []) (fun n => n) [36] hS ?_ ?_ rfl (by first | rfl | (simp only [wfL, List.all_cons, List.all_nil, rowOf_blk]; rfl))) (ret_d isRet_r rfl rfl)
      all_goals repeat' (first | exact trivial | refine ⟨⟨_, rfl, ?_⟩, ?_⟩ | fail)
      refine .c (.frzEq (by simp) rfl ?_ ?_ (fun _ => rfl))
      · rw [putL, e1, e2]
        exact (congrArg (rowOf TC.enc (l.take k) ++ [(TC.enc c).map C.d] ++ ·) (rd_rows (enc := TC.enc) (sz := 6) (fun _ => rfl) l k (l.length - k) (by omega))).trans (by rw [show (l.drop k).take (l.length - k) = l.drop k from List.take_of_length_le (by simp), rowOf_append, List.append_assoc]; rfl)
      · rw [putL, e1, e2]; simp; omega
/-- What the reference puts together. -/
def noT : Tb := ⟨0, 0, []⟩
def addR (t : Tb) (c : TC) : Tb × Int := if checkT t ≠ 0 then (noT, 1) else if formE c t.node t.len ≠ 0 then (noT, formE c t.node t.len) else if takenB t.cells c.slot c.kind = true then (noT, 16)
  else if t.cells.length = 512 then (noT, 8) else (⟨t.node, t.len, putL t.cells c⟩, 0)
set_option maxHeartbeats 1000000 in
theorem r_add_spec (t : Tb) (c : TC) : FnS Tryz.prog 29 [tbA t, tcA c] [] (.tup [tbA (addR t c).1, AI (addR t c).2]) [] := by
  have hck := r_checkT_spec t
  have hfm := r_cell_spec t c
  refine FnS.of_body (enters_of Tryz.func29 (by kernel_rfl) rfl) Tryz.func29 rfl Tryz.ntmps29 Tryz.results29 rfl rfl rfl rfl fun E hS => ?_
  refine vc_retL ?_
  by_cases hc : checkT t = 0
  · rw [hc] at hck
    have hl := checkT_len hc
    by_cases hf : formE c t.node t.len = 0
    · rw [hf] at hfm
      have e : addR t c = if takenB t.cells c.slot c.kind = true then (noT, 16) else if t.cells.length = 512 then (noT, 8) else (⟨t.node, t.len, putL t.cells c⟩, 0) := by rw [addR, if_neg (by omega), if_neg (by omega)]
      repeat' (first
        | (show VR _ _ _ (_ :: _) _ _ _; first | refine x_opF rfl (by first | exact True.intro | omega) ?_ | (show VR _ _ _ (⟨_, .call ⟨.value _, _, _⟩, _, _, _, _⟩ :: _) _ _ _; first | refine vr_calldU (hck) (gk rfl) rfl rfl rfl (by first | rfl | (simp only [wfRes, wfL, wfArgs, List.all_cons, List.all_nil, rowOf_blk]; rfl)) rfl (by first | exact newB_O | rfl) rfl ?_ | refine vr_calldU (hfm) (gk rfl) rfl rfl rfl (by first | rfl | (simp only [wfRes, wfL, wfArgs, List.all_cons, List.all_nil, rowOf_blk]; rfl)) rfl (by first | exact newB_O | rfl) rfl ?_ | refine vr_calldU (taken_spec t.cells c.slot c.kind) (gk rfl) rfl rfl rfl (by first | rfl | (simp only [wfRes, wfL, wfArgs, List.all_cons, List.all_nil, rowOf_blk]; rfl)) rfl (by first | exact newB_O | rfl) rfl ?_ | refine vr_calldU (put_spec t.cells c (by omega)) (gk rfl) rfl rfl rfl (by first | rfl | (simp only [wfRes, wfL, wfArgs, List.all_cons, List.all_nil, rowOf_blk]; rfl)) rfl (by first | exact newB_O | rfl) rfl ?_))
        | (show VR _ _ _ [] _ _ _; first | refine vr_nil ?_ | refine vr_nil_t (by kernel_rfl) ?_)
        | (show thenQ _ _ _ _; first | refine q_then_n ?_ | refine q_then_r ?_)
        | refine vc_seq ?_
        | refine vc_region ?_ | refine vc_region_t ?_
        | (show VC _ (.cond _ _ _) _ _; first | refine vc_cond_f rfl ?_ | (refine x_cond rfl ?_ ?_ <;> intro h <;> have hq := h <;> (try simp only [decide_eq_true_eq, decide_eq_false_iff_not, Int.not_lt, Int.not_le, ne_eq, Decidable.not_not, Bool.not_eq_true', Bool.not_eq_false'] at hq)))
        | refine vc_ret ?_ | refine vc_skip ?_
        | fail)
      · rw [if_pos hq] at e
        rw [e]
        refine retL_of (le_gen0 (l := [(4, .c (.ptr 4 0)), (5, AI 16)]) (b := [(4, .box noT.cs)]) (fun n => n) ?_ ?_ rfl (by first | rfl | (simp only [wfL, List.all_cons, List.all_nil, rowOf_blk]; rfl))) (ret_agg_dL isRet_r rfl rfl rfl rfl rfl rfl rfl)
        all_goals repeat' (first | exact trivial | refine ⟨⟨_, rfl, ?_⟩, ?_⟩ | exact .c .d | exact .c (.ptr rfl) | refine .box ?_ | exact .nil | refine .cons ?_ ?_ | exact .d | fail)
      · rw [if_neg (by simp [*]), if_pos (by omega)] at e
        rw [e]
        refine retL_of (le_gen0 (l := [(4, .c (.ptr 4 0)), (5, AI 8)]) (b := [(4, .box noT.cs)]) (fun n => n) ?_ ?_ rfl (by first | rfl | (simp only [wfL, List.all_cons, List.all_nil, rowOf_blk]; rfl))) (ret_agg_dL isRet_r rfl rfl rfl rfl rfl rfl rfl)
        all_goals repeat' (first | exact trivial | refine ⟨⟨_, rfl, ?_⟩, ?_⟩ | exact .c .d | exact .c (.ptr rfl) | refine .box ?_ | exact .nil | refine .cons ?_ ?_ | exact .d | fail)
      · rw [if_neg (by simp [*]), if_neg (by omega)] at e
        rw [e]
        refine retL_of (le_gen0 (l := [(4, .c (.ptr 4 0)), (5, AI 0)]) (b := [(4, .box (Tb.cs ⟨t.node, t.len, putL t.cells c⟩))]) (fun n => n) ?_ ?_ rfl (by first | rfl | (simp only [wfL, List.all_cons, List.all_nil, rowOf_blk]; rfl))) (ret_agg_dL isRet_r rfl rfl rfl rfl rfl rfl rfl)
        all_goals repeat' (first | exact trivial | refine ⟨⟨_, rfl, ?_⟩, ?_⟩ | exact .c .d | exact .c (.ptr rfl) | exact .boxD rfl rfl | fail)
    · have e : addR t c = (noT, formE c t.node t.len) := by rw [addR, if_neg (by omega), if_pos hf]
      have hd : decide (formE c t.node t.len ≠ 0) = true := by simp [hf]
      rw [e]
      repeat' (first
        | (show VR _ _ _ (_ :: _) _ _ _; first | refine x_opF rfl (by first | exact True.intro | omega) ?_ | (show VR _ _ _ (⟨_, .call ⟨.value _, _, _⟩, _, _, _, _⟩ :: _) _ _ _; first | refine vr_calldU (hck) (gk rfl) rfl rfl rfl (by first | rfl | (simp only [wfRes, wfL, wfArgs, List.all_cons, List.all_nil, rowOf_blk]; rfl)) rfl (by first | exact newB_O | rfl) rfl ?_ | refine vr_calldU (hfm) (gk rfl) rfl rfl rfl (by first | rfl | (simp only [wfRes, wfL, wfArgs, List.all_cons, List.all_nil, rowOf_blk]; rfl)) rfl (by first | exact newB_O | rfl) rfl ?_))
        | (show VR _ _ _ [] _ _ _; first | refine vr_nil ?_)
        | (show thenQ _ _ _ _; first | refine q_then_n ?_ | refine q_then_r ?_)
        | refine vc_seq ?_
        | refine vc_region ?_
        | (show VC _ (.cond _ _ _) _ _; first | refine vc_cond_t rfl ?_ | refine vc_cond_f rfl ?_ | refine x_know rfl (by assumption) ?_)
        | refine vc_ret ?_ | refine vc_skip ?_
        | fail)
      refine retL_of (le_gen0 (l := [(4, .c (.ptr 4 0)), (5, AI (formE c t.node t.len))]) (b := [(4, .box noT.cs)]) (fun n => n) ?_ ?_ rfl (by first | rfl | (simp only [wfL, List.all_cons, List.all_nil, rowOf_blk]; rfl))) (ret_agg_dL isRet_r rfl rfl rfl rfl rfl rfl rfl)
      all_goals repeat' (first | exact trivial | refine ⟨⟨_, rfl, ?_⟩, ?_⟩ | exact .c .d | exact .c (.ptr rfl) | refine .box ?_ | exact .nil | refine .cons ?_ ?_ | exact .d | fail)
  · have e : addR t c = (noT, 1) := by rw [addR, if_pos hc]
    have hd : decide (checkT t ≠ 0) = true := by simp [hc]
    rw [e]
    repeat' (first
      | (show VR _ _ _ (_ :: _) _ _ _; first | refine x_opF rfl (by first | exact True.intro | omega) ?_ | (show VR _ _ _ (⟨_, .call ⟨.value _, _, _⟩, _, _, _, _⟩ :: _) _ _ _; first | refine vr_calldU (hck) (gk rfl) rfl rfl rfl (by first | rfl | (simp only [wfRes, wfL, wfArgs, List.all_cons, List.all_nil, rowOf_blk]; rfl)) rfl (by first | exact newB_O | rfl) rfl ?_))
      | (show VR _ _ _ [] _ _ _; first | refine vr_nil ?_)
      | (show thenQ _ _ _ _; first | refine q_then_n ?_ | refine q_then_r ?_)
      | refine vc_seq ?_
      | refine vc_region ?_
      | (show VC _ (.cond _ _ _) _ _; first | refine vc_cond_t rfl ?_ | refine x_know rfl (by assumption) ?_)
      | refine vc_ret ?_
      | fail)
    refine retL_of (le_gen0 (l := [(4, .c (.ptr 4 0)), (5, AI 1)]) (b := [(4, .box noT.cs)]) (fun n => n) ?_ ?_ rfl (by first | rfl | (simp only [wfL, List.all_cons, List.all_nil, rowOf_blk]; rfl))) (ret_agg_dL isRet_r rfl rfl rfl rfl rfl rfl rfl)
    all_goals repeat' (first | exact trivial | refine ⟨⟨_, rfl, ?_⟩, ?_⟩ | exact .c .d | exact .c (.ptr rfl) | refine .box ?_ | exact .nil | refine .cons ?_ ?_ | exact .d | fail)
end Go.Proofs.T


