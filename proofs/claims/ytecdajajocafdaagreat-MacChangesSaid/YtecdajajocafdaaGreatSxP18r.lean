/-
  What functions of the given program hand back, by walks over its code, and plain laws on that. No condition.
-/
import Derived.Test.YtecdajajocafdaaGreatSxP18q
-- SXS
-- SXM
-- SXN
namespace Go.Proofs
open Go Go.Sx Go.Proofs.T Go.Proofs.Q
set_option maxRecDepth 4000
set_option linter.unusedSimpArgs false
set_option linter.unusedVariables false
attribute [local irreducible] VR VC thenQ blockQ retL
theorem plan_a (s : Sta) (slot : Int) : (planM s slot (atM s.tb slot).1 (atM s.tb slot).2).a = actM s slot (atM s.tb slot).1 := by
  cases h : (atM s.tb slot).2 with
  | false => rw [at_none h, actM_noC]; rfl
  | true => rfl
set_option maxHeartbeats 1000000 in
theorem r_act_spec (s : Sta) (slot : Int) : FnS Tryz.prog 17 [stA s, AI slot] [] (.tup [acA (actS s slot).1, AI (actS s slot).2]) [] := by
  have hc := r_checkS_spec s
  refine FnS.of_body (enters_of Tryz.func17 (by kernel_rfl) rfl) Tryz.func17 rfl Tryz.ntmps17 Tryz.results17 rfl rfl rfl rfl fun E hS => ?_
  by_cases hck : checkS s = 0
  · rw [hck] at hc
    by_cases hs : slot < 0 ∨ 109951162 < slot
    · have e : actS s slot = (zAc, 2) := by rw [actS, if_neg (by omega), if_pos hs]
      rw [e]
      rcases Int.lt_or_le slot 0 with h0 | h0
      · have d1 : decide (slot < 0) = true := decide_eq_true h0
        repeat' (first
          | (show VR _ _ _ (_ :: _) _ _ _; first | refine x_opF rfl (by first | exact True.intro | omega) ?_ | (show VR _ _ _ (⟨_, .call ⟨.value _, _, _⟩, _, _, _, _⟩ :: _) _ _ _; first | refine vr_calldU (hc) (gk rfl) rfl rfl rfl (by first | rfl | (simp only [wfRes, wfL, wfArgs, wfs, mpO_namesB, mpO_namesI]; rfl)) rfl (by first | exact newB_nil | exact newB_O | ((simp only [newB, List.map_cons, List.map_nil, Blk.shift, rowOf_shift]) <;> rfl) | rfl) rfl ?_) | refine x_gknow rfl (by assumption) ?_)
          | (show VR _ _ _ [] _ _ _; first | refine vr_nil ?_)
          | (show thenQ _ _ _ _; first | refine q_then_n ?_ | refine q_then_r ?_)
          | refine vc_seq ?_
          | refine vc_region ?_
          | (show VC _ (.cond _ _ _) _ _; first | refine vc_cond_t rfl ?_ | refine vc_cond_f rfl ?_)
          | refine vc_ret ?_ | refine vc_skip ?_
          | fail)
        exact ret_agg_dL isRet_r rfl rfl rfl rfl rfl rfl rfl
      · have d1 : decide (slot < 0) = false := decide_eq_false (by omega)
        have d2 : decide (109951162 < slot) = true := decide_eq_true (by omega)
        repeat' (first
          | (show VR _ _ _ (_ :: _) _ _ _; first | refine x_opF rfl (by first | exact True.intro | omega) ?_ | (show VR _ _ _ (⟨_, .call ⟨.value _, _, _⟩, _, _, _, _⟩ :: _) _ _ _; first | refine vr_calldU (hc) (gk rfl) rfl rfl rfl (by first | rfl | (simp only [wfRes, wfL, wfArgs, wfs, mpO_namesB, mpO_namesI]; rfl)) rfl (by first | exact newB_nil | exact newB_O | ((simp only [newB, List.map_cons, List.map_nil, Blk.shift, rowOf_shift]) <;> rfl) | rfl) rfl ?_) | refine x_gknow rfl (by assumption) ?_)
          | (show VR _ _ _ [] _ _ _; first | refine vr_nil ?_)
          | (show thenQ _ _ _ _; first | refine q_then_n ?_ | refine q_then_r ?_)
          | refine vc_seq ?_
          | refine vc_region ?_
          | (show VC _ (.cond _ _ _) _ _; first | refine vc_cond_t rfl ?_ | refine vc_cond_f rfl ?_ | refine x_know rfl (by assumption) ?_)
          | refine vc_ret ?_ | refine vc_skip ?_
          | fail)
        exact ret_agg_dL isRet_r rfl rfl rfl rfl rfl rfl rfl
    · have e : actS s slot = (actM s slot (atM s.tb slot).1, 0) := by rw [actS, if_neg (by omega), if_neg hs]
      have d1 : decide (slot < 0) = false := decide_eq_false (by omega)
      have d2 : decide (109951162 < slot) = false := decide_eq_false (by omega)
      rw [e, ← plan_a]
      repeat' (first
        | (show VR _ _ _ (_ :: _) _ _ _; first | refine x_opF rfl (by first | exact True.intro | omega) ?_ | (show VR _ _ _ (⟨_, .call ⟨.value _, _, _⟩, _, _, _, _⟩ :: _) _ _ _; first | refine vr_calldU (hc) (gk rfl) rfl rfl rfl (by first | rfl | (simp only [wfRes, wfL, wfArgs, wfs, mpO_namesB, mpO_namesI]; rfl)) rfl (by first | exact newB_nil | exact newB_O | ((simp only [newB, List.map_cons, List.map_nil, Blk.shift, rowOf_shift]) <;> rfl) | rfl) rfl ?_ | refine vr_calldU (r_planned_spec s slot hck) (gk rfl) rfl rfl rfl (by first | rfl | (simp only [wfRes, wfL, wfArgs, wfs, mpO_namesB, mpO_namesI]; rfl)) rfl (by first | exact newB_nil | exact newB_O | ((simp only [newB, List.map_cons, List.map_nil, Blk.shift, rowOf_shift]) <;> rfl) | rfl) rfl ?_) | (show VR _ _ _ (⟨_, .field _ _ _, _, _, _, _⟩ :: _) _ _ _; first | refine vr_field_agg (gk rfl) rfl rfl rfl rfl rfl ?_) | refine x_gknow rfl (by assumption) ?_)
        | (show VR _ _ _ [] _ _ _; first | refine vr_nil ?_)
        | (show thenQ _ _ _ _; first | refine q_then_n ?_)
        | refine vc_seq ?_
        | refine vc_region ?_
        | (show VC _ (.cond _ _ _) _ _; first | refine vc_cond_f rfl ?_ | refine x_know rfl (by assumption) ?_)
        | refine vc_ret ?_ | refine vc_skip ?_
        | fail)
      exact ret_agg_dL isRet_r rfl rfl rfl rfl rfl rfl rfl
  · have e : actS s slot = (zAc, 1) := by rw [actS, if_pos hck]
    have hd : decide (checkS s ≠ 0) = true := by simp [hck]
    rw [e]
    repeat' (first
      | (show VR _ _ _ (_ :: _) _ _ _; first | refine x_opF rfl (by first | exact True.intro | omega) ?_ | (show VR _ _ _ (⟨_, .call ⟨.value _, _, _⟩, _, _, _, _⟩ :: _) _ _ _; first | refine vr_calldU (hc) (gk rfl) rfl rfl rfl (by first | rfl | (simp only [wfRes, wfL, wfArgs, wfs, mpO_namesB, mpO_namesI]; rfl)) rfl (by first | exact newB_nil | exact newB_O | ((simp only [newB, List.map_cons, List.map_nil, Blk.shift, rowOf_shift]) <;> rfl) | rfl) rfl ?_))
      | (show VR _ _ _ [] _ _ _; first | refine vr_nil ?_)
      | (show thenQ _ _ _ _; first | refine q_then_n ?_ | refine q_then_r ?_)
      | refine vc_seq ?_
      | refine vc_region ?_
      | (show VC _ (.cond _ _ _) _ _; first | refine vc_cond_t rfl ?_ | refine x_know rfl (by assumption) ?_)
      | refine vc_ret ?_
      | fail)
    exact ret_agg_dL isRet_r rfl rfl rfl rfl rfl rfl rfl
def dropM (s : Sta) : Sta := if hasB s.qu.packets s.trying = false then { s with trying := -1, tries := 0 } else s
theorem drop_settle {s t : Sta} (h : tryingB s = true) (h1 : t.trying = s.trying) (h2 : t.tries = s.tries) : dropM t = settleM t := by
  have h := of_decide_eq_true h
  unfold dropM settleM
  rcases h with ⟨h3, h4⟩ | ⟨h3, _⟩
  · rw [if_neg (c := 0 ≤ t.trying ∧ _) (fun h => by have := h.1; omega)]
    split
    · obtain ⟨a1, a2, a3, a4, a5, a6, a7, a8, a9, a10, a11⟩ := t
      simp only at h1 h2
      subst h1 h2
      rw [h3, h4]
    · rfl
  · have : 0 ≤ t.trying := by omega
    split
    · rename_i h5; rw [if_pos ⟨this, h5⟩]
    · rename_i h5; rw [if_neg (fun h => h5 h.2)]
theorem r_dropped_spec (s : Sta) : FnS Tryz.prog 84 [stA s] [] (stA (dropM s)) [] := by
  have hix := index_spec s.qu.packets s.trying
  have ha := fstO_any s.qu.packets (fun x => decide (x.id = s.trying))
  refine FnS.of_body (enters_of Tryz.func84 (by kernel_rfl) rfl) Tryz.func84 rfl Tryz.ntmps84 Tryz.results84 rfl rfl rfl rfl fun E hS => ?_
  cases hf : fstO s.qu.packets (fun x => decide (x.id = s.trying)) with
  | none =>
    rw [hf] at hix ha
    have hix' : FnS Tryz.prog 48 [AD (pks s.qu.packets), AI s.trying] [] (AI (-1)) [] := hix
    have e : dropM s = { s with trying := -1, tries := 0 } := if_pos (by rw [hasB, ← ha]; rfl)
    rw [e]
    repeat' (first
      | (show VR _ _ _ (_ :: _) _ _ _; first | refine x_opF rfl (by first | exact True.intro | omega) ?_ | (show VR _ _ _ (⟨_, .call ⟨.value _, _, _⟩, _, _, _, _⟩ :: _) _ _ _; first | refine vr_calldU (hix') (gk rfl) rfl rfl rfl (by first | rfl | (simp only [wfRes, wfL, wfArgs, wfs, mpO_namesB, mpO_namesI]; rfl)) rfl (by first | exact newB_nil | exact newB_O | ((simp only [newB, List.map_cons, List.map_nil, Blk.shift, rowOf_shift]) <;> rfl) | rfl) rfl ?_))
      | (show VR _ _ _ [] _ _ _; first | refine vr_nil ?_)
      | (show thenQ _ _ _ _; first | refine q_then_n ?_)
      | refine vc_seq ?_
      | refine vc_region ?_
      | (show VC _ (.cond _ _ _) _ _; first | refine vc_cond_t rfl ?_)
      | refine vc_ret ?_
      | fail)
    exact ret_aggL isRet_r rfl rfl rfl rfl rfl
  | some i =>
    rw [hf] at hix ha
    have hix' : FnS Tryz.prog 48 [AD (pks s.qu.packets), AI s.trying] [] (AI (i : Nat)) [] := hix
    have e : dropM s = s := if_neg (by rw [hasB, ← ha]; simp [oI])
    rw [e]
    repeat' (first
      | (show VR _ _ _ (_ :: _) _ _ _; first | refine x_opF rfl (by first | exact True.intro | omega) ?_ | (show VR _ _ _ (⟨_, .call ⟨.value _, _, _⟩, _, _, _, _⟩ :: _) _ _ _; first | refine vr_calldU (hix') (gk rfl) rfl rfl rfl (by first | rfl | (simp only [wfRes, wfL, wfArgs, wfs, mpO_namesB, mpO_namesI]; rfl)) rfl (by first | exact newB_nil | exact newB_O | ((simp only [newB, List.map_cons, List.map_nil, Blk.shift, rowOf_shift]) <;> rfl) | rfl) rfl ?_))
      | (show VR _ _ _ [] _ _ _; first | refine vr_nil ?_)
      | (show thenQ _ _ _ _; first | refine q_then_n ?_)
      | refine vc_seq ?_
      | refine vc_region ?_
      | (show VC _ (.cond _ _ _) _ _; first | refine vc_cond_f rfl ?_)
      | refine vc_ret ?_ | refine vc_skip ?_
      | fail)
    all_goals first
      | (exfalso; omega)
      | exact ret_aggL isRet_r rfl rfl rfl rfl rfl
set_option maxHeartbeats 2000000 in
theorem r_mput_spec (s : Sta) (p : Pk) : FnS Tryz.prog 28 [stA s, pkA p] [] (.tup [stA (putS s p).1, AD (pks (putS s p).2.1), AI (putS s p).2.2]) [] := by
  have hck := r_checkS_spec s
  refine FnS.of_body (enters_of Tryz.func28 (by kernel_rfl) rfl) Tryz.func28 rfl Tryz.ntmps28 Tryz.results28 rfl rfl rfl rfl fun E hS => ?_
  refine vc_retL ?_
  by_cases hc : checkS s = 0
  · rw [hc] at hck
    by_cases he : (putQ s.qu p).2.2 = 0
    · by_cases ht : p.to = s.tb.node
      · have e : putS s p = (noS, [], 12) := by rw [putS, if_neg (by omega), if_neg (by omega), if_pos ht]
        have d1 : decide ((putQ s.qu p).2.2 ≠ 0) = false := decide_eq_false (by omega)
        have d2 : decide (p.to = s.tb.node) = true := decide_eq_true ht
        rw [e]
        repeat' (first
          | (show VR _ _ _ (_ :: _) _ _ _; first | refine x_opF rfl (by first | exact True.intro | omega) ?_ | (show VR _ _ _ (⟨_, .call ⟨.value _, _, _⟩, _, _, _, _⟩ :: _) _ _ _; first | refine vr_calldU (hck) (gk rfl) rfl rfl rfl (by first | rfl | (simp only [wfRes, wfL, wfArgs, wfs, mpO_namesB, mpO_namesI]; rfl)) rfl (by first | exact newB_nil | exact newB_O | ((simp only [newB, List.map_cons, List.map_nil, Blk.shift, rowOf_shift]) <;> rfl) | rfl) rfl ?_ | refine vr_calldU (r_put_spec s.qu p) (gk rfl) rfl rfl rfl (by first | rfl | (simp only [wfRes, wfL, wfArgs, wfs, mpO_namesB, mpO_namesI]; rfl)) rfl (by first | exact newB_nil | exact newB_O | ((simp only [newB, List.map_cons, List.map_nil, Blk.shift, rowOf_shift]) <;> rfl) | rfl) rfl ?_))
          | (show VR _ _ _ [] _ _ _; first | refine vr_nil ?_)
          | (show thenQ _ _ _ _; first | refine q_then_n ?_ | refine q_then_r ?_)
          | refine vc_seq ?_
          | refine vc_region ?_
          | (show VC _ (.cond _ _ _) _ _; first | refine vc_cond_t rfl ?_ | refine vc_cond_f rfl ?_ | refine x_know rfl (by assumption) ?_)
          | refine vc_ret ?_ | refine vc_skip ?_
          | fail)
        refine retL_of (le_gen0 (l := [(4, .c (.ptr 4 0)), (5, AD (pks [])), (6, AI 12)]) (b := [(4, .box noS.cs)]) (fun n => n) ?_ ?_ rfl (by first | rfl | (simp only [wfL, wfs, mpO_namesB, mpO_namesI]; rfl))) (ret_agg_ddL isRet_r rfl rfl rfl rfl rfl rfl rfl rfl rfl)
        all_goals repeat' (first | exact trivial | refine ⟨⟨_, rfl, ?_⟩, ?_⟩ | exact .c .d | exact .c (.ptr rfl) | exact .c .nil | refine .box ?_ | exact .nil | refine .cons ?_ ?_ | exact .d | fail)
      · have d1 : decide ((putQ s.qu p).2.2 ≠ 0) = false := decide_eq_false (by omega)
        have d2 : decide (p.to = s.tb.node) = false := decide_eq_false ht
        by_cases hz : 100 < p.data.size
        · have e : putS s p = (noS, [], 8) := by rw [putS, if_neg (by omega), if_neg (by omega), if_neg ht, if_pos hz]
          have d3 : decide ((100 : Int) < (p.data.size : Nat)) = true := decide_eq_true (by omega)
          rw [e]
          repeat' (first
            | (show VR _ _ _ (_ :: _) _ _ _; first | refine x_opF rfl (by first | exact True.intro | omega) ?_ | (show VR _ _ _ (⟨_, .call ⟨.value _, _, _⟩, _, _, _, _⟩ :: _) _ _ _; first | refine vr_calldU (hck) (gk rfl) rfl rfl rfl (by first | rfl | (simp only [wfRes, wfL, wfArgs, wfs, mpO_namesB, mpO_namesI]; rfl)) rfl (by first | exact newB_nil | exact newB_O | ((simp only [newB, List.map_cons, List.map_nil, Blk.shift, rowOf_shift]) <;> rfl) | rfl) rfl ?_ | refine vr_calldU (r_put_spec s.qu p) (gk rfl) rfl rfl rfl (by first | rfl | (simp only [wfRes, wfL, wfArgs, wfs, mpO_namesB, mpO_namesI]; rfl)) rfl (by first | exact newB_nil | exact newB_O | ((simp only [newB, List.map_cons, List.map_nil, Blk.shift, rowOf_shift]) <;> rfl) | rfl) rfl ?_))
            | (show VR _ _ _ [] _ _ _; first | refine vr_nil ?_)
            | (show thenQ _ _ _ _; first | refine q_then_n ?_ | refine q_then_r ?_)
            | refine vc_seq ?_
            | refine vc_region ?_
            | (show VC _ (.cond _ _ _) _ _; first | refine vc_cond_t rfl ?_ | refine vc_cond_f rfl ?_ | refine x_know rfl (by assumption) ?_)
            | refine vc_ret ?_ | refine vc_skip ?_
            | fail)
          refine retL_of (le_gen0 (l := [(4, .c (.ptr 4 0)), (5, AD (pks [])), (6, AI 8)]) (b := [(4, .box noS.cs)]) (fun n => n) ?_ ?_ rfl (by first | rfl | (simp only [wfL, wfs, mpO_namesB, mpO_namesI]; rfl))) (ret_agg_ddL isRet_r rfl rfl rfl rfl rfl rfl rfl rfl rfl)
          all_goals repeat' (first | exact trivial | refine ⟨⟨_, rfl, ?_⟩, ?_⟩ | exact .c .d | exact .c (.ptr rfl) | exact .c .nil | refine .box ?_ | exact .nil | refine .cons ?_ ?_ | exact .d | fail)
        · have e : putS s p = (settleM { s with qu := (putQ s.qu p).1 }, (putQ s.qu p).2.1, 0) := by rw [putS, if_neg (by omega), if_neg (by omega), if_neg ht, if_neg hz]
          have d3 : decide ((100 : Int) < (p.data.size : Nat)) = false := decide_eq_false (by omega)
          rw [e, ← drop_settle (t := { s with qu := (putQ s.qu p).1 }) (checkS_of hc).2.2.2.2.2.1 rfl rfl]
          repeat' (first
            | (show VR _ _ _ (_ :: _) _ _ _; first | refine x_opF rfl (by first | exact True.intro | omega) ?_ | (show VR _ _ _ (⟨_, .call ⟨.value _, _, _⟩, _, _, _, _⟩ :: _) _ _ _; first | refine vr_calldU (hck) (gk rfl) rfl rfl rfl (by first | rfl | (simp only [wfRes, wfL, wfArgs, wfs, mpO_namesB, mpO_namesI]; rfl)) rfl (by first | exact newB_nil | exact newB_O | ((simp only [newB, List.map_cons, List.map_nil, Blk.shift, rowOf_shift]) <;> rfl) | rfl) rfl ?_ | refine vr_calldU (r_put_spec s.qu p) (gk rfl) rfl rfl rfl (by first | rfl | (simp only [wfRes, wfL, wfArgs, wfs, mpO_namesB, mpO_namesI]; rfl)) rfl (by first | exact newB_nil | exact newB_O | ((simp only [newB, List.map_cons, List.map_nil, Blk.shift, rowOf_shift]) <;> rfl) | rfl) rfl ?_ | refine vr_calldU (r_dropped_spec { s with qu := (putQ s.qu p).1 }) (gk rfl) rfl rfl rfl (by first | rfl | (simp only [wfRes, wfL, wfArgs, wfs, mpO_namesB, mpO_namesI]; rfl)) rfl (by first | exact newB_nil | exact newB_O | ((simp only [newB, List.map_cons, List.map_nil, Blk.shift, rowOf_shift]) <;> rfl) | rfl) rfl ?_))
            | (show VR _ _ _ [] _ _ _; first | refine vr_nil ?_)
            | (show thenQ _ _ _ _; first | refine q_then_n ?_)
            | refine vc_seq ?_
            | refine vc_region ?_
            | (show VC _ (.cond _ _ _) _ _; first | refine vc_cond_f rfl ?_ | refine x_know rfl (by assumption) ?_)
            | refine vc_ret ?_ | refine vc_skip ?_
            | fail)
          refine retL_of (le_gen0 (l := [(4, .c (.ptr 4 0)), (5, AD (pks (putQ s.qu p).2.1)), (6, AI 0)]) (b := [(4, .box (dropM { s with qu := (putQ s.qu p).1 }).cs)]) (fun n => n) ?_ ?_ rfl (by first | rfl | (simp only [wfL, wfs, mpO_namesB, mpO_namesI]; rfl))) (ret_agg_ddL isRet_r rfl rfl rfl rfl rfl rfl rfl rfl rfl)
          all_goals repeat' (first | exact trivial | refine ⟨⟨_, rfl, ?_⟩, ?_⟩ | exact .c .d | exact .c (.ptr rfl) | exact .boxD rfl rfl | fail)
    · have e : putS s p = (noS, [], (putQ s.qu p).2.2) := by rw [putS, if_neg (by omega), if_pos he]
      have d1 : decide ((putQ s.qu p).2.2 ≠ 0) = true := decide_eq_true he
      rw [e]
      repeat' (first
        | (show VR _ _ _ (_ :: _) _ _ _; first | refine x_opF rfl (by first | exact True.intro | omega) ?_ | (show VR _ _ _ (⟨_, .call ⟨.value _, _, _⟩, _, _, _, _⟩ :: _) _ _ _; first | refine vr_calldU (hck) (gk rfl) rfl rfl rfl (by first | rfl | (simp only [wfRes, wfL, wfArgs, wfs, mpO_namesB, mpO_namesI]; rfl)) rfl (by first | exact newB_nil | exact newB_O | ((simp only [newB, List.map_cons, List.map_nil, Blk.shift, rowOf_shift]) <;> rfl) | rfl) rfl ?_ | refine vr_calldU (r_put_spec s.qu p) (gk rfl) rfl rfl rfl (by first | rfl | (simp only [wfRes, wfL, wfArgs, wfs, mpO_namesB, mpO_namesI]; rfl)) rfl (by first | exact newB_nil | exact newB_O | ((simp only [newB, List.map_cons, List.map_nil, Blk.shift, rowOf_shift]) <;> rfl) | rfl) rfl ?_))
        | (show VR _ _ _ [] _ _ _; first | refine vr_nil ?_)
        | (show thenQ _ _ _ _; first | refine q_then_n ?_ | refine q_then_r ?_)
        | refine vc_seq ?_
        | refine vc_region ?_
        | (show VC _ (.cond _ _ _) _ _; first | refine vc_cond_t rfl ?_ | refine vc_cond_f rfl ?_ | refine x_know rfl (by assumption) ?_)
        | refine vc_ret ?_ | refine vc_skip ?_
        | fail)
      refine retL_of (le_gen0 (l := [(4, .c (.ptr 4 0)), (5, AD (pks [])), (6, AI (putQ s.qu p).2.2)]) (b := [(4, .box noS.cs)]) (fun n => n) ?_ ?_ rfl (by first | rfl | (simp only [wfL, wfs, mpO_namesB, mpO_namesI]; rfl))) (ret_agg_ddL isRet_r rfl rfl rfl rfl rfl rfl rfl rfl rfl)
      all_goals repeat' (first | exact trivial | refine ⟨⟨_, rfl, ?_⟩, ?_⟩ | exact .c .d | exact .c (.ptr rfl) | exact .c .nil | refine .box ?_ | exact .nil | refine .cons ?_ ?_ | exact .d | fail)
  · have e : putS s p = (noS, [], 1) := by rw [putS, if_pos hc]
    have hd : decide (checkS s ≠ 0) = true := by simp [hc]
    rw [e]
    repeat' (first
      | (show VR _ _ _ (_ :: _) _ _ _; first | refine x_opF rfl (by first | exact True.intro | omega) ?_ | (show VR _ _ _ (⟨_, .call ⟨.value _, _, _⟩, _, _, _, _⟩ :: _) _ _ _; first | refine vr_calldU (hck) (gk rfl) rfl rfl rfl (by first | rfl | (simp only [wfRes, wfL, wfArgs, wfs, mpO_namesB, mpO_namesI]; rfl)) rfl (by first | exact newB_nil | exact newB_O | ((simp only [newB, List.map_cons, List.map_nil, Blk.shift, rowOf_shift]) <;> rfl) | rfl) rfl ?_))
      | (show VR _ _ _ [] _ _ _; first | refine vr_nil ?_)
      | (show thenQ _ _ _ _; first | refine q_then_n ?_ | refine q_then_r ?_)
      | refine vc_seq ?_
      | refine vc_region ?_
      | (show VC _ (.cond _ _ _) _ _; first | refine vc_cond_t rfl ?_ | refine x_know rfl (by assumption) ?_)
      | refine vc_ret ?_
      | fail)
    refine retL_of (le_gen0 (l := [(4, .c (.ptr 4 0)), (5, AD (pks [])), (6, AI 1)]) (b := [(4, .box noS.cs)]) (fun n => n) ?_ ?_ rfl (by first | rfl | (simp only [wfL, wfs, mpO_namesB, mpO_namesI]; rfl))) (ret_agg_ddL isRet_r rfl rfl rfl rfl rfl rfl rfl rfl rfl)
    all_goals repeat' (first | exact trivial | refine ⟨⟨_, rfl, ?_⟩, ?_⟩ | exact .c .d | exact .c (.ptr rfl) | exact .c .nil | refine .box ?_ | exact .nil | refine .cons ?_ ?_ | exact .d | fail)
end Go.Proofs
