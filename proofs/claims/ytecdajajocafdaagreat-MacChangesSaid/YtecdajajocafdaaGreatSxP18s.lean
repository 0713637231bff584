/-
  What functions of the given program hand back, by walks over its code, and plain laws on that. No condition.
-/
import Derived.Test.YtecdajajocafdaaGreatSxP18r
-- SXS
-- SXM
-- SXN
namespace Go.Proofs
open Go Go.Sx Go.Proofs.T Go.Proofs.Q
set_option maxRecDepth 4000
set_option linter.unusedSimpArgs false
set_option linter.unusedVariables false
attribute [local irreducible] VR VC thenQ blockQ retL
theorem freshH_take {l : List Hd} {slot : Int} {k : Nat} (h : k < l.length) : freshH (l.take (k + 1)) slot = freshH (l.take k) slot ++ if (l.getD k default).til < slot then [] else [l.getD k default] := by
  unfold freshH
  rw [Go.Sx.take_getD h, List.filter_append]
  congr 1
  split
  · rename_i h; rw [List.filter_cons_of_neg (by rw [decide_eq_true h]; simp)]; rfl
  · rename_i h; rw [List.filter_cons_of_pos (by rw [decide_eq_false h]; rfl)]; rfl
set_option maxHeartbeats 2000000 in
theorem r_mexpire_spec (s : Sta) (slot : Int) : FnS Tryz.prog 31 [stA s, AI slot] [] (.tup [stA (expireS s slot).1, AD (pks (expireS s slot).2.1), AI (expireS s slot).2.2]) [] := by
  have hac := r_act_spec s slot
  refine FnS.of_body (enters_of Tryz.func31 (by kernel_rfl) rfl) Tryz.func31 rfl Tryz.ntmps31 Tryz.results31 rfl rfl rfl rfl fun E hS => ?_
  refine vc_retL ?_
  by_cases hc : checkS s = 0
  · have hhl := (heldB_of (checkS_of hc).2.2.2.1).1
    by_cases hs : slot < 0 ∨ 109951162 < slot
    · have e : expireS s slot = (noS, [], 2) := by rw [expireS, if_neg (by omega), if_pos hs]
      have ea : actS s slot = (zAc, 2) := by rw [actS, if_neg (by omega), if_pos hs]
      rw [ea] at hac
      rw [e]
      repeat' (first
        | (show VR _ _ _ (_ :: _) _ _ _; first | refine x_opF rfl (by first | exact True.intro | omega) ?_ | (show VR _ _ _ (⟨_, .call ⟨.value _, _, _⟩, _, _, _, _⟩ :: _) _ _ _; first | refine vr_calldU (hac) (gk rfl) rfl rfl rfl (by first | rfl | (simp only [wfRes, wfL, wfArgs, wfs, mpO_namesB, mpO_namesI]; rfl)) rfl (by first | exact newB_nil | exact newB_O | ((simp only [newB, List.map_cons, List.map_nil, Blk.shift, rowOf_shift]) <;> rfl) | rfl) rfl ?_))
        | (show VR _ _ _ [] _ _ _; first | refine vr_nil ?_)
        | (show thenQ _ _ _ _; first | refine q_then_n ?_ | refine q_then_r ?_)
        | refine vc_seq ?_
        | refine vc_region ?_
        | (show VC _ (.cond _ _ _) _ _; first | refine vc_cond_t rfl ?_)
        | refine vc_ret ?_
        | fail)
      refine retL_of (le_gen0 (l := [(4, .c (.ptr 4 0)), (5, AD (pks [])), (6, AI 2)]) (b := [(4, .box noS.cs)]) (fun n => n) ?_ ?_ rfl (by first | rfl | (simp only [wfL, wfs, mpO_namesB, mpO_namesI]; rfl))) (ret_agg_ddL isRet_r rfl rfl rfl rfl rfl rfl rfl rfl rfl)
      all_goals repeat' (first | exact trivial | refine ⟨⟨_, rfl, ?_⟩, ?_⟩ | exact .c .d | exact .c (.ptr rfl) | exact .c .nil | refine .box ?_ | exact .nil | refine .cons ?_ ?_ | exact .d | fail)
    · have e : expireS s slot = (settleM { s with held := freshH s.held slot, qu := (expireQ s.qu slot).1 }, (expireQ s.qu slot).2, 0) := by rw [expireS, if_neg (by omega), if_neg hs]
      have ea : actS s slot = (actM s slot (atM s.tb slot).1, 0) := by rw [actS, if_neg (by omega), if_neg hs]
      rw [ea] at hac
      rw [e, ← drop_settle (t := { s with held := freshH s.held slot, qu := (expireQ s.qu slot).1 }) (checkS_of hc).2.2.2.2.2.1 rfl rfl]
      repeat' (first
        | (show VR _ _ _ (_ :: _) _ _ _; first | refine x_opF rfl (by first | exact True.intro | omega) ?_ | (show VR _ _ _ (⟨_, .call ⟨.value _, _, _⟩, _, _, _, _⟩ :: _) _ _ _; first | refine vr_calldU (hac) (gk rfl) rfl rfl rfl (by first | rfl | (simp only [wfRes, wfL, wfArgs, wfs, mpO_namesB, mpO_namesI]; rfl)) rfl (by first | exact newB_nil | exact newB_O | ((simp only [newB, List.map_cons, List.map_nil, Blk.shift, rowOf_shift]) <;> rfl) | rfl) rfl ?_ | refine vr_calldU (r_expire_spec s.qu slot) (gk rfl) rfl rfl rfl (by first | rfl | (simp only [wfRes, wfL, wfArgs, wfs, mpO_namesB, mpO_namesI]; rfl)) rfl (by first | exact newB_nil | exact newB_O | ((simp only [newB, List.map_cons, List.map_nil, Blk.shift, rowOf_shift]) <;> rfl) | rfl) rfl ?_))
        | (show VR _ _ _ [] _ _ _; first | refine vr_nil ?_)
        | (show thenQ _ _ _ _; first | refine q_then_n ?_)
        | refine vc_seq ?_
        | refine vc_region ?_
        | (show VC _ (.cond _ _ _) _ _; first | refine vc_cond_f rfl ?_)
        | refine vc_block ?_ | refine vc_skip ?_
        | fail)
      refine VC.le (le_nil (t := 11) (nm := 44) (T := 67) (sz := 5) rfl rfl) ?_
      refine vc_loopI (ι := Nat) (fun k => stOf [(1, AI slot), (2, .c (.ptr 2 0)), (4, .c (.ptr 4 0)), (10, AD (pks (expireQ s.qu slot).2)), (11, .c (.row 44 (freshH (s.held.take k) slot).length)), (12, AI k)]
        [(2, .box (Sta.cs { s with qu := (expireQ s.qu slot).1 })), (4, .box noS.cs), (44, .row 67 5 (rowOf Hd.enc (freshH (s.held.take k) slot)))])
        (fun k => k ≤ s.held.length) (fun k => s.held.length - k) 0 (Nat.zero_le _) ?_ ?_
      · refine le_gen0 (fun n => n) ?_ ?_ rfl (by first | rfl | (simp only [wfL, wfs, mpO_namesB, mpO_namesI]; rfl))
        all_goals repeat' (first | exact trivial | refine ⟨⟨_, rfl, ?_⟩, ?_⟩ | exact .c .d | exact .c (.ptr rfl) | exact .c (.row rfl rfl) | exact .boxD rfl rfl | exact .rowD rfl rowOf_isD | refine .box ?_ | exact .nil | refine .cons ?_ ?_ | exact .d | fail)
      · intro k hk
        have hfl : (freshH (s.held.take k) slot).length ≤ 16 := by
          have := List.length_filter_le (fun h : Hd => !decide (h.til < slot)) (s.held.take k)
          rw [List.length_take] at this
          unfold freshH; omega
        rcases Nat.lt_or_ge k s.held.length with hlt | hge
        · have dlt : decide ((k : Int) < (s.held.length : Int)) = true := decide_eq_true (by omega)
          have hst := freshH_take (slot := slot) hlt
          repeat' (first
            | (show VR _ _ _ (_ :: _) _ _ _; first | refine x_opF rfl (by first | exact True.intro | omega) ?_ | (show VR _ _ _ (⟨_, .indexAddr _ _ _, _, _, _, _⟩ :: _) _ _ _; first | refine vr_index_rd (gk rfl) rfl rfl rfl rfl rfl (by omega) rfl ?_) | (show VR _ _ _ (⟨_, .call ⟨.builtin .append, _, _⟩, _, _, _, _⟩ :: _) _ _ _; first | refine vr_append0 (gk rfl) rfl rfl rfl (by first | rfl | exact rowOf_length.symm | (simp only [lns] <;> omega)) (by first | exact .row rfl (by first | rfl | exact rowOf_length.symm) | exact .rd | exact .nils) rfl rfl rfl (by (try dsimp only); omega) rfl rfl ?_))
            | (show VR _ _ _ [] _ _ _; first | refine vr_nil ?_)
            | (show thenQ _ _ _ _; first | refine q_then_n ?_)
            | (show blockQ _ _ _ _; first | refine q_blk_n ?_)
            | refine vc_seq ?_
            | refine vc_region ?_
            | (show VC _ (.cond _ _ _) _ _; first | refine vc_cond_t rfl ?_ | refine x_know rfl (by assumption) ?_ | (refine x_cond rfl ?_ ?_ <;> intro h <;> have hq := h <;> (try simp only [hqs] at hq)))
            | refine vc_block ?_ | refine vc_skip ?_
            | fail)
          · rw [if_neg (by omega)] at hst
            refine ⟨k + 1, by omega, by omega, ?_⟩
            rw [hst]
            refine le_gen0 (fun n => if n = 44 then 54 else n) ?_ ?_ rfl (by first | rfl | (simp only [wfL, wfs, mpO_namesB, mpO_namesI]; rfl))
            all_goals repeat' (first | exact trivial | refine ⟨⟨_, rfl, ?_⟩, ?_⟩ | exact .c .d | exact .c (.ptr rfl) | (refine .c (.row rfl ?_); ((try dsimp only); first | rfl | omega | (simp only [lns] <;> omega)); done) | exact .boxD rfl rfl | (refine .rowD ?_ rowOf_isD; rw [rowOf_append]; rfl) | fail)
          · rw [if_pos (by omega), List.append_nil] at hst
            refine ⟨k + 1, by omega, by omega, ?_⟩
            rw [hst]
            refine le_gen0 (fun n => n) ?_ ?_ rfl (by first | rfl | (simp only [wfL, wfs, mpO_namesB, mpO_namesI]; rfl))
            all_goals repeat' (first | exact trivial | refine ⟨⟨_, rfl, ?_⟩, ?_⟩ | exact .c .d | exact .c (.ptr rfl) | exact .c (.row rfl rfl) | exact .boxD rfl rfl | exact .rowD rfl rowOf_isD | fail)
        · have dlt : decide ((k : Int) < (s.held.length : Int)) = false := decide_eq_false (by omega)
          have hk' : k = s.held.length := by omega
          rw [hk', List.take_length] at hfl
          subst hk'
          rw [List.take_length]
          repeat' (first
            | (show VR _ _ _ (_ :: _) _ _ _; first | refine x_opF rfl (by first | exact True.intro | omega) ?_)
            | (show VR _ _ _ [] _ _ _; first | refine vr_nil ?_)
            | (show thenQ _ _ _ _; first | refine q_then_n ?_ | refine q_then_x ?_)
            | (show blockQ _ _ _ _; first | refine q_blk_x ?_)
            | (show VC _ (.seq _ _) _ _; (fail_if_success (show VC _ (.seq (.seq (.region 13 _ _) _) _) _ _)); (fail_if_success (show VC _ (.seq (.region 13 _ _) _) _ _)); refine vc_seq ?_)
            | refine vc_region ?_
            | (show VC _ (.cond _ _ _) _ _; first | refine vc_cond_f rfl ?_ | refine x_know rfl (by assumption) ?_)
            | refine vc_exit ?_
            | fail)
          refine VC.le (σ' := stOf [(2, .c (.ptr 2 0)), (4, .c (.ptr 4 0)), (10, AD (pks (expireQ s.qu slot).2))] [(2, .box (Sta.cs { s with held := freshH s.held slot, qu := (expireQ s.qu slot).1 })), (4, .box noS.cs)]) ?_ ?_
          · refine le_gen (fun n => n) [44] hS ?_ ?_ rfl (by first | rfl | (simp only [wfL, wfs, mpO_namesB, mpO_namesI]; rfl))
            all_goals repeat' (first | exact trivial | refine ⟨⟨_, rfl, ?_⟩, ?_⟩ | exact .c .d | exact .c (.ptr rfl) | exact .boxD rfl rfl | refine .box ?_ | exact .nil | refine .cons ?_ ?_ | exact .d | exact .frzOf (by first | (simp; done) | decide) rfl rfl (fun _ => rfl) | fail)
          repeat' (first
            | (show VR _ _ _ (_ :: _) _ _ _; first | refine x_opF rfl (by first | exact True.intro | omega) ?_ | (show VR _ _ _ (⟨_, .call ⟨.value _, _, _⟩, _, _, _, _⟩ :: _) _ _ _; first | refine vr_calldU (r_dropped_spec { s with held := freshH s.held slot, qu := (expireQ s.qu slot).1 }) (gk rfl) rfl rfl rfl (by first | rfl | (simp only [wfRes, wfL, wfArgs, wfs, mpO_namesB, mpO_namesI]; rfl)) rfl (by first | exact newB_nil | exact newB_O | ((simp only [newB, List.map_cons, List.map_nil, Blk.shift, rowOf_shift]) <;> rfl) | rfl) rfl ?_))
            | (show VR _ _ _ [] _ _ _; first | refine vr_nil ?_)
            | (show thenQ _ _ _ _; first | refine q_then_n ?_)
            | refine vc_seq ?_
            | refine vc_region ?_
            | refine vc_ret ?_
            | fail)
          refine retL_of (le_gen0 (l := [(4, .c (.ptr 4 0)), (5, AD (pks (expireQ s.qu slot).2)), (6, AI 0)]) (b := [(4, .box (dropM { s with held := freshH s.held slot, qu := (expireQ s.qu slot).1 }).cs)]) (fun n => n) ?_ ?_ rfl (by first | rfl | (simp only [wfL, wfs, mpO_namesB, mpO_namesI]; rfl))) (ret_agg_ddL isRet_r rfl rfl rfl rfl rfl rfl rfl rfl rfl)
          all_goals repeat' (first | exact trivial | refine ⟨⟨_, rfl, ?_⟩, ?_⟩ | exact .c .d | exact .c (.ptr rfl) | exact .boxD rfl rfl | fail)
  · have e : expireS s slot = (noS, [], 1) := by rw [expireS, if_pos hc]
    have ea : actS s slot = (zAc, 1) := by rw [actS, if_pos hc]
    rw [ea] at hac
    rw [e]
    repeat' (first
      | (show VR _ _ _ (_ :: _) _ _ _; first | refine x_opF rfl (by first | exact True.intro | omega) ?_ | (show VR _ _ _ (⟨_, .call ⟨.value _, _, _⟩, _, _, _, _⟩ :: _) _ _ _; first | refine vr_calldU (hac) (gk rfl) rfl rfl rfl (by first | rfl | (simp only [wfRes, wfL, wfArgs, wfs, mpO_namesB, mpO_namesI]; rfl)) rfl (by first | exact newB_nil | exact newB_O | ((simp only [newB, List.map_cons, List.map_nil, Blk.shift, rowOf_shift]) <;> rfl) | rfl) rfl ?_))
      | (show VR _ _ _ [] _ _ _; first | refine vr_nil ?_)
      | (show thenQ _ _ _ _; first | refine q_then_n ?_ | refine q_then_r ?_)
      | refine vc_seq ?_
      | refine vc_region ?_
      | (show VC _ (.cond _ _ _) _ _; first | refine vc_cond_t rfl ?_)
      | refine vc_ret ?_
      | fail)
    refine retL_of (le_gen0 (l := [(4, .c (.ptr 4 0)), (5, AD (pks [])), (6, AI 1)]) (b := [(4, .box noS.cs)]) (fun n => n) ?_ ?_ rfl (by first | rfl | (simp only [wfL, wfs, mpO_namesB, mpO_namesI]; rfl))) (ret_agg_ddL isRet_r rfl rfl rfl rfl rfl rfl rfl rfl rfl)
    all_goals repeat' (first | exact trivial | refine ⟨⟨_, rfl, ?_⟩, ?_⟩ | exact .c .d | exact .c (.ptr rfl) | exact .c .nil | refine .box ?_ | exact .nil | refine .cons ?_ ?_ | exact .d | fail)
/-! Hold. -/
set_option maxHeartbeats 4000000 in
theorem r_hold_spec (s : Sta) (h : Hd) : FnS Tryz.prog 26 [stA s, hdA h] [] (.tup [stA (holdM s h).1, AI (holdM s h).2]) [] := by
  have hck := r_checkS_spec s
  have hhe := heldE_spec h
  refine FnS.of_body (enters_of Tryz.func26 (by kernel_rfl) rfl) Tryz.func26 rfl Tryz.ntmps26 Tryz.results26 rfl rfl rfl rfl fun E hS => ?_
  refine vc_retL ?_
  by_cases hc : checkS s = 0
  · rw [hc] at hck
    have hH := (checkS_of hc).2.2.2.1
    have hhl := (heldB_of hH).1
    have hri := held_rise hH
    by_cases hE : heldE h = 0
    · rw [hE] at hhe
      have e : holdM s h = if 16 < (heldN s h).length then (noS, 8) else ({ s with held := heldN s h }, 0) := by rw [holdM, if_neg (by omega), if_neg (by omega)]
      rw [e]
      repeat' (first
        | (show VR _ _ _ (_ :: _) _ _ _; first | refine x_opF rfl (by first | exact True.intro | omega) ?_ | (show VR _ _ _ (⟨_, .call ⟨.value _, _, _⟩, _, _, _, _⟩ :: _) _ _ _; first | refine vr_calldU (hck) (gk rfl) rfl rfl rfl (by first | rfl | (simp only [wfRes, wfL, wfArgs, wfs, mpO_namesB, mpO_namesI]; rfl)) rfl (by first | exact newB_nil | exact newB_O | ((simp only [newB, List.map_cons, List.map_nil, Blk.shift, rowOf_shift]) <;> rfl) | rfl) rfl ?_ | refine vr_calldU (hhe) (gk rfl) rfl rfl rfl (by first | rfl | (simp only [wfRes, wfL, wfArgs, wfs, mpO_namesB, mpO_namesI]; rfl)) rfl (by first | exact newB_nil | exact newB_O | ((simp only [newB, List.map_cons, List.map_nil, Blk.shift, rowOf_shift]) <;> rfl) | rfl) rfl ?_))
        | (show VR _ _ _ [] _ _ _; first | refine vr_nil ?_)
        | (show thenQ _ _ _ _; first | refine q_then_n ?_)
        | refine vc_seq ?_
        | refine vc_region ?_
        | (show VC _ (.cond _ _ _) _ _; first | refine vc_cond_f rfl ?_)
        | refine vc_block ?_ | refine vc_skip ?_
        | fail)
      refine VC.le (le_nil (t := 7) (nm := 45) (T := 67) (sz := 5) rfl rfl) ?_
      refine vc_loopI (ι := Nat) (fun k => stOf [(2, .c (.ptr 2 0)), (3, .c (.ptr 3 0)), (4, .c (.ptr 4 0)), (7, .c (.row 45 (s.held.take k).length)), (8, AI k)]
        [(2, .box s.cs), (3, .box h.cs), (4, .box noS.cs), (45, .row 67 5 (rowOf Hd.enc (s.held.take k)))])
        (fun k => k ≤ s.held.length ∧ ∀ a, a < k → (s.held.getD a default).flow < h.flow) (fun k => s.held.length - k) 0 ⟨Nat.zero_le _, fun i hi => absurd hi (Nat.not_lt_zero _)⟩ ?_ ?_
      · refine le_gen0 (fun n => n) ?_ ?_ rfl (by first | rfl | (simp only [wfL, wfs, mpO_namesB, mpO_namesI]; rfl))
        all_goals repeat' (first | exact trivial | refine ⟨⟨_, rfl, ?_⟩, ?_⟩ | exact .c .d | exact .c (.ptr rfl) | exact .c (.row rfl rfl) | exact .boxD rfl rfl | exact .rowD rfl rowOf_isD | refine .box ?_ | exact .nil | refine .cons ?_ ?_ | exact .d | fail)
      · intro k hk
        have htl : (s.held.take k).length ≤ 16 := by rw [List.length_take]; omega
        rcases Nat.lt_or_ge k s.held.length with hlt | hge
        · have dlt : decide ((k : Int) < (s.held.length : Int)) = true := decide_eq_true (by omega)
          by_cases hfl : (s.held.getD k default).flow < h.flow
          · have d2 : decide ((s.held.getD k default).flow < h.flow) = true := decide_eq_true hfl
            repeat' (first
              | (show VR _ _ _ (_ :: _) _ _ _; first | refine x_opF rfl (by first | exact True.intro | omega) ?_ | (show VR _ _ _ (⟨_, .indexAddr _ _ _, _, _, _, _⟩ :: _) _ _ _; first | refine vr_index_rd (gk rfl) rfl rfl rfl rfl rfl (by omega) rfl ?_) | (show VR _ _ _ (⟨_, .call ⟨.builtin .append, _, _⟩, _, _, _, _⟩ :: _) _ _ _; first | refine vr_append0 (gk rfl) rfl rfl rfl (by first | rfl | exact rowOf_length.symm | (simp only [lns] <;> omega)) (by first | exact .row rfl (by first | rfl | exact rowOf_length.symm) | exact .rd | exact .nils) rfl rfl rfl (by (try dsimp only); omega) rfl rfl ?_) | refine x_gknow rfl (by assumption) ?_)
              | (show VR _ _ _ [] _ _ _; first | refine vr_nil ?_ | refine vr_nil_t (by kernel_rfl) ?_)
              | (show thenQ _ _ _ _; first | refine q_then_n ?_)
              | (show blockQ _ _ _ _; first | refine q_blk_n ?_)
              | refine vc_seq ?_
              | refine vc_region ?_ | refine vc_region_t ?_
              | (show VC _ (.cond _ _ _) _ _; first | refine vc_cond_t rfl ?_ | refine x_know rfl (by assumption) ?_)
              | refine vc_block ?_ | refine vc_skip ?_
              | fail)
            refine ⟨k + 1, ⟨by omega, fun a ha => ?_⟩, by omega, ?_⟩
            · by_cases hak : a < k
              · exact hk.2 a hak
              · rw [show a = k by omega]; exact hfl
            · rw [Go.Sx.take_getD hlt]
              refine le_gen0 (fun n => if n = 45 then 44 else n) ?_ ?_ rfl (by first | rfl | (simp only [wfL, wfs, mpO_namesB, mpO_namesI]; rfl))
              all_goals repeat' (first | exact trivial | refine ⟨⟨_, rfl, ?_⟩, ?_⟩ | exact .c .d | exact .c (.ptr rfl) | (refine .c (.row rfl ?_); ((try dsimp only); first | rfl | omega | (simp only [lns] <;> omega)); done) | exact .boxD rfl rfl | (refine .rowD ?_ rowOf_isD; rw [rowOf_append]; rfl) | fail)
          · have d2 : decide ((s.held.getD k default).flow < h.flow) = false := decide_eq_false hfl
            have h2 : ∀ a, k ≤ a → a < s.held.length → h.flow ≤ (s.held.getD a default).flow := fun a ha hl => by
              rcases Nat.lt_or_ge k a with h3 | h3
              · have := hri k a h3 hl; omega
              · rw [show a = k by omega]; omega
            repeat' (first
              | (show VR _ _ _ (_ :: _) _ _ _; first | refine x_opF rfl (by first | exact True.intro | omega) ?_ | (show VR _ _ _ (⟨_, .indexAddr _ _ _, _, _, _, _⟩ :: _) _ _ _; first | refine vr_index_rd (gk rfl) rfl rfl rfl rfl rfl (by omega) rfl ?_) | (show VR _ _ _ (⟨_, .call ⟨.builtin .append, _, _⟩, _, _, _, _⟩ :: _) _ _ _; first | refine vr_append0 (gk rfl) rfl rfl rfl (by first | rfl | exact rowOf_length.symm | (simp only [lns] <;> omega)) (by first | exact .row rfl (by first | rfl | exact rowOf_length.symm) | exact .rd | exact .nils) rfl rfl rfl (by (try dsimp only); omega) rfl rfl ?_) | refine x_gknow rfl (by assumption) ?_)
              | (show VR _ _ _ [] _ _ _; first | refine vr_nil ?_ | refine vr_nil_t (by kernel_rfl) ?_)
              | (show thenQ _ _ _ _; first | refine q_then_n ?_ | refine q_then_x ?_)
              | (show blockQ _ _ _ _; first | refine q_blk_x ?_)
              | refine vc_seq ?_
              | refine vc_region ?_ | refine vc_region_t ?_
              | (show VC _ (.cond _ _ _) _ _; first | refine vc_cond_f rfl ?_ | refine x_know rfl (by assumption) ?_)
              | refine vc_exit ?_ | refine vc_block ?_
              | fail)
            refine vc_loopI (ι := Nat) (fun j => stOf [(2, .c (.ptr 2 0)), (3, .c (.ptr 3 0)), (4, .c (.ptr 4 0)), (7, .c (.row 46 (scanK Hd.flow s.held h k j).length)), (8, AI j)]
              [(2, .box s.cs), (3, .box h.cs), (4, .box noS.cs), (46, .row 67 5 (rowOf Hd.enc (scanK Hd.flow s.held h k j)))])
              (fun j => k ≤ j ∧ j ≤ s.held.length) (fun j => s.held.length - j) k ⟨Nat.le_refl _, hk.1⟩ ?_ ?_
            · rw [scanK_start]
              refine le_gen0 (fun n => if n = 46 then 48 else n) ?_ ?_ rfl (by first | rfl | (simp only [wfL, wfs, mpO_namesB, mpO_namesI]; rfl))
              all_goals repeat' (first | exact trivial | refine ⟨⟨_, rfl, ?_⟩, ?_⟩ | exact .c .d | exact .c (.ptr rfl) | (refine .c (.row rfl ?_); ((try dsimp only); first | rfl | omega | (simp only [lns] <;> omega)); done) | exact .boxD rfl rfl | (refine .rowD ?_ rowOf_isD; rw [rowOf_append]; rfl) | fail)
            · intro j hj
              have hsl := scanK_len (k := Hd.flow) (l := s.held) (x := h) (i := k) (j := j)
              rcases Nat.lt_or_ge j s.held.length with hlj | hgj
              · have dl : decide ((j : Int) < (s.held.length : Int)) = true := decide_eq_true (by omega)
                have hst := scanK_step (k := Hd.flow) (l := s.held) (x := h) hj.1 hlj
                repeat' (first
                  | (show VR _ _ _ (_ :: _) _ _ _; first | refine x_opF rfl (by first | exact True.intro | omega) ?_ | (show VR _ _ _ (⟨_, .indexAddr _ _ _, _, _, _, _⟩ :: _) _ _ _; first | refine vr_index_rd (gk rfl) rfl rfl rfl rfl rfl (by omega) rfl ?_) | (show VR _ _ _ (⟨_, .call ⟨.builtin .append, _, _⟩, _, _, _, _⟩ :: _) _ _ _; first | refine vr_append0 (gk rfl) rfl rfl rfl (by first | rfl | exact rowOf_length.symm | (simp only [lns] <;> omega)) (by first | exact .row rfl (by first | rfl | exact rowOf_length.symm) | exact .rd | exact .nils) rfl rfl rfl (by (try dsimp only); omega) rfl rfl ?_))
                  | (show VR _ _ _ [] _ _ _; first | refine vr_nil ?_ | refine vr_nil_t (by kernel_rfl) ?_)
                  | (show thenQ _ _ _ _; first | refine q_then_n ?_)
                  | (show blockQ _ _ _ _; first | refine q_blk_n ?_)
                  | refine vc_seq ?_
                  | refine vc_region ?_ | refine vc_region_t ?_
                  | (show VC _ (.cond _ _ _) _ _; first | refine vc_cond_t rfl ?_ | refine x_know rfl (by assumption) ?_ | (refine x_cond rfl ?_ ?_ <;> intro h <;> have hq := h <;> (try simp only [hqs] at hq)))
                  | refine vc_block ?_ | refine vc_skip ?_
                  | fail)
                · rw [if_neg hq] at hst
                  refine ⟨j + 1, ⟨by omega, by omega⟩, by omega, ?_⟩
                  rw [hst]
                  refine le_gen0 (fun n => if n = 46 then 72 else n) ?_ ?_ rfl (by first | rfl | (simp only [wfL, wfs, mpO_namesB, mpO_namesI]; rfl))
                  all_goals repeat' (first | exact trivial | refine ⟨⟨_, rfl, ?_⟩, ?_⟩ | exact .c .d | exact .c (.ptr rfl) | (refine .c (.row rfl ?_); ((try dsimp only); first | rfl | omega | (simp only [lns] <;> omega)); done) | exact .boxD rfl rfl | (refine .rowD ?_ rowOf_isD; rw [rowOf_append]; rfl) | fail)
                · rw [if_pos hq, List.append_nil] at hst
                  refine ⟨j + 1, ⟨by omega, by omega⟩, by omega, ?_⟩
                  rw [hst]
                  refine le_gen0 (fun n => n) ?_ ?_ rfl (by first | rfl | (simp only [wfL, wfs, mpO_namesB, mpO_namesI]; rfl))
                  all_goals repeat' (first | exact trivial | refine ⟨⟨_, rfl, ?_⟩, ?_⟩ | exact .c .d | exact .c (.ptr rfl) | exact .c (.row rfl rfl) | exact .boxD rfl rfl | exact .rowD rfl rowOf_isD | fail)
              · have dl : decide ((j : Int) < (s.held.length : Int)) = false := decide_eq_false (by omega)
                have hj' : j = s.held.length := by omega
                subst hj'
                have hen : scanK Hd.flow s.held h k s.held.length = heldN s h := scanK_end hk.1 hk.2 h2
                rw [hen] at hsl
                rw [hen]
                repeat' (first
                  | (show VR _ _ _ (_ :: _) _ _ _; first | refine x_opF rfl (by first | exact True.intro | omega) ?_ | (show VR _ _ _ (⟨_, .call ⟨.builtin .len, _, _⟩, _, _, _, _⟩ :: _) _ _ _; first | refine vr_len_row (gk rfl) rfl rfl (by first | rfl | exact rowOf_length.symm | (simp only [lns] <;> omega)) rfl rfl ?_))
                  | (show VR _ _ _ [] _ _ _; first | refine vr_nil ?_)
                  | (show thenQ _ _ _ _; first | refine q_then_n ?_ | refine q_then_x ?_ | refine q_then_r ?_)
                  | (show blockQ _ _ _ _; first | refine q_blk_x ?_)
                  | refine vc_seq ?_
                  | refine vc_region ?_
                  | (show VC _ (.cond _ _ _) _ _; first | refine vc_cond_f rfl ?_ | refine x_know rfl (by assumption) ?_ | (refine x_cond rfl ?_ ?_ <;> intro h <;> have hq := h <;> (try simp only [hqs] at hq)))
                  | refine vc_ret ?_ | refine vc_exit ?_ | refine vc_skip ?_
                  | fail)
                · rw [if_pos (by omega)]
                  refine retL_of (le_gen0 (l := [(4, .c (.ptr 4 0)), (5, AI 8)]) (b := [(4, .box noS.cs)]) (fun n => n) ?_ ?_ rfl (by first | rfl | (simp only [wfL, wfs, mpO_namesB, mpO_namesI]; rfl))) (ret_agg_dL isRet_r rfl rfl rfl rfl rfl rfl rfl)
                  all_goals repeat' (first | exact trivial | refine ⟨⟨_, rfl, ?_⟩, ?_⟩ | exact .c .d | exact .c (.ptr rfl) | refine .box ?_ | exact .nil | refine .cons ?_ ?_ | exact .d | fail)
                · rw [if_neg (by omega)]
                  refine retL_of (le_gen (l := [(4, .c (.ptr 4 0)), (5, AI 0)]) (b := [(4, .box (Sta.cs { s with held := heldN s ‹Hd› }))]) (fun n => n) [46] hS ?_ ?_ rfl (by first | rfl | (simp only [wfL, wfs, mpO_namesB, mpO_namesI]; rfl))) (ret_agg_dL isRet_r rfl rfl rfl rfl rfl rfl rfl)
                  all_goals repeat' (first | exact trivial | refine ⟨⟨_, rfl, ?_⟩, ?_⟩ | exact .c .d | exact .c (.ptr rfl) | refine .box ?_ | exact .nil | refine .cons ?_ ?_ | exact .d | exact .frzOf (by first | (simp; done) | decide) rfl rfl (fun _ => rfl) | fail)
        · have dlt : decide ((k : Int) < (s.held.length : Int)) = false := decide_eq_false (by omega)
          have h2 : ∀ a, k ≤ a → a < s.held.length → h.flow ≤ (s.held.getD a default).flow := fun a ha hl => by omega
          repeat' (first
            | (show VR _ _ _ (_ :: _) _ _ _; first | refine x_opF rfl (by first | exact True.intro | omega) ?_ | (show VR _ _ _ (⟨_, .call ⟨.builtin .append, _, _⟩, _, _, _, _⟩ :: _) _ _ _; first | refine vr_append0 (gk rfl) rfl rfl rfl (by first | rfl | exact rowOf_length.symm | (simp only [lns] <;> omega)) (by first | exact .row rfl (by first | rfl | exact rowOf_length.symm) | exact .rd | exact .nils) rfl rfl rfl (by (try dsimp only); omega) rfl rfl ?_) | refine x_gknow rfl (by assumption) ?_)
            | (show VR _ _ _ [] _ _ _; first | refine vr_nil ?_ | refine vr_nil_t (by kernel_rfl) ?_)
            | (show thenQ _ _ _ _; first | refine q_then_n ?_ | refine q_then_x ?_)
            | (show blockQ _ _ _ _; first | refine q_blk_x ?_)
            | refine vc_seq ?_
            | refine vc_region ?_ | refine vc_region_t ?_
            | (show VC _ (.cond _ _ _) _ _; first | refine vc_cond_f rfl ?_)
            | refine vc_exit ?_ | refine vc_block ?_
            | fail)
          refine vc_loopI (ι := Nat) (fun j => stOf [(2, .c (.ptr 2 0)), (3, .c (.ptr 3 0)), (4, .c (.ptr 4 0)), (7, .c (.row 46 (scanK Hd.flow s.held h k j).length)), (8, AI j)]
            [(2, .box s.cs), (3, .box h.cs), (4, .box noS.cs), (46, .row 67 5 (rowOf Hd.enc (scanK Hd.flow s.held h k j)))])
            (fun j => k ≤ j ∧ j ≤ s.held.length) (fun j => s.held.length - j) k ⟨Nat.le_refl _, hk.1⟩ ?_ ?_
          · rw [scanK_start]
            refine le_gen0 (fun n => if n = 46 then 48 else n) ?_ ?_ rfl (by first | rfl | (simp only [wfL, wfs, mpO_namesB, mpO_namesI]; rfl))
            all_goals repeat' (first | exact trivial | refine ⟨⟨_, rfl, ?_⟩, ?_⟩ | exact .c .d | exact .c (.ptr rfl) | (refine .c (.row rfl ?_); ((try dsimp only); first | rfl | omega | (simp only [lns] <;> omega)); done) | exact .boxD rfl rfl | (refine .rowD ?_ rowOf_isD; rw [rowOf_append]; rfl) | fail)
          · intro j hj
            have hsl := scanK_len (k := Hd.flow) (l := s.held) (x := h) (i := k) (j := j)
            rcases Nat.lt_or_ge j s.held.length with hlj | hgj
            · have dl : decide ((j : Int) < (s.held.length : Int)) = true := decide_eq_true (by omega)
              have hst := scanK_step (k := Hd.flow) (l := s.held) (x := h) hj.1 hlj
              repeat' (first
                | (show VR _ _ _ (_ :: _) _ _ _; first | refine x_opF rfl (by first | exact True.intro | omega) ?_ | (show VR _ _ _ (⟨_, .indexAddr _ _ _, _, _, _, _⟩ :: _) _ _ _; first | refine vr_index_rd (gk rfl) rfl rfl rfl rfl rfl (by omega) rfl ?_) | (show VR _ _ _ (⟨_, .call ⟨.builtin .append, _, _⟩, _, _, _, _⟩ :: _) _ _ _; first | refine vr_append0 (gk rfl) rfl rfl rfl (by first | rfl | exact rowOf_length.symm | (simp only [lns] <;> omega)) (by first | exact .row rfl (by first | rfl | exact rowOf_length.symm) | exact .rd | exact .nils) rfl rfl rfl (by (try dsimp only); omega) rfl rfl ?_))
                | (show VR _ _ _ [] _ _ _; first | refine vr_nil ?_ | refine vr_nil_t (by kernel_rfl) ?_)
                | (show thenQ _ _ _ _; first | refine q_then_n ?_)
                | (show blockQ _ _ _ _; first | refine q_blk_n ?_)
                | refine vc_seq ?_
                | refine vc_region ?_ | refine vc_region_t ?_
                | (show VC _ (.cond _ _ _) _ _; first | refine vc_cond_t rfl ?_ | refine x_know rfl (by assumption) ?_ | (refine x_cond rfl ?_ ?_ <;> intro h <;> have hq := h <;> (try simp only [hqs] at hq)))
                | refine vc_block ?_ | refine vc_skip ?_
                | fail)
              · rw [if_neg hq] at hst
                refine ⟨j + 1, ⟨by omega, by omega⟩, by omega, ?_⟩
                rw [hst]
                refine le_gen0 (fun n => if n = 46 then 72 else n) ?_ ?_ rfl (by first | rfl | (simp only [wfL, wfs, mpO_namesB, mpO_namesI]; rfl))
                all_goals repeat' (first | exact trivial | refine ⟨⟨_, rfl, ?_⟩, ?_⟩ | exact .c .d | exact .c (.ptr rfl) | (refine .c (.row rfl ?_); ((try dsimp only); first | rfl | omega | (simp only [lns] <;> omega)); done) | exact .boxD rfl rfl | (refine .rowD ?_ rowOf_isD; rw [rowOf_append]; rfl) | fail)
              · rw [if_pos hq, List.append_nil] at hst
                refine ⟨j + 1, ⟨by omega, by omega⟩, by omega, ?_⟩
                rw [hst]
                refine le_gen0 (fun n => n) ?_ ?_ rfl (by first | rfl | (simp only [wfL, wfs, mpO_namesB, mpO_namesI]; rfl))
                all_goals repeat' (first | exact trivial | refine ⟨⟨_, rfl, ?_⟩, ?_⟩ | exact .c .d | exact .c (.ptr rfl) | exact .c (.row rfl rfl) | exact .boxD rfl rfl | exact .rowD rfl rowOf_isD | fail)
            · have dl : decide ((j : Int) < (s.held.length : Int)) = false := decide_eq_false (by omega)
              have hj' : j = s.held.length := by omega
              subst hj'
              have hen : scanK Hd.flow s.held h k s.held.length = heldN s h := scanK_end hk.1 hk.2 h2
              rw [hen] at hsl
              rw [hen]
              repeat' (first
                | (show VR _ _ _ (_ :: _) _ _ _; first | refine x_opF rfl (by first | exact True.intro | omega) ?_ | (show VR _ _ _ (⟨_, .call ⟨.builtin .len, _, _⟩, _, _, _, _⟩ :: _) _ _ _; first | refine vr_len_row (gk rfl) rfl rfl (by first | rfl | exact rowOf_length.symm | (simp only [lns] <;> omega)) rfl rfl ?_))
                | (show VR _ _ _ [] _ _ _; first | refine vr_nil ?_)
                | (show thenQ _ _ _ _; first | refine q_then_n ?_ | refine q_then_x ?_ | refine q_then_r ?_)
                | (show blockQ _ _ _ _; first | refine q_blk_x ?_)
                | refine vc_seq ?_
                | refine vc_region ?_
                | (show VC _ (.cond _ _ _) _ _; first | refine vc_cond_f rfl ?_ | refine x_know rfl (by assumption) ?_ | (refine x_cond rfl ?_ ?_ <;> intro h <;> have hq := h <;> (try simp only [hqs] at hq)))
                | refine vc_ret ?_ | refine vc_exit ?_ | refine vc_skip ?_
                | fail)
              · rw [if_pos (by omega)]
                refine retL_of (le_gen0 (l := [(4, .c (.ptr 4 0)), (5, AI 8)]) (b := [(4, .box noS.cs)]) (fun n => n) ?_ ?_ rfl (by first | rfl | (simp only [wfL, wfs, mpO_namesB, mpO_namesI]; rfl))) (ret_agg_dL isRet_r rfl rfl rfl rfl rfl rfl rfl)
                all_goals repeat' (first | exact trivial | refine ⟨⟨_, rfl, ?_⟩, ?_⟩ | exact .c .d | exact .c (.ptr rfl) | refine .box ?_ | exact .nil | refine .cons ?_ ?_ | exact .d | fail)
              · rw [if_neg (by omega)]
                refine retL_of (le_gen (l := [(4, .c (.ptr 4 0)), (5, AI 0)]) (b := [(4, .box (Sta.cs { s with held := heldN s ‹Hd› }))]) (fun n => n) [46] hS ?_ ?_ rfl (by first | rfl | (simp only [wfL, wfs, mpO_namesB, mpO_namesI]; rfl))) (ret_agg_dL isRet_r rfl rfl rfl rfl rfl rfl rfl)
                all_goals repeat' (first | exact trivial | refine ⟨⟨_, rfl, ?_⟩, ?_⟩ | exact .c .d | exact .c (.ptr rfl) | refine .box ?_ | exact .nil | refine .cons ?_ ?_ | exact .d | exact .frzOf (by first | (simp; done) | decide) rfl rfl (fun _ => rfl) | fail)
    · have e : holdM s h = (noS, heldE h) := by rw [holdM, if_neg (by omega), if_pos hE]
      have hd : decide (heldE h ≠ 0) = true := decide_eq_true hE
      rw [e]
      repeat' (first
        | (show VR _ _ _ (_ :: _) _ _ _; first | refine x_opF rfl (by first | exact True.intro | omega) ?_ | (show VR _ _ _ (⟨_, .call ⟨.value _, _, _⟩, _, _, _, _⟩ :: _) _ _ _; first | refine vr_calldU (hck) (gk rfl) rfl rfl rfl (by first | rfl | (simp only [wfRes, wfL, wfArgs, wfs, mpO_namesB, mpO_namesI]; rfl)) rfl (by first | exact newB_nil | exact newB_O | ((simp only [newB, List.map_cons, List.map_nil, Blk.shift, rowOf_shift]) <;> rfl) | rfl) rfl ?_ | refine vr_calldU (hhe) (gk rfl) rfl rfl rfl (by first | rfl | (simp only [wfRes, wfL, wfArgs, wfs, mpO_namesB, mpO_namesI]; rfl)) rfl (by first | exact newB_nil | exact newB_O | ((simp only [newB, List.map_cons, List.map_nil, Blk.shift, rowOf_shift]) <;> rfl) | rfl) rfl ?_))
        | (show VR _ _ _ [] _ _ _; first | refine vr_nil ?_)
        | (show thenQ _ _ _ _; first | refine q_then_n ?_ | refine q_then_r ?_)
        | refine vc_seq ?_
        | refine vc_region ?_
        | (show VC _ (.cond _ _ _) _ _; first | refine vc_cond_t rfl ?_ | refine vc_cond_f rfl ?_ | refine x_know rfl (by assumption) ?_)
        | refine vc_ret ?_ | refine vc_skip ?_
        | fail)
      refine retL_of (le_gen0 (l := [(4, .c (.ptr 4 0)), (5, AI (heldE h))]) (b := [(4, .box noS.cs)]) (fun n => n) ?_ ?_ rfl (by first | rfl | (simp only [wfL, wfs, mpO_namesB, mpO_namesI]; rfl))) (ret_agg_dL isRet_r rfl rfl rfl rfl rfl rfl rfl)
      all_goals repeat' (first | exact trivial | refine ⟨⟨_, rfl, ?_⟩, ?_⟩ | exact .c .d | exact .c (.ptr rfl) | refine .box ?_ | exact .nil | refine .cons ?_ ?_ | exact .d | fail)
  · have e : holdM s h = (noS, 1) := by rw [holdM, if_pos hc]
    have hd : decide (checkS s ≠ 0) = true := by simp [hc]
    rw [e]
    repeat' (first
      | (show VR _ _ _ (_ :: _) _ _ _; first | refine x_opF rfl (by first | exact True.intro | omega) ?_ | (show VR _ _ _ (⟨_, .call ⟨.value _, _, _⟩, _, _, _, _⟩ :: _) _ _ _; first | refine vr_calldU (hck) (gk rfl) rfl rfl rfl (by first | rfl | (simp only [wfRes, wfL, wfArgs, wfs, mpO_namesB, mpO_namesI]; rfl)) rfl (by first | exact newB_nil | exact newB_O | ((simp only [newB, List.map_cons, List.map_nil, Blk.shift, rowOf_shift]) <;> rfl) | rfl) rfl ?_))
      | (show VR _ _ _ [] _ _ _; first | refine vr_nil ?_)
      | (show thenQ _ _ _ _; first | refine q_then_n ?_ | refine q_then_r ?_)
      | refine vc_seq ?_
      | refine vc_region ?_
      | (show VC _ (.cond _ _ _) _ _; first | refine vc_cond_t rfl ?_ | refine x_know rfl (by assumption) ?_)
      | refine vc_ret ?_
      | fail)
    refine retL_of (le_gen0 (l := [(4, .c (.ptr 4 0)), (5, AI 1)]) (b := [(4, .box noS.cs)]) (fun n => n) ?_ ?_ rfl (by first | rfl | (simp only [wfL, wfs, mpO_namesB, mpO_namesI]; rfl))) (ret_agg_dL isRet_r rfl rfl rfl rfl rfl rfl rfl)
    all_goals repeat' (first | exact trivial | refine ⟨⟨_, rfl, ?_⟩, ?_⟩ | exact .c .d | exact .c (.ptr rfl) | refine .box ?_ | exact .nil | refine .cons ?_ ?_ | exact .d | fail)
end Go.Proofs
