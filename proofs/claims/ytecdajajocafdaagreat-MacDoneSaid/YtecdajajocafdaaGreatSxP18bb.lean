/-
  What functions of the given program hand back, by walks over its code, and plain laws on that. No condition.
-/
import Derived.Test.YtecdajajocafdaaGreatSxP18b
-- SXS
-- SXM
namespace Go.Proofs
open Go Go.Sx Go.Proofs.T Go.Proofs.Q
set_option maxRecDepth 4000
set_option linter.unusedSimpArgs false
set_option linter.unusedVariables false
attribute [local irreducible] VR VC thenQ blockQ retL

set_option maxHeartbeats 4000000 in
theorem r_checkS_spec (s : Sta) : FnS Tryz.prog 14 [stA s] [] (AI (checkS s)) [] := by
  have hpow : s.back < 0 ∨ 5 < s.back ∨ (1 ≤ (2 : Int) ^ s.back.toNat ∧ (2 : Int) ^ s.back.toNat ≤ 32) := pow5 s.back
  refine FnS.of_body (enters_of Tryz.func14 (by kernel_rfl) rfl) Tryz.func14 rfl Tryz.ntmps14 Tryz.results14 rfl rfl rfl rfl fun E hS => ?_
  repeat' (first
    | (show VR _ _ _ (_ :: _) _ _ _; first | refine x_opF rfl (by first | exact True.intro | omega) ?_ | (show VR _ _ _ (⟨_, .call ⟨.value _, _, _⟩, _, _, _, _⟩ :: _) _ _ _; first | refine vr_calldU (r_checkT_spec s.tb) (gk rfl) rfl rfl rfl (by first | rfl | (simp only [wfRes, wfL, wfArgs, wfs, mpO_namesB, mpO_namesI]; rfl)) rfl (by first | exact newB_O | rfl) rfl ?_ | refine vr_calldU (r_checkQ_spec s.qu) (gk rfl) rfl rfl rfl (by first | rfl | (simp only [wfRes, wfL, wfArgs, wfs, mpO_namesB, mpO_namesI]; rfl)) rfl (by first | exact newB_O | rfl) rfl ?_) | (refine x_gsplit rfl ?_ ?_ <;> intro h <;> have hq := h <;> (try simp only [hqs] at hq)))
    | (show VR _ _ _ [] _ _ _; first | refine vr_nil ?_)
    | (show thenQ _ _ _ _; first | refine q_then_n ?_ | refine q_then_r ?_)
    | (show VC _ (.seq _ _) _ _; (fail_if_success (show VC _ (.seq (.seq (.region 4 _ _) _) _) _ _)); (fail_if_success (show VC _ (.seq (.region 4 _ _) _) _ _)); refine vc_seq ?_)
    | refine vc_region ?_
    | (show VC _ (.cond _ _ _) _ _; first | refine vc_cond_t rfl ?_ | (refine x_cond rfl ?_ ?_ <;> intro h <;> have hq := h <;> (try simp only [hqs] at hq)))
    | refine vc_ret ?_ | refine vc_block ?_ | refine vc_skip ?_
    | fail)
  · exact ret_int isRet_r rfl (checkS_bad (.inl hq))
  · exact ret_int isRet_r rfl (checkS_bad (.inr (.inl (by unfold packetsB; rw [decide_eq_false hq]; rfl))))
  · exact ret_int isRet_r rfl (checkS_bad (.inr (.inr (.inl (by unfold heldB; rw [decide_eq_false (by omega), Bool.and_false])))))
  have hc : checkQ s.qu = 0 := by assumption
  have hT : checkT s.tb = 0 := by assumption
  have hl := checkQ_len hc
  refine vc_boundB (nm := 1) (j := 6) (n := s.seen.length) rfl rfl fun hbl => ?_
  refine vc_loopI (ι := Nat) (fun k => stOf [(1, .c (.ptr 1 0)), (3, AI k)] [(1, .box s.cs)]) (fun k => k ≤ s.qu.packets.length ∧ ∀ i, i < k → badP s.tb.node (s.qu.packets.getD i default) = false) (fun k => s.qu.packets.length - k) 0 ⟨Nat.zero_le _, fun i hi => absurd hi (Nat.not_lt_zero _)⟩ ?_ ?_
  · refine le_gen0 (fun n => n) ?_ ?_ rfl (by first | rfl | (simp only [wfL, wfs, mpO_namesB, mpO_namesI]; rfl))
    all_goals repeat' (first | exact trivial | refine ⟨⟨_, rfl, ?_⟩, ?_⟩ | exact .c .d | exact .c (.ptr rfl) | exact .boxD rfl rfl | fail)
  · intro k hk
    rcases Nat.lt_or_ge k s.qu.packets.length with hlt | hge
    · repeat' (first
        | (show VR _ _ _ (_ :: _) _ _ _; first | refine x_opF rfl (by first | exact True.intro | omega) ?_ | (show VR _ _ _ (⟨_, .indexAddr _ _ _, _, _, _, _⟩ :: _) _ _ _; first | refine vr_index_rd (gk rfl) rfl rfl rfl rfl rfl (by omega) rfl ?_) | (refine x_gsplit rfl ?_ ?_ <;> intro h <;> have hq := h <;> (try simp only [hqs] at hq)))
        | (show VR _ _ _ [] _ _ _; first | refine vr_nil ?_)
        | (show thenQ _ _ _ _; first | refine q_then_n ?_ | refine q_then_x ?_ | refine q_then_r ?_)
        | (show blockQ _ _ _ _; first | refine q_blk_n ?_ | refine q_blk_r ?_ | refine q_blk_x ?_)
        | refine vc_seq ?_
        | refine vc_region ?_
        | (show VC _ (.cond _ _ _) _ _; first | refine vc_cond_t rfl ?_ | (refine x_cond rfl ?_ ?_ <;> intro h <;> have hq := h <;> (try simp only [hqs] at hq)))
        | refine vc_ret ?_ | refine vc_exit ?_ | refine vc_block ?_ | refine vc_skip ?_
        | fail)
      all_goals first
        | (exfalso; omega)
        | (refine ret_int isRet_r rfl (checkS_bad (.inr (.inl ?_)))
           have hb : badP s.tb.node (s.qu.packets.getD k default) = true := decide_eq_true (by omega)
           have : s.qu.packets.any (badP s.tb.node) = true := List.any_eq_true.2 ⟨_, getD_mem hlt, hb⟩
           unfold packetsB
           rw [this]; simp)
        | (refine ⟨k + 1, ⟨by omega, fun i hi => ?_⟩, by omega, ?_⟩
           · by_cases hik : i < k
             · exact hk.2 i hik
             · have : i = k := by omega
               subst this
               exact decide_eq_false (by omega)
           · refine le_gen0 (fun n => n) ?_ ?_ rfl (by first | rfl | (simp only [wfL, wfs, mpO_namesB, mpO_namesI]; rfl))
             all_goals repeat' (first | exact trivial | refine ⟨⟨_, rfl, ?_⟩, ?_⟩ | exact .c .d | exact .c (.ptr rfl) | exact .boxD rfl rfl | fail)
           )
    · have hP : packetsB s = true := by
        have : s.qu.packets.any (badP s.tb.node) = false := by
          rw [List.any_eq_false]
          intro x hx
          obtain ⟨i, hi, rfl⟩ := mem_getD hx
          rw [hk.2 i (by omega)]; simp
        unfold packetsB
        rw [this, decide_eq_true hc]; rfl
      repeat' (first
        | (show VR _ _ _ (_ :: _) _ _ _; first | refine x_opF rfl (by first | exact True.intro | omega) ?_ | (show VR _ _ _ (⟨_, .indexAddr _ _ _, _, _, _, _⟩ :: _) _ _ _; first | refine vr_index_rd (gk rfl) rfl rfl rfl rfl rfl (by omega) rfl ?_) | (refine x_gsplit rfl ?_ ?_ <;> intro h <;> have hq := h <;> (try simp only [hqs] at hq)))
        | (show VR _ _ _ [] _ _ _; first | refine vr_nil ?_)
        | (show thenQ _ _ _ _; first | refine q_then_n ?_ | refine q_then_x ?_ | refine q_then_r ?_)
        | (show blockQ _ _ _ _; first | refine q_blk_n ?_ | refine q_blk_r ?_ | refine q_blk_x ?_)
        | (show VC _ (.seq _ _) _ _; (fail_if_success (show VC _ (.seq (.seq (.region 10 _ _) _) _) _ _)); (fail_if_success (show VC _ (.seq (.region 10 _ _) _) _ _)); refine vc_seq ?_)
        | refine vc_region ?_
        | (show VC _ (.cond _ _ _) _ _; first | refine vc_cond_t rfl ?_ | (refine x_cond rfl ?_ ?_ <;> intro h <;> have hq := h <;> (try simp only [hqs] at hq)))
        | refine vc_ret ?_ | refine vc_exit ?_ | refine vc_block ?_ | refine vc_skip ?_
        | fail)
      all_goals first
        | (exfalso; omega)
        | skip
      clear hk
      refine vc_loopI (ι := Nat) (fun k => stOf [(1, .c (.ptr 1 0)), (5, AI k)] [(1, .box s.cs)]) (fun k => k ≤ s.held.length ∧ ∀ i, i < k → badHd s.held i = false) (fun k => s.held.length - k) 0 ⟨Nat.zero_le _, fun i hi => absurd hi (Nat.not_lt_zero _)⟩ ?_ ?_
      · refine le_gen0 (fun n => n) ?_ ?_ rfl (by first | rfl | (simp only [wfL, wfs, mpO_namesB, mpO_namesI]; rfl))
        all_goals repeat' (first | exact trivial | refine ⟨⟨_, rfl, ?_⟩, ?_⟩ | exact .c .d | exact .c (.ptr rfl) | exact .boxD rfl rfl | fail)
      · intro k hk
        rcases Nat.lt_or_ge k s.held.length with hlt | hge
        · repeat' (first
            | (show VR _ _ _ (_ :: _) _ _ _; first | refine x_opF rfl (by first | exact True.intro | omega) ?_ | (show VR _ _ _ (⟨_, .call ⟨.value _, _, _⟩, _, _, _, _⟩ :: _) _ _ _; first | refine vr_calldU (heldE_spec _) (gk rfl) rfl rfl rfl (by first | rfl | (simp only [wfRes, wfL, wfArgs, wfs, mpO_namesB, mpO_namesI]; rfl)) rfl (by first | exact newB_O | rfl) rfl ?_) | (show VR _ _ _ (⟨_, .indexAddr _ _ _, _, _, _, _⟩ :: _) _ _ _; first | refine vr_index_rd (gk rfl) rfl rfl rfl rfl rfl (by omega) rfl ?_ | refine vr_index_rdP (gk rfl) rfl rfl rfl rfl rfl (by omega) rfl ?_) | (refine x_gsplit rfl ?_ ?_ <;> intro h <;> have hq := h <;> (try simp only [hqs] at hq)))
            | (show VR _ _ _ [] _ _ _; first | refine vr_nil ?_ | refine vr_nil_t (by kernel_rfl) ?_)
            | (show thenQ _ _ _ _; first | refine q_then_n ?_ | refine q_then_x ?_ | refine q_then_r ?_)
            | (show blockQ _ _ _ _; first | refine q_blk_n ?_ | refine q_blk_r ?_ | refine q_blk_x ?_)
            | refine vc_seq ?_
            | refine vc_region ?_ | refine vc_region_t ?_
            | (show VC _ (.cond _ _ _) _ _; first | refine vc_cond_t rfl ?_ | refine vc_cond_f rfl ?_ | (refine x_cond rfl ?_ ?_ <;> intro h <;> have hq := h <;> (try simp only [hqs] at hq)))
            | refine vc_ret ?_ | refine vc_exit ?_ | refine vc_block ?_ | refine vc_skip ?_
            | fail)
          all_goals first
            | (exfalso; omega)
            | skip
          · exact ret_int isRet_r rfl (checkS_bad (.inr (.inr (.inl (heldB_bad hlt (badHd_true (.inl hq)))))))
          · exact ret_int isRet_r rfl (checkS_bad (.inr (.inr (.inl (heldB_bad hlt (badHd_true (.inr ⟨by omega, hq⟩)))))))
          · refine ⟨k + 1, ⟨by omega, fun i hi => ?_⟩, by omega, ?_⟩
            · by_cases hik : i < k
              · exact hk.2 i hik
              · have : i = k := by omega
                subst this
                exact badHd_false (by assumption) (by omega)
            · refine le_gen0 (fun n => n) ?_ ?_ rfl (by first | rfl | (simp only [wfL, wfs, mpO_namesB, mpO_namesI]; rfl))
              all_goals repeat' (first | exact trivial | refine ⟨⟨_, rfl, ?_⟩, ?_⟩ | exact .c .d | exact .c (.ptr rfl) | exact .boxD rfl rfl | fail)
          · refine ⟨k + 1, ⟨by omega, fun i hi => ?_⟩, by omega, ?_⟩
            · by_cases hik : i < k
              · exact hk.2 i hik
              · have : i = k := by omega
                subst this
                exact badHd_false (by assumption) (by omega)
            · refine le_gen0 (fun n => n) ?_ ?_ rfl (by first | rfl | (simp only [wfL, wfs, mpO_namesB, mpO_namesI]; rfl))
              all_goals repeat' (first | exact trivial | refine ⟨⟨_, rfl, ?_⟩, ?_⟩ | exact .c .d | exact .c (.ptr rfl) | exact .boxD rfl rfl | fail)
        · have hH : heldB s.held = true := by
            unfold heldB
            rw [anyR_none fun i hi => hk.2 i (by omega), decide_eq_true (by omega)]; rfl
          repeat' (first
            | (show VR _ _ _ (_ :: _) _ _ _; first | refine x_opF rfl (by first | exact True.intro | omega) ?_ | (show VR _ _ _ (⟨_, .indexAddr _ _ _, _, _, _, _⟩ :: _) _ _ _; first | refine vr_index_rd (gk rfl) rfl rfl rfl rfl rfl (by omega) rfl ?_))
            | (show VR _ _ _ [] _ _ _; first | refine vr_nil ?_)
            | (show thenQ _ _ _ _; first | refine q_then_n ?_ | refine q_then_x ?_)
            | (show blockQ _ _ _ _; first | refine q_blk_x ?_)
            | (show VC _ (.seq _ _) _ _; (fail_if_success (show VC _ (.seq (.seq (.region 15 _ _) _) _) _ _)); (fail_if_success (show VC _ (.seq (.region 15 _ _) _) _ _)); refine vc_seq ?_)
            | refine vc_region ?_ | refine vc_region_t ?_
            | (show VC _ (.cond _ _ _) _ _; first | (refine x_cond rfl ?_ ?_ <;> intro h <;> have hq := h <;> (try simp only [hqs] at hq)))
            | refine vc_exit ?_ | refine vc_block ?_ | refine vc_skip ?_
            | fail)
          all_goals first
            | (exfalso; omega)
            | skip
          clear hk
          refine vc_loopI (ι := Nat) (fun k => stOf [(1, .c (.ptr 1 0)), (6, AI k)] [(1, .box s.cs)]) (fun k => k ≤ s.seen.length ∧ ∀ i, i < k → badSn s.seen i = false) (fun k => s.seen.length - k) 0 ⟨Nat.zero_le _, fun i hi => absurd hi (Nat.not_lt_zero _)⟩ ?_ ?_
          · refine le_gen0 (fun n => n) ?_ ?_ rfl (by first | rfl | (simp only [wfL, wfs, mpO_namesB, mpO_namesI]; rfl))
            all_goals repeat' (first | exact trivial | refine ⟨⟨_, rfl, ?_⟩, ?_⟩ | exact .c .d | exact .c (.ptr rfl) | exact .boxD rfl rfl | fail)
          · intro k hk
            rcases Nat.lt_or_ge k s.seen.length with hlt | hge
            · repeat' (first
                | (show VR _ _ _ (_ :: _) _ _ _; first | refine x_opF rfl (by first | exact True.intro | omega) ?_ | (show VR _ _ _ (⟨_, .call ⟨.value _, _, _⟩, _, _, _, _⟩ :: _) _ _ _; first | refine vr_calldU (rnode_spec (s.seen.getD k default).node) (gk rfl) rfl rfl rfl (by first | rfl | (simp only [wfRes, wfL, wfArgs, wfs, mpO_namesB, mpO_namesI]; rfl)) rfl (by first | exact newB_O | rfl) rfl ?_ | refine vr_calldU (octet_spec (s.seen.getD k default).seq) (gk rfl) rfl rfl rfl (by first | rfl | (simp only [wfRes, wfL, wfArgs, wfs, mpO_namesB, mpO_namesI]; rfl)) rfl (by first | exact newB_O | rfl) rfl ?_) | (show VR _ _ _ (⟨_, .indexAddr _ _ _, _, _, _, _⟩ :: _) _ _ _; first | refine vr_index_rd (gk rfl) rfl rfl rfl rfl rfl (by omega) rfl ?_ | refine vr_index_rdP (gk rfl) rfl rfl rfl rfl rfl (by omega) rfl ?_) | (refine x_gsplit rfl ?_ ?_ <;> intro h <;> have hq := h <;> (try simp only [hqs] at hq)))
                | (show VR _ _ _ [] _ _ _; first | refine vr_nil ?_ | refine vr_nil_t (by kernel_rfl) ?_)
                | (show thenQ _ _ _ _; first | refine q_then_n ?_ | refine q_then_x ?_ | refine q_then_r ?_)
                | (show blockQ _ _ _ _; first | refine q_blk_n ?_ | refine q_blk_r ?_ | refine q_blk_x ?_)
                | refine vc_seq ?_
                | refine vc_region ?_ | refine vc_region_t ?_
                | (show VC _ (.cond _ _ _) _ _; first | refine vc_cond_t rfl ?_ | refine vc_cond_f rfl ?_ | (refine x_cond rfl ?_ ?_ <;> intro h <;> have hq := h <;> (try simp only [hqs] at hq)))
                | refine vc_ret ?_ | refine vc_exit ?_ | refine vc_block ?_ | refine vc_skip ?_
                | fail)
              all_goals first
                | (exfalso; omega)
                | (refine ret_int isRet_r rfl (checkS_bad (.inr (.inr (.inr (.inl (seenB_bad hlt ?_))))))
                   refine decide_eq_true ?_
                   omega)
                | (refine ⟨k + 1, ⟨by omega, fun i hi => ?_⟩, by omega, ?_⟩
                   · by_cases hik : i < k
                     · exact hk.2 i hik
                     · have : i = k := by omega
                       subst this
                       refine decide_eq_false ?_
                       omega
                   · refine le_gen0 (fun n => n) ?_ ?_ rfl (by first | rfl | (simp only [wfL, wfs, mpO_namesB, mpO_namesI]; rfl))
                     all_goals repeat' (first | exact trivial | refine ⟨⟨_, rfl, ?_⟩, ?_⟩ | exact .c .d | exact .c (.ptr rfl) | exact .boxD rfl rfl | fail)
                   )
            · have hN : seenB s.seen = true := by
                unfold seenB
                rw [anyR_none fun i hi => hk.2 i (by omega)]; rfl
              have hix := index_spec s.qu.packets s.trying
              rcases Int.lt_or_le s.back 0 with hb0 | hb0
              · have hd : decide (s.back < 0) = true := decide_eq_true hb0
                repeat' (first
                  | (show VR _ _ _ (_ :: _) _ _ _; first | refine x_opF rfl (by first | exact True.intro | omega) ?_ | (show VR _ _ _ (⟨_, .call ⟨.value _, _, _⟩, _, _, _, _⟩ :: _) _ _ _; first | refine vr_calldU (octet_spec _) (gk rfl) rfl rfl rfl (by first | rfl | (simp only [wfRes, wfL, wfArgs, wfs, mpO_namesB, mpO_namesI]; rfl)) rfl (by first | exact newB_O | rfl) rfl ?_) | (show VR _ _ _ (⟨_, .indexAddr _ _ _, _, _, _, _⟩ :: _) _ _ _; first | refine vr_index_rd (gk rfl) rfl rfl rfl rfl rfl (by omega) rfl ?_) | refine x_gknow rfl (by assumption) ?_ | (refine x_gsplit rfl ?_ ?_ <;> intro h <;> have hq := h <;> (try simp only [hqs] at hq)))
                  | (show VR _ _ _ [] _ _ _; first | refine vr_nil ?_ | refine vr_nil_t (by kernel_rfl) ?_)
                  | (show thenQ _ _ _ _; first | refine q_then_n ?_ | refine q_then_x ?_ | refine q_then_r ?_)
                  | (show blockQ _ _ _ _; first | refine q_blk_x ?_)
                  | (show VC _ (.seq _ _) _ _; (fail_if_success (show VC _ (.seq (.seq (.region 21 _ _) _) _) _ _)); (fail_if_success (show VC _ (.seq (.region 21 _ _) _) _ _)); refine vc_seq ?_)
                  | refine vc_region ?_ | refine vc_region_t ?_
                  | (show VC _ (.cond _ _ _) _ _; first | refine vc_cond_t rfl ?_ | (refine x_cond rfl ?_ ?_ <;> intro h <;> have hq := h <;> (try simp only [hqs] at hq)))
                  | refine vc_ret ?_ | refine vc_exit ?_ | refine vc_block ?_ | refine vc_skip ?_
                  | fail)
                all_goals first
                  | (exfalso; omega)
                  | (refine ret_int isRet_r rfl (checkS_bad (.inr (.inr (.inr (.inr (.inr ?_)))))); exact decide_eq_false (by omega))
              rcases Int.lt_or_le 5 s.back with hb5 | hb5
              · have hd : decide (5 < s.back) = true := decide_eq_true hb5
                repeat' (first
                  | (show VR _ _ _ (_ :: _) _ _ _; first | refine x_opF rfl (by first | exact True.intro | omega) ?_ | (show VR _ _ _ (⟨_, .call ⟨.value _, _, _⟩, _, _, _, _⟩ :: _) _ _ _; first | refine vr_calldU (octet_spec _) (gk rfl) rfl rfl rfl (by first | rfl | (simp only [wfRes, wfL, wfArgs, wfs, mpO_namesB, mpO_namesI]; rfl)) rfl (by first | exact newB_O | rfl) rfl ?_) | (show VR _ _ _ (⟨_, .indexAddr _ _ _, _, _, _, _⟩ :: _) _ _ _; first | refine vr_index_rd (gk rfl) rfl rfl rfl rfl rfl (by omega) rfl ?_) | refine x_gknow rfl (by assumption) ?_ | (refine x_gsplit rfl ?_ ?_ <;> intro h <;> have hq := h <;> (try simp only [hqs] at hq)))
                  | (show VR _ _ _ [] _ _ _; first | refine vr_nil ?_ | refine vr_nil_t (by kernel_rfl) ?_)
                  | (show thenQ _ _ _ _; first | refine q_then_n ?_ | refine q_then_x ?_ | refine q_then_r ?_)
                  | (show blockQ _ _ _ _; first | refine q_blk_x ?_)
                  | (show VC _ (.seq _ _) _ _; (fail_if_success (show VC _ (.seq (.seq (.region 21 _ _) _) _) _ _)); (fail_if_success (show VC _ (.seq (.region 21 _ _) _) _ _)); refine vc_seq ?_)
                  | refine vc_region ?_ | refine vc_region_t ?_
                  | (show VC _ (.cond _ _ _) _ _; first | refine vc_cond_t rfl ?_ | (refine x_cond rfl ?_ ?_ <;> intro h <;> have hq := h <;> (try simp only [hqs] at hq)))
                  | refine vc_ret ?_ | refine vc_exit ?_ | refine vc_block ?_ | refine vc_skip ?_
                  | fail)
                all_goals first
                  | (exfalso; omega)
                  | (refine ret_int isRet_r rfl (checkS_bad (.inr (.inr (.inr (.inr (.inr ?_)))))); exact decide_eq_false (by omega))
              have hpw := power_spec s.back ⟨hb0, hb5⟩
              repeat' (first
                | (show VR _ _ _ (_ :: _) _ _ _; first | refine x_opF rfl (by first | exact True.intro | omega) ?_ | (show VR _ _ _ (⟨_, .call ⟨.value _, _, _⟩, _, _, _, _⟩ :: _) _ _ _; first | refine vr_calldU (octet_spec _) (gk rfl) rfl rfl rfl (by first | rfl | (simp only [wfRes, wfL, wfArgs, wfs, mpO_namesB, mpO_namesI]; rfl)) rfl (by first | exact newB_O | rfl) rfl ?_ | refine vr_calldU (hpw) (gk rfl) rfl rfl rfl (by first | rfl | (simp only [wfRes, wfL, wfArgs, wfs, mpO_namesB, mpO_namesI]; rfl)) rfl (by first | exact newB_O | rfl) rfl ?_) | (show VR _ _ _ (⟨_, .indexAddr _ _ _, _, _, _, _⟩ :: _) _ _ _; first | refine vr_index_rd (gk rfl) rfl rfl rfl rfl rfl (by omega) rfl ?_) | (refine x_gsplit rfl ?_ ?_ <;> intro h <;> have hq := h <;> (try simp only [hqs] at hq)))
                | (show VR _ _ _ [] _ _ _; first | refine vr_nil ?_ | refine vr_nil_t (by kernel_rfl) ?_)
                | (show thenQ _ _ _ _; first | refine q_then_n ?_ | refine q_then_x ?_ | refine q_then_r ?_)
                | (show blockQ _ _ _ _; first | refine q_blk_x ?_)
                | (show VC _ (.seq _ _) _ _; (fail_if_success (show VC _ (.seq (.seq (.region 21 _ _) _) _) _ _)); (fail_if_success (show VC _ (.seq (.region 21 _ _) _) _ _)); refine vc_seq ?_)
                | refine vc_region ?_ | refine vc_region_t ?_
                | (show VC _ (.cond _ _ _) _ _; first | refine vc_cond_t rfl ?_ | (refine x_cond rfl ?_ ?_ <;> intro h <;> have hq := h <;> (try simp only [hqs] at hq)))
                | refine vc_ret ?_ | refine vc_exit ?_ | refine vc_block ?_ | refine vc_skip ?_
                | fail)
              all_goals first
                | (exfalso; omega)
                | (refine ret_int isRet_r rfl (checkS_bad (.inr (.inr (.inr (.inr (.inr ?_)))))); exact decide_eq_false (by omega))
                | skip
              have hR : restB s = true := decide_eq_true (by omega)
              cases hf : fstO s.qu.packets (fun x => decide (x.id = s.trying)) with
              | none =>
                rw [hf] at hix
                have hix' : FnS Tryz.prog 48 [AD (pks s.qu.packets), AI s.trying] [] (AI (-1)) [] := hix
                have hh : hasB s.qu.packets s.trying = false := by
                  have := fstO_any s.qu.packets (fun x => decide (x.id = s.trying))
                  rw [hf] at this
                  exact this.symm
                repeat' (first
                  | (show VR _ _ _ (_ :: _) _ _ _; first | refine x_opF rfl (by first | exact True.intro | omega) ?_ | (show VR _ _ _ (⟨_, .call ⟨.value _, _, _⟩, _, _, _, _⟩ :: _) _ _ _; first | refine vr_calldU (hix') (gk rfl) rfl rfl rfl (by first | rfl | (simp only [wfRes, wfL, wfArgs, wfs, mpO_namesB, mpO_namesI]; rfl)) rfl (by first | exact newB_O | rfl) rfl ?_) | (refine x_gsplit rfl ?_ ?_ <;> intro h <;> have hq := h <;> (try simp only [hqs] at hq)))
                  | (show VR _ _ _ [] _ _ _; first | refine vr_nil ?_)
                  | (show thenQ _ _ _ _; first | refine q_then_n ?_ | refine q_then_r ?_)
                  | refine vc_seq ?_
                  | refine vc_region ?_
                  | (show VC _ (.cond _ _ _) _ _; first | refine vc_cond_t rfl ?_ | refine vc_cond_f rfl ?_ | (refine x_cond rfl ?_ ?_ <;> intro h <;> have hq := h <;> (try simp only [hqs] at hq)))
                  | refine vc_ret ?_ | refine vc_skip ?_
                  | fail)
                all_goals first
                  | exact ret_int isRet_r rfl (checkS_good hT hP hH hN (decide_eq_true (.inl ⟨by omega, by omega⟩)) hR)
                  | (refine ret_int isRet_r rfl (checkS_bad (.inr (.inr (.inr (.inr (.inl (decide_eq_false ?_)))))))
                     rw [hh]
                     simp
                     omega)
                  | (exfalso; omega)
              | some i =>
                rw [hf] at hix
                have hix' : FnS Tryz.prog 48 [AD (pks s.qu.packets), AI s.trying] [] (AI (i : Nat)) [] := hix
                obtain ⟨hi, he, _⟩ := fstO_some hf
                have hh : hasB s.qu.packets s.trying = true := List.any_eq_true.2 ⟨_, getD_mem hi, he⟩
                have hid : 0 ≤ s.trying := by
                  have h1 := (checkQ_at hc hi).1
                  have h2 := of_decide_eq_true he
                  unfold formP at h1
                  split at h1
                  · cases h1
                  · omega
                repeat' (first
                  | (show VR _ _ _ (_ :: _) _ _ _; first | refine x_opF rfl (by first | exact True.intro | omega) ?_ | (show VR _ _ _ (⟨_, .call ⟨.value _, _, _⟩, _, _, _, _⟩ :: _) _ _ _; first | refine vr_calldU (hix') (gk rfl) rfl rfl rfl (by first | rfl | (simp only [wfRes, wfL, wfArgs, wfs, mpO_namesB, mpO_namesI]; rfl)) rfl (by first | exact newB_O | rfl) rfl ?_) | (refine x_gsplit rfl ?_ ?_ <;> intro h <;> have hq := h <;> (try simp only [hqs] at hq)))
                  | (show VR _ _ _ [] _ _ _; first | refine vr_nil ?_)
                  | (show thenQ _ _ _ _; first | refine q_then_n ?_ | refine q_then_r ?_)
                  | refine vc_seq ?_
                  | refine vc_region ?_
                  | (show VC _ (.cond _ _ _) _ _; first | refine vc_cond_t rfl ?_ | refine vc_cond_f rfl ?_ | (refine x_cond rfl ?_ ?_ <;> intro h <;> have hq := h <;> (try simp only [hqs] at hq)))
                  | refine vc_ret ?_ | refine vc_skip ?_
                  | fail)
                all_goals first
                  | exact ret_int isRet_r rfl (checkS_good hT hP hH hN (decide_eq_true (.inl ⟨by omega, by omega⟩)) hR)
                  | exact ret_int isRet_r rfl (checkS_good hT hP hH hN (decide_eq_true (.inr ⟨by omega, hh, by omega, by omega⟩)) hR)
                  | (refine ret_int isRet_r rfl (checkS_bad (.inr (.inr (.inr (.inr (.inl (decide_eq_false ?_)))))))
                     rw [hh]
                     simp
                     omega)
                  | (exfalso; omega)
end Go.Proofs


