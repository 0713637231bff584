/-
  What functions of the given program hand back, by walks over its code, and plain laws on that. No condition.
-/
import Derived.Test.YtecdajajocafdaaGreatSxP18a
import Derived.Test.YtecdajajocafdaaGreatSxLibC
-- SXS
-- SXM
namespace Go.Proofs
open Go Go.Sx Go.Proofs.T Go.Proofs.Q
set_option maxRecDepth 4000
set_option linter.unusedSimpArgs false
set_option linter.unusedVariables false
attribute [local irreducible] VR VC thenQ blockQ retL
/-! The reference's checks. -/
theorem rnode_spec (n : Int) : FnS Tryz.prog 45 [AI n] [] (AB (decide (0 ≤ n ∧ n ≤ 31))) [] := by
  refine FnS.of_body (enters_of Tryz.func45 (by kernel_rfl) rfl) Tryz.func45 rfl Tryz.ntmps45 Tryz.results45 rfl rfl rfl rfl fun E hS => ?_
  repeat' (first
    | (show VR _ _ _ (_ :: _) _ _ _; first | refine x_opF rfl (by first | exact True.intro | omega) ?_ | (refine x_gsplit rfl ?_ ?_ <;> intro h <;> have hq := h <;> (try simp only [hqs] at hq)))
    | (show VR _ _ _ [] _ _ _; first | refine vr_nil ?_)
    | (show thenQ _ _ _ _; first | refine q_then_n ?_)
    | refine vc_seq ?_
    | refine vc_region ?_
    | refine vc_ret ?_
    | fail)
  · refine ret_bool isRet_r rfl ?_
    exact decide_eq_decide.2 (by omega)
  · refine ret_bool isRet_r rfl ?_
    exact decide_eq_false (by omega)
theorem octet_spec (n : Int) : FnS Tryz.prog 46 [AI n] [] (AB (decide (0 ≤ n ∧ n ≤ 255))) [] := by
  refine FnS.of_body (enters_of Tryz.func46 (by kernel_rfl) rfl) Tryz.func46 rfl Tryz.ntmps46 Tryz.results46 rfl rfl rfl rfl fun E hS => ?_
  repeat' (first
    | (show VR _ _ _ (_ :: _) _ _ _; first | refine x_opF rfl (by first | exact True.intro | omega) ?_ | (refine x_gsplit rfl ?_ ?_ <;> intro h <;> have hq := h <;> (try simp only [hqs] at hq)))
    | (show VR _ _ _ [] _ _ _; first | refine vr_nil ?_)
    | (show thenQ _ _ _ _; first | refine q_then_n ?_)
    | refine vc_seq ?_
    | refine vc_region ?_
    | refine vc_ret ?_
    | fail)
  · refine ret_bool isRet_r rfl ?_
    exact decide_eq_decide.2 (by omega)
  · refine ret_bool isRet_r rfl ?_
    exact decide_eq_false (by omega)
def heldE (h : Hd) : Int := if rangesB h = false then 2 else if 100 < h.data.size then 8 else 0
theorem heldE_bad {h : Hd} (hb : ¬ (0 ≤ h.flow ∧ h.flow ≤ 255 ∧ 0 ≤ h.frame ∧ h.frame ≤ 65535 ∧ 0 ≤ h.til ∧ h.til ≤ 109951162)) : heldE h = 2 := by
  rw [heldE, if_pos]
  rw [rangesB, decide_eq_false hb]; rfl
theorem heldE_of {h : Hd} (hb : 0 ≤ h.flow ∧ h.flow ≤ 255 ∧ 0 ≤ h.frame ∧ h.frame ≤ 65535 ∧ 0 ≤ h.til ∧ h.til ≤ 109951162) : heldE h = if risingB h.acked = false then 2 else if 100 < h.data.size then 8 else 0 := by
  rw [heldE, rangesB, decide_eq_true hb]; rfl
set_option maxHeartbeats 1000000 in
theorem heldE_spec (x : Hd) : FnS Tryz.prog 44 [hdA x] [] (AI (heldE x)) [] := by
  refine FnS.of_body (enters_of Tryz.func44 (by kernel_rfl) rfl) Tryz.func44 rfl Tryz.ntmps44 Tryz.results44 rfl rfl rfl rfl fun E hS => ?_
  repeat' (first
    | (show VR _ _ _ (_ :: _) _ _ _; first | refine x_opF rfl (by first | exact True.intro | omega) ?_ | (show VR _ _ _ (⟨_, .call ⟨.value _, _, _⟩, _, _, _, _⟩ :: _) _ _ _; first | refine vr_calldU (octet_spec _) (gk rfl) rfl rfl rfl (by first | rfl | (simp only [wfRes, wfL, wfArgs, wfs, mpO_namesB, mpO_namesI]; rfl)) rfl (by first | exact newB_O | rfl) rfl ?_) | (refine x_gsplit rfl ?_ ?_ <;> intro h <;> have hq := h <;> (try simp only [hqs] at hq)))
    | (show VR _ _ _ [] _ _ _; first | refine vr_nil ?_)
    | (show thenQ _ _ _ _; first | refine q_then_n ?_ | refine q_then_r ?_)
    | (show VC _ (.seq _ _) _ _; (fail_if_success (show VC _ (.seq (.seq (.region 4 _ _) _) _) _ _)); (fail_if_success (show VC _ (.seq (.region 4 _ _) _) _ _)); refine vc_seq ?_)
    | refine vc_region ?_
    | (show VC _ (.cond _ _ _) _ _; first | refine vc_cond_t rfl ?_ | (refine x_cond rfl ?_ ?_ <;> intro h <;> have hq := h <;> (try simp only [hqs] at hq)))
    | refine vc_ret ?_ | refine vc_block ?_ | refine vc_skip ?_
    | fail)
  all_goals first
    | (refine ret_int isRet_r rfl ?_
       exact heldE_bad (by omega))
    | skip
  have hb : 0 ≤ x.flow ∧ x.flow ≤ 255 ∧ 0 ≤ x.frame ∧ x.frame ≤ 65535 ∧ 0 ≤ x.til ∧ x.til ≤ 109951162 := by omega
  rw [heldE_of hb]
  refine VC.le (σ' := stOf [(1, .c (.ptr 1 0)), (3, AI 0)] [(1, .box x.cs)]) ?_ ?_
  · refine le_gen0 (fun n => n) ?_ ?_ rfl (by first | rfl | (simp only [wfL, wfs, mpO_namesB, mpO_namesI]; rfl))
    all_goals repeat' (first | exact trivial | refine ⟨⟨_, rfl, ?_⟩, ?_⟩ | exact .c .d | exact .c (.ptr rfl) | exact .boxD rfl rfl | fail)
  refine vc_boundB (nm := 1) (j := 4) (n := x.acked.length) rfl rfl fun hbl => ?_
  refine vc_loopI (ι := Nat) (fun k => stOf [(1, .c (.ptr 1 0)), (3, AI k)] [(1, .box x.cs)]) (fun k => k ≤ x.acked.length ∧ ∀ i, i < k → badR x.acked i = false) (fun k => x.acked.length - k) 0 ⟨Nat.zero_le _, fun i hi => absurd hi (Nat.not_lt_zero _)⟩ ?_ ?_
  · refine le_gen0 (fun n => n) ?_ ?_ rfl (by first | rfl | (simp only [wfL, wfs, mpO_namesB, mpO_namesI]; rfl))
    all_goals repeat' (first | exact trivial | refine ⟨⟨_, rfl, ?_⟩, ?_⟩ | exact .c .d | exact .c (.ptr rfl) | exact .boxD rfl rfl | fail)
  · intro k hk
    repeat' (first
      | (show VR _ _ _ (_ :: _) _ _ _; first | refine x_opF rfl (by first | exact True.intro | omega) ?_ | (show VR _ _ _ (⟨_, .call ⟨.value _, _, _⟩, _, _, _, _⟩ :: _) _ _ _; first | refine vr_calldU (rnode_spec _) (gk rfl) rfl rfl rfl (by first | rfl | (simp only [wfRes, wfL, wfArgs, wfs, mpO_namesB, mpO_namesI]; rfl)) rfl (by first | exact newB_O | rfl) rfl ?_) | (show VR _ _ _ (⟨_, .indexAddr _ _ _, _, _, _, _⟩ :: _) _ _ _; first | refine vr_index_rd (gk rfl) rfl rfl rfl rfl rfl (by omega) rfl ?_ | refine vr_index_rdP (gk rfl) rfl rfl rfl rfl rfl (by omega) rfl ?_) | (refine x_gsplit rfl ?_ ?_ <;> intro h <;> have hq := h <;> (try simp only [hqs] at hq)))
      | (show VR _ _ _ [] _ _ _; first | refine vr_nil ?_ | refine vr_nil_t (by kernel_rfl) ?_)
      | (show thenQ _ _ _ _; first | refine q_then_n ?_ | refine q_then_x ?_ | refine q_then_r ?_)
      | (show blockQ _ _ _ _; first | refine q_blk_n ?_ | refine q_blk_r ?_ | refine q_blk_x ?_)
      | refine vc_seq ?_
      | refine vc_region ?_ | refine vc_region_t ?_
      | (show VC _ (.cond _ _ _) _ _; first | refine vc_cond_t rfl ?_ | refine vc_cond_f rfl ?_ | (refine x_cond rfl ?_ ?_ <;> intro h <;> have hq := h <;> (try simp only [hqs] at hq)))
      | refine vc_ret ?_ | refine vc_exit ?_ | refine vc_block ?_ | refine vc_skip ?_
      | fail)
    · have hr : risingB x.acked = false := by rw [risingB, anyR_hit (k := k) (by omega) (decide_eq_true (by omega))]; rfl
      rw [if_pos hr]
      exact ret_int isRet_r rfl rfl
    · have hr : risingB x.acked = false := by rw [risingB, anyR_hit (k := k) (by omega) (decide_eq_true (by omega))]; rfl
      rw [if_pos hr]
      exact ret_int isRet_r rfl rfl
    · refine ⟨k + 1, ⟨by omega, fun i hi => ?_⟩, by omega, ?_⟩
      · by_cases hik : i < k
        · exact hk.2 i hik
        · have : i = k := by omega
          subst this
          exact decide_eq_false (by omega)
      · refine le_gen0 (fun n => n) ?_ ?_ rfl (by first | rfl | (simp only [wfL, wfs, mpO_namesB, mpO_namesI]; rfl))
        all_goals repeat' (first | exact trivial | refine ⟨⟨_, rfl, ?_⟩, ?_⟩ | exact .c .d | exact .c (.ptr rfl) | exact .boxD rfl rfl | fail)
    · refine ⟨k + 1, ⟨by omega, fun i hi => ?_⟩, by omega, ?_⟩
      · by_cases hik : i < k
        · exact hk.2 i hik
        · have : i = k := by omega
          subst this
          exact decide_eq_false (by omega)
      · refine le_gen0 (fun n => n) ?_ ?_ rfl (by first | rfl | (simp only [wfL, wfs, mpO_namesB, mpO_namesI]; rfl))
        all_goals repeat' (first | exact trivial | refine ⟨⟨_, rfl, ?_⟩, ?_⟩ | exact .c .d | exact .c (.ptr rfl) | exact .boxD rfl rfl | fail)
    · have hr : risingB x.acked = true := by rw [risingB, anyR_none fun i hi => hk.2 i (by omega)]; rfl
      rw [if_neg (by rw [hr]; simp), if_pos (by omega)]
      exact ret_int isRet_r rfl rfl
    · have hr : risingB x.acked = true := by rw [risingB, anyR_none fun i hi => hk.2 i (by omega)]; rfl
      rw [if_neg (by rw [hr]; simp), if_neg (by omega)]
      exact ret_int isRet_r rfl rfl
theorem power_spec (n : Int) (hn : 0 ≤ n ∧ n ≤ 5) : FnS Tryz.prog 47 [AI n] [] (AI (2 ^ n.toNat)) [] := by
  refine FnS.of_body (enters_of Tryz.func47 (by kernel_rfl) rfl) Tryz.func47 rfl Tryz.ntmps47 Tryz.results47 rfl rfl rfl rfl fun E hS => ?_
  repeat' (first
    | (show VR _ _ _ (_ :: _) _ _ _; first | refine x_opF rfl (by first | exact True.intro | omega) ?_)
    | (show VR _ _ _ [] _ _ _; first | refine vr_nil ?_)
    | (show thenQ _ _ _ _; first | refine q_then_n ?_)
    | refine vc_seq ?_
    | refine vc_region ?_
    | refine vc_block ?_
    | fail)
  refine vc_loopI (ι := Nat) (fun k => stOf [(0, AI n), (3, AI (2 ^ k)), (4, AI k)] []) (fun k => k ≤ n.toNat) (fun k => n.toNat - k) 0 (Nat.zero_le _) ?_ ?_
  · refine le_gen0 (fun n => n) ?_ ?_ rfl (by first | rfl | (simp only [wfL, wfs, mpO_namesB, mpO_namesI]; rfl))
    all_goals repeat' (first | exact trivial | refine ⟨⟨_, rfl, ?_⟩, ?_⟩ | exact .c .d | fail)
  · intro k hk
    have hp : (2 : Int) ^ k ≤ 32 ∧ 1 ≤ (2 : Int) ^ k := by
      have : k = 0 ∨ k = 1 ∨ k = 2 ∨ k = 3 ∨ k = 4 ∨ k = 5 := by omega
      rcases this with rfl | rfl | rfl | rfl | rfl | rfl <;> decide
    have e : (2 : Int) ^ (k + 1) = 2 * 2 ^ k := by rw [Int.pow_succ, Int.mul_comm]
    repeat' (first
      | (show VR _ _ _ (_ :: _) _ _ _; first | refine x_opF rfl (by first | exact True.intro | omega) ?_)
      | (show VR _ _ _ [] _ _ _; first | refine vr_nil ?_)
      | (show thenQ _ _ _ _; first | refine q_then_n ?_ | refine q_then_x ?_)
      | (show blockQ _ _ _ _; first | refine q_blk_n ?_ | refine q_blk_x ?_)
      | refine vc_seq ?_
      | refine vc_region ?_
      | (show VC _ (.cond _ _ _) _ _; first | (refine x_cond rfl ?_ ?_ <;> intro h <;> have hq := h <;> (try simp only [hqs] at hq)))
      | refine vc_ret ?_ | refine vc_exit ?_ | refine vc_block ?_ | refine vc_skip ?_
      | fail)
    · refine ⟨k + 1, by omega, by omega, ?_⟩
      rw [e]
      refine le_gen0 (fun n => n) ?_ ?_ rfl (by first | rfl | (simp only [wfL, wfs, mpO_namesB, mpO_namesI]; rfl))
      all_goals repeat' (first | exact trivial | refine ⟨⟨_, rfl, ?_⟩, ?_⟩ | exact .c .d | fail)
    · have hk' : k = n.toNat := by omega
      rw [hk']
      exact ret_int isRet_r rfl rfl
theorem heldE_iff (x : Hd) : heldE x = 0 ↔ ¬ (rangesB x = false ∨ 100 < x.data.size) := by
  unfold heldE
  split
  · simp_all
  · split <;> simp_all
theorem badHd_true {l : List Hd} {k : Nat} (h : ¬ heldE (l.getD k default) = 0 ∨ (0 < k ∧ (l.getD k default).flow ≤ (l.getD (k - 1) default).flow)) : badHd l k = true := by
  refine decide_eq_true ?_
  rcases h with h | h
  · have h2 := fun h3 => h ((heldE_iff _).2 h3)
    rcases Classical.not_not.1 h2 with h4 | h4
    · exact .inl h4
    · exact .inr (.inl h4)
  · exact .inr (.inr h)
theorem badHd_false {l : List Hd} {k : Nat} (h : heldE (l.getD k default) = 0) (h2 : ¬ (0 < k ∧ (l.getD k default).flow ≤ (l.getD (k - 1) default).flow)) : badHd l k = false := by
  refine decide_eq_false ?_
  have h3 := (heldE_iff _).1 h
  rintro (h4 | h4 | h4)
  · exact h3 (.inl h4)
  · exact h3 (.inr h4)
  · exact h2 h4
theorem heldB_bad {l : List Hd} {k : Nat} (hk : k < l.length) (h : badHd l k = true) : heldB l = false := by
  unfold heldB
  rw [anyR_hit hk h]; simp
theorem seenB_bad {l : List Sn} {k : Nat} (hk : k < l.length) (h : badSn l k = true) : seenB l = false := by
  unfold seenB
  rw [anyR_hit hk h]; rfl
end Go.Proofs
