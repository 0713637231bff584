/-
  What functions of the given program hand back, by walks over its code, and plain laws on that. No condition.
-/
import Derived.Test.YtecdajajocafdaaGreatSxP18t
-- SXS
-- SXM
-- SXN
namespace Go.Proofs
open Go Go.Sx Go.Proofs.T Go.Proofs.Q
set_option maxRecDepth 4000
set_option linter.unusedSimpArgs false
set_option linter.unusedVariables false
attribute [local irreducible] VR VC thenQ blockQ retL

def fewH (h : Hd) : Bool := decide (h.data.size ≤ 200) && decide (h.acked.length ≤ 40)
def fewS (s : Sta) : Bool := fewT s.tb && fewQ s.qu && decide (s.held.length ≤ 20) && decide (s.seen.length ≤ 40) && s.held.all fewH
set_option maxHeartbeats 2000000 in
theorem fewS_spec (s : Sta) : FnS Tryz.prog 10 [stA s] [] (AB (fewS s)) [] := by
  refine FnS.of_body (enters_of Tryz.func10 (by kernel_rfl) rfl) Tryz.func10 rfl Tryz.ntmps10 Tryz.results10 rfl rfl rfl rfl fun E hS => ?_
  repeat' (first
    | (show VR _ _ _ (_ :: _) _ _ _; first | refine x_opF rfl (by first | exact True.intro | omega) ?_ | (show VR _ _ _ (⟨_, .call ⟨.value _, _, _⟩, _, _, _, _⟩ :: _) _ _ _; first | refine vr_calldU (fewT_spec s.tb) (gk rfl) rfl rfl rfl (by first | rfl | (simp only [wfRes, wfL, wfArgs, wfs, mpO_namesB, mpO_namesI]; rfl)) rfl (by first | exact newB_nil | exact newB_O | ((simp only [newB, List.map_cons, List.map_nil, Blk.shift, rowOf_shift]) <;> rfl) | rfl) rfl ?_ | refine vr_calldU (Q.few_spec s.qu) (gk rfl) rfl rfl rfl (by first | rfl | (simp only [wfRes, wfL, wfArgs, wfs, mpO_namesB, mpO_namesI]; rfl)) rfl (by first | exact newB_nil | exact newB_O | ((simp only [newB, List.map_cons, List.map_nil, Blk.shift, rowOf_shift]) <;> rfl) | rfl) rfl ?_) | (refine x_gsplit rfl ?_ ?_ <;> intro h <;> have hq := h <;> (try simp only [hqs] at hq)))
    | (show VR _ _ _ [] _ _ _; first | refine vr_nil ?_)
    | (show thenQ _ _ _ _; first | refine q_then_n ?_ | refine q_then_r ?_)
    | refine vc_seq ?_
    | refine vc_region ?_
    | (show VC _ (.cond _ _ _) _ _; first | refine vc_cond_t rfl ?_ | (refine x_cond rfl ?_ ?_ <;> intro h <;> have hq := h <;> (try simp only [hqs] at hq)))
    | refine vc_ret ?_ | refine vc_block ?_ | refine vc_skip ?_
    | fail)
  · refine ret_bool isRet_r rfl ?_
    simp only [fewS]; simp_all
  · refine ret_bool isRet_r rfl ?_
    simp only [fewS]; simp_all
  · refine ret_bool isRet_r rfl ?_
    rw [fewS, decide_eq_false (p := s.held.length ≤ 20) (by omega)]; simp
  · refine ret_bool isRet_r rfl ?_
    rw [fewS, decide_eq_false (p := s.seen.length ≤ 40) (by omega)]; simp
  have e : fewS s = s.held.all fewH := by
    rw [fewS, decide_eq_true (p := s.held.length ≤ 20) (by omega), decide_eq_true (p := s.seen.length ≤ 40) (by omega)]
    simp_all
  refine vc_loopI (ι := Nat) (fun k => stOf [(1, .c (.ptr 1 0)), (3, AI k)] [(1, .box s.cs)]) (fun k => k ≤ s.held.length ∧ ∀ i, i < k → fewH (s.held.getD i default) = true) (fun k => s.held.length - k) 0 ⟨Nat.zero_le _, fun i hi => absurd hi (Nat.not_lt_zero _)⟩ ?_ ?_
  · refine le_gen0 (fun n => n) ?_ ?_ rfl (by first | rfl | (simp only [wfL, wfs, mpO_namesB, mpO_namesI]; rfl))
    all_goals repeat' (first | exact trivial | refine ⟨⟨_, rfl, ?_⟩, ?_⟩ | exact .c .d | exact .c (.ptr rfl) | exact .boxD rfl rfl | fail)
  · intro k hk
    rcases Nat.lt_or_ge k s.held.length with hlt | hge
    · have dlt : decide ((k : Int) < (s.held.length : Int)) = true := decide_eq_true (by omega)
      repeat' (first
        | (show VR _ _ _ (_ :: _) _ _ _; first | refine x_opF rfl (by first | exact True.intro | omega) ?_ | (show VR _ _ _ (⟨_, .indexAddr _ _ _, _, _, _, _⟩ :: _) _ _ _; first | refine vr_index_rd (gk rfl) rfl rfl rfl rfl rfl (by omega) rfl ?_) | (refine x_gsplit rfl ?_ ?_ <;> intro h <;> have hq := h <;> (try simp only [hqs] at hq)))
        | (show VR _ _ _ [] _ _ _; first | refine vr_nil ?_)
        | (show thenQ _ _ _ _; first | refine q_then_n ?_ | refine q_then_r ?_)
        | (show blockQ _ _ _ _; first | refine q_blk_n ?_ | refine q_blk_r ?_)
        | refine vc_seq ?_
        | refine vc_region ?_
        | (show VC _ (.cond _ _ _) _ _; first | refine vc_cond_t rfl ?_ | refine x_know rfl (by assumption) ?_ | (refine x_cond rfl ?_ ?_ <;> intro h <;> have hq := h <;> (try simp only [hqs] at hq)))
        | refine vc_ret ?_ | refine vc_block ?_ | refine vc_skip ?_
        | fail)
      · refine ret_bool isRet_r rfl ?_
        rw [e, List.all_eq_false]
        exact ⟨_, getD_mem hlt, by rw [fewH, decide_eq_false (p := _ ≤ 200) (by omega)]; simp⟩
      · refine ret_bool isRet_r rfl ?_
        rw [e, List.all_eq_false]
        exact ⟨_, getD_mem hlt, by rw [fewH, decide_eq_false (p := _ ≤ 40) (by omega)]; simp⟩
      · refine ⟨k + 1, ⟨by omega, fun i hi => ?_⟩, by omega, ?_⟩
        · by_cases hik : i < k
          · exact hk.2 i hik
          · have : i = k := by omega
            subst this
            rw [fewH, decide_eq_true (p := _ ≤ 200) (by omega), decide_eq_true (p := _ ≤ 40) (by omega)]; rfl
        · refine le_gen0 (fun n => n) ?_ ?_ rfl (by first | rfl | (simp only [wfL, wfs, mpO_namesB, mpO_namesI]; rfl))
          all_goals repeat' (first | exact trivial | refine ⟨⟨_, rfl, ?_⟩, ?_⟩ | exact .c .d | exact .c (.ptr rfl) | exact .boxD rfl rfl | fail)
    · have dlt : decide ((k : Int) < (s.held.length : Int)) = false := decide_eq_false (by omega)
      repeat' (first
        | (show VR _ _ _ (_ :: _) _ _ _; first | refine x_opF rfl (by first | exact True.intro | omega) ?_)
        | (show VR _ _ _ [] _ _ _; first | refine vr_nil ?_)
        | (show thenQ _ _ _ _; first | refine q_then_n ?_ | refine q_then_x ?_)
        | (show blockQ _ _ _ _; first | refine q_blk_x ?_)
        | refine vc_seq ?_
        | refine vc_region ?_
        | (show VC _ (.cond _ _ _) _ _; first | refine vc_cond_f rfl ?_ | refine x_know rfl (by assumption) ?_)
        | refine vc_ret ?_ | refine vc_exit ?_
        | fail)
      refine ret_bool isRet_r rfl ?_
      rw [e, List.all_eq_true]
      intro x hx
      obtain ⟨i, hi, rfl⟩ := mem_getD hx
      exact hk.2 i (by omega)

/-! Short data. -/
abbrev strs (l : List ByteArray) : D := rdOf (fun x => [.str x]) 1 l
abbrev predφStr (p : ByteArray → Bool) : List DV → DV → Prop := fun ds r => ∃ x : ByteArray, ds = [.d (.str x)] ∧ r = .d (.bool (p x))
end Go.Proofs


