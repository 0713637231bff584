/-
  What functions of the given program hand back, by walks over its code, and plain laws on that. No condition.
-/
import Derived.Test.YtidijkcalgmadaaGreatSxVTb
-- SXU
namespace Go.Proofs.T
open Go Go.Sx
set_option maxRecDepth 4000
set_option linter.unusedSimpArgs false
set_option linter.unusedVariables false
attribute [local irreducible] VR VC thenQ blockQ retL

def lessB (a b : TC) : Bool := decide (a.slot < b.slot) || (decide (a.slot = b.slot) && decide (a.kind < b.kind))
theorem less_cmp (a b : TC) : 0 ≤ cmpTC a b ↔ lessB a b = false := by
  unfold cmpTC lessB orI orI orI cmpI
  by_cases h1 : a.slot < b.slot
  · simp [h1]
  · by_cases h2 : b.slot < a.slot
    · have : ¬ a.slot = b.slot := by omega
      simp [h1, h2, this]
    · have e : a.slot = b.slot := by omega
      by_cases h3 : a.kind < b.kind
      · simp [e, h3]
      · by_cases h4 : b.kind < a.kind
        · simp [e, h3, h4]
        · simp [e, h3, h4]
theorem r_less_spec (a b : TC) : FnS Tryz.prog 159 [tcA a, tcA b] [] (AB (lessB a b)) [] := by
  refine FnS.of_body (enters_of Tryz.func159 (by kernel_rfl) rfl) Tryz.func159 rfl Tryz.ntmps159 Tryz.results159 rfl rfl rfl rfl fun E hS => ?_
  repeat' (first
    | (show VR _ _ _ (_ :: _) _ _ _; first | refine x_opF rfl (by first | exact True.intro | omega) ?_ | (refine x_gsplit rfl ?_ ?_ <;> intro h <;> have hq := h <;> (try simp only [decide_eq_true_eq, decide_eq_false_iff_not, Int.not_lt, Int.not_le, ne_eq, Decidable.not_not, Bool.not_eq_true', Bool.not_eq_false'] at hq)))
    | (show VR _ _ _ [] _ _ _; first | refine vr_nil ?_)
    | (show thenQ _ _ _ _; first | refine q_then_n ?_)
    | refine vc_seq ?_
    | refine vc_region ?_
    | refine vc_ret ?_
    | fail)
  all_goals refine ret_bool isRet_r rfl ?_
  all_goals simp_all [lessB] <;> omega
set_option maxHeartbeats 4000000 in
theorem r_cell_spec (t : Tb) (c : TC) : FnS Tryz.prog 82 [tbA t, tcA c] [] (AI (formE c t.node t.len)) [] := by
  have h3 : c.kind = 3 ∨ c.kind = 1 ∨ c.kind = 2 ∨ (c.kind ≠ 3 ∧ c.kind ≠ 1 ∧ c.kind ≠ 2) := by omega
  obtain ⟨slot, off, kind, send, peer, flow⟩ := c
  dsimp only at h3
  refine FnS.of_body (enters_of Tryz.func82 (by kernel_rfl) rfl) Tryz.func82 rfl Tryz.ntmps82 Tryz.results82 rfl rfl rfl rfl fun E hS => ?_
  rcases h3 with rfl | rfl | rfl | ⟨h, h', h''⟩
  all_goals
    repeat' (first
      | (show VR _ _ _ (_ :: _) _ _ _; first | refine x_opF rfl (by first | exact True.intro | omega) ?_ | (refine x_gsplit rfl ?_ ?_ <;> intro h <;> have hq := h <;> (try simp only [decide_eq_true_eq, decide_eq_false_iff_not, Int.not_lt, Int.not_le, ne_eq, Decidable.not_not, Bool.not_eq_true', Bool.not_eq_false'] at hq)))
      | (show VR _ _ _ [] _ _ _; first | refine vr_nil ?_)
      | (show thenQ _ _ _ _; first | refine q_then_n ?_ | refine q_then_r ?_)
      | refine vc_seq ?_
      | refine vc_region ?_
      | (show VC _ (.cond _ _ _) _ _; first | refine vc_cond_t rfl ?_ | refine vc_cond_f rfl ?_ | (refine x_cond rfl ?_ ?_ <;> intro h <;> have hq := h <;> (try simp only [decide_eq_true_eq, decide_eq_false_iff_not, Int.not_lt, Int.not_le, ne_eq, Decidable.not_not, Bool.not_eq_true', Bool.not_eq_false'] at hq)))
      | refine vc_ret ?_ | refine vc_skip ?_
      | fail)
    all_goals first
      | (refine ret_int isRet_r rfl ?_; unfold formE nodeB; simp_all; done)
      | (refine ret_int isRet_r rfl ?_; unfold formE nodeB; simp_all <;> omega)
      | (exfalso; omega)
      | trace_state
end Go.Proofs.T


