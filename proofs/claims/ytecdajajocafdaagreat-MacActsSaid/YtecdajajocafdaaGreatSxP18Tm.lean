/-
  What functions of the given program hand back, by walks over its code, and plain laws on that. No condition.
-/
import Derived.Test.YtecdajajocafdaaGreatSxP18Td
-- SXU
namespace Go.Proofs.T
open Go Go.Sx
set_option maxRecDepth 4000
set_option linter.unusedSimpArgs false
set_option linter.unusedVariables false
attribute [local irreducible] VR VC thenQ blockQ retL

def fewN (n : Int) : Bool := decide (n ≤ 40 ∨ 512 < n ∧ n ≤ 516)
theorem fewN_spec (n : Int) : FnS Tryz.prog 89 [AI n] [] (AB (fewN n)) [] := by
  refine FnS.of_body (enters_of Tryz.func89 (by kernel_rfl) rfl) Tryz.func89 rfl Tryz.ntmps89 Tryz.results89 rfl rfl rfl rfl fun E hS => ?_
  repeat' (first
    | (show VR _ _ _ (_ :: _) _ _ _; first | refine x_opF rfl (by first | exact True.intro | omega) ?_ | (refine x_gsplit rfl ?_ ?_ <;> intro h <;> have hq := h <;> (try simp only [decide_eq_true_eq, decide_eq_false_iff_not, Int.not_lt, Int.not_le, ne_eq, Decidable.not_not, Bool.not_eq_true', Bool.not_eq_false'] at hq)))
    | (show VR _ _ _ [] _ _ _; first | refine vr_nil ?_)
    | (show thenQ _ _ _ _; first | refine q_then_n ?_)
    | refine vc_seq ?_
    | refine vc_region ?_
    | refine vc_ret ?_
    | fail)
  all_goals (refine ret_bool isRet_r rfl ?_; unfold fewN; simp_all)
  all_goals omega
def fewT (t : Tb) : Bool := fewN t.cells.length && decide (t.len ≤ 64 ∨ 512 < t.len)
theorem fewT_spec (t : Tb) : FnS Tryz.prog 33 [tbA t] [] (AB (fewT t)) [] := by
  refine FnS.of_body (enters_of Tryz.func33 (by kernel_rfl) rfl) Tryz.func33 rfl Tryz.ntmps33 Tryz.results33 rfl rfl rfl rfl fun E hS => ?_
  repeat' (first
    | (show VR _ _ _ (_ :: _) _ _ _; first | refine x_opF rfl (by first | exact True.intro | omega) ?_ | (show VR _ _ _ (⟨_, .call ⟨.value _, _, _⟩, _, _, _, _⟩ :: _) _ _ _; first | refine vr_calldU (fewN_spec _) (gk rfl) rfl rfl rfl (by first | rfl | (simp only [wfRes, wfL, wfArgs, List.all_cons, List.all_nil, rowOf_blk]; rfl)) rfl (by first | exact newB_O | rfl) rfl ?_) | (refine x_gsplit rfl ?_ ?_ <;> intro h <;> have hq := h <;> (try simp only [decide_eq_true_eq, decide_eq_false_iff_not, Int.not_lt, Int.not_le, ne_eq, Decidable.not_not, Bool.not_eq_true', Bool.not_eq_false'] at hq)))
    | (show VR _ _ _ [] _ _ _; first | refine vr_nil ?_)
    | (show thenQ _ _ _ _; first | refine q_then_n ?_)
    | refine vc_seq ?_
    | refine vc_region ?_
    | refine vc_ret ?_
    | fail)
  all_goals (refine ret_bool isRet_r rfl ?_; unfold fewT; simp_all)
  all_goals omega
theorem checkT_len {t : Tb} (h : checkT t = 0) : t.cells.length ≤ 512 ∧ 1 ≤ t.len ∧ t.len ≤ 512 ∧ nodeB t.node = true := by
  unfold checkT at h
  split at h
  · cases h
  · split at h
    · cases h
    · rename_i h1 h2
      simp only [not_or] at h1
      refine ⟨by omega, by omega, by omega, by simpa using h1.1⟩
end Go.Proofs.T


