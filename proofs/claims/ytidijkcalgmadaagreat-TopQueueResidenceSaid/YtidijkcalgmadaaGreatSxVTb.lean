/-
  What functions of the given program hand back, by walks over its code, and plain laws on that. No condition.
-/
import Derived.Test.YtidijkcalgmadaaGreatSxVTa
-- SXU
namespace Go.Proofs.T
open Go Go.Sx
set_option maxRecDepth 4000
set_option linter.unusedSimpArgs false
set_option linter.unusedVariables false
attribute [local irreducible] VR VC thenQ blockQ retL

/-- A table. -/
structure Tb where
  node : Int
  len : Int
  cells : List TC
  deriving Inhabited
def Tb.cs (t : Tb) : List C := [.d (.int .i64 t.node), .d (.int .i64 t.len), .d (tcs t.cells)]
abbrev tbA (t : Tb) : AV := .agg t.cs

def tcErr (t : Tb) (k : Nat) : Int :=
  if formE (t.cells.getD k default) t.node t.len ≠ 0 then formE (t.cells.getD k default) t.node t.len
  else if 0 < k ∧ 0 ≤ cmpTC (t.cells.getD (k - 1) default) (t.cells.getD k default) then 5 else 0
def checkT (t : Tb) : Int := if nodeB t.node = false ∨ t.len < 1 ∨ 512 < t.len then 2 else if 512 < t.cells.length then 8 else firstErr t.cells.length (tcErr t)

theorem checkT_hit {t : Tb} {k : Nat} {e : Int} (h1 : ¬ (nodeB t.node = false ∨ t.len < 1 ∨ 512 < t.len)) (h0 : t.cells.length ≤ 512) (h : k ≤ t.cells.length ∧ ∀ i, i < k → tcErr t i = 0) (hk : k < t.cells.length) (he : tcErr t k = e) (hne : e ≠ 0) : checkT t = e := by
  subst he
  rw [checkT, if_neg h1, if_neg (by omega), firstErr_hit h.2 hk hne]
theorem checkT_none {t : Tb} {k : Nat} (h1 : ¬ (nodeB t.node = false ∨ t.len < 1 ∨ 512 < t.len)) (h0 : t.cells.length ≤ 512) (h : k ≤ t.cells.length ∧ ∀ i, i < k → tcErr t i = 0) (hk : t.cells.length ≤ k) : checkT t = 0 := by
  rw [checkT, if_neg h1, if_neg (by omega), firstErr_none fun i hi => h.2 i (by omega)]

theorem checkT_spec (t : Tb) : FnS Tryz.prog 28 [tbA t] [] (AI (checkT t)) [] := by
  refine FnS.of_body (enters_of Tryz.func28 (by kernel_rfl) rfl) Tryz.func28 rfl Tryz.ntmps28 Tryz.results28 rfl rfl rfl rfl fun E hS => ?_
  repeat' (first
    | (show VR _ _ _ (_ :: _) _ _ _; first | refine x_opF rfl (by first | exact True.intro | omega) ?_ | (show VR _ _ _ (⟨_, .call ⟨.value _, _, _⟩, _, _, _, _⟩ :: _) _ _ _; first | refine vr_calldU (node_spec _) (gk rfl) rfl rfl rfl (by first | rfl | (simp only [wfRes, wfL, wfArgs, List.all_cons, List.all_nil, rowOf_blk]; rfl)) rfl (by first | exact newB_O | rfl) rfl ?_) | (refine x_gsplit rfl ?_ ?_ <;> intro h <;> have hq := h <;> (try simp only [decide_eq_true_eq, decide_eq_false_iff_not, Int.not_lt, Int.not_le, ne_eq, Decidable.not_not, Bool.not_eq_true', Bool.not_eq_false'] at hq)))
    | (show VR _ _ _ [] _ _ _; first | refine vr_nil ?_)
    | (show thenQ _ _ _ _; first | refine q_then_n ?_ | refine q_then_r ?_)
    | refine vc_seq ?_
    | refine vc_region ?_
    | (show VC _ (.cond _ _ _) _ _; first | refine vc_cond_t rfl ?_ | (refine x_cond rfl ?_ ?_ <;> intro h <;> have hq := h <;> (try simp only [decide_eq_true_eq, decide_eq_false_iff_not, Int.not_lt, Int.not_le, ne_eq, Decidable.not_not, Bool.not_eq_true', Bool.not_eq_false'] at hq)))
    | refine vc_ret ?_ | refine vc_block ?_ | refine vc_skip ?_
    | fail)
  all_goals first
    | (refine ret_int isRet_r rfl ?_; unfold checkT; simp_all; done)
    | (refine ret_int isRet_r rfl ?_; unfold checkT; simp_all; omega)
    | skip
  have h1 : ¬ (nodeB t.node = false ∨ t.len < 1 ∨ 512 < t.len) := by simp_all
  refine vc_loopI (ι := Nat) (fun k => stOf [(1, .c (.ptr 1 0)), (25, AD (tcs t.cells)), (26, AI t.cells.length), (27, AI k)] [(1, .box t.cs)]) (fun k => k ≤ t.cells.length ∧ ∀ i, i < k → tcErr t i = 0) (fun k => t.cells.length - k) 0 ⟨Nat.zero_le _, fun i hi => absurd hi (Nat.not_lt_zero _)⟩ ?_ ?_
  · exact le_of ⟨rfl, rfl, rfl, rfl, trivial⟩ ⟨rfl, trivial⟩ rfl
  · intro k hk
    repeat' (first
      | (show VR _ _ _ (_ :: _) _ _ _; first | refine x_opF rfl (by first | exact True.intro | omega) ?_ | (show VR _ _ _ (⟨_, .call ⟨.value _, _, _⟩, _, _, _, _⟩ :: _) _ _ _; first | refine vr_calldU (form_spec _ _ _) (gk rfl) rfl rfl rfl (by first | rfl | (simp only [wfRes, wfL, wfArgs, List.all_cons, List.all_nil, rowOf_blk]; rfl)) rfl (by first | exact newB_O | rfl) rfl ?_ | refine vr_calldU (compare_spec _ _) (gk rfl) rfl rfl rfl (by first | rfl | (simp only [wfRes, wfL, wfArgs, List.all_cons, List.all_nil, rowOf_blk]; rfl)) rfl (by first | exact newB_O | rfl) rfl ?_) | (show VR _ _ _ (⟨_, .indexAddr _ _ _, _, _, _, _⟩ :: _) _ _ _; first | refine vr_index_rd (gk rfl) rfl rfl rfl rfl rfl (by omega) rfl ?_ | refine vr_index_rdP (gk rfl) rfl rfl rfl rfl rfl (by omega) rfl ?_) | (refine x_gsplit rfl ?_ ?_ <;> intro h <;> have hq := h <;> (try simp only [decide_eq_true_eq, decide_eq_false_iff_not, Int.not_lt, Int.not_le, ne_eq, Decidable.not_not, Bool.not_eq_true', Bool.not_eq_false'] at hq)))
      | (show VR _ _ _ [] _ _ _; first | refine vr_nil ?_ | refine vr_nil_t (by kernel_rfl) ?_)
      | (show thenQ _ _ _ _; first | refine q_then_n ?_ | refine q_then_x ?_ | refine q_then_r ?_)
      | (show blockQ _ _ _ _; first | refine q_blk_n ?_ | refine q_blk_r ?_ | refine q_blk_x ?_)
      | refine vc_seq ?_
      | refine vc_region ?_ | refine vc_region_t ?_
      | (show VC _ (.cond _ _ _) _ _; first | refine vc_cond_f rfl ?_ | (refine x_cond rfl ?_ ?_ <;> intro h <;> have hq := h <;> (try simp only [decide_eq_true_eq, decide_eq_false_iff_not, Int.not_lt, Int.not_le, ne_eq, Decidable.not_not, Bool.not_eq_true', Bool.not_eq_false'] at hq)))
      | refine vc_ret ?_ | refine vc_exit ?_ | refine vc_block ?_ | refine vc_skip ?_
      | fail)
    all_goals first
      | (refine ret_int isRet_r rfl ?_
         first
         | exact checkT_none h1 (by omega) hk (by omega)
         | (refine checkT_hit h1 (by omega) hk (by omega) ?_ hq; rw [tcErr, if_pos hq]; done)
         | (refine checkT_hit h1 (by omega) hk (by omega) ?_ (by decide); rw [tcErr, if_neg (by omega), if_pos (by omega)]; done))
      | (refine ⟨k + 1, ⟨by omega, fun i hi => ?_⟩, by omega, le_of ⟨rfl, rfl, rfl, rfl, trivial⟩ ⟨rfl, trivial⟩ rfl⟩
         by_cases hik : i < k
         · exact hk.2 i hik
         · have : i = k := by omega
           subst this
           rw [tcErr, if_neg (by omega), if_neg (by omega)])
      | trace_state
end Go.Proofs.T


