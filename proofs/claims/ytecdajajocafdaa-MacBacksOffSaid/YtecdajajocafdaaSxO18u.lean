/-
  What functions of the given program hand back, by walks over its code, and plain laws on that. No condition.
-/
import Derived.Test.YtecdajajocafdaaSxO18k
import Derived.Test.YtecdajajocafdaaSxO18l
import Derived.Test.YtecdajajocafdaaSxLibC
-- SXS
-- SXM
-- SXN
namespace Go.Proofs
open Go Go.Sx Go.Proofs.T Go.Proofs.Q
set_option maxRecDepth 4000
set_option linter.unusedSimpArgs false
set_option linter.unusedVariables false
attribute [local irreducible] VR VC thenQ blockQ retL
/-! Short data. -/
abbrev strs (l : List ByteArray) : D := rdOf (fun x => [.str x]) 1 l
abbrev predφStr (p : ByteArray → Bool) : List DV → DV → Prop := fun ds r => ∃ x : ByteArray, ds = [.d (.str x)] ∧ r = .d (.bool (p x))
theorem idxf_Str (l : List ByteArray) (p : ByteArray → Bool) : FnS Try.prog 28 [AD (strs l), .clo (predφStr p)] [] (AI (oI (fstO l p))) [] := by
  refine FnS.of_body (enters_of Try.func28 (by kernel_rfl) rfl) Try.func28 rfl Try.ntmps28 Try.results28 rfl rfl rfl rfl fun E hS => ?_
  refine vc_bound (t := 0) rfl fun hb => ?_
  repeat' (first
    | (show VR _ _ _ (_ :: _) _ _ _; first | refine x_opF rfl (by first | exact True.intro | omega) ?_)
    | (show VR _ _ _ [] _ _ _; first | refine vr_nil ?_)
    | (show thenQ _ _ _ _; first | refine q_then_n ?_)
    | refine vc_seq ?_
    | refine vc_region ?_
    | refine vc_block ?_
    | fail)
  refine vc_loopI (ι := Nat) (fun k => stOf [(0, AD (strs l)), (1, .clo (predφStr p)), (7, AI l.length), (8, AI k)] []) (fun k => k ≤ l.length ∧ ∀ i, i < k → p (l.getD i default) = false) (fun k => l.length - k) 0 ⟨Nat.zero_le _, fun i hi => absurd hi (Nat.not_lt_zero _)⟩ ?_ ?_
  · exact le_of ⟨rfl, rfl, rfl, rfl, trivial⟩ trivial rfl
  · intro k hk
    repeat' (first
      | (show VR _ _ _ (_ :: _) _ _ _; first | refine x_opF rfl (by first | exact True.intro | omega) ?_ | (show VR _ _ _ (⟨_, .call ⟨.value _, _, _⟩, _, _, _, _⟩ :: _) _ _ _; first | refine vr_clo (⟨_, rfl, rfl⟩) (gk rfl) rfl rfl rfl rfl ?_) | (show VR _ _ _ (⟨_, .indexAddr _ _ _, _, _, _, _⟩ :: _) _ _ _; first | refine vr_index_rd (gk rfl) rfl rfl rfl rfl rfl (by omega) rfl ?_))
      | (show VR _ _ _ [] _ _ _; first | refine vr_nil ?_)
      | (show thenQ _ _ _ _; first | refine q_then_n ?_ | refine q_then_x ?_ | refine q_then_r ?_)
      | (show blockQ _ _ _ _; first | refine q_blk_n ?_ | refine q_blk_r ?_ | refine q_blk_x ?_)
      | refine vc_seq ?_
      | refine vc_region ?_
      | (show VC _ (.cond _ _ _) _ _; first | (refine x_cond rfl ?_ ?_ <;> intro h <;> have hq := h <;> (try simp only [hqs] at hq)))
      | refine vc_ret ?_ | refine vc_exit ?_ | refine vc_block ?_ | refine vc_skip ?_
      | fail)
    · refine ret_int isRet_r rfl ?_
      rw [fstO_hit hk.2 (by omega) h]; rfl
    · refine ⟨k + 1, ⟨by omega, fun i hi => ?_⟩, by omega, le_of ⟨rfl, rfl, rfl, rfl, trivial⟩ trivial rfl⟩
      by_cases hik : i < k
      · exact hk.2 i hik
      · have : i = k := by omega
        subst this
        exact h
    · refine ret_int isRet_r rfl ?_
      have : k = l.length := by omega
      subst this
      rw [fstO_none hk.2]; rfl
theorem containsf_Str (l : List ByteArray) (p : ByteArray → Bool) : FnS Try.prog 12 [AD (strs l), .clo (predφStr p)] [] (AB (l.any p)) [] := by
  refine FnS.of_body (enters_of Try.func12 (by kernel_rfl) rfl) Try.func12 rfl Try.ntmps12 Try.results12 rfl rfl rfl rfl fun E hS => ?_
  repeat' (first
    | (show VR _ _ _ (_ :: _) _ _ _; first | refine x_opF rfl (by first | exact True.intro | omega) ?_ | (show VR _ _ _ (⟨_, .call ⟨.value _, _, _⟩, _, _, _, _⟩ :: _) _ _ _; first | refine vr_callU [] (idxf_Str l p) (gk rfl) rfl (by (repeat' (first | exact .nil | refine .cons ?_ ?_ | exact .of0 (.c .d) | exact .of0 .ep | exact .clo | exact .of0 (.c .nil) | exact .of0 (.c (cr_rowO (by simp) rfl (by first | rfl | omega) (fun _ => rfl))) | refine .of0 (.agg ?_) | exact .d | exact .nil | exact .of0 (.c (cr_row (by decide) rfl rfl (by repeat' (first | exact trivial | refine ⟨?_, ?_⟩ | rfl)))))) <;> fail) (by first | rfl | exact hfl_O (fun _ => rfl) | exact hfl_O2 rfl (fun _ => rfl)) rfl (by first | rfl | (simp only [wfRes, wfL, wfArgs, wfs, mpO_namesB, mpO_namesI]; rfl)) rfl (by first | exact newB_nil | exact newB_O | ((simp only [newB, List.map_cons, List.map_nil, Blk.shift, rowOf_shift]) <;> rfl) | rfl) rfl ?_))
    | (show VR _ _ _ [] _ _ _; first | refine vr_nil ?_)
    | (show thenQ _ _ _ _; first | refine q_then_n ?_)
    | refine vc_seq ?_
    | refine vc_region ?_
    | refine vc_ret ?_
    | fail)
  all_goals exact ret_bool isRet_r rfl (fstO_any _ _).symm
theorem few1_spec (x : ByteArray) : FnS Try.prog 13 [AD (.str x)] [] (AB (decide (200 < (x.size : Int)))) [] := by
  refine FnS.of_body (enters_of Try.func13 (by kernel_rfl) rfl) Try.func13 rfl Try.ntmps13 Try.results13 rfl rfl rfl rfl fun E hS => ?_
  repeat' (first
    | (show VR _ _ _ (_ :: _) _ _ _; first | refine x_opF rfl (by first | exact True.intro | omega) ?_)
    | (show VR _ _ _ [] _ _ _; first | refine vr_nil ?_)
    | (show thenQ _ _ _ _; first | refine q_then_n ?_)
    | refine vc_seq ?_
    | refine vc_region ?_
    | refine vc_ret ?_
    | fail)
  all_goals exact ret_bool isRet_r rfl rfl
theorem few1_fnc {σ : St} {L : List Nat} : AR Try.prog σ L (.fnc 13 []) (.clo (predφStr fun x => decide (200 < (x.size : Int)))) :=
  .fnc .nil (enters_of Try.func13 (by kernel_rfl) rfl) (by rintro _ _ ⟨x, rfl, rfl⟩; exact ⟨rfl, few1_spec x⟩)
theorem lfew_spec (l : List ByteArray) : FnS Try.prog 6 [AD (strs l)] [] (AB (!l.any fun x => decide (200 < (x.size : Int)))) [] := by
  refine FnS.of_body (enters_of Try.func6 (by kernel_rfl) rfl) Try.func6 rfl Try.ntmps6 Try.results6 rfl rfl rfl rfl fun E hS => ?_
  repeat' (first
    | (show VR _ _ _ (_ :: _) _ _ _; first | refine x_opF rfl (by first | exact True.intro | omega) ?_ | (show VR _ _ _ (⟨_, .call ⟨.value _, _, _⟩, _, _, _, _⟩ :: _) _ _ _; first | refine vr_callU [] (containsf_Str l (fun x => decide (200 < (x.size : Int)))) (gk rfl) rfl (by (repeat' (first | exact .nil | refine .cons ?_ ?_ | exact .of0 (.c .d) | exact .of0 .ep | exact .clo | exact (few1_fnc) | exact .of0 (.c .nil) | exact .of0 (.c (cr_rowO (by simp) rfl (by first | rfl | omega) (fun _ => rfl))) | refine .of0 (.agg ?_) | exact .d | exact .nil | exact .of0 (.c (cr_row (by decide) rfl rfl (by repeat' (first | exact trivial | refine ⟨?_, ?_⟩ | rfl)))))) <;> fail) (by first | rfl | exact hfl_O (fun _ => rfl) | exact hfl_O2 rfl (fun _ => rfl)) rfl (by first | rfl | (simp only [wfRes, wfL, wfArgs, wfs, mpO_namesB, mpO_namesI]; rfl)) rfl (by first | exact newB_nil | exact newB_O | ((simp only [newB, List.map_cons, List.map_nil, Blk.shift, rowOf_shift]) <;> rfl) | rfl) rfl ?_))
    | (show VR _ _ _ [] _ _ _; first | refine vr_nil ?_)
    | (show thenQ _ _ _ _; first | refine q_then_n ?_)
    | refine vc_seq ?_
    | refine vc_region ?_
    | refine vc_ret ?_
    | fail)
  all_goals exact ret_bool isRet_r rfl rfl
end Go.Proofs
