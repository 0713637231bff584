/-
  What functions of the given program hand back, by walks over its code, and plain laws on that. No condition.
-/
import Derived.Test.YtidijkcalgmadaaGreatSxVQg
-- SXS
namespace Go.Proofs.Q
open Go Go.Sx
set_option maxRecDepth 4000
set_option linter.unusedSimpArgs false
set_option linter.unusedVariables false
attribute [local irreducible] VR VC thenQ blockQ retL

theorem exp1_spec (x : Pk) (t : Int) : FnS Tryz.prog 99 [pkA x, .ep (fun _ => .int .i64 t) 1] [] (AB (staleB x t)) [] := by
  refine FnS.of_body (enters_of Tryz.func99 (by kernel_rfl) rfl) Tryz.func99 rfl Tryz.ntmps99 Tryz.results99 rfl rfl rfl rfl fun E hS => ?_
  repeat' (first
    | (show VR _ _ _ (_ :: _) _ _ _; first | refine x_opF rfl (by first | exact True.intro | omega) ?_ | (show VR _ _ _ (⟨_, .call ⟨.value _, _, _⟩, _, _, _, _⟩ :: _) _ _ _; first | refine vr_calldU (stale_spec _ _) (gk rfl) rfl rfl rfl (by first | rfl | (simp only [wfRes, wfL, wfArgs, wfs]; rfl)) rfl (by first | exact newB_O | rfl) rfl ?_))
    | (show VR _ _ _ [] _ _ _; first | refine vr_nil ?_)
    | (show thenQ _ _ _ _; first | refine q_then_n ?_)
    | refine vc_seq ?_
    | refine vc_region ?_
    | refine vc_ret ?_
    | fail)
  all_goals exact ret_bool isRet_r rfl rfl
theorem exp1_fnc {σ : St} {t : Int} {n1 : Nat} {L : List Nat} (hL : n1 ∈ L) (h1 : σ (.b n1) = some (.k (.box [.d (.int .i64 t)]))) : AR Tryz.prog σ L (.fnc 99 [.ptr n1 0]) (.clo (predφPk fun x => staleB x t)) :=
  .fnc (eps := [.ep (fun _ => .int .i64 t) 1]) (.cons (.ptr hL h1 (fun j hj => by
    have : j = 0 := by omega
    subst this; rfl)) .nil) (enters_of Tryz.func99 (by kernel_rfl) rfl)
    (by rintro _ _ ⟨x, rfl, rfl⟩; exact ⟨rfl, exp1_spec x t⟩)
theorem exp2_spec (x : Pk) (t : Int) : FnS Tryz.prog 101 [pkA x, .ep (fun _ => .int .i64 t) 1] [] (AB (!staleB x t)) [] := by
  refine FnS.of_body (enters_of Tryz.func101 (by kernel_rfl) rfl) Tryz.func101 rfl Tryz.ntmps101 Tryz.results101 rfl rfl rfl rfl fun E hS => ?_
  repeat' (first
    | (show VR _ _ _ (_ :: _) _ _ _; first | refine x_opF rfl (by first | exact True.intro | omega) ?_ | (show VR _ _ _ (⟨_, .call ⟨.value _, _, _⟩, _, _, _, _⟩ :: _) _ _ _; first | refine vr_calldU (stale_spec _ _) (gk rfl) rfl rfl rfl (by first | rfl | (simp only [wfRes, wfL, wfArgs, wfs]; rfl)) rfl (by first | exact newB_O | rfl) rfl ?_))
    | (show VR _ _ _ [] _ _ _; first | refine vr_nil ?_)
    | (show thenQ _ _ _ _; first | refine q_then_n ?_)
    | refine vc_seq ?_
    | refine vc_region ?_
    | refine vc_ret ?_
    | fail)
  all_goals exact ret_bool isRet_r rfl rfl
theorem exp2_fnc {σ : St} {t : Int} {n1 : Nat} {L : List Nat} (hL : n1 ∈ L) (h1 : σ (.b n1) = some (.k (.box [.d (.int .i64 t)]))) : AR Tryz.prog σ L (.fnc 101 [.ptr n1 0]) (.clo (predφPk fun x => !staleB x t)) :=
  .fnc (eps := [.ep (fun _ => .int .i64 t) 1]) (.cons (.ptr hL h1 (fun j hj => by
    have : j = 0 := by omega
    subst this; rfl)) .nil) (enters_of Tryz.func101 (by kernel_rfl) rfl)
    (by rintro _ _ ⟨x, rfl, rfl⟩; exact ⟨rfl, exp2_spec x t⟩)

def freshL (l : List Pk) (slot : Int) : List Pk := l.filter fun x => !staleB x slot
def staleL (l : List Pk) (slot : Int) : List Pk := l.filter fun x => staleB x slot
def expireQ (q : Qu) (slot : Int) : Qu × List Pk := if checkQ q ≠ 0 then (q, []) else (⟨q.limit, freshL q.packets slot⟩, staleL q.packets slot)
set_option maxHeartbeats 1000000 in
theorem expire_spec (q : Qu) (slot : Int) : FnS Tryz.prog 40 [quA q, AI slot] [] (.tup [quA (expireQ q slot).1, AD (pks (expireQ q slot).2)]) [] := by
  have hck := checkQ_spec q
  refine FnS.of_body (enters_of Tryz.func40 (by kernel_rfl) rfl) Tryz.func40 rfl Tryz.ntmps40 Tryz.results40 rfl rfl rfl rfl fun E hS => ?_
  refine vc_retL ?_
  by_cases hc : checkQ q = 0
  · rw [hc] at hck
    have hl := checkQ_len hc
    have hd1 := del_Pk q.packets (fun x => staleB x slot) (by omega)
    have hd2 := del_Pk q.packets (fun x => !staleB x slot) (by omega)
    have e2 : (q.packets.filter fun x => !!staleB x slot) = staleL q.packets slot := by simp only [Bool.not_not]; rfl
    rw [e2] at hd2
    rw [expireQ, if_neg (by omega)]
    repeat' (first
      | (show VR _ _ _ (_ :: _) _ _ _; first | refine x_opF rfl (by first | exact True.intro | omega) ?_ | (show VR _ _ _ (⟨_, .call ⟨.value _, _, _⟩, _, _, _, _⟩ :: _) _ _ _; first | refine vr_calldU (hck) (gk rfl) rfl rfl rfl (by first | rfl | (simp only [wfRes, wfL, wfArgs, wfs]; rfl)) rfl (by first | exact newB_O | rfl) rfl ?_ | refine vr_calldU (clone_Pk q.packets (by omega)) (gk rfl) rfl rfl rfl (by first | rfl | (simp only [wfRes, wfL, wfArgs, wfs]; rfl)) rfl (by first | exact newB_O | rfl) rfl ?_ | refine vr_callMU [3] (hd1) (gk rfl) rfl rfl rowOf_isD rfl (.cons (exp1_fnc (List.mem_singleton.2 rfl) rfl) .nil) rfl (by first | rfl | exact hfl_O (fun _ => rfl) | exact hfl_O2 rfl (fun _ => rfl)) rfl (by first | rfl | (simp only [wfRes, wfL, wfArgs, wfs]; rfl)) rfl (by first | exact newB_O | rfl) rfl ?_ | refine vr_callMU [3] (hd2) (gk rfl) rfl rfl rowOf_isD rfl (.cons (exp2_fnc (List.mem_singleton.2 rfl) rfl) .nil) rfl (by first | rfl | exact hfl_O (fun _ => rfl) | exact hfl_O2 rfl (fun _ => rfl)) rfl (by first | rfl | (simp only [wfRes, wfL, wfArgs, wfs]; rfl)) rfl (by first | exact newB_O | rfl) rfl ?_))
      | (show VR _ _ _ [] _ _ _; first | refine vr_nil ?_ | refine vr_nil_t (by kernel_rfl) ?_)
      | (show thenQ _ _ _ _; first | refine q_then_n ?_)
      | refine vc_seq ?_
      | refine vc_region ?_ | refine vc_region_t ?_
      | (show VC _ (.cond _ _ _) _ _; first | refine vc_cond_f rfl ?_)
      | refine vc_ret ?_ | refine vc_skip ?_
      | fail)
    refine retL_of (le_gen (l := [(4, .c (.ptr 4 0)), (5, AD (pks (staleL q.packets slot)))]) (b := [(4, .box (Qu.cs ⟨q.limit, freshL q.packets slot⟩))]) (fun n => n) [20000, 26000] hS ?_ ?_ rfl (by first | rfl | (simp only [wfL, wfs]; rfl))) (ret_agg_dL isRet_r rfl rfl rfl rfl rfl rfl rfl)
    all_goals repeat' (first | exact trivial | refine ⟨⟨_, rfl, ?_⟩, ?_⟩ | exact .c (.ptr rfl) | exact .c (.frzOf (by first | (simp; done) | decide) rfl rfl (fun _ => rfl)) | refine .box ?_ | exact .nil | refine .cons ?_ ?_ | exact .d | exact .frzOf (by first | (simp; done) | decide) rfl rfl (fun _ => rfl) | fail)
  · rw [expireQ, if_pos hc]
    have hd : decide (checkQ q ≠ 0) = true := by simp [hc]
    repeat' (first
      | (show VR _ _ _ (_ :: _) _ _ _; first | refine x_opF rfl (by first | exact True.intro | omega) ?_ | (show VR _ _ _ (⟨_, .call ⟨.value _, _, _⟩, _, _, _, _⟩ :: _) _ _ _; first | refine vr_calldU (hck) (gk rfl) rfl rfl rfl (by first | rfl | (simp only [wfRes, wfL, wfArgs, wfs]; rfl)) rfl (by first | exact newB_O | rfl) rfl ?_))
      | (show VR _ _ _ [] _ _ _; first | refine vr_nil ?_)
      | (show thenQ _ _ _ _; first | refine q_then_n ?_ | refine q_then_r ?_)
      | refine vc_seq ?_
      | refine vc_region ?_
      | (show VC _ (.cond _ _ _) _ _; first | refine vc_cond_t rfl ?_ | refine x_know rfl (by assumption) ?_)
      | refine vc_ret ?_
      | fail)
    refine retL_of (le_gen0 (l := [(4, .c (.ptr 4 0)), (5, AD (pks []))]) (b := [(4, .box q.cs)]) (fun n => n) ?_ ?_ rfl (by first | rfl | (simp only [wfL, wfs]; rfl))) (ret_agg_dL isRet_r rfl rfl rfl rfl rfl rfl rfl)
    all_goals repeat' (first | exact trivial | refine ⟨⟨_, rfl, ?_⟩, ?_⟩ | exact .c (.ptr rfl) | exact .c .nil | exact .boxD rfl rfl | fail)

end Go.Proofs.Q


