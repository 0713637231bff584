/-
  What functions of the given program hand back, by walks over its code, and plain laws on that. No condition.
-/
import Derived.Test.YtecdajajocafdaaGreatSxP18Qg
-- SXS
namespace Go.Proofs.Q
open Go Go.Sx
set_option maxRecDepth 4000
set_option linter.unusedSimpArgs false
set_option linter.unusedVariables false
attribute [local irreducible] VR VC thenQ blockQ retL
theorem exp1_spec (x : Pk) (t : Int) : FnS Tryz.prog 141 [pkA x, .ep (fun _ => .int .i64 t) 1] [] (AB (staleB x t)) [] := by
  refine FnS.of_body (enters_of Tryz.func141 (by kernel_rfl) rfl) Tryz.func141 rfl Tryz.ntmps141 Tryz.results141 rfl rfl rfl rfl fun E hS => ?_
  repeat' (first
    | (show VR _ _ _ (_ :: _) _ _ _; first | refine x_opF rfl (by first | exact True.intro | omega) ?_ | (show VR _ _ _ (⟨_, .call ⟨.value _, _, _⟩, _, _, _, _⟩ :: _) _ _ _; first | refine vr_calldU (stale_spec _ _) (gk rfl) rfl rfl rfl (by first | rfl | (simp only [wfRes, wfL, wfArgs, wfs]; rfl)) rfl (by first | exact newB_O | rfl) rfl ?_))
    | (show VR _ _ _ [] _ _ _; first | refine vr_nil ?_)
    | (show thenQ _ _ _ _; first | refine q_then_n ?_)
    | refine vc_seq ?_
    | refine vc_region ?_
    | refine vc_ret ?_
    | fail)
  all_goals exact ret_bool isRet_r rfl rfl
theorem exp1_fnc {σ : St} {t : Int} {n1 : Nat} {L : List Nat} (hL : n1 ∈ L) (h1 : σ (.b n1) = some (.k (.box [.d (.int .i64 t)]))) : AR Tryz.prog σ L (.fnc 141 [.ptr n1 0]) (.clo (predφPk fun x => staleB x t)) :=
  .fnc (eps := [.ep (fun _ => .int .i64 t) 1]) (.cons (.ptr hL h1 (fun j hj => by
    have : j = 0 := by omega
    subst this; rfl)) .nil) (enters_of Tryz.func141 (by kernel_rfl) rfl)
    (by rintro _ _ ⟨x, rfl, rfl⟩; exact ⟨rfl, exp1_spec x t⟩)
theorem exp2_spec (x : Pk) (t : Int) : FnS Tryz.prog 143 [pkA x, .ep (fun _ => .int .i64 t) 1] [] (AB (!staleB x t)) [] := by
  refine FnS.of_body (enters_of Tryz.func143 (by kernel_rfl) rfl) Tryz.func143 rfl Tryz.ntmps143 Tryz.results143 rfl rfl rfl rfl fun E hS => ?_
  repeat' (first
    | (show VR _ _ _ (_ :: _) _ _ _; first | refine x_opF rfl (by first | exact True.intro | omega) ?_ | (show VR _ _ _ (⟨_, .call ⟨.value _, _, _⟩, _, _, _, _⟩ :: _) _ _ _; first | refine vr_calldU (stale_spec _ _) (gk rfl) rfl rfl rfl (by first | rfl | (simp only [wfRes, wfL, wfArgs, wfs]; rfl)) rfl (by first | exact newB_O | rfl) rfl ?_))
    | (show VR _ _ _ [] _ _ _; first | refine vr_nil ?_)
    | (show thenQ _ _ _ _; first | refine q_then_n ?_)
    | refine vc_seq ?_
    | refine vc_region ?_
    | refine vc_ret ?_
    | fail)
  all_goals exact ret_bool isRet_r rfl rfl
theorem exp2_fnc {σ : St} {t : Int} {n1 : Nat} {L : List Nat} (hL : n1 ∈ L) (h1 : σ (.b n1) = some (.k (.box [.d (.int .i64 t)]))) : AR Tryz.prog σ L (.fnc 143 [.ptr n1 0]) (.clo (predφPk fun x => !staleB x t)) :=
  .fnc (eps := [.ep (fun _ => .int .i64 t) 1]) (.cons (.ptr hL h1 (fun j hj => by
    have : j = 0 := by omega
    subst this; rfl)) .nil) (enters_of Tryz.func143 (by kernel_rfl) rfl)
    (by rintro _ _ ⟨x, rfl, rfl⟩; exact ⟨rfl, exp2_spec x t⟩)
def freshL (l : List Pk) (slot : Int) : List Pk := l.filter fun x => !staleB x slot
def staleL (l : List Pk) (slot : Int) : List Pk := l.filter fun x => staleB x slot
theorem freshL_len (l : List Pk) (slot : Int) : (freshL l slot).length ≤ l.length := List.length_filter_le _ _
theorem staleL_len (l : List Pk) (slot : Int) : (staleL l slot).length ≤ l.length := List.length_filter_le _ _
def expireQ (q : Qu) (slot : Int) : Qu × List Pk := if checkQ q ≠ 0 then (q, []) else (⟨q.limit, freshL q.packets slot⟩, staleL q.packets slot)
set_option maxHeartbeats 1000000 in
theorem expire_spec (q : Qu) (slot : Int) : FnS Tryz.prog 87 [quA q, AI slot] [] (.tup [quA (expireQ q slot).1, AD (pks (expireQ q slot).2)]) [] := by
  have hck := checkQ_spec q
  refine FnS.of_body (enters_of Tryz.func87 (by kernel_rfl) rfl) Tryz.func87 rfl Tryz.ntmps87 Tryz.results87 rfl rfl rfl rfl fun E hS => ?_
  refine vc_retL ?_
  by_cases hc : checkQ q = 0
  · rw [hc] at hck
    have hl := checkQ_len hc
    have hd1 := del_Pk q.packets (fun x => staleB x slot) (by omega)
    have hd2 := del_Pk q.packets (fun x => !staleB x slot) (by omega)
    have e2 : (q.packets.filter fun x => !!staleB x slot) = staleL q.packets slot := by simp only [Bool.not_not]; rfl
    rw [e2] at hd2
    rw [expireQ, if_neg (by omega)]
    repeat' (first
      | (show VR _ _ _ (_ :: _) _ _ _; first | refine x_opF rfl (by first | exact True.intro | omega) ?_ | (show VR _ _ _ (⟨_, .call ⟨.value _, _, _⟩, _, _, _, _⟩ :: _) _ _ _; first | refine vr_calldU (hck) (gk rfl) rfl rfl rfl (by first | rfl | (simp only [wfRes, wfL, wfArgs, wfs]; rfl)) rfl (by first | exact newB_O | rfl) rfl ?_ | refine vr_calldU (clone_Pk q.packets (by omega)) (gk rfl) rfl rfl rfl (by first | rfl | (simp only [wfRes, wfL, wfArgs, wfs]; rfl)) rfl (by first | exact newB_O | rfl) rfl ?_ | refine vr_callMU [3] (hd1) (gk rfl) rfl rfl rowOf_isD rfl (.cons (exp1_fnc (List.mem_singleton.2 rfl) rfl) .nil) rfl (by first | rfl | exact hfl_O (fun _ => rfl) | exact hfl_O2 rfl (fun _ => rfl)) rfl (by first | rfl | (simp only [wfRes, wfL, wfArgs, wfs]; rfl)) rfl (by first | exact newB_O | rfl) rfl ?_ | refine vr_callMU [3] (hd2) (gk rfl) rfl rfl rowOf_isD rfl (.cons (exp2_fnc (List.mem_singleton.2 rfl) rfl) .nil) rfl (by first | rfl | exact hfl_O (fun _ => rfl) | exact hfl_O2 rfl (fun _ => rfl)) rfl (by first | rfl | (simp only [wfRes, wfL, wfArgs, wfs]; rfl)) rfl (by first | exact newB_O | rfl) rfl ?_))
      | (show VR _ _ _ [] _ _ _; first | refine vr_nil ?_ | refine vr_nil_t (by kernel_rfl) ?_)
      | (show thenQ _ _ _ _; first | refine q_then_n ?_)
      | refine vc_seq ?_
      | refine vc_region ?_ | refine vc_region_t ?_
      | (show VC _ (.cond _ _ _) _ _; first | refine vc_cond_f rfl ?_)
      | refine vc_ret ?_ | refine vc_skip ?_
      | fail)
    refine retL_of (le_gen (l := [(4, .c (.ptr 4 0)), (5, AD (pks (staleL q.packets slot)))]) (b := [(4, .box (Qu.cs ⟨q.limit, freshL q.packets slot⟩))]) (fun n => n) [20000, 26000] hS ?_ ?_ rfl (by first | rfl | (simp only [wfL, wfs]; rfl))) (ret_agg_dL isRet_r rfl rfl rfl rfl rfl rfl rfl)
    all_goals repeat' (first | exact trivial | refine ⟨⟨_, rfl, ?_⟩, ?_⟩ | exact .c (.ptr rfl) | exact .c (.frzOf (by first | (simp; done) | decide) rfl rfl (fun _ => rfl)) | refine .box ?_ | exact .nil | refine .cons ?_ ?_ | exact .d | exact .frzOf (by first | (simp; done) | decide) rfl rfl (fun _ => rfl) | fail)
  · rw [expireQ, if_pos hc]
    have hd : decide (checkQ q ≠ 0) = true := by simp [hc]
    repeat' (first
      | (show VR _ _ _ (_ :: _) _ _ _; first | refine x_opF rfl (by first | exact True.intro | omega) ?_ | (show VR _ _ _ (⟨_, .call ⟨.value _, _, _⟩, _, _, _, _⟩ :: _) _ _ _; first | refine vr_calldU (hck) (gk rfl) rfl rfl rfl (by first | rfl | (simp only [wfRes, wfL, wfArgs, wfs]; rfl)) rfl (by first | exact newB_O | rfl) rfl ?_))
      | (show VR _ _ _ [] _ _ _; first | refine vr_nil ?_)
      | (show thenQ _ _ _ _; first | refine q_then_n ?_ | refine q_then_r ?_)
      | refine vc_seq ?_
      | refine vc_region ?_
      | (show VC _ (.cond _ _ _) _ _; first | refine vc_cond_t rfl ?_ | refine x_know rfl (by assumption) ?_)
      | refine vc_ret ?_
      | fail)
    refine retL_of (le_gen0 (l := [(4, .c (.ptr 4 0)), (5, AD (pks []))]) (b := [(4, .box q.cs)]) (fun n => n) ?_ ?_ rfl (by first | rfl | (simp only [wfL, wfs]; rfl))) (ret_agg_dL isRet_r rfl rfl rfl rfl rfl rfl rfl)
    all_goals repeat' (first | exact trivial | refine ⟨⟨_, rfl, ?_⟩, ?_⟩ | exact .c (.ptr rfl) | exact .c .nil | exact .boxD rfl rfl | fail)
set_option maxHeartbeats 1000000 in
theorem r_expire_spec (q : Qu) (slot : Int) : FnS Tryz.prog 88 [quA q, AI slot] [] (.tup [quA (expireQ q slot).1, AD (pks (expireQ q slot).2)]) [] := by
  have hck := r_checkQ_spec q
  refine FnS.of_body (enters_of Tryz.func88 (by kernel_rfl) rfl) Tryz.func88 rfl Tryz.ntmps88 Tryz.results88 rfl rfl rfl rfl fun E hS => ?_
  refine vc_retL ?_
  by_cases hc : checkQ q = 0
  · rw [hc] at hck
    have hl := checkQ_len hc
    rw [expireQ, if_neg (by omega)]
    repeat' (first
      | (show VR _ _ _ (_ :: _) _ _ _; first | refine x_opF rfl (by first | exact True.intro | omega) ?_ | (show VR _ _ _ (⟨_, .call ⟨.value _, _, _⟩, _, _, _, _⟩ :: _) _ _ _; first | refine vr_calldU (hck) (gk rfl) rfl rfl rfl (by first | rfl | (simp only [wfRes, wfL, wfArgs, wfs]; rfl)) rfl (by first | exact newB_O | rfl) rfl ?_))
      | (show VR _ _ _ [] _ _ _; first | refine vr_nil ?_)
      | (show thenQ _ _ _ _; first | refine q_then_n ?_)
      | refine vc_seq ?_
      | refine vc_region ?_
      | (show VC _ (.cond _ _ _) _ _; first | refine vc_cond_f rfl ?_)
      | refine vc_block ?_ | refine vc_skip ?_
      | fail)
    refine VC.le (le_nilB (bx := 6) (nm := 44) (T := 71) (sz := 6) (j := 1) rfl rfl rfl) ?_
    refine VC.le (le_nil (t := 7) (nm := 45) (T := 71) (sz := 6) rfl rfl) ?_
    refine vc_loopI (ι := Nat) (fun k => stOf [(1, AI slot), (2, .c (.ptr 2 0)), (4, .c (.ptr 4 0)), (6, .c (.ptr 6 0)), (7, .c (.row 45 (staleL (q.packets.take k) slot).length)), (8, AI k)] [(2, .box q.cs), (4, .box noQ.cs), (6, .box [.d (.int .i64 q.limit), .row 44 (freshL (q.packets.take k) slot).length]), (44, .row 71 6 (rowOf Pk.enc (freshL (q.packets.take k) slot))), (45, .row 71 6 (rowOf Pk.enc (staleL (q.packets.take k) slot)))])
      (fun k => k ≤ q.packets.length) (fun k => q.packets.length - k) 0 (Nat.zero_le _) ?_ ?_
    · refine le_gen0 (fun n => n) ?_ ?_ rfl (by first | rfl | (simp only [wfL, wfs]; rfl))
      all_goals repeat' (first | exact trivial | refine ⟨⟨_, rfl, ?_⟩, ?_⟩ | exact .c .d | exact .c (.ptr rfl) | exact .c (.row rfl rfl) | exact .boxD rfl rfl | exact .rowD rfl rowOf_isD | refine .box ?_ | exact .nil | refine .cons ?_ ?_ | exact .d | exact .row rfl rfl | fail)
    · intro k hk
      have h1 := freshL_len (q.packets.take k) slot
      have h2 := staleL_len (q.packets.take k) slot
      rw [List.length_take] at h1 h2
      repeat' (first
        | (show VR _ _ _ (_ :: _) _ _ _; first | refine x_opF rfl (by first | exact True.intro | omega) ?_ | (show VR _ _ _ (⟨_, .indexAddr _ _ _, _, _, _, _⟩ :: _) _ _ _; first | refine vr_index_rd (gk rfl) rfl rfl rfl rfl rfl (by omega) rfl ?_) | (show VR _ _ _ (⟨_, .call ⟨.builtin .append, _, _⟩, _, _, _, _⟩ :: _) _ _ _; first | refine vr_append0 (gk rfl) rfl rfl rfl (by first | rfl | exact rowOf_length.symm | (simp only [lns] <;> omega)) (by first | exact .row rfl (by first | rfl | exact rowOf_length.symm) | exact .rd | exact .nils) rfl rfl rfl (by (try dsimp only); omega) rfl rfl ?_) | (show VR _ _ _ (⟨_, .binOp _ _ _ _ _, _, _, _, _⟩ :: _) _ _ _; first | refine x_ariw rfl rfl rfl rfl rfl ?_) | (refine x_gsplit rfl ?_ ?_ <;> intro h <;> have hq := h <;> (try simp only [hqs] at hq)))
        | (show VR _ _ _ [] _ _ _; first | refine vr_nil ?_)
        | (show thenQ _ _ _ _; first | refine q_then_n ?_ | refine q_then_x ?_)
        | (show blockQ _ _ _ _; first | refine q_blk_n ?_ | refine q_blk_x ?_)
        | refine vc_seq ?_
        | refine vc_region ?_
        | (show VC _ (.cond _ _ _) _ _; first | refine vc_cond_f rfl ?_ | (refine x_cond rfl ?_ ?_ <;> intro h <;> have hq := h <;> (try simp only [hqs] at hq)))
        | refine vc_ret ?_ | refine vc_exit ?_ | refine vc_block ?_ | refine vc_skip ?_
        | fail)
      · have hs : staleB (q.packets.getD k default) slot = true := by simp only [staleB, Bool.and_eq_true, decide_eq_true_eq]; omega
        have e1 : staleL (q.packets.take (k + 1)) slot = staleL (q.packets.take k) slot ++ [q.packets.getD k default] := by unfold staleL; rw [filter_take (by omega), if_pos hs]
        have e2 : freshL (q.packets.take (k + 1)) slot = freshL (q.packets.take k) slot := by unfold freshL; rw [filter_take (by omega), if_neg (by rw [hs]; simp), List.append_nil]
        refine ⟨k + 1, by omega, by omega, ?_⟩
        rw [e1, e2]
        refine le_gen0 (fun n => if n = 45 then 43 else n) ?_ ?_ rfl (by first | rfl | (simp only [wfL, wfs]; rfl))
        all_goals repeat' (first | exact trivial | refine ⟨⟨_, rfl, ?_⟩, ?_⟩ | exact .c .d | exact .c (.ptr rfl) | (refine .c (.row rfl ?_); ((try dsimp only); first | rfl | omega | (simp only [lns] <;> omega)); done) | exact .boxD rfl rfl | exact .rowD rfl rowOf_isD | (refine .rowD ?_ rowOf_isD; rw [rowOf_append]; rfl) | refine .box ?_ | exact .nil | refine .cons ?_ ?_ | exact .d | exact .row rfl rfl | fail)
      · have hs : staleB (q.packets.getD k default) slot = false := by simp only [staleB, Bool.and_eq_false_iff, decide_eq_false_iff_not]; omega
        have e1 : staleL (q.packets.take (k + 1)) slot = staleL (q.packets.take k) slot := by unfold staleL; rw [filter_take (by omega), if_neg (by rw [hs]; simp), List.append_nil]
        have e2 : freshL (q.packets.take (k + 1)) slot = freshL (q.packets.take k) slot ++ [q.packets.getD k default] := by unfold freshL; rw [filter_take (by omega), if_pos (by rw [hs]; rfl)]
        refine ⟨k + 1, by omega, by omega, ?_⟩
        rw [e1, e2]
        refine le_gen0 (fun n => if n = 44 then 48 else n) ?_ ?_ rfl (by first | rfl | (simp only [wfL, wfs]; rfl))
        all_goals repeat' (first | exact trivial | refine ⟨⟨_, rfl, ?_⟩, ?_⟩ | exact .c .d | exact .c (.ptr rfl) | exact .c (.row rfl rfl) | exact .boxD rfl rfl | exact .rowD rfl rowOf_isD | (refine .rowD ?_ rowOf_isD; rw [rowOf_append]; rfl) | refine .box ?_ | exact .nil | refine .cons ?_ ?_ | exact .d | (refine .row rfl ?_; ((try dsimp only); first | rfl | omega | (simp only [lns] <;> omega)); done) | fail)
      · have hs : staleB (q.packets.getD k default) slot = false := by simp only [staleB, Bool.and_eq_false_iff, decide_eq_false_iff_not]; omega
        have e1 : staleL (q.packets.take (k + 1)) slot = staleL (q.packets.take k) slot := by unfold staleL; rw [filter_take (by omega), if_neg (by rw [hs]; simp), List.append_nil]
        have e2 : freshL (q.packets.take (k + 1)) slot = freshL (q.packets.take k) slot ++ [q.packets.getD k default] := by unfold freshL; rw [filter_take (by omega), if_pos (by rw [hs]; rfl)]
        refine ⟨k + 1, by omega, by omega, ?_⟩
        rw [e1, e2]
        refine le_gen0 (fun n => if n = 44 then 48 else n) ?_ ?_ rfl (by first | rfl | (simp only [wfL, wfs]; rfl))
        all_goals repeat' (first | exact trivial | refine ⟨⟨_, rfl, ?_⟩, ?_⟩ | exact .c .d | exact .c (.ptr rfl) | exact .c (.row rfl rfl) | exact .boxD rfl rfl | exact .rowD rfl rowOf_isD | (refine .rowD ?_ rowOf_isD; rw [rowOf_append]; rfl) | refine .box ?_ | exact .nil | refine .cons ?_ ?_ | exact .d | (refine .row rfl ?_; ((try dsimp only); first | rfl | omega | (simp only [lns] <;> omega)); done) | fail)
      · have hk' : k = q.packets.length := by omega
        subst hk'
        rw [List.take_length]
        refine retL_of (le_gen (l := [(4, .c (.ptr 4 0)), (5, AD (pks (staleL q.packets slot)))]) (b := [(4, .box (Qu.cs ⟨q.limit, freshL q.packets slot⟩))]) (fun n => n) [44, 45] hS ?_ ?_ rfl (by first | rfl | (simp only [wfL, wfs]; rfl))) (ret_agg_dL isRet_r rfl rfl rfl rfl rfl rfl rfl)
        all_goals repeat' (first | exact trivial | refine ⟨⟨_, rfl, ?_⟩, ?_⟩ | exact .c (.ptr rfl) | exact .c (.frzOf (by first | (simp; done) | decide) rfl rfl (fun _ => rfl)) | refine .box ?_ | exact .nil | refine .cons ?_ ?_ | exact .d | exact .frzOf (by first | (simp; done) | decide) rfl rfl (fun _ => rfl) | fail)
  · rw [expireQ, if_pos hc]
    have hd : decide (checkQ q ≠ 0) = true := by simp [hc]
    repeat' (first
      | (show VR _ _ _ (_ :: _) _ _ _; first | refine x_opF rfl (by first | exact True.intro | omega) ?_ | (show VR _ _ _ (⟨_, .call ⟨.value _, _, _⟩, _, _, _, _⟩ :: _) _ _ _; first | refine vr_calldU (hck) (gk rfl) rfl rfl rfl (by first | rfl | (simp only [wfRes, wfL, wfArgs, wfs]; rfl)) rfl (by first | exact newB_O | rfl) rfl ?_))
      | (show VR _ _ _ [] _ _ _; first | refine vr_nil ?_)
      | (show thenQ _ _ _ _; first | refine q_then_n ?_ | refine q_then_r ?_)
      | refine vc_seq ?_
      | refine vc_region ?_
      | (show VC _ (.cond _ _ _) _ _; first | refine vc_cond_t rfl ?_ | refine x_know rfl (by assumption) ?_)
      | refine vc_ret ?_
      | fail)
    refine retL_of (le_gen0 (l := [(4, .c (.ptr 4 0)), (5, AD (pks []))]) (b := [(4, .box q.cs)]) (fun n => n) ?_ ?_ rfl (by first | rfl | (simp only [wfL, wfs]; rfl))) (ret_agg_dL isRet_r rfl rfl rfl rfl rfl rfl rfl)
    all_goals repeat' (first | exact trivial | refine ⟨⟨_, rfl, ?_⟩, ?_⟩ | exact .c (.ptr rfl) | exact .c .nil | exact .boxD rfl rfl | fail)
end Go.Proofs.Q
