/-
  What functions of the given program hand back, by walks over its code, and plain laws on that. No condition.
-/
import Derived.Test.YtidijkcalgmadaaGreatSxVQd
-- SXS
namespace Go.Proofs.Q
open Go Go.Sx
set_option maxRecDepth 4000
set_option linter.unusedSimpArgs false
set_option linter.unusedVariables false
attribute [local irreducible] VR VC thenQ blockQ retL

theorem qindex_any {q : Qu} {id : Int} : decide (0 ≤ oI (idxId q.packets id)) = q.packets.any fun x => decide (x.id = id) := fstO_any _ _
set_option maxHeartbeats 2000000 in
theorem put_spec (q : Qu) (p : Pk) : FnS Tryz.prog 33 [quA q, pkA p] [] (.tup [quA (putQ q p).1, AD (pks (putQ q p).2.1), AI (putQ q p).2.2]) [] := by
  have hck := checkQ_spec q
  have hfm := form_spec p
  refine FnS.of_body (enters_of Tryz.func33 (by kernel_rfl) rfl) Tryz.func33 rfl Tryz.ntmps33 Tryz.results33 rfl rfl rfl rfl fun E hS => ?_
  refine vc_retL ?_
  by_cases hc : checkQ q = 0
  · rw [hc] at hck
    obtain ⟨hl1, hl2, hl3⟩ := checkQ_len hc
    by_cases hf : formP p = 0
    · rw [hf] at hfm
      have hat := idxf_Pk q.packets (fun x => decide (p.prio < x.prio))
      have hat2 := idxf_Pk (q.packets.take (q.packets.length - 1)) (fun x => decide (p.prio < x.prio))
      have e : putQ q p = if (q.packets.any fun x => decide (x.id = p.id)) = true then (noQ, [], 6)
          else if q.packets.length = q.limit then
            if (q.packets.getD (q.packets.length - 1) default).prio ≤ p.prio then (noQ, [], 13)
            else (⟨q.limit, insAt (q.packets.take (q.packets.length - 1)) (atP (q.packets.take (q.packets.length - 1)) p.prio) p⟩, [q.packets.getD (q.packets.length - 1) default], 0)
          else (⟨q.limit, insAt q.packets (atP q.packets p.prio) p⟩, [], 0) := by rw [putQ, if_neg (by omega), if_neg (by omega)]
      repeat' (first
        | (show VR _ _ _ (_ :: _) _ _ _; first | refine x_opF rfl (by first | exact True.intro | omega) ?_ | (show VR _ _ _ (⟨_, .call ⟨.value _, _, _⟩, _, _, _, _⟩ :: _) _ _ _; first | refine vr_calldU (hck) (gk rfl) rfl rfl rfl (by first | rfl | (simp only [wfRes, wfL, wfArgs, wfs]; rfl)) rfl (by first | exact newB_O | rfl) rfl ?_ | refine vr_calldU (hfm) (gk rfl) rfl rfl rfl (by first | rfl | (simp only [wfRes, wfL, wfArgs, wfs]; rfl)) rfl (by first | exact newB_O | rfl) rfl ?_ | refine vr_calldU (qindex_spec q p.id) (gk rfl) rfl rfl rfl (by first | rfl | (simp only [wfRes, wfL, wfArgs, wfs]; rfl)) rfl (by first | exact newB_O | rfl) rfl ?_ | refine vr_calldU (clone_Pk q.packets (by omega)) (gk rfl) rfl rfl rfl (by first | rfl | (simp only [wfRes, wfL, wfArgs, wfs]; rfl)) rfl (by first | exact newB_O | rfl) rfl ?_) | (show VR _ _ _ (⟨_, .indexAddr _ _ _, _, _, _, _⟩ :: _) _ _ _; first | refine vr_index_rowN (gk rfl) rfl rfl rfl rfl rfl (by omega) (by first | rfl | exact rowOf_length.symm | (simp only [lns] <;> omega)) rfl ?_) | (show VR _ _ _ (⟨_, .call ⟨.builtin .len, _, _⟩, _, _, _, _⟩ :: _) _ _ _; first | refine vr_len_row (gk rfl) rfl rfl (by first | rfl | exact rowOf_length.symm | (simp only [lns] <;> omega)) rfl rfl ?_) | (show VR _ _ _ (⟨_, .call ⟨.builtin .append, _, _⟩, _, _, _, _⟩ :: _) _ _ _; first | refine vr_append_nils0 (gk rfl) rfl rfl (by first | exact .row rfl (by first | rfl | exact rowOf_length.symm) | exact .rd | exact .nils) rfl rfl rfl (by (try dsimp only); omega) rfl rfl ?_) | (show VR _ _ _ (⟨_, .slice _ _ _ _ _, _, _, _, _⟩ :: _) _ _ _; first | refine vr_slice_head (gk rfl) rfl rfl (by first | exact .row | exact .full) rfl rfl (by first | exact .no | exact .int rfl rfl | exact .nat rfl (by omega)) (by first | omega | (simp only [lns]; omega)) (by first | omega | (simp only [lns]; omega)) rfl ?_) | (show VR _ _ _ (⟨_, .load _ _, _, _, _, _⟩ :: _) _ _ _; first | refine vr_load_rowO_agg (gk rfl) rfl rfl (by omega) rfl rfl rfl ?_ | refine vr_load_rowO (gk rfl) rfl rfl (by omega) rfl rfl rfl ?_))
        | (show VR _ _ _ [] _ _ _; first | refine vr_nil ?_ | refine vr_nil_t (by kernel_rfl) ?_)
        | (show thenQ _ _ _ _; first | refine q_then_n ?_ | refine q_then_r ?_)
        | (show VC _ (.seq _ _) _ _; (fail_if_success (show VC _ (.seq (.seq (.region 15 _ _) _) _) _ _)); (fail_if_success (show VC _ (.seq (.region 15 _ _) _) _ _)); refine vc_seq ?_)
        | refine vc_region ?_ | refine vc_region_t ?_
        | (show VC _ (.cond _ _ _) _ _; first | refine vc_cond_f rfl ?_ | (refine x_cond rfl ?_ ?_ <;> intro h <;> have hq := h <;> (try simp only [hqs] at hq)))
        | refine vc_ret ?_ | refine vc_skip ?_
        | fail)
      · rw [if_pos (by rw [← qindex_any]; exact h)] at e
        rw [e]
        refine retL_of (le_gen0 (l := [(4, .c (.ptr 4 0)), (5, AD (pks [])), (6, AI 6)]) (b := [(4, .box noQ.cs)]) (fun n => n) ?_ ?_ rfl (by first | rfl | (simp only [wfL, wfs]; rfl))) (ret_agg_ddL isRet_r rfl rfl rfl rfl rfl rfl rfl rfl rfl)
        all_goals repeat' (first | exact trivial | refine ⟨⟨_, rfl, ?_⟩, ?_⟩ | exact .c .d | exact .c (.ptr rfl) | exact .c .nil | refine .box ?_ | exact .nil | refine .cons ?_ ?_ | exact .d | fail)
      · have hn : ((q.packets.length : Int) - 1).toNat = q.packets.length - 1 := by omega
        rw [hn] at hq
        rw [if_neg (by rw [← qindex_any]; simp; omega), if_pos (by omega), if_pos hq] at e
        rw [e]
        refine retL_of (le_gen0 (l := [(4, .c (.ptr 4 0)), (5, AD (pks [])), (6, AI 13)]) (b := [(4, .box noQ.cs)]) (fun n => n) ?_ ?_ rfl (by first | rfl | (simp only [wfL, wfs]; rfl))) (ret_agg_ddL isRet_r rfl rfl rfl rfl rfl rfl rfl rfl rfl)
        all_goals repeat' (first | exact trivial | refine ⟨⟨_, rfl, ?_⟩, ?_⟩ | exact .c .d | exact .c (.ptr rfl) | exact .c .nil | refine .box ?_ | exact .nil | refine .cons ?_ ?_ | exact .d | fail)
      · have hn : ((q.packets.length : Int) - 1).toNat = q.packets.length - 1 := by omega
        rw [hn] at hq h
        have hlt : (q.packets.take (q.packets.length - 1)).length = q.packets.length - 1 := by rw [List.length_take]; omega
        rw [if_neg (by rw [← qindex_any]; simp; omega), if_pos (by omega), if_neg (by omega)] at e
        rw [e]
        refine VC.le (σ' := stOf [(2, .c (.ptr 2 0)), (3, .c (.ptr 3 0)), (4, .c (.ptr 4 0)), (8, .c (.row 8 (q.packets.take (q.packets.length - 1)).length)), (9, AD (pks [q.packets.getD (q.packets.length - 1) default]))]
          [(2, .box q.cs), (3, .box p.cs), (4, .box noQ.cs), (8, .row 40 6 (rowOf Pk.enc (q.packets.take (q.packets.length - 1))))]) ?_ ?_
        · rw [hn]
          refine le_gen (fun n => if n = 8 then 30007 else n) [54] hS ?_ ?_ rfl (by first | rfl | (simp only [wfL, wfs]; rfl))
          all_goals repeat' (first | exact trivial | refine ⟨⟨_, rfl, ?_⟩, ?_⟩ | exact .c (.ptr rfl) | (refine .c (.row rfl ?_); ((try dsimp only); first | rfl | omega | (simp only [lns] <;> omega)); done) | exact .c (.frzOf (by first | (simp; done) | decide) rfl rfl (fun _ => rfl)) | exact .boxD rfl rfl | refine .box ?_ | exact .nil | refine .cons ?_ ?_ | exact .d | fail)
          exact .truncO (q.packets.length - 1) rowOf_take
        · cases ht : fstO (q.packets.take (q.packets.length - 1)) (fun x => decide (p.prio < x.prio)) with
          | none =>
            rw [ht] at hat2
            have h' : FnS Tryz.prog 48 [AD (pks (q.packets.take (q.packets.length - 1))), .clo (predφPk fun x => decide (p.prio < x.prio))] [] (AI (-1)) [] := hat2
            have ha : atP (q.packets.take (q.packets.length - 1)) p.prio = ((q.packets.take (q.packets.length - 1))).length := by rw [atP, ht]; rfl
            repeat' (first
              | (show VR _ _ _ (_ :: _) _ _ _; first | refine x_opF rfl (by first | exact True.intro | omega) ?_ | (show VR _ _ _ (⟨_, .call ⟨.value _, _, _⟩, _, _, _, _⟩ :: _) _ _ _; first | refine vr_callU [3, 8] (h') (gk rfl) rfl (by (repeat' (first | exact .nil | refine .cons ?_ ?_ | exact .of0 (.c .d) | exact .of0 .ep | exact .clo | exact (put1_fnc (by simp) rfl) | exact (.of0 (.c (cr_rowO (by simp) rfl rfl (fun _ => rfl)))) | exact .of0 (.c .nil) | exact .of0 (.c (cr_rowO (by simp) rfl (by first | rfl | omega) (fun _ => rfl))) | refine .of0 (.agg ?_) | exact .d | exact .nil | exact .of0 (.c (cr_row (by decide) rfl rfl (by repeat' (first | exact trivial | refine ⟨?_, ?_⟩ | rfl)))))) <;> fail) (by first | rfl | exact hfl_O (fun _ => rfl) | exact hfl_O2 rfl (fun _ => rfl)) rfl (by first | rfl | (simp only [wfRes, wfL, wfArgs, wfs]; rfl)) rfl (by first | exact newB_O | rfl) rfl ?_ | refine vr_callMU [70] (insert_Pk (q.packets.take (q.packets.length - 1)) ((q.packets.take (q.packets.length - 1))).length p (by omega) (Nat.le_refl _)) (gk rfl) rfl rfl rowOf_isD rfl (by (repeat' (first | exact .nil | refine .cons ?_ ?_ | exact .of0 (.c .d) | exact .of0 .ep | exact .clo | exact (put1_fnc (by simp) rfl) | exact (.of0 (.c (cr_rowO (by simp) rfl rfl (fun _ => rfl)))) | exact .of0 (.c .nil) | exact .of0 (.c (cr_rowO (by simp) rfl (by first | rfl | omega) (fun _ => rfl))) | refine .of0 (.agg ?_) | exact .d | exact .nil | exact .of0 (.c (cr_row (by decide) rfl rfl (by repeat' (first | exact trivial | refine ⟨?_, ?_⟩ | rfl)))))) <;> fail) rfl (by first | rfl | exact hfl_O (fun _ => rfl) | exact hfl_O2 rfl (fun _ => rfl)) rfl (by first | rfl | (simp only [wfRes, wfL, wfArgs, wfs]; rfl)) rfl (by first | exact newB_O | rfl) rfl ?_) | (show VR _ _ _ (⟨_, .call ⟨.builtin .len, _, _⟩, _, _, _, _⟩ :: _) _ _ _; first | refine vr_len_row (gk rfl) rfl rfl (by first | rfl | exact rowOf_length.symm | (simp only [lns] <;> omega)) rfl rfl ?_))
              | (show VR _ _ _ [] _ _ _; first | refine vr_nil ?_ | refine vr_nil_t (by kernel_rfl) ?_)
              | (show thenQ _ _ _ _; first | refine q_then_n ?_)
              | refine vc_seq ?_
              | refine vc_region ?_ | refine vc_region_t ?_
              | (show VC _ (.cond _ _ _) _ _; first | refine vc_cond_t rfl ?_)
              | refine vc_ret ?_
              | fail)
            rw [ha]
            refine retL_of (le_gen (l := [(4, .c (.ptr 4 0)), (5, AD (pks [q.packets.getD (q.packets.length - 1) default])), (6, AI 0)]) (b := [(4, .box (Qu.cs ⟨q.limit, insAt (q.packets.take (q.packets.length - 1)) ((q.packets.take (q.packets.length - 1))).length p⟩))]) (fun n => n) [71001] hS ?_ ?_ rfl (by first | rfl | (simp only [wfL, wfs]; rfl))) (ret_agg_ddL isRet_r rfl rfl rfl rfl rfl rfl rfl rfl rfl)
            all_goals repeat' (first | exact trivial | refine ⟨⟨_, rfl, ?_⟩, ?_⟩ | exact .c .d | exact .c (.ptr rfl) | refine .box ?_ | exact .nil | refine .cons ?_ ?_ | exact .d | (refine .frzOf (by first | (simp; done) | decide) rfl ?_ (fun _ => rfl); ((try dsimp only); first | rfl | omega | (simp only [lns] <;> omega)); done) | fail)
            all_goals (simp [insAt])
          | some i =>
            rw [ht] at hat2
            have h' : FnS Tryz.prog 48 [AD (pks (q.packets.take (q.packets.length - 1))), .clo (predφPk fun x => decide (p.prio < x.prio))] [] (AI (i : Nat)) [] := hat2
            have ha : atP (q.packets.take (q.packets.length - 1)) p.prio = i := by rw [atP, ht]; rfl
            obtain ⟨hi, _, _⟩ := fstO_some ht
            repeat' (first
              | (show VR _ _ _ (_ :: _) _ _ _; first | refine x_opF rfl (by first | exact True.intro | omega) ?_ | (show VR _ _ _ (⟨_, .call ⟨.value _, _, _⟩, _, _, _, _⟩ :: _) _ _ _; first | refine vr_callU [3, 8] (h') (gk rfl) rfl (by (repeat' (first | exact .nil | refine .cons ?_ ?_ | exact .of0 (.c .d) | exact .of0 .ep | exact .clo | exact (put1_fnc (by simp) rfl) | exact (.of0 (.c (cr_rowO (by simp) rfl rfl (fun _ => rfl)))) | exact .of0 (.c .nil) | exact .of0 (.c (cr_rowO (by simp) rfl (by first | rfl | omega) (fun _ => rfl))) | refine .of0 (.agg ?_) | exact .d | exact .nil | exact .of0 (.c (cr_row (by decide) rfl rfl (by repeat' (first | exact trivial | refine ⟨?_, ?_⟩ | rfl)))))) <;> fail) (by first | rfl | exact hfl_O (fun _ => rfl) | exact hfl_O2 rfl (fun _ => rfl)) rfl (by first | rfl | (simp only [wfRes, wfL, wfArgs, wfs]; rfl)) rfl (by first | exact newB_O | rfl) rfl ?_ | refine vr_callMU [70] (insert_Pk (q.packets.take (q.packets.length - 1)) i p (by omega) (Nat.le_of_lt hi)) (gk rfl) rfl rfl rowOf_isD rfl (by (repeat' (first | exact .nil | refine .cons ?_ ?_ | exact .of0 (.c .d) | exact .of0 .ep | exact .clo | exact (put1_fnc (by simp) rfl) | exact (.of0 (.c (cr_rowO (by simp) rfl rfl (fun _ => rfl)))) | exact .of0 (.c .nil) | exact .of0 (.c (cr_rowO (by simp) rfl (by first | rfl | omega) (fun _ => rfl))) | refine .of0 (.agg ?_) | exact .d | exact .nil | exact .of0 (.c (cr_row (by decide) rfl rfl (by repeat' (first | exact trivial | refine ⟨?_, ?_⟩ | rfl)))))) <;> fail) rfl (by first | rfl | exact hfl_O (fun _ => rfl) | exact hfl_O2 rfl (fun _ => rfl)) rfl (by first | rfl | (simp only [wfRes, wfL, wfArgs, wfs]; rfl)) rfl (by first | exact newB_O | rfl) rfl ?_))
              | (show VR _ _ _ [] _ _ _; first | refine vr_nil ?_ | refine vr_nil_t (by kernel_rfl) ?_)
              | (show thenQ _ _ _ _; first | refine q_then_n ?_)
              | refine vc_seq ?_
              | refine vc_region ?_ | refine vc_region_t ?_
              | (show VC _ (.cond _ _ _) _ _; first | refine vc_cond_f rfl ?_)
              | refine vc_ret ?_ | refine vc_skip ?_
              | fail)
            rw [ha]
            refine retL_of (le_gen (l := [(4, .c (.ptr 4 0)), (5, AD (pks [q.packets.getD (q.packets.length - 1) default])), (6, AI 0)]) (b := [(4, .box (Qu.cs ⟨q.limit, insAt (q.packets.take (q.packets.length - 1)) i p⟩))]) (fun n => n) [71001] hS ?_ ?_ rfl (by first | rfl | (simp only [wfL, wfs]; rfl))) (ret_agg_ddL isRet_r rfl rfl rfl rfl rfl rfl rfl rfl rfl)
            all_goals repeat' (first | exact trivial | refine ⟨⟨_, rfl, ?_⟩, ?_⟩ | exact .c .d | exact .c (.ptr rfl) | refine .box ?_ | exact .nil | refine .cons ?_ ?_ | exact .d | (refine .frzOf (by first | (simp; done) | decide) rfl ?_ (fun _ => rfl); ((try dsimp only); first | rfl | omega | (simp only [lns] <;> omega)); done) | fail)
            all_goals (simp only [insAt, List.length_append, List.length_cons, List.length_take, List.length_drop]; simp only [List.length_take] at hi; omega)
      · rw [if_neg (by rw [← qindex_any]; simp; omega), if_neg (by omega)] at e
        rw [e]
        refine VC.le (σ' := stOf [(2, .c (.ptr 2 0)), (3, .c (.ptr 3 0)), (4, .c (.ptr 4 0)), (8, .c (.row 8 q.packets.length)), (9, AD (pks []))] [(2, .box q.cs), (3, .box p.cs), (4, .box noQ.cs), (8, .row 40 6 (rowOf Pk.enc q.packets))]) ?_ ?_
        · refine le_gen0 (fun n => if n = 8 then 30007 else n) ?_ ?_ rfl (by first | rfl | (simp only [wfL, wfs]; rfl))
          all_goals repeat' (first | exact trivial | refine ⟨⟨_, rfl, ?_⟩, ?_⟩ | exact .c (.ptr rfl) | exact .c (.row rfl rfl) | exact .c .nil | exact .boxD rfl rfl | exact .rowD rfl rowOf_isD | refine .box ?_ | exact .nil | refine .cons ?_ ?_ | exact .d | fail)
        · cases ht : fstO q.packets (fun x => decide (p.prio < x.prio)) with
          | none =>
            rw [ht] at hat
            have h' : FnS Tryz.prog 48 [AD (pks q.packets), .clo (predφPk fun x => decide (p.prio < x.prio))] [] (AI (-1)) [] := hat
            have ha : atP q.packets p.prio = (q.packets).length := by rw [atP, ht]; rfl
            repeat' (first
              | (show VR _ _ _ (_ :: _) _ _ _; first | refine x_opF rfl (by first | exact True.intro | omega) ?_ | (show VR _ _ _ (⟨_, .call ⟨.value _, _, _⟩, _, _, _, _⟩ :: _) _ _ _; first | refine vr_callU [3, 8] (h') (gk rfl) rfl (by (repeat' (first | exact .nil | refine .cons ?_ ?_ | exact .of0 (.c .d) | exact .of0 .ep | exact .clo | exact (put1_fnc (by simp) rfl) | exact (.of0 (.c (cr_rowO (by simp) rfl rfl (fun _ => rfl)))) | exact .of0 (.c .nil) | exact .of0 (.c (cr_rowO (by simp) rfl (by first | rfl | omega) (fun _ => rfl))) | refine .of0 (.agg ?_) | exact .d | exact .nil | exact .of0 (.c (cr_row (by decide) rfl rfl (by repeat' (first | exact trivial | refine ⟨?_, ?_⟩ | rfl)))))) <;> fail) (by first | rfl | exact hfl_O (fun _ => rfl) | exact hfl_O2 rfl (fun _ => rfl)) rfl (by first | rfl | (simp only [wfRes, wfL, wfArgs, wfs]; rfl)) rfl (by first | exact newB_O | rfl) rfl ?_ | refine vr_callMU [70] (insert_Pk q.packets (q.packets).length p (by omega) (Nat.le_refl _)) (gk rfl) rfl rfl rowOf_isD rfl (by (repeat' (first | exact .nil | refine .cons ?_ ?_ | exact .of0 (.c .d) | exact .of0 .ep | exact .clo | exact (put1_fnc (by simp) rfl) | exact (.of0 (.c (cr_rowO (by simp) rfl rfl (fun _ => rfl)))) | exact .of0 (.c .nil) | exact .of0 (.c (cr_rowO (by simp) rfl (by first | rfl | omega) (fun _ => rfl))) | refine .of0 (.agg ?_) | exact .d | exact .nil | exact .of0 (.c (cr_row (by decide) rfl rfl (by repeat' (first | exact trivial | refine ⟨?_, ?_⟩ | rfl)))))) <;> fail) rfl (by first | rfl | exact hfl_O (fun _ => rfl) | exact hfl_O2 rfl (fun _ => rfl)) rfl (by first | rfl | (simp only [wfRes, wfL, wfArgs, wfs]; rfl)) rfl (by first | exact newB_O | rfl) rfl ?_) | (show VR _ _ _ (⟨_, .call ⟨.builtin .len, _, _⟩, _, _, _, _⟩ :: _) _ _ _; first | refine vr_len_row (gk rfl) rfl rfl (by first | rfl | exact rowOf_length.symm | (simp only [lns] <;> omega)) rfl rfl ?_))
              | (show VR _ _ _ [] _ _ _; first | refine vr_nil ?_ | refine vr_nil_t (by kernel_rfl) ?_)
              | (show thenQ _ _ _ _; first | refine q_then_n ?_)
              | refine vc_seq ?_
              | refine vc_region ?_ | refine vc_region_t ?_
              | (show VC _ (.cond _ _ _) _ _; first | refine vc_cond_t rfl ?_)
              | refine vc_ret ?_
              | fail)
            rw [ha]
            refine retL_of (le_gen (l := [(4, .c (.ptr 4 0)), (5, AD (pks [])), (6, AI 0)]) (b := [(4, .box (Qu.cs ⟨q.limit, insAt q.packets (q.packets).length p⟩))]) (fun n => n) [71001] hS ?_ ?_ rfl (by first | rfl | (simp only [wfL, wfs]; rfl))) (ret_agg_ddL isRet_r rfl rfl rfl rfl rfl rfl rfl rfl rfl)
            all_goals repeat' (first | exact trivial | refine ⟨⟨_, rfl, ?_⟩, ?_⟩ | exact .c .d | exact .c (.ptr rfl) | refine .box ?_ | exact .nil | refine .cons ?_ ?_ | exact .d | (refine .frzOf (by first | (simp; done) | decide) rfl ?_ (fun _ => rfl); ((try dsimp only); first | rfl | omega | (simp only [lns] <;> omega)); done) | fail)
            all_goals (simp [insAt])
          | some i =>
            rw [ht] at hat
            have h' : FnS Tryz.prog 48 [AD (pks q.packets), .clo (predφPk fun x => decide (p.prio < x.prio))] [] (AI (i : Nat)) [] := hat
            have ha : atP q.packets p.prio = i := by rw [atP, ht]; rfl
            obtain ⟨hi, _, _⟩ := fstO_some ht
            repeat' (first
              | (show VR _ _ _ (_ :: _) _ _ _; first | refine x_opF rfl (by first | exact True.intro | omega) ?_ | (show VR _ _ _ (⟨_, .call ⟨.value _, _, _⟩, _, _, _, _⟩ :: _) _ _ _; first | refine vr_callU [3, 8] (h') (gk rfl) rfl (by (repeat' (first | exact .nil | refine .cons ?_ ?_ | exact .of0 (.c .d) | exact .of0 .ep | exact .clo | exact (put1_fnc (by simp) rfl) | exact (.of0 (.c (cr_rowO (by simp) rfl rfl (fun _ => rfl)))) | exact .of0 (.c .nil) | exact .of0 (.c (cr_rowO (by simp) rfl (by first | rfl | omega) (fun _ => rfl))) | refine .of0 (.agg ?_) | exact .d | exact .nil | exact .of0 (.c (cr_row (by decide) rfl rfl (by repeat' (first | exact trivial | refine ⟨?_, ?_⟩ | rfl)))))) <;> fail) (by first | rfl | exact hfl_O (fun _ => rfl) | exact hfl_O2 rfl (fun _ => rfl)) rfl (by first | rfl | (simp only [wfRes, wfL, wfArgs, wfs]; rfl)) rfl (by first | exact newB_O | rfl) rfl ?_ | refine vr_callMU [70] (insert_Pk q.packets i p (by omega) (Nat.le_of_lt hi)) (gk rfl) rfl rfl rowOf_isD rfl (by (repeat' (first | exact .nil | refine .cons ?_ ?_ | exact .of0 (.c .d) | exact .of0 .ep | exact .clo | exact (put1_fnc (by simp) rfl) | exact (.of0 (.c (cr_rowO (by simp) rfl rfl (fun _ => rfl)))) | exact .of0 (.c .nil) | exact .of0 (.c (cr_rowO (by simp) rfl (by first | rfl | omega) (fun _ => rfl))) | refine .of0 (.agg ?_) | exact .d | exact .nil | exact .of0 (.c (cr_row (by decide) rfl rfl (by repeat' (first | exact trivial | refine ⟨?_, ?_⟩ | rfl)))))) <;> fail) rfl (by first | rfl | exact hfl_O (fun _ => rfl) | exact hfl_O2 rfl (fun _ => rfl)) rfl (by first | rfl | (simp only [wfRes, wfL, wfArgs, wfs]; rfl)) rfl (by first | exact newB_O | rfl) rfl ?_))
              | (show VR _ _ _ [] _ _ _; first | refine vr_nil ?_ | refine vr_nil_t (by kernel_rfl) ?_)
              | (show thenQ _ _ _ _; first | refine q_then_n ?_)
              | refine vc_seq ?_
              | refine vc_region ?_ | refine vc_region_t ?_
              | (show VC _ (.cond _ _ _) _ _; first | refine vc_cond_f rfl ?_)
              | refine vc_ret ?_ | refine vc_skip ?_
              | fail)
            rw [ha]
            refine retL_of (le_gen (l := [(4, .c (.ptr 4 0)), (5, AD (pks [])), (6, AI 0)]) (b := [(4, .box (Qu.cs ⟨q.limit, insAt q.packets i p⟩))]) (fun n => n) [71001] hS ?_ ?_ rfl (by first | rfl | (simp only [wfL, wfs]; rfl))) (ret_agg_ddL isRet_r rfl rfl rfl rfl rfl rfl rfl rfl rfl)
            all_goals repeat' (first | exact trivial | refine ⟨⟨_, rfl, ?_⟩, ?_⟩ | exact .c .d | exact .c (.ptr rfl) | refine .box ?_ | exact .nil | refine .cons ?_ ?_ | exact .d | (refine .frzOf (by first | (simp; done) | decide) rfl ?_ (fun _ => rfl); ((try dsimp only); first | rfl | omega | (simp only [lns] <;> omega)); done) | fail)
            all_goals (simp only [insAt, List.length_append, List.length_cons, List.length_take, List.length_drop]; simp only [List.length_take] at hi; omega)
    · have e : putQ q p = (noQ, [], formP p) := by rw [putQ, if_neg (by omega), if_pos hf]
      have hd : decide (formP p ≠ 0) = true := by simp [hf]
      rw [e]
      repeat' (first
        | (show VR _ _ _ (_ :: _) _ _ _; first | refine x_opF rfl (by first | exact True.intro | omega) ?_ | (show VR _ _ _ (⟨_, .call ⟨.value _, _, _⟩, _, _, _, _⟩ :: _) _ _ _; first | refine vr_calldU (hck) (gk rfl) rfl rfl rfl (by first | rfl | (simp only [wfRes, wfL, wfArgs, wfs]; rfl)) rfl (by first | exact newB_O | rfl) rfl ?_ | refine vr_calldU (hfm) (gk rfl) rfl rfl rfl (by first | rfl | (simp only [wfRes, wfL, wfArgs, wfs]; rfl)) rfl (by first | exact newB_O | rfl) rfl ?_))
        | (show VR _ _ _ [] _ _ _; first | refine vr_nil ?_)
        | (show thenQ _ _ _ _; first | refine q_then_n ?_ | refine q_then_r ?_)
        | refine vc_seq ?_
        | refine vc_region ?_
        | (show VC _ (.cond _ _ _) _ _; first | refine vc_cond_t rfl ?_ | refine vc_cond_f rfl ?_ | refine x_know rfl (by assumption) ?_)
        | refine vc_ret ?_ | refine vc_skip ?_
        | fail)
      refine retL_of (le_gen0 (l := [(4, .c (.ptr 4 0)), (5, AD (pks [])), (6, AI (formP p))]) (b := [(4, .box noQ.cs)]) (fun n => n) ?_ ?_ rfl (by first | rfl | (simp only [wfL, wfs]; rfl))) (ret_agg_ddL isRet_r rfl rfl rfl rfl rfl rfl rfl rfl rfl)
      all_goals repeat' (first | exact trivial | refine ⟨⟨_, rfl, ?_⟩, ?_⟩ | exact .c .d | exact .c (.ptr rfl) | exact .c .nil | refine .box ?_ | exact .nil | refine .cons ?_ ?_ | exact .d | fail)
  · have e : putQ q p = (noQ, [], 1) := by rw [putQ, if_pos hc]
    have hd : decide (checkQ q ≠ 0) = true := by simp [hc]
    rw [e]
    repeat' (first
      | (show VR _ _ _ (_ :: _) _ _ _; first | refine x_opF rfl (by first | exact True.intro | omega) ?_ | (show VR _ _ _ (⟨_, .call ⟨.value _, _, _⟩, _, _, _, _⟩ :: _) _ _ _; first | refine vr_calldU (hck) (gk rfl) rfl rfl rfl (by first | rfl | (simp only [wfRes, wfL, wfArgs, wfs]; rfl)) rfl (by first | exact newB_O | rfl) rfl ?_))
      | (show VR _ _ _ [] _ _ _; first | refine vr_nil ?_)
      | (show thenQ _ _ _ _; first | refine q_then_n ?_ | refine q_then_r ?_)
      | refine vc_seq ?_
      | refine vc_region ?_
      | (show VC _ (.cond _ _ _) _ _; first | refine vc_cond_t rfl ?_ | refine x_know rfl (by assumption) ?_)
      | refine vc_ret ?_
      | fail)
    refine retL_of (le_gen0 (l := [(4, .c (.ptr 4 0)), (5, AD (pks [])), (6, AI 1)]) (b := [(4, .box noQ.cs)]) (fun n => n) ?_ ?_ rfl (by first | rfl | (simp only [wfL, wfs]; rfl))) (ret_agg_ddL isRet_r rfl rfl rfl rfl rfl rfl rfl rfl rfl)
    all_goals repeat' (first | exact trivial | refine ⟨⟨_, rfl, ?_⟩, ?_⟩ | exact .c .d | exact .c (.ptr rfl) | exact .c .nil | refine .box ?_ | exact .nil | refine .cons ?_ ?_ | exact .d | fail)
end Go.Proofs.Q


