/-
  What functions of the given program hand back, by walks over its code, and plain laws on that. No condition.
-/
import Derived.Test.YtecdajajocafdaaGreatSxP18Qe
-- SXS
namespace Go.Proofs.Q
open Go Go.Sx
set_option maxRecDepth 4000
set_option linter.unusedSimpArgs false
set_option linter.unusedVariables false
attribute [local irreducible] VR VC thenQ blockQ retL
theorem atP_at {l : List Pk} {pr : Int} {k : Nat} (h : ∀ i, i < k → (l.getD i default).prio ≤ pr) (hk : k ≤ l.length) (he : k < l.length → pr < (l.getD k default).prio) : atP l pr = k := by
  unfold atP
  have h0 : ∀ i, i < k → decide (pr < (l.getD i default).prio) = false := fun i hi => by
    have := h i hi
    simp only [decide_eq_false_iff_not]; omega
  by_cases hlt : k < l.length
  · rw [fstO_hit (k := k) h0 hlt (decide_eq_true (he hlt))]; rfl
  · have : k = l.length := by omega
    subst this
    rw [fstO_none h0]; rfl
set_option maxHeartbeats 2000000 in
theorem r_put_spec (q : Qu) (p : Pk) : FnS Tryz.prog 83 [quA q, pkA p] [] (.tup [quA (putQ q p).1, AD (pks (putQ q p).2.1), AI (putQ q p).2.2]) [] := by
  have hck := r_checkQ_spec q
  have hfm := packet_spec p
  refine FnS.of_body (enters_of Tryz.func83 (by kernel_rfl) rfl) Tryz.func83 rfl Tryz.ntmps83 Tryz.results83 rfl rfl rfl rfl fun E hS => ?_
  refine vc_retL ?_
  by_cases hc : checkQ q = 0
  · rw [hc] at hck
    obtain ⟨hl1, hl2, hl3⟩ := checkQ_len hc
    by_cases hf : formP p = 0
    · rw [hf] at hfm
      have e : putQ q p = if (q.packets.any fun x => decide (x.id = p.id)) = true then (noQ, [], 6)
          else if q.packets.length = q.limit then
            if (q.packets.getD (q.packets.length - 1) default).prio ≤ p.prio then (noQ, [], 13)
            else (⟨q.limit, insAt (q.packets.take (q.packets.length - 1)) (atP (q.packets.take (q.packets.length - 1)) p.prio) p⟩, [q.packets.getD (q.packets.length - 1) default], 0)
          else (⟨q.limit, insAt q.packets (atP q.packets p.prio) p⟩, [], 0) := by rw [putQ, if_neg (by omega), if_neg (by omega)]
      repeat' (first
        | (show VR _ _ _ (_ :: _) _ _ _; first | refine x_opF rfl (by first | exact True.intro | omega) ?_ | (show VR _ _ _ (⟨_, .call ⟨.value _, _, _⟩, _, _, _, _⟩ :: _) _ _ _; first | refine vr_calldU (hck) (gk rfl) rfl rfl rfl (by first | rfl | (simp only [wfRes, wfL, wfArgs, wfs]; rfl)) rfl (by first | exact newB_O | rfl) rfl ?_ | refine vr_calldU (hfm) (gk rfl) rfl rfl rfl (by first | rfl | (simp only [wfRes, wfL, wfArgs, wfs]; rfl)) rfl (by first | exact newB_O | rfl) rfl ?_ | refine vr_calldU (index_spec q.packets p.id) (gk rfl) rfl rfl rfl (by first | rfl | (simp only [wfRes, wfL, wfArgs, wfs]; rfl)) rfl (by first | exact newB_O | rfl) rfl ?_) | (show VR _ _ _ (⟨_, .indexAddr _ _ _, _, _, _, _⟩ :: _) _ _ _; first | refine vr_index_rdP (gk rfl) rfl rfl rfl rfl rfl (by omega) rfl ?_) | (show VR _ _ _ (⟨_, .call ⟨.builtin .append, _, _⟩, _, _, _, _⟩ :: _) _ _ _; first | refine vr_append_nils0 (gk rfl) rfl rfl (by first | exact .row rfl (by first | rfl | exact rowOf_length.symm) | exact .rd | exact .nils) rfl rfl rfl (by (try dsimp only); omega) rfl rfl ?_) | (show VR _ _ _ (⟨_, .slice _ _ _ _ _, _, _, _, _⟩ :: _) _ _ _; first | refine vr_slice_rd (gk rfl) rfl rfl rfl (by first | exact .no | exact .int rfl rfl | exact .nat rfl (by omega)) (by first | exact .no | exact .int rfl rfl | exact .nat rfl (by omega)) (by omega) (by omega) rfl ?_))
        | (show VR _ _ _ [] _ _ _; first | refine vr_nil ?_)
        | (show thenQ _ _ _ _; first | refine q_then_n ?_ | refine q_then_r ?_)
        | (show VC _ (.seq _ _) _ _; (fail_if_success (show VC _ (.seq (.seq (.region 16 _ _) _) _) _ _)); (fail_if_success (show VC _ (.seq (.region 16 _ _) _) _ _)); refine vc_seq ?_)
        | refine vc_region ?_
        | (show VC _ (.cond _ _ _) _ _; first | refine vc_cond_f rfl ?_ | (refine x_cond rfl ?_ ?_ <;> intro h <;> have hq := h <;> (try simp only [hqs] at hq)))
        | refine vc_ret ?_ | refine vc_skip ?_
        | fail)
      · rw [if_pos (by rw [← qindex_any]; exact h)] at e
        rw [e]
        refine retL_of (le_gen0 (l := [(4, .c (.ptr 4 0)), (5, AD (pks [])), (6, AI 6)]) (b := [(4, .box noQ.cs)]) (fun n => n) ?_ ?_ rfl (by first | rfl | (simp only [wfL, wfs]; rfl))) (ret_agg_ddL isRet_r rfl rfl rfl rfl rfl rfl rfl rfl rfl)
        all_goals repeat' (first | exact trivial | refine ⟨⟨_, rfl, ?_⟩, ?_⟩ | exact .c .d | exact .c (.ptr rfl) | exact .c .nil | refine .box ?_ | exact .nil | refine .cons ?_ ?_ | exact .d | fail)
      · have hn : ((q.packets.length : Int) - 1).toNat = q.packets.length - 1 := by omega
        rw [if_neg (by rw [← qindex_any]; intro hh; have hh := of_decide_eq_true hh; unfold idxId at hh; omega), if_pos (by omega), if_pos hq] at e
        rw [e]
        refine retL_of (le_gen0 (l := [(4, .c (.ptr 4 0)), (5, AD (pks [])), (6, AI 13)]) (b := [(4, .box noQ.cs)]) (fun n => n) ?_ ?_ rfl (by first | rfl | (simp only [wfL, wfs]; rfl))) (ret_agg_ddL isRet_r rfl rfl rfl rfl rfl rfl rfl rfl rfl)
        all_goals repeat' (first | exact trivial | refine ⟨⟨_, rfl, ?_⟩, ?_⟩ | exact .c .d | exact .c (.ptr rfl) | exact .c .nil | refine .box ?_ | exact .nil | refine .cons ?_ ?_ | exact .d | fail)
      · have hn : ((q.packets.length : Int) - 1).toNat = q.packets.length - 1 := by omega
        have hlt : (q.packets.take (q.packets.length - 1)).length = q.packets.length - 1 := by rw [List.length_take]; omega
        rw [if_neg (by rw [← qindex_any]; intro hh; have hh := of_decide_eq_true hh; unfold idxId at hh; omega), if_pos (by omega), if_neg (by omega)] at e
        rw [e, hn]
        refine VC.le (σ' := stOf [(2, .c (.ptr 2 0)), (3, .c (.ptr 3 0)), (4, .c (.ptr 4 0)), (8, AD (pks (q.packets.take (q.packets.length - 1)))), (9, AD (pks [q.packets.getD (q.packets.length - 1) default]))] [(2, .box q.cs), (3, .box p.cs), (4, .box noQ.cs)]) ?_ ?_
        · refine le_gen (fun n => n) [52] hS ?_ ?_ rfl (by first | rfl | (simp only [wfL, wfs]; rfl))
          all_goals repeat' (first | exact trivial | refine ⟨⟨_, rfl, ?_⟩, ?_⟩ | exact .c (.ptr rfl) | exact .c (.frzOf (by first | (simp; done) | decide) rfl rfl (fun _ => rfl)) | exact .boxD rfl rfl | refine .box ?_ | exact .nil | refine .cons ?_ ?_ | exact .d | fail)
          exact .c (.imp (DLe.head (sz := 6) q.packets (q.packets.length - 1) (by omega)))
        · repeat' (first
            | (show VR _ _ _ (_ :: _) _ _ _; first | refine x_opF rfl (by first | exact True.intro | omega) ?_)
            | (show VR _ _ _ [] _ _ _; first | refine vr_nil ?_)
            | (show thenQ _ _ _ _; first | refine q_then_n ?_)
            | refine vc_seq ?_
            | refine vc_region ?_
            | refine vc_block ?_
            | fail)
          refine VC.le (le_nilB (bx := 11) (nm := 44) (T := 71) (sz := 6) (j := 1) rfl rfl rfl) ?_
          refine vc_loopI (ι := Nat) (fun k => stOf [(3, .c (.ptr 3 0)), (4, .c (.ptr 4 0)), (8, AD (pks (q.packets.take (q.packets.length - 1)))), (9, AD (pks [q.packets.getD (q.packets.length - 1) default])), (11, .c (.ptr 11 0)), (12, AI k)] [(3, .box p.cs), (4, .box noQ.cs), (11, .box [.d (.int .i64 q.limit), .row 44 (((q.packets.take (q.packets.length - 1))).take k).length]), (44, .row 71 6 (rowOf Pk.enc (((q.packets.take (q.packets.length - 1))).take k)))])
            (fun k => k ≤ ((q.packets.take (q.packets.length - 1))).length ∧ ∀ i, i < k → (((q.packets.take (q.packets.length - 1))).getD i default).prio ≤ p.prio) (fun k => ((q.packets.take (q.packets.length - 1))).length - k) 0 ⟨Nat.zero_le _, fun i hi => absurd hi (Nat.not_lt_zero _)⟩ ?_ ?_
          · refine le_gen0 (fun n => n) ?_ ?_ rfl (by first | rfl | (simp only [wfL, wfs]; rfl))
            all_goals repeat' (first | exact trivial | refine ⟨⟨_, rfl, ?_⟩, ?_⟩ | exact .c .d | exact .c (.ptr rfl) | exact .boxD rfl rfl | exact .rowD rfl rowOf_isD | refine .box ?_ | exact .nil | refine .cons ?_ ?_ | exact .d | exact .row rfl rfl | fail)
          · rintro k ⟨hk, hall⟩
            have hkl : (((q.packets.take (q.packets.length - 1))).take k).length = k := by rw [List.length_take]; omega
            repeat' (first
              | (show VR _ _ _ (_ :: _) _ _ _; first | refine x_opF rfl (by first | exact True.intro | omega) ?_ | (show VR _ _ _ (⟨_, .indexAddr _ _ _, _, _, _, _⟩ :: _) _ _ _; first | refine vr_index_rd (gk rfl) rfl rfl rfl rfl rfl (by omega) rfl ?_) | (show VR _ _ _ (⟨_, .call ⟨.builtin .append, _, _⟩, _, _, _, _⟩ :: _) _ _ _; first | refine vr_append0 (gk rfl) rfl rfl rfl (by first | rfl | exact rowOf_length.symm | (simp only [lns] <;> omega)) (by first | exact .row rfl (by first | rfl | exact rowOf_length.symm) | exact .rd | exact .nils) rfl rfl rfl (by (try dsimp only); omega) rfl rfl ?_) | (show VR _ _ _ (⟨_, .slice _ _ _ _ _, _, _, _, _⟩ :: _) _ _ _; first | refine vr_slice_rd (gk rfl) rfl rfl rfl (by first | exact .no | exact .int rfl rfl | exact .nat rfl (by omega)) (by first | exact .no | exact .int rfl rfl | exact .nat rfl (by omega)) (by omega) (by omega) rfl ?_) | (refine x_gsplit rfl ?_ ?_ <;> intro h <;> have hq := h <;> (try simp only [hqs] at hq)))
              | (show VR _ _ _ [] _ _ _; first | refine vr_nil ?_ | refine vr_nil_t (by kernel_rfl) ?_)
              | (show thenQ _ _ _ _; first | refine q_then_n ?_ | refine q_then_x ?_)
              | (show blockQ _ _ _ _; first | refine q_blk_n ?_ | refine q_blk_x ?_)
              | refine vc_seq ?_
              | refine vc_region ?_ | refine vc_region_t ?_
              | (show VC _ (.cond _ _ _) _ _; first | refine vc_cond_f rfl ?_ | (refine x_cond rfl ?_ ?_ <;> intro h <;> have hq := h <;> (try simp only [hqs] at hq)))
              | refine vc_ret ?_ | refine vc_exit ?_ | refine vc_block ?_ | refine vc_skip ?_
              | fail)
            · refine ⟨k + 1, ⟨by omega, fun i hi => ?_⟩, by omega, ?_⟩
              · by_cases hik : i < k
                · exact hall i hik
                · have : i = k := by omega
                  subst this; exact hq
              · rw [take_getD (by omega)]
                refine le_gen0 (fun n => if n = 44 then 84 else n) ?_ ?_ rfl (by first | rfl | (simp only [wfL, wfs]; rfl))
                all_goals repeat' (first | exact trivial | refine ⟨⟨_, rfl, ?_⟩, ?_⟩ | exact .c .d | exact .c (.ptr rfl) | exact .boxD rfl rfl | (refine .rowD ?_ rowOf_isD; rw [rowOf_append]; rfl) | refine .box ?_ | exact .nil | refine .cons ?_ ?_ | exact .d | (refine .row rfl ?_; ((try dsimp only); first | rfl | omega | (simp only [lns] <;> omega)); done) | fail)
            all_goals
              have ha := atP_at (l := (q.packets.take (q.packets.length - 1))) (pr := p.prio) (k := k) hall hk (by intro hk'; omega)
              rw [ha]
              refine retL_of (le_gen (l := [(4, .c (.ptr 4 0)), (5, AD (pks [q.packets.getD (q.packets.length - 1) default])), (6, AI 0)]) (b := [(4, .box (Qu.cs ⟨q.limit, insAt (q.packets.take (q.packets.length - 1)) k p⟩))]) (fun n => n) [97] hS ?_ ?_ rfl (by first | rfl | (simp only [wfL, wfs]; rfl))) (ret_agg_ddL isRet_r rfl rfl rfl rfl rfl rfl rfl rfl rfl)
              all_goals repeat' (first | exact trivial | refine ⟨⟨_, rfl, ?_⟩, ?_⟩ | exact .c .d | exact .c (.ptr rfl) | refine .box ?_ | exact .nil | refine .cons ?_ ?_ | exact .d | fail)
              refine .frzEq (by simp) rfl ?_ ?_ (fun _ => rfl)
              · exact (congrArg (rowOf Pk.enc (((q.packets.take (q.packets.length - 1))).take k) ++ [(Pk.enc p).map C.d] ++ ·) (rd_rows (enc := Pk.enc) (sz := 6) (fun _ => rfl) (q.packets.take (q.packets.length - 1)) k (((q.packets.take (q.packets.length - 1))).length - k) (by omega))).trans (by rw [show (((q.packets.take (q.packets.length - 1))).drop k).take (((q.packets.take (q.packets.length - 1))).length - k) = ((q.packets.take (q.packets.length - 1))).drop k from List.take_of_length_le (by simp), insAt, rowOf_append, List.append_assoc]; rfl)
              · simp only [insAt, List.length_append, List.length_cons, List.length_drop]; omega
      · rw [if_neg (by rw [← qindex_any]; intro hh; have hh := of_decide_eq_true hh; unfold idxId at hh; omega), if_neg (by omega)] at e
        rw [e]
        refine VC.le (σ' := stOf [(2, .c (.ptr 2 0)), (3, .c (.ptr 3 0)), (4, .c (.ptr 4 0)), (8, AD (pks q.packets)), (9, AD (pks []))] [(2, .box q.cs), (3, .box p.cs), (4, .box noQ.cs)]) ?_ ?_
        · refine le_gen0 (fun n => n) ?_ ?_ rfl (by first | rfl | (simp only [wfL, wfs]; rfl))
          all_goals repeat' (first | exact trivial | refine ⟨⟨_, rfl, ?_⟩, ?_⟩ | exact .c .d | exact .c (.ptr rfl) | exact .c .nil | exact .boxD rfl rfl | refine .box ?_ | exact .nil | refine .cons ?_ ?_ | exact .d | fail)
        · repeat' (first
            | (show VR _ _ _ (_ :: _) _ _ _; first | refine x_opF rfl (by first | exact True.intro | omega) ?_)
            | (show VR _ _ _ [] _ _ _; first | refine vr_nil ?_)
            | (show thenQ _ _ _ _; first | refine q_then_n ?_)
            | refine vc_seq ?_
            | refine vc_region ?_
            | refine vc_block ?_
            | fail)
          refine VC.le (le_nilB (bx := 11) (nm := 44) (T := 71) (sz := 6) (j := 1) rfl rfl rfl) ?_
          refine vc_loopI (ι := Nat) (fun k => stOf [(3, .c (.ptr 3 0)), (4, .c (.ptr 4 0)), (8, AD (pks q.packets)), (9, AD (pks [])), (11, .c (.ptr 11 0)), (12, AI k)] [(3, .box p.cs), (4, .box noQ.cs), (11, .box [.d (.int .i64 q.limit), .row 44 ((q.packets).take k).length]), (44, .row 71 6 (rowOf Pk.enc ((q.packets).take k)))])
            (fun k => k ≤ (q.packets).length ∧ ∀ i, i < k → ((q.packets).getD i default).prio ≤ p.prio) (fun k => (q.packets).length - k) 0 ⟨Nat.zero_le _, fun i hi => absurd hi (Nat.not_lt_zero _)⟩ ?_ ?_
          · refine le_gen0 (fun n => n) ?_ ?_ rfl (by first | rfl | (simp only [wfL, wfs]; rfl))
            all_goals repeat' (first | exact trivial | refine ⟨⟨_, rfl, ?_⟩, ?_⟩ | exact .c .d | exact .c (.ptr rfl) | exact .boxD rfl rfl | exact .rowD rfl rowOf_isD | refine .box ?_ | exact .nil | refine .cons ?_ ?_ | exact .d | exact .row rfl rfl | fail)
          · rintro k ⟨hk, hall⟩
            have hkl : ((q.packets).take k).length = k := by rw [List.length_take]; omega
            repeat' (first
              | (show VR _ _ _ (_ :: _) _ _ _; first | refine x_opF rfl (by first | exact True.intro | omega) ?_ | (show VR _ _ _ (⟨_, .indexAddr _ _ _, _, _, _, _⟩ :: _) _ _ _; first | refine vr_index_rd (gk rfl) rfl rfl rfl rfl rfl (by omega) rfl ?_) | (show VR _ _ _ (⟨_, .call ⟨.builtin .append, _, _⟩, _, _, _, _⟩ :: _) _ _ _; first | refine vr_append0 (gk rfl) rfl rfl rfl (by first | rfl | exact rowOf_length.symm | (simp only [lns] <;> omega)) (by first | exact .row rfl (by first | rfl | exact rowOf_length.symm) | exact .rd | exact .nils) rfl rfl rfl (by (try dsimp only); omega) rfl rfl ?_) | (show VR _ _ _ (⟨_, .slice _ _ _ _ _, _, _, _, _⟩ :: _) _ _ _; first | refine vr_slice_rd (gk rfl) rfl rfl rfl (by first | exact .no | exact .int rfl rfl | exact .nat rfl (by omega)) (by first | exact .no | exact .int rfl rfl | exact .nat rfl (by omega)) (by omega) (by omega) rfl ?_) | (refine x_gsplit rfl ?_ ?_ <;> intro h <;> have hq := h <;> (try simp only [hqs] at hq)))
              | (show VR _ _ _ [] _ _ _; first | refine vr_nil ?_ | refine vr_nil_t (by kernel_rfl) ?_)
              | (show thenQ _ _ _ _; first | refine q_then_n ?_ | refine q_then_x ?_)
              | (show blockQ _ _ _ _; first | refine q_blk_n ?_ | refine q_blk_x ?_)
              | refine vc_seq ?_
              | refine vc_region ?_ | refine vc_region_t ?_
              | (show VC _ (.cond _ _ _) _ _; first | refine vc_cond_f rfl ?_ | (refine x_cond rfl ?_ ?_ <;> intro h <;> have hq := h <;> (try simp only [hqs] at hq)))
              | refine vc_ret ?_ | refine vc_exit ?_ | refine vc_block ?_ | refine vc_skip ?_
              | fail)
            · refine ⟨k + 1, ⟨by omega, fun i hi => ?_⟩, by omega, ?_⟩
              · by_cases hik : i < k
                · exact hall i hik
                · have : i = k := by omega
                  subst this; exact hq
              · rw [take_getD (by omega)]
                refine le_gen0 (fun n => if n = 44 then 84 else n) ?_ ?_ rfl (by first | rfl | (simp only [wfL, wfs]; rfl))
                all_goals repeat' (first | exact trivial | refine ⟨⟨_, rfl, ?_⟩, ?_⟩ | exact .c .d | exact .c (.ptr rfl) | exact .boxD rfl rfl | (refine .rowD ?_ rowOf_isD; rw [rowOf_append]; rfl) | refine .box ?_ | exact .nil | refine .cons ?_ ?_ | exact .d | (refine .row rfl ?_; ((try dsimp only); first | rfl | omega | (simp only [lns] <;> omega)); done) | fail)
            all_goals
              have ha := atP_at (l := q.packets) (pr := p.prio) (k := k) hall hk (by intro hk'; omega)
              rw [ha]
              refine retL_of (le_gen (l := [(4, .c (.ptr 4 0)), (5, AD (pks [])), (6, AI 0)]) (b := [(4, .box (Qu.cs ⟨q.limit, insAt q.packets k p⟩))]) (fun n => n) [97] hS ?_ ?_ rfl (by first | rfl | (simp only [wfL, wfs]; rfl))) (ret_agg_ddL isRet_r rfl rfl rfl rfl rfl rfl rfl rfl rfl)
              all_goals repeat' (first | exact trivial | refine ⟨⟨_, rfl, ?_⟩, ?_⟩ | exact .c .d | exact .c (.ptr rfl) | refine .box ?_ | exact .nil | refine .cons ?_ ?_ | exact .d | fail)
              refine .frzEq (by simp) rfl ?_ ?_ (fun _ => rfl)
              · exact (congrArg (rowOf Pk.enc ((q.packets).take k) ++ [(Pk.enc p).map C.d] ++ ·) (rd_rows (enc := Pk.enc) (sz := 6) (fun _ => rfl) q.packets k ((q.packets).length - k) (by omega))).trans (by rw [show ((q.packets).drop k).take ((q.packets).length - k) = (q.packets).drop k from List.take_of_length_le (by simp), insAt, rowOf_append, List.append_assoc]; rfl)
              · simp only [insAt, List.length_append, List.length_cons, List.length_drop]; omega
    · have e : putQ q p = (noQ, [], formP p) := by rw [putQ, if_neg (by omega), if_pos hf]
      have hd : decide (formP p ≠ 0) = true := by simp [hf]
      rw [e]
      repeat' (first
        | (show VR _ _ _ (_ :: _) _ _ _; first | refine x_opF rfl (by first | exact True.intro | omega) ?_ | (show VR _ _ _ (⟨_, .call ⟨.value _, _, _⟩, _, _, _, _⟩ :: _) _ _ _; first | refine vr_calldU (hck) (gk rfl) rfl rfl rfl (by first | rfl | (simp only [wfRes, wfL, wfArgs, wfs]; rfl)) rfl (by first | exact newB_O | rfl) rfl ?_ | refine vr_calldU (hfm) (gk rfl) rfl rfl rfl (by first | rfl | (simp only [wfRes, wfL, wfArgs, wfs]; rfl)) rfl (by first | exact newB_O | rfl) rfl ?_))
        | (show VR _ _ _ [] _ _ _; first | refine vr_nil ?_)
        | (show thenQ _ _ _ _; first | refine q_then_n ?_ | refine q_then_r ?_)
        | refine vc_seq ?_
        | refine vc_region ?_
        | (show VC _ (.cond _ _ _) _ _; first | refine vc_cond_t rfl ?_ | refine vc_cond_f rfl ?_ | refine x_know rfl (by assumption) ?_)
        | refine vc_ret ?_ | refine vc_skip ?_
        | fail)
      refine retL_of (le_gen0 (l := [(4, .c (.ptr 4 0)), (5, AD (pks [])), (6, AI (formP p))]) (b := [(4, .box noQ.cs)]) (fun n => n) ?_ ?_ rfl (by first | rfl | (simp only [wfL, wfs]; rfl))) (ret_agg_ddL isRet_r rfl rfl rfl rfl rfl rfl rfl rfl rfl)
      all_goals repeat' (first | exact trivial | refine ⟨⟨_, rfl, ?_⟩, ?_⟩ | exact .c .d | exact .c (.ptr rfl) | exact .c .nil | refine .box ?_ | exact .nil | refine .cons ?_ ?_ | exact .d | fail)
  · have e : putQ q p = (noQ, [], 1) := by rw [putQ, if_pos hc]
    have hd : decide (checkQ q ≠ 0) = true := by simp [hc]
    rw [e]
    repeat' (first
      | (show VR _ _ _ (_ :: _) _ _ _; first | refine x_opF rfl (by first | exact True.intro | omega) ?_ | (show VR _ _ _ (⟨_, .call ⟨.value _, _, _⟩, _, _, _, _⟩ :: _) _ _ _; first | refine vr_calldU (hck) (gk rfl) rfl rfl rfl (by first | rfl | (simp only [wfRes, wfL, wfArgs, wfs]; rfl)) rfl (by first | exact newB_O | rfl) rfl ?_))
      | (show VR _ _ _ [] _ _ _; first | refine vr_nil ?_)
      | (show thenQ _ _ _ _; first | refine q_then_n ?_ | refine q_then_r ?_)
      | refine vc_seq ?_
      | refine vc_region ?_
      | (show VC _ (.cond _ _ _) _ _; first | refine vc_cond_t rfl ?_ | refine x_know rfl (by assumption) ?_)
      | refine vc_ret ?_
      | fail)
    refine retL_of (le_gen0 (l := [(4, .c (.ptr 4 0)), (5, AD (pks [])), (6, AI 1)]) (b := [(4, .box noQ.cs)]) (fun n => n) ?_ ?_ rfl (by first | rfl | (simp only [wfL, wfs]; rfl))) (ret_agg_ddL isRet_r rfl rfl rfl rfl rfl rfl rfl rfl rfl)
    all_goals repeat' (first | exact trivial | refine ⟨⟨_, rfl, ?_⟩, ?_⟩ | exact .c .d | exact .c (.ptr rfl) | exact .c .nil | refine .box ?_ | exact .nil | refine .cons ?_ ?_ | exact .d | fail)
end Go.Proofs.Q
