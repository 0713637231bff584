/-
  What functions of the given program hand back, by walks over its code, and plain laws on that. No condition.
-/
import Derived.Test.YtecdajajocafdaaGreatSxP18rc
-- SXS
-- SXM
-- SXN
namespace Go.Proofs
open Go Go.Sx Go.Proofs.T Go.Proofs.Q
set_option maxRecDepth 4000
set_option linter.unusedSimpArgs false
set_option linter.unusedVariables false
attribute [local irreducible] VR VC thenQ blockQ retL

theorem newM_take {l : List Sn} {x : Sn} {k : Nat} (h : k < l.length) : (!(l.take (k + 1)).any fun y => decide (x = y)) = if x = l.getD k default then false else !(l.take k).any fun y => decide (x = y) := by
  rw [Go.Sx.take_getD h, List.any_append, List.any_cons, List.any_nil, Bool.or_false]
  split
  · rename_i he; rw [decide_eq_true he, Bool.or_true]; rfl
  · rename_i he; rw [decide_eq_false he, Bool.or_false]
set_option maxHeartbeats 4000000 in
theorem r_got_spec (s : Sta) (f : Fr) (hsn : seenB s.seen = true) : FnS Tryz.prog 63 [stA s, frA f] [] (.tup [stA (heardM s f).1, upA (heardM s f).2]) [] := by
  have hsl := seenB_len hsn
  have hri := seen_rise hsn
  refine FnS.of_body (enters_of Tryz.func63 (by kernel_rfl) rfl) Tryz.func63 rfl Tryz.ntmps63 Tryz.results63 rfl rfl rfl rfl fun E hS => ?_
  cases hfo : forB f s.tb.node with
  | false =>
    have e : heardM s f = (s, zUp) := if_pos (.inl hfo)
    have hd : (!forB f s.tb.node) = true := by rw [hfo]; rfl
    rw [e]
    repeat' (first
      | (show VR _ _ _ (_ :: _) _ _ _; first | refine x_opF rfl (by first | exact True.intro | omega) ?_ | (show VR _ _ _ (⟨_, .call ⟨.value _, _, _⟩, _, _, _, _⟩ :: _) _ _ _; first | refine vr_calldU (r_for_spec f s.tb.node) (gk rfl) rfl rfl rfl (by first | rfl | (simp only [wfRes, wfL, wfArgs, wfs, mpO_namesB, mpO_namesI]; rfl)) rfl (by first | exact newB_nil | exact newB_O | ((simp only [newB, List.map_cons, List.map_nil, Blk.shift, rowOf_shift]) <;> rfl) | rfl) rfl ?_) | refine x_gknow rfl (by assumption) ?_)
      | (show VR _ _ _ [] _ _ _; first | refine vr_nil ?_)
      | (show thenQ _ _ _ _; first | refine q_then_n ?_ | refine q_then_r ?_)
      | refine vc_seq ?_
      | refine vc_region ?_
      | (show VC _ (.cond _ _ _) _ _; first | refine vc_cond_t rfl ?_)
      | refine vc_ret ?_
      | fail)
    exact retW isRet_r (.agg rfl rfl rfl rfl (.agg rfl rfl rfl rfl .nil)) rfl (by repeat' (first | exact trivial | refine ⟨rfl, ?_⟩))
  | true =>
    have hd : (!forB f s.tb.node) = false := by rw [hfo]; rfl
    by_cases h2 : f.kind = 2
    · have e : heardM s f = (s, zUp) := if_pos (.inr h2)
      have hd2 : decide (f.kind = 2) = true := decide_eq_true h2
      rw [e]
      repeat' (first
        | (show VR _ _ _ (_ :: _) _ _ _; first | refine x_opF rfl (by first | exact True.intro | omega) ?_ | (show VR _ _ _ (⟨_, .call ⟨.value _, _, _⟩, _, _, _, _⟩ :: _) _ _ _; first | refine vr_calldU (r_for_spec f s.tb.node) (gk rfl) rfl rfl rfl (by first | rfl | (simp only [wfRes, wfL, wfArgs, wfs, mpO_namesB, mpO_namesI]; rfl)) rfl (by first | exact newB_nil | exact newB_O | ((simp only [newB, List.map_cons, List.map_nil, Blk.shift, rowOf_shift]) <;> rfl) | rfl) rfl ?_) | refine x_gknow rfl (by assumption) ?_)
        | (show VR _ _ _ [] _ _ _; first | refine vr_nil ?_)
        | (show thenQ _ _ _ _; first | refine q_then_n ?_ | refine q_then_r ?_)
        | refine vc_seq ?_
        | refine vc_region ?_
        | (show VC _ (.cond _ _ _) _ _; first | refine vc_cond_t rfl ?_ | refine x_know rfl (by assumption) ?_)
        | refine vc_ret ?_
        | fail)
      exact retW isRet_r (.agg rfl rfl rfl rfl (.agg rfl rfl rfl rfl .nil)) rfl (by repeat' (first | exact trivial | refine ⟨rfl, ?_⟩))
    have hd2 : decide (f.kind = 2) = false := decide_eq_false h2
    have e0 : heardM s f = if f.kind = 1 then (s, upOf f (newD s f)) else if f.kind = 4 ∧ f.target = s.tb.node then ({ s with seen := seenN s f }, upOf f (newM s f)) else (s, upOf f true) := by
      rw [heardM, if_neg (by rintro (h | h); rw [hfo] at h; cases h; exact h2 h)]
    by_cases h1 : f.kind = 1
    · have hd1 : decide (f.kind = 1) = true := decide_eq_true h1
      have hd4 : decide (f.kind = 4) = false := decide_eq_false (by omega)
      rw [if_pos h1] at e0
      rw [e0]
      have hho := r_index_spec s f.flow
      cases hf : heldI s.held f.flow with
      | none =>
        have e1 : newD s f = true := by rw [newD, hf]
        rw [hf] at hho
        have hho' : FnS Tryz.prog 62 [stA s, AI f.flow] [] (AI (-1)) [] := hho
        rw [e1]
        repeat' (first
          | (show VR _ _ _ (_ :: _) _ _ _; first | refine x_opF rfl (by first | exact True.intro | omega) ?_ | (show VR _ _ _ (⟨_, .call ⟨.value _, _, _⟩, _, _, _, _⟩ :: _) _ _ _; first | refine vr_calldU (r_for_spec f s.tb.node) (gk rfl) rfl rfl rfl (by first | rfl | (simp only [wfRes, wfL, wfArgs, wfs, mpO_namesB, mpO_namesI]; rfl)) rfl (by first | exact newB_nil | exact newB_O | ((simp only [newB, List.map_cons, List.map_nil, Blk.shift, rowOf_shift]) <;> rfl) | rfl) rfl ?_ | refine vr_calldU (hho') (gk rfl) rfl rfl rfl (by first | rfl | (simp only [wfRes, wfL, wfArgs, wfs, mpO_namesB, mpO_namesI]; rfl)) rfl (by first | exact newB_nil | exact newB_O | ((simp only [newB, List.map_cons, List.map_nil, Blk.shift, rowOf_shift]) <;> rfl) | rfl) rfl ?_) | refine x_gknow rfl (by assumption) ?_)
          | (show VR _ _ _ [] _ _ _; first | refine vr_nil ?_ | refine vr_nil_t (by kernel_rfl) ?_)
          | (show thenQ _ _ _ _; first | refine q_then_n ?_)
          | refine vc_seq ?_
          | refine vc_region ?_ | refine vc_region_t ?_
          | (show VC _ (.cond _ _ _) _ _; first | refine vc_cond_t rfl ?_ | refine vc_cond_f rfl ?_ | refine x_know rfl (by assumption) ?_)
          | refine vc_ret ?_ | refine vc_skip ?_
          | fail)
        exact retW isRet_r (.agg rfl rfl rfl rfl (.agg rfl rfl rfl rfl .nil)) rfl (by repeat' (first | exact trivial | refine ⟨rfl, ?_⟩))
      | some i =>
        have e1 : newD s f = decide ((s.held.getD i default).frame ≠ f.number) := by rw [newD, hf]
        obtain ⟨hi, _, _⟩ := fstO_some hf
        rw [hf] at hho
        have hho' : FnS Tryz.prog 62 [stA s, AI f.flow] [] (AI (i : Nat)) [] := hho
        rw [e1]
        repeat' (first
          | (show VR _ _ _ (_ :: _) _ _ _; first | refine x_opF rfl (by first | exact True.intro | omega) ?_ | (show VR _ _ _ (⟨_, .call ⟨.value _, _, _⟩, _, _, _, _⟩ :: _) _ _ _; first | refine vr_calldU (r_for_spec f s.tb.node) (gk rfl) rfl rfl rfl (by first | rfl | (simp only [wfRes, wfL, wfArgs, wfs, mpO_namesB, mpO_namesI]; rfl)) rfl (by first | exact newB_nil | exact newB_O | ((simp only [newB, List.map_cons, List.map_nil, Blk.shift, rowOf_shift]) <;> rfl) | rfl) rfl ?_ | refine vr_calldU (hho') (gk rfl) rfl rfl rfl (by first | rfl | (simp only [wfRes, wfL, wfArgs, wfs, mpO_namesB, mpO_namesI]; rfl)) rfl (by first | exact newB_nil | exact newB_O | ((simp only [newB, List.map_cons, List.map_nil, Blk.shift, rowOf_shift]) <;> rfl) | rfl) rfl ?_) | (show VR _ _ _ (⟨_, .indexAddr _ _ _, _, _, _, _⟩ :: _) _ _ _; first | refine vr_index_rd (gk rfl) rfl rfl rfl rfl rfl (by omega) rfl ?_) | refine x_gknow rfl (by assumption) ?_)
          | (show VR _ _ _ [] _ _ _; first | refine vr_nil ?_ | refine vr_nil_t (by kernel_rfl) ?_)
          | (show thenQ _ _ _ _; first | refine q_then_n ?_)
          | refine vc_seq ?_
          | refine vc_region ?_ | refine vc_region_t ?_
          | (show VC _ (.cond _ _ _) _ _; first | refine vc_cond_t rfl ?_ | refine vc_cond_f rfl ?_ | refine x_know rfl (by assumption) ?_)
          | refine vc_ret ?_ | refine vc_skip ?_
          | fail)
        all_goals first
          | (exfalso; omega)
          | exact retW isRet_r (.agg rfl rfl rfl rfl (.agg rfl rfl rfl rfl .nil)) rfl (by repeat' (first | exact trivial | refine ⟨rfl, ?_⟩))
    have hd1 : decide (f.kind = 1) = false := decide_eq_false h1
    rw [if_neg h1] at e0
    by_cases h4 : f.kind = 4
    · have hd4 : decide (f.kind = 4) = true := decide_eq_true h4
      by_cases h5 : f.target = s.tb.node
      · have hd5 : decide (f.target = s.tb.node) = true := decide_eq_true h5
        rw [if_pos ⟨h4, h5⟩] at e0
        rw [e0]
        have hse := r_see_spec s.seen (snOf f) (by omega) hri
        repeat' (first
          | (show VR _ _ _ (_ :: _) _ _ _; first | refine x_opF rfl (by first | exact True.intro | omega) ?_ | (show VR _ _ _ (⟨_, .call ⟨.value _, _, _⟩, _, _, _, _⟩ :: _) _ _ _; first | refine vr_calldU (r_for_spec f s.tb.node) (gk rfl) rfl rfl rfl (by first | rfl | (simp only [wfRes, wfL, wfArgs, wfs, mpO_namesB, mpO_namesI]; rfl)) rfl (by first | exact newB_nil | exact newB_O | ((simp only [newB, List.map_cons, List.map_nil, Blk.shift, rowOf_shift]) <;> rfl) | rfl) rfl ?_) | refine x_gknow rfl (by assumption) ?_)
          | (show VR _ _ _ [] _ _ _; first | refine vr_nil ?_)
          | (show thenQ _ _ _ _; first | refine q_then_n ?_)
          | refine vc_seq ?_
          | refine vc_region ?_
          | (show VC _ (.cond _ _ _) _ _; first | refine vc_cond_t rfl ?_ | refine vc_cond_f rfl ?_ | refine x_know rfl (by assumption) ?_)
          | refine vc_block ?_ | refine vc_skip ?_
          | fail)
        refine vc_loopI (ι := Nat) (fun k => stOf [(2, .c (.ptr 2 0)), (4, .c (.ptr 4 0)), (5, .c (.ptr 5 0)), (6, .c (.ptr 6 0)), (8, .c (.ptr 8 0)), (9, AI k)] [(2, .box s.cs), (4, .box noS.cs), (5, .box zUp.cs), (6, .box (upOf f (!(s.seen.take k).any fun y => decide (snOf f = y))).cs), (8, .box (snOf f).cs)])
          (fun k => k ≤ s.seen.length) (fun k => s.seen.length - k) 0 (Nat.zero_le _) ?_ ?_
        · refine le_gen0 (fun n => n) ?_ ?_ rfl (by first | rfl | (simp only [wfL, wfs, mpO_namesB, mpO_namesI]; rfl))
          all_goals repeat' (first | exact trivial | refine ⟨⟨_, rfl, ?_⟩, ?_⟩ | exact .c .d | exact .c (.ptr rfl) | exact .boxD rfl rfl | refine .box ?_ | exact .nil | refine .cons ?_ ?_ | exact .d | fail)
        · intro k hk
          rcases Nat.lt_or_ge k s.seen.length with hlt | hge
          · have dlt : decide ((k : Int) < (s.seen.length : Int)) = true := decide_eq_true (by omega)
            have hst := newM_take (x := snOf f) hlt
            repeat' (first
              | (show VR _ _ _ (_ :: _) _ _ _; first | refine x_opF rfl (by first | exact True.intro | omega) ?_ | (show VR _ _ _ (⟨_, .indexAddr _ _ _, _, _, _, _⟩ :: _) _ _ _; first | refine vr_index_rd (gk rfl) rfl rfl rfl rfl rfl (by omega) rfl ?_) | (show VR _ _ _ (⟨_, .binOp _ _ _ _ _, _, _, _, _⟩ :: _) _ _ _; first | refine vr_eqlA (gk rfl) rfl rfl rfl rfl rfl rfl rfl ?_))
              | (show VR _ _ _ [] _ _ _; first | refine vr_nil ?_ | refine vr_nil_t (by kernel_rfl) ?_)
              | (show thenQ _ _ _ _; first | refine q_then_n ?_)
              | (show blockQ _ _ _ _; first | refine q_blk_n ?_)
              | refine vc_seq ?_
              | refine vc_region ?_ | refine vc_region_t ?_
              | (show VC _ (.cond _ _ _) _ _; first | refine vc_cond_t rfl ?_ | refine x_know rfl (by assumption) ?_ | (refine x_cond rfl ?_ ?_ <;> intro h <;> have hq := h <;> (try simp only [hqs] at hq)))
              | refine vc_block ?_ | refine vc_skip ?_
              | fail)
            · have he : s.seen.getD k default = snOf f := sn_sv hq
              rw [if_pos he.symm] at hst
              refine ⟨k + 1, by omega, by omega, ?_⟩
              rw [hst]
              refine le_gen0 (fun n => n) ?_ ?_ rfl (by first | rfl | (simp only [wfL, wfs, mpO_namesB, mpO_namesI]; rfl))
              all_goals repeat' (first | exact trivial | refine ⟨⟨_, rfl, ?_⟩, ?_⟩ | exact .c .d | exact .c (.ptr rfl) | exact .boxD rfl rfl | fail)
            · have he : ¬ s.seen.getD k default = snOf f := fun e => hq (sn_vs e)
              rw [if_neg (fun e => he e.symm)] at hst
              refine ⟨k + 1, by omega, by omega, ?_⟩
              rw [hst]
              refine le_gen0 (fun n => n) ?_ ?_ rfl (by first | rfl | (simp only [wfL, wfs, mpO_namesB, mpO_namesI]; rfl))
              all_goals repeat' (first | exact trivial | refine ⟨⟨_, rfl, ?_⟩, ?_⟩ | exact .c .d | exact .c (.ptr rfl) | exact .boxD rfl rfl | fail)
          · have dlt : decide ((k : Int) < (s.seen.length : Int)) = false := decide_eq_false (by omega)
            have hk' : k = s.seen.length := by omega
            subst hk'
            rw [List.take_length]
            repeat' (first
              | (show VR _ _ _ (_ :: _) _ _ _; first | refine x_opF rfl (by first | exact True.intro | omega) ?_ | (show VR _ _ _ (⟨_, .call ⟨.value _, _, _⟩, _, _, _, _⟩ :: _) _ _ _; first | refine vr_calldU (hse) (gk rfl) rfl rfl rfl (by first | rfl | (simp only [wfRes, wfL, wfArgs, wfs, mpO_namesB, mpO_namesI]; rfl)) rfl (by first | exact newB_nil | exact newB_O | ((simp only [newB, List.map_cons, List.map_nil, Blk.shift, rowOf_shift]) <;> rfl) | rfl) rfl ?_))
              | (show VR _ _ _ [] _ _ _; first | refine vr_nil ?_ | refine vr_nil_t (by kernel_rfl) ?_)
              | (show thenQ _ _ _ _; first | refine q_then_n ?_ | refine q_then_x ?_)
              | (show blockQ _ _ _ _; first | refine q_blk_x ?_)
              | refine vc_seq ?_
              | refine vc_region ?_ | refine vc_region_t ?_
              | (show VC _ (.cond _ _ _) _ _; first | refine vc_cond_f rfl ?_ | refine x_know rfl (by assumption) ?_)
              | refine vc_ret ?_ | refine vc_exit ?_
              | fail)
            exact retW isRet_r (.agg rfl rfl rfl rfl (.agg rfl rfl rfl rfl .nil)) rfl (by repeat' (first | exact trivial | refine ⟨rfl, ?_⟩))
      · have hd5 : decide (f.target = s.tb.node) = false := decide_eq_false h5
        rw [if_neg (fun h => h5 h.2)] at e0
        rw [e0]
        repeat' (first
          | (show VR _ _ _ (_ :: _) _ _ _; first | refine x_opF rfl (by first | exact True.intro | omega) ?_ | (show VR _ _ _ (⟨_, .call ⟨.value _, _, _⟩, _, _, _, _⟩ :: _) _ _ _; first | refine vr_calldU (r_for_spec f s.tb.node) (gk rfl) rfl rfl rfl (by first | rfl | (simp only [wfRes, wfL, wfArgs, wfs, mpO_namesB, mpO_namesI]; rfl)) rfl (by first | exact newB_nil | exact newB_O | ((simp only [newB, List.map_cons, List.map_nil, Blk.shift, rowOf_shift]) <;> rfl) | rfl) rfl ?_) | refine x_gknow rfl (by assumption) ?_)
          | (show VR _ _ _ [] _ _ _; first | refine vr_nil ?_ | refine vr_nil_t (by kernel_rfl) ?_)
          | (show thenQ _ _ _ _; first | refine q_then_n ?_)
          | refine vc_seq ?_
          | refine vc_region ?_ | refine vc_region_t ?_
          | (show VC _ (.cond _ _ _) _ _; first | refine vc_cond_f rfl ?_ | refine x_know rfl (by assumption) ?_)
          | refine vc_ret ?_ | refine vc_skip ?_
          | fail)
        exact retW isRet_r (.agg rfl rfl rfl rfl (.agg rfl rfl rfl rfl .nil)) rfl (by repeat' (first | exact trivial | refine ⟨rfl, ?_⟩))
    · have hd4 : decide (f.kind = 4) = false := decide_eq_false h4
      rw [if_neg (fun h => h4 h.1)] at e0
      rw [e0]
      repeat' (first
        | (show VR _ _ _ (_ :: _) _ _ _; first | refine x_opF rfl (by first | exact True.intro | omega) ?_ | (show VR _ _ _ (⟨_, .call ⟨.value _, _, _⟩, _, _, _, _⟩ :: _) _ _ _; first | refine vr_calldU (r_for_spec f s.tb.node) (gk rfl) rfl rfl rfl (by first | rfl | (simp only [wfRes, wfL, wfArgs, wfs, mpO_namesB, mpO_namesI]; rfl)) rfl (by first | exact newB_nil | exact newB_O | ((simp only [newB, List.map_cons, List.map_nil, Blk.shift, rowOf_shift]) <;> rfl) | rfl) rfl ?_) | refine x_gknow rfl (by assumption) ?_)
        | (show VR _ _ _ [] _ _ _; first | refine vr_nil ?_ | refine vr_nil_t (by kernel_rfl) ?_)
        | (show thenQ _ _ _ _; first | refine q_then_n ?_)
        | refine vc_seq ?_
        | refine vc_region ?_ | refine vc_region_t ?_
        | (show VC _ (.cond _ _ _) _ _; first | refine vc_cond_f rfl ?_ | refine x_know rfl (by assumption) ?_)
        | refine vc_ret ?_ | refine vc_skip ?_
        | fail)
      exact retW isRet_r (.agg rfl rfl rfl rfl (.agg rfl rfl rfl rfl .nil)) rfl (by repeat' (first | exact trivial | refine ⟨rfl, ?_⟩))
end Go.Proofs


