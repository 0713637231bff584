/-
  What functions of the given program hand back, by walks over its code, and plain laws on that. No condition.
-/
import Derived.Test.YtecdajajocafdaaSxO18i
-- SXS
-- SXM
-- SXN
namespace Go.Proofs
open Go Go.Sx Go.Proofs.T Go.Proofs.Q
set_option maxRecDepth 4000
set_option linter.unusedSimpArgs false
set_option linter.unusedVariables false
attribute [local irreducible] VR VC thenQ blockQ retL
def snOf (f : Fr) : Sn := ⟨f.source, f.seq⟩
def seenN (s : Sta) (f : Fr) : List Sn := updK Sn.node s.seen (snOf f)
def newD (s : Sta) (f : Fr) : Bool := match heldI s.held f.flow with | none => true | some i => decide ((s.held.getD i default).frame ≠ f.number)
def newM (s : Sta) (f : Fr) : Bool := !s.seen.any fun y => decide (snOf f = y)
/-- A station behind hearing a frame, and what it got. -/
def heardM (s : Sta) (f : Fr) : Sta × Up :=
  if forB f s.tb.node = false ∨ f.kind = 2 then (s, zUp)
  else if f.kind = 1 then (s, upOf f (newD s f))
  else if f.kind = 4 ∧ f.target = s.tb.node then ({ s with seen := seenN s f }, upOf f (newM s f))
  else (s, upOf f true)
theorem seen_rise {l : List Sn} (h : seenB l = true) : Rise Sn.node l := rise_of fun i hi h0 => (seenB_of h i hi).2.2.2.2 h0
set_option maxHeartbeats 4000000 in
theorem heard_spec (s : Sta) (slot : Int) (c : TC) (f : Fr) (hsn : seenB s.seen = true) : FnW Try.prog 24 [.c (.ptr 100 0), frA f] [(100, .box (wcs s (.d (hds s.held)) (.row 102 s.seen.length) slot c)), (102, .row 102 2 (rowOf Sn.enc s.seen))] [100] (upA (heardM s f).2) [(100, .box (wcs (heardM s f).1 (.d (hds s.held)) (.row 103 (heardM s f).1.seen.length) slot c)), (103, .row 102 2 (rowOf Sn.enc (heardM s f).1.seen))] := by
  have hsl := seenB_len hsn
  have hri := seen_rise hsn
  have hbs := (bsK_spec hri (snOf f).node).1
  have hbs' : bsK Sn.node s.seen (snOf f).node ≤ s.seen.length := hbs
  have hud := updK_bs (x := snOf f) hri
  intro r
  simp only [pinsL, List.map_cons, List.map_nil, List.cons_append, List.nil_append, Nat.reduceAdd]
  refine FnS.of_bodyM (enters_of Try.func24 (by kernel_rfl) rfl) Try.func24 rfl Try.ntmps24 Try.results24 rfl (by first | rfl | (simp only [wfRes, wfL, wfArgs, wfs, mpO_namesB, mpO_namesI]; rfl)) rfl fun E => ?_
  refine vc_retL ?_
  cases hfo : forB f s.tb.node with
  | false =>
    have e : heardM s f = (s, zUp) := if_pos (.inl hfo)
    have hd : (!forB f s.tb.node) = true := by rw [hfo]; rfl
    rw [e]
    repeat' (first
      | (show VR _ _ _ (_ :: _) _ _ _; first | refine x_opF rfl (by first | exact True.intro | omega) ?_ | (show VR _ _ _ (⟨_, .call ⟨.value _, _, _⟩, _, _, _, _⟩ :: _) _ _ _; first | refine vr_calldU (for_spec f s.tb.node) (gk rfl) rfl rfl rfl (by first | rfl | (simp only [wfRes, wfL, wfArgs, wfs, mpO_namesB, mpO_namesI]; rfl)) rfl (by first | exact newB_nil | exact newB_O | ((simp only [newB, List.map_cons, List.map_nil, Blk.shift, rowOf_shift]) <;> rfl) | rfl) rfl ?_) | (show VR _ _ _ (⟨_, .nilCheck _, _, _, _, _⟩ :: _) _ _ _; first | refine vr_nilCheck_ptr (gk rfl) rfl rfl ?_) | refine x_gknow rfl (by assumption) ?_)
      | (show VR _ _ _ [] _ _ _; first | refine vr_nil ?_ | refine vr_nil_t (by kernel_rfl) ?_)
      | (show thenQ _ _ _ _; first | refine q_then_n ?_ | refine q_then_r ?_)
      | refine vc_seq ?_
      | refine vc_region ?_ | refine vc_region_t ?_
      | (show VC _ (.cond _ _ _) _ _; first | refine vc_cond_t rfl ?_)
      | refine vc_ret ?_
      | fail)
    refine retL_of (le_gen0 (l := [(4, .c (.ptr 4 0))]) (b := [(9100, .pin 100 (r 100)), (4, .box zUp.cs), (100, .box (wcs s (.d (hds s.held)) (.row 103 s.seen.length) slot c)), (103, .row 102 2 (rowOf Sn.enc s.seen))]) (fun n => if n = 103 then 102 else n) ?_ ?_ rfl (by first | rfl | (simp only [wfL, wfs, mpO_namesB, mpO_namesI]; rfl))) (retW isRet_r (.agg rfl rfl rfl rfl .nil) rfl (by repeat' (first | exact trivial | refine ⟨rfl, ?_⟩)))
    all_goals repeat' (first | exact trivial | refine ⟨⟨_, rfl, ?_⟩, ?_⟩ | exact .c (.ptr rfl) | exact .boxD rfl rfl | exact .pin rfl | exact .rowD rfl rowOf_isD | refine .box ?_ | exact .nil | refine .cons ?_ ?_ | exact .d | exact .row rfl rfl | fail)
  | true =>
    have hd : (!forB f s.tb.node) = false := by rw [hfo]; rfl
    by_cases h2 : f.kind = 2
    · have e : heardM s f = (s, zUp) := if_pos (.inr h2)
      have hd2 : decide (f.kind = 2) = true := decide_eq_true h2
      rw [e]
      repeat' (first
        | (show VR _ _ _ (_ :: _) _ _ _; first | refine x_opF rfl (by first | exact True.intro | omega) ?_ | (show VR _ _ _ (⟨_, .call ⟨.value _, _, _⟩, _, _, _, _⟩ :: _) _ _ _; first | refine vr_calldU (for_spec f s.tb.node) (gk rfl) rfl rfl rfl (by first | rfl | (simp only [wfRes, wfL, wfArgs, wfs, mpO_namesB, mpO_namesI]; rfl)) rfl (by first | exact newB_nil | exact newB_O | ((simp only [newB, List.map_cons, List.map_nil, Blk.shift, rowOf_shift]) <;> rfl) | rfl) rfl ?_) | (show VR _ _ _ (⟨_, .nilCheck _, _, _, _, _⟩ :: _) _ _ _; first | refine vr_nilCheck_ptr (gk rfl) rfl rfl ?_) | refine x_gknow rfl (by assumption) ?_)
        | (show VR _ _ _ [] _ _ _; first | refine vr_nil ?_ | refine vr_nil_t (by kernel_rfl) ?_)
        | (show thenQ _ _ _ _; first | refine q_then_n ?_ | refine q_then_r ?_)
        | refine vc_seq ?_
        | refine vc_region ?_ | refine vc_region_t ?_
        | (show VC _ (.cond _ _ _) _ _; first | refine vc_cond_t rfl ?_ | refine x_know rfl (by assumption) ?_)
        | refine vc_ret ?_
        | fail)
      refine retL_of (le_gen0 (l := [(4, .c (.ptr 4 0))]) (b := [(9100, .pin 100 (r 100)), (4, .box zUp.cs), (100, .box (wcs s (.d (hds s.held)) (.row 103 s.seen.length) slot c)), (103, .row 102 2 (rowOf Sn.enc s.seen))]) (fun n => if n = 103 then 102 else n) ?_ ?_ rfl (by first | rfl | (simp only [wfL, wfs, mpO_namesB, mpO_namesI]; rfl))) (retW isRet_r (.agg rfl rfl rfl rfl .nil) rfl (by repeat' (first | exact trivial | refine ⟨rfl, ?_⟩)))
      all_goals repeat' (first | exact trivial | refine ⟨⟨_, rfl, ?_⟩, ?_⟩ | exact .c (.ptr rfl) | exact .boxD rfl rfl | exact .pin rfl | exact .rowD rfl rowOf_isD | refine .box ?_ | exact .nil | refine .cons ?_ ?_ | exact .d | exact .row rfl rfl | fail)
    have hd2 : decide (f.kind = 2) = false := decide_eq_false h2
    have e0 : heardM s f = if f.kind = 1 then (s, upOf f (newD s f)) else if f.kind = 4 ∧ f.target = s.tb.node then ({ s with seen := seenN s f }, upOf f (newM s f)) else (s, upOf f true) := by
      rw [heardM, if_neg (by rintro (h | h); rw [hfo] at h; cases h; exact h2 h)]
    by_cases h1 : f.kind = 1
    · have hd1 : decide (f.kind = 1) = true := decide_eq_true h1
      rw [if_pos h1] at e0
      rw [e0]
      have hho := holds_spec s slot c f.flow
      cases hf : heldI s.held f.flow with
      | none =>
        have e1 : newD s f = true := by rw [newD, hf]
        rw [hf] at hho
        have hho' : FnS Try.prog 20 [wP s slot c, AI f.flow] [] (AI (-1)) [] := hho
        rw [e1]
        repeat' (first
          | (show VR _ _ _ (_ :: _) _ _ _; first | refine x_opF rfl (by first | exact True.intro | omega) ?_ | (show VR _ _ _ (⟨_, .call ⟨.value _, _, _⟩, _, _, _, _⟩ :: _) _ _ _; first | refine vr_calldU (for_spec f s.tb.node) (gk rfl) rfl rfl rfl (by first | rfl | (simp only [wfRes, wfL, wfArgs, wfs, mpO_namesB, mpO_namesI]; rfl)) rfl (by first | exact newB_nil | exact newB_O | ((simp only [newB, List.map_cons, List.map_nil, Blk.shift, rowOf_shift]) <;> rfl) | rfl) rfl ?_ | refine vr_callU [100, 102] (hho') (gk rfl) rfl (by (repeat' (first | exact .nil | refine .cons ?_ ?_ | exact .of0 (.c .d) | exact .of0 .ep | exact .clo | exact (w_ar (by simp) rfl .d (cr_rowO (by simp) rfl rfl (fun _ => rfl))) | exact .of0 (.c .nil) | exact .of0 (.c (cr_rowO (by simp) rfl (by first | rfl | omega) (fun _ => rfl))) | refine .of0 (.agg ?_) | exact .d | exact .nil | exact .of0 (.c (cr_row (by decide) rfl rfl (by repeat' (first | exact trivial | refine ⟨?_, ?_⟩ | rfl)))))) <;> fail) (by first | rfl | exact hfl_O (fun _ => rfl) | exact hfl_O2 rfl (fun _ => rfl)) rfl (by first | rfl | (simp only [wfRes, wfL, wfArgs, wfs, mpO_namesB, mpO_namesI]; rfl)) rfl (by first | exact newB_nil | exact newB_O | ((simp only [newB, List.map_cons, List.map_nil, Blk.shift, rowOf_shift]) <;> rfl) | rfl) rfl ?_) | (show VR _ _ _ (⟨_, .nilCheck _, _, _, _, _⟩ :: _) _ _ _; first | refine vr_nilCheck_ptr (gk rfl) rfl rfl ?_) | refine x_gknow rfl (by assumption) ?_)
          | (show VR _ _ _ [] _ _ _; first | refine vr_nil ?_ | refine vr_nil_t (by kernel_rfl) ?_)
          | (show thenQ _ _ _ _; first | refine q_then_n ?_)
          | (show blockQ _ _ _ _; first | refine q_blk_n ?_)
          | refine vc_seq ?_
          | refine vc_region ?_ | refine vc_region_t ?_
          | (show VC _ (.cond _ _ _) _ _; first | refine vc_cond_t rfl ?_ | refine vc_cond_f rfl ?_ | refine x_know rfl (by assumption) ?_)
          | refine vc_ret ?_ | refine vc_block ?_ | refine vc_skip ?_
          | fail)
        refine retL_of (le_gen0 (l := [(4, .c (.ptr 4 0))]) (b := [(9100, .pin 100 (r 100)), (4, .box (upOf f true).cs), (100, .box (wcs s (.d (hds s.held)) (.row 103 s.seen.length) slot c)), (103, .row 102 2 (rowOf Sn.enc s.seen))]) (fun n => if n = 103 then 102 else n) ?_ ?_ rfl (by first | rfl | (simp only [wfL, wfs, mpO_namesB, mpO_namesI]; rfl))) (retW isRet_r (.agg rfl rfl rfl rfl .nil) rfl (by repeat' (first | exact trivial | refine ⟨rfl, ?_⟩)))
        all_goals repeat' (first | exact trivial | refine ⟨⟨_, rfl, ?_⟩, ?_⟩ | exact .c (.ptr rfl) | exact .boxD rfl rfl | exact .pin rfl | exact .rowD rfl rowOf_isD | refine .box ?_ | exact .nil | refine .cons ?_ ?_ | exact .d | exact .row rfl rfl | fail)
      | some i =>
        have e1 : newD s f = decide ((s.held.getD i default).frame ≠ f.number) := by rw [newD, hf]
        obtain ⟨hi, _, _⟩ := fstO_some hf
        rw [hf] at hho
        have hho' : FnS Try.prog 20 [wP s slot c, AI f.flow] [] (AI (i : Nat)) [] := hho
        repeat' (first
          | (show VR _ _ _ (_ :: _) _ _ _; first | refine x_opF rfl (by first | exact True.intro | omega) ?_ | (show VR _ _ _ (⟨_, .call ⟨.value _, _, _⟩, _, _, _, _⟩ :: _) _ _ _; first | refine vr_calldU (for_spec f s.tb.node) (gk rfl) rfl rfl rfl (by first | rfl | (simp only [wfRes, wfL, wfArgs, wfs, mpO_namesB, mpO_namesI]; rfl)) rfl (by first | exact newB_nil | exact newB_O | ((simp only [newB, List.map_cons, List.map_nil, Blk.shift, rowOf_shift]) <;> rfl) | rfl) rfl ?_ | refine vr_callU [100, 102] (hho') (gk rfl) rfl (by (repeat' (first | exact .nil | refine .cons ?_ ?_ | exact .of0 (.c .d) | exact .of0 .ep | exact .clo | exact (w_ar (by simp) rfl .d (cr_rowO (by simp) rfl rfl (fun _ => rfl))) | exact .of0 (.c .nil) | exact .of0 (.c (cr_rowO (by simp) rfl (by first | rfl | omega) (fun _ => rfl))) | refine .of0 (.agg ?_) | exact .d | exact .nil | exact .of0 (.c (cr_row (by decide) rfl rfl (by repeat' (first | exact trivial | refine ⟨?_, ?_⟩ | rfl)))))) <;> fail) (by first | rfl | exact hfl_O (fun _ => rfl) | exact hfl_O2 rfl (fun _ => rfl)) rfl (by first | rfl | (simp only [wfRes, wfL, wfArgs, wfs, mpO_namesB, mpO_namesI]; rfl)) rfl (by first | exact newB_nil | exact newB_O | ((simp only [newB, List.map_cons, List.map_nil, Blk.shift, rowOf_shift]) <;> rfl) | rfl) rfl ?_) | (show VR _ _ _ (⟨_, .indexAddr _ _ _, _, _, _, _⟩ :: _) _ _ _; first | refine vr_index_rd (gk rfl) rfl rfl rfl rfl rfl (by omega) rfl ?_) | (show VR _ _ _ (⟨_, .nilCheck _, _, _, _, _⟩ :: _) _ _ _; first | refine vr_nilCheck_ptr (gk rfl) rfl rfl ?_) | refine x_gknow rfl (by assumption) ?_)
          | (show VR _ _ _ [] _ _ _; first | refine vr_nil ?_ | refine vr_nil_t (by kernel_rfl) ?_)
          | (show thenQ _ _ _ _; first | refine q_then_n ?_)
          | (show blockQ _ _ _ _; first | refine q_blk_n ?_)
          | refine vc_seq ?_
          | refine vc_region ?_ | refine vc_region_t ?_
          | (show VC _ (.cond _ _ _) _ _; first | refine vc_cond_t rfl ?_ | refine vc_cond_f rfl ?_ | refine x_know rfl (by assumption) ?_)
          | refine vc_ret ?_ | refine vc_block ?_ | refine vc_skip ?_
          | fail)
        all_goals first
          | (exfalso; omega)
          | skip
        rw [e1]
        refine retL_of (le_gen0 (l := [(4, .c (.ptr 4 0))]) (b := [(9100, .pin 100 (r 100)), (4, .box (upOf f (decide ((s.held.getD i default).frame ≠ f.number))).cs), (100, .box (wcs s (.d (hds s.held)) (.row 103 s.seen.length) slot c)), (103, .row 102 2 (rowOf Sn.enc s.seen))]) (fun n => if n = 103 then 102 else n) ?_ ?_ rfl (by first | rfl | (simp only [wfL, wfs, mpO_namesB, mpO_namesI]; rfl))) (retW isRet_r (.agg rfl rfl rfl rfl .nil) rfl (by repeat' (first | exact trivial | refine ⟨rfl, ?_⟩)))
        all_goals repeat' (first | exact trivial | refine ⟨⟨_, rfl, ?_⟩, ?_⟩ | exact .c (.ptr rfl) | exact .boxD rfl rfl | exact .pin rfl | exact .rowD rfl rowOf_isD | refine .box ?_ | exact .nil | refine .cons ?_ ?_ | exact .d | exact .row rfl rfl | fail)
    have hd1 : decide (f.kind = 1) = false := decide_eq_false h1
    rw [if_neg h1] at e0
    by_cases h4 : f.kind = 4 ∧ f.target = s.tb.node
    · have hd4 : decide (f.kind = 4) = true := decide_eq_true h4.1
      have hd5 : decide (f.target = s.tb.node) = true := decide_eq_true h4.2
      rw [if_pos h4] at e0
      rw [e0]
      cases hfd : fdK Sn.node s.seen (snOf f).node with
      | true =>
        have hlt : bsK Sn.node s.seen (snOf f).node < s.seen.length := by
          simp only [fdK, Bool.and_eq_true, decide_eq_true_eq] at hfd
          exact hfd.1
        have e2 : seenN s f = s.seen.set (bsK Sn.node s.seen (snOf f).node) (snOf f) := by rw [seenN, hud, if_pos hfd]
        rw [e2]
        repeat' (first
          | (show VR _ _ _ (_ :: _) _ _ _; first | refine x_opF rfl (by first | exact True.intro | omega) ?_ | (show VR _ _ _ (⟨_, .call ⟨.value _, _, _⟩, _, _, _, _⟩ :: _) _ _ _; first | refine vr_calldU (for_spec f s.tb.node) (gk rfl) rfl rfl rfl (by first | rfl | (simp only [wfRes, wfL, wfArgs, wfs, mpO_namesB, mpO_namesI]; rfl)) rfl (by first | exact newB_nil | exact newB_O | ((simp only [newB, List.map_cons, List.map_nil, Blk.shift, rowOf_shift]) <;> rfl) | rfl) rfl ?_ | refine vr_callU [102] (contains_Sn s.seen (snOf f)) (gk rfl) rfl (by (repeat' (first | exact .nil | refine .cons ?_ ?_ | exact .of0 (.c .d) | exact .of0 .ep | exact .clo | exact (heard1_fnc) | exact .of0 (.c .nil) | exact .of0 (.c (cr_rowO (by simp) rfl (by first | rfl | omega) (fun _ => rfl))) | refine .of0 (.agg ?_) | exact .d | exact .nil | exact .of0 (.c (cr_row (by decide) rfl rfl (by repeat' (first | exact trivial | refine ⟨?_, ?_⟩ | rfl)))))) <;> fail) (by first | rfl | exact hfl_O (fun _ => rfl) | exact hfl_O2 rfl (fun _ => rfl)) rfl (by first | rfl | (simp only [wfRes, wfL, wfArgs, wfs, mpO_namesB, mpO_namesI]; rfl)) rfl (by first | exact newB_nil | exact newB_O | ((simp only [newB, List.map_cons, List.map_nil, Blk.shift, rowOf_shift]) <;> rfl) | rfl) rfl ?_ | refine vr_callU [102] (searchSn_spec s.seen (snOf f) (by omega)) (gk rfl) rfl (by (repeat' (first | exact .nil | refine .cons ?_ ?_ | exact .of0 (.c .d) | exact .of0 .ep | exact .clo | exact (heard1_fnc) | exact .of0 (.c .nil) | exact .of0 (.c (cr_rowO (by simp) rfl (by first | rfl | omega) (fun _ => rfl))) | refine .of0 (.agg ?_) | exact .d | exact .nil | exact .of0 (.c (cr_row (by decide) rfl rfl (by repeat' (first | exact trivial | refine ⟨?_, ?_⟩ | rfl)))))) <;> fail) (by first | rfl | exact hfl_O (fun _ => rfl) | exact hfl_O2 rfl (fun _ => rfl)) rfl (by first | rfl | (simp only [wfRes, wfL, wfArgs, wfs, mpO_namesB, mpO_namesI]; rfl)) rfl (by first | exact newB_nil | exact newB_O | ((simp only [newB, List.map_cons, List.map_nil, Blk.shift, rowOf_shift]) <;> rfl) | rfl) rfl ?_) | (show VR _ _ _ (⟨_, .indexAddr _ _ _, _, _, _, _⟩ :: _) _ _ _; first | refine vr_index_rowO (gk rfl) rfl rfl rfl rfl rfl rfl (by omega) (by omega) rfl ?_) | (show VR _ _ _ (⟨_, .nilCheck _, _, _, _, _⟩ :: _) _ _ _; first | refine vr_nilCheck_ptr (gk rfl) rfl rfl ?_) | (show VR _ _ _ (⟨_, .store _ _ _, _, _, _, _⟩ :: _) _ _ _; first | refine vr_store_rowO (gk rfl) rfl rfl rfl (by omega) rfl rfl rfl ?_) | refine x_gknow rfl (by assumption) ?_)
          | (show VR _ _ _ [] _ _ _; first | refine vr_nil ?_ | refine vr_nil_t (by kernel_rfl) ?_)
          | (show thenQ _ _ _ _; first | refine q_then_n ?_)
          | (show blockQ _ _ _ _; first | refine q_blk_n ?_)
          | refine vc_seq ?_
          | refine vc_region ?_ | refine vc_region_t ?_
          | (show VC _ (.cond _ _ _) _ _; first | refine vc_cond_t rfl ?_ | refine vc_cond_f rfl ?_ | refine x_know rfl (by assumption) ?_)
          | refine vc_ret ?_ | refine vc_block ?_ | refine vc_skip ?_
          | fail)
        refine retL_of (le_gen0 (l := [(4, .c (.ptr 4 0))]) (b := [(9100, .pin 100 (r 100)), (4, .box (upOf f (newM s f)).cs), (100, .box (wcs { s with seen := s.seen.set (bsK Sn.node s.seen (snOf f).node) (snOf f) } (.d (hds s.held)) (.row 103 (s.seen.set (bsK Sn.node s.seen (snOf f).node) (snOf f)).length) slot c)), (103, .row 102 2 (rowOf Sn.enc (s.seen.set (bsK Sn.node s.seen (snOf f).node) (snOf f))))]) (fun n => if n = 103 then 102 else n) ?_ ?_ rfl (by first | rfl | (simp only [wfL, wfs, mpO_namesB, mpO_namesI]; rfl))) (retW isRet_r (.agg rfl rfl rfl rfl .nil) rfl (by repeat' (first | exact trivial | refine ⟨rfl, ?_⟩)))
        all_goals repeat' (first | exact trivial | refine ⟨⟨_, rfl, ?_⟩, ?_⟩ | exact .c (.ptr rfl) | exact .boxD rfl rfl | exact .pin rfl | exact .rowD (rowOf_set rfl) rowOf_isD | refine .box ?_ | exact .nil | refine .cons ?_ ?_ | exact .d | (refine .row rfl ?_; ((try dsimp only); first | rfl | omega | (simp only [lns] <;> omega)); done) | fail)
      | false =>
        have e2 : seenN s f = insAt s.seen (bsK Sn.node s.seen (snOf f).node) (snOf f) := by rw [seenN, hud, if_neg (by rw [hfd]; simp)]
        have hil : (insAt s.seen (bsK Sn.node s.seen (snOf f).node) (snOf f)).length = s.seen.length + 1 := by simp [insAt]; omega
        rw [e2]
        repeat' (first
          | (show VR _ _ _ (_ :: _) _ _ _; first | refine x_opF rfl (by first | exact True.intro | omega) ?_ | (show VR _ _ _ (⟨_, .call ⟨.value _, _, _⟩, _, _, _, _⟩ :: _) _ _ _; first | refine vr_calldU (for_spec f s.tb.node) (gk rfl) rfl rfl rfl (by first | rfl | (simp only [wfRes, wfL, wfArgs, wfs, mpO_namesB, mpO_namesI]; rfl)) rfl (by first | exact newB_nil | exact newB_O | ((simp only [newB, List.map_cons, List.map_nil, Blk.shift, rowOf_shift]) <;> rfl) | rfl) rfl ?_ | refine vr_callU [102] (contains_Sn s.seen (snOf f)) (gk rfl) rfl (by (repeat' (first | exact .nil | refine .cons ?_ ?_ | exact .of0 (.c .d) | exact .of0 .ep | exact .clo | exact (heard1_fnc) | exact .of0 (.c .nil) | exact .of0 (.c (cr_rowO (by simp) rfl (by first | rfl | omega) (fun _ => rfl))) | refine .of0 (.agg ?_) | exact .d | exact .nil | exact .of0 (.c (cr_row (by decide) rfl rfl (by repeat' (first | exact trivial | refine ⟨?_, ?_⟩ | rfl)))))) <;> fail) (by first | rfl | exact hfl_O (fun _ => rfl) | exact hfl_O2 rfl (fun _ => rfl)) rfl (by first | rfl | (simp only [wfRes, wfL, wfArgs, wfs, mpO_namesB, mpO_namesI]; rfl)) rfl (by first | exact newB_nil | exact newB_O | ((simp only [newB, List.map_cons, List.map_nil, Blk.shift, rowOf_shift]) <;> rfl) | rfl) rfl ?_ | refine vr_callU [102] (searchSn_spec s.seen (snOf f) (by omega)) (gk rfl) rfl (by (repeat' (first | exact .nil | refine .cons ?_ ?_ | exact .of0 (.c .d) | exact .of0 .ep | exact .clo | exact (heard1_fnc) | exact .of0 (.c .nil) | exact .of0 (.c (cr_rowO (by simp) rfl (by first | rfl | omega) (fun _ => rfl))) | refine .of0 (.agg ?_) | exact .d | exact .nil | exact .of0 (.c (cr_row (by decide) rfl rfl (by repeat' (first | exact trivial | refine ⟨?_, ?_⟩ | rfl)))))) <;> fail) (by first | rfl | exact hfl_O (fun _ => rfl) | exact hfl_O2 rfl (fun _ => rfl)) rfl (by first | rfl | (simp only [wfRes, wfL, wfArgs, wfs, mpO_namesB, mpO_namesI]; rfl)) rfl (by first | exact newB_nil | exact newB_O | ((simp only [newB, List.map_cons, List.map_nil, Blk.shift, rowOf_shift]) <;> rfl) | rfl) rfl ?_ | refine vr_callMU [108] (insert_Sn s.seen (bsK Sn.node s.seen (snOf f).node) (snOf f) (by omega) hbs') (gk rfl) rfl rfl rowOf_isD rfl (by (repeat' (first | exact .nil | refine .cons ?_ ?_ | exact .of0 (.c .d) | exact .of0 .ep | exact .clo | exact (heard1_fnc) | exact .of0 (.c .nil) | exact .of0 (.c (cr_rowO (by simp) rfl (by first | rfl | omega) (fun _ => rfl))) | refine .of0 (.agg ?_) | exact .d | exact .nil | exact .of0 (.c (cr_row (by decide) rfl rfl (by repeat' (first | exact trivial | refine ⟨?_, ?_⟩ | rfl)))))) <;> fail) rfl (by first | rfl | exact hfl_O (fun _ => rfl) | exact hfl_O2 rfl (fun _ => rfl)) rfl (by first | rfl | (simp only [wfRes, wfL, wfArgs, wfs, mpO_namesB, mpO_namesI]; rfl)) rfl (by first | exact newB_nil | exact newB_O | ((simp only [newB, List.map_cons, List.map_nil, Blk.shift, rowOf_shift]) <;> rfl) | rfl) rfl ?_) | (show VR _ _ _ (⟨_, .nilCheck _, _, _, _, _⟩ :: _) _ _ _; first | refine vr_nilCheck_ptr (gk rfl) rfl rfl ?_) | refine x_gknow rfl (by assumption) ?_)
          | (show VR _ _ _ [] _ _ _; first | refine vr_nil ?_ | refine vr_nil_t (by kernel_rfl) ?_)
          | (show thenQ _ _ _ _; first | refine q_then_n ?_)
          | (show blockQ _ _ _ _; first | refine q_blk_n ?_)
          | refine vc_seq ?_
          | refine vc_region ?_ | refine vc_region_t ?_
          | (show VC _ (.cond _ _ _) _ _; first | refine vc_cond_t rfl ?_ | refine vc_cond_f rfl ?_ | refine x_know rfl (by assumption) ?_)
          | refine vc_ret ?_ | refine vc_block ?_ | refine vc_skip ?_
          | fail)
        rw [hil]
        refine retL_of (le_gen0 (l := [(4, .c (.ptr 4 0))]) (b := [(9100, .pin 100 (r 100)), (4, .box (upOf f (newM s f)).cs), (100, .box (wcs { s with seen := insAt s.seen (bsK Sn.node s.seen (snOf f).node) (snOf f) } (.d (hds s.held)) (.row 103 (s.seen.length + 1)) slot c)), (103, .row 102 2 (rowOf Sn.enc (insAt s.seen (bsK Sn.node s.seen (snOf f).node) (snOf f))))]) (fun n => if n = 103 then 109001 else n) ?_ ?_ rfl (by first | rfl | (simp only [wfL, wfs, mpO_namesB, mpO_namesI]; rfl))) (retW isRet_r (.agg rfl rfl rfl rfl .nil) rfl (by repeat' (first | exact trivial | refine ⟨rfl, ?_⟩)))
        all_goals repeat' (first | exact trivial | refine ⟨⟨_, rfl, ?_⟩, ?_⟩ | exact .c (.ptr rfl) | exact .boxD rfl rfl | exact .pin rfl | exact .rowD rfl rowOf_isD | refine .box ?_ | exact .nil | refine .cons ?_ ?_ | exact .d | exact .row rfl rfl | fail)
    · rw [if_neg h4] at e0
      rw [e0]
      repeat' (first
        | (show VR _ _ _ (_ :: _) _ _ _; first | refine x_opF rfl (by first | exact True.intro | omega) ?_ | (show VR _ _ _ (⟨_, .call ⟨.value _, _, _⟩, _, _, _, _⟩ :: _) _ _ _; first | refine vr_calldU (for_spec f s.tb.node) (gk rfl) rfl rfl rfl (by first | rfl | (simp only [wfRes, wfL, wfArgs, wfs, mpO_namesB, mpO_namesI]; rfl)) rfl (by first | exact newB_nil | exact newB_O | ((simp only [newB, List.map_cons, List.map_nil, Blk.shift, rowOf_shift]) <;> rfl) | rfl) rfl ?_) | (show VR _ _ _ (⟨_, .nilCheck _, _, _, _, _⟩ :: _) _ _ _; first | refine vr_nilCheck_ptr (gk rfl) rfl rfl ?_) | refine x_gknow rfl (by assumption) ?_ | (refine x_gsplit rfl ?_ ?_ <;> intro h <;> have hq := h <;> (try simp only [hqs] at hq)))
        | (show VR _ _ _ [] _ _ _; first | refine vr_nil ?_ | refine vr_nil_t (by kernel_rfl) ?_)
        | (show thenQ _ _ _ _; first | refine q_then_n ?_)
        | (show blockQ _ _ _ _; first | refine q_blk_n ?_)
        | refine vc_seq ?_
        | refine vc_region ?_ | refine vc_region_t ?_
        | (show VC _ (.cond _ _ _) _ _; first | refine vc_cond_f rfl ?_ | refine x_know rfl (by assumption) ?_ | (refine x_cond rfl ?_ ?_ <;> intro h <;> have hq := h <;> (try simp only [hqs] at hq)))
        | refine vc_ret ?_ | refine vc_block ?_ | refine vc_skip ?_
        | fail)
      all_goals first
        | (exfalso; omega)
        | skip
      · refine retL_of (le_gen0 (l := [(4, .c (.ptr 4 0))]) (b := [(9100, .pin 100 (r 100)), (4, .box (upOf f true).cs), (100, .box (wcs s (.d (hds s.held)) (.row 103 s.seen.length) slot c)), (103, .row 102 2 (rowOf Sn.enc s.seen))]) (fun n => if n = 103 then 102 else n) ?_ ?_ rfl (by first | rfl | (simp only [wfL, wfs, mpO_namesB, mpO_namesI]; rfl))) (retW isRet_r (.agg rfl rfl rfl rfl .nil) rfl (by repeat' (first | exact trivial | refine ⟨rfl, ?_⟩)))
        all_goals repeat' (first | exact trivial | refine ⟨⟨_, rfl, ?_⟩, ?_⟩ | exact .c (.ptr rfl) | exact .boxD rfl rfl | exact .pin rfl | exact .rowD rfl rowOf_isD | refine .box ?_ | exact .nil | refine .cons ?_ ?_ | exact .d | exact .row rfl rfl | fail)
      · refine retL_of (le_gen0 (l := [(4, .c (.ptr 4 0))]) (b := [(9100, .pin 100 (r 100)), (4, .box (upOf f true).cs), (100, .box (wcs s (.d (hds s.held)) (.row 103 s.seen.length) slot c)), (103, .row 102 2 (rowOf Sn.enc s.seen))]) (fun n => if n = 103 then 102 else n) ?_ ?_ rfl (by first | rfl | (simp only [wfL, wfs, mpO_namesB, mpO_namesI]; rfl))) (retW isRet_r (.agg rfl rfl rfl rfl .nil) rfl (by repeat' (first | exact trivial | refine ⟨rfl, ?_⟩)))
        all_goals repeat' (first | exact trivial | refine ⟨⟨_, rfl, ?_⟩, ?_⟩ | exact .c (.ptr rfl) | exact .boxD rfl rfl | exact .pin rfl | exact .rowD rfl rowOf_isD | refine .box ?_ | exact .nil | refine .cons ?_ ?_ | exact .d | exact .row rfl rfl | fail)
end Go.Proofs
