/-
  What functions of the given program hand back, by walks over its code, and plain laws on that. No condition.
-/
import Derived.Test.YtecdajajocafdaaSxO18j
-- SXS
-- SXM
-- SXN
namespace Go.Proofs
open Go Go.Sx Go.Proofs.T Go.Proofs.Q
set_option maxRecDepth 4000
set_option linter.unusedSimpArgs false
set_option linter.unusedVariables false
attribute [local irreducible] VR VC thenQ blockQ retL
def waitM (s : Sta) (c : TC) : Sta := if (candI s).isSome = true ∧ c.kind = 3 then { s with wait := s.wait - 1 } else s
def ackM (s : Sta) (a : Ac) : Sta := match heldI s.held a.flow with
  | none => s
  | some i => { s with held := s.held.set i { s.held.getD i default with acked := updK id (s.held.getD i default).acked a.target } }
/-- The station behind a slot with the cell c, and what it got. -/
def doneM (s : Sta) (slot : Int) (c : TC) (r : Rs) : Sta × Up :=
  if (actM s slot c).kind = 1 ∧ (actM s slot c).fkind = 1 then (if r.acked = true then ackM s (actM s slot c) else s, zUp)
  else if (actM s slot c).kind = 1 then (triedM s c r.acked, zUp)
  else if (actM s slot c).kind = 2 then if r.heard = true then heardM (waitM s c) (frOf r) else (waitM s c, zUp)
  else (s, zUp)
theorem heard_cs (s : Sta) (f : Fr) : stA (heardM s f).1 = .agg ((heardM s f).1.csR (.d (hds s.held)) (.d (sns (heardM s f).1.seen))) := by
  have h : (heardM s f).1.held = s.held := by
    unfold heardM
    repeat' split
    all_goals rfl
  rw [← h]; rfl
set_option maxHeartbeats 4000000 in
theorem done_free (s : Sta) (slot : Int) (r : Rs) (hck : checkS s = 0) (hs : 0 ≤ slot ∧ slot ≤ 109951162) (hna : ¬ ((actM s slot (atM s.tb slot).1).kind = 1 ∧ (actM s slot (atM s.tb slot).1).fkind = 1 ∧ r.acked = true)) :
    FnS Try.prog 10 [stA s, AI slot, rsA r] [] (.tup [stA (doneM s slot (atM s.tb slot).1 r).1, upA (doneM s slot (atM s.tb slot).1 r).2, AI 0]) [] := by
  obtain ⟨_, _, _, _, hsn, _, hrb⟩ := checkS_of hck
  have hrb := restB_of hrb
  have hpw := (pow5 s.back).resolve_left (by omega) |>.resolve_left (by omega)
  refine FnS.of_body (enters_of Try.func10 (by kernel_rfl) rfl) Try.func10 rfl Try.ntmps10 Try.results10 rfl rfl rfl rfl fun E hS => ?_
  refine vc_retL ?_
  repeat' (first
    | (show VR _ _ _ (_ :: _) _ _ _; first | refine x_opF rfl (by first | exact True.intro | omega) ?_ | (show VR _ _ _ (⟨_, .call ⟨.value _, _, _⟩, _, _, _, _⟩ :: _) _ _ _; first | refine vr_calldU (start_spec s slot hck hs) (gk rfl) rfl rfl rfl (by first | rfl | (simp only [wfRes, wfL, wfArgs, wfs, mpO_namesB, mpO_namesI]; rfl)) rfl (by first | exact newB_nil | exact newB_O | ((simp only [newB, List.map_cons, List.map_nil, Blk.shift, rowOf_shift]) <;> rfl) | rfl) rfl ?_))
    | (show VR _ _ _ [] _ _ _; first | refine vr_nil ?_)
    | (show thenQ _ _ _ _; first | refine q_then_n ?_)
    | (show VC _ (.seq _ _) _ _; (fail_if_success (show VC _ (.seq (.seq (.region 4 _ _) _) _) _ _)); (fail_if_success (show VC _ (.seq (.region 4 _ _) _) _ _)); refine vc_seq ?_)
    | refine vc_region ?_
    | (show VC _ (.cond _ _ _) _ _; first | refine vc_cond_f rfl ?_)
    | refine vc_skip ?_
    | fail)
  all_goals first
    | (exfalso; omega)
    | skip
  generalize atM s.tb slot = ac at hna ⊢
  obtain ⟨c, ok⟩ := ac
  dsimp only at hna ⊢
  refine VC.le (σ' := stOf [(5, .c (.ptr 5 0)), (6, .c (.ptr 6 0)), (7, .c (.ptr 7 0)), (8, AI 0), (9, .c (.ptr 100 0))] [(5, .box r.cs), (6, .box noS.cs), (7, .box zUp.cs), (100, .box (wcs s (.d (hds s.held)) (.row 102 s.seen.length) slot c)), (102, .row 102 2 (rowOf Sn.enc s.seen))]) ?_ ?_
  · refine le_gen (fun n => if n = 100 then 19100 else if n = 102 then 19102 else n) [19101] hS ?_ ?_ rfl (by first | rfl | (simp only [wfL, wfs, mpO_namesB, mpO_namesI]; rfl))
    all_goals repeat' (first | exact trivial | refine ⟨⟨_, rfl, ?_⟩, ?_⟩ | exact .c .d | exact .c (.ptr rfl) | exact .boxD rfl rfl | exact .rowD rfl rowOf_isD | refine .box ?_ | exact .nil | refine .cons ?_ ?_ | exact .d | exact .row rfl rfl | exact .frzOf (by first | (simp; done) | decide) rfl rfl (fun _ => rfl) | fail)
  by_cases k1 : (actM s slot c).kind = 1
  · have d1 : decide ((actM s slot c).kind = 1) = true := decide_eq_true k1
    by_cases k2 : (actM s slot c).fkind = 1
    · have d2 : decide ((actM s slot c).fkind = 1) = true := decide_eq_true k2
      have hac : r.acked = false := by
        cases h : r.acked with
        | true => exact absurd ⟨k1, k2, h⟩ hna
        | false => rfl
      have e : doneM s slot c r = (s, zUp) := by rw [doneM, if_pos ⟨k1, k2⟩, if_neg (by rw [hac]; simp)]
      rw [e]
      repeat' (first
        | (show VR _ _ _ (_ :: _) _ _ _; first | refine x_opF rfl (by first | exact True.intro | omega) ?_ | (show VR _ _ _ (⟨_, .call ⟨.value _, _, _⟩, _, _, _, _⟩ :: _) _ _ _; first | refine vr_callU [100, 102] (action_spec s slot c hck) (gk rfl) rfl (by (repeat' (first | exact .nil | refine .cons ?_ ?_ | exact .of0 (.c .d) | exact .of0 .ep | exact .clo | exact (w_ar (by simp) rfl .d (cr_rowO (by simp) rfl rfl (fun _ => rfl))) | exact .of0 (.c .nil) | exact .of0 (.c (cr_rowO (by simp) rfl (by first | rfl | omega) (fun _ => rfl))) | refine .of0 (.agg ?_) | exact .d | exact .nil | exact .of0 (.c (cr_row (by decide) rfl rfl (by repeat' (first | exact trivial | refine ⟨?_, ?_⟩ | rfl)))))) <;> fail) (by first | rfl | exact hfl_O (fun _ => rfl) | exact hfl_O2 rfl (fun _ => rfl)) rfl (by first | rfl | (simp only [wfRes, wfL, wfArgs, wfs, mpO_namesB, mpO_namesI]; rfl)) rfl (by first | exact newB_nil | exact newB_O | ((simp only [newB, List.map_cons, List.map_nil, Blk.shift, rowOf_shift]) <;> rfl) | rfl) rfl ?_) | (show VR _ _ _ (⟨_, .nilCheck _, _, _, _, _⟩ :: _) _ _ _; first | refine vr_nilCheck_ptr (gk rfl) rfl rfl ?_) | refine x_gknow rfl (by assumption) ?_)
        | (show VR _ _ _ [] _ _ _; first | refine vr_nil ?_ | refine vr_nil_t (by kernel_rfl) ?_)
        | (show thenQ _ _ _ _; first | refine q_then_n ?_)
        | (show blockQ _ _ _ _; first | refine q_blk_n ?_)
        | refine vc_seq ?_
        | refine vc_region ?_ | refine vc_region_t ?_
        | (show VC _ (.cond _ _ _) _ _; first | refine vc_cond_t rfl ?_ | refine vc_cond_f rfl ?_ | refine x_know rfl (by assumption) ?_)
        | refine vc_ret ?_ | refine vc_block ?_ | refine vc_skip ?_
        | fail)
      refine retL_of (le_gen (l := [(6, .c (.ptr 6 0)), (7, .c (.ptr 7 0)), (8, AI 0)]) (b := [(6, .box s.cs), (7, .box zUp.cs)]) (fun n => n) [102] hS ?_ ?_ rfl (by first | rfl | (simp only [wfL, wfs, mpO_namesB, mpO_namesI]; rfl))) (ret_agg_agg_dL isRet_r rfl rfl rfl rfl rfl rfl rfl rfl rfl rfl rfl rfl)
      all_goals repeat' (first | exact trivial | refine ⟨⟨_, rfl, ?_⟩, ?_⟩ | exact .c .d | exact .c (.ptr rfl) | exact .boxD rfl rfl | refine .box ?_ | exact .nil | refine .cons ?_ ?_ | exact .d | exact .frzOf (by first | (simp; done) | decide) rfl rfl (fun _ => rfl) | fail)
    · have d2 : decide ((actM s slot c).fkind = 1) = false := decide_eq_false k2
      have e : doneM s slot c r = (triedM s c r.acked, zUp) := by rw [doneM, if_neg (fun h => k2 h.2), if_pos k1]
      rw [e]
      have ht : (triedM s c r.acked).seen = s.seen ∧ (triedM s c r.acked).held = s.held := by
        unfold triedM goneM againM leaveM
        repeat' split
        all_goals exact ⟨rfl, rfl⟩
      have e3 : stA (triedM s c r.acked) = .agg ((triedM s c r.acked).csR (.d (hds s.held)) (.d (sns s.seen))) := by rw [← ht.1, ← ht.2]; rfl
      rw [show (triedM s c r.acked, zUp).1 = triedM s c r.acked from rfl, e3]
      repeat' (first
        | (show VR _ _ _ (_ :: _) _ _ _; first | refine x_opF rfl (by first | exact True.intro | omega) ?_ | (show VR _ _ _ (⟨_, .call ⟨.value _, _, _⟩, _, _, _, _⟩ :: _) _ _ _; first | refine vr_callU [100, 102] (action_spec s slot c hck) (gk rfl) rfl (by (repeat' (first | exact .nil | refine .cons ?_ ?_ | exact .of0 (.c .d) | exact .of0 .ep | exact .clo | exact (w_ar (by simp) rfl .d (cr_rowO (by simp) rfl rfl (fun _ => rfl))) | exact .of0 (.c .nil) | exact .of0 (.c (cr_rowO (by simp) rfl (by first | rfl | omega) (fun _ => rfl))) | refine .of0 (.agg ?_) | exact .d | exact .nil | exact .of0 (.c (cr_row (by decide) rfl rfl (by repeat' (first | exact trivial | refine ⟨?_, ?_⟩ | rfl)))))) <;> fail) (by first | rfl | exact hfl_O (fun _ => rfl) | exact hfl_O2 rfl (fun _ => rfl)) rfl (by first | rfl | (simp only [wfRes, wfL, wfArgs, wfs, mpO_namesB, mpO_namesI]; rfl)) rfl (by first | exact newB_nil | exact newB_O | ((simp only [newB, List.map_cons, List.map_nil, Blk.shift, rowOf_shift]) <;> rfl) | rfl) rfl ?_ | refine vr_callW (nmL []) [] [100, 102] (tried_spec s slot c r.acked hck) (gk rfl) rfl rfl (by (repeat' (first | exact .nil | refine .cons ?_ ?_ | exact .w (.c (.ptr rfl)) rfl | exact .w (.c (.row rfl rfl)) rfl | exact .w (.c (.mp rfl)) rfl | exact .w (.c (.fn rfl)) rfl | exact .w (.rp rfl) rfl | (refine .w (.fncC ?_) rfl; repeat' (first | exact .nil | refine .cons ?_ ?_ | exact .d | exact .ptr rfl | exact .row rfl rfl | (refine .row rfl ?_; ((try dsimp only); first | rfl | omega | (simp only [lns] <;> omega)); done) | exact .fn rfl | exact .mp rfl | exact .frzOf (by first | (simp; done) | decide) rfl rfl (fun _ => rfl))) | exact .r (.of0 (.c .d)) | refine .r ?_ | exact .of0 (.c .d) | exact .of0 .ep | exact .clo | exact (w_ar (by simp) rfl .d (cr_rowO (by simp) rfl rfl (fun _ => rfl))) | exact .of0 (.c .nil) | exact .of0 (.c (cr_rowO (by simp) rfl (by first | rfl | omega) (fun _ => rfl))) | refine .of0 (.agg ?_) | exact .d | exact .nil | exact .of0 (.c (cr_row (by decide) rfl rfl (by repeat' (first | exact trivial | refine ⟨?_, ?_⟩ | rfl)))))) <;> fail) (by (repeat' (first | exact trivial | refine ⟨⟨_, rfl, ?_⟩, ?_⟩ | exact .boxD rfl rfl | exact .rowD rfl rowOf_isD | exact .mapO (fun _ => rfl) rfl | exact .pin rfl | refine .box ?_ | exact .nil | refine .cons ?_ ?_ | exact .d | exact .ptr rfl | exact .row rfl rfl | (refine .row rfl ?_; ((try dsimp only); first | rfl | omega | (simp only [lns] <;> omega)); done) | exact .fn rfl | exact .mp rfl | exact .frzOf (by first | (simp; done) | decide) rfl rfl (fun _ => rfl))) <;> fail) rfl rfl rfl (by first | rfl | (simp only [List.all_cons, List.all_nil, rowOf_flatB]; rfl)) rfl (by first | rfl | (simp only [wfRes, wfL, wfArgs, wfs, mpO_namesB, mpO_namesI]; rfl)) rfl rfl rfl (by (simp only [newW, List.map_cons, List.map_nil, Blk.ren, C.ren, rowOf_ren, mpO_renB, mpO_renI, gW, memN, nmL, Nat.reduceBEq, Bool.or_false, Bool.or_true, Bool.false_or, Bool.true_or, cond_true, cond_false, Nat.reduceMul, Nat.reduceAdd]) <;> rfl) (by (simp only [AV.ren, AV.ren0, List.map_cons, List.map_nil, C.ren, gW, memN, nmL, Nat.reduceBEq, Bool.or_false, Bool.or_true, Bool.false_or, Bool.true_or, cond_true, cond_false, Nat.reduceMul, Nat.reduceAdd]) <;> rfl) rfl ?_) | (show VR _ _ _ (⟨_, .nilCheck _, _, _, _, _⟩ :: _) _ _ _; first | refine vr_nilCheck_ptr (gk rfl) rfl rfl ?_) | refine x_gknow rfl (by assumption) ?_)
        | (show VR _ _ _ [] _ _ _; first | refine vr_nil ?_ | refine vr_nil_t (by kernel_rfl) ?_)
        | (show thenQ _ _ _ _; first | refine q_then_n ?_)
        | (show blockQ _ _ _ _; first | refine q_blk_n ?_)
        | refine vc_seq ?_
        | refine vc_region ?_ | refine vc_region_t ?_
        | (show VC _ (.cond _ _ _) _ _; first | refine vc_cond_t rfl ?_ | refine vc_cond_f rfl ?_ | refine x_know rfl (by assumption) ?_)
        | refine vc_ret ?_ | refine vc_block ?_
        | fail)
      refine retL_of (le_gen (l := [(6, .c (.ptr 6 0)), (7, .c (.ptr 7 0)), (8, AI 0)]) (b := [(6, .box ((triedM s c r.acked).csR (.d (hds s.held)) (.d (sns s.seen)))), (7, .box zUp.cs)]) (fun n => n) [102] hS ?_ ?_ rfl (by first | rfl | (simp only [wfL, wfs, mpO_namesB, mpO_namesI]; rfl))) (ret_agg_agg_dL isRet_r rfl rfl rfl rfl rfl rfl rfl rfl rfl rfl rfl rfl)
      all_goals repeat' (first | exact trivial | refine ⟨⟨_, rfl, ?_⟩, ?_⟩ | exact .c .d | exact .c (.ptr rfl) | exact .boxD rfl rfl | refine .box ?_ | exact .nil | refine .cons ?_ ?_ | exact .d | exact .frzOf (by first | (simp; done) | decide) rfl rfl (fun _ => rfl) | fail)
  · have d1 : decide ((actM s slot c).kind = 1) = false := decide_eq_false k1
    by_cases k3 : (actM s slot c).kind = 2
    · have d3 : decide ((actM s slot c).kind = 2) = true := decide_eq_true k3
      by_cases hw : (candI s).isSome = true ∧ c.kind = 3
      · have hw' : waitM s c = { s with wait := s.wait - 1 } := if_pos hw
        have d5 : (candI s).isSome = true := hw.1
        have d6 : decide (c.kind = 3) = true := decide_eq_true hw.2
        cases hh : r.heard with
        | false =>
          have e : doneM s slot c r = ({ s with wait := s.wait - 1 }, zUp) := by rw [doneM, if_neg (fun h => k1 h.1), if_neg k1, if_pos k3, if_neg (by rw [hh]; simp), hw']
          rw [e]
          repeat' (first
            | (show VR _ _ _ (_ :: _) _ _ _; first | refine x_opF rfl (by first | exact True.intro | omega) ?_ | (show VR _ _ _ (⟨_, .call ⟨.value _, _, _⟩, _, _, _, _⟩ :: _) _ _ _; first | refine vr_callU [100, 102] (action_spec s slot c hck) (gk rfl) rfl (by (repeat' (first | exact .nil | refine .cons ?_ ?_ | exact .of0 (.c .d) | exact .of0 .ep | exact .clo | exact (w_ar (by simp) rfl .d (cr_rowO (by simp) rfl rfl (fun _ => rfl))) | exact .of0 (.c .nil) | exact .of0 (.c (cr_rowO (by simp) rfl (by first | rfl | omega) (fun _ => rfl))) | refine .of0 (.agg ?_) | exact .d | exact .nil | exact .of0 (.c (cr_row (by decide) rfl rfl (by repeat' (first | exact trivial | refine ⟨?_, ?_⟩ | rfl)))))) <;> fail) (by first | rfl | exact hfl_O (fun _ => rfl) | exact hfl_O2 rfl (fun _ => rfl)) rfl (by first | rfl | (simp only [wfRes, wfL, wfArgs, wfs, mpO_namesB, mpO_namesI]; rfl)) rfl (by first | exact newB_nil | exact newB_O | ((simp only [newB, List.map_cons, List.map_nil, Blk.shift, rowOf_shift]) <;> rfl) | rfl) rfl ?_ | refine vr_callU [100, 102] (candidate_spec s slot c) (gk rfl) rfl (by (repeat' (first | exact .nil | refine .cons ?_ ?_ | exact .of0 (.c .d) | exact .of0 .ep | exact .clo | exact (w_ar (by simp) rfl .d (cr_rowO (by simp) rfl rfl (fun _ => rfl))) | exact .of0 (.c .nil) | exact .of0 (.c (cr_rowO (by simp) rfl (by first | rfl | omega) (fun _ => rfl))) | refine .of0 (.agg ?_) | exact .d | exact .nil | exact .of0 (.c (cr_row (by decide) rfl rfl (by repeat' (first | exact trivial | refine ⟨?_, ?_⟩ | rfl)))))) <;> fail) (by first | rfl | exact hfl_O (fun _ => rfl) | exact hfl_O2 rfl (fun _ => rfl)) rfl (by first | rfl | (simp only [wfRes, wfL, wfArgs, wfs, mpO_namesB, mpO_namesI]; rfl)) rfl (by first | exact newB_nil | exact newB_O | ((simp only [newB, List.map_cons, List.map_nil, Blk.shift, rowOf_shift]) <;> rfl) | rfl) rfl ?_) | (show VR _ _ _ (⟨_, .nilCheck _, _, _, _, _⟩ :: _) _ _ _; first | refine vr_nilCheck_ptr (gk rfl) rfl rfl ?_) | refine x_gknow rfl (by assumption) ?_)
            | (show VR _ _ _ [] _ _ _; first | refine vr_nil ?_ | refine vr_nil_t (by kernel_rfl) ?_)
            | (show thenQ _ _ _ _; first | refine q_then_n ?_)
            | (show blockQ _ _ _ _; first | refine q_blk_n ?_)
            | refine vc_seq ?_
            | refine vc_region ?_ | refine vc_region_t ?_
            | (show VC _ (.cond _ _ _) _ _; first | refine vc_cond_t rfl ?_ | refine vc_cond_f rfl ?_ | refine x_know rfl (by assumption) ?_)
            | refine vc_ret ?_ | refine vc_block ?_ | refine vc_skip ?_
            | fail)
          all_goals first
            | (exfalso; omega)
            | (exfalso; simp_all; done)
            | skip
          refine retL_of (le_gen (l := [(6, .c (.ptr 6 0)), (7, .c (.ptr 7 0)), (8, AI 0)]) (b := [(6, .box (Sta.cs { s with wait := s.wait - 1 })), (7, .box zUp.cs)]) (fun n => n) [102] hS ?_ ?_ rfl (by first | rfl | (simp only [wfL, wfs, mpO_namesB, mpO_namesI]; rfl))) (ret_agg_agg_dL isRet_r rfl rfl rfl rfl rfl rfl rfl rfl rfl rfl rfl rfl)
          all_goals repeat' (first | exact trivial | refine ⟨⟨_, rfl, ?_⟩, ?_⟩ | exact .c .d | exact .c (.ptr rfl) | exact .boxD rfl rfl | refine .box ?_ | exact .nil | refine .cons ?_ ?_ | exact .d | exact .frzOf (by first | (simp; done) | decide) rfl rfl (fun _ => rfl) | fail)
        | true =>
          have e : doneM s slot c r = heardM { s with wait := s.wait - 1 } (frOf r) := by rw [doneM, if_neg (fun h => k1 h.1), if_neg k1, if_pos k3, if_pos hh, hw']
          have e3 := heard_cs { s with wait := s.wait - 1 } (frOf r)
          rw [e]
          rw [e3]
          repeat' (first
            | (show VR _ _ _ (_ :: _) _ _ _; first | refine x_opF rfl (by first | exact True.intro | omega) ?_ | (show VR _ _ _ (⟨_, .call ⟨.value _, _, _⟩, _, _, _, _⟩ :: _) _ _ _; first | refine vr_callU [100, 102] (action_spec s slot c hck) (gk rfl) rfl (by (repeat' (first | exact .nil | refine .cons ?_ ?_ | exact .of0 (.c .d) | exact .of0 .ep | exact .clo | exact (w_ar (by simp) rfl .d (cr_rowO (by simp) rfl rfl (fun _ => rfl))) | exact .of0 (.c .nil) | exact .of0 (.c (cr_rowO (by simp) rfl (by first | rfl | omega) (fun _ => rfl))) | refine .of0 (.agg ?_) | exact .d | exact .nil | exact .of0 (.c (cr_row (by decide) rfl rfl (by repeat' (first | exact trivial | refine ⟨?_, ?_⟩ | rfl)))))) <;> fail) (by first | rfl | exact hfl_O (fun _ => rfl) | exact hfl_O2 rfl (fun _ => rfl)) rfl (by first | rfl | (simp only [wfRes, wfL, wfArgs, wfs, mpO_namesB, mpO_namesI]; rfl)) rfl (by first | exact newB_nil | exact newB_O | ((simp only [newB, List.map_cons, List.map_nil, Blk.shift, rowOf_shift]) <;> rfl) | rfl) rfl ?_ | refine vr_callU [100, 102] (candidate_spec s slot c) (gk rfl) rfl (by (repeat' (first | exact .nil | refine .cons ?_ ?_ | exact .of0 (.c .d) | exact .of0 .ep | exact .clo | exact (w_ar (by simp) rfl .d (cr_rowO (by simp) rfl rfl (fun _ => rfl))) | exact .of0 (.c .nil) | exact .of0 (.c (cr_rowO (by simp) rfl (by first | rfl | omega) (fun _ => rfl))) | refine .of0 (.agg ?_) | exact .d | exact .nil | exact .of0 (.c (cr_row (by decide) rfl rfl (by repeat' (first | exact trivial | refine ⟨?_, ?_⟩ | rfl)))))) <;> fail) (by first | rfl | exact hfl_O (fun _ => rfl) | exact hfl_O2 rfl (fun _ => rfl)) rfl (by first | rfl | (simp only [wfRes, wfL, wfArgs, wfs, mpO_namesB, mpO_namesI]; rfl)) rfl (by first | exact newB_nil | exact newB_O | ((simp only [newB, List.map_cons, List.map_nil, Blk.shift, rowOf_shift]) <;> rfl) | rfl) rfl ?_ | refine vr_callW (nmL []) [] [100] (heard_spec { s with wait := s.wait - 1 } slot c (frOf r) hsn) (gk rfl) rfl rfl (by (repeat' (first | exact .nil | refine .cons ?_ ?_ | exact .w (.c (.ptr rfl)) rfl | exact .w (.c (.row rfl rfl)) rfl | exact .w (.c (.mp rfl)) rfl | exact .w (.c (.fn rfl)) rfl | exact .w (.rp rfl) rfl | (refine .w (.fncC ?_) rfl; repeat' (first | exact .nil | refine .cons ?_ ?_ | exact .d | exact .ptr rfl | exact .row rfl rfl | (refine .row rfl ?_; ((try dsimp only); first | rfl | omega | (simp only [lns] <;> omega)); done) | exact .fn rfl | exact .mp rfl | exact .frzOf (by first | (simp; done) | decide) rfl rfl (fun _ => rfl))) | exact .r (.of0 (.c .d)) | refine .r ?_ | exact .of0 (.c .d) | exact .of0 .ep | exact .clo | exact (w_ar (by simp) rfl .d (cr_rowO (by simp) rfl rfl (fun _ => rfl))) | exact .of0 (.c .nil) | exact .of0 (.c (cr_rowO (by simp) rfl (by first | rfl | omega) (fun _ => rfl))) | refine .of0 (.agg ?_) | exact .d | exact .nil | exact .of0 (.c (cr_row (by decide) rfl rfl (by repeat' (first | exact trivial | refine ⟨?_, ?_⟩ | rfl)))))) <;> fail) (by (repeat' (first | exact trivial | refine ⟨⟨_, rfl, ?_⟩, ?_⟩ | exact .boxD rfl rfl | exact .rowD rfl rowOf_isD | exact .mapO (fun _ => rfl) rfl | exact .pin rfl | refine .box ?_ | exact .nil | refine .cons ?_ ?_ | exact .d | exact .ptr rfl | exact .row rfl rfl | (refine .row rfl ?_; ((try dsimp only); first | rfl | omega | (simp only [lns] <;> omega)); done) | exact .fn rfl | exact .mp rfl | exact .frzOf (by first | (simp; done) | decide) rfl rfl (fun _ => rfl))) <;> fail) rfl rfl rfl (by first | rfl | (simp only [List.all_cons, List.all_nil, rowOf_flatB]; rfl)) rfl (by first | rfl | (simp only [wfRes, wfL, wfArgs, wfs, mpO_namesB, mpO_namesI]; rfl)) rfl rfl rfl (by (simp only [newW, List.map_cons, List.map_nil, Blk.ren, C.ren, rowOf_ren, mpO_renB, mpO_renI, gW, memN, nmL, Nat.reduceBEq, Bool.or_false, Bool.or_true, Bool.false_or, Bool.true_or, cond_true, cond_false, Nat.reduceMul, Nat.reduceAdd]) <;> rfl) (by (simp only [AV.ren, AV.ren0, List.map_cons, List.map_nil, C.ren, gW, memN, nmL, Nat.reduceBEq, Bool.or_false, Bool.or_true, Bool.false_or, Bool.true_or, cond_true, cond_false, Nat.reduceMul, Nat.reduceAdd]) <;> rfl) rfl ?_) | (show VR _ _ _ (⟨_, .nilCheck _, _, _, _, _⟩ :: _) _ _ _; first | refine vr_nilCheck_ptr (gk rfl) rfl rfl ?_) | refine x_gknow rfl (by assumption) ?_)
            | (show VR _ _ _ [] _ _ _; first | refine vr_nil ?_ | refine vr_nil_t (by kernel_rfl) ?_)
            | (show thenQ _ _ _ _; first | refine q_then_n ?_)
            | (show blockQ _ _ _ _; first | refine q_blk_n ?_)
            | refine vc_seq ?_
            | refine vc_region ?_ | refine vc_region_t ?_
            | (show VC _ (.cond _ _ _) _ _; first | refine vc_cond_t rfl ?_ | refine vc_cond_f rfl ?_ | refine x_know rfl (by assumption) ?_)
            | refine vc_ret ?_ | refine vc_block ?_
            | fail)
          all_goals first
            | (exfalso; omega)
            | (exfalso; simp_all; done)
            | skip
          refine retL_of (le_gen (l := [(6, .c (.ptr 6 0)), (7, .c (.ptr 7 0)), (8, AI 0)]) (b := [(6, .box ((heardM { s with wait := s.wait - 1 } (frOf r)).1.csR (.d (hds s.held)) (.d (sns (heardM { s with wait := s.wait - 1 } (frOf r)).1.seen)))), (7, .box (heardM { s with wait := s.wait - 1 } (frOf r)).2.cs)]) (fun n => n) [104103] hS ?_ ?_ rfl (by first | rfl | (simp only [wfL, wfs, mpO_namesB, mpO_namesI]; rfl))) (ret_agg_agg_dL isRet_r rfl rfl rfl rfl rfl rfl rfl rfl rfl rfl rfl rfl)
          all_goals repeat' (first | exact trivial | refine ⟨⟨_, rfl, ?_⟩, ?_⟩ | exact .c .d | exact .c (.ptr rfl) | exact .boxD rfl rfl | refine .box ?_ | exact .nil | refine .cons ?_ ?_ | exact .d | exact .frzOf (by first | (simp; done) | decide) rfl rfl (fun _ => rfl) | fail)
      · have hw' : waitM s c = s := if_neg hw
        cases d5 : (candI s).isSome with
        | false =>
          cases hh : r.heard with
          | false =>
            have e : doneM s slot c r = (s, zUp) := by rw [doneM, if_neg (fun h => k1 h.1), if_neg k1, if_pos k3, if_neg (by rw [hh]; simp), hw']
            rw [e]
            repeat' (first
              | (show VR _ _ _ (_ :: _) _ _ _; first | refine x_opF rfl (by first | exact True.intro | omega) ?_ | (show VR _ _ _ (⟨_, .call ⟨.value _, _, _⟩, _, _, _, _⟩ :: _) _ _ _; first | refine vr_callU [100, 102] (action_spec s slot c hck) (gk rfl) rfl (by (repeat' (first | exact .nil | refine .cons ?_ ?_ | exact .of0 (.c .d) | exact .of0 .ep | exact .clo | exact (w_ar (by simp) rfl .d (cr_rowO (by simp) rfl rfl (fun _ => rfl))) | exact .of0 (.c .nil) | exact .of0 (.c (cr_rowO (by simp) rfl (by first | rfl | omega) (fun _ => rfl))) | refine .of0 (.agg ?_) | exact .d | exact .nil | exact .of0 (.c (cr_row (by decide) rfl rfl (by repeat' (first | exact trivial | refine ⟨?_, ?_⟩ | rfl)))))) <;> fail) (by first | rfl | exact hfl_O (fun _ => rfl) | exact hfl_O2 rfl (fun _ => rfl)) rfl (by first | rfl | (simp only [wfRes, wfL, wfArgs, wfs, mpO_namesB, mpO_namesI]; rfl)) rfl (by first | exact newB_nil | exact newB_O | ((simp only [newB, List.map_cons, List.map_nil, Blk.shift, rowOf_shift]) <;> rfl) | rfl) rfl ?_ | refine vr_callU [100, 102] (candidate_spec s slot c) (gk rfl) rfl (by (repeat' (first | exact .nil | refine .cons ?_ ?_ | exact .of0 (.c .d) | exact .of0 .ep | exact .clo | exact (w_ar (by simp) rfl .d (cr_rowO (by simp) rfl rfl (fun _ => rfl))) | exact .of0 (.c .nil) | exact .of0 (.c (cr_rowO (by simp) rfl (by first | rfl | omega) (fun _ => rfl))) | refine .of0 (.agg ?_) | exact .d | exact .nil | exact .of0 (.c (cr_row (by decide) rfl rfl (by repeat' (first | exact trivial | refine ⟨?_, ?_⟩ | rfl)))))) <;> fail) (by first | rfl | exact hfl_O (fun _ => rfl) | exact hfl_O2 rfl (fun _ => rfl)) rfl (by first | rfl | (simp only [wfRes, wfL, wfArgs, wfs, mpO_namesB, mpO_namesI]; rfl)) rfl (by first | exact newB_nil | exact newB_O | ((simp only [newB, List.map_cons, List.map_nil, Blk.shift, rowOf_shift]) <;> rfl) | rfl) rfl ?_) | (show VR _ _ _ (⟨_, .nilCheck _, _, _, _, _⟩ :: _) _ _ _; first | refine vr_nilCheck_ptr (gk rfl) rfl rfl ?_) | refine x_gknow rfl (by assumption) ?_)
              | (show VR _ _ _ [] _ _ _; first | refine vr_nil ?_ | refine vr_nil_t (by kernel_rfl) ?_)
              | (show thenQ _ _ _ _; first | refine q_then_n ?_)
              | (show blockQ _ _ _ _; first | refine q_blk_n ?_)
              | refine vc_seq ?_
              | refine vc_region ?_ | refine vc_region_t ?_
              | (show VC _ (.cond _ _ _) _ _; first | refine vc_cond_t rfl ?_ | refine vc_cond_f rfl ?_ | refine x_know rfl (by assumption) ?_)
              | refine vc_ret ?_ | refine vc_block ?_ | refine vc_skip ?_
              | fail)
            all_goals first
              | (exfalso; omega)
              | (exfalso; simp_all; done)
              | skip
            refine retL_of (le_gen (l := [(6, .c (.ptr 6 0)), (7, .c (.ptr 7 0)), (8, AI 0)]) (b := [(6, .box (Sta.cs s)), (7, .box zUp.cs)]) (fun n => n) [102] hS ?_ ?_ rfl (by first | rfl | (simp only [wfL, wfs, mpO_namesB, mpO_namesI]; rfl))) (ret_agg_agg_dL isRet_r rfl rfl rfl rfl rfl rfl rfl rfl rfl rfl rfl rfl)
            all_goals repeat' (first | exact trivial | refine ⟨⟨_, rfl, ?_⟩, ?_⟩ | exact .c .d | exact .c (.ptr rfl) | exact .boxD rfl rfl | refine .box ?_ | exact .nil | refine .cons ?_ ?_ | exact .d | exact .frzOf (by first | (simp; done) | decide) rfl rfl (fun _ => rfl) | fail)
          | true =>
            have e : doneM s slot c r = heardM s (frOf r) := by rw [doneM, if_neg (fun h => k1 h.1), if_neg k1, if_pos k3, if_pos hh, hw']
            have e3 := heard_cs s (frOf r)
            rw [e]
            rw [e3]
            repeat' (first
              | (show VR _ _ _ (_ :: _) _ _ _; first | refine x_opF rfl (by first | exact True.intro | omega) ?_ | (show VR _ _ _ (⟨_, .call ⟨.value _, _, _⟩, _, _, _, _⟩ :: _) _ _ _; first | refine vr_callU [100, 102] (action_spec s slot c hck) (gk rfl) rfl (by (repeat' (first | exact .nil | refine .cons ?_ ?_ | exact .of0 (.c .d) | exact .of0 .ep | exact .clo | exact (w_ar (by simp) rfl .d (cr_rowO (by simp) rfl rfl (fun _ => rfl))) | exact .of0 (.c .nil) | exact .of0 (.c (cr_rowO (by simp) rfl (by first | rfl | omega) (fun _ => rfl))) | refine .of0 (.agg ?_) | exact .d | exact .nil | exact .of0 (.c (cr_row (by decide) rfl rfl (by repeat' (first | exact trivial | refine ⟨?_, ?_⟩ | rfl)))))) <;> fail) (by first | rfl | exact hfl_O (fun _ => rfl) | exact hfl_O2 rfl (fun _ => rfl)) rfl (by first | rfl | (simp only [wfRes, wfL, wfArgs, wfs, mpO_namesB, mpO_namesI]; rfl)) rfl (by first | exact newB_nil | exact newB_O | ((simp only [newB, List.map_cons, List.map_nil, Blk.shift, rowOf_shift]) <;> rfl) | rfl) rfl ?_ | refine vr_callU [100, 102] (candidate_spec s slot c) (gk rfl) rfl (by (repeat' (first | exact .nil | refine .cons ?_ ?_ | exact .of0 (.c .d) | exact .of0 .ep | exact .clo | exact (w_ar (by simp) rfl .d (cr_rowO (by simp) rfl rfl (fun _ => rfl))) | exact .of0 (.c .nil) | exact .of0 (.c (cr_rowO (by simp) rfl (by first | rfl | omega) (fun _ => rfl))) | refine .of0 (.agg ?_) | exact .d | exact .nil | exact .of0 (.c (cr_row (by decide) rfl rfl (by repeat' (first | exact trivial | refine ⟨?_, ?_⟩ | rfl)))))) <;> fail) (by first | rfl | exact hfl_O (fun _ => rfl) | exact hfl_O2 rfl (fun _ => rfl)) rfl (by first | rfl | (simp only [wfRes, wfL, wfArgs, wfs, mpO_namesB, mpO_namesI]; rfl)) rfl (by first | exact newB_nil | exact newB_O | ((simp only [newB, List.map_cons, List.map_nil, Blk.shift, rowOf_shift]) <;> rfl) | rfl) rfl ?_ | refine vr_callW (nmL []) [] [100] (heard_spec s slot c (frOf r) hsn) (gk rfl) rfl rfl (by (repeat' (first | exact .nil | refine .cons ?_ ?_ | exact .w (.c (.ptr rfl)) rfl | exact .w (.c (.row rfl rfl)) rfl | exact .w (.c (.mp rfl)) rfl | exact .w (.c (.fn rfl)) rfl | exact .w (.rp rfl) rfl | (refine .w (.fncC ?_) rfl; repeat' (first | exact .nil | refine .cons ?_ ?_ | exact .d | exact .ptr rfl | exact .row rfl rfl | (refine .row rfl ?_; ((try dsimp only); first | rfl | omega | (simp only [lns] <;> omega)); done) | exact .fn rfl | exact .mp rfl | exact .frzOf (by first | (simp; done) | decide) rfl rfl (fun _ => rfl))) | exact .r (.of0 (.c .d)) | refine .r ?_ | exact .of0 (.c .d) | exact .of0 .ep | exact .clo | exact (w_ar (by simp) rfl .d (cr_rowO (by simp) rfl rfl (fun _ => rfl))) | exact .of0 (.c .nil) | exact .of0 (.c (cr_rowO (by simp) rfl (by first | rfl | omega) (fun _ => rfl))) | refine .of0 (.agg ?_) | exact .d | exact .nil | exact .of0 (.c (cr_row (by decide) rfl rfl (by repeat' (first | exact trivial | refine ⟨?_, ?_⟩ | rfl)))))) <;> fail) (by (repeat' (first | exact trivial | refine ⟨⟨_, rfl, ?_⟩, ?_⟩ | exact .boxD rfl rfl | exact .rowD rfl rowOf_isD | exact .mapO (fun _ => rfl) rfl | exact .pin rfl | refine .box ?_ | exact .nil | refine .cons ?_ ?_ | exact .d | exact .ptr rfl | exact .row rfl rfl | (refine .row rfl ?_; ((try dsimp only); first | rfl | omega | (simp only [lns] <;> omega)); done) | exact .fn rfl | exact .mp rfl | exact .frzOf (by first | (simp; done) | decide) rfl rfl (fun _ => rfl))) <;> fail) rfl rfl rfl (by first | rfl | (simp only [List.all_cons, List.all_nil, rowOf_flatB]; rfl)) rfl (by first | rfl | (simp only [wfRes, wfL, wfArgs, wfs, mpO_namesB, mpO_namesI]; rfl)) rfl rfl rfl (by (simp only [newW, List.map_cons, List.map_nil, Blk.ren, C.ren, rowOf_ren, mpO_renB, mpO_renI, gW, memN, nmL, Nat.reduceBEq, Bool.or_false, Bool.or_true, Bool.false_or, Bool.true_or, cond_true, cond_false, Nat.reduceMul, Nat.reduceAdd]) <;> rfl) (by (simp only [AV.ren, AV.ren0, List.map_cons, List.map_nil, C.ren, gW, memN, nmL, Nat.reduceBEq, Bool.or_false, Bool.or_true, Bool.false_or, Bool.true_or, cond_true, cond_false, Nat.reduceMul, Nat.reduceAdd]) <;> rfl) rfl ?_) | (show VR _ _ _ (⟨_, .nilCheck _, _, _, _, _⟩ :: _) _ _ _; first | refine vr_nilCheck_ptr (gk rfl) rfl rfl ?_) | refine x_gknow rfl (by assumption) ?_)
              | (show VR _ _ _ [] _ _ _; first | refine vr_nil ?_ | refine vr_nil_t (by kernel_rfl) ?_)
              | (show thenQ _ _ _ _; first | refine q_then_n ?_)
              | (show blockQ _ _ _ _; first | refine q_blk_n ?_)
              | refine vc_seq ?_
              | refine vc_region ?_ | refine vc_region_t ?_
              | (show VC _ (.cond _ _ _) _ _; first | refine vc_cond_t rfl ?_ | refine vc_cond_f rfl ?_ | refine x_know rfl (by assumption) ?_)
              | refine vc_ret ?_ | refine vc_block ?_ | refine vc_skip ?_
              | fail)
            all_goals first
              | (exfalso; omega)
              | (exfalso; simp_all; done)
              | skip
            refine retL_of (le_gen (l := [(6, .c (.ptr 6 0)), (7, .c (.ptr 7 0)), (8, AI 0)]) (b := [(6, .box ((heardM s (frOf r)).1.csR (.d (hds s.held)) (.d (sns (heardM s (frOf r)).1.seen)))), (7, .box (heardM s (frOf r)).2.cs)]) (fun n => n) [104103] hS ?_ ?_ rfl (by first | rfl | (simp only [wfL, wfs, mpO_namesB, mpO_namesI]; rfl))) (ret_agg_agg_dL isRet_r rfl rfl rfl rfl rfl rfl rfl rfl rfl rfl rfl rfl)
            all_goals repeat' (first | exact trivial | refine ⟨⟨_, rfl, ?_⟩, ?_⟩ | exact .c .d | exact .c (.ptr rfl) | exact .boxD rfl rfl | refine .box ?_ | exact .nil | refine .cons ?_ ?_ | exact .d | exact .frzOf (by first | (simp; done) | decide) rfl rfl (fun _ => rfl) | fail)
        | true =>
          have d6 : decide (c.kind = 3) = false := decide_eq_false fun h => hw ⟨d5, h⟩
          cases hh : r.heard with
          | false =>
            have e : doneM s slot c r = (s, zUp) := by rw [doneM, if_neg (fun h => k1 h.1), if_neg k1, if_pos k3, if_neg (by rw [hh]; simp), hw']
            rw [e]
            repeat' (first
              | (show VR _ _ _ (_ :: _) _ _ _; first | refine x_opF rfl (by first | exact True.intro | omega) ?_ | (show VR _ _ _ (⟨_, .call ⟨.value _, _, _⟩, _, _, _, _⟩ :: _) _ _ _; first | refine vr_callU [100, 102] (action_spec s slot c hck) (gk rfl) rfl (by (repeat' (first | exact .nil | refine .cons ?_ ?_ | exact .of0 (.c .d) | exact .of0 .ep | exact .clo | exact (w_ar (by simp) rfl .d (cr_rowO (by simp) rfl rfl (fun _ => rfl))) | exact .of0 (.c .nil) | exact .of0 (.c (cr_rowO (by simp) rfl (by first | rfl | omega) (fun _ => rfl))) | refine .of0 (.agg ?_) | exact .d | exact .nil | exact .of0 (.c (cr_row (by decide) rfl rfl (by repeat' (first | exact trivial | refine ⟨?_, ?_⟩ | rfl)))))) <;> fail) (by first | rfl | exact hfl_O (fun _ => rfl) | exact hfl_O2 rfl (fun _ => rfl)) rfl (by first | rfl | (simp only [wfRes, wfL, wfArgs, wfs, mpO_namesB, mpO_namesI]; rfl)) rfl (by first | exact newB_nil | exact newB_O | ((simp only [newB, List.map_cons, List.map_nil, Blk.shift, rowOf_shift]) <;> rfl) | rfl) rfl ?_ | refine vr_callU [100, 102] (candidate_spec s slot c) (gk rfl) rfl (by (repeat' (first | exact .nil | refine .cons ?_ ?_ | exact .of0 (.c .d) | exact .of0 .ep | exact .clo | exact (w_ar (by simp) rfl .d (cr_rowO (by simp) rfl rfl (fun _ => rfl))) | exact .of0 (.c .nil) | exact .of0 (.c (cr_rowO (by simp) rfl (by first | rfl | omega) (fun _ => rfl))) | refine .of0 (.agg ?_) | exact .d | exact .nil | exact .of0 (.c (cr_row (by decide) rfl rfl (by repeat' (first | exact trivial | refine ⟨?_, ?_⟩ | rfl)))))) <;> fail) (by first | rfl | exact hfl_O (fun _ => rfl) | exact hfl_O2 rfl (fun _ => rfl)) rfl (by first | rfl | (simp only [wfRes, wfL, wfArgs, wfs, mpO_namesB, mpO_namesI]; rfl)) rfl (by first | exact newB_nil | exact newB_O | ((simp only [newB, List.map_cons, List.map_nil, Blk.shift, rowOf_shift]) <;> rfl) | rfl) rfl ?_) | (show VR _ _ _ (⟨_, .nilCheck _, _, _, _, _⟩ :: _) _ _ _; first | refine vr_nilCheck_ptr (gk rfl) rfl rfl ?_) | refine x_gknow rfl (by assumption) ?_)
              | (show VR _ _ _ [] _ _ _; first | refine vr_nil ?_ | refine vr_nil_t (by kernel_rfl) ?_)
              | (show thenQ _ _ _ _; first | refine q_then_n ?_)
              | (show blockQ _ _ _ _; first | refine q_blk_n ?_)
              | refine vc_seq ?_
              | refine vc_region ?_ | refine vc_region_t ?_
              | (show VC _ (.cond _ _ _) _ _; first | refine vc_cond_t rfl ?_ | refine vc_cond_f rfl ?_ | refine x_know rfl (by assumption) ?_)
              | refine vc_ret ?_ | refine vc_block ?_ | refine vc_skip ?_
              | fail)
            all_goals first
              | (exfalso; omega)
              | (exfalso; simp_all; done)
              | skip
            refine retL_of (le_gen (l := [(6, .c (.ptr 6 0)), (7, .c (.ptr 7 0)), (8, AI 0)]) (b := [(6, .box (Sta.cs s)), (7, .box zUp.cs)]) (fun n => n) [102] hS ?_ ?_ rfl (by first | rfl | (simp only [wfL, wfs, mpO_namesB, mpO_namesI]; rfl))) (ret_agg_agg_dL isRet_r rfl rfl rfl rfl rfl rfl rfl rfl rfl rfl rfl rfl)
            all_goals repeat' (first | exact trivial | refine ⟨⟨_, rfl, ?_⟩, ?_⟩ | exact .c .d | exact .c (.ptr rfl) | exact .boxD rfl rfl | refine .box ?_ | exact .nil | refine .cons ?_ ?_ | exact .d | exact .frzOf (by first | (simp; done) | decide) rfl rfl (fun _ => rfl) | fail)
          | true =>
            have e : doneM s slot c r = heardM s (frOf r) := by rw [doneM, if_neg (fun h => k1 h.1), if_neg k1, if_pos k3, if_pos hh, hw']
            have e3 := heard_cs s (frOf r)
            rw [e]
            rw [e3]
            repeat' (first
              | (show VR _ _ _ (_ :: _) _ _ _; first | refine x_opF rfl (by first | exact True.intro | omega) ?_ | (show VR _ _ _ (⟨_, .call ⟨.value _, _, _⟩, _, _, _, _⟩ :: _) _ _ _; first | refine vr_callU [100, 102] (action_spec s slot c hck) (gk rfl) rfl (by (repeat' (first | exact .nil | refine .cons ?_ ?_ | exact .of0 (.c .d) | exact .of0 .ep | exact .clo | exact (w_ar (by simp) rfl .d (cr_rowO (by simp) rfl rfl (fun _ => rfl))) | exact .of0 (.c .nil) | exact .of0 (.c (cr_rowO (by simp) rfl (by first | rfl | omega) (fun _ => rfl))) | refine .of0 (.agg ?_) | exact .d | exact .nil | exact .of0 (.c (cr_row (by decide) rfl rfl (by repeat' (first | exact trivial | refine ⟨?_, ?_⟩ | rfl)))))) <;> fail) (by first | rfl | exact hfl_O (fun _ => rfl) | exact hfl_O2 rfl (fun _ => rfl)) rfl (by first | rfl | (simp only [wfRes, wfL, wfArgs, wfs, mpO_namesB, mpO_namesI]; rfl)) rfl (by first | exact newB_nil | exact newB_O | ((simp only [newB, List.map_cons, List.map_nil, Blk.shift, rowOf_shift]) <;> rfl) | rfl) rfl ?_ | refine vr_callU [100, 102] (candidate_spec s slot c) (gk rfl) rfl (by (repeat' (first | exact .nil | refine .cons ?_ ?_ | exact .of0 (.c .d) | exact .of0 .ep | exact .clo | exact (w_ar (by simp) rfl .d (cr_rowO (by simp) rfl rfl (fun _ => rfl))) | exact .of0 (.c .nil) | exact .of0 (.c (cr_rowO (by simp) rfl (by first | rfl | omega) (fun _ => rfl))) | refine .of0 (.agg ?_) | exact .d | exact .nil | exact .of0 (.c (cr_row (by decide) rfl rfl (by repeat' (first | exact trivial | refine ⟨?_, ?_⟩ | rfl)))))) <;> fail) (by first | rfl | exact hfl_O (fun _ => rfl) | exact hfl_O2 rfl (fun _ => rfl)) rfl (by first | rfl | (simp only [wfRes, wfL, wfArgs, wfs, mpO_namesB, mpO_namesI]; rfl)) rfl (by first | exact newB_nil | exact newB_O | ((simp only [newB, List.map_cons, List.map_nil, Blk.shift, rowOf_shift]) <;> rfl) | rfl) rfl ?_ | refine vr_callW (nmL []) [] [100] (heard_spec s slot c (frOf r) hsn) (gk rfl) rfl rfl (by (repeat' (first | exact .nil | refine .cons ?_ ?_ | exact .w (.c (.ptr rfl)) rfl | exact .w (.c (.row rfl rfl)) rfl | exact .w (.c (.mp rfl)) rfl | exact .w (.c (.fn rfl)) rfl | exact .w (.rp rfl) rfl | (refine .w (.fncC ?_) rfl; repeat' (first | exact .nil | refine .cons ?_ ?_ | exact .d | exact .ptr rfl | exact .row rfl rfl | (refine .row rfl ?_; ((try dsimp only); first | rfl | omega | (simp only [lns] <;> omega)); done) | exact .fn rfl | exact .mp rfl | exact .frzOf (by first | (simp; done) | decide) rfl rfl (fun _ => rfl))) | exact .r (.of0 (.c .d)) | refine .r ?_ | exact .of0 (.c .d) | exact .of0 .ep | exact .clo | exact (w_ar (by simp) rfl .d (cr_rowO (by simp) rfl rfl (fun _ => rfl))) | exact .of0 (.c .nil) | exact .of0 (.c (cr_rowO (by simp) rfl (by first | rfl | omega) (fun _ => rfl))) | refine .of0 (.agg ?_) | exact .d | exact .nil | exact .of0 (.c (cr_row (by decide) rfl rfl (by repeat' (first | exact trivial | refine ⟨?_, ?_⟩ | rfl)))))) <;> fail) (by (repeat' (first | exact trivial | refine ⟨⟨_, rfl, ?_⟩, ?_⟩ | exact .boxD rfl rfl | exact .rowD rfl rowOf_isD | exact .mapO (fun _ => rfl) rfl | exact .pin rfl | refine .box ?_ | exact .nil | refine .cons ?_ ?_ | exact .d | exact .ptr rfl | exact .row rfl rfl | (refine .row rfl ?_; ((try dsimp only); first | rfl | omega | (simp only [lns] <;> omega)); done) | exact .fn rfl | exact .mp rfl | exact .frzOf (by first | (simp; done) | decide) rfl rfl (fun _ => rfl))) <;> fail) rfl rfl rfl (by first | rfl | (simp only [List.all_cons, List.all_nil, rowOf_flatB]; rfl)) rfl (by first | rfl | (simp only [wfRes, wfL, wfArgs, wfs, mpO_namesB, mpO_namesI]; rfl)) rfl rfl rfl (by (simp only [newW, List.map_cons, List.map_nil, Blk.ren, C.ren, rowOf_ren, mpO_renB, mpO_renI, gW, memN, nmL, Nat.reduceBEq, Bool.or_false, Bool.or_true, Bool.false_or, Bool.true_or, cond_true, cond_false, Nat.reduceMul, Nat.reduceAdd]) <;> rfl) (by (simp only [AV.ren, AV.ren0, List.map_cons, List.map_nil, C.ren, gW, memN, nmL, Nat.reduceBEq, Bool.or_false, Bool.or_true, Bool.false_or, Bool.true_or, cond_true, cond_false, Nat.reduceMul, Nat.reduceAdd]) <;> rfl) rfl ?_) | (show VR _ _ _ (⟨_, .nilCheck _, _, _, _, _⟩ :: _) _ _ _; first | refine vr_nilCheck_ptr (gk rfl) rfl rfl ?_) | refine x_gknow rfl (by assumption) ?_)
              | (show VR _ _ _ [] _ _ _; first | refine vr_nil ?_ | refine vr_nil_t (by kernel_rfl) ?_)
              | (show thenQ _ _ _ _; first | refine q_then_n ?_)
              | (show blockQ _ _ _ _; first | refine q_blk_n ?_)
              | refine vc_seq ?_
              | refine vc_region ?_ | refine vc_region_t ?_
              | (show VC _ (.cond _ _ _) _ _; first | refine vc_cond_t rfl ?_ | refine vc_cond_f rfl ?_ | refine x_know rfl (by assumption) ?_)
              | refine vc_ret ?_ | refine vc_block ?_ | refine vc_skip ?_
              | fail)
            all_goals first
              | (exfalso; omega)
              | (exfalso; simp_all; done)
              | skip
            refine retL_of (le_gen (l := [(6, .c (.ptr 6 0)), (7, .c (.ptr 7 0)), (8, AI 0)]) (b := [(6, .box ((heardM s (frOf r)).1.csR (.d (hds s.held)) (.d (sns (heardM s (frOf r)).1.seen)))), (7, .box (heardM s (frOf r)).2.cs)]) (fun n => n) [104103] hS ?_ ?_ rfl (by first | rfl | (simp only [wfL, wfs, mpO_namesB, mpO_namesI]; rfl))) (ret_agg_agg_dL isRet_r rfl rfl rfl rfl rfl rfl rfl rfl rfl rfl rfl rfl)
            all_goals repeat' (first | exact trivial | refine ⟨⟨_, rfl, ?_⟩, ?_⟩ | exact .c .d | exact .c (.ptr rfl) | exact .boxD rfl rfl | refine .box ?_ | exact .nil | refine .cons ?_ ?_ | exact .d | exact .frzOf (by first | (simp; done) | decide) rfl rfl (fun _ => rfl) | fail)
    · have d3 : decide ((actM s slot c).kind = 2) = false := decide_eq_false k3
      have e : doneM s slot c r = (s, zUp) := by rw [doneM, if_neg (fun h => k1 h.1), if_neg k1, if_neg k3]
      rw [e]
      repeat' (first
        | (show VR _ _ _ (_ :: _) _ _ _; first | refine x_opF rfl (by first | exact True.intro | omega) ?_ | (show VR _ _ _ (⟨_, .call ⟨.value _, _, _⟩, _, _, _, _⟩ :: _) _ _ _; first | refine vr_callU [100, 102] (action_spec s slot c hck) (gk rfl) rfl (by (repeat' (first | exact .nil | refine .cons ?_ ?_ | exact .of0 (.c .d) | exact .of0 .ep | exact .clo | exact (w_ar (by simp) rfl .d (cr_rowO (by simp) rfl rfl (fun _ => rfl))) | exact .of0 (.c .nil) | exact .of0 (.c (cr_rowO (by simp) rfl (by first | rfl | omega) (fun _ => rfl))) | refine .of0 (.agg ?_) | exact .d | exact .nil | exact .of0 (.c (cr_row (by decide) rfl rfl (by repeat' (first | exact trivial | refine ⟨?_, ?_⟩ | rfl)))))) <;> fail) (by first | rfl | exact hfl_O (fun _ => rfl) | exact hfl_O2 rfl (fun _ => rfl)) rfl (by first | rfl | (simp only [wfRes, wfL, wfArgs, wfs, mpO_namesB, mpO_namesI]; rfl)) rfl (by first | exact newB_nil | exact newB_O | ((simp only [newB, List.map_cons, List.map_nil, Blk.shift, rowOf_shift]) <;> rfl) | rfl) rfl ?_) | (show VR _ _ _ (⟨_, .nilCheck _, _, _, _, _⟩ :: _) _ _ _; first | refine vr_nilCheck_ptr (gk rfl) rfl rfl ?_) | refine x_gknow rfl (by assumption) ?_)
        | (show VR _ _ _ [] _ _ _; first | refine vr_nil ?_ | refine vr_nil_t (by kernel_rfl) ?_)
        | (show thenQ _ _ _ _; first | refine q_then_n ?_)
        | (show blockQ _ _ _ _; first | refine q_blk_n ?_)
        | refine vc_seq ?_
        | refine vc_region ?_ | refine vc_region_t ?_
        | (show VC _ (.cond _ _ _) _ _; first | refine vc_cond_f rfl ?_ | refine x_know rfl (by assumption) ?_)
        | refine vc_ret ?_ | refine vc_block ?_ | refine vc_skip ?_
        | fail)
      refine retL_of (le_gen (l := [(6, .c (.ptr 6 0)), (7, .c (.ptr 7 0)), (8, AI 0)]) (b := [(6, .box s.cs), (7, .box zUp.cs)]) (fun n => n) [102] hS ?_ ?_ rfl (by first | rfl | (simp only [wfL, wfs, mpO_namesB, mpO_namesI]; rfl))) (ret_agg_agg_dL isRet_r rfl rfl rfl rfl rfl rfl rfl rfl rfl rfl rfl rfl)
      all_goals repeat' (first | exact trivial | refine ⟨⟨_, rfl, ?_⟩, ?_⟩ | exact .c .d | exact .c (.ptr rfl) | exact .boxD rfl rfl | refine .box ?_ | exact .nil | refine .cons ?_ ?_ | exact .d | exact .frzOf (by first | (simp; done) | decide) rfl rfl (fun _ => rfl) | fail)
end Go.Proofs
