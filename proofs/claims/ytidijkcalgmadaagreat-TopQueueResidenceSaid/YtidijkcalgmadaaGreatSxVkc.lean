/-
  What functions of the given program hand back, by walks over its code, and plain laws on that. No condition.
-/
import Derived.Test.YtidijkcalgmadaaGreatSxVkb
-- SXS
-- SXM
-- SXN
-- SXNX heldX_shift
-- SXWF heldX_names hi
namespace Go.Proofs
open Go Go.Sx Go.Proofs.T Go.Proofs.Q
set_option maxRecDepth 4000
set_option linter.unusedSimpArgs false
set_option linter.unusedVariables false
attribute [local irreducible] VR VC thenQ blockQ retL

set_option maxHeartbeats 2000000 in
theorem start_specO (s : Sta) (slot : Int) (hck : checkS s = 0) (hs : 0 ≤ slot ∧ slot ≤ 109951162) (i : Nat) (hi : i < s.held.length) : FnS Tryz.prog 41 [stA s, AI slot] [] (.tup [.c (.ptr 100 0), AI 0]) [(100, .box (wcs s (.row 101 s.held.length) (.row 102 s.seen.length) slot (atM s.tb slot).1)), (101, .row 114 5 (heldX s.held i 103)), (102, .row 186 2 (rowOf Sn.enc s.seen)), (103, .row 3 1 (rowOf IntE.enc (s.held.getD i default).acked))] := by
  have hc := checkS_spec s
  rw [hck] at hc
  have d1 : (!decide (0 ≤ slot ∧ slot ≤ 109951162)) = false := by simp only [Bool.not_eq_false', decide_eq_true_eq]; exact hs
  refine FnS.of_body (enters_of Tryz.func41 (by kernel_rfl) rfl) Tryz.func41 rfl Tryz.ntmps41 Tryz.results41 rfl rfl rfl rfl fun E hS => ?_
  refine vc_retL ?_
  repeat' (first
    | (show VR _ _ _ (_ :: _) _ _ _; first | refine x_opF rfl (by first | exact True.intro | omega) ?_ | (show VR _ _ _ (⟨_, .call ⟨.value _, _, _⟩, _, _, _, _⟩ :: _) _ _ _; first | refine vr_calldU (hc) (gk rfl) rfl rfl rfl (by first | rfl | (simp only [wfRes, wfL, wfArgs, wfs, heldX_names hi, mpO_namesB, mpO_namesI]; rfl)) rfl (by first | exact newB_nil | exact newB_O | ((simp only [newB, List.map_cons, List.map_nil, Blk.shift, rowOf_shift, heldX_shift]) <;> rfl) | rfl) rfl ?_ | refine vr_calldU (mwithin_spec _ _) (gk rfl) rfl rfl rfl (by first | rfl | (simp only [wfRes, wfL, wfArgs, wfs, heldX_names hi, mpO_namesB, mpO_namesI]; rfl)) rfl (by first | exact newB_nil | exact newB_O | ((simp only [newB, List.map_cons, List.map_nil, Blk.shift, rowOf_shift, heldX_shift]) <;> rfl) | rfl) rfl ?_ | refine vr_calldU (clone_specO s hck i hi) (gk rfl) rfl rfl rfl (by first | rfl | (simp only [wfRes, wfL, wfArgs, wfs, heldX_names hi, mpO_namesB, mpO_namesI]; rfl)) rfl (by first | exact newB_nil | exact newB_O | ((simp only [newB, List.map_cons, List.map_nil, Blk.shift, rowOf_shift, heldX_shift]) <;> rfl) | rfl) rfl ?_ | refine vr_calldU (at_spec s.tb slot) (gk rfl) rfl rfl rfl (by first | rfl | (simp only [wfRes, wfL, wfArgs, wfs, heldX_names hi, mpO_namesB, mpO_namesI]; rfl)) rfl (by first | exact newB_nil | exact newB_O | ((simp only [newB, List.map_cons, List.map_nil, Blk.shift, rowOf_shift, heldX_shift]) <;> rfl) | rfl) rfl ?_) | (show VR _ _ _ (⟨_, .nilCheck _, _, _, _, _⟩ :: _) _ _ _; first | refine vr_nilCheck_ptr (gk rfl) rfl rfl ?_))
    | (show VR _ _ _ [] _ _ _; first | refine vr_nil ?_)
    | (show thenQ _ _ _ _; first | refine q_then_n ?_)
    | refine vc_seq ?_
    | refine vc_region ?_
    | (show VC _ (.cond _ _ _) _ _; first | refine vc_cond_f rfl ?_ | refine x_know rfl (by assumption) ?_)
    | refine vc_ret ?_ | refine vc_skip ?_
    | fail)
  refine retL_of (le_gen0 (l := [(4, .c (.ptr 100 0)), (5, AI 0)]) (b := [(100, .box (wcs s (.row 101 s.held.length) (.row 102 s.seen.length) slot (atM s.tb slot).1)), (101, .row 114 5 (heldX s.held i 103)), (102, .row 186 2 (rowOf Sn.enc s.seen)), (103, .row 3 1 (rowOf IntE.enc (s.held.getD i default).acked))]) (fun n => if n = 100 then 17 else if n = 101 then 14101 else if n = 102 then 14102 else if n = 103 then 14103 else n) ?_ ?_ rfl (by first | rfl | (simp only [wfL, wfs, mpO_namesB, mpO_namesI, heldX_names hi]; rfl))) (retW isRet_r (.tmp rfl rfl (.tmp rfl rfl .nil)) rfl (by repeat' (first | exact trivial | refine ⟨rfl, ?_⟩)))
  all_goals repeat' (first | exact trivial | refine ⟨⟨_, rfl, ?_⟩, ?_⟩ | exact .c .d | exact .c (.ptr rfl) | exact .rowD rfl rowOf_isD | refine .box ?_ | exact .nil | refine .cons ?_ ?_ | exact .d | exact .row rfl rfl | fail)
  exact bw_X hi rfl

/-! What a frame of a flow that is sent tells. -/
theorem act_data {s : Sta} {slot : Int} {c : TC} (h1 : (actM s slot c).kind = 1) (h2 : (actM s slot c).fkind = 1) :
    c.kind = 1 ∧ c.send = true ∧ ∃ i, heldI s.held c.flow = some i ∧ ¬ (s.held.getD i default).til < slot ∧ ((s.held.getD i default).acked.any fun y => decide (c.peer = y)) = false ∧ actM s slot c = { datA s c (s.held.getD i default) with offset := c.offset } := by
  have hz : ∀ a : Ac, (offA a c.offset).kind = a.kind := fun a => by unfold offA; split <;> rfl
  have hf : ∀ a : Ac, (offA a c.offset).fkind = a.fkind := fun a => by unfold offA; split <;> rfl
  unfold actM at h1 h2 ⊢
  rw [hz] at h1
  rw [hf] at h2
  unfold rawA at h1 h2 ⊢
  by_cases k1 : c.kind = 1
  · rw [if_pos k1] at h1 h2 ⊢
    unfold ctlA at h1 h2 ⊢
    cases hsd : c.send with
    | false => rw [hsd, if_pos rfl] at h1; cases h1
    | true =>
      rw [hsd, if_neg (by simp)] at h1 h2
      rw [if_neg (by simp)]
      cases hh : heldI s.held c.flow with
      | none => rw [hh] at h1; cases h1
      | some i =>
        rw [hh] at h1 h2
        dsimp only at h1 h2 ⊢
        split at h1
        · cases h1
        · rename_i hn
          have h3 : ¬ (s.held.getD i default).til < slot := fun h => hn (.inl h)
          have h4 : ((s.held.getD i default).acked.any fun y => decide (c.peer = y)) = false := by
            cases h : (s.held.getD i default).acked.any fun y => decide (c.peer = y) with
            | true => exact absurd (.inr h) hn
            | false => rfl
          refine ⟨k1, rfl, i, rfl, h3, h4, ?_⟩
          rw [if_neg hn]
          exact offA_neg (by intro h; cases h)
  · rw [if_neg k1] at h1 h2
    by_cases k2 : c.kind = 2
    · rw [if_pos k2] at h1 h2
      unfold agrA at h1 h2
      split at h1
      · cases h1
      · rename_i hsd
        rw [if_neg hsd] at h2
        split at h1
        · rename_i hq; rw [if_pos hq] at h2; cases h2
        · cases h1
    · rw [if_neg k2] at h1 h2
      by_cases k3 : c.kind = 3
      · rw [if_pos k3] at h1 h2
        unfold shrA at h1 h2
        split at h1
        · rename_i hq; rw [if_pos hq] at h2; cases h2
        · cases h1
      · rw [if_neg k3] at h1; cases h1
theorem bw_out {σ : St} {f : Nat → Nat} {L : List Nat} {T i nm : Nat} {l : List Hd} {c c0 : C} {x : List Int} (hi : i < l.length) (hc : CW σ f L c (.d (ints x))) :
    BW σ f L (.row T 5 ((heldX l i nm).set i (putC (cellX (l.getD i default) c0) 4 [c]))) (.row T 5 (rowOf Hd.enc (l.set i { l.getD i default with acked := x }))) := by
  unfold heldX
  rw [set_set']
  refine bw_cells (by simp [rowOf_length]) fun j hj a b ha hb => ?_
  rw [rowOf_length, List.length_set] at hj
  rw [rowOf_get (by rw [List.length_set]; exact hj)] at hb
  by_cases hji : j = i
  · subst hji
    rw [set_get (rowOf_get hi)] at ha
    rw [List.getD_eq_getElem?_getD, List.getElem?_set_self hi] at hb
    injection ha with ha; subst ha
    injection hb with hb; subst hb
    exact .cons .d (.cons .d (.cons .d (.cons .d (.cons hc .nil))))
  · rw [List.getElem?_set_ne (fun e => hji e.symm), rowOf_get hj] at ha
    rw [List.getD_eq_getElem?_getD, List.getElem?_set_ne (fun e => hji e.symm), ← List.getD_eq_getElem?_getD] at hb
    injection ha with ha; subst ha
    injection hb with hb; subst hb
    exact enc_refl _
set_option maxHeartbeats 4000000 in
theorem done_ack (s : Sta) (slot : Int) (r : Rs) (hck : checkS s = 0) (hs : 0 ≤ slot ∧ slot ≤ 109951162) (k1 : (actM s slot (atM s.tb slot).1).kind = 1) (k2 : (actM s slot (atM s.tb slot).1).fkind = 1) (hac : r.acked = true) :
    FnS Tryz.prog 13 [stA s, AI slot, rsA r] [] (.tup [stA (doneM s slot (atM s.tb slot).1 r).1, upA (doneM s slot (atM s.tb slot).1 r).2, AI 0]) [] := by
  have e : doneM s slot (atM s.tb slot).1 r = (ackM s (actM s slot (atM s.tb slot).1), zUp) := by rw [doneM, if_pos ⟨k1, k2⟩, if_pos hac]
  obtain ⟨_, _, i, hf, _, hna, ha⟩ := act_data k1 k2
  obtain ⟨hi, hfl, _⟩ := fstO_some hf
  have hfl := of_decide_eq_true hfl
  have hHl := (heldB_of (checkS_of hck).2.2.2.1).2 i hi
  have hrg := (rangesB_of hHl.1).2.2.2.2.2.2
  have hal := risingB_len hrg
  have hri : Rise id (s.held.getD i default).acked := rise_of fun j hj h0 => (risingB_of hrg j hj).2.2 h0
  have hst := start_specO s slot hck hs i hi
  have hao := action_spec s slot (atM s.tb slot).1 hck
  have hho := holds_spec s slot (atM s.tb slot).1 (actM s slot (atM s.tb slot).1).flow
  rw [e]
  generalize atM s.tb slot = ac at *
  obtain ⟨c, ok⟩ := ac
  dsimp only at *
  have hfw : (actM s slot c).flow = c.flow := by rw [ha]; exact hfl
  have htg : (actM s slot c).target = c.peer := by rw [ha]; rfl
  have hfd : fdK id (s.held.getD i default).acked (actM s slot c).target = false := by
    rw [fdK_any hri, htg]
    rw [← hna]
    exact congrArg (fun p => (s.held.getD i default).acked.any p) (funext fun y => decide_eq_decide.2 eq_comm)
  rw [hfw, hf] at hho
  have hho' : FnS Tryz.prog 43 [wP s slot c, AI c.flow] [] (AI (i : Nat)) [] := hho
  rw [← hfw] at hho'
  have d1 : decide ((actM s slot c).kind = 1) = true := decide_eq_true k1
  have d2 : decide ((actM s slot c).fkind = 1) = true := decide_eq_true k2
  have e1 : ackM s (actM s slot c) = { s with held := s.held.set i { s.held.getD i default with acked := updK id (s.held.getD i default).acked (actM s slot c).target } } := by
    rw [ackM, hfw, hf]
  rw [e1]
  have hins := ins_spec (s.held.getD i default).acked (actM s slot c).target (by omega) hri hfd
  have hul : (updK id (s.held.getD i default).acked (actM s slot c).target).length = (s.held.getD i default).acked.length + 1 := by
    have := updK_len (k := id) (x := (actM s slot c).target) hri
    rw [this, if_neg (by show ¬ fdK id _ (actM s slot c).target = true; rw [hfd]; simp)]
  refine FnS.of_body (enters_of Tryz.func13 (by kernel_rfl) rfl) Tryz.func13 rfl Tryz.ntmps13 Tryz.results13 rfl rfl rfl rfl fun E hS => ?_
  refine vc_retL ?_
  repeat' (first
    | (show VR _ _ _ (_ :: _) _ _ _; first | refine x_opF rfl (by first | exact True.intro | omega) ?_ | (show VR _ _ _ (⟨_, .call ⟨.value _, _, _⟩, _, _, _, _⟩ :: _) _ _ _; first | refine vr_calldU (hst) (gk rfl) rfl rfl rfl (by first | rfl | (simp only [wfRes, wfL, wfArgs, wfs, heldX_names hi, mpO_namesB, mpO_namesI]; rfl)) rfl (by first | exact newB_nil | exact newB_O | ((simp only [newB, List.map_cons, List.map_nil, Blk.shift, rowOf_shift, heldX_shift]) <;> rfl) | rfl) rfl ?_))
    | (show VR _ _ _ [] _ _ _; first | refine vr_nil ?_)
    | (show thenQ _ _ _ _; first | refine q_then_n ?_)
    | (show VC _ (.seq _ _) _ _; (fail_if_success (show VC _ (.seq (.seq (.region 4 _ _) _) _) _ _)); (fail_if_success (show VC _ (.seq (.region 4 _ _) _) _ _)); refine vc_seq ?_)
    | refine vc_region ?_
    | (show VC _ (.cond _ _ _) _ _; first | refine vc_cond_f rfl ?_)
    | refine vc_skip ?_
    | fail)
  refine VC.le (σ' := stOf [(5, .c (.ptr 5 0)), (6, .c (.ptr 6 0)), (7, .c (.ptr 7 0)), (8, AI 0), (9, .c (.ptr 100 0))] [(5, .box r.cs), (6, .box noS.cs), (7, .box zUp.cs), (100, .box (wcs s (.row 101 s.held.length) (.row 102 s.seen.length) slot c)), (101, .row 114 5 (heldX s.held i 103)), (102, .row 186 2 (rowOf Sn.enc s.seen)), (103, .row 3 1 (rowOf IntE.enc (s.held.getD i default).acked))]) ?_ ?_
  · refine le_gen0 (fun n => if n = 100 then 19100 else if n = 102 then 19102 else if n = 101 then 19101 else if n = 103 then 19103 else n) ?_ ?_ rfl (by first | rfl | (simp only [wfL, wfs, mpO_namesB, mpO_namesI, heldX_names hi]; rfl))
    all_goals repeat' (first | exact trivial | refine ⟨⟨_, rfl, ?_⟩, ?_⟩ | exact .c .d | exact .c (.ptr rfl) | exact .boxD rfl rfl | exact .rowD rfl rowOf_isD | refine .box ?_ | exact .nil | refine .cons ?_ ?_ | exact .d | exact .row rfl rfl | fail)
    exact bw_X hi rfl
  repeat' (first
    | (show VR _ _ _ (_ :: _) _ _ _; first | (show VR _ _ _ (⟨_, .indexAddr _ _ _, _, _, _, _⟩ :: _) _ _ _; first | refine vr_index_row (gk rfl) rfl rfl rfl rfl rfl rfl (by omega) (heldX_len.symm ▸ hi) rfl ?_) | (show VR _ _ _ (⟨_, .load _ _, _, _, _, _⟩ :: _) _ _ _; first | refine vr_load_row (gk rfl) rfl rfl (heldX_at hi) rfl rfl rfl ?_) | (show VR _ _ _ (⟨_, .store _ _ _, _, _, _, _⟩ :: _) _ _ _; first | refine vr_store_row (gk rfl) rfl rfl rfl (heldX_at hi) rfl rfl rfl ?_) | refine x_opF rfl (by first | exact True.intro | omega) ?_ | (show VR _ _ _ (⟨_, .call ⟨.value _, _, _⟩, _, _, _, _⟩ :: _) _ _ _; first | refine vr_callU [100, 101, 102, 103] (hao) (gk rfl) rfl (by (repeat' (first | exact .nil | refine .cons ?_ ?_ | exact .of0 (.c .d) | exact .of0 .ep | exact .clo | exact (w_ar (by simp) rfl (cr_heldX hi (by simp) rfl (by simp) rfl rfl) (cr_rowO (by simp) rfl rfl (fun _ => rfl))) | exact .of0 (.c .nil) | exact .of0 (.c (cr_rowO (by simp) rfl (by first | rfl | omega) (fun _ => rfl))) | refine .of0 (.agg ?_) | exact .d | exact .nil | exact .of0 (.c (cr_row (by decide) rfl rfl (by repeat' (first | exact trivial | refine ⟨?_, ?_⟩ | rfl)))))) <;> fail) (by first | rfl | exact hfl_O (fun _ => rfl) | exact hfl_O2 rfl (fun _ => rfl)) rfl (by first | rfl | (simp only [wfRes, wfL, wfArgs, wfs, heldX_names hi, mpO_namesB, mpO_namesI]; rfl)) rfl (by first | exact newB_nil | exact newB_O | ((simp only [newB, List.map_cons, List.map_nil, Blk.shift, rowOf_shift, heldX_shift]) <;> rfl) | rfl) rfl ?_ | refine vr_callU [100, 101, 102, 103] (hho') (gk rfl) rfl (by (repeat' (first | exact .nil | refine .cons ?_ ?_ | exact .of0 (.c .d) | exact .of0 .ep | exact .clo | exact (w_ar (by simp) rfl (cr_heldX hi (by simp) rfl (by simp) rfl rfl) (cr_rowO (by simp) rfl rfl (fun _ => rfl))) | exact .of0 (.c .nil) | exact .of0 (.c (cr_rowO (by simp) rfl (by first | rfl | omega) (fun _ => rfl))) | refine .of0 (.agg ?_) | exact .d | exact .nil | exact .of0 (.c (cr_row (by decide) rfl rfl (by repeat' (first | exact trivial | refine ⟨?_, ?_⟩ | rfl)))))) <;> fail) (by first | rfl | exact hfl_O (fun _ => rfl) | exact hfl_O2 rfl (fun _ => rfl)) rfl (by first | rfl | (simp only [wfRes, wfL, wfArgs, wfs, heldX_names hi, mpO_namesB, mpO_namesI]; rfl)) rfl (by first | exact newB_nil | exact newB_O | ((simp only [newB, List.map_cons, List.map_nil, Blk.shift, rowOf_shift, heldX_shift]) <;> rfl) | rfl) rfl ?_ | refine vr_callMU [] (hins) (gk rfl) rfl rfl rowOf_isD rfl (by (repeat' (first | exact .nil | refine .cons ?_ ?_ | exact .of0 (.c .d) | exact .of0 .ep | exact .clo | exact (w_ar (by simp) rfl (cr_heldX hi (by simp) rfl (by simp) rfl rfl) (cr_rowO (by simp) rfl rfl (fun _ => rfl))) | exact .of0 (.c .nil) | exact .of0 (.c (cr_rowO (by simp) rfl (by first | rfl | omega) (fun _ => rfl))) | refine .of0 (.agg ?_) | exact .d | exact .nil | exact .of0 (.c (cr_row (by decide) rfl rfl (by repeat' (first | exact trivial | refine ⟨?_, ?_⟩ | rfl)))))) <;> fail) rfl (by first | rfl | exact hfl_O (fun _ => rfl) | exact hfl_O2 rfl (fun _ => rfl)) rfl (by first | rfl | (simp only [wfRes, wfL, wfArgs, wfs, heldX_names hi, mpO_namesB, mpO_namesI]; rfl)) rfl (by first | exact newB_nil | exact newB_O | ((simp only [newB, List.map_cons, List.map_nil, Blk.shift, rowOf_shift, heldX_shift]) <;> rfl) | rfl) rfl ?_) | (show VR _ _ _ (⟨_, .nilCheck _, _, _, _, _⟩ :: _) _ _ _; first | refine vr_nilCheck_rp (gk rfl) rfl rfl ?_ | refine vr_nilCheck_ptr (gk rfl) rfl rfl ?_) | refine x_gknow rfl (by assumption) ?_)
    | (show VR _ _ _ [] _ _ _; first | refine vr_nil ?_ | refine vr_nil_t (by kernel_rfl) ?_)
    | (show thenQ _ _ _ _; first | refine q_then_n ?_)
    | (show blockQ _ _ _ _; first | refine q_blk_n ?_)
    | refine vc_seq ?_
    | refine vc_region ?_ | refine vc_region_t ?_
    | (show VC _ (.cond _ _ _) _ _; first | refine vc_cond_t rfl ?_ | refine x_know rfl (by assumption) ?_)
    | refine vc_ret ?_ | refine vc_block ?_
    | fail)
  refine retL_le (σ1 := stOf [(6, .c (.ptr 6 0)), (7, .c (.ptr 7 0)), (8, AI 0)] [(6, .box (s.csR (.row 101 s.held.length) (.row 102 s.seen.length))), (7, .box zUp.cs), (101, .row 114 5 (rowOf Hd.enc (s.held.set i { s.held.getD i default with acked := updK id (s.held.getD i default).acked (actM s slot c).target }))), (102, .row 186 2 (rowOf Sn.enc s.seen))]) ?_ ?_
  · refine le_gen (fun n => n) [61001] hS ?_ ?_ rfl (by first | rfl | (simp only [wfL, wfs, mpO_namesB, mpO_namesI, heldX_names hi]; rfl))
    all_goals repeat' (first | exact trivial | refine ⟨⟨_, rfl, ?_⟩, ?_⟩ | exact .c .d | exact .c (.ptr rfl) | exact .boxD rfl rfl | exact .rowD rfl rowOf_isD | refine .box ?_ | exact .nil | refine .cons ?_ ?_ | exact .d | exact .row rfl rfl | fail)
    exact bw_out hi (.frzOf (enc := IntE.enc) (by simp) rfl hul.symm (fun _ => rfl))
  refine retL_of (le_gen (l := [(6, .c (.ptr 6 0)), (7, .c (.ptr 7 0)), (8, AI 0)]) (b := [(6, .box (Sta.cs { s with held := s.held.set i { s.held.getD i default with acked := updK id (s.held.getD i default).acked (actM s slot c).target } })), (7, .box zUp.cs)]) (fun n => n) [101, 102] hS ?_ ?_ rfl (by first | rfl | (simp only [wfL, wfs, mpO_namesB, mpO_namesI, heldX_names hi]; rfl))) (ret_agg_agg_dL isRet_r rfl rfl rfl rfl rfl rfl rfl rfl rfl rfl rfl rfl)
  all_goals repeat' (first | exact trivial | refine ⟨⟨_, rfl, ?_⟩, ?_⟩ | exact .c .d | exact .c (.ptr rfl) | exact .boxD rfl rfl | refine .box ?_ | exact .nil | refine .cons ?_ ?_ | exact .d | exact .frzOf (by first | (simp; done) | decide) rfl rfl (fun _ => rfl) | (refine .frzOf (by first | (simp; done) | decide) rfl ?_ (fun _ => rfl); ((try dsimp only); first | rfl | omega | (simp only [lns] <;> omega)); done) | fail)
/-- Done, whatever comes. -/
theorem done_spec (s : Sta) (slot : Int) (r : Rs) : FnS Tryz.prog 13 [stA s, AI slot, rsA r] [] (.tup [stA (doneS s slot r).1, upA (doneS s slot r).2.1, AI (doneS s slot r).2.2]) [] := by
  by_cases hck : checkS s = 0
  · by_cases hs : 0 ≤ slot ∧ slot ≤ 109951162
    · have e : doneS s slot r = ((doneM s slot (atM s.tb slot).1 r).1, (doneM s slot (atM s.tb slot).1 r).2, 0) := by rw [doneS, if_neg (by omega), if_neg (by omega)]
      rw [e]
      by_cases h : (actM s slot (atM s.tb slot).1).kind = 1 ∧ (actM s slot (atM s.tb slot).1).fkind = 1 ∧ r.acked = true
      · exact done_ack s slot r hck hs h.1 h.2.1 h.2.2
      · exact done_free s slot r hck hs h
    · have e : doneS s slot r = (noS, zUp, 2) := by rw [doneS, if_neg (by omega), if_pos (by omega)]
      rw [e]
      exact done_range s slot r hck hs
  · have e : doneS s slot r = (noS, zUp, 1) := by rw [doneS, if_pos hck]
    rw [e]
    exact done_arg s slot r hck
end Go.Proofs


