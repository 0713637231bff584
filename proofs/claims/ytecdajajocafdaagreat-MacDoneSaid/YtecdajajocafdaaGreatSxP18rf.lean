/-
  What functions of the given program hand back, by walks over its code, and plain laws on that. No condition.
-/
import Derived.Test.YtecdajajocafdaaGreatSxP18re
-- SXS
-- SXM
-- SXN
namespace Go.Proofs
open Go Go.Sx Go.Proofs.T Go.Proofs.Q
set_option maxRecDepth 4000
set_option linter.unusedSimpArgs false
set_option linter.unusedVariables false
attribute [local irreducible] VR VC thenQ blockQ retL

theorem part_rows {A : List Int} {k : Nat} (h : k ≤ A.length) : ((List.range (A.length - k)).map fun i => (List.range 1).map fun j => C.d (((fun x : Int => [D.int .i64 x]) (A.getD (k + i) default)).getD j .nils)) = rowOf IntE.enc (A.drop k) := by
  have := rd_rowOf (enc := IntE.enc) (sz := 1) (fun _ => rfl) (l := A.drop k)
  rw [← this, List.length_drop]
  refine List.map_congr_left fun i hi => ?_
  have e : (A.drop k).getD i default = A.getD (k + i) default := by
    rw [List.getD_eq_getElem?_getD, List.getElem?_drop, ← List.getD_eq_getElem?_getD]
  rw [e]
abbrev cloneRows (l : List Hd) : List (List C) := List.map (Prod.snd : Nat × List C → List C) [] ++ (List.range l.length).map fun i => (List.range 5).map fun j => C.d ((Hd.enc (l.getD i default)).getD j .nils)
theorem cloneRows_eq (l : List Hd) : cloneRows l = rowOf Hd.enc l := (List.nil_append _).trans (rd_rowOf (enc := Hd.enc) (sz := 5) fun _ => rfl)
theorem clone_get {l : List Hd} {i : Nat} (hi : i < l.length) : (cloneRows l)[i]? = some ((Hd.enc (l.getD i default)).map C.d) := by rw [cloneRows_eq, rowOf_get hi]
theorem clone_set {l : List Hd} {i : Nat} {h : Hd} {c : List C} (hc : c = h.cs) : (cloneRows l).set i c = rowOf Hd.enc (l.set i h) := by
  rw [cloneRows_eq, hc]
  exact rowOf_set rfl
set_option maxHeartbeats 4000000 in
theorem r_done_spec (s : Sta) (slot : Int) (r : Rs) : FnS Tryz.prog 20 [stA s, AI slot, rsA r] [] (.tup [stA (doneS s slot r).1, upA (doneS s slot r).2.1, AI (doneS s slot r).2.2]) [] := by
  have hac := r_act_spec s slot
  refine FnS.of_body (enters_of Tryz.func20 (by kernel_rfl) rfl) Tryz.func20 rfl Tryz.ntmps20 Tryz.results20 rfl rfl rfl rfl fun E hS => ?_
  refine vc_retL ?_
  by_cases hck : checkS s = 0
  · by_cases hs : 0 ≤ slot ∧ slot ≤ 109951162
    · have e : doneS s slot r = ((doneM s slot (atM s.tb slot).1 r).1, (doneM s slot (atM s.tb slot).1 r).2, 0) := by rw [doneS, if_neg (by omega), if_neg (by omega)]
      have ea : actS s slot = (actM s slot (atM s.tb slot).1, 0) := by rw [actS, if_neg (by omega), if_neg (by omega)]
      have hpl := r_planned_spec s slot hck
      have hno := @at_none s.tb slot
      obtain ⟨_, _, _, hH, hsn, _, hrb⟩ := checkS_of hck
      have hrb := restB_of hrb
      have hpw := (pow5 s.back).resolve_left (by omega) |>.resolve_left (by omega)
      rw [ea] at hac
      rw [e]
      generalize atM s.tb slot = ac at hac hpl hno ⊢
      obtain ⟨c, ok⟩ := ac
      dsimp only at hac hpl hno ⊢
      have hXa : (planM s slot c ok).a = actM s slot c := by
        cases ok with
        | true => rfl
        | false => rw [hno rfl, actM_noC]; rfl
      have hok : (actM s slot c).kind ≠ 0 → planM s slot c ok = ⟨actM s slot c, c, (planP s c).1, (planP s c).2⟩ := fun h => by
        cases ok with
        | true => rfl
        | false => rw [hno rfl, actM_noC] at h; exact absurd rfl h
      generalize planM s slot c ok = X at hpl hXa hok
      repeat' (first
        | (show VR _ _ _ (_ :: _) _ _ _; first | refine x_opF rfl (by first | exact True.intro | omega) ?_ | (show VR _ _ _ (⟨_, .call ⟨.value _, _, _⟩, _, _, _, _⟩ :: _) _ _ _; first | refine vr_calldU (hac) (gk rfl) rfl rfl rfl (by first | rfl | (simp only [wfRes, wfL, wfArgs, wfs, mpO_namesB, mpO_namesI]; rfl)) rfl (by first | exact newB_nil | exact newB_O | ((simp only [newB, List.map_cons, List.map_nil, Blk.shift, rowOf_shift]) <;> rfl) | rfl) rfl ?_ | refine vr_calldU (hpl) (gk rfl) rfl rfl rfl (by first | rfl | (simp only [wfRes, wfL, wfArgs, wfs, mpO_namesB, mpO_namesI]; rfl)) rfl (by first | exact newB_nil | exact newB_O | ((simp only [newB, List.map_cons, List.map_nil, Blk.shift, rowOf_shift]) <;> rfl) | rfl) rfl ?_))
        | (show VR _ _ _ [] _ _ _; first | refine vr_nil ?_)
        | (show thenQ _ _ _ _; first | refine q_then_n ?_)
        | (show VC _ (.seq _ _) _ _; (fail_if_success (show VC _ (.seq (.seq (.region 5 _ _) _) _) _ _)); (fail_if_success (show VC _ (.seq (.region 5 _ _) _) _ _)); refine vc_seq ?_)
        | refine vc_region ?_
        | (show VC _ (.cond _ _ _) _ _; first | refine vc_cond_f rfl ?_)
        | refine vc_skip ?_
        | fail)
      refine VC.le (σ' := stOf [(3, .c (.ptr 3 0)), (5, .c (.ptr 5 0)), (6, .c (.ptr 6 0)), (7, .c (.ptr 7 0)), (11, .c (.ptr 11 0))] [(3, .box s.cs), (5, .box r.cs), (6, .box noS.cs), (7, .box zUp.cs), (11, .box X.cs)]) ?_ ?_
      · refine le_gen0 (fun n => n) ?_ ?_ rfl (by first | rfl | (simp only [wfL, wfs, mpO_namesB, mpO_namesI]; rfl))
        all_goals repeat' (first | exact trivial | refine ⟨⟨_, rfl, ?_⟩, ?_⟩ | exact .c (.ptr rfl) | exact .boxD rfl rfl | refine .box ?_ | exact .nil | refine .cons ?_ ?_ | exact .d | fail)
      by_cases k1 : (actM s slot c).kind = 1
      · have hX := hok (by omega)
        have d1 : decide (X.a.kind = 1) = true := decide_eq_true (by rw [hXa]; exact k1)
        by_cases k2 : (actM s slot c).fkind = 1
        · obtain ⟨kc, ksd, i, hf, hti, hna, ha⟩ := act_data k1 k2
          obtain ⟨hi, hfl, _⟩ := fstO_some hf
          have hfl := of_decide_eq_true hfl
          have dsm : X.some = false := by rw [hX, data_plan kc]
          have hXc : X.c = c := by rw [hX]
          cases hra : r.acked with
          | false =>
            have e2 : doneM s slot c r = (s, zUp) := by rw [doneM, if_pos ⟨k1, k2⟩, if_neg (by rw [hra]; simp)]
            rw [e2]
            repeat' (first
              | (show VR _ _ _ (_ :: _) _ _ _; first | refine x_opF rfl (by first | exact True.intro | omega) ?_)
              | (show VR _ _ _ [] _ _ _; first | refine vr_nil ?_)
              | (show thenQ _ _ _ _; first | refine q_then_n ?_ | refine q_then_r ?_)
              | refine vc_seq ?_
              | refine vc_region ?_
              | (show VC _ (.cond _ _ _) _ _; first | refine vc_cond_t rfl ?_ | refine vc_cond_f rfl ?_ | refine x_know rfl (by assumption) ?_)
              | refine vc_ret ?_ | refine vc_skip ?_
              | fail)
            refine retL_of (le_gen0 (l := [(6, .c (.ptr 6 0)), (7, .c (.ptr 7 0)), (8, AI 0)]) (b := [(6, .box s.cs), (7, .box zUp.cs)]) (fun n => n) ?_ ?_ rfl (by first | rfl | (simp only [wfL, wfs, mpO_namesB, mpO_namesI]; rfl))) (ret_agg_agg_dL isRet_r rfl rfl rfl rfl rfl rfl rfl rfl rfl rfl rfl rfl)
            all_goals repeat' (first | exact trivial | refine ⟨⟨_, rfl, ?_⟩, ?_⟩ | exact .c .d | exact .c (.ptr rfl) | exact .boxD rfl rfl | fail)
          | true =>
            have e2 : doneM s slot c r = (ackM s (actM s slot c), zUp) := by rw [doneM, if_pos ⟨k1, k2⟩, if_pos hra]
            have hix := r_index_spec s c.flow
            rw [hf] at hix
            have hix' : FnS Tryz.prog 62 [stA s, AI c.flow] [] (AI (i : Nat)) [] := hix
            rw [← hXc] at hix'
            have hHl := (heldB_of hH).2 i hi
            have hhl := (heldB_of hH).1
            have hrg := (rangesB_of hHl.1).2.2.2.2.2.2
            have hal := risingB_len hrg
            have hri : Rise id (s.held.getD i default).acked := rise_of fun j hj h0 => (risingB_of hrg j hj).2.2 h0
            have hnn : ∀ j, j < (s.held.getD i default).acked.length → ¬ (s.held.getD i default).acked.getD j default = X.c.peer := fun j hj he => by
              have := (List.any_eq_false.1 hna) _ (getD_mem hj)
              rw [he, hXc] at this
              simp at this
            have hfw : (actM s slot c).flow = c.flow := by rw [ha]; exact hfl
            have htg : (actM s slot c).target = X.c.peer := by rw [ha, hXc]; rfl
            have e1 : ackM s (actM s slot c) = { s with held := s.held.set i { s.held.getD i default with acked := updK id (s.held.getD i default).acked X.c.peer } } := by
              rw [ackM, hfw, hf, htg]
            rw [e2, e1]
            repeat' (first
              | (show VR _ _ _ (_ :: _) _ _ _; first | refine x_opF rfl (by first | exact True.intro | omega) ?_ | (show VR _ _ _ (⟨_, .call ⟨.value _, _, _⟩, _, _, _, _⟩ :: _) _ _ _; first | refine vr_calldU (hix') (gk rfl) rfl rfl rfl (by first | rfl | (simp only [wfRes, wfL, wfArgs, wfs, mpO_namesB, mpO_namesI]; rfl)) rfl (by first | exact newB_nil | exact newB_O | ((simp only [newB, List.map_cons, List.map_nil, Blk.shift, rowOf_shift]) <;> rfl) | rfl) rfl ?_) | (show VR _ _ _ (⟨_, .indexAddr _ _ _, _, _, _, _⟩ :: _) _ _ _; first | refine vr_index_rd (gk rfl) rfl rfl rfl rfl rfl (by omega) rfl ?_))
              | (show VR _ _ _ [] _ _ _; first | refine vr_nil ?_)
              | (show thenQ _ _ _ _; first | refine q_then_n ?_)
              | refine vc_seq ?_
              | refine vc_region ?_
              | (show VC _ (.cond _ _ _) _ _; first | refine vc_cond_t rfl ?_ | refine vc_cond_f rfl ?_ | refine x_know rfl (by assumption) ?_)
              | refine vc_block ?_ | refine vc_skip ?_
              | fail)
            refine VC.le (le_nil (t := 14) (nm := 45) (T := 3) (sz := 1) rfl rfl) ?_
            generalize hA : (s.held.getD i default).acked = A at hal hri hnn
            refine vc_loopI (ι := Nat) (fun k => stOf [(3, .c (.ptr 3 0)), (5, .c (.ptr 5 0)), (6, .c (.ptr 6 0)), (7, .c (.ptr 7 0)), (11, .c (.ptr 11 0)), (12, AI i), (13, .c (.ptr 13 0)), (14, .c (.row 45 (A.take k).length)), (15, AI k)]
              [(3, .box s.cs), (5, .box r.cs), (6, .box noS.cs), (7, .box zUp.cs), (11, .box X.cs), (13, .box (s.held.getD i default).cs), (45, .row 3 1 (rowOf IntE.enc (A.take k)))])
              (fun k => k ≤ A.length ∧ ∀ a, a < k → A.getD a default < X.c.peer) (fun k => A.length - k) 0 ⟨Nat.zero_le _, fun i hi => absurd hi (Nat.not_lt_zero _)⟩ ?_ ?_
            · refine le_gen0 (fun n => n) ?_ ?_ rfl (by first | rfl | (simp only [wfL, wfs, mpO_namesB, mpO_namesI]; rfl))
              all_goals repeat' (first | exact trivial | refine ⟨⟨_, rfl, ?_⟩, ?_⟩ | exact .c .d | exact .c (.ptr rfl) | exact .c (.row rfl rfl) | exact .boxD rfl rfl | exact .rowD rfl rowOf_isD | fail)
            · intro k hk
              subst hA
              have htl : ((s.held.getD i default).acked.take k).length ≤ 32 := by rw [List.length_take]; omega
              rcases Nat.lt_or_ge k (s.held.getD i default).acked.length with hlt | hge
              · have dlt : decide ((k : Int) < ((s.held.getD i default).acked.length : Int)) = true := decide_eq_true (by omega)
                by_cases hfl2 : (s.held.getD i default).acked.getD k default < X.c.peer
                · have d2 : decide ((s.held.getD i default).acked.getD k default < X.c.peer) = true := decide_eq_true hfl2
                  repeat' (first
                    | (show VR _ _ _ (_ :: _) _ _ _; first | refine x_opF rfl (by first | exact True.intro | omega) ?_ | (show VR _ _ _ (⟨_, .indexAddr _ _ _, _, _, _, _⟩ :: _) _ _ _; first | refine vr_index_rd (gk rfl) rfl rfl rfl rfl rfl (by omega) rfl ?_) | (show VR _ _ _ (⟨_, .call ⟨.builtin .append, _, _⟩, _, _, _, _⟩ :: _) _ _ _; first | refine vr_append0 (gk rfl) rfl rfl rfl (by first | rfl | exact rowOf_length.symm | (simp only [lns] <;> omega)) (by first | exact .row rfl (by first | rfl | exact rowOf_length.symm) | exact .rd | exact .nils) rfl rfl rfl (by (try dsimp only); omega) rfl rfl ?_) | refine x_gknow rfl (by assumption) ?_)
                    | (show VR _ _ _ [] _ _ _; first | refine vr_nil ?_ | refine vr_nil_t (by kernel_rfl) ?_)
                    | (show thenQ _ _ _ _; first | refine q_then_n ?_)
                    | (show blockQ _ _ _ _; first | refine q_blk_n ?_)
                    | refine vc_seq ?_
                    | refine vc_region ?_ | refine vc_region_t ?_
                    | (show VC _ (.cond _ _ _) _ _; first | refine vc_cond_t rfl ?_ | refine x_know rfl (by assumption) ?_)
                    | refine vc_block ?_ | refine vc_skip ?_
                    | fail)
                  refine ⟨k + 1, ⟨by omega, fun a ha => ?_⟩, by omega, ?_⟩
                  · by_cases hak : a < k
                    · exact hk.2 a hak
                    · rw [show a = k by omega]; exact hfl2
                  · rw [Go.Sx.take_getD hlt]
                    refine le_gen0 (fun n => if n = 45 then 81 else n) ?_ ?_ rfl (by first | rfl | (simp only [wfL, wfs, mpO_namesB, mpO_namesI]; rfl))
                    all_goals repeat' (first | exact trivial | refine ⟨⟨_, rfl, ?_⟩, ?_⟩ | exact .c .d | exact .c (.ptr rfl) | (refine .c (.row rfl ?_); ((try dsimp only); first | rfl | omega | (simp only [lns] <;> omega)); done) | exact .boxD rfl rfl | (refine .rowD ?_ rowOf_isD; rw [rowOf_append]; rfl) | fail)
                · have d2 : decide ((s.held.getD i default).acked.getD k default < X.c.peer) = false := decide_eq_false hfl2
                  have hup : updK id (s.held.getD i default).acked X.c.peer = (s.held.getD i default).acked.take k ++ X.c.peer :: (s.held.getD i default).acked.drop k := by
                    refine updK_new hk.1 hk.2 fun a ha hl => ?_
                    rcases Nat.lt_or_ge k a with h3 | h3
                    · have h4 := hri k a h3 hl
                      simp only [id] at h4 ⊢
                      omega
                    · have h4 := hnn k hlt
                      rw [show a = k by omega]
                      simp only [id]
                      omega
                  have hNl : (updK id (s.held.getD i default).acked X.c.peer).length = ((s.held.getD i default).acked.take k).length + 1 + ((s.held.getD i default).acked.length - k) := by
                    rw [hup, List.length_append, List.length_cons, List.length_drop]; omega
                  repeat' (first
                    | (show VR _ _ _ (_ :: _) _ _ _; first | refine x_opF rfl (by first | exact True.intro | omega) ?_ | (show VR _ _ _ (⟨_, .indexAddr _ _ _, _, _, _, _⟩ :: _) _ _ _; first | refine vr_index_rd (gk rfl) rfl rfl rfl rfl rfl (by omega) rfl ?_) | (show VR _ _ _ (⟨_, .call ⟨.builtin .append, _, _⟩, _, _, _, _⟩ :: _) _ _ _; first | refine vr_append0 (gk rfl) rfl rfl rfl (by first | rfl | exact rowOf_length.symm | (simp only [lns] <;> omega)) (by first | exact .row rfl (by first | rfl | exact rowOf_length.symm) | exact .rd | exact .nils) rfl rfl rfl (by (try dsimp only); omega) rfl rfl ?_) | (show VR _ _ _ (⟨_, .slice _ _ _ _ _, _, _, _, _⟩ :: _) _ _ _; first | refine vr_slice_rd (gk rfl) rfl rfl rfl (by first | exact .no | exact .int rfl rfl | exact .nat rfl (by omega)) (by first | exact .no | exact .int rfl rfl | exact .nat rfl (by omega)) (by omega) (by omega) rfl ?_) | refine x_gknow rfl (by assumption) ?_)
                    | (show VR _ _ _ [] _ _ _; first | refine vr_nil_t (by kernel_rfl) ?_)
                    | (show thenQ _ _ _ _; first | refine q_then_n ?_ | refine q_then_x ?_)
                    | (show blockQ _ _ _ _; first | refine q_blk_x ?_)
                    | (show VC _ (.seq _ _) _ _; (fail_if_success (show VC _ (.seq (.seq (.region 17 _ _) _) _) _ _)); (fail_if_success (show VC _ (.seq (.region 17 _ _) _) _ _)); refine vc_seq ?_)
                    | refine vc_region_t ?_
                    | (show VC _ (.cond _ _ _) _ _; first | refine vc_cond_f rfl ?_ | refine x_know rfl (by assumption) ?_)
                    | refine vc_exit ?_
                    | fail)
                  refine VC.le (σ' := stOf [(3, .c (.ptr 3 0)), (5, .c (.ptr 5 0)), (6, .c (.ptr 6 0)), (7, .c (.ptr 7 0)), (11, .c (.ptr 11 0)), (12, AI i), (13, .c (.ptr 13 0)), (14, .c (.row 46 (updK id (s.held.getD i default).acked X.c.peer).length))]
                    [(3, .box s.cs), (5, .box r.cs), (6, .box noS.cs), (7, .box zUp.cs), (11, .box X.cs), (13, .box (s.held.getD i default).cs), (46, .row 3 1 (rowOf IntE.enc (updK id (s.held.getD i default).acked X.c.peer)))]) ?_ ?_
                  · rw [hNl]
                    refine le_gen0 (fun n => if n = 46 then 92 else n) ?_ ?_ rfl (by first | rfl | (simp only [wfL, wfs, mpO_namesB, mpO_namesI]; rfl))
                    all_goals repeat' (first | exact trivial | refine ⟨⟨_, rfl, ?_⟩, ?_⟩ | exact .c .d | exact .c (.ptr rfl) | exact .c (.row rfl rfl) | exact .boxD rfl rfl | fail)
                    refine .rowD ?_ rowOf_isD
                    rw [hup, rowOf_append]
                    refine (List.append_assoc _ _ _).trans (congrArg (fun z => rowOf IntE.enc ((s.held.getD i default).acked.take k) ++ z) ?_)
                    exact congrArg (fun z => [C.d (D.int .i64 X.c.peer)] :: z) (part_rows hk.1)
                  refine VC.le (σ' := stOf [(3, .c (.ptr 3 0)), (5, .c (.ptr 5 0)), (6, .c (.ptr 6 0)), (7, .c (.ptr 7 0)), (11, .c (.ptr 11 0)), (12, AI i), (13, .c (.ptr 13 0)), (14, AD (ints (updK id (s.held.getD i default).acked X.c.peer)))]
                    [(3, .box s.cs), (5, .box r.cs), (6, .box noS.cs), (7, .box zUp.cs), (11, .box X.cs), (13, .box (s.held.getD i default).cs)]) ?_ ?_
                  · refine le_gen (fun n => n) [46] hS ?_ ?_ rfl (by first | rfl | (simp only [wfL, wfs, mpO_namesB, mpO_namesI]; rfl))
                    all_goals repeat' (first | exact trivial | refine ⟨⟨_, rfl, ?_⟩, ?_⟩ | exact .c .d | exact .c (.ptr rfl) | exact .c (.frzOf (by first | (simp; done) | decide) rfl rfl (fun _ => rfl)) | exact .boxD rfl rfl | fail)
                  repeat' (first
                    | (show VR _ _ _ (_ :: _) _ _ _; first | (show VR _ _ _ (⟨_, .store _ _ _, _, _, _, _⟩ :: _) _ _ _; first | refine vr_store_row (gk rfl) rfl rfl rfl (clone_get hi) rfl rfl rfl ?_) | refine x_opF rfl (by first | exact True.intro | omega) ?_ | (show VR _ _ _ (⟨_, .indexAddr _ _ _, _, _, _, _⟩ :: _) _ _ _; first | refine vr_index_rowN (gk rfl) rfl rfl rfl rfl rfl (by omega) (by first | rfl | exact rowOf_length.symm | (simp only [lns] <;> omega)) rfl ?_) | (show VR _ _ _ (⟨_, .call ⟨.builtin .append, _, _⟩, _, _, _, _⟩ :: _) _ _ _; first | refine vr_append0 (gk rfl) rfl rfl rfl (by first | rfl | exact rowOf_length.symm | (simp only [lns] <;> omega)) (by first | exact .row rfl (by first | rfl | exact rowOf_length.symm) | exact .rd | exact .nils) rfl rfl rfl (by (try dsimp only); omega) rfl rfl ?_))
                    | (show VR _ _ _ [] _ _ _; first | refine vr_nil ?_)
                    | (show thenQ _ _ _ _; first | refine q_then_n ?_ | refine q_then_r ?_)
                    | refine vc_seq ?_
                    | refine vc_region ?_
                    | refine vc_ret ?_
                    | fail)
                  refine retL_le (σ1 := stOf [(6, .c (.ptr 6 0)), (7, .c (.ptr 7 0)), (8, AI 0)] [(6, .box (s.csR (.row 101 (0 + s.held.length)) (.d (sns s.seen)))), (7, .box zUp.cs), (101, .row 67 5 (rowOf Hd.enc (s.held.set i { s.held.getD i default with acked := updK id (s.held.getD i default).acked X.c.peer })))]) ?_ ?_
                  · refine le_gen0 (fun n => if n = 101 then 98 else n) ?_ ?_ rfl (by first | rfl | (simp only [wfL, wfs, mpO_namesB, mpO_namesI]; rfl))
                    all_goals repeat' (first | exact trivial | refine ⟨⟨_, rfl, ?_⟩, ?_⟩ | exact .c .d | exact .c (.ptr rfl) | exact .boxD rfl rfl | refine .box ?_ | exact .nil | refine .cons ?_ ?_ | exact .d | exact .row rfl rfl | fail)
                    exact .rowD (clone_set rfl) rowOf_isD
                  refine retL_of (le_gen (l := [(6, .c (.ptr 6 0)), (7, .c (.ptr 7 0)), (8, AI 0)]) (b := [(6, .box (Sta.cs { s with held := s.held.set i { s.held.getD i default with acked := updK id (s.held.getD i default).acked X.c.peer } })), (7, .box zUp.cs)]) (fun n => n) [101] hS ?_ ?_ rfl (by first | rfl | (simp only [wfL, wfs, mpO_namesB, mpO_namesI]; rfl))) (ret_agg_agg_dL isRet_r rfl rfl rfl rfl rfl rfl rfl rfl rfl rfl rfl rfl)
                  all_goals repeat' (first | exact trivial | refine ⟨⟨_, rfl, ?_⟩, ?_⟩ | exact .c .d | exact .c (.ptr rfl) | exact .boxD rfl rfl | refine .box ?_ | exact .nil | refine .cons ?_ ?_ | exact .d | (refine .frzOf (by first | (simp; done) | decide) rfl ?_ (fun _ => rfl); ((try dsimp only); first | rfl | omega | (simp only [lns] <;> omega)); done) | fail)
              · have dlt : decide ((k : Int) < ((s.held.getD i default).acked.length : Int)) = false := decide_eq_false (by omega)
                have hup : updK id (s.held.getD i default).acked X.c.peer = (s.held.getD i default).acked.take k ++ X.c.peer :: (s.held.getD i default).acked.drop k := by
                  refine updK_new hk.1 hk.2 fun a ha hl => ?_
                  omega
                have hNl : (updK id (s.held.getD i default).acked X.c.peer).length = ((s.held.getD i default).acked.take k).length + 1 + ((s.held.getD i default).acked.length - k) := by
                  rw [hup, List.length_append, List.length_cons, List.length_drop]; omega
                repeat' (first
                  | (show VR _ _ _ (_ :: _) _ _ _; first | refine x_opF rfl (by first | exact True.intro | omega) ?_ | (show VR _ _ _ (⟨_, .call ⟨.builtin .append, _, _⟩, _, _, _, _⟩ :: _) _ _ _; first | refine vr_append0 (gk rfl) rfl rfl rfl (by first | rfl | exact rowOf_length.symm | (simp only [lns] <;> omega)) (by first | exact .row rfl (by first | rfl | exact rowOf_length.symm) | exact .rd | exact .nils) rfl rfl rfl (by (try dsimp only); omega) rfl rfl ?_) | (show VR _ _ _ (⟨_, .slice _ _ _ _ _, _, _, _, _⟩ :: _) _ _ _; first | refine vr_slice_rd (gk rfl) rfl rfl rfl (by first | exact .no | exact .int rfl rfl | exact .nat rfl (by omega)) (by first | exact .no | exact .int rfl rfl | exact .nat rfl (by omega)) (by omega) (by omega) rfl ?_) | refine x_gknow rfl (by assumption) ?_)
                  | (show VR _ _ _ [] _ _ _; first | refine vr_nil_t (by kernel_rfl) ?_)
                  | (show thenQ _ _ _ _; first | refine q_then_n ?_ | refine q_then_x ?_)
                  | (show blockQ _ _ _ _; first | refine q_blk_x ?_)
                  | (show VC _ (.seq _ _) _ _; (fail_if_success (show VC _ (.seq (.seq (.region 17 _ _) _) _) _ _)); (fail_if_success (show VC _ (.seq (.region 17 _ _) _) _ _)); refine vc_seq ?_)
                  | refine vc_region_t ?_
                  | (show VC _ (.cond _ _ _) _ _; first | refine vc_cond_f rfl ?_)
                  | refine vc_exit ?_
                  | fail)
                refine VC.le (σ' := stOf [(3, .c (.ptr 3 0)), (5, .c (.ptr 5 0)), (6, .c (.ptr 6 0)), (7, .c (.ptr 7 0)), (11, .c (.ptr 11 0)), (12, AI i), (13, .c (.ptr 13 0)), (14, .c (.row 46 (updK id (s.held.getD i default).acked X.c.peer).length))]
                  [(3, .box s.cs), (5, .box r.cs), (6, .box noS.cs), (7, .box zUp.cs), (11, .box X.cs), (13, .box (s.held.getD i default).cs), (46, .row 3 1 (rowOf IntE.enc (updK id (s.held.getD i default).acked X.c.peer)))]) ?_ ?_
                · rw [hNl]
                  refine le_gen0 (fun n => if n = 46 then 92 else n) ?_ ?_ rfl (by first | rfl | (simp only [wfL, wfs, mpO_namesB, mpO_namesI]; rfl))
                  all_goals repeat' (first | exact trivial | refine ⟨⟨_, rfl, ?_⟩, ?_⟩ | exact .c .d | exact .c (.ptr rfl) | exact .c (.row rfl rfl) | exact .boxD rfl rfl | fail)
                  refine .rowD ?_ rowOf_isD
                  rw [hup, rowOf_append]
                  refine (List.append_assoc _ _ _).trans (congrArg (fun z => rowOf IntE.enc ((s.held.getD i default).acked.take k) ++ z) ?_)
                  exact congrArg (fun z => [C.d (D.int .i64 X.c.peer)] :: z) (part_rows hk.1)
                refine VC.le (σ' := stOf [(3, .c (.ptr 3 0)), (5, .c (.ptr 5 0)), (6, .c (.ptr 6 0)), (7, .c (.ptr 7 0)), (11, .c (.ptr 11 0)), (12, AI i), (13, .c (.ptr 13 0)), (14, AD (ints (updK id (s.held.getD i default).acked X.c.peer)))]
                  [(3, .box s.cs), (5, .box r.cs), (6, .box noS.cs), (7, .box zUp.cs), (11, .box X.cs), (13, .box (s.held.getD i default).cs)]) ?_ ?_
                · refine le_gen (fun n => n) [46] hS ?_ ?_ rfl (by first | rfl | (simp only [wfL, wfs, mpO_namesB, mpO_namesI]; rfl))
                  all_goals repeat' (first | exact trivial | refine ⟨⟨_, rfl, ?_⟩, ?_⟩ | exact .c .d | exact .c (.ptr rfl) | exact .c (.frzOf (by first | (simp; done) | decide) rfl rfl (fun _ => rfl)) | exact .boxD rfl rfl | fail)
                repeat' (first
                  | (show VR _ _ _ (_ :: _) _ _ _; first | (show VR _ _ _ (⟨_, .store _ _ _, _, _, _, _⟩ :: _) _ _ _; first | refine vr_store_row (gk rfl) rfl rfl rfl (clone_get hi) rfl rfl rfl ?_) | refine x_opF rfl (by first | exact True.intro | omega) ?_ | (show VR _ _ _ (⟨_, .indexAddr _ _ _, _, _, _, _⟩ :: _) _ _ _; first | refine vr_index_rowN (gk rfl) rfl rfl rfl rfl rfl (by omega) (by first | rfl | exact rowOf_length.symm | (simp only [lns] <;> omega)) rfl ?_) | (show VR _ _ _ (⟨_, .call ⟨.builtin .append, _, _⟩, _, _, _, _⟩ :: _) _ _ _; first | refine vr_append0 (gk rfl) rfl rfl rfl (by first | rfl | exact rowOf_length.symm | (simp only [lns] <;> omega)) (by first | exact .row rfl (by first | rfl | exact rowOf_length.symm) | exact .rd | exact .nils) rfl rfl rfl (by (try dsimp only); omega) rfl rfl ?_))
                  | (show VR _ _ _ [] _ _ _; first | refine vr_nil ?_)
                  | (show thenQ _ _ _ _; first | refine q_then_n ?_ | refine q_then_r ?_)
                  | refine vc_seq ?_
                  | refine vc_region ?_
                  | refine vc_ret ?_
                  | fail)
                refine retL_le (σ1 := stOf [(6, .c (.ptr 6 0)), (7, .c (.ptr 7 0)), (8, AI 0)] [(6, .box (s.csR (.row 101 (0 + s.held.length)) (.d (sns s.seen)))), (7, .box zUp.cs), (101, .row 67 5 (rowOf Hd.enc (s.held.set i { s.held.getD i default with acked := updK id (s.held.getD i default).acked X.c.peer })))]) ?_ ?_
                · refine le_gen0 (fun n => if n = 101 then 98 else n) ?_ ?_ rfl (by first | rfl | (simp only [wfL, wfs, mpO_namesB, mpO_namesI]; rfl))
                  all_goals repeat' (first | exact trivial | refine ⟨⟨_, rfl, ?_⟩, ?_⟩ | exact .c .d | exact .c (.ptr rfl) | exact .boxD rfl rfl | refine .box ?_ | exact .nil | refine .cons ?_ ?_ | exact .d | exact .row rfl rfl | fail)
                  exact .rowD (clone_set rfl) rowOf_isD
                refine retL_of (le_gen (l := [(6, .c (.ptr 6 0)), (7, .c (.ptr 7 0)), (8, AI 0)]) (b := [(6, .box (Sta.cs { s with held := s.held.set i { s.held.getD i default with acked := updK id (s.held.getD i default).acked X.c.peer } })), (7, .box zUp.cs)]) (fun n => n) [101] hS ?_ ?_ rfl (by first | rfl | (simp only [wfL, wfs, mpO_namesB, mpO_namesI]; rfl))) (ret_agg_agg_dL isRet_r rfl rfl rfl rfl rfl rfl rfl rfl rfl rfl rfl rfl)
                all_goals repeat' (first | exact trivial | refine ⟨⟨_, rfl, ?_⟩, ?_⟩ | exact .c .d | exact .c (.ptr rfl) | exact .boxD rfl rfl | refine .box ?_ | exact .nil | refine .cons ?_ ?_ | exact .d | (refine .frzOf (by first | (simp; done) | decide) rfl ?_ (fun _ => rfl); ((try dsimp only); first | rfl | omega | (simp only [lns] <;> omega)); done) | fail)
        · obtain ⟨hp1, hp2, _, _⟩ := act_msg hck k1 k2
          have dsm : X.some = true := by rw [hX, hp1]
          have e2 : doneM s slot c r = (triedM s c r.acked, zUp) := by rw [doneM, if_neg (fun h => k2 h.2), if_pos k1]
          have hXc : X.c = c := by rw [hX]
          have hXp : X.p = sentP s c := by rw [hX, hp1]
          have hst := r_sent_spec s X r.acked hck (by rw [hXp, hXc]) (by rw [hXp]; exact idx_mem hp2)
          rw [hXc] at hst
          rw [e2]
          repeat' (first
            | (show VR _ _ _ (_ :: _) _ _ _; first | refine x_opF rfl (by first | exact True.intro | omega) ?_ | (show VR _ _ _ (⟨_, .call ⟨.value _, _, _⟩, _, _, _, _⟩ :: _) _ _ _; first | refine vr_calldU (hst) (gk rfl) rfl rfl rfl (by first | rfl | (simp only [wfRes, wfL, wfArgs, wfs, mpO_namesB, mpO_namesI]; rfl)) rfl (by first | exact newB_nil | exact newB_O | ((simp only [newB, List.map_cons, List.map_nil, Blk.shift, rowOf_shift]) <;> rfl) | rfl) rfl ?_))
            | (show VR _ _ _ [] _ _ _; first | refine vr_nil ?_)
            | (show thenQ _ _ _ _; first | refine q_then_n ?_ | refine q_then_r ?_)
            | refine vc_seq ?_
            | refine vc_region ?_
            | (show VC _ (.cond _ _ _) _ _; first | refine vc_cond_t rfl ?_ | refine x_know rfl (by assumption) ?_)
            | refine vc_ret ?_
            | fail)
          refine retL_of (le_gen0 (l := [(6, .c (.ptr 6 0)), (7, .c (.ptr 7 0)), (8, AI 0)]) (b := [(6, .box (triedM s c r.acked).cs), (7, .box zUp.cs)]) (fun n => n) ?_ ?_ rfl (by first | rfl | (simp only [wfL, wfs, mpO_namesB, mpO_namesI]; rfl))) (ret_agg_agg_dL isRet_r rfl rfl rfl rfl rfl rfl rfl rfl rfl rfl rfl rfl)
          all_goals repeat' (first | exact trivial | refine ⟨⟨_, rfl, ?_⟩, ?_⟩ | exact .c .d | exact .c (.ptr rfl) | exact .boxD rfl rfl | fail)
      · have d1 : decide (X.a.kind = 1) = false := decide_eq_false (by rw [hXa]; exact k1)
        by_cases k3 : (actM s slot c).kind = 2
        · have hX := hok (by omega)
          have d3 : decide (X.a.kind = 2) = true := decide_eq_true (by rw [hXa]; exact k3)
          have hsm : X.some = decide ((candI s).isSome = true ∧ c.kind = 3) := by rw [hX]; exact (act_lis k3).1
          have e2 : doneM s slot c r = if r.heard = true then heardM (waitM s c) (frOf r) else (waitM s c, zUp) := by rw [doneM, if_neg (fun h => k1 h.1), if_neg k1, if_pos k3]
          rw [e2]
          by_cases hw : (candI s).isSome = true ∧ c.kind = 3
          · have dsm : X.some = true := by rw [hsm]; exact decide_eq_true hw
            have hw' : waitM s c = { s with wait := s.wait - 1 } := if_pos hw
            rw [hw']
            cases hh : r.heard with
            | false =>
              rw [if_neg (by simp)]
              repeat' (first
                | (show VR _ _ _ (_ :: _) _ _ _; first | refine x_opF rfl (by first | exact True.intro | omega) ?_)
                | (show VR _ _ _ [] _ _ _; first | refine vr_nil ?_)
                | (show thenQ _ _ _ _; first | refine q_then_n ?_)
                | refine vc_seq ?_
                | refine vc_region ?_
                | (show VC _ (.cond _ _ _) _ _; first | refine vc_cond_t rfl ?_ | refine vc_cond_f rfl ?_ | refine x_know rfl (by assumption) ?_)
                | refine vc_ret ?_ | refine vc_skip ?_
                | fail)
              refine retL_of (le_gen0 (l := [(6, .c (.ptr 6 0)), (7, .c (.ptr 7 0)), (8, AI 0)]) (b := [(6, .box (Sta.cs { s with wait := s.wait - 1 })), (7, .box zUp.cs)]) (fun n => n) ?_ ?_ rfl (by first | rfl | (simp only [wfL, wfs, mpO_namesB, mpO_namesI]; rfl))) (ret_agg_agg_dL isRet_r rfl rfl rfl rfl rfl rfl rfl rfl rfl rfl rfl rfl)
              all_goals repeat' (first | exact trivial | refine ⟨⟨_, rfl, ?_⟩, ?_⟩ | exact .c .d | exact .c (.ptr rfl) | exact .boxD rfl rfl | fail)
            | true =>
              rw [if_pos rfl]
              repeat' (first
                | (show VR _ _ _ (_ :: _) _ _ _; first | refine x_opF rfl (by first | exact True.intro | omega) ?_ | (show VR _ _ _ (⟨_, .call ⟨.value _, _, _⟩, _, _, _, _⟩ :: _) _ _ _; first | refine vr_calldU (r_got_spec { s with wait := s.wait - 1 } (frOf r) hsn) (gk rfl) rfl rfl rfl (by first | rfl | (simp only [wfRes, wfL, wfArgs, wfs, mpO_namesB, mpO_namesI]; rfl)) rfl (by first | exact newB_nil | exact newB_O | ((simp only [newB, List.map_cons, List.map_nil, Blk.shift, rowOf_shift]) <;> rfl) | rfl) rfl ?_))
                | (show VR _ _ _ [] _ _ _; first | refine vr_nil ?_ | refine vr_nil_t (by kernel_rfl) ?_)
                | (show thenQ _ _ _ _; first | refine q_then_n ?_ | refine q_then_r ?_)
                | refine vc_seq ?_
                | refine vc_region ?_ | refine vc_region_t ?_
                | (show VC _ (.cond _ _ _) _ _; first | refine vc_cond_t rfl ?_ | refine vc_cond_f rfl ?_ | refine x_know rfl (by assumption) ?_)
                | refine vc_ret ?_ | refine vc_skip ?_
                | fail)
              refine retL_of (le_gen0 (l := [(6, .c (.ptr 6 0)), (7, .c (.ptr 7 0)), (8, AI 0)]) (b := [(6, .box (heardM { s with wait := s.wait - 1 } (frOf r)).1.cs), (7, .box (heardM { s with wait := s.wait - 1 } (frOf r)).2.cs)]) (fun n => n) ?_ ?_ rfl (by first | rfl | (simp only [wfL, wfs, mpO_namesB, mpO_namesI]; rfl))) (ret_agg_agg_dL isRet_r rfl rfl rfl rfl rfl rfl rfl rfl rfl rfl rfl rfl)
              all_goals repeat' (first | exact trivial | refine ⟨⟨_, rfl, ?_⟩, ?_⟩ | exact .c .d | exact .c (.ptr rfl) | exact .boxD rfl rfl | fail)
          · have dsm : X.some = false := by rw [hsm]; exact decide_eq_false hw
            have hw' : waitM s c = s := if_neg hw
            rw [hw']
            cases hh : r.heard with
            | false =>
              rw [if_neg (by simp)]
              repeat' (first
                | (show VR _ _ _ (_ :: _) _ _ _; first | refine x_opF rfl (by first | exact True.intro | omega) ?_)
                | (show VR _ _ _ [] _ _ _; first | refine vr_nil ?_)
                | (show thenQ _ _ _ _; first | refine q_then_n ?_)
                | refine vc_seq ?_
                | refine vc_region ?_
                | (show VC _ (.cond _ _ _) _ _; first | refine vc_cond_t rfl ?_ | refine vc_cond_f rfl ?_ | refine x_know rfl (by assumption) ?_)
                | refine vc_ret ?_ | refine vc_skip ?_
                | fail)
              refine retL_of (le_gen0 (l := [(6, .c (.ptr 6 0)), (7, .c (.ptr 7 0)), (8, AI 0)]) (b := [(6, .box s.cs), (7, .box zUp.cs)]) (fun n => n) ?_ ?_ rfl (by first | rfl | (simp only [wfL, wfs, mpO_namesB, mpO_namesI]; rfl))) (ret_agg_agg_dL isRet_r rfl rfl rfl rfl rfl rfl rfl rfl rfl rfl rfl rfl)
              all_goals repeat' (first | exact trivial | refine ⟨⟨_, rfl, ?_⟩, ?_⟩ | exact .c .d | exact .c (.ptr rfl) | exact .boxD rfl rfl | fail)
            | true =>
              rw [if_pos rfl]
              repeat' (first
                | (show VR _ _ _ (_ :: _) _ _ _; first | refine x_opF rfl (by first | exact True.intro | omega) ?_ | (show VR _ _ _ (⟨_, .call ⟨.value _, _, _⟩, _, _, _, _⟩ :: _) _ _ _; first | refine vr_calldU (r_got_spec s (frOf r) hsn) (gk rfl) rfl rfl rfl (by first | rfl | (simp only [wfRes, wfL, wfArgs, wfs, mpO_namesB, mpO_namesI]; rfl)) rfl (by first | exact newB_nil | exact newB_O | ((simp only [newB, List.map_cons, List.map_nil, Blk.shift, rowOf_shift]) <;> rfl) | rfl) rfl ?_))
                | (show VR _ _ _ [] _ _ _; first | refine vr_nil ?_ | refine vr_nil_t (by kernel_rfl) ?_)
                | (show thenQ _ _ _ _; first | refine q_then_n ?_ | refine q_then_r ?_)
                | refine vc_seq ?_
                | refine vc_region ?_ | refine vc_region_t ?_
                | (show VC _ (.cond _ _ _) _ _; first | refine vc_cond_t rfl ?_ | refine vc_cond_f rfl ?_ | refine x_know rfl (by assumption) ?_)
                | refine vc_ret ?_ | refine vc_skip ?_
                | fail)
              refine retL_of (le_gen0 (l := [(6, .c (.ptr 6 0)), (7, .c (.ptr 7 0)), (8, AI 0)]) (b := [(6, .box (heardM s (frOf r)).1.cs), (7, .box (heardM s (frOf r)).2.cs)]) (fun n => n) ?_ ?_ rfl (by first | rfl | (simp only [wfL, wfs, mpO_namesB, mpO_namesI]; rfl))) (ret_agg_agg_dL isRet_r rfl rfl rfl rfl rfl rfl rfl rfl rfl rfl rfl rfl)
              all_goals repeat' (first | exact trivial | refine ⟨⟨_, rfl, ?_⟩, ?_⟩ | exact .c .d | exact .c (.ptr rfl) | exact .boxD rfl rfl | fail)
        · have d3 : decide (X.a.kind = 2) = false := decide_eq_false (by rw [hXa]; exact k3)
          have e2 : doneM s slot c r = (s, zUp) := by rw [doneM, if_neg (fun h => k1 h.1), if_neg k1, if_neg k3]
          rw [e2]
          repeat' (first
            | (show VR _ _ _ (_ :: _) _ _ _; first | refine x_opF rfl (by first | exact True.intro | omega) ?_)
            | (show VR _ _ _ [] _ _ _; first | refine vr_nil ?_)
            | (show thenQ _ _ _ _; first | refine q_then_n ?_)
            | refine vc_seq ?_
            | refine vc_region ?_
            | (show VC _ (.cond _ _ _) _ _; first | refine vc_cond_f rfl ?_ | refine x_know rfl (by assumption) ?_)
            | refine vc_ret ?_ | refine vc_skip ?_
            | fail)
          refine retL_of (le_gen0 (l := [(6, .c (.ptr 6 0)), (7, .c (.ptr 7 0)), (8, AI 0)]) (b := [(6, .box s.cs), (7, .box zUp.cs)]) (fun n => n) ?_ ?_ rfl (by first | rfl | (simp only [wfL, wfs, mpO_namesB, mpO_namesI]; rfl))) (ret_agg_agg_dL isRet_r rfl rfl rfl rfl rfl rfl rfl rfl rfl rfl rfl rfl)
          all_goals repeat' (first | exact trivial | refine ⟨⟨_, rfl, ?_⟩, ?_⟩ | exact .c .d | exact .c (.ptr rfl) | exact .boxD rfl rfl | fail)
    · have e : doneS s slot r = (noS, zUp, 2) := by rw [doneS, if_neg (by omega), if_pos (by omega)]
      have ea : actS s slot = (zAc, 2) := by rw [actS, if_neg (by omega), if_pos (by omega)]
      rw [ea] at hac
      rw [e]
      repeat' (first
        | (show VR _ _ _ (_ :: _) _ _ _; first | refine x_opF rfl (by first | exact True.intro | omega) ?_ | (show VR _ _ _ (⟨_, .call ⟨.value _, _, _⟩, _, _, _, _⟩ :: _) _ _ _; first | refine vr_calldU (hac) (gk rfl) rfl rfl rfl (by first | rfl | (simp only [wfRes, wfL, wfArgs, wfs, mpO_namesB, mpO_namesI]; rfl)) rfl (by first | exact newB_nil | exact newB_O | ((simp only [newB, List.map_cons, List.map_nil, Blk.shift, rowOf_shift]) <;> rfl) | rfl) rfl ?_))
        | (show VR _ _ _ [] _ _ _; first | refine vr_nil ?_)
        | (show thenQ _ _ _ _; first | refine q_then_n ?_ | refine q_then_r ?_)
        | refine vc_seq ?_
        | refine vc_region ?_
        | (show VC _ (.cond _ _ _) _ _; first | refine vc_cond_t rfl ?_)
        | refine vc_ret ?_
        | fail)
      refine retL_of (le_gen0 (l := [(6, .c (.ptr 6 0)), (7, .c (.ptr 7 0)), (8, AI 2)]) (b := [(6, .box noS.cs), (7, .box zUp.cs)]) (fun n => n) ?_ ?_ rfl (by first | rfl | (simp only [wfL, wfs, mpO_namesB, mpO_namesI]; rfl))) (ret_agg_agg_dL isRet_r rfl rfl rfl rfl rfl rfl rfl rfl rfl rfl rfl rfl)
      all_goals repeat' (first | exact trivial | refine ⟨⟨_, rfl, ?_⟩, ?_⟩ | exact .c .d | exact .c (.ptr rfl) | exact .boxD rfl rfl | refine .box ?_ | exact .nil | refine .cons ?_ ?_ | exact .d | fail)
  · have e : doneS s slot r = (noS, zUp, 1) := by rw [doneS, if_pos hck]
    have ea : actS s slot = (zAc, 1) := by rw [actS, if_pos hck]
    rw [ea] at hac
    rw [e]
    repeat' (first
      | (show VR _ _ _ (_ :: _) _ _ _; first | refine x_opF rfl (by first | exact True.intro | omega) ?_ | (show VR _ _ _ (⟨_, .call ⟨.value _, _, _⟩, _, _, _, _⟩ :: _) _ _ _; first | refine vr_calldU (hac) (gk rfl) rfl rfl rfl (by first | rfl | (simp only [wfRes, wfL, wfArgs, wfs, mpO_namesB, mpO_namesI]; rfl)) rfl (by first | exact newB_nil | exact newB_O | ((simp only [newB, List.map_cons, List.map_nil, Blk.shift, rowOf_shift]) <;> rfl) | rfl) rfl ?_))
      | (show VR _ _ _ [] _ _ _; first | refine vr_nil ?_)
      | (show thenQ _ _ _ _; first | refine q_then_n ?_ | refine q_then_r ?_)
      | refine vc_seq ?_
      | refine vc_region ?_
      | (show VC _ (.cond _ _ _) _ _; first | refine vc_cond_t rfl ?_)
      | refine vc_ret ?_
      | fail)
    refine retL_of (le_gen0 (l := [(6, .c (.ptr 6 0)), (7, .c (.ptr 7 0)), (8, AI 1)]) (b := [(6, .box noS.cs), (7, .box zUp.cs)]) (fun n => n) ?_ ?_ rfl (by first | rfl | (simp only [wfL, wfs, mpO_namesB, mpO_namesI]; rfl))) (ret_agg_agg_dL isRet_r rfl rfl rfl rfl rfl rfl rfl rfl rfl rfl rfl rfl)
    all_goals repeat' (first | exact trivial | refine ⟨⟨_, rfl, ?_⟩, ?_⟩ | exact .c .d | exact .c (.ptr rfl) | exact .boxD rfl rfl | refine .box ?_ | exact .nil | refine .cons ?_ ?_ | exact .d | fail)
end Go.Proofs


