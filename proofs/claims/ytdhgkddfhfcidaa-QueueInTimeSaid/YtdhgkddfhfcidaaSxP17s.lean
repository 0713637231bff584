/-
  What functions of the given program hand back, by walks over its code, and plain laws on that. No condition.
-/
import Derived.Test.YtdhgkddfhfcidaaSxP17r
-- SXS
-- SXM
namespace Go.Proofs
open Go Go.Sx
set_option linter.unusedSimpArgs false
set_option linter.unusedVariables false
attribute [local irreducible] VR VC thenQ blockQ retL
theorem keeps1_spec (x : Pk) : FnS Try.prog 27 [pkA x] [] (AB (decide (200 < (x.data.size : Int)))) [] := by
  refine FnS.of_body (enters_of Try.func27 (by kernel_rfl) rfl) Try.func27 rfl Try.ntmps27 Try.results27 rfl rfl rfl rfl fun E hS => ?_
  repeat' (first
    | (show VR _ _ _ (_ :: _) _ _ _; first | refine x_opF rfl (by first | exact True.intro | omega) ?_ | (show VR _ _ _ (⟨_, .nilCheck _, _, _, _, _⟩ :: _) _ _ _; first | refine vr_nilCheck_rp (gk rfl) rfl rfl ?_ | refine vr_nilCheck_ptr (gk rfl) rfl rfl ?_ | refine vr_nilCheck_ep (gk rfl) rfl rfl ?_) | refine x_gknow rfl (by assumption) ?_ | (refine x_gsplit rfl ?_ ?_ <;> intro h <;> have hq := h <;> (try simp only [hqs] at hq)))
    | (show VR _ _ _ [] _ _ _; first | refine vr_nil ?_ | refine vr_nil_t (by kernel_rfl) ?_)
    | (show thenQ _ _ _ _; first | refine q_then_n ?_ | refine q_then_x ?_ | refine q_then_r ?_)
    | (show blockQ _ _ _ _; first | refine q_blk_n ?_ | refine q_blk_r ?_ | refine q_blk_x ?_ | refine q_blk_o rfl ?_)
    | refine vc_seq ?_
    | refine vc_region ?_ | refine vc_region_t ?_
    | (show VC _ (.cond _ _ _) _ _; first | refine vc_cond_t rfl ?_ | refine vc_cond_f rfl ?_ | refine x_know rfl (by assumption) ?_ | (refine x_cond rfl ?_ ?_ <;> intro h <;> have hq := h <;> (try simp only [hqs] at hq)))
    | refine vc_ret ?_ | refine vc_exit ?_ | refine vc_block ?_ | refine vc_skip ?_ | refine vc_label ?_)
  all_goals exact ret_bool isRet_r rfl rfl
theorem keeps1_fnc {σ : St} {L : List Nat} : AR Try.prog σ L (.fnc 27 []) (.clo (predφPk fun x => decide (200 < (x.data.size : Int)))) :=
  .fnc (eps := []) .nil (enters_of Try.func27 (by kernel_rfl) rfl) (by rintro _ _ ⟨x, rfl, rfl⟩; exact ⟨rfl, keeps1_spec x⟩)
theorem idsP_drop {l : List Pk} {j : Nat} (h : j < l.length) : (idsP l).drop j = (l.getD j default).id :: (idsP l).drop (j + 1) := by
  unfold idsP
  rw [← List.map_drop, drop_cons h, List.map_cons, List.map_drop]
theorem idsD_drop {l : List Dp} {j : Nat} (h : j < l.length) : (idsD l).drop j = (l.getD j default).id :: (idsD l).drop (j + 1) := by
  unfold idsD
  rw [← List.map_drop, drop_cons h, List.map_cons, List.map_drop]
theorem q0_check {lim : Int} (h : 0 ≤ lim ∧ lim ≤ 255) : checkQ ⟨1 + lim % 8, []⟩ = 0 := by
  refine okQ_check ⟨by omega, (by simp; omega), (fun x hx => absurd hx List.not_mem_nil), List.Pairwise.nil⟩
abbrev KS := Nat × Qu × List (Int × Bool) × List (Int × Bool)
set_option maxHeartbeats 8000000 in
theorem lawKeeps_spec (lim : Int) (l : List Pk) (first : Int) (ls : List Int) (hlim : 0 ≤ lim ∧ lim ≤ 255) (hfi : 0 ≤ first ∧ first ≤ 65535) :
    FnS Try.prog 7 [AD (.int .u8 lim), AD (pks l), AD (.int .u16 first), AD (ints ls)] [] (AB true) [] := by
  refine FnS.of_body (enters_of Try.func7 (by kernel_rfl) rfl) Try.func7 rfl Try.ntmps7 Try.results7 rfl rfl rfl rfl fun E hS => ?_
  repeat' (first
    | (show VR _ _ _ (_ :: _) _ _ _; first | refine x_opF rfl (by first | exact True.intro | omega) ?_ | (show VR _ _ _ (⟨_, .call ⟨.value _, _, _⟩, _, _, _, _⟩ :: _) _ _ _; first | refine vr_calldU (awake_spec) (gk rfl) rfl rfl rfl (by first | rfl | (simp only [wfRes, wfL, wfArgs, wfs, mpO_namesB, mpO_namesI]; rfl)) rfl (by first | exact newB_O | rfl) rfl ?_ | refine vr_callU [] (containsf_Pk l (fun x => decide (200 < (x.data.size : Int)))) (gk rfl) rfl (by (repeat' (first | exact .nil | refine .cons ?_ ?_ | exact .of0 (.c .d) | exact .of0 .ep | exact .clo | exact (keeps1_fnc) | exact .of0 (.c .nil) | exact .of0 (.c (cr_rowO (by simp) rfl (by first | rfl | omega) (fun _ => rfl))) | refine .of0 (.agg ?_) | exact .d | exact .nil | exact .of0 (.c (cr_row (by decide) rfl rfl (by repeat' (first | exact trivial | refine ⟨?_, ?_⟩ | rfl)))))) <;> fail) (by first | rfl | exact hfl_O (fun _ => rfl) | exact hfl_O2 rfl (fun _ => rfl)) rfl (by first | rfl | (simp only [wfRes, wfL, wfArgs, wfs, mpO_namesB, mpO_namesI]; rfl)) rfl (by first | exact newB_O | rfl) rfl ?_) | (show VR _ _ _ (⟨_, .indexAddr _ _ _, _, _, _, _⟩ :: _) _ _ _; first | refine vr_index_rd (gk rfl) rfl rfl rfl rfl rfl (by omega) rfl ?_ | refine vr_index_rdP (gk rfl) rfl rfl rfl rfl rfl (by omega) rfl ?_ | refine vr_index_rdN (gk rfl) rfl rfl rfl rfl (by first | omega | decide) rfl ?_) | (show VR _ _ _ (⟨_, .makeMap _ none, _, _, _, _⟩ :: _) _ _ _; first | refine vr_makeMapB (gk rfl) rfl rfl rfl rfl ?_ | refine vr_makeMapI1 (gk rfl) rfl rfl rfl rfl rfl ?_ | refine vr_makeMapI2 (gk rfl) rfl rfl rfl rfl rfl ?_) | (show VR _ _ _ (⟨_, .lookup _ _ _ _, _, _, _, _⟩ :: _) _ _ _; first | refine vr_lookupB (gk rfl) rfl rfl rfl rfl rfl rfl ?_ | refine vr_lookupI1 (gk rfl) rfl rfl rfl rfl rfl rfl ?_ | refine vr_lookupI2 (gk rfl) rfl rfl rfl rfl rfl rfl ?_) | (show VR _ _ _ (⟨_, .mapUpdate _ _ _ _, _, _, _, _⟩ :: _) _ _ _; first | refine vr_mapUpdateB (gk rfl) rfl rfl rfl rfl rfl ?_ | refine vr_mapUpdateI1 (gk rfl) rfl rfl rfl rfl rfl ?_ | refine vr_mapUpdateI2 (gk rfl) rfl rfl rfl rfl rfl ?_) | (show VR _ _ _ (⟨_, .call ⟨.builtin .delete, _, _⟩, _, _, _, _⟩ :: _) _ _ _; first | refine vr_deleteO (gk rfl) rfl rfl rfl rfl ?_) | (show VR _ _ _ (⟨_, .call ⟨.builtin .len, _, _⟩, _, _, _, _⟩ :: _) _ _ _; first | refine vr_len_mapO (gk rfl) rfl rfl rfl rfl ?_) | (show VR _ _ _ (⟨_, .nilCheck _, _, _, _, _⟩ :: _) _ _ _; first | refine vr_nilCheck_rp (gk rfl) rfl rfl ?_ | refine vr_nilCheck_ptr (gk rfl) rfl rfl ?_ | refine vr_nilCheck_ep (gk rfl) rfl rfl ?_) | (show VR _ _ _ (⟨_, .convert _ _ _, _, _, _, _⟩ :: _) _ _ _; first | refine vr_convert_id (gk rfl) rfl ⟨_, rfl⟩ rfl (by first | exact wrap_i64 (by omega) | exact wrap_u64 (by omega) | exact wrap_u16 (by omega) | exact wrap_u8 (by omega) | exact wrap_u32 (by omega)) rfl ?_ | refine vr_convert (gk rfl) rfl ⟨_, rfl⟩ rfl rfl ?_) | (show VR _ _ _ (⟨_, .binOp _ _ _ _ _, _, _, _, _⟩ :: _) _ _ _; first | refine x_ariw rfl rfl rfl rfl rfl ?_) | (show VR _ _ _ (⟨_, .pick _ _ _, _, _, _, _⟩ :: _) _ _ _; first | refine vr_pick_true (gk rfl) rfl (by assumption) rfl rfl ?_ | refine vr_pick_false (gk rfl) rfl (by assumption) rfl rfl ?_) | refine x_gknow rfl (by assumption) ?_ | (refine x_gsplit rfl ?_ ?_ <;> intro h <;> have hq := h <;> (try simp only [hqs] at hq)))
    | (show VR _ _ _ [] _ _ _; first | refine vr_nil ?_ | refine vr_nil_t (by kernel_rfl) ?_)
    | (show thenQ _ _ _ _; first | refine q_then_n ?_ | refine q_then_x ?_ | refine q_then_r ?_)
    | (show blockQ _ _ _ _; first | refine q_blk_n ?_ | refine q_blk_r ?_ | refine q_blk_x ?_ | refine q_blk_o rfl ?_)
    | refine vc_seq ?_
    | refine vc_region ?_ | refine vc_region_t ?_
    | (show VC _ (.cond _ _ _) _ _; first | refine vc_cond_t rfl ?_ | refine vc_cond_f rfl ?_ | refine x_know rfl (by assumption) ?_ | (refine x_cond rfl ?_ ?_ <;> intro h <;> have hq := h <;> (try simp only [hqs] at hq)))
    | refine vc_ret ?_ | refine vc_exit ?_ | refine vc_block ?_ | refine vc_skip ?_ | refine vc_label ?_)
  all_goals first
    | (refine ret_bool isRet_r rfl ?_; rfl)
    | skip
  refine vc_loopI (ι := KS) (fun s => stOf [(2, AD (.int .u16 first)), (3, AD (ints ls)), (9, .c (.ptr 9 0)), (10, .c (.mp 45)), (11, .c (.mp 46)), (47, AD (pks l)), (48, AI l.length), (49, AI s.1)] [(9, .box s.2.1.cs), (45, .map (mpO k1 cfB s.2.2.1)), (46, .map (mpO k1 cfB s.2.2.2))])
    (fun s => s.1 ≤ l.length ∧ checkQ s.2.1 = 0 ∧ s.2.1.limit = 1 + lim % 8 ∧ Inv3 s.2.2.1 s.2.2.2 (idsP s.2.1.packets)) (fun s => l.length - s.1) (0, ⟨1 + lim % 8, []⟩, [], []) ⟨Nat.zero_le _, q0_check hlim, rfl, Inv3.nil⟩ ?_ ?_
  · refine le_gen0 (fun n => n) ?_ ?_ rfl (by first | rfl | (simp only [wfL, wfs, mpO_namesB, mpO_namesI]; rfl))
    all_goals repeat' (first | exact trivial | refine ⟨⟨_, rfl, ?_⟩, ?_⟩ | exact .c .d | exact .clo | exact .ep | exact .c (.ptr rfl) | exact .c (.mp rfl) | exact .c (.fn rfl) | exact .c (.row rfl rfl) | exact .c .nil | (refine .c (.row rfl ?_); ((try dsimp only); first | rfl | omega | (simp only [lns] <;> omega)); done) | (refine .c (cw_eq ?_); first | rfl | (congr 1; omega); done) | exact .boxD rfl rfl | exact .pin rfl | exact .mapO (fun _ => rfl) rfl | (refine .mapO (fun _ => rfl) ?_; ((try dsimp only); first | rfl | omega | (simp only [lns] <;> omega)); done) | exact .rowD rfl rowOf_isD | exact .rowD (rowOf_append.symm) rowOf_isD | exact .rowD (rowOf_set rfl) rowOf_isD | (refine .rowD ?_ rowOf_isD; rw [rowOf_append]; rfl) | (refine .rowD ?_ rowOf_isD; simp only [rowOf_append, List.append_assoc]; rfl) | refine .agg ?_ | refine .fncC ?_ | refine .box ?_ | exact .nil | refine .cons ?_ ?_ | exact .d | exact .ptr rfl | exact .row rfl rfl | (refine .row rfl ?_; ((try dsimp only); first | rfl | omega | (simp only [lns] <;> omega)); done))
  · rintro ⟨k, q, inn, out⟩ ⟨hk, hc, hql, hI⟩
    dsimp only at hk hc hql hI ⊢
    have hl := checkQ_len hc
    have hok := okQ_of hc
    rcases Nat.lt_or_ge k l.length with hlt | hge
    · have hp := put_spec q (l.getD k default)
      by_cases h0 : (putQ q (l.getD k default)).2.2 = 0
      · obtain ⟨p1, p2, p3, p4⟩ := putQ_ok hc h0
        obtain ⟨c1, c2⟩ := hI.come p1
        generalize hP : putQ q (l.getD k default) = P at hp h0 p2 p3 p4
        obtain ⟨n, gone, e⟩ := P
        dsimp only at hp h0 p2 p3 p4
        subst h0
        have hI' := c2.perm p4.symm
        have hn : checkQ n = 0 := by
          have := okQ_check p3
          rw [← p2] at this
          exact this
        have hcn := checkQ_spec n
        rw [hn] at hcn
        have hnl := checkQ_len hn
        have hgl : n.packets.length + gone.length = q.packets.length + 1 := by
          have := p4.length_eq
          simp only [idsP, List.length_append, List.length_map, List.length_cons] at this
          omega
        generalize hin : putA inn (l.getD k default).id true = inn' at hI'
        generalize hou : delA out (l.getD k default).id = out' at hI'
        repeat' (first
          | (show VR _ _ _ (_ :: _) _ _ _; first | refine x_opF rfl (by first | exact True.intro | omega) ?_ | (show VR _ _ _ (⟨_, .call ⟨.value _, _, _⟩, _, _, _, _⟩ :: _) _ _ _; first | refine vr_calldU (hp) (gk rfl) rfl rfl rfl (by first | rfl | (simp only [wfRes, wfL, wfArgs, wfs, mpO_namesB, mpO_namesI]; rfl)) rfl (by first | exact newB_O | rfl) rfl ?_ | refine vr_calldU (hcn) (gk rfl) rfl rfl rfl (by first | rfl | (simp only [wfRes, wfL, wfArgs, wfs, mpO_namesB, mpO_namesI]; rfl)) rfl (by first | exact newB_O | rfl) rfl ?_) | (show VR _ _ _ (⟨_, .indexAddr _ _ _, _, _, _, _⟩ :: _) _ _ _; first | refine vr_index_rd (gk rfl) rfl rfl rfl rfl rfl (by omega) rfl ?_ | refine vr_index_rdP (gk rfl) rfl rfl rfl rfl rfl (by omega) rfl ?_ | refine vr_index_rdN (gk rfl) rfl rfl rfl rfl (by first | omega | decide) rfl ?_) | (show VR _ _ _ (⟨_, .makeMap _ none, _, _, _, _⟩ :: _) _ _ _; first | refine vr_makeMapB (gk rfl) rfl rfl rfl rfl ?_ | refine vr_makeMapI1 (gk rfl) rfl rfl rfl rfl rfl ?_ | refine vr_makeMapI2 (gk rfl) rfl rfl rfl rfl rfl ?_) | (show VR _ _ _ (⟨_, .lookup _ _ _ _, _, _, _, _⟩ :: _) _ _ _; first | refine vr_lookupB (gk rfl) rfl rfl rfl rfl rfl rfl ?_ | refine vr_lookupI1 (gk rfl) rfl rfl rfl rfl rfl rfl ?_ | refine vr_lookupI2 (gk rfl) rfl rfl rfl rfl rfl rfl ?_) | (show VR _ _ _ (⟨_, .mapUpdate _ _ _ _, _, _, _, _⟩ :: _) _ _ _; first | refine vr_mapUpdateB (gk rfl) rfl rfl rfl rfl rfl ?_ | refine vr_mapUpdateI1 (gk rfl) rfl rfl rfl rfl rfl ?_ | refine vr_mapUpdateI2 (gk rfl) rfl rfl rfl rfl rfl ?_) | (show VR _ _ _ (⟨_, .call ⟨.builtin .delete, _, _⟩, _, _, _, _⟩ :: _) _ _ _; first | refine vr_deleteO (gk rfl) rfl rfl rfl rfl ?_) | (show VR _ _ _ (⟨_, .call ⟨.builtin .len, _, _⟩, _, _, _, _⟩ :: _) _ _ _; first | refine vr_len_mapO (gk rfl) rfl rfl rfl rfl ?_) | (show VR _ _ _ (⟨_, .nilCheck _, _, _, _, _⟩ :: _) _ _ _; first | refine vr_nilCheck_rp (gk rfl) rfl rfl ?_ | refine vr_nilCheck_ptr (gk rfl) rfl rfl ?_ | refine vr_nilCheck_ep (gk rfl) rfl rfl ?_) | (show VR _ _ _ (⟨_, .convert _ _ _, _, _, _, _⟩ :: _) _ _ _; first | refine vr_convert_id (gk rfl) rfl ⟨_, rfl⟩ rfl (by first | exact wrap_i64 (by omega) | exact wrap_u64 (by omega) | exact wrap_u16 (by omega) | exact wrap_u8 (by omega) | exact wrap_u32 (by omega)) rfl ?_ | refine vr_convert (gk rfl) rfl ⟨_, rfl⟩ rfl rfl ?_) | (show VR _ _ _ (⟨_, .binOp _ _ _ _ _, _, _, _, _⟩ :: _) _ _ _; first | refine x_ariw rfl rfl rfl rfl rfl ?_) | (show VR _ _ _ (⟨_, .pick _ _ _, _, _, _, _⟩ :: _) _ _ _; first | refine vr_pick_true (gk rfl) rfl (by assumption) rfl rfl ?_ | refine vr_pick_false (gk rfl) rfl (by assumption) rfl rfl ?_) | refine x_gknow rfl (by assumption) ?_ | (refine x_gsplit rfl ?_ ?_ <;> intro h <;> have hq := h <;> (try simp only [hqs] at hq)))
          | (show VR _ _ _ [] _ _ _; first | refine vr_nil ?_ | refine vr_nil_t (by kernel_rfl) ?_)
          | (show thenQ _ _ _ _; first | refine q_then_n ?_ | refine q_then_x ?_ | refine q_then_r ?_)
          | (show blockQ _ _ _ _; first | refine q_blk_n ?_ | refine q_blk_r ?_ | refine q_blk_x ?_ | refine q_blk_o rfl ?_)
          | (show VC _ (.seq _ _) _ _; (fail_if_success (show VC _ (.seq (.seq (.region 17 _ _) _) _) _ _)); (fail_if_success (show VC _ (.seq (.region 17 _ _) _) _ _)); refine vc_seq ?_)
          | refine vc_region ?_ | refine vc_region_t ?_
          | (show VC _ (.cond _ _ _) _ _; first | refine vc_cond_t rfl ?_ | refine vc_cond_f rfl ?_ | refine x_know rfl (by assumption) ?_ | (refine x_cond rfl ?_ ?_ <;> intro h <;> have hq := h <;> (try simp only [hqs] at hq)))
          | refine vc_ret ?_ | refine vc_exit ?_ | refine vc_block ?_ | refine vc_skip ?_ | refine vc_label ?_)
        all_goals first
          | (exfalso; simp_all; done)
          | (exfalso; omega)
          | skip
        all_goals
          rw [hin, hou]
          refine vc_loopI (ι := Nat × List (Int × Bool)) (fun s => stOf [(2, AD (.int .u16 first)), (3, AD (ints ls)), (9, .c (.ptr 9 0)), (10, .c (.mp 45)), (11, .c (.mp 46)), (47, AD (pks l)), (48, AI l.length), (49, AI k), (14, .c (.ptr 14 0)), (97, AD (pks gone)), (98, AI gone.length), (99, AI s.1)] [(9, .box q.cs), (45, .map (mpO k1 cfB inn')), (46, .map (mpO k1 cfB s.2)), (14, .box n.cs)])
            (fun s => s.1 ≤ gone.length ∧ Inv3 inn' s.2 ((idsP gone).drop s.1 ++ idsP n.packets)) (fun s => gone.length - s.1) (0, out') ⟨Nat.zero_le _, hI'⟩ ?_ ?_
          · refine le_gen0 (fun n => n) ?_ ?_ rfl (by first | rfl | (simp only [wfL, wfs, mpO_namesB, mpO_namesI]; rfl))
            all_goals repeat' (first | exact trivial | refine ⟨⟨_, rfl, ?_⟩, ?_⟩ | exact .c .d | exact .clo | exact .ep | exact .c (.ptr rfl) | exact .c (.mp rfl) | exact .c (.fn rfl) | exact .c (.row rfl rfl) | exact .c .nil | (refine .c (.row rfl ?_); ((try dsimp only); first | rfl | omega | (simp only [lns] <;> omega)); done) | (refine .c (cw_eq ?_); first | rfl | (congr 1; omega); done) | exact .boxD rfl rfl | exact .pin rfl | exact .mapO (fun _ => rfl) rfl | (refine .mapO (fun _ => rfl) ?_; ((try dsimp only); first | rfl | omega | (simp only [lns] <;> omega)); done) | exact .rowD rfl rowOf_isD | exact .rowD (rowOf_append.symm) rowOf_isD | exact .rowD (rowOf_set rfl) rowOf_isD | (refine .rowD ?_ rowOf_isD; rw [rowOf_append]; rfl) | (refine .rowD ?_ rowOf_isD; simp only [rowOf_append, List.append_assoc]; rfl) | refine .agg ?_ | refine .fncC ?_ | refine .box ?_ | exact .nil | refine .cons ?_ ?_ | exact .d | exact .ptr rfl | exact .row rfl rfl | (refine .row rfl ?_; ((try dsimp only); first | rfl | omega | (simp only [lns] <;> omega)); done))
          · rintro ⟨j, o⟩ ⟨hj, hJ⟩
            dsimp only at hj hJ ⊢
            rcases Nat.lt_or_ge j gone.length with hjl | hjg
            · rw [idsP_drop hjl, List.cons_append] at hJ
              obtain ⟨j1, j2, j3⟩ := hJ.leave
              have j4 : (!(asc inn' (gone.getD j default).id).getD false) = false := by rw [j2]; rfl
              repeat' (first
                | (show VR _ _ _ (_ :: _) _ _ _; first | refine x_opF rfl (by first | exact True.intro | omega) ?_ | (show VR _ _ _ (⟨_, .indexAddr _ _ _, _, _, _, _⟩ :: _) _ _ _; first | refine vr_index_rd (gk rfl) rfl rfl rfl rfl rfl (by omega) rfl ?_ | refine vr_index_rdP (gk rfl) rfl rfl rfl rfl rfl (by omega) rfl ?_ | refine vr_index_rdN (gk rfl) rfl rfl rfl rfl (by first | omega | decide) rfl ?_) | (show VR _ _ _ (⟨_, .makeMap _ none, _, _, _, _⟩ :: _) _ _ _; first | refine vr_makeMapB (gk rfl) rfl rfl rfl rfl ?_ | refine vr_makeMapI1 (gk rfl) rfl rfl rfl rfl rfl ?_ | refine vr_makeMapI2 (gk rfl) rfl rfl rfl rfl rfl ?_) | (show VR _ _ _ (⟨_, .lookup _ _ _ _, _, _, _, _⟩ :: _) _ _ _; first | refine vr_lookupB (gk rfl) rfl rfl rfl rfl rfl rfl ?_ | refine vr_lookupI1 (gk rfl) rfl rfl rfl rfl rfl rfl ?_ | refine vr_lookupI2 (gk rfl) rfl rfl rfl rfl rfl rfl ?_) | (show VR _ _ _ (⟨_, .mapUpdate _ _ _ _, _, _, _, _⟩ :: _) _ _ _; first | refine vr_mapUpdateB (gk rfl) rfl rfl rfl rfl rfl ?_ | refine vr_mapUpdateI1 (gk rfl) rfl rfl rfl rfl rfl ?_ | refine vr_mapUpdateI2 (gk rfl) rfl rfl rfl rfl rfl ?_) | (show VR _ _ _ (⟨_, .call ⟨.builtin .delete, _, _⟩, _, _, _, _⟩ :: _) _ _ _; first | refine vr_deleteO (gk rfl) rfl rfl rfl rfl ?_) | (show VR _ _ _ (⟨_, .call ⟨.builtin .len, _, _⟩, _, _, _, _⟩ :: _) _ _ _; first | refine vr_len_mapO (gk rfl) rfl rfl rfl rfl ?_) | (show VR _ _ _ (⟨_, .nilCheck _, _, _, _, _⟩ :: _) _ _ _; first | refine vr_nilCheck_rp (gk rfl) rfl rfl ?_ | refine vr_nilCheck_ptr (gk rfl) rfl rfl ?_ | refine vr_nilCheck_ep (gk rfl) rfl rfl ?_) | (show VR _ _ _ (⟨_, .convert _ _ _, _, _, _, _⟩ :: _) _ _ _; first | refine vr_convert_id (gk rfl) rfl ⟨_, rfl⟩ rfl (by first | exact wrap_i64 (by omega) | exact wrap_u64 (by omega) | exact wrap_u16 (by omega) | exact wrap_u8 (by omega) | exact wrap_u32 (by omega)) rfl ?_ | refine vr_convert (gk rfl) rfl ⟨_, rfl⟩ rfl rfl ?_) | (show VR _ _ _ (⟨_, .binOp _ _ _ _ _, _, _, _, _⟩ :: _) _ _ _; first | refine x_ariw rfl rfl rfl rfl rfl ?_) | (show VR _ _ _ (⟨_, .pick _ _ _, _, _, _, _⟩ :: _) _ _ _; first | refine vr_pick_true (gk rfl) rfl (by assumption) rfl rfl ?_ | refine vr_pick_false (gk rfl) rfl (by assumption) rfl rfl ?_) | refine x_gknow rfl (by assumption) ?_ | (refine x_gsplit rfl ?_ ?_ <;> intro h <;> have hq := h <;> (try simp only [hqs] at hq)))
                | (show VR _ _ _ [] _ _ _; first | refine vr_nil ?_ | refine vr_nil_t (by kernel_rfl) ?_)
                | (show thenQ _ _ _ _; first | refine q_then_n ?_ | refine q_then_x ?_ | refine q_then_r ?_)
                | (show blockQ _ _ _ _; first | refine q_blk_n ?_ | refine q_blk_r ?_ | refine q_blk_x ?_ | refine q_blk_o rfl ?_)
                | refine vc_seq ?_
                | refine vc_region ?_ | refine vc_region_t ?_
                | (show VC _ (.cond _ _ _) _ _; first | refine vc_cond_t rfl ?_ | refine vc_cond_f rfl ?_ | refine x_know rfl (by assumption) ?_ | (refine x_cond rfl ?_ ?_ <;> intro h <;> have hq := h <;> (try simp only [hqs] at hq)))
                | refine vc_ret ?_ | refine vc_exit ?_ | refine vc_block ?_ | refine vc_skip ?_ | refine vc_label ?_)
              all_goals first
                | (exfalso; omega)
                | skip
              refine ⟨(j + 1, putA o (gone.getD j default).id true), ⟨by dsimp only; omega, j3⟩, by dsimp only; omega, ?_⟩
              dsimp only
              refine le_gen0 (fun n => n) ?_ ?_ rfl (by first | rfl | (simp only [wfL, wfs, mpO_namesB, mpO_namesI]; rfl))
              all_goals repeat' (first | exact trivial | refine ⟨⟨_, rfl, ?_⟩, ?_⟩ | exact .c .d | exact .clo | exact .ep | exact .c (.ptr rfl) | exact .c (.mp rfl) | exact .c (.fn rfl) | exact .c (.row rfl rfl) | exact .c .nil | (refine .c (.row rfl ?_); ((try dsimp only); first | rfl | omega | (simp only [lns] <;> omega)); done) | (refine .c (cw_eq ?_); first | rfl | (congr 1; omega); done) | exact .boxD rfl rfl | exact .pin rfl | exact .mapO (fun _ => rfl) rfl | (refine .mapO (fun _ => rfl) ?_; ((try dsimp only); first | rfl | omega | (simp only [lns] <;> omega)); done) | exact .rowD rfl rowOf_isD | exact .rowD (rowOf_append.symm) rowOf_isD | exact .rowD (rowOf_set rfl) rowOf_isD | (refine .rowD ?_ rowOf_isD; rw [rowOf_append]; rfl) | (refine .rowD ?_ rowOf_isD; simp only [rowOf_append, List.append_assoc]; rfl) | refine .agg ?_ | refine .fncC ?_ | refine .box ?_ | exact .nil | refine .cons ?_ ?_ | exact .d | exact .ptr rfl | exact .row rfl rfl | (refine .row rfl ?_; ((try dsimp only); first | rfl | omega | (simp only [lns] <;> omega)); done))
            · have hj' : j = gone.length := by omega
              subst hj'
              have hJ' : Inv3 inn' o (idsP n.packets) := by
                have e : (idsP gone).drop gone.length = [] := by unfold idsP; rw [List.drop_eq_nil_iff, List.length_map]; exact Nat.le_refl _
                rw [e] at hJ
                exact hJ
              repeat' (first
                | (show VR _ _ _ (_ :: _) _ _ _; first | refine x_opF rfl (by first | exact True.intro | omega) ?_ | (show VR _ _ _ (⟨_, .indexAddr _ _ _, _, _, _, _⟩ :: _) _ _ _; first | refine vr_index_rd (gk rfl) rfl rfl rfl rfl rfl (by omega) rfl ?_ | refine vr_index_rdP (gk rfl) rfl rfl rfl rfl rfl (by omega) rfl ?_ | refine vr_index_rdN (gk rfl) rfl rfl rfl rfl (by first | omega | decide) rfl ?_) | (show VR _ _ _ (⟨_, .makeMap _ none, _, _, _, _⟩ :: _) _ _ _; first | refine vr_makeMapB (gk rfl) rfl rfl rfl rfl ?_ | refine vr_makeMapI1 (gk rfl) rfl rfl rfl rfl rfl ?_ | refine vr_makeMapI2 (gk rfl) rfl rfl rfl rfl rfl ?_) | (show VR _ _ _ (⟨_, .lookup _ _ _ _, _, _, _, _⟩ :: _) _ _ _; first | refine vr_lookupB (gk rfl) rfl rfl rfl rfl rfl rfl ?_ | refine vr_lookupI1 (gk rfl) rfl rfl rfl rfl rfl rfl ?_ | refine vr_lookupI2 (gk rfl) rfl rfl rfl rfl rfl rfl ?_) | (show VR _ _ _ (⟨_, .mapUpdate _ _ _ _, _, _, _, _⟩ :: _) _ _ _; first | refine vr_mapUpdateB (gk rfl) rfl rfl rfl rfl rfl ?_ | refine vr_mapUpdateI1 (gk rfl) rfl rfl rfl rfl rfl ?_ | refine vr_mapUpdateI2 (gk rfl) rfl rfl rfl rfl rfl ?_) | (show VR _ _ _ (⟨_, .call ⟨.builtin .delete, _, _⟩, _, _, _, _⟩ :: _) _ _ _; first | refine vr_deleteO (gk rfl) rfl rfl rfl rfl ?_) | (show VR _ _ _ (⟨_, .call ⟨.builtin .len, _, _⟩, _, _, _, _⟩ :: _) _ _ _; first | refine vr_len_mapO (gk rfl) rfl rfl rfl rfl ?_) | (show VR _ _ _ (⟨_, .nilCheck _, _, _, _, _⟩ :: _) _ _ _; first | refine vr_nilCheck_rp (gk rfl) rfl rfl ?_ | refine vr_nilCheck_ptr (gk rfl) rfl rfl ?_ | refine vr_nilCheck_ep (gk rfl) rfl rfl ?_) | (show VR _ _ _ (⟨_, .convert _ _ _, _, _, _, _⟩ :: _) _ _ _; first | refine vr_convert_id (gk rfl) rfl ⟨_, rfl⟩ rfl (by first | exact wrap_i64 (by omega) | exact wrap_u64 (by omega) | exact wrap_u16 (by omega) | exact wrap_u8 (by omega) | exact wrap_u32 (by omega)) rfl ?_ | refine vr_convert (gk rfl) rfl ⟨_, rfl⟩ rfl rfl ?_) | (show VR _ _ _ (⟨_, .binOp _ _ _ _ _, _, _, _, _⟩ :: _) _ _ _; first | refine x_ariw rfl rfl rfl rfl rfl ?_) | (show VR _ _ _ (⟨_, .pick _ _ _, _, _, _, _⟩ :: _) _ _ _; first | refine vr_pick_true (gk rfl) rfl (by assumption) rfl rfl ?_ | refine vr_pick_false (gk rfl) rfl (by assumption) rfl rfl ?_) | refine x_gknow rfl (by assumption) ?_ | (refine x_gsplit rfl ?_ ?_ <;> intro h <;> have hq := h <;> (try simp only [hqs] at hq)))
                | (show VR _ _ _ [] _ _ _; first | refine vr_nil ?_ | refine vr_nil_t (by kernel_rfl) ?_)
                | (show thenQ _ _ _ _; first | refine q_then_n ?_ | refine q_then_x ?_ | refine q_then_r ?_)
                | (show blockQ _ _ _ _; first | refine q_blk_n ?_ | refine q_blk_r ?_ | refine q_blk_x ?_ | refine q_blk_o rfl ?_)
                | refine vc_seq ?_
                | refine vc_region ?_ | refine vc_region_t ?_
                | (show VC _ (.cond _ _ _) _ _; first | refine vc_cond_t rfl ?_ | refine vc_cond_f rfl ?_ | refine x_know rfl (by assumption) ?_ | (refine x_cond rfl ?_ ?_ <;> intro h <;> have hq := h <;> (try simp only [hqs] at hq)))
                | refine vc_ret ?_ | refine vc_exit ?_ | refine vc_block ?_ | refine vc_skip ?_ | refine vc_label ?_)
              all_goals first
                | (exfalso; omega)
                | skip
              refine ⟨(k + 1, n, inn', o), ⟨by dsimp only; omega, hn, by dsimp only; omega, hJ'⟩, by dsimp only; omega, ?_⟩
              dsimp only
              refine le_gen0 (fun n => n) ?_ ?_ rfl (by first | rfl | (simp only [wfL, wfs, mpO_namesB, mpO_namesI]; rfl))
              all_goals repeat' (first | exact trivial | refine ⟨⟨_, rfl, ?_⟩, ?_⟩ | exact .c .d | exact .clo | exact .ep | exact .c (.ptr rfl) | exact .c (.mp rfl) | exact .c (.fn rfl) | exact .c (.row rfl rfl) | exact .c .nil | (refine .c (.row rfl ?_); ((try dsimp only); first | rfl | omega | (simp only [lns] <;> omega)); done) | (refine .c (cw_eq ?_); first | rfl | (congr 1; omega); done) | exact .boxD rfl rfl | exact .pin rfl | exact .mapO (fun _ => rfl) rfl | (refine .mapO (fun _ => rfl) ?_; ((try dsimp only); first | rfl | omega | (simp only [lns] <;> omega)); done) | exact .rowD rfl rowOf_isD | exact .rowD (rowOf_append.symm) rowOf_isD | exact .rowD (rowOf_set rfl) rowOf_isD | (refine .rowD ?_ rowOf_isD; rw [rowOf_append]; rfl) | (refine .rowD ?_ rowOf_isD; simp only [rowOf_append, List.append_assoc]; rfl) | refine .agg ?_ | refine .fncC ?_ | refine .box ?_ | exact .nil | refine .cons ?_ ?_ | exact .d | exact .ptr rfl | exact .row rfl rfl | (refine .row rfl ?_; ((try dsimp only); first | rfl | omega | (simp only [lns] <;> omega)); done))
      · have hd : decide ((putQ q (l.getD k default)).2.2 ≠ 0) = true := decide_eq_true h0
        repeat' (first
          | (show VR _ _ _ (_ :: _) _ _ _; first | refine x_opF rfl (by first | exact True.intro | omega) ?_ | (show VR _ _ _ (⟨_, .call ⟨.value _, _, _⟩, _, _, _, _⟩ :: _) _ _ _; first | refine vr_calldU (hp) (gk rfl) rfl rfl rfl (by first | rfl | (simp only [wfRes, wfL, wfArgs, wfs, mpO_namesB, mpO_namesI]; rfl)) rfl (by first | exact newB_O | rfl) rfl ?_) | (show VR _ _ _ (⟨_, .indexAddr _ _ _, _, _, _, _⟩ :: _) _ _ _; first | refine vr_index_rd (gk rfl) rfl rfl rfl rfl rfl (by omega) rfl ?_ | refine vr_index_rdP (gk rfl) rfl rfl rfl rfl rfl (by omega) rfl ?_ | refine vr_index_rdN (gk rfl) rfl rfl rfl rfl (by first | omega | decide) rfl ?_) | (show VR _ _ _ (⟨_, .makeMap _ none, _, _, _, _⟩ :: _) _ _ _; first | refine vr_makeMapB (gk rfl) rfl rfl rfl rfl ?_ | refine vr_makeMapI1 (gk rfl) rfl rfl rfl rfl rfl ?_ | refine vr_makeMapI2 (gk rfl) rfl rfl rfl rfl rfl ?_) | (show VR _ _ _ (⟨_, .lookup _ _ _ _, _, _, _, _⟩ :: _) _ _ _; first | refine vr_lookupB (gk rfl) rfl rfl rfl rfl rfl rfl ?_ | refine vr_lookupI1 (gk rfl) rfl rfl rfl rfl rfl rfl ?_ | refine vr_lookupI2 (gk rfl) rfl rfl rfl rfl rfl rfl ?_) | (show VR _ _ _ (⟨_, .mapUpdate _ _ _ _, _, _, _, _⟩ :: _) _ _ _; first | refine vr_mapUpdateB (gk rfl) rfl rfl rfl rfl rfl ?_ | refine vr_mapUpdateI1 (gk rfl) rfl rfl rfl rfl rfl ?_ | refine vr_mapUpdateI2 (gk rfl) rfl rfl rfl rfl rfl ?_) | (show VR _ _ _ (⟨_, .call ⟨.builtin .delete, _, _⟩, _, _, _, _⟩ :: _) _ _ _; first | refine vr_deleteO (gk rfl) rfl rfl rfl rfl ?_) | (show VR _ _ _ (⟨_, .call ⟨.builtin .len, _, _⟩, _, _, _, _⟩ :: _) _ _ _; first | refine vr_len_mapO (gk rfl) rfl rfl rfl rfl ?_) | (show VR _ _ _ (⟨_, .nilCheck _, _, _, _, _⟩ :: _) _ _ _; first | refine vr_nilCheck_rp (gk rfl) rfl rfl ?_ | refine vr_nilCheck_ptr (gk rfl) rfl rfl ?_ | refine vr_nilCheck_ep (gk rfl) rfl rfl ?_) | (show VR _ _ _ (⟨_, .convert _ _ _, _, _, _, _⟩ :: _) _ _ _; first | refine vr_convert_id (gk rfl) rfl ⟨_, rfl⟩ rfl (by first | exact wrap_i64 (by omega) | exact wrap_u64 (by omega) | exact wrap_u16 (by omega) | exact wrap_u8 (by omega) | exact wrap_u32 (by omega)) rfl ?_ | refine vr_convert (gk rfl) rfl ⟨_, rfl⟩ rfl rfl ?_) | (show VR _ _ _ (⟨_, .binOp _ _ _ _ _, _, _, _, _⟩ :: _) _ _ _; first | refine x_ariw rfl rfl rfl rfl rfl ?_) | (show VR _ _ _ (⟨_, .pick _ _ _, _, _, _, _⟩ :: _) _ _ _; first | refine vr_pick_true (gk rfl) rfl (by assumption) rfl rfl ?_ | refine vr_pick_false (gk rfl) rfl (by assumption) rfl rfl ?_) | refine x_gknow rfl (by assumption) ?_ | (refine x_gsplit rfl ?_ ?_ <;> intro h <;> have hq := h <;> (try simp only [hqs] at hq)))
          | (show VR _ _ _ [] _ _ _; first | refine vr_nil ?_ | refine vr_nil_t (by kernel_rfl) ?_)
          | (show thenQ _ _ _ _; first | refine q_then_n ?_ | refine q_then_x ?_ | refine q_then_r ?_)
          | (show blockQ _ _ _ _; first | refine q_blk_n ?_ | refine q_blk_r ?_ | refine q_blk_x ?_ | refine q_blk_o rfl ?_)
          | refine vc_seq ?_
          | refine vc_region ?_ | refine vc_region_t ?_
          | (show VC _ (.cond _ _ _) _ _; first | refine vc_cond_t rfl ?_ | refine vc_cond_f rfl ?_ | refine x_know rfl (by assumption) ?_ | (refine x_cond rfl ?_ ?_ <;> intro h <;> have hq := h <;> (try simp only [hqs] at hq)))
          | refine vc_ret ?_ | refine vc_exit ?_ | refine vc_block ?_ | refine vc_skip ?_ | refine vc_label ?_)
        all_goals first
          | (exfalso; omega)
          | skip
        refine ⟨(k + 1, q, inn, out), ⟨by dsimp only; omega, hc, hql, hI⟩, by dsimp only; omega, ?_⟩
        dsimp only
        refine le_gen0 (fun n => n) ?_ ?_ rfl (by first | rfl | (simp only [wfL, wfs, mpO_namesB, mpO_namesI]; rfl))
        all_goals repeat' (first | exact trivial | refine ⟨⟨_, rfl, ?_⟩, ?_⟩ | exact .c .d | exact .clo | exact .ep | exact .c (.ptr rfl) | exact .c (.mp rfl) | exact .c (.fn rfl) | exact .c (.row rfl rfl) | exact .c .nil | (refine .c (.row rfl ?_); ((try dsimp only); first | rfl | omega | (simp only [lns] <;> omega)); done) | (refine .c (cw_eq ?_); first | rfl | (congr 1; omega); done) | exact .boxD rfl rfl | exact .pin rfl | exact .mapO (fun _ => rfl) rfl | (refine .mapO (fun _ => rfl) ?_; ((try dsimp only); first | rfl | omega | (simp only [lns] <;> omega)); done) | exact .rowD rfl rowOf_isD | exact .rowD (rowOf_append.symm) rowOf_isD | exact .rowD (rowOf_set rfl) rowOf_isD | (refine .rowD ?_ rowOf_isD; rw [rowOf_append]; rfl) | (refine .rowD ?_ rowOf_isD; simp only [rowOf_append, List.append_assoc]; rfl) | refine .agg ?_ | refine .fncC ?_ | refine .box ?_ | exact .nil | refine .cons ?_ ?_ | exact .d | exact .ptr rfl | exact .row rfl rfl | (refine .row rfl ?_; ((try dsimp only); first | rfl | omega | (simp only [lns] <;> omega)); done))
    · have hk' : k = l.length := by omega
      subst hk'
      have hse := serve_spec q first ls
      rw [serveQ, if_neg (by omega), if_neg (by simp [inI]; omega), if_neg (by omega)] at hse
      have hpe := serveTo_perm q.packets first ls ls.length
      have hso := serveTo_ok hok first ls ls.length
      have hsl := serveTo_len q.packets first ls ls.length
      generalize hSv : serveTo q.packets first ls ls.length = S at hse hpe hso hsl
      obtain ⟨r, d⟩ := S
      dsimp only at hse hpe hso hsl
      have hJ0 := hI.perm hpe.symm
      have hcr := checkQ_spec ⟨q.limit, r⟩
      rw [okQ_check hso] at hcr
      have hw : IntKind.i64.wrap ((r.length : Int) + d.length) = q.packets.length := by rw [wrap_i64 (by omega)]; omega
      repeat' (first
        | (show VR _ _ _ (_ :: _) _ _ _; first | refine x_opF rfl (by first | exact True.intro | omega) ?_ | (show VR _ _ _ (⟨_, .call ⟨.value _, _, _⟩, _, _, _, _⟩ :: _) _ _ _; first | refine vr_calldU (hse) (gk rfl) rfl rfl rfl (by first | rfl | (simp only [wfRes, wfL, wfArgs, wfs, mpO_namesB, mpO_namesI]; rfl)) rfl (by first | exact newB_O | rfl) rfl ?_ | refine vr_calldU (hcr) (gk rfl) rfl rfl rfl (by first | rfl | (simp only [wfRes, wfL, wfArgs, wfs, mpO_namesB, mpO_namesI]; rfl)) rfl (by first | exact newB_O | rfl) rfl ?_) | (show VR _ _ _ (⟨_, .indexAddr _ _ _, _, _, _, _⟩ :: _) _ _ _; first | refine vr_index_rd (gk rfl) rfl rfl rfl rfl rfl (by omega) rfl ?_ | refine vr_index_rdP (gk rfl) rfl rfl rfl rfl rfl (by omega) rfl ?_ | refine vr_index_rdN (gk rfl) rfl rfl rfl rfl (by first | omega | decide) rfl ?_) | (show VR _ _ _ (⟨_, .makeMap _ none, _, _, _, _⟩ :: _) _ _ _; first | refine vr_makeMapB (gk rfl) rfl rfl rfl rfl ?_ | refine vr_makeMapI1 (gk rfl) rfl rfl rfl rfl rfl ?_ | refine vr_makeMapI2 (gk rfl) rfl rfl rfl rfl rfl ?_) | (show VR _ _ _ (⟨_, .lookup _ _ _ _, _, _, _, _⟩ :: _) _ _ _; first | refine vr_lookupB (gk rfl) rfl rfl rfl rfl rfl rfl ?_ | refine vr_lookupI1 (gk rfl) rfl rfl rfl rfl rfl rfl ?_ | refine vr_lookupI2 (gk rfl) rfl rfl rfl rfl rfl rfl ?_) | (show VR _ _ _ (⟨_, .mapUpdate _ _ _ _, _, _, _, _⟩ :: _) _ _ _; first | refine vr_mapUpdateB (gk rfl) rfl rfl rfl rfl rfl ?_ | refine vr_mapUpdateI1 (gk rfl) rfl rfl rfl rfl rfl ?_ | refine vr_mapUpdateI2 (gk rfl) rfl rfl rfl rfl rfl ?_) | (show VR _ _ _ (⟨_, .call ⟨.builtin .delete, _, _⟩, _, _, _, _⟩ :: _) _ _ _; first | refine vr_deleteO (gk rfl) rfl rfl rfl rfl ?_) | (show VR _ _ _ (⟨_, .call ⟨.builtin .len, _, _⟩, _, _, _, _⟩ :: _) _ _ _; first | refine vr_len_mapO (gk rfl) rfl rfl rfl rfl ?_) | (show VR _ _ _ (⟨_, .nilCheck _, _, _, _, _⟩ :: _) _ _ _; first | refine vr_nilCheck_rp (gk rfl) rfl rfl ?_ | refine vr_nilCheck_ptr (gk rfl) rfl rfl ?_ | refine vr_nilCheck_ep (gk rfl) rfl rfl ?_) | (show VR _ _ _ (⟨_, .convert _ _ _, _, _, _, _⟩ :: _) _ _ _; first | refine vr_convert_id (gk rfl) rfl ⟨_, rfl⟩ rfl (by first | exact wrap_i64 (by omega) | exact wrap_u64 (by omega) | exact wrap_u16 (by omega) | exact wrap_u8 (by omega) | exact wrap_u32 (by omega)) rfl ?_ | refine vr_convert (gk rfl) rfl ⟨_, rfl⟩ rfl rfl ?_) | (show VR _ _ _ (⟨_, .binOp _ _ _ _ _, _, _, _, _⟩ :: _) _ _ _; first | refine x_ariw rfl rfl rfl rfl rfl ?_) | (show VR _ _ _ (⟨_, .pick _ _ _, _, _, _, _⟩ :: _) _ _ _; first | refine vr_pick_true (gk rfl) rfl (by assumption) rfl rfl ?_ | refine vr_pick_false (gk rfl) rfl (by assumption) rfl rfl ?_) | refine x_gknow rfl (by assumption) ?_ | (refine x_gsplit rfl ?_ ?_ <;> intro h <;> have hq := h <;> (try simp only [hqs] at hq)))
        | (show VR _ _ _ [] _ _ _; first | refine vr_nil ?_ | refine vr_nil_t (by kernel_rfl) ?_)
        | (show thenQ _ _ _ _; first | refine q_then_n ?_ | refine q_then_x ?_ | refine q_then_r ?_)
        | (show blockQ _ _ _ _; first | refine q_blk_n ?_ | refine q_blk_r ?_ | refine q_blk_x ?_ | refine q_blk_o rfl ?_)
        | (show VC _ (.seq _ _) _ _; (fail_if_success (show VC _ (.seq (.seq (.region 29 _ _) _) _) _ _)); (fail_if_success (show VC _ (.seq (.region 29 _ _) _) _ _)); refine vc_seq ?_)
        | refine vc_region ?_ | refine vc_region_t ?_
        | (show VC _ (.cond _ _ _) _ _; first | refine vc_cond_t rfl ?_ | refine vc_cond_f rfl ?_ | refine x_know rfl (by assumption) ?_ | (refine x_cond rfl ?_ ?_ <;> intro h <;> have hq := h <;> (try simp only [hqs] at hq)))
        | refine vc_ret ?_ | refine vc_exit ?_ | refine vc_block ?_ | refine vc_skip ?_ | refine vc_label ?_)
      all_goals first
        | (exfalso; omega)
        | skip
      refine vc_loopI (ι := Nat × List (Int × Bool)) (fun s => stOf [(10, .c (.mp 45)), (11, .c (.mp 46)), (20, AD (dps d)), (149, AD (pks r)), (150, AI r.length), (151, AI s.1)] [(45, .map (mpO k1 cfB inn)), (46, .map (mpO k1 cfB s.2))])
        (fun s => s.1 ≤ r.length ∧ Inv3 inn s.2 ((idsP r).drop s.1 ++ idsD d)) (fun s => r.length - s.1) (0, out) ⟨Nat.zero_le _, hJ0⟩ ?_ ?_
      · refine le_gen0 (fun n => n) ?_ ?_ rfl (by first | rfl | (simp only [wfL, wfs, mpO_namesB, mpO_namesI]; rfl))
        all_goals repeat' (first | exact trivial | refine ⟨⟨_, rfl, ?_⟩, ?_⟩ | exact .c .d | exact .clo | exact .ep | exact .c (.ptr rfl) | exact .c (.mp rfl) | exact .c (.fn rfl) | exact .c (.row rfl rfl) | exact .c .nil | (refine .c (.row rfl ?_); ((try dsimp only); first | rfl | omega | (simp only [lns] <;> omega)); done) | (refine .c (cw_eq ?_); first | rfl | (congr 1; omega); done) | exact .boxD rfl rfl | exact .pin rfl | exact .mapO (fun _ => rfl) rfl | (refine .mapO (fun _ => rfl) ?_; ((try dsimp only); first | rfl | omega | (simp only [lns] <;> omega)); done) | exact .rowD rfl rowOf_isD | exact .rowD (rowOf_append.symm) rowOf_isD | exact .rowD (rowOf_set rfl) rowOf_isD | (refine .rowD ?_ rowOf_isD; rw [rowOf_append]; rfl) | (refine .rowD ?_ rowOf_isD; simp only [rowOf_append, List.append_assoc]; rfl) | refine .agg ?_ | refine .fncC ?_ | refine .box ?_ | exact .nil | refine .cons ?_ ?_ | exact .d | exact .ptr rfl | exact .row rfl rfl | (refine .row rfl ?_; ((try dsimp only); first | rfl | omega | (simp only [lns] <;> omega)); done))
      · rintro ⟨j, o⟩ ⟨hj, hJ⟩
        dsimp only at hj hJ ⊢
        rcases Nat.lt_or_ge j r.length with hjl | hjg
        · rw [idsP_drop hjl, List.cons_append] at hJ
          obtain ⟨j1, j2, j3⟩ := hJ.leave
          have j4 : (!(asc inn (r.getD j default).id).getD false) = false := by rw [j2]; rfl
          repeat' (first
            | (show VR _ _ _ (_ :: _) _ _ _; first | refine x_opF rfl (by first | exact True.intro | omega) ?_ | (show VR _ _ _ (⟨_, .indexAddr _ _ _, _, _, _, _⟩ :: _) _ _ _; first | refine vr_index_rd (gk rfl) rfl rfl rfl rfl rfl (by omega) rfl ?_ | refine vr_index_rdP (gk rfl) rfl rfl rfl rfl rfl (by omega) rfl ?_ | refine vr_index_rdN (gk rfl) rfl rfl rfl rfl (by first | omega | decide) rfl ?_) | (show VR _ _ _ (⟨_, .makeMap _ none, _, _, _, _⟩ :: _) _ _ _; first | refine vr_makeMapB (gk rfl) rfl rfl rfl rfl ?_ | refine vr_makeMapI1 (gk rfl) rfl rfl rfl rfl rfl ?_ | refine vr_makeMapI2 (gk rfl) rfl rfl rfl rfl rfl ?_) | (show VR _ _ _ (⟨_, .lookup _ _ _ _, _, _, _, _⟩ :: _) _ _ _; first | refine vr_lookupB (gk rfl) rfl rfl rfl rfl rfl rfl ?_ | refine vr_lookupI1 (gk rfl) rfl rfl rfl rfl rfl rfl ?_ | refine vr_lookupI2 (gk rfl) rfl rfl rfl rfl rfl rfl ?_) | (show VR _ _ _ (⟨_, .mapUpdate _ _ _ _, _, _, _, _⟩ :: _) _ _ _; first | refine vr_mapUpdateB (gk rfl) rfl rfl rfl rfl rfl ?_ | refine vr_mapUpdateI1 (gk rfl) rfl rfl rfl rfl rfl ?_ | refine vr_mapUpdateI2 (gk rfl) rfl rfl rfl rfl rfl ?_) | (show VR _ _ _ (⟨_, .call ⟨.builtin .delete, _, _⟩, _, _, _, _⟩ :: _) _ _ _; first | refine vr_deleteO (gk rfl) rfl rfl rfl rfl ?_) | (show VR _ _ _ (⟨_, .call ⟨.builtin .len, _, _⟩, _, _, _, _⟩ :: _) _ _ _; first | refine vr_len_mapO (gk rfl) rfl rfl rfl rfl ?_) | (show VR _ _ _ (⟨_, .nilCheck _, _, _, _, _⟩ :: _) _ _ _; first | refine vr_nilCheck_rp (gk rfl) rfl rfl ?_ | refine vr_nilCheck_ptr (gk rfl) rfl rfl ?_ | refine vr_nilCheck_ep (gk rfl) rfl rfl ?_) | (show VR _ _ _ (⟨_, .convert _ _ _, _, _, _, _⟩ :: _) _ _ _; first | refine vr_convert_id (gk rfl) rfl ⟨_, rfl⟩ rfl (by first | exact wrap_i64 (by omega) | exact wrap_u64 (by omega) | exact wrap_u16 (by omega) | exact wrap_u8 (by omega) | exact wrap_u32 (by omega)) rfl ?_ | refine vr_convert (gk rfl) rfl ⟨_, rfl⟩ rfl rfl ?_) | (show VR _ _ _ (⟨_, .binOp _ _ _ _ _, _, _, _, _⟩ :: _) _ _ _; first | refine x_ariw rfl rfl rfl rfl rfl ?_) | (show VR _ _ _ (⟨_, .pick _ _ _, _, _, _, _⟩ :: _) _ _ _; first | refine vr_pick_true (gk rfl) rfl (by assumption) rfl rfl ?_ | refine vr_pick_false (gk rfl) rfl (by assumption) rfl rfl ?_) | refine x_gknow rfl (by assumption) ?_ | (refine x_gsplit rfl ?_ ?_ <;> intro h <;> have hq := h <;> (try simp only [hqs] at hq)))
            | (show VR _ _ _ [] _ _ _; first | refine vr_nil ?_ | refine vr_nil_t (by kernel_rfl) ?_)
            | (show thenQ _ _ _ _; first | refine q_then_n ?_ | refine q_then_x ?_ | refine q_then_r ?_)
            | (show blockQ _ _ _ _; first | refine q_blk_n ?_ | refine q_blk_r ?_ | refine q_blk_x ?_ | refine q_blk_o rfl ?_)
            | refine vc_seq ?_
            | refine vc_region ?_ | refine vc_region_t ?_
            | (show VC _ (.cond _ _ _) _ _; first | refine vc_cond_t rfl ?_ | refine vc_cond_f rfl ?_ | refine x_know rfl (by assumption) ?_ | (refine x_cond rfl ?_ ?_ <;> intro h <;> have hq := h <;> (try simp only [hqs] at hq)))
            | refine vc_ret ?_ | refine vc_exit ?_ | refine vc_block ?_ | refine vc_skip ?_ | refine vc_label ?_)
          all_goals first
            | (exfalso; omega)
            | skip
          refine ⟨(j + 1, putA o (r.getD j default).id true), ⟨by dsimp only; omega, j3⟩, by dsimp only; omega, ?_⟩
          dsimp only
          refine le_gen0 (fun n => n) ?_ ?_ rfl (by first | rfl | (simp only [wfL, wfs, mpO_namesB, mpO_namesI]; rfl))
          all_goals repeat' (first | exact trivial | refine ⟨⟨_, rfl, ?_⟩, ?_⟩ | exact .c .d | exact .clo | exact .ep | exact .c (.ptr rfl) | exact .c (.mp rfl) | exact .c (.fn rfl) | exact .c (.row rfl rfl) | exact .c .nil | (refine .c (.row rfl ?_); ((try dsimp only); first | rfl | omega | (simp only [lns] <;> omega)); done) | (refine .c (cw_eq ?_); first | rfl | (congr 1; omega); done) | exact .boxD rfl rfl | exact .pin rfl | exact .mapO (fun _ => rfl) rfl | (refine .mapO (fun _ => rfl) ?_; ((try dsimp only); first | rfl | omega | (simp only [lns] <;> omega)); done) | exact .rowD rfl rowOf_isD | exact .rowD (rowOf_append.symm) rowOf_isD | exact .rowD (rowOf_set rfl) rowOf_isD | (refine .rowD ?_ rowOf_isD; rw [rowOf_append]; rfl) | (refine .rowD ?_ rowOf_isD; simp only [rowOf_append, List.append_assoc]; rfl) | refine .agg ?_ | refine .fncC ?_ | refine .box ?_ | exact .nil | refine .cons ?_ ?_ | exact .d | exact .ptr rfl | exact .row rfl rfl | (refine .row rfl ?_; ((try dsimp only); first | rfl | omega | (simp only [lns] <;> omega)); done))
        · have hj' : j = r.length := by omega
          subst hj'
          have hJ' : Inv3 inn o (idsD d) := by
            have e : (idsP r).drop r.length = [] := by unfold idsP; rw [List.drop_eq_nil_iff, List.length_map]; exact Nat.le_refl _
            rw [e] at hJ
            exact hJ
          repeat' (first
            | (show VR _ _ _ (_ :: _) _ _ _; first | refine x_opF rfl (by first | exact True.intro | omega) ?_ | (show VR _ _ _ (⟨_, .indexAddr _ _ _, _, _, _, _⟩ :: _) _ _ _; first | refine vr_index_rd (gk rfl) rfl rfl rfl rfl rfl (by omega) rfl ?_ | refine vr_index_rdP (gk rfl) rfl rfl rfl rfl rfl (by omega) rfl ?_ | refine vr_index_rdN (gk rfl) rfl rfl rfl rfl (by first | omega | decide) rfl ?_) | (show VR _ _ _ (⟨_, .makeMap _ none, _, _, _, _⟩ :: _) _ _ _; first | refine vr_makeMapB (gk rfl) rfl rfl rfl rfl ?_ | refine vr_makeMapI1 (gk rfl) rfl rfl rfl rfl rfl ?_ | refine vr_makeMapI2 (gk rfl) rfl rfl rfl rfl rfl ?_) | (show VR _ _ _ (⟨_, .lookup _ _ _ _, _, _, _, _⟩ :: _) _ _ _; first | refine vr_lookupB (gk rfl) rfl rfl rfl rfl rfl rfl ?_ | refine vr_lookupI1 (gk rfl) rfl rfl rfl rfl rfl rfl ?_ | refine vr_lookupI2 (gk rfl) rfl rfl rfl rfl rfl rfl ?_) | (show VR _ _ _ (⟨_, .mapUpdate _ _ _ _, _, _, _, _⟩ :: _) _ _ _; first | refine vr_mapUpdateB (gk rfl) rfl rfl rfl rfl rfl ?_ | refine vr_mapUpdateI1 (gk rfl) rfl rfl rfl rfl rfl ?_ | refine vr_mapUpdateI2 (gk rfl) rfl rfl rfl rfl rfl ?_) | (show VR _ _ _ (⟨_, .call ⟨.builtin .delete, _, _⟩, _, _, _, _⟩ :: _) _ _ _; first | refine vr_deleteO (gk rfl) rfl rfl rfl rfl ?_) | (show VR _ _ _ (⟨_, .call ⟨.builtin .len, _, _⟩, _, _, _, _⟩ :: _) _ _ _; first | refine vr_len_mapO (gk rfl) rfl rfl rfl rfl ?_) | (show VR _ _ _ (⟨_, .nilCheck _, _, _, _, _⟩ :: _) _ _ _; first | refine vr_nilCheck_rp (gk rfl) rfl rfl ?_ | refine vr_nilCheck_ptr (gk rfl) rfl rfl ?_ | refine vr_nilCheck_ep (gk rfl) rfl rfl ?_) | (show VR _ _ _ (⟨_, .convert _ _ _, _, _, _, _⟩ :: _) _ _ _; first | refine vr_convert_id (gk rfl) rfl ⟨_, rfl⟩ rfl (by first | exact wrap_i64 (by omega) | exact wrap_u64 (by omega) | exact wrap_u16 (by omega) | exact wrap_u8 (by omega) | exact wrap_u32 (by omega)) rfl ?_ | refine vr_convert (gk rfl) rfl ⟨_, rfl⟩ rfl rfl ?_) | (show VR _ _ _ (⟨_, .binOp _ _ _ _ _, _, _, _, _⟩ :: _) _ _ _; first | refine x_ariw rfl rfl rfl rfl rfl ?_) | (show VR _ _ _ (⟨_, .pick _ _ _, _, _, _, _⟩ :: _) _ _ _; first | refine vr_pick_true (gk rfl) rfl (by assumption) rfl rfl ?_ | refine vr_pick_false (gk rfl) rfl (by assumption) rfl rfl ?_) | refine x_gknow rfl (by assumption) ?_ | (refine x_gsplit rfl ?_ ?_ <;> intro h <;> have hq := h <;> (try simp only [hqs] at hq)))
            | (show VR _ _ _ [] _ _ _; first | refine vr_nil ?_ | refine vr_nil_t (by kernel_rfl) ?_)
            | (show thenQ _ _ _ _; first | refine q_then_n ?_ | refine q_then_x ?_ | refine q_then_r ?_)
            | (show blockQ _ _ _ _; first | refine q_blk_n ?_ | refine q_blk_r ?_ | refine q_blk_x ?_ | refine q_blk_o rfl ?_)
            | (show VC _ (.seq _ _) _ _; (fail_if_success (show VC _ (.seq (.seq (.region 36 _ _) _) _) _ _)); (fail_if_success (show VC _ (.seq (.region 36 _ _) _) _ _)); refine vc_seq ?_)
            | refine vc_region ?_ | refine vc_region_t ?_
            | (show VC _ (.cond _ _ _) _ _; first | refine vc_cond_t rfl ?_ | refine vc_cond_f rfl ?_ | refine x_know rfl (by assumption) ?_ | (refine x_cond rfl ?_ ?_ <;> intro h <;> have hq := h <;> (try simp only [hqs] at hq)))
            | refine vc_ret ?_ | refine vc_exit ?_ | refine vc_block ?_ | refine vc_skip ?_ | refine vc_label ?_)
          all_goals first
            | (exfalso; omega)
            | skip
          refine vc_loopI (ι := Nat × List (Int × Bool)) (fun s => stOf [(10, .c (.mp 45)), (11, .c (.mp 46)), (170, AD (dps d)), (171, AI d.length), (172, AI s.1)] [(45, .map (mpO k1 cfB inn)), (46, .map (mpO k1 cfB s.2))])
            (fun s => s.1 ≤ d.length ∧ Inv3 inn s.2 ((idsD d).drop s.1)) (fun s => d.length - s.1) (0, o) ⟨Nat.zero_le _, hJ'⟩ ?_ ?_
          · refine le_gen0 (fun n => n) ?_ ?_ rfl (by first | rfl | (simp only [wfL, wfs, mpO_namesB, mpO_namesI]; rfl))
            all_goals repeat' (first | exact trivial | refine ⟨⟨_, rfl, ?_⟩, ?_⟩ | exact .c .d | exact .clo | exact .ep | exact .c (.ptr rfl) | exact .c (.mp rfl) | exact .c (.fn rfl) | exact .c (.row rfl rfl) | exact .c .nil | (refine .c (.row rfl ?_); ((try dsimp only); first | rfl | omega | (simp only [lns] <;> omega)); done) | (refine .c (cw_eq ?_); first | rfl | (congr 1; omega); done) | exact .boxD rfl rfl | exact .pin rfl | exact .mapO (fun _ => rfl) rfl | (refine .mapO (fun _ => rfl) ?_; ((try dsimp only); first | rfl | omega | (simp only [lns] <;> omega)); done) | exact .rowD rfl rowOf_isD | exact .rowD (rowOf_append.symm) rowOf_isD | exact .rowD (rowOf_set rfl) rowOf_isD | (refine .rowD ?_ rowOf_isD; rw [rowOf_append]; rfl) | (refine .rowD ?_ rowOf_isD; simp only [rowOf_append, List.append_assoc]; rfl) | refine .agg ?_ | refine .fncC ?_ | refine .box ?_ | exact .nil | refine .cons ?_ ?_ | exact .d | exact .ptr rfl | exact .row rfl rfl | (refine .row rfl ?_; ((try dsimp only); first | rfl | omega | (simp only [lns] <;> omega)); done))
          · clear hj hJ hjg hJ' hJ0 hI o
            rintro ⟨j, o⟩ ⟨hj, hJ⟩
            dsimp only at hj hJ ⊢
            rcases Nat.lt_or_ge j d.length with hjl | hjg
            · rw [idsD_drop hjl] at hJ
              obtain ⟨j1, j2, j3⟩ := hJ.leave
              have j4 : (!(asc inn (d.getD j default).id).getD false) = false := by rw [j2]; rfl
              repeat' (first
                | (show VR _ _ _ (_ :: _) _ _ _; first | refine x_opF rfl (by first | exact True.intro | omega) ?_ | (show VR _ _ _ (⟨_, .indexAddr _ _ _, _, _, _, _⟩ :: _) _ _ _; first | refine vr_index_rd (gk rfl) rfl rfl rfl rfl rfl (by omega) rfl ?_ | refine vr_index_rdP (gk rfl) rfl rfl rfl rfl rfl (by omega) rfl ?_ | refine vr_index_rdN (gk rfl) rfl rfl rfl rfl (by first | omega | decide) rfl ?_) | (show VR _ _ _ (⟨_, .makeMap _ none, _, _, _, _⟩ :: _) _ _ _; first | refine vr_makeMapB (gk rfl) rfl rfl rfl rfl ?_ | refine vr_makeMapI1 (gk rfl) rfl rfl rfl rfl rfl ?_ | refine vr_makeMapI2 (gk rfl) rfl rfl rfl rfl rfl ?_) | (show VR _ _ _ (⟨_, .lookup _ _ _ _, _, _, _, _⟩ :: _) _ _ _; first | refine vr_lookupB (gk rfl) rfl rfl rfl rfl rfl rfl ?_ | refine vr_lookupI1 (gk rfl) rfl rfl rfl rfl rfl rfl ?_ | refine vr_lookupI2 (gk rfl) rfl rfl rfl rfl rfl rfl ?_) | (show VR _ _ _ (⟨_, .mapUpdate _ _ _ _, _, _, _, _⟩ :: _) _ _ _; first | refine vr_mapUpdateB (gk rfl) rfl rfl rfl rfl rfl ?_ | refine vr_mapUpdateI1 (gk rfl) rfl rfl rfl rfl rfl ?_ | refine vr_mapUpdateI2 (gk rfl) rfl rfl rfl rfl rfl ?_) | (show VR _ _ _ (⟨_, .call ⟨.builtin .delete, _, _⟩, _, _, _, _⟩ :: _) _ _ _; first | refine vr_deleteO (gk rfl) rfl rfl rfl rfl ?_) | (show VR _ _ _ (⟨_, .call ⟨.builtin .len, _, _⟩, _, _, _, _⟩ :: _) _ _ _; first | refine vr_len_mapO (gk rfl) rfl rfl rfl rfl ?_) | (show VR _ _ _ (⟨_, .nilCheck _, _, _, _, _⟩ :: _) _ _ _; first | refine vr_nilCheck_rp (gk rfl) rfl rfl ?_ | refine vr_nilCheck_ptr (gk rfl) rfl rfl ?_ | refine vr_nilCheck_ep (gk rfl) rfl rfl ?_) | (show VR _ _ _ (⟨_, .convert _ _ _, _, _, _, _⟩ :: _) _ _ _; first | refine vr_convert_id (gk rfl) rfl ⟨_, rfl⟩ rfl (by first | exact wrap_i64 (by omega) | exact wrap_u64 (by omega) | exact wrap_u16 (by omega) | exact wrap_u8 (by omega) | exact wrap_u32 (by omega)) rfl ?_ | refine vr_convert (gk rfl) rfl ⟨_, rfl⟩ rfl rfl ?_) | (show VR _ _ _ (⟨_, .binOp _ _ _ _ _, _, _, _, _⟩ :: _) _ _ _; first | refine x_ariw rfl rfl rfl rfl rfl ?_) | (show VR _ _ _ (⟨_, .pick _ _ _, _, _, _, _⟩ :: _) _ _ _; first | refine vr_pick_true (gk rfl) rfl (by assumption) rfl rfl ?_ | refine vr_pick_false (gk rfl) rfl (by assumption) rfl rfl ?_) | refine x_gknow rfl (by assumption) ?_ | (refine x_gsplit rfl ?_ ?_ <;> intro h <;> have hq := h <;> (try simp only [hqs] at hq)))
                | (show VR _ _ _ [] _ _ _; first | refine vr_nil ?_ | refine vr_nil_t (by kernel_rfl) ?_)
                | (show thenQ _ _ _ _; first | refine q_then_n ?_ | refine q_then_x ?_ | refine q_then_r ?_)
                | (show blockQ _ _ _ _; first | refine q_blk_n ?_ | refine q_blk_r ?_ | refine q_blk_x ?_ | refine q_blk_o rfl ?_)
                | refine vc_seq ?_
                | refine vc_region ?_ | refine vc_region_t ?_
                | (show VC _ (.cond _ _ _) _ _; first | refine vc_cond_t rfl ?_ | refine vc_cond_f rfl ?_ | refine x_know rfl (by assumption) ?_ | (refine x_cond rfl ?_ ?_ <;> intro h <;> have hq := h <;> (try simp only [hqs] at hq)))
                | refine vc_ret ?_ | refine vc_exit ?_ | refine vc_block ?_ | refine vc_skip ?_ | refine vc_label ?_)
              all_goals first
                | (exfalso; omega)
                | skip
              refine ⟨(j + 1, putA o (d.getD j default).id true), ⟨by dsimp only; omega, j3⟩, by dsimp only; omega, ?_⟩
              dsimp only
              refine le_gen0 (fun n => n) ?_ ?_ rfl (by first | rfl | (simp only [wfL, wfs, mpO_namesB, mpO_namesI]; rfl))
              all_goals repeat' (first | exact trivial | refine ⟨⟨_, rfl, ?_⟩, ?_⟩ | exact .c .d | exact .clo | exact .ep | exact .c (.ptr rfl) | exact .c (.mp rfl) | exact .c (.fn rfl) | exact .c (.row rfl rfl) | exact .c .nil | (refine .c (.row rfl ?_); ((try dsimp only); first | rfl | omega | (simp only [lns] <;> omega)); done) | (refine .c (cw_eq ?_); first | rfl | (congr 1; omega); done) | exact .boxD rfl rfl | exact .pin rfl | exact .mapO (fun _ => rfl) rfl | (refine .mapO (fun _ => rfl) ?_; ((try dsimp only); first | rfl | omega | (simp only [lns] <;> omega)); done) | exact .rowD rfl rowOf_isD | exact .rowD (rowOf_append.symm) rowOf_isD | exact .rowD (rowOf_set rfl) rowOf_isD | (refine .rowD ?_ rowOf_isD; rw [rowOf_append]; rfl) | (refine .rowD ?_ rowOf_isD; simp only [rowOf_append, List.append_assoc]; rfl) | refine .agg ?_ | refine .fncC ?_ | refine .box ?_ | exact .nil | refine .cons ?_ ?_ | exact .d | exact .ptr rfl | exact .row rfl rfl | (refine .row rfl ?_; ((try dsimp only); first | rfl | omega | (simp only [lns] <;> omega)); done))
            · have hj' : j = d.length := by omega
              subst hj'
              have hJ' : Inv3 inn o [] := by
                have e : (idsD d).drop d.length = [] := by unfold idsD; rw [List.drop_eq_nil_iff, List.length_map]; exact Nat.le_refl _
                rw [e] at hJ
                exact hJ
              have hle := hJ'.len
              rw [List.length_nil] at hle
              repeat' (first
                | (show VR _ _ _ (_ :: _) _ _ _; first | refine x_opF rfl (by first | exact True.intro | omega) ?_ | (show VR _ _ _ (⟨_, .indexAddr _ _ _, _, _, _, _⟩ :: _) _ _ _; first | refine vr_index_rd (gk rfl) rfl rfl rfl rfl rfl (by omega) rfl ?_ | refine vr_index_rdP (gk rfl) rfl rfl rfl rfl rfl (by omega) rfl ?_ | refine vr_index_rdN (gk rfl) rfl rfl rfl rfl (by first | omega | decide) rfl ?_) | (show VR _ _ _ (⟨_, .makeMap _ none, _, _, _, _⟩ :: _) _ _ _; first | refine vr_makeMapB (gk rfl) rfl rfl rfl rfl ?_ | refine vr_makeMapI1 (gk rfl) rfl rfl rfl rfl rfl ?_ | refine vr_makeMapI2 (gk rfl) rfl rfl rfl rfl rfl ?_) | (show VR _ _ _ (⟨_, .lookup _ _ _ _, _, _, _, _⟩ :: _) _ _ _; first | refine vr_lookupB (gk rfl) rfl rfl rfl rfl rfl rfl ?_ | refine vr_lookupI1 (gk rfl) rfl rfl rfl rfl rfl rfl ?_ | refine vr_lookupI2 (gk rfl) rfl rfl rfl rfl rfl rfl ?_) | (show VR _ _ _ (⟨_, .mapUpdate _ _ _ _, _, _, _, _⟩ :: _) _ _ _; first | refine vr_mapUpdateB (gk rfl) rfl rfl rfl rfl rfl ?_ | refine vr_mapUpdateI1 (gk rfl) rfl rfl rfl rfl rfl ?_ | refine vr_mapUpdateI2 (gk rfl) rfl rfl rfl rfl rfl ?_) | (show VR _ _ _ (⟨_, .call ⟨.builtin .delete, _, _⟩, _, _, _, _⟩ :: _) _ _ _; first | refine vr_deleteO (gk rfl) rfl rfl rfl rfl ?_) | (show VR _ _ _ (⟨_, .call ⟨.builtin .len, _, _⟩, _, _, _, _⟩ :: _) _ _ _; first | refine vr_len_mapO (gk rfl) rfl rfl rfl rfl ?_) | (show VR _ _ _ (⟨_, .nilCheck _, _, _, _, _⟩ :: _) _ _ _; first | refine vr_nilCheck_rp (gk rfl) rfl rfl ?_ | refine vr_nilCheck_ptr (gk rfl) rfl rfl ?_ | refine vr_nilCheck_ep (gk rfl) rfl rfl ?_) | (show VR _ _ _ (⟨_, .convert _ _ _, _, _, _, _⟩ :: _) _ _ _; first | refine vr_convert_id (gk rfl) rfl ⟨_, rfl⟩ rfl (by first | exact wrap_i64 (by omega) | exact wrap_u64 (by omega) | exact wrap_u16 (by omega) | exact wrap_u8 (by omega) | exact wrap_u32 (by omega)) rfl ?_ | refine vr_convert (gk rfl) rfl ⟨_, rfl⟩ rfl rfl ?_) | (show VR _ _ _ (⟨_, .binOp _ _ _ _ _, _, _, _, _⟩ :: _) _ _ _; first | refine x_ariw rfl rfl rfl rfl rfl ?_) | (show VR _ _ _ (⟨_, .pick _ _ _, _, _, _, _⟩ :: _) _ _ _; first | refine vr_pick_true (gk rfl) rfl (by assumption) rfl rfl ?_ | refine vr_pick_false (gk rfl) rfl (by assumption) rfl rfl ?_) | refine x_gknow rfl (by assumption) ?_ | (refine x_gsplit rfl ?_ ?_ <;> intro h <;> have hq := h <;> (try simp only [hqs] at hq)))
                | (show VR _ _ _ [] _ _ _; first | refine vr_nil ?_ | refine vr_nil_t (by kernel_rfl) ?_)
                | (show thenQ _ _ _ _; first | refine q_then_n ?_ | refine q_then_x ?_ | refine q_then_r ?_)
                | (show blockQ _ _ _ _; first | refine q_blk_n ?_ | refine q_blk_r ?_ | refine q_blk_x ?_ | refine q_blk_o rfl ?_)
                | refine vc_seq ?_
                | refine vc_region ?_ | refine vc_region_t ?_
                | (show VC _ (.cond _ _ _) _ _; first | refine vc_cond_t rfl ?_ | refine vc_cond_f rfl ?_ | refine x_know rfl (by assumption) ?_ | (refine x_cond rfl ?_ ?_ <;> intro h <;> have hq := h <;> (try simp only [hqs] at hq)))
                | refine vc_ret ?_ | refine vc_exit ?_ | refine vc_block ?_ | refine vc_skip ?_ | refine vc_label ?_)
              all_goals first
                | (exfalso; omega)
                | skip
              refine ret_bool isRet_r rfl ?_
              exact (decide_eq_true (by omega)).symm
end Go.Proofs
