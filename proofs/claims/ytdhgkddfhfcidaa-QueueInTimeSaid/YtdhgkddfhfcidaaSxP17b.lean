/-
  What functions of the given program hand back, by walks over its code, and plain laws on that. No condition.
-/
import Derived.Test.YtdhgkddfhfcidaaSxP17a
-- SXS
-- SXM
namespace Go.Proofs
open Go Go.Sx
set_option linter.unusedSimpArgs false
set_option linter.unusedVariables false
attribute [local irreducible] VR VC thenQ blockQ retL
def pkErr (l : List Pk) (k : Nat) : Int :=
  if formP (l.getD k default) ≠ 0 then formP (l.getD k default)
  else if ((l.take k).any fun x => decide (x.id = (l.getD k default).id)) = true then 6
  else if 0 < k ∧ (l.getD k default).prio < (l.getD (k - 1) default).prio then 5 else 0
def checkQ (q : Qu) : Int := if inI q.limit 1 64 = false then 2 else if q.limit < q.packets.length then 8 else firstErr q.packets.length (pkErr q.packets)
theorem checkQ_hit {q : Qu} {k : Nat} {e : Int} (h1 : inI q.limit 1 64 = true) (h0 : (q.packets.length : Int) ≤ q.limit) (h : k ≤ q.packets.length ∧ ∀ i, i < k → pkErr q.packets i = 0) (hk : k < q.packets.length) (he : pkErr q.packets k = e) (hne : e ≠ 0) : e = checkQ q := by
  subst he
  rw [checkQ, if_neg (by simp [h1]), if_neg (by omega), firstErr_hit h.2 hk hne]
theorem checkQ_none {q : Qu} {k : Nat} (h1 : inI q.limit 1 64 = true) (h0 : (q.packets.length : Int) ≤ q.limit) (h : k ≤ q.packets.length ∧ ∀ i, i < k → pkErr q.packets i = 0) (hk : q.packets.length ≤ k) : 0 = checkQ q := by
  rw [checkQ, if_neg (by simp [h1]), if_neg (by omega), firstErr_none fun i hi => h.2 i (by omega)]
set_option maxRecDepth 4000 in
set_option maxHeartbeats 200000 in
theorem checkQ_spec (q : Qu) : FnS Try.prog 13 [quA q] [] (AI (checkQ q)) [] := by
  refine FnS.of_body (enters_of Try.func13 (by kernel_rfl) rfl) Try.func13 rfl Try.ntmps13 Try.results13 rfl rfl rfl rfl fun E hS => ?_
  repeat' (first
    | (show VR _ _ _ (_ :: _) _ _ _; first | refine x_opF rfl (by first | exact True.intro | omega) ?_ | (show VR _ _ _ (⟨_, .call ⟨.value _, _, _⟩, _, _, _, _⟩ :: _) _ _ _; first | refine vr_calldU (within_spec _ _ _) (gk rfl) rfl rfl rfl (by first | rfl | (simp only [wfRes, wfL, wfArgs, wfs, mpO_namesB, mpO_namesI]; rfl)) rfl (by first | exact newB_O | rfl) rfl ?_) | (show VR _ _ _ (⟨_, .indexAddr _ _ _, _, _, _, _⟩ :: _) _ _ _; first | refine vr_index_rd (gk rfl) rfl rfl rfl rfl rfl (by omega) rfl ?_ | refine vr_index_rdP (gk rfl) rfl rfl rfl rfl rfl (by omega) rfl ?_ | refine vr_index_rdN (gk rfl) rfl rfl rfl rfl (by first | omega | decide) rfl ?_) | (show VR _ _ _ (⟨_, .makeMap _ none, _, _, _, _⟩ :: _) _ _ _; first | refine vr_makeMapB (gk rfl) rfl rfl rfl rfl ?_ | refine vr_makeMapI1 (gk rfl) rfl rfl rfl rfl rfl ?_ | refine vr_makeMapI2 (gk rfl) rfl rfl rfl rfl rfl ?_) | (show VR _ _ _ (⟨_, .lookup _ _ _ _, _, _, _, _⟩ :: _) _ _ _; first | refine vr_lookupB (gk rfl) rfl rfl rfl rfl rfl rfl ?_ | refine vr_lookupI1 (gk rfl) rfl rfl rfl rfl rfl rfl ?_ | refine vr_lookupI2 (gk rfl) rfl rfl rfl rfl rfl rfl ?_) | (show VR _ _ _ (⟨_, .mapUpdate _ _ _ _, _, _, _, _⟩ :: _) _ _ _; first | refine vr_mapUpdateB (gk rfl) rfl rfl rfl rfl rfl ?_ | refine vr_mapUpdateI1 (gk rfl) rfl rfl rfl rfl rfl ?_ | refine vr_mapUpdateI2 (gk rfl) rfl rfl rfl rfl rfl ?_) | (show VR _ _ _ (⟨_, .call ⟨.builtin .len, _, _⟩, _, _, _, _⟩ :: _) _ _ _; first | refine vr_len_mapO (gk rfl) rfl rfl rfl rfl ?_) | (show VR _ _ _ (⟨_, .nilCheck _, _, _, _, _⟩ :: _) _ _ _; first | refine vr_nilCheck_rp (gk rfl) rfl rfl ?_ | refine vr_nilCheck_ptr (gk rfl) rfl rfl ?_ | refine vr_nilCheck_ep (gk rfl) rfl rfl ?_) | (show VR _ _ _ (⟨_, .binOp _ _ _ _ _, _, _, _, _⟩ :: _) _ _ _; first | refine x_ariw rfl rfl rfl rfl rfl ?_) | (show VR _ _ _ (⟨_, .pick _ _ _, _, _, _, _⟩ :: _) _ _ _; first | refine vr_pick_true (gk rfl) rfl (by assumption) rfl rfl ?_ | refine vr_pick_false (gk rfl) rfl (by assumption) rfl rfl ?_) | refine x_gknow rfl (by assumption) ?_ | (refine x_gsplit rfl ?_ ?_ <;> intro h <;> have hq := h <;> (try simp only [hqs] at hq)))
    | (show VR _ _ _ [] _ _ _; first | refine vr_nil ?_ | refine vr_nil_t (by kernel_rfl) ?_)
    | (show thenQ _ _ _ _; first | refine q_then_n ?_ | refine q_then_x ?_ | refine q_then_r ?_)
    | (show blockQ _ _ _ _; first | refine q_blk_n ?_ | refine q_blk_r ?_ | refine q_blk_x ?_ | refine q_blk_o rfl ?_)
    | refine vc_seq ?_
    | refine vc_region ?_ | refine vc_region_t ?_
    | (show VC _ (.cond _ _ _) _ _; first | refine vc_cond_t rfl ?_ | refine vc_cond_f rfl ?_ | refine x_know rfl (by assumption) ?_ | (refine x_cond rfl ?_ ?_ <;> intro h <;> have hq := h <;> (try simp only [hqs] at hq)))
    | refine vc_ret ?_ | refine vc_exit ?_ | refine vc_block ?_ | refine vc_skip ?_ | refine vc_label ?_)
  · refine ret_int isRet_r rfl ?_
    rw [checkQ, if_pos hq]
  · refine ret_int isRet_r rfl ?_
    rw [checkQ, if_neg (by simp_all), if_pos (by omega)]
  · have h1 : inI q.limit 1 64 = true := by simp_all
    have h2 : q.limit ≤ 64 := by simp [inI] at h1; omega
    refine vc_loopI (ι := Nat) (fun k => stOf [(1, .c (.ptr 1 0)), (3, .c (.mp 17)), (19, AD (pks q.packets)), (20, AI q.packets.length), (21, AI k)] [(1, .box q.cs), (17, .map (mpO k1 cfB (setO Pk.id (q.packets.take k))))]) (fun k => k ≤ q.packets.length ∧ ∀ i, i < k → pkErr q.packets i = 0) (fun k => q.packets.length - k) 0 ⟨Nat.zero_le _, fun i hi => absurd hi (Nat.not_lt_zero _)⟩ ?_ ?_
    · refine le_gen0 (fun n => n) ?_ ?_ rfl (by first | rfl | (simp only [wfL, wfs, mpO_namesB, mpO_namesI]; rfl))
      all_goals repeat' (first | exact trivial | refine ⟨⟨_, rfl, ?_⟩, ?_⟩ | exact .c .d | exact .clo | exact .ep | exact .c (.ptr rfl) | exact .c (.mp rfl) | exact .c (.fn rfl) | exact .c (.row rfl rfl) | exact .c .nil | (refine .c (.row rfl ?_); ((try dsimp only); first | rfl | omega | (simp only [lns] <;> omega)); done) | (refine .c (cw_eq ?_); first | rfl | (congr 1; omega); done) | exact .boxD rfl rfl | exact .pin rfl | exact .mapO (fun _ => rfl) rfl | (refine .mapO (fun _ => rfl) ?_; ((try dsimp only); first | rfl | omega | (simp only [lns] <;> omega)); done) | exact .rowD rfl rowOf_isD | exact .rowD (rowOf_append.symm) rowOf_isD | exact .rowD (rowOf_set rfl) rowOf_isD | (refine .rowD ?_ rowOf_isD; rw [rowOf_append]; rfl) | (refine .rowD ?_ rowOf_isD; simp only [rowOf_append, List.append_assoc]; rfl) | refine .agg ?_ | refine .fncC ?_ | refine .box ?_ | exact .nil | refine .cons ?_ ?_ | exact .d | exact .ptr rfl | exact .row rfl rfl | (refine .row rfl ?_; ((try dsimp only); first | rfl | omega | (simp only [lns] <;> omega)); done))
    · intro k hk
      repeat' (first
        | (show VR _ _ _ (_ :: _) _ _ _; first | refine x_opF rfl (by first | exact True.intro | omega) ?_ | (show VR _ _ _ (⟨_, .call ⟨.value _, _, _⟩, _, _, _, _⟩ :: _) _ _ _; first | refine vr_calldU (form_spec _) (gk rfl) rfl rfl rfl (by first | rfl | (simp only [wfRes, wfL, wfArgs, wfs, mpO_namesB, mpO_namesI]; rfl)) rfl (by first | exact newB_O | rfl) rfl ?_) | (show VR _ _ _ (⟨_, .indexAddr _ _ _, _, _, _, _⟩ :: _) _ _ _; first | refine vr_index_rd (gk rfl) rfl rfl rfl rfl rfl (by omega) rfl ?_ | refine vr_index_rdP (gk rfl) rfl rfl rfl rfl rfl (by omega) rfl ?_ | refine vr_index_rdN (gk rfl) rfl rfl rfl rfl (by first | omega | decide) rfl ?_) | (show VR _ _ _ (⟨_, .makeMap _ none, _, _, _, _⟩ :: _) _ _ _; first | refine vr_makeMapB (gk rfl) rfl rfl rfl rfl ?_ | refine vr_makeMapI1 (gk rfl) rfl rfl rfl rfl rfl ?_ | refine vr_makeMapI2 (gk rfl) rfl rfl rfl rfl rfl ?_) | (show VR _ _ _ (⟨_, .lookup _ _ _ _, _, _, _, _⟩ :: _) _ _ _; first | refine vr_lookupB (gk rfl) rfl rfl rfl rfl rfl rfl ?_ | refine vr_lookupI1 (gk rfl) rfl rfl rfl rfl rfl rfl ?_ | refine vr_lookupI2 (gk rfl) rfl rfl rfl rfl rfl rfl ?_) | (show VR _ _ _ (⟨_, .mapUpdate _ _ _ _, _, _, _, _⟩ :: _) _ _ _; first | refine vr_mapUpdateB (gk rfl) rfl rfl rfl rfl rfl ?_ | refine vr_mapUpdateI1 (gk rfl) rfl rfl rfl rfl rfl ?_ | refine vr_mapUpdateI2 (gk rfl) rfl rfl rfl rfl rfl ?_) | (show VR _ _ _ (⟨_, .call ⟨.builtin .len, _, _⟩, _, _, _, _⟩ :: _) _ _ _; first | refine vr_len_mapO (gk rfl) rfl rfl rfl rfl ?_) | (show VR _ _ _ (⟨_, .nilCheck _, _, _, _, _⟩ :: _) _ _ _; first | refine vr_nilCheck_rp (gk rfl) rfl rfl ?_ | refine vr_nilCheck_ptr (gk rfl) rfl rfl ?_ | refine vr_nilCheck_ep (gk rfl) rfl rfl ?_) | (show VR _ _ _ (⟨_, .binOp _ _ _ _ _, _, _, _, _⟩ :: _) _ _ _; first | refine x_ariw rfl rfl rfl rfl rfl ?_) | (show VR _ _ _ (⟨_, .pick _ _ _, _, _, _, _⟩ :: _) _ _ _; first | refine vr_pick_true (gk rfl) rfl (by assumption) rfl rfl ?_ | refine vr_pick_false (gk rfl) rfl (by assumption) rfl rfl ?_) | refine x_gknow rfl (by assumption) ?_ | (refine x_gsplit rfl ?_ ?_ <;> intro h <;> have hq := h <;> (try simp only [hqs] at hq)))
        | (show VR _ _ _ [] _ _ _; first | refine vr_nil ?_ | refine vr_nil_t (by kernel_rfl) ?_)
        | (show thenQ _ _ _ _; first | refine q_then_n ?_ | refine q_then_x ?_ | refine q_then_r ?_)
        | (show blockQ _ _ _ _; first | refine q_blk_n ?_ | refine q_blk_r ?_ | refine q_blk_x ?_ | refine q_blk_o rfl ?_)
        | (show VC _ (.seq _ _) _ _; (fail_if_success (show VC _ (.seq (.seq (.region 14 _ _) _) _) _ _)); (fail_if_success (show VC _ (.seq (.region 14 _ _) _) _ _)); refine vc_seq ?_)
        | refine vc_region ?_ | refine vc_region_t ?_
        | (show VC _ (.cond _ _ _) _ _; first | refine vc_cond_t rfl ?_ | refine vc_cond_f rfl ?_ | refine x_know rfl (by assumption) ?_ | (refine x_cond rfl ?_ ?_ <;> intro h <;> have hq := h <;> (try simp only [hqs] at hq)))
        | refine vc_ret ?_ | refine vc_exit ?_ | refine vc_block ?_ | refine vc_skip ?_ | refine vc_label ?_)
      · refine ret_int isRet_r rfl ?_
        refine (checkQ_hit (e := formP (q.packets.getD k default)) h1 (by omega) hk (by omega) ?_ hq).symm
        rw [pkErr, if_pos hq]
      · rw [setO_asc] at hq
        refine ret_int isRet_r rfl ?_
        refine (checkQ_hit (e := 6) h1 (by omega) hk (by omega) ?_ (by decide)).symm
        rw [pkErr, if_neg (by omega), if_pos hq]
      · clear h
        rw [setO_asc] at hq
        have ha := hq
        clear hq
        repeat' (first
          | (show VR _ _ _ (_ :: _) _ _ _; first | refine x_opF rfl (by first | exact True.intro | omega) ?_ | (show VR _ _ _ (⟨_, .indexAddr _ _ _, _, _, _, _⟩ :: _) _ _ _; first | refine vr_index_rd (gk rfl) rfl rfl rfl rfl rfl (by omega) rfl ?_ | refine vr_index_rdP (gk rfl) rfl rfl rfl rfl rfl (by omega) rfl ?_ | refine vr_index_rdN (gk rfl) rfl rfl rfl rfl (by first | omega | decide) rfl ?_) | (show VR _ _ _ (⟨_, .makeMap _ none, _, _, _, _⟩ :: _) _ _ _; first | refine vr_makeMapB (gk rfl) rfl rfl rfl rfl ?_ | refine vr_makeMapI1 (gk rfl) rfl rfl rfl rfl rfl ?_ | refine vr_makeMapI2 (gk rfl) rfl rfl rfl rfl rfl ?_) | (show VR _ _ _ (⟨_, .lookup _ _ _ _, _, _, _, _⟩ :: _) _ _ _; first | refine vr_lookupB (gk rfl) rfl rfl rfl rfl rfl rfl ?_ | refine vr_lookupI1 (gk rfl) rfl rfl rfl rfl rfl rfl ?_ | refine vr_lookupI2 (gk rfl) rfl rfl rfl rfl rfl rfl ?_) | (show VR _ _ _ (⟨_, .mapUpdate _ _ _ _, _, _, _, _⟩ :: _) _ _ _; first | refine vr_mapUpdateB (gk rfl) rfl rfl rfl rfl rfl ?_ | refine vr_mapUpdateI1 (gk rfl) rfl rfl rfl rfl rfl ?_ | refine vr_mapUpdateI2 (gk rfl) rfl rfl rfl rfl rfl ?_) | (show VR _ _ _ (⟨_, .call ⟨.builtin .len, _, _⟩, _, _, _, _⟩ :: _) _ _ _; first | refine vr_len_mapO (gk rfl) rfl rfl rfl rfl ?_) | (show VR _ _ _ (⟨_, .nilCheck _, _, _, _, _⟩ :: _) _ _ _; first | refine vr_nilCheck_rp (gk rfl) rfl rfl ?_ | refine vr_nilCheck_ptr (gk rfl) rfl rfl ?_ | refine vr_nilCheck_ep (gk rfl) rfl rfl ?_) | (show VR _ _ _ (⟨_, .binOp _ _ _ _ _, _, _, _, _⟩ :: _) _ _ _; first | refine x_ariw rfl rfl rfl rfl rfl ?_) | (show VR _ _ _ (⟨_, .pick _ _ _, _, _, _, _⟩ :: _) _ _ _; first | refine vr_pick_true (gk rfl) rfl (by assumption) rfl rfl ?_ | refine vr_pick_false (gk rfl) rfl (by assumption) rfl rfl ?_) | refine x_gknow rfl (by assumption) ?_ | (refine x_gsplit rfl ?_ ?_ <;> intro h <;> have hq := h <;> (try simp only [hqs] at hq)))
          | (show VR _ _ _ [] _ _ _; first | refine vr_nil ?_ | refine vr_nil_t (by kernel_rfl) ?_)
          | (show thenQ _ _ _ _; first | refine q_then_n ?_ | refine q_then_x ?_ | refine q_then_r ?_)
          | (show blockQ _ _ _ _; first | refine q_blk_n ?_ | refine q_blk_r ?_ | refine q_blk_x ?_ | refine q_blk_o rfl ?_)
          | refine vc_seq ?_
          | refine vc_region ?_ | refine vc_region_t ?_
          | (show VC _ (.cond _ _ _) _ _; first | refine vc_cond_t rfl ?_ | refine vc_cond_f rfl ?_ | refine x_know rfl (by assumption) ?_ | (refine x_cond rfl ?_ ?_ <;> intro h <;> have hq := h <;> (try simp only [hqs] at hq)))
          | refine vc_ret ?_ | refine vc_exit ?_ | refine vc_block ?_ | refine vc_skip ?_ | refine vc_label ?_)
        · refine ret_int isRet_r rfl ?_
          refine (checkQ_hit (e := 5) h1 (by omega) hk (by omega) ?_ (by decide)).symm
          rw [pkErr, if_neg (by omega), if_neg (by rw [ha]; decide), if_pos (by omega)]
        all_goals
          refine ⟨k + 1, ⟨by omega, fun i hi => ?_⟩, by omega, ?_⟩
          · by_cases hik : i < k
            · exact hk.2 i hik
            · have : i = k := by omega
              subst this
              rw [pkErr, if_neg (by omega), if_neg (by rw [ha]; decide), if_neg (by omega)]
          · have e : putA (setO Pk.id (q.packets.take k)) (q.packets.getD k default).id true = setO Pk.id (q.packets.take (k + 1)) := by
              rw [take_getD (by omega)]; exact setO_put ha
            rw [← e]
            refine le_gen0 (fun n => n) ?_ ?_ rfl (by first | rfl | (simp only [wfL, wfs, mpO_namesB, mpO_namesI]; rfl))
            all_goals repeat' (first | exact trivial | refine ⟨⟨_, rfl, ?_⟩, ?_⟩ | exact .c .d | exact .clo | exact .ep | exact .c (.ptr rfl) | exact .c (.mp rfl) | exact .c (.fn rfl) | exact .c (.row rfl rfl) | exact .c .nil | (refine .c (.row rfl ?_); ((try dsimp only); first | rfl | omega | (simp only [lns] <;> omega)); done) | (refine .c (cw_eq ?_); first | rfl | (congr 1; omega); done) | exact .boxD rfl rfl | exact .pin rfl | exact .mapO (fun _ => rfl) rfl | (refine .mapO (fun _ => rfl) ?_; ((try dsimp only); first | rfl | omega | (simp only [lns] <;> omega)); done) | exact .rowD rfl rowOf_isD | exact .rowD (rowOf_append.symm) rowOf_isD | exact .rowD (rowOf_set rfl) rowOf_isD | (refine .rowD ?_ rowOf_isD; rw [rowOf_append]; rfl) | (refine .rowD ?_ rowOf_isD; simp only [rowOf_append, List.append_assoc]; rfl) | refine .agg ?_ | refine .fncC ?_ | refine .box ?_ | exact .nil | refine .cons ?_ ?_ | exact .d | exact .ptr rfl | exact .row rfl rfl | (refine .row rfl ?_; ((try dsimp only); first | rfl | omega | (simp only [lns] <;> omega)); done))
      · refine ret_int isRet_r rfl ?_
        exact (checkQ_none h1 (by omega) hk (by omega)).symm
theorem fst_lt {α : Type} [Inhabited α] {l : List α} {p : α → Bool} {k : Nat} (hk : k < l.length) (hp : p (l.getD k default) = true) : decide (oI (fstO l p) < (k : Int)) = (l.take k).any p := by
  cases hf : fstO l p with
  | none =>
    have := fstO_notmem hf _ (getD_mem hk)
    rw [hp] at this; cases this
  | some i =>
    obtain ⟨hi, hpi, hlt⟩ := fstO_some hf
    by_cases h : i < k
    · have h1 : decide (oI (some i) < (k : Int)) = true := by simp [oI]; omega
      rw [h1]
      symm
      rw [List.any_eq_true]
      refine ⟨l.getD i default, ?_, hpi⟩
      rw [List.getD_eq_getElem?_getD, List.getElem?_eq_getElem hi]
      exact List.mem_take_iff_getElem.2 ⟨i, by omega, rfl⟩
    · have h1 : decide (oI (some i) < (k : Int)) = false := by simp [oI]; omega
      rw [h1]
      symm
      rw [List.any_eq_false]
      intro x hx
      obtain ⟨j, hj, _, rfl⟩ := mem_take_getD hx
      rw [hlt j (by omega)]; simp
/-- The first of a list's elements with an ID. -/
theorem index_spec (l : List Pk) (id : Int) : FnS Try.prog 41 [AD (pks l), AI id] [] (AI (oI (fstO l fun x => decide (x.id = id)))) [] := by
  refine FnS.of_body (enters_of Try.func41 (by kernel_rfl) rfl) Try.func41 rfl Try.ntmps41 Try.results41 rfl rfl rfl rfl fun E hS => ?_
  refine vc_bound (t := 0) rfl fun hb => ?_
  repeat' (first
    | (show VR _ _ _ (_ :: _) _ _ _; first | refine x_opF rfl (by first | exact True.intro | omega) ?_ | (show VR _ _ _ (⟨_, .indexAddr _ _ _, _, _, _, _⟩ :: _) _ _ _; first | refine vr_index_rd (gk rfl) rfl rfl rfl rfl rfl (by omega) rfl ?_ | refine vr_index_rdP (gk rfl) rfl rfl rfl rfl rfl (by omega) rfl ?_ | refine vr_index_rdN (gk rfl) rfl rfl rfl rfl (by first | omega | decide) rfl ?_) | (show VR _ _ _ (⟨_, .nilCheck _, _, _, _, _⟩ :: _) _ _ _; first | refine vr_nilCheck_rp (gk rfl) rfl rfl ?_ | refine vr_nilCheck_ptr (gk rfl) rfl rfl ?_ | refine vr_nilCheck_ep (gk rfl) rfl rfl ?_) | (show VR _ _ _ (⟨_, .binOp _ _ _ _ _, _, _, _, _⟩ :: _) _ _ _; first | refine x_ariw rfl rfl rfl rfl rfl ?_) | refine x_gknow rfl (by assumption) ?_ | (refine x_gsplit rfl ?_ ?_ <;> intro h <;> have hq := h <;> (try simp only [hqs] at hq)))
    | (show VR _ _ _ [] _ _ _; first | refine vr_nil ?_ | refine vr_nil_t (by kernel_rfl) ?_)
    | (show thenQ _ _ _ _; first | refine q_then_n ?_ | refine q_then_x ?_ | refine q_then_r ?_)
    | (show blockQ _ _ _ _; first | refine q_blk_n ?_ | refine q_blk_r ?_ | refine q_blk_x ?_ | refine q_blk_o rfl ?_)
    | refine vc_seq ?_
    | refine vc_region ?_ | refine vc_region_t ?_
    | (show VC _ (.cond _ _ _) _ _; first | refine vc_cond_t rfl ?_ | refine vc_cond_f rfl ?_ | refine x_know rfl (by assumption) ?_ | (refine x_cond rfl ?_ ?_ <;> intro h <;> have hq := h <;> (try simp only [hqs] at hq)))
    | refine vc_ret ?_ | refine vc_exit ?_ | refine vc_block ?_ | refine vc_skip ?_ | refine vc_label ?_)
  refine vc_loopI (ι := Nat) (fun k => stOf [(0, AD (pks l)), (1, AI id), (5, AI k)] []) (fun k => k ≤ l.length ∧ ∀ i, i < k → decide ((l.getD i default).id = id) = false) (fun k => l.length - k) 0 ⟨Nat.zero_le _, fun i hi => absurd hi (Nat.not_lt_zero _)⟩ ?_ ?_
  · refine le_gen0 (fun n => n) ?_ ?_ rfl (by first | rfl | (simp only [wfL, wfs, mpO_namesB, mpO_namesI]; rfl))
    all_goals repeat' (first | exact trivial | refine ⟨⟨_, rfl, ?_⟩, ?_⟩ | exact .c .d | exact .clo | exact .ep | exact .c (.ptr rfl) | exact .c (.mp rfl) | exact .c (.fn rfl) | exact .c (.row rfl rfl) | exact .c .nil | (refine .c (.row rfl ?_); ((try dsimp only); first | rfl | omega | (simp only [lns] <;> omega)); done) | (refine .c (cw_eq ?_); first | rfl | (congr 1; omega); done) | exact .boxD rfl rfl | exact .pin rfl | exact .mapO (fun _ => rfl) rfl | (refine .mapO (fun _ => rfl) ?_; ((try dsimp only); first | rfl | omega | (simp only [lns] <;> omega)); done) | exact .rowD rfl rowOf_isD | exact .rowD (rowOf_append.symm) rowOf_isD | exact .rowD (rowOf_set rfl) rowOf_isD | (refine .rowD ?_ rowOf_isD; rw [rowOf_append]; rfl) | (refine .rowD ?_ rowOf_isD; simp only [rowOf_append, List.append_assoc]; rfl) | refine .agg ?_ | refine .fncC ?_ | refine .box ?_ | exact .nil | refine .cons ?_ ?_ | exact .d | exact .ptr rfl | exact .row rfl rfl | (refine .row rfl ?_; ((try dsimp only); first | rfl | omega | (simp only [lns] <;> omega)); done))
  · intro k hk
    repeat' (first
      | (show VR _ _ _ (_ :: _) _ _ _; first | refine x_opF rfl (by first | exact True.intro | omega) ?_ | (show VR _ _ _ (⟨_, .indexAddr _ _ _, _, _, _, _⟩ :: _) _ _ _; first | refine vr_index_rd (gk rfl) rfl rfl rfl rfl rfl (by omega) rfl ?_ | refine vr_index_rdP (gk rfl) rfl rfl rfl rfl rfl (by omega) rfl ?_ | refine vr_index_rdN (gk rfl) rfl rfl rfl rfl (by first | omega | decide) rfl ?_) | (show VR _ _ _ (⟨_, .nilCheck _, _, _, _, _⟩ :: _) _ _ _; first | refine vr_nilCheck_rp (gk rfl) rfl rfl ?_ | refine vr_nilCheck_ptr (gk rfl) rfl rfl ?_ | refine vr_nilCheck_ep (gk rfl) rfl rfl ?_) | (show VR _ _ _ (⟨_, .binOp _ _ _ _ _, _, _, _, _⟩ :: _) _ _ _; first | refine x_ariw rfl rfl rfl rfl rfl ?_) | refine x_gknow rfl (by assumption) ?_ | (refine x_gsplit rfl ?_ ?_ <;> intro h <;> have hq := h <;> (try simp only [hqs] at hq)))
      | (show VR _ _ _ [] _ _ _; first | refine vr_nil ?_ | refine vr_nil_t (by kernel_rfl) ?_)
      | (show thenQ _ _ _ _; first | refine q_then_n ?_ | refine q_then_x ?_ | refine q_then_r ?_)
      | (show blockQ _ _ _ _; first | refine q_blk_n ?_ | refine q_blk_r ?_ | refine q_blk_x ?_ | refine q_blk_o rfl ?_)
      | refine vc_seq ?_
      | refine vc_region ?_ | refine vc_region_t ?_
      | (show VC _ (.cond _ _ _) _ _; first | refine vc_cond_t rfl ?_ | refine vc_cond_f rfl ?_ | refine x_know rfl (by assumption) ?_ | (refine x_cond rfl ?_ ?_ <;> intro h <;> have hq := h <;> (try simp only [hqs] at hq)))
      | refine vc_ret ?_ | refine vc_exit ?_ | refine vc_block ?_ | refine vc_skip ?_ | refine vc_label ?_)
    · refine ret_int isRet_r rfl ?_
      rw [fstO_hit hk.2 (by omega) (by simpa using hq)]; rfl
    · refine ⟨k + 1, ⟨by omega, fun i hi => ?_⟩, by omega, ?_⟩
      · by_cases hik : i < k
        · exact hk.2 i hik
        · have : i = k := by omega
          subst this
          simpa using hq
      · refine le_gen0 (fun n => n) ?_ ?_ rfl (by first | rfl | (simp only [wfL, wfs, mpO_namesB, mpO_namesI]; rfl))
        all_goals repeat' (first | exact trivial | refine ⟨⟨_, rfl, ?_⟩, ?_⟩ | exact .c .d | exact .clo | exact .ep | exact .c (.ptr rfl) | exact .c (.mp rfl) | exact .c (.fn rfl) | exact .c (.row rfl rfl) | exact .c .nil | (refine .c (.row rfl ?_); ((try dsimp only); first | rfl | omega | (simp only [lns] <;> omega)); done) | (refine .c (cw_eq ?_); first | rfl | (congr 1; omega); done) | exact .boxD rfl rfl | exact .pin rfl | exact .mapO (fun _ => rfl) rfl | (refine .mapO (fun _ => rfl) ?_; ((try dsimp only); first | rfl | omega | (simp only [lns] <;> omega)); done) | exact .rowD rfl rowOf_isD | exact .rowD (rowOf_append.symm) rowOf_isD | exact .rowD (rowOf_set rfl) rowOf_isD | (refine .rowD ?_ rowOf_isD; rw [rowOf_append]; rfl) | (refine .rowD ?_ rowOf_isD; simp only [rowOf_append, List.append_assoc]; rfl) | refine .agg ?_ | refine .fncC ?_ | refine .box ?_ | exact .nil | refine .cons ?_ ?_ | exact .d | exact .ptr rfl | exact .row rfl rfl | (refine .row rfl ?_; ((try dsimp only); first | rfl | omega | (simp only [lns] <;> omega)); done))
    · refine ret_int isRet_r rfl ?_
      have : k = l.length := by omega
      subst this
      rw [fstO_none hk.2]; rfl
set_option maxHeartbeats 1000000 in
theorem r_checkQ_spec (q : Qu) : FnS Try.prog 14 [quA q] [] (AI (checkQ q)) [] := by
  refine FnS.of_body (enters_of Try.func14 (by kernel_rfl) rfl) Try.func14 rfl Try.ntmps14 Try.results14 rfl rfl rfl rfl fun E hS => ?_
  repeat' (first
    | (show VR _ _ _ (_ :: _) _ _ _; first | refine x_opF rfl (by first | exact True.intro | omega) ?_ | (show VR _ _ _ (⟨_, .indexAddr _ _ _, _, _, _, _⟩ :: _) _ _ _; first | refine vr_index_rd (gk rfl) rfl rfl rfl rfl rfl (by omega) rfl ?_ | refine vr_index_rdP (gk rfl) rfl rfl rfl rfl rfl (by omega) rfl ?_ | refine vr_index_rdN (gk rfl) rfl rfl rfl rfl (by first | omega | decide) rfl ?_) | (show VR _ _ _ (⟨_, .nilCheck _, _, _, _, _⟩ :: _) _ _ _; first | refine vr_nilCheck_rp (gk rfl) rfl rfl ?_ | refine vr_nilCheck_ptr (gk rfl) rfl rfl ?_ | refine vr_nilCheck_ep (gk rfl) rfl rfl ?_) | (show VR _ _ _ (⟨_, .binOp _ _ _ _ _, _, _, _, _⟩ :: _) _ _ _; first | refine x_ariw rfl rfl rfl rfl rfl ?_) | (show VR _ _ _ (⟨_, .pick _ _ _, _, _, _, _⟩ :: _) _ _ _; first | refine vr_pick_true (gk rfl) rfl (by assumption) rfl rfl ?_ | refine vr_pick_false (gk rfl) rfl (by assumption) rfl rfl ?_) | refine x_gknow rfl (by assumption) ?_ | (refine x_gsplit rfl ?_ ?_ <;> intro h <;> have hq := h <;> (try simp only [hqs] at hq)))
    | (show VR _ _ _ [] _ _ _; first | refine vr_nil ?_ | refine vr_nil_t (by kernel_rfl) ?_)
    | (show thenQ _ _ _ _; first | refine q_then_n ?_ | refine q_then_x ?_ | refine q_then_r ?_)
    | (show blockQ _ _ _ _; first | refine q_blk_n ?_ | refine q_blk_r ?_ | refine q_blk_x ?_ | refine q_blk_o rfl ?_)
    | refine vc_seq ?_
    | refine vc_region ?_ | refine vc_region_t ?_
    | (show VC _ (.cond _ _ _) _ _; first | refine vc_cond_t rfl ?_ | refine vc_cond_f rfl ?_ | refine x_know rfl (by assumption) ?_ | (refine x_cond rfl ?_ ?_ <;> intro h <;> have hq := h <;> (try simp only [hqs] at hq)))
    | refine vc_ret ?_ | refine vc_exit ?_ | refine vc_block ?_ | refine vc_skip ?_ | refine vc_label ?_)
  all_goals first
    | (refine ret_int isRet_r rfl ?_
       first
       | (rw [checkQ, if_pos (by simp [inI]; omega)]; done)
       | (rw [checkQ, if_neg (by simp [inI]; omega), if_pos (by omega)]; done))
    | skip
  · have h1 : inI q.limit 1 64 = true := by simp [inI]; omega
    refine vc_loopI (ι := Nat) (fun k => stOf [(1, .c (.ptr 1 0)), (3, AI k)] [(1, .box q.cs)]) (fun k => k ≤ q.packets.length ∧ ∀ i, i < k → pkErr q.packets i = 0) (fun k => q.packets.length - k) 0 ⟨Nat.zero_le _, fun i hi => absurd hi (Nat.not_lt_zero _)⟩ ?_ ?_
    · refine le_gen0 (fun n => n) ?_ ?_ rfl (by first | rfl | (simp only [wfL, wfs, mpO_namesB, mpO_namesI]; rfl))
      all_goals repeat' (first | exact trivial | refine ⟨⟨_, rfl, ?_⟩, ?_⟩ | exact .c .d | exact .clo | exact .ep | exact .c (.ptr rfl) | exact .c (.mp rfl) | exact .c (.fn rfl) | exact .c (.row rfl rfl) | exact .c .nil | (refine .c (.row rfl ?_); ((try dsimp only); first | rfl | omega | (simp only [lns] <;> omega)); done) | (refine .c (cw_eq ?_); first | rfl | (congr 1; omega); done) | exact .boxD rfl rfl | exact .pin rfl | exact .mapO (fun _ => rfl) rfl | (refine .mapO (fun _ => rfl) ?_; ((try dsimp only); first | rfl | omega | (simp only [lns] <;> omega)); done) | exact .rowD rfl rowOf_isD | exact .rowD (rowOf_append.symm) rowOf_isD | exact .rowD (rowOf_set rfl) rowOf_isD | (refine .rowD ?_ rowOf_isD; rw [rowOf_append]; rfl) | (refine .rowD ?_ rowOf_isD; simp only [rowOf_append, List.append_assoc]; rfl) | refine .agg ?_ | refine .fncC ?_ | refine .box ?_ | exact .nil | refine .cons ?_ ?_ | exact .d | exact .ptr rfl | exact .row rfl rfl | (refine .row rfl ?_; ((try dsimp only); first | rfl | omega | (simp only [lns] <;> omega)); done))
    · intro k hk
      have hx := fst_lt (l := q.packets) (k := k) (p := fun x => decide (x.id = (q.packets.getD k default).id))
      repeat' (first
        | (show VR _ _ _ (_ :: _) _ _ _; first | refine x_opF rfl (by first | exact True.intro | omega) ?_ | (show VR _ _ _ (⟨_, .call ⟨.value _, _, _⟩, _, _, _, _⟩ :: _) _ _ _; first | refine vr_calldU (packet_spec _) (gk rfl) rfl rfl rfl (by first | rfl | (simp only [wfRes, wfL, wfArgs, wfs, mpO_namesB, mpO_namesI]; rfl)) rfl (by first | exact newB_O | rfl) rfl ?_ | refine vr_calldU (index_spec _ _) (gk rfl) rfl rfl rfl (by first | rfl | (simp only [wfRes, wfL, wfArgs, wfs, mpO_namesB, mpO_namesI]; rfl)) rfl (by first | exact newB_O | rfl) rfl ?_) | (show VR _ _ _ (⟨_, .indexAddr _ _ _, _, _, _, _⟩ :: _) _ _ _; first | refine vr_index_rd (gk rfl) rfl rfl rfl rfl rfl (by omega) rfl ?_ | refine vr_index_rdP (gk rfl) rfl rfl rfl rfl rfl (by omega) rfl ?_ | refine vr_index_rdN (gk rfl) rfl rfl rfl rfl (by first | omega | decide) rfl ?_) | (show VR _ _ _ (⟨_, .nilCheck _, _, _, _, _⟩ :: _) _ _ _; first | refine vr_nilCheck_rp (gk rfl) rfl rfl ?_ | refine vr_nilCheck_ptr (gk rfl) rfl rfl ?_ | refine vr_nilCheck_ep (gk rfl) rfl rfl ?_) | (show VR _ _ _ (⟨_, .binOp _ _ _ _ _, _, _, _, _⟩ :: _) _ _ _; first | refine x_ariw rfl rfl rfl rfl rfl ?_) | (show VR _ _ _ (⟨_, .pick _ _ _, _, _, _, _⟩ :: _) _ _ _; first | refine vr_pick_true (gk rfl) rfl (by assumption) rfl rfl ?_ | refine vr_pick_false (gk rfl) rfl (by assumption) rfl rfl ?_) | refine x_gknow rfl (by assumption) ?_ | (refine x_gsplit rfl ?_ ?_ <;> intro h <;> have hq := h <;> (try simp only [hqs] at hq)))
        | (show VR _ _ _ [] _ _ _; first | refine vr_nil ?_ | refine vr_nil_t (by kernel_rfl) ?_)
        | (show thenQ _ _ _ _; first | refine q_then_n ?_ | refine q_then_x ?_ | refine q_then_r ?_)
        | (show blockQ _ _ _ _; first | refine q_blk_n ?_ | refine q_blk_r ?_ | refine q_blk_x ?_ | refine q_blk_o rfl ?_)
        | (show VC _ (.seq _ _) _ _; (fail_if_success (show VC _ (.seq (.seq (.region 14 _ _) _) _) _ _)); (fail_if_success (show VC _ (.seq (.region 14 _ _) _) _ _)); refine vc_seq ?_)
        | refine vc_region ?_ | refine vc_region_t ?_
        | (show VC _ (.cond _ _ _) _ _; first | refine vc_cond_t rfl ?_ | refine vc_cond_f rfl ?_ | refine x_know rfl (by assumption) ?_ | (refine x_cond rfl ?_ ?_ <;> intro h <;> have hq := h <;> (try simp only [hqs] at hq)))
        | refine vc_ret ?_ | refine vc_exit ?_ | refine vc_block ?_ | refine vc_skip ?_ | refine vc_label ?_)
      · refine ret_int isRet_r rfl ?_
        refine (checkQ_hit (e := formP (q.packets.getD k default)) h1 (by omega) hk (by omega) ?_ hq).symm
        rw [pkErr, if_pos hq]
      · refine ret_int isRet_r rfl ?_
        refine (checkQ_hit (e := 6) h1 (by omega) hk (by omega) ?_ (by decide)).symm
        rw [pkErr, if_neg (by omega), if_pos (by rw [← hx (by omega) (by simp)]; exact h)]
      · have ha := (hx (by omega) (by simp)).symm.trans h
        clear h hq hx
        repeat' (first
          | (show VR _ _ _ (_ :: _) _ _ _; first | refine x_opF rfl (by first | exact True.intro | omega) ?_ | (show VR _ _ _ (⟨_, .indexAddr _ _ _, _, _, _, _⟩ :: _) _ _ _; first | refine vr_index_rd (gk rfl) rfl rfl rfl rfl rfl (by omega) rfl ?_ | refine vr_index_rdP (gk rfl) rfl rfl rfl rfl rfl (by omega) rfl ?_ | refine vr_index_rdN (gk rfl) rfl rfl rfl rfl (by first | omega | decide) rfl ?_) | (show VR _ _ _ (⟨_, .nilCheck _, _, _, _, _⟩ :: _) _ _ _; first | refine vr_nilCheck_rp (gk rfl) rfl rfl ?_ | refine vr_nilCheck_ptr (gk rfl) rfl rfl ?_ | refine vr_nilCheck_ep (gk rfl) rfl rfl ?_) | (show VR _ _ _ (⟨_, .binOp _ _ _ _ _, _, _, _, _⟩ :: _) _ _ _; first | refine x_ariw rfl rfl rfl rfl rfl ?_) | (show VR _ _ _ (⟨_, .pick _ _ _, _, _, _, _⟩ :: _) _ _ _; first | refine vr_pick_true (gk rfl) rfl (by assumption) rfl rfl ?_ | refine vr_pick_false (gk rfl) rfl (by assumption) rfl rfl ?_) | refine x_gknow rfl (by assumption) ?_ | (refine x_gsplit rfl ?_ ?_ <;> intro h <;> have hq := h <;> (try simp only [hqs] at hq)))
          | (show VR _ _ _ [] _ _ _; first | refine vr_nil ?_ | refine vr_nil_t (by kernel_rfl) ?_)
          | (show thenQ _ _ _ _; first | refine q_then_n ?_ | refine q_then_x ?_ | refine q_then_r ?_)
          | (show blockQ _ _ _ _; first | refine q_blk_n ?_ | refine q_blk_r ?_ | refine q_blk_x ?_ | refine q_blk_o rfl ?_)
          | refine vc_seq ?_
          | refine vc_region ?_ | refine vc_region_t ?_
          | (show VC _ (.cond _ _ _) _ _; first | refine vc_cond_t rfl ?_ | refine vc_cond_f rfl ?_ | refine x_know rfl (by assumption) ?_ | (refine x_cond rfl ?_ ?_ <;> intro h <;> have hq := h <;> (try simp only [hqs] at hq)))
          | refine vc_ret ?_ | refine vc_exit ?_ | refine vc_block ?_ | refine vc_skip ?_ | refine vc_label ?_)
        · refine ret_int isRet_r rfl ?_
          refine (checkQ_hit (e := 5) h1 (by omega) hk (by omega) ?_ (by decide)).symm
          rw [pkErr, if_neg (by omega), if_neg (by rw [ha]; decide), if_pos (by omega)]
        all_goals
          refine ⟨k + 1, ⟨by omega, fun i hi => ?_⟩, by omega, ?_⟩
          · by_cases hik : i < k
            · exact hk.2 i hik
            · have : i = k := by omega
              subst this
              rw [pkErr, if_neg (by omega), if_neg (by rw [ha]; decide), if_neg (by omega)]
          · refine le_gen0 (fun n => n) ?_ ?_ rfl (by first | rfl | (simp only [wfL, wfs, mpO_namesB, mpO_namesI]; rfl))
            all_goals repeat' (first | exact trivial | refine ⟨⟨_, rfl, ?_⟩, ?_⟩ | exact .c .d | exact .clo | exact .ep | exact .c (.ptr rfl) | exact .c (.mp rfl) | exact .c (.fn rfl) | exact .c (.row rfl rfl) | exact .c .nil | (refine .c (.row rfl ?_); ((try dsimp only); first | rfl | omega | (simp only [lns] <;> omega)); done) | (refine .c (cw_eq ?_); first | rfl | (congr 1; omega); done) | exact .boxD rfl rfl | exact .pin rfl | exact .mapO (fun _ => rfl) rfl | (refine .mapO (fun _ => rfl) ?_; ((try dsimp only); first | rfl | omega | (simp only [lns] <;> omega)); done) | exact .rowD rfl rowOf_isD | exact .rowD (rowOf_append.symm) rowOf_isD | exact .rowD (rowOf_set rfl) rowOf_isD | (refine .rowD ?_ rowOf_isD; rw [rowOf_append]; rfl) | (refine .rowD ?_ rowOf_isD; simp only [rowOf_append, List.append_assoc]; rfl) | refine .agg ?_ | refine .fncC ?_ | refine .box ?_ | exact .nil | refine .cons ?_ ?_ | exact .d | exact .ptr rfl | exact .row rfl rfl | (refine .row rfl ?_; ((try dsimp only); first | rfl | omega | (simp only [lns] <;> omega)); done))
      · refine ret_int isRet_r rfl ?_
        exact (checkQ_none h1 (by omega) hk (by omega)).symm
end Go.Proofs
