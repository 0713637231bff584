/-
  What functions of the given program hand back, by walks over its code, and plain laws on that. No condition.
-/
import Derived.Test.YtidijkcalgmadaaGreatSxVk
-- SXS
-- SXM
-- SXN
namespace Go.Proofs
open Go Go.Sx Go.Proofs.T Go.Proofs.Q
set_option maxRecDepth 4000
set_option linter.unusedSimpArgs false
set_option linter.unusedVariables false
attribute [local irreducible] VR VC thenQ blockQ retL

/-! A number put into a rising list. -/
theorem sNaN_spec (a : Int) : FnS Tryz.prog 171 [AI a] [] (AB false) [] := by
  refine FnS.of_body (enters_of Tryz.func171 (by kernel_rfl) rfl) Tryz.func171 rfl Tryz.ntmps171 Tryz.results171 rfl rfl rfl rfl fun E hS => ?_
  repeat' (first
    | (show VR _ _ _ (_ :: _) _ _ _; first | refine x_opF rfl (by first | exact True.intro | omega) ?_)
    | (show VR _ _ _ [] _ _ _; first | refine vr_nil ?_)
    | (show thenQ _ _ _ _; first | refine q_then_n ?_)
    | refine vc_seq ?_
    | refine vc_region ?_
    | refine vc_ret ?_
    | fail)
  all_goals (refine ret_bool isRet_r rfl ?_; simp)
theorem less_spec (a b : Int) : FnS Tryz.prog 170 [AI a, AI b] [] (AB (decide (a < b))) [] := by
  refine FnS.of_body (enters_of Tryz.func170 (by kernel_rfl) rfl) Tryz.func170 rfl Tryz.ntmps170 Tryz.results170 rfl rfl rfl rfl fun E hS => ?_
  repeat' (first
    | (show VR _ _ _ (_ :: _) _ _ _; first | refine x_opF rfl (by first | exact True.intro | omega) ?_ | (show VR _ _ _ (⟨_, .call ⟨.value _, _, _⟩, _, _, _, _⟩ :: _) _ _ _; first | refine vr_calldU (isNaN_spec _) (gk rfl) rfl rfl rfl (by first | rfl | (simp only [wfRes, wfL, wfArgs, wfs, mpO_namesB, mpO_namesI]; rfl)) rfl (by first | exact newB_nil | exact newB_O | ((simp only [newB, List.map_cons, List.map_nil, Blk.shift, rowOf_shift]) <;> rfl) | rfl) rfl ?_))
    | (show VR _ _ _ [] _ _ _; first | refine vr_nil ?_)
    | (show thenQ _ _ _ _; first | refine q_then_n ?_)
    | refine vc_seq ?_
    | refine vc_region ?_
    | refine vc_ret ?_
    | fail)
  all_goals exact ret_bool isRet_r rfl rfl
theorem searchI_spec (l : List Int) (y : Int) (hl : l.length ≤ 1000000) : FnS Tryz.prog 108 [AD (ints l), AI y] [] (.tup [AI (bsK id l y), AB (fdK id l y)]) [] := by
  refine FnS.of_body (enters_of Tryz.func108 (by kernel_rfl) rfl) Tryz.func108 rfl Tryz.ntmps108 Tryz.results108 rfl rfl rfl rfl fun E hS => ?_
  repeat' (first
    | (show VR _ _ _ (_ :: _) _ _ _; first | refine x_opF rfl (by first | exact True.intro | omega) ?_)
    | (show VR _ _ _ [] _ _ _; first | refine vr_nil ?_)
    | (show thenQ _ _ _ _; first | refine q_then_n ?_)
    | refine vc_seq ?_
    | refine vc_region ?_
    | refine vc_block ?_
    | fail)
  refine vc_loopI (ι := Nat × Nat) (fun p => stOf [(0, AD (ints l)), (1, AI y), (6, AI l.length), (7, AI p.1), (8, AI p.2)] [])
    (fun p => p.1 ≤ p.2 ∧ p.2 ≤ l.length ∧ bs (fun i => decide (id (l.getD i default) < y)) p.1 p.2 = bsK id l y) (fun p => p.2 - p.1) (0, l.length) ⟨Nat.zero_le _, Nat.le_refl _, rfl⟩ ?_ ?_
  · refine le_gen0 (fun n => n) ?_ ?_ rfl (by first | rfl | (simp only [wfL, wfs, mpO_namesB, mpO_namesI]; rfl))
    all_goals repeat' (first | exact trivial | refine ⟨⟨_, rfl, ?_⟩, ?_⟩ | exact .c .d | fail)
  · rintro ⟨i, j⟩ ⟨h1, h2, h3⟩
    dsimp only at h1 h2 h3 ⊢
    rcases Nat.lt_or_ge i j with hij | hij
    · have d0 : decide ((i : Int) < (j : Int)) = true := decide_eq_true (by omega)
      repeat' (first
        | (show VR _ _ _ (_ :: _) _ _ _; first | refine x_opF rfl (by first | exact True.intro | omega) ?_ | (show VR _ _ _ (⟨_, .call ⟨.value _, _, _⟩, _, _, _, _⟩ :: _) _ _ _; first | refine vr_calldU (less_spec _ _) (gk rfl) rfl rfl rfl (by first | rfl | (simp only [wfRes, wfL, wfArgs, wfs, mpO_namesB, mpO_namesI]; rfl)) rfl (by first | exact newB_nil | exact newB_O | ((simp only [newB, List.map_cons, List.map_nil, Blk.shift, rowOf_shift]) <;> rfl) | rfl) rfl ?_) | (show VR _ _ _ (⟨_, .indexAddr _ _ _, _, _, _, _⟩ :: _) _ _ _; first | refine vr_index_rdN (gk rfl) rfl rfl rfl rfl (by first | omega | decide) rfl ?_) | (show VR _ _ _ (⟨_, .convert _ _ _, _, _, _, _⟩ :: _) _ _ _; first | refine vr_convert_id (gk rfl) rfl ⟨_, rfl⟩ rfl (by first | exact wrap_i64 (by omega) | exact wrap_u64 (by omega) | exact wrap_u16 (by omega) | exact wrap_u8 (by omega) | exact wrap_u32 (by omega)) rfl ?_) | (show VR _ _ _ (⟨_, .binOp _ _ _ _ _, _, _, _, _⟩ :: _) _ _ _; first | refine vr_shr (m := 1) (gk rfl) rfl rfl rfl (by decide) rfl ?_))
        | (show VR _ _ _ [] _ _ _; first | refine vr_nil ?_)
        | (show thenQ _ _ _ _; first | refine q_then_n ?_)
        | (show blockQ _ _ _ _; first | refine q_blk_n ?_)
        | refine vc_seq ?_
        | refine vc_region ?_
        | (show VC _ (.cond _ _ _) _ _; first | refine vc_cond_t rfl ?_ | refine x_know rfl (by assumption) ?_ | (refine x_cond rfl ?_ ?_ <;> intro h <;> have hq := h <;> (try simp only [hqs] at hq)))
        | refine vc_block ?_ | refine vc_skip ?_
        | fail)
      · have e : (((i : Int) + (j : Int)) / 2 ^ 1).toNat = (i + j) / 2 := by omega
        rw [e] at hq
        refine ⟨((i + j) / 2 + 1, j), ⟨by dsimp only; omega, h2, ?_⟩, by dsimp only; omega, ?_⟩
        · rw [← h3]
          conv => rhs; rw [bs, if_pos (by omega)]
          rw [if_pos]
          exact decide_eq_true hq
        · dsimp only
          refine le_gen0 (fun n => n) ?_ ?_ rfl (by first | rfl | (simp only [wfL, wfs, mpO_namesB, mpO_namesI]; rfl))
          all_goals repeat' (first | exact trivial | refine ⟨⟨_, rfl, ?_⟩, ?_⟩ | exact .c .d | fail)
      · have e : (((i : Int) + (j : Int)) / 2 ^ 1).toNat = (i + j) / 2 := by omega
        rw [e] at hq
        refine ⟨(i, (i + j) / 2), ⟨by dsimp only; omega, by dsimp only; omega, ?_⟩, by dsimp only; omega, ?_⟩
        · rw [← h3]
          conv => rhs; rw [bs, if_pos (by omega)]
          rw [if_neg]
          rw [decide_eq_true_eq]
          exact Int.not_lt.2 hq
        · dsimp only
          refine le_gen0 (fun n => n) ?_ ?_ rfl (by first | rfl | (simp only [wfL, wfs, mpO_namesB, mpO_namesI]; rfl))
          all_goals repeat' (first | exact trivial | refine ⟨⟨_, rfl, ?_⟩, ?_⟩ | exact .c .d | fail)
    · have d0 : decide ((i : Int) < (j : Int)) = false := decide_eq_false (by omega)
      have e0 : bsK id l y = i := by rw [← h3, bs, if_neg (by omega)]
      rcases Nat.lt_or_ge i l.length with hil | hil
      · have d1 : decide ((i : Int) < (l.length : Int)) = true := decide_eq_true (by omega)
        by_cases he : l.getD i default = y
        · have d2 : decide (l.getD i default = y) = true := decide_eq_true he
          repeat' (first
            | (show VR _ _ _ (_ :: _) _ _ _; first | refine x_opF rfl (by first | exact True.intro | omega) ?_ | (show VR _ _ _ (⟨_, .indexAddr _ _ _, _, _, _, _⟩ :: _) _ _ _; first | refine vr_index_rd (gk rfl) rfl rfl rfl rfl rfl (by omega) rfl ?_) | refine x_gknow rfl (by assumption) ?_)
            | (show VR _ _ _ [] _ _ _; first | refine vr_nil ?_)
            | (show thenQ _ _ _ _; first | refine q_then_n ?_ | refine q_then_x ?_)
            | (show blockQ _ _ _ _; first | refine q_blk_x ?_)
            | refine vc_seq ?_
            | refine vc_region ?_
            | (show VC _ (.cond _ _ _) _ _; first | refine vc_cond_f rfl ?_ | refine x_know rfl (by assumption) ?_)
            | refine vc_ret ?_ | refine vc_exit ?_
            | fail)
          refine ret_d2 isRet_r rfl rfl (by rw [e0]) (congrArg D.bool ?_)
          rw [fdK, e0, decide_eq_true (p := i < l.length) hil, Bool.true_and]
          exact decide_eq_true he
        · have d2 : decide (l.getD i default = y) = false := decide_eq_false he
          repeat' (first
            | (show VR _ _ _ (_ :: _) _ _ _; first | refine x_opF rfl (by first | exact True.intro | omega) ?_ | (show VR _ _ _ (⟨_, .call ⟨.value _, _, _⟩, _, _, _, _⟩ :: _) _ _ _; first | refine vr_calldU (sNaN_spec _) (gk rfl) rfl rfl rfl (by first | rfl | (simp only [wfRes, wfL, wfArgs, wfs, mpO_namesB, mpO_namesI]; rfl)) rfl (by first | exact newB_nil | exact newB_O | ((simp only [newB, List.map_cons, List.map_nil, Blk.shift, rowOf_shift]) <;> rfl) | rfl) rfl ?_) | (show VR _ _ _ (⟨_, .indexAddr _ _ _, _, _, _, _⟩ :: _) _ _ _; first | refine vr_index_rd (gk rfl) rfl rfl rfl rfl rfl (by omega) rfl ?_) | refine x_gknow rfl (by assumption) ?_)
            | (show VR _ _ _ [] _ _ _; first | refine vr_nil ?_)
            | (show thenQ _ _ _ _; first | refine q_then_n ?_ | refine q_then_x ?_)
            | (show blockQ _ _ _ _; first | refine q_blk_x ?_)
            | refine vc_seq ?_
            | refine vc_region ?_
            | (show VC _ (.cond _ _ _) _ _; first | refine vc_cond_f rfl ?_ | refine x_know rfl (by assumption) ?_)
            | refine vc_ret ?_ | refine vc_exit ?_
            | fail)
          refine ret_d2 isRet_r rfl rfl (by rw [e0]) (congrArg D.bool ?_)
          rw [fdK, e0, decide_eq_true (p := i < l.length) hil, Bool.true_and]
          exact decide_eq_false he
      · have d1 : decide ((i : Int) < (l.length : Int)) = false := decide_eq_false (by omega)
        repeat' (first
          | (show VR _ _ _ (_ :: _) _ _ _; first | refine x_opF rfl (by first | exact True.intro | omega) ?_ | refine x_gknow rfl (by assumption) ?_)
          | (show VR _ _ _ [] _ _ _; first | refine vr_nil ?_)
          | (show thenQ _ _ _ _; first | refine q_then_n ?_ | refine q_then_x ?_)
          | (show blockQ _ _ _ _; first | refine q_blk_x ?_)
          | refine vc_seq ?_
          | refine vc_region ?_
          | (show VC _ (.cond _ _ _) _ _; first | refine vc_cond_f rfl ?_ | refine x_know rfl (by assumption) ?_)
          | refine vc_ret ?_ | refine vc_exit ?_
          | fail)
        refine ret_d2 isRet_r rfl rfl (by rw [e0]) (congrArg D.bool ?_)
        rw [fdK, e0, decide_eq_false (p := i < l.length) (by omega)]; rfl
instance ovl_I : Overlaps Tryz.prog 172 :=
  ⟨74, 4, 3, 1, TyOK.slice Tryz.sxty74 rfl, fun w => TyOK.run_size Tryz.sxty3 w, fun args w => run_callFunc_extern Tryz.func172 (by kernel_rfl) (by kernel_rfl) (by kernel_rfl) (by kernel_rfl) args w⟩

abbrev I1 (x : IntE) : D := .rd 1 1 fun _ j => (IntE.enc x).getD j .nils
theorem ins_row_I (l : List IntE) (i : Nat) (x : IntE) : rowOf IntE.enc (insAt l i x) = List.take i (rowOf IntE.enc l) ++ (IntE.enc x).map C.d :: List.drop i (rowOf IntE.enc l) := by
  rw [insAt, rowOf_append, rowOf_take, rowOf_drop]
  rfl
theorem insert_I (l : List IntE) (i : Nat) (x : IntE) (hl : l.length ≤ 100000) (hi : i ≤ l.length) : FnS Tryz.prog 109 [.c (.row 0 l.length), AI i, AD (I1 x)] [(0, .row 3 1 (rowOf IntE.enc l))]
    (.c (.row 1 (l.length + 1))) [(1, .row 3 1 (rowOf IntE.enc (insAt l i x)))] := by
  refine FnS.of_bodyM (enters_of Tryz.func109 (by kernel_rfl) rfl) Tryz.func109 rfl Tryz.ntmps109 Tryz.results109 rfl (by first | rfl | (simp only [wfRes, wfL, wfArgs, wfs, mpO_namesB, mpO_namesI]; rfl)) rfl fun E => ?_
  refine vc_retL ?_
  repeat' (first
    | (show VR _ _ _ (_ :: _) _ _ _; first | refine x_opF rfl (by first | exact True.intro | omega) ?_ | (show VR _ _ _ (⟨_, .call ⟨.builtin .len, _, _⟩, _, _, _, _⟩ :: _) _ _ _; first | refine vr_len_row (gk rfl) rfl rfl (by first | rfl | exact rowOf_length.symm | (simp only [lns] <;> omega)) rfl rfl ?_) | (show VR _ _ _ (⟨_, .call ⟨.builtin .append, _, _⟩, _, _, _, _⟩ :: _) _ _ _; first | refine vr_append0 (gk rfl) rfl rfl rfl (by first | rfl | exact rowOf_length.symm | (simp only [lns] <;> omega)) (by first | exact .row rfl (by first | rfl | exact rowOf_length.symm) | exact .rd | exact .nils) rfl rfl rfl (by (try dsimp only); omega) rfl rfl ?_) | (show VR _ _ _ (⟨_, .slice _ _ _ _ _, _, _, _, _⟩ :: _) _ _ _; first | refine vr_slice_sub (gk rfl) rfl rfl (by first | exact .row | exact .full) rfl rfl (by first | exact .no | exact .int rfl rfl | exact .nat rfl (by omega)) (by first | exact .no | exact .int rfl rfl | exact .nat rfl (by omega)) (by first | omega | (simp only [lns]; omega)) (by first | omega | (simp only [lns]; omega)) (by first | omega | (simp only [lns]; omega)) rfl ?_))
    | (show VR _ _ _ [] _ _ _; first | refine vr_nil ?_)
    | (show thenQ _ _ _ _; first | refine q_then_n ?_ | refine q_then_r ?_)
    | (show VC _ (.seq _ _) _ _; (fail_if_success (show VC _ (.seq (.seq (.region 8 _ _) _) _) _ _)); (fail_if_success (show VC _ (.seq (.region 8 _ _) _) _ _)); refine vc_seq ?_)
    | refine vc_region ?_
    | (show VC _ (.cond _ _ _) _ _; first | refine vc_cond_f rfl ?_ | (refine x_cond rfl ?_ ?_ <;> intro h <;> have hq := h <;> (try simp only [hqs] at hq)))
    | refine vc_ret ?_ | refine vc_skip ?_
    | fail)
  · have e : i = l.length := by omega
    subst e
    refine retL_of (le_gen0 (l := [(6, .c (.row 1 (l.length + 1)))]) (b := [(1, .row 3 1 (rowOf IntE.enc (insAt l l.length x)))]) (fun n => if n = 1 then 25 else n) ⟨⟨_, rfl, .c (.row rfl rfl)⟩, trivial⟩
      ⟨⟨_, rfl, .rowD ?_ rowOf_isD⟩, trivial⟩ rfl (by simp only [wfL, wfs]; rfl)) (ret_row isRet_r rfl rfl)
    rw [insAt, List.take_length, List.drop_length, rowOf_append]
    rfl
  · refine vc_open (nm := 0) rfl (rowOf_ne (by omega)) fun cp spare hcp hmax => ?_
    rw [rowOf_length] at hcp
    repeat' (first
      | (show VR _ _ _ (_ :: _) _ _ _; first | refine x_opF rfl (by first | exact True.intro | omega) ?_ | (show VR _ _ _ (⟨_, .call ⟨.value _, _, _⟩, _, _, _, _⟩ :: _) _ _ _; first | refine vr_overlaps (gk rfl) rfl rfl rfl (by first | exact .row | exact .full) (by omega) rfl rfl rfl ?_) | (show VR _ _ _ (⟨_, .call ⟨.builtin .append, _, _⟩, _, _, _, _⟩ :: _) _ _ _; first | refine vr_append_zerosN (gk rfl) rfl rfl rfl rfl rfl rfl rfl rfl rfl rfl (by omega) (by first | omega | (simp only [lns]; omega)) (by first | omega | (simp only [lns]; omega)) (by (try dsimp only); omega) rfl rfl ?_) | (show VR _ _ _ (⟨_, .slice _ _ _ _ _, _, _, _, _⟩ :: _) _ _ _; first | refine vr_slice_head (gk rfl) rfl rfl (by first | exact .row | exact .full) rfl rfl (by first | exact .no | exact .int rfl rfl | exact .nat rfl (by omega)) (by first | omega | (simp only [lns]; omega)) (by first | omega | (simp only [lns]; omega)) rfl ?_ | refine vr_slice_sub (gk rfl) rfl rfl (by first | exact .row | exact .full) rfl rfl (by first | exact .no | exact .int rfl rfl | exact .nat rfl (by omega)) (by first | exact .no | exact .int rfl rfl | exact .nat rfl (by omega)) (by first | omega | (simp only [lns]; omega)) (by first | omega | (simp only [lns]; omega)) (by first | omega | (simp only [lns]; omega)) rfl ?_) | (show VR _ _ _ (⟨_, .call ⟨.builtin .copy, _, _⟩, _, _, _, _⟩ :: _) _ _ _; first | refine vr_copy (gk rfl) rfl rfl (by first | exact .row | exact .sub) rfl (by first | exact .src .rd | exact .src .nils | exact .src (.row rfl (by first | exact .row | exact .full) (by first | omega | (simp only [lns]; omega))) | exact .src (.sub rfl (by first | exact .row | exact .full) (by first | omega | (simp only [lns]; omega))) | exact .tail rfl (by first | omega | (simp only [lns]; omega)) (by first | omega | (simp only [lns]; omega))) rfl rfl rfl (by first | omega | (simp only [lns]; omega)) (by first | omega | (simp only [lns]; omega)) rfl ?_) | (show VR _ _ _ (⟨_, .call ⟨.builtin .cap, _, _⟩, _, _, _, _⟩ :: _) _ _ _; first | refine vr_cap_full (gk rfl) rfl rfl rfl rfl ?_))
      | (show VR _ _ _ [] _ _ _; first | refine vr_nil ?_ | refine vr_nil_t (by kernel_rfl) ?_)
      | (show thenQ _ _ _ _; first | refine q_then_n ?_ | refine q_then_r ?_)
      | (show VC _ (.seq _ _) _ _; (fail_if_success (show VC _ (.seq (.seq (.region 10 _ _) _) _) _ _)); (fail_if_success (show VC _ (.seq (.region 10 _ _) _) _ _)); refine vc_seq ?_)
      | refine vc_region ?_ | refine vc_region_t ?_
      | (show VC _ (.cond _ _ _) _ _; first | refine vc_cond_t rfl ?_ | (refine x_cond rfl ?_ ?_ <;> intro h <;> have hq := h <;> (try simp only [hqs] at hq)))
      | refine vc_ret ?_ | refine vc_skip ?_
      | fail)
    · have hq1 : ((l.length : Int) + (1 : Nat) - i).toNat = l.length + 1 - i := by omega
      refine vc_open (nm := 40) rfl (by
        intro e
        have := congrArg List.length e
        rw [List.length_append, List.length_replicate] at this
        change _ + _ = 0 at this
        omega) fun cp2 spare2 hcp2 hmax2 => ?_
      rw [List.length_append, List.length_replicate, List.length_take, rowOf_length] at hcp2
      repeat' (first
        | (show VR _ _ _ (_ :: _) _ _ _; first | refine x_opF rfl (by first | exact True.intro | omega) ?_ | (show VR _ _ _ (⟨_, .slice _ _ _ _ _, _, _, _, _⟩ :: _) _ _ _; first | refine vr_slice_sub (gk rfl) rfl rfl (by first | exact .row | exact .full) rfl rfl (by first | exact .no | exact .int rfl rfl | exact .nat rfl (by omega)) (by first | exact .no | exact .int rfl rfl | exact .nat rfl (by omega)) (by first | omega | (simp only [lns]; omega)) (by first | omega | (simp only [lns]; omega)) (by first | omega | (simp only [lns]; omega)) rfl ?_) | (show VR _ _ _ (⟨_, .call ⟨.builtin .copy, _, _⟩, _, _, _, _⟩ :: _) _ _ _; first | refine vr_copy (gk rfl) rfl rfl (by first | exact .row | exact .sub) rfl (by first | exact .src .rd | exact .src .nils | exact .src (.row rfl (by first | exact .row | exact .full) (by first | omega | (simp only [lns]; omega))) | exact .src (.sub rfl (by first | exact .row | exact .full) (by first | omega | (simp only [lns]; omega))) | exact .tail rfl (by first | omega | (simp only [lns]; omega)) (by first | omega | (simp only [lns]; omega))) rfl rfl rfl (by first | omega | (simp only [lns]; omega)) (by first | omega | (simp only [lns]; omega)) rfl ?_))
        | (show VR _ _ _ [] _ _ _; first | refine vr_nil ?_ | refine vr_nil_t (by kernel_rfl) ?_)
        | (show thenQ _ _ _ _; first | refine q_then_n ?_ | refine q_then_r ?_)
        | refine vc_seq ?_
        | refine vc_region ?_ | refine vc_region_t ?_
        | refine vc_ret ?_
        | fail)
      refine retL_of (le_gen0 (l := [(6, .c (.row 1 (l.length + 1)))]) (b := [(1, .row 3 1 (rowOf IntE.enc (insAt l i x)))]) (fun n => if n = 1 then 40 else n) ⟨⟨_, rfl, .c (.row rfl (by omega))⟩, trivial⟩
        ⟨⟨_, rfl, .shutO (l.length + 1) ?_⟩, trivial⟩ rfl (by simp only [wfL, wfs]; rfl)) (ret_row isRet_r rfl rfl)
      rw [hq1, show min 1 (i + (l.length + 1 - i) - i) = 1 by omega, show min (l.length - i) (i + (l.length + 1 - i) - (i + 1)) = l.length - i by omega]
      exact (ins_grow (y := (IntE.enc x).map C.d) (rowOf_length (enc := IntE.enc)) (by omega) rfl).trans (ins_row_I l i x).symm
    · refine retL_of (le_gen0 (l := [(6, .c (.row 1 (l.length + 1)))]) (b := [(1, .row 3 1 (rowOf IntE.enc (insAt l i x)))]) (fun n => if n = 1 then 0 else n) ⟨⟨_, rfl, .c (.row rfl rfl)⟩, trivial⟩
        ⟨⟨_, rfl, .shutO (l.length + 1) ?_⟩, trivial⟩ rfl (by simp only [wfL, wfs]; rfl)) (ret_row isRet_r rfl rfl)
      rw [show min 1 (l.length + 1 - i) = 1 by omega, show min (l.length + 1 - i) (l.length + 1 - (i + 1)) = l.length - i by omega]
      exact (ins_room (y := (IntE.enc x).map C.d) (rowOf_length (enc := IntE.enc)) (by omega)).trans (ins_row_I l i x).symm
theorem ins_spec (l : List Int) (y : Int) (hl : l.length ≤ 100000) (hr : Rise id l) (hf : fdK id l y = false) : FnS Tryz.prog 44 [.c (.row 0 l.length), AI y] [(0, .row 3 1 (rowOf IntE.enc l))] (.c (.row 1 (l.length + 1))) [(1, .row 3 1 (rowOf IntE.enc (updK id l y)))] := by
  have hs := searchI_spec l y (by omega)
  rw [hf] at hs
  have hb : bsK id l y ≤ l.length := (bsK_spec hr y).1
  have hu : updK id l y = insAt l (bsK id l y) y := by
    have := updK_bs (k := id) (x := y) hr
    rw [this, if_neg (by show ¬ fdK id l y = true; rw [hf]; simp)]; rfl
  rw [hu]
  refine FnS.of_bodyM (enters_of Tryz.func44 (by kernel_rfl) rfl) Tryz.func44 rfl Tryz.ntmps44 Tryz.results44 rfl (by first | rfl | (simp only [wfRes, wfL, wfArgs, wfs, mpO_namesB, mpO_namesI]; rfl)) rfl fun E => ?_
  refine vc_retL ?_
  repeat' (first
    | (show VR _ _ _ (_ :: _) _ _ _; first | refine x_opF rfl (by first | exact True.intro | omega) ?_ | (show VR _ _ _ (⟨_, .call ⟨.value _, _, _⟩, _, _, _, _⟩ :: _) _ _ _; first | refine vr_callU [0] (hs) (gk rfl) rfl (by (repeat' (first | exact .nil | refine .cons ?_ ?_ | exact .of0 (.c .d) | exact .of0 .ep | exact .clo | exact (.of0 (.c (cr_rowO (by simp) rfl rfl (fun _ => rfl)))) | exact .of0 (.c .nil) | exact .of0 (.c (cr_rowO (by simp) rfl (by first | rfl | omega) (fun _ => rfl))) | refine .of0 (.agg ?_) | exact .d | exact .nil | exact .of0 (.c (cr_row (by decide) rfl rfl (by repeat' (first | exact trivial | refine ⟨?_, ?_⟩ | rfl)))))) <;> fail) (by first | rfl | exact hfl_O (fun _ => rfl) | exact hfl_O2 rfl (fun _ => rfl)) rfl (by first | rfl | (simp only [wfRes, wfL, wfArgs, wfs, mpO_namesB, mpO_namesI]; rfl)) rfl (by first | exact newB_nil | exact newB_O | ((simp only [newB, List.map_cons, List.map_nil, Blk.shift, rowOf_shift]) <;> rfl) | rfl) rfl ?_ | refine vr_callMU [18] (insert_I l (bsK id l y) y hl hb) (gk rfl) rfl rfl rowOf_isD rfl (by (repeat' (first | exact .nil | refine .cons ?_ ?_ | exact .of0 (.c .d) | exact .of0 .ep | exact .clo | exact (.of0 (.c (cr_rowO (by simp) rfl rfl (fun _ => rfl)))) | exact .of0 (.c .nil) | exact .of0 (.c (cr_rowO (by simp) rfl (by first | rfl | omega) (fun _ => rfl))) | refine .of0 (.agg ?_) | exact .d | exact .nil | exact .of0 (.c (cr_row (by decide) rfl rfl (by repeat' (first | exact trivial | refine ⟨?_, ?_⟩ | rfl)))))) <;> fail) rfl (by first | rfl | exact hfl_O (fun _ => rfl) | exact hfl_O2 rfl (fun _ => rfl)) rfl (by first | rfl | (simp only [wfRes, wfL, wfArgs, wfs, mpO_namesB, mpO_namesI]; rfl)) rfl (by first | exact newB_nil | exact newB_O | ((simp only [newB, List.map_cons, List.map_nil, Blk.shift, rowOf_shift]) <;> rfl) | rfl) rfl ?_))
    | (show VR _ _ _ [] _ _ _; first | refine vr_nil ?_)
    | (show thenQ _ _ _ _; first | refine q_then_n ?_)
    | refine vc_seq ?_
    | refine vc_region ?_
    | (show VC _ (.cond _ _ _) _ _; first | refine vc_cond_f rfl ?_)
    | refine vc_ret ?_ | refine vc_skip ?_
    | fail)
  refine retL_of (le_gen0 (l := [(4, .c (.row 1 (l.length + 1)))]) (b := [(1, .row 3 1 (rowOf IntE.enc (insAt l (bsK id l y) y)))]) (fun n => if n = 1 then 19001 else n) ?_ ?_ rfl (by first | rfl | (simp only [wfL, wfs, mpO_namesB, mpO_namesI]; rfl))) (ret_row isRet_r rfl rfl)
  all_goals repeat' (first | exact trivial | refine ⟨⟨_, rfl, ?_⟩, ?_⟩ | exact .c (.row rfl rfl) | exact .rowD rfl rowOf_isD | fail)
end Go.Proofs


