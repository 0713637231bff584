/-
  What functions of the given program hand back, by walks over its code, and plain laws on that. No condition.
-/
import Derived.Test.YtecdajajocafdaaGreatSxP18Qb
import Derived.Test.YtecdajajocafdaaGreatSxLibB
-- SXS
namespace Go.Proofs.Q
open Go Go.Sx
set_option maxRecDepth 4000
set_option linter.unusedSimpArgs false
set_option linter.unusedVariables false
attribute [local irreducible] VR VC thenQ blockQ retL
abbrev predφPk (p : Pk → Bool) : List DV → DV → Prop := fun ds r => ∃ x : Pk, ds = [.agg x.enc] ∧ r = .d (.bool (p x))
theorem idxf_Pk (l : List Pk) (p : Pk → Bool) : FnS Tryz.prog 115 [AD (pks l), .clo (predφPk p)] [] (AI (oI (fstO l p))) [] := by
  refine FnS.of_body (enters_of Tryz.func115 (by kernel_rfl) rfl) Tryz.func115 rfl Tryz.ntmps115 Tryz.results115 rfl rfl rfl rfl fun E hS => ?_
  refine vc_bound (t := 0) rfl fun hb => ?_
  repeat' (first
    | (show VR _ _ _ (_ :: _) _ _ _; first | refine x_opF rfl (by first | exact True.intro | omega) ?_)
    | (show VR _ _ _ [] _ _ _; first | refine vr_nil ?_)
    | (show thenQ _ _ _ _; first | refine q_then_n ?_)
    | refine vc_seq ?_
    | refine vc_region ?_
    | refine vc_block ?_
    | fail)
  refine vc_loopI (ι := Nat) (fun k => stOf [(0, AD (pks l)), (1, .clo (predφPk p)), (7, AI l.length), (8, AI k)] []) (fun k => k ≤ l.length ∧ ∀ i, i < k → p (l.getD i default) = false) (fun k => l.length - k) 0 ⟨Nat.zero_le _, fun i hi => absurd hi (Nat.not_lt_zero _)⟩ ?_ ?_
  · exact le_of ⟨rfl, rfl, rfl, rfl, trivial⟩ trivial rfl
  · intro k hk
    repeat' (first
      | (show VR _ _ _ (_ :: _) _ _ _; first | refine x_opF rfl (by first | exact True.intro | omega) ?_ | (show VR _ _ _ (⟨_, .call ⟨.value _, _, _⟩, _, _, _, _⟩ :: _) _ _ _; first | refine vr_clo (⟨_, rfl, rfl⟩) (gk rfl) rfl rfl rfl rfl ?_) | (show VR _ _ _ (⟨_, .indexAddr _ _ _, _, _, _, _⟩ :: _) _ _ _; first | refine vr_index_rd (gk rfl) rfl rfl rfl rfl rfl (by omega) rfl ?_))
      | (show VR _ _ _ [] _ _ _; first | refine vr_nil ?_)
      | (show thenQ _ _ _ _; first | refine q_then_n ?_ | refine q_then_x ?_ | refine q_then_r ?_)
      | (show blockQ _ _ _ _; first | refine q_blk_n ?_ | refine q_blk_r ?_ | refine q_blk_x ?_)
      | refine vc_seq ?_
      | refine vc_region ?_
      | (show VC _ (.cond _ _ _) _ _; first | (refine x_cond rfl ?_ ?_ <;> intro h <;> have hq := h <;> (try simp only [hqs] at hq)))
      | refine vc_ret ?_ | refine vc_exit ?_ | refine vc_block ?_ | refine vc_skip ?_
      | fail)
    · refine ret_int isRet_r rfl ?_
      rw [fstO_hit hk.2 (by omega) h]; rfl
    · refine ⟨k + 1, ⟨by omega, fun i hi => ?_⟩, by omega, le_of ⟨rfl, rfl, rfl, rfl, trivial⟩ trivial rfl⟩
      by_cases hik : i < k
      · exact hk.2 i hik
      · have : i = k := by omega
        subst this
        exact h
    · refine ret_int isRet_r rfl ?_
      have : k = l.length := by omega
      subst this
      rw [fstO_none hk.2]; rfl
theorem containsf_Pk (l : List Pk) (p : Pk → Bool) : FnS Tryz.prog 95 [AD (pks l), .clo (predφPk p)] [] (AB (l.any p)) [] := by
  refine FnS.of_body (enters_of Tryz.func95 (by kernel_rfl) rfl) Tryz.func95 rfl Tryz.ntmps95 Tryz.results95 rfl rfl rfl rfl fun E hS => ?_
  repeat' (first
    | (show VR _ _ _ (_ :: _) _ _ _; first | refine x_opF rfl (by first | exact True.intro | omega) ?_ | (show VR _ _ _ (⟨_, .call ⟨.value _, _, _⟩, _, _, _, _⟩ :: _) _ _ _; first | refine vr_callU [] (idxf_Pk l p) (gk rfl) rfl (by (repeat' (first | exact .nil | refine .cons ?_ ?_ | exact .of0 (.c .d) | exact .of0 .ep | exact .clo | exact .of0 (.c .nil) | exact .of0 (.c (cr_rowO (by simp) rfl (by first | rfl | omega) (fun _ => rfl))) | refine .of0 (.agg ?_) | exact .d | exact .nil | exact .of0 (.c (cr_row (by decide) rfl rfl (by repeat' (first | exact trivial | refine ⟨?_, ?_⟩ | rfl)))))) <;> fail) (by first | rfl | exact hfl_O (fun _ => rfl) | exact hfl_O2 rfl (fun _ => rfl)) rfl (by first | rfl | (simp only [wfRes, wfL, wfArgs, wfs]; rfl)) rfl (by first | exact newB_O | rfl) rfl ?_))
    | (show VR _ _ _ [] _ _ _; first | refine vr_nil ?_)
    | (show thenQ _ _ _ _; first | refine q_then_n ?_)
    | refine vc_seq ?_
    | refine vc_region ?_
    | refine vc_ret ?_
    | fail)
  all_goals exact ret_bool isRet_r rfl (fstO_any _ _).symm
theorem clone_Pk (l : List Pk) (hl : l.length ≤ 100000) : FnS Tryz.prog 132 [AD (pks l)] [] (.c (.row 7 l.length)) [(7, .row 71 6 (rowOf Pk.enc l))] := by
  refine FnS.of_body (enters_of Tryz.func132 (by kernel_rfl) rfl) Tryz.func132 rfl Tryz.ntmps132 Tryz.results132 rfl rfl rfl rfl fun E hS => ?_
  refine vc_retL ?_
  repeat' (first
    | (show VR _ _ _ (_ :: _) _ _ _; first | refine x_opF rfl (by first | exact True.intro | omega) ?_)
    | (show VR _ _ _ [] _ _ _; first | refine vr_nil ?_)
    | (show thenQ _ _ _ _; first | refine q_then_n ?_)
    | (show VC _ (.seq _ _) _ _; (fail_if_success (show VC _ (.seq (.seq (.region 1 _ _) _) _) _ _)); (fail_if_success (show VC _ (.seq (.region 1 _ _) _) _ _)); refine vc_seq ?_)
    | refine vc_region ?_
    | fail)
  refine vc_seq ?_
  refine vc_seq ?_
  refine vc_isnil rfl rfl rfl rfl fun b hb => ?_
  repeat' (first
    | (show VR _ _ _ (_ :: _) _ _ _; first | refine x_opF rfl (by first | exact True.intro | omega) ?_ | (show VR _ _ _ (⟨_, .call ⟨.builtin .append, _, _⟩, _, _, _, _⟩ :: _) _ _ _; first | refine vr_append0 (gk rfl) rfl rfl rfl (by first | rfl | exact rowOf_length.symm | (simp only [lns] <;> omega)) (by first | exact .row rfl (by first | rfl | exact rowOf_length.symm) | exact .rd | exact .nils) rfl rfl rfl (by (try dsimp only); omega) rfl rfl ?_))
    | (show VR _ _ _ [] _ _ _; first | refine vr_nil ?_)
    | (show thenQ _ _ _ _; first | refine q_then_n ?_ | refine q_then_r ?_)
    | refine vc_seq ?_
    | refine vc_region ?_
    | (show VC _ (.cond _ _ _) _ _; first | (refine x_cond rfl ?_ ?_ <;> intro h <;> have hq := h <;> (try simp only [hqs] at hq)))
    | refine vc_ret ?_ | refine vc_skip ?_
    | fail)
  · have h0 : l = [] := List.eq_nil_of_length_eq_zero (hb (by assumption))
    subst h0
    exact retL_of (le_nil (T := 71) (sz := 6) (nm := 7) (t := 2) rfl rfl) (ret_row isRet_r rfl rfl)
  · refine retL_of (le_gen0 (l := [(2, .c (.row 7 l.length))]) (b := [(7, .row 71 6 (rowOf Pk.enc l))]) (fun n => n) ⟨⟨_, rfl, .c (.row rfl (by simp))⟩, trivial⟩ ⟨⟨_, rfl, .rowD ?_ rowOf_isD⟩, trivial⟩ rfl (by simp only [wfL, wfs]; rfl)) (ret_row isRet_r rfl rfl)
    exact (List.nil_append _).trans (rd_rowOf (enc := Pk.enc) (sz := 6) fun _ => rfl)
theorem del_Pk (l : List Pk) (p : Pk → Bool) (hl : l.length ≤ 100000) : FnS Tryz.prog 144 [.c (.row 0 l.length), .clo (predφPk p)] [(0, .row 71 6 (rowOf Pk.enc l))]
    (.c (.row 0 (l.filter fun x => !p x).length)) [(0, .row 71 6 (rowOf Pk.enc (l.filter fun x => !p x)))] := by
  refine FnS.of_bodyM (enters_of Tryz.func144 (by kernel_rfl) rfl) Tryz.func144 rfl Tryz.ntmps144 Tryz.results144 rfl (by first | rfl | (simp only [wfRes, wfL, wfArgs, wfs]; rfl)) rfl fun E => ?_
  refine vc_retL ?_
  have hidx := idxf_Pk l p
  cases hf : fstO l p with
  | none =>
    rw [hf] at hidx
    have hidx' : FnS Tryz.prog 115 [AD (pks l), .clo (predφPk p)] [] (AI (-1)) [] := hidx
    repeat' (first
      | (show VR _ _ _ (_ :: _) _ _ _; first | refine x_opF rfl (by first | exact True.intro | omega) ?_ | (show VR _ _ _ (⟨_, .call ⟨.value _, _, _⟩, _, _, _, _⟩ :: _) _ _ _; first | refine vr_callU [0] (hidx') (gk rfl) rfl (by (repeat' (first | exact .nil | refine .cons ?_ ?_ | exact .of0 (.c .d) | exact .of0 .ep | exact .clo | exact (.of0 (.c (cr_rowO (by simp) rfl rfl (fun _ => rfl)))) | exact .of0 (.c .nil) | exact .of0 (.c (cr_rowO (by simp) rfl (by first | rfl | omega) (fun _ => rfl))) | refine .of0 (.agg ?_) | exact .d | exact .nil | exact .of0 (.c (cr_row (by decide) rfl rfl (by repeat' (first | exact trivial | refine ⟨?_, ?_⟩ | rfl)))))) <;> fail) (by first | rfl | exact hfl_O (fun _ => rfl) | exact hfl_O2 rfl (fun _ => rfl)) rfl (by first | rfl | (simp only [wfRes, wfL, wfArgs, wfs]; rfl)) rfl (by first | exact newB_O | rfl) rfl ?_))
      | (show VR _ _ _ [] _ _ _; first | refine vr_nil ?_)
      | (show thenQ _ _ _ _; first | refine q_then_n ?_ | refine q_then_r ?_)
      | refine vc_seq ?_
      | refine vc_region ?_
      | (show VC _ (.cond _ _ _) _ _; first | refine vc_cond_t rfl ?_)
      | refine vc_ret ?_
      | fail)
    have e : l.filter (fun x => !p x) = l := Go.Sx.filter_none (fstO_notmem hf)
    rw [e]
    exact retL_same (ret_row isRet_r rfl rfl)
  | some i =>
    rw [hf] at hidx
    obtain ⟨hi, hpi, hlt⟩ := fstO_some hf
    have hidx' : FnS Tryz.prog 115 [AD (pks l), .clo (predφPk p)] [] (AI (i : Nat)) [] := hidx
    repeat' (first
      | (show VR _ _ _ (_ :: _) _ _ _; first | refine x_opF rfl (by first | exact True.intro | omega) ?_ | (show VR _ _ _ (⟨_, .call ⟨.value _, _, _⟩, _, _, _, _⟩ :: _) _ _ _; first | refine vr_callU [0] (hidx') (gk rfl) rfl (by (repeat' (first | exact .nil | refine .cons ?_ ?_ | exact .of0 (.c .d) | exact .of0 .ep | exact .clo | exact (.of0 (.c (cr_rowO (by simp) rfl rfl (fun _ => rfl)))) | exact .of0 (.c .nil) | exact .of0 (.c (cr_rowO (by simp) rfl (by first | rfl | omega) (fun _ => rfl))) | refine .of0 (.agg ?_) | exact .d | exact .nil | exact .of0 (.c (cr_row (by decide) rfl rfl (by repeat' (first | exact trivial | refine ⟨?_, ?_⟩ | rfl)))))) <;> fail) (by first | rfl | exact hfl_O (fun _ => rfl) | exact hfl_O2 rfl (fun _ => rfl)) rfl (by first | rfl | (simp only [wfRes, wfL, wfArgs, wfs]; rfl)) rfl (by first | exact newB_O | rfl) rfl ?_))
      | (show VR _ _ _ [] _ _ _; first | refine vr_nil ?_)
      | (show thenQ _ _ _ _; first | refine q_then_n ?_)
      | refine vc_seq ?_
      | refine vc_region ?_
      | (show VC _ (.cond _ _ _) _ _; first | refine vc_cond_f rfl ?_)
      | refine vc_block ?_ | refine vc_skip ?_
      | fail)
    refine vc_loopI (ι := Nat × Nat × List Pk) (fun q => stOf [(0, .c (.row 0 l.length)), (1, .clo (predφPk p)), (5, AI q.2.1), (6, AI q.1)] [(0, .row 71 6 (rowOf Pk.enc q.2.2))])
      (fun q => q.1 ≤ l.length ∧ q.2.1 < q.1 ∧ q.2.2.length = l.length ∧ q.2.2.take q.2.1 = (l.take q.1).filter (fun x => !p x) ∧ q.2.2.drop q.1 = l.drop q.1) (fun q => l.length - q.1) (i + 1, i, l) ⟨hi, Nat.lt_succ_self _, rfl, Go.Sx.del_start hi hpi hlt, rfl⟩ ?_ ?_
    · exact le_of ⟨rfl, rfl, rfl, rfl, trivial⟩ ⟨rfl, trivial⟩ (by simp only [wfL, wfs]; rfl)
    · rintro ⟨k, j, L⟩ ⟨h1, h2, h3, h4, h5⟩
      dsimp only at h1 h2 h3 h4 h5 ⊢
      repeat' (first
        | (show VR _ _ _ (_ :: _) _ _ _; first | refine x_opF rfl (by first | exact True.intro | omega) ?_ | (show VR _ _ _ (⟨_, .call ⟨.value _, _, _⟩, _, _, _, _⟩ :: _) _ _ _; first | refine vr_clo (⟨_, rfl, rfl⟩) (gk rfl) rfl rfl rfl rfl ?_) | (show VR _ _ _ (⟨_, .indexAddr _ _ _, _, _, _, _⟩ :: _) _ _ _; first | refine vr_index_rowO (gk rfl) rfl rfl rfl rfl rfl rfl (by omega) (by omega) rfl ?_) | (show VR _ _ _ (⟨_, .call ⟨.builtin .len, _, _⟩, _, _, _, _⟩ :: _) _ _ _; first | refine vr_len_row (gk rfl) rfl rfl (by first | rfl | exact rowOf_length.symm | (simp only [lns] <;> omega)) rfl rfl ?_) | (show VR _ _ _ (⟨_, .load _ _, _, _, _, _⟩ :: _) _ _ _; first | refine vr_load_rowO_agg (gk rfl) rfl rfl (by omega) rfl rfl rfl ?_) | (show VR _ _ _ (⟨_, .store _ _ _, _, _, _, _⟩ :: _) _ _ _; first | refine vr_store_rowO (gk rfl) rfl rfl rfl (by omega) rfl rfl rfl ?_))
        | (show VR _ _ _ [] _ _ _; first | refine vr_nil ?_)
        | (show thenQ _ _ _ _; first | refine q_then_n ?_ | refine q_then_x ?_)
        | (show blockQ _ _ _ _; first | refine q_blk_n ?_ | refine q_blk_x ?_)
        | (show VC _ (.seq _ _) _ _; (fail_if_success (show VC _ (.seq (.seq (.region 11 _ _) _) _) _ _)); (fail_if_success (show VC _ (.seq (.region 11 _ _) _) _ _)); refine vc_seq ?_)
        | refine vc_region ?_
        | (show VC _ (.cond _ _ _) _ _; first | (refine x_cond rfl ?_ ?_ <;> intro h <;> have hq := h <;> (try simp only [hqs] at hq)))
        | refine vc_exit ?_ | refine vc_block ?_ | refine vc_skip ?_
        | fail)
      · have hk : k < l.length := by omega
        obtain ⟨hx, hd⟩ := Go.Sx.drop_getD h3 h5 hk
        refine ⟨(k + 1, j + 1, L.set j (L.getD k default)), ⟨by dsimp only; omega, by dsimp only; omega, by simp [h3], ?_, ?_⟩, by dsimp only; omega, le_gen0 (fun n => n) ⟨⟨_, rfl, .c (.row rfl rfl)⟩, ⟨_, rfl, .clo⟩, ⟨_, rfl, .c .d⟩, ⟨_, rfl, .c .d⟩, trivial⟩
          ⟨⟨_, rfl, .rowD (rowOf_set rfl) rowOf_isD⟩, trivial⟩ rfl (by simp only [wfL, wfs]; rfl)⟩
        · dsimp only
          rw [Go.Sx.take_set (by omega), h4, Go.Sx.take_getD hk, List.filter_append, hx, List.filter_cons_of_pos (by rw [← hx]; exact h)]; rfl
        · dsimp only
          rw [List.drop_set_of_lt (by omega), hd]
      · have hk : k < l.length := by omega
        obtain ⟨hx, hd⟩ := Go.Sx.drop_getD h3 h5 hk
        refine ⟨(k + 1, j, L), ⟨by dsimp only; omega, by dsimp only; omega, h3, ?_, hd⟩, by dsimp only; omega, le_gen0 (fun n => n) ⟨⟨_, rfl, .c (.row rfl rfl)⟩, ⟨_, rfl, .clo⟩, ⟨_, rfl, .c .d⟩, ⟨_, rfl, .c .d⟩, trivial⟩
          ⟨⟨_, rfl, .rowD rfl rowOf_isD⟩, trivial⟩ rfl (by simp only [wfL, wfs]; rfl)⟩
        dsimp only
        rw [h4, Go.Sx.take_getD hk, List.filter_append, List.filter_cons_of_neg (by rw [← hx, h]; simp)]; simp
      · have hk : k = l.length := by omega
        subst hk
        refine vc_open (nm := 0) rfl (rowOf_ne (by omega)) fun cp spare hcp hmax => ?_
        rw [rowOf_length] at hcp
        repeat' (first
          | (show VR _ _ _ (_ :: _) _ _ _; first | refine x_opF rfl (by first | exact True.intro | omega) ?_ | (show VR _ _ _ (⟨_, .slice _ _ _ _ _, _, _, _, _⟩ :: _) _ _ _; first | refine vr_slice_head (gk rfl) rfl rfl (by first | exact .row | exact .full) rfl rfl (by first | exact .no | exact .int rfl rfl | exact .nat rfl (by omega)) (by first | omega | (simp only [lns]; omega)) (by first | omega | (simp only [lns]; omega)) rfl ?_ | refine vr_slice_sub (gk rfl) rfl rfl (by first | exact .row | exact .full) rfl rfl (by first | exact .no | exact .int rfl rfl | exact .nat rfl (by omega)) (by first | exact .no | exact .int rfl rfl | exact .nat rfl (by omega)) (by first | omega | (simp only [lns]; omega)) (by first | omega | (simp only [lns]; omega)) (by first | omega | (simp only [lns]; omega)) rfl ?_) | (show VR _ _ _ (⟨_, .call ⟨.builtin .clear, _, _⟩, _, _, _, _⟩ :: _) _ _ _; first | refine vr_clear (gk rfl) rfl (by first | exact .row | exact .sub) rfl rfl rfl rfl rfl (by first | omega | (simp only [lns]; omega)) ?_))
          | (show VR _ _ _ [] _ _ _; first | refine vr_nil ?_)
          | (show thenQ _ _ _ _; first | refine q_then_n ?_)
          | refine vc_seq ?_
          | refine vc_region ?_
          | refine vc_ret ?_
          | fail)
        rw [List.take_length] at h4
        have hj : (l.filter fun x => !p x).length = j := by rw [← h4, List.length_take]; omega
        rw [hj, ← h4]
        refine retL_of (le_gen0 (l := [(4, .c (.row 0 j))]) (b := [(0, .row 71 6 (rowOf Pk.enc (L.take j)))]) (fun n => n) ⟨⟨_, rfl, .c (.row rfl rfl)⟩, trivial⟩ ⟨⟨_, rfl, .shutO j ?_⟩, trivial⟩ rfl (by simp only [wfL, wfs]; rfl)) (ret_row isRet_r rfl rfl)
        rw [List.append_assoc, List.take_append_of_le_length (by rw [List.length_take, rowOf_length]; omega), List.take_take, Nat.min_self, rowOf_take]
instance : Overlaps Tryz.prog 168 :=
  ⟨25, 4, 71, 6, TyOK.slice Tryz.sxty25 rfl, fun w => TyOK.run_size Tryz.sxty71 w, fun args w => run_callFunc_extern Tryz.func168 (by kernel_rfl) (by kernel_rfl) (by kernel_rfl) (by kernel_rfl) args w⟩
abbrev Pk1 (x : Pk) : D := .rd 1 6 fun _ j => x.enc.getD j .nils
theorem ins_row_Pk (l : List Pk) (i : Nat) (x : Pk) : rowOf Pk.enc (insAt l i x) = List.take i (rowOf Pk.enc l) ++ (Pk.enc x).map C.d :: List.drop i (rowOf Pk.enc l) := by
  rw [insAt, rowOf_append, rowOf_take, rowOf_drop]
  rfl
theorem insert_Pk (l : List Pk) (i : Nat) (x : Pk) (hl : l.length ≤ 100000) (hi : i ≤ l.length) : FnS Tryz.prog 140 [.c (.row 0 l.length), AI i, AD (Pk1 x)] [(0, .row 71 6 (rowOf Pk.enc l))]
    (.c (.row 1 (l.length + 1))) [(1, .row 71 6 (rowOf Pk.enc (insAt l i x)))] := by
  refine FnS.of_bodyM (enters_of Tryz.func140 (by kernel_rfl) rfl) Tryz.func140 rfl Tryz.ntmps140 Tryz.results140 rfl (by first | rfl | (simp only [wfRes, wfL, wfArgs, wfs]; rfl)) rfl fun E => ?_
  refine vc_retL ?_
  repeat' (first
    | (show VR _ _ _ (_ :: _) _ _ _; first | refine x_opF rfl (by first | exact True.intro | omega) ?_ | (show VR _ _ _ (⟨_, .call ⟨.builtin .len, _, _⟩, _, _, _, _⟩ :: _) _ _ _; first | refine vr_len_row (gk rfl) rfl rfl (by first | rfl | exact rowOf_length.symm | (simp only [lns] <;> omega)) rfl rfl ?_) | (show VR _ _ _ (⟨_, .call ⟨.builtin .append, _, _⟩, _, _, _, _⟩ :: _) _ _ _; first | refine vr_append0 (gk rfl) rfl rfl rfl (by first | rfl | exact rowOf_length.symm | (simp only [lns] <;> omega)) (by first | exact .row rfl (by first | rfl | exact rowOf_length.symm) | exact .rd | exact .nils) rfl rfl rfl (by (try dsimp only); omega) rfl rfl ?_) | (show VR _ _ _ (⟨_, .slice _ _ _ _ _, _, _, _, _⟩ :: _) _ _ _; first | refine vr_slice_sub (gk rfl) rfl rfl (by first | exact .row | exact .full) rfl rfl (by first | exact .no | exact .int rfl rfl | exact .nat rfl (by omega)) (by first | exact .no | exact .int rfl rfl | exact .nat rfl (by omega)) (by first | omega | (simp only [lns]; omega)) (by first | omega | (simp only [lns]; omega)) (by first | omega | (simp only [lns]; omega)) rfl ?_))
    | (show VR _ _ _ [] _ _ _; first | refine vr_nil ?_)
    | (show thenQ _ _ _ _; first | refine q_then_n ?_ | refine q_then_r ?_)
    | (show VC _ (.seq _ _) _ _; (fail_if_success (show VC _ (.seq (.seq (.region 8 _ _) _) _) _ _)); (fail_if_success (show VC _ (.seq (.region 8 _ _) _) _ _)); refine vc_seq ?_)
    | refine vc_region ?_
    | (show VC _ (.cond _ _ _) _ _; first | refine vc_cond_f rfl ?_ | (refine x_cond rfl ?_ ?_ <;> intro h <;> have hq := h <;> (try simp only [hqs] at hq)))
    | refine vc_ret ?_ | refine vc_skip ?_
    | fail)
  · have e : i = l.length := by omega
    subst e
    refine retL_of (le_gen0 (l := [(6, .c (.row 1 (l.length + 1)))]) (b := [(1, .row 71 6 (rowOf Pk.enc (insAt l l.length x)))]) (fun n => if n = 1 then 25 else n) ⟨⟨_, rfl, .c (.row rfl rfl)⟩, trivial⟩
      ⟨⟨_, rfl, .rowD ?_ rowOf_isD⟩, trivial⟩ rfl (by simp only [wfL, wfs]; rfl)) (ret_row isRet_r rfl rfl)
    rw [insAt, List.take_length, List.drop_length, rowOf_append]
    rfl
  · refine vc_open (nm := 0) rfl (rowOf_ne (by omega)) fun cp spare hcp hmax => ?_
    rw [rowOf_length] at hcp
    repeat' (first
      | (show VR _ _ _ (_ :: _) _ _ _; first | refine x_opF rfl (by first | exact True.intro | omega) ?_ | (show VR _ _ _ (⟨_, .call ⟨.value _, _, _⟩, _, _, _, _⟩ :: _) _ _ _; first | refine vr_overlaps (gk rfl) rfl rfl rfl (by first | exact .row | exact .full) (by omega) rfl rfl rfl ?_) | (show VR _ _ _ (⟨_, .call ⟨.builtin .append, _, _⟩, _, _, _, _⟩ :: _) _ _ _; first | refine vr_append_zerosN (gk rfl) rfl rfl rfl rfl rfl rfl rfl rfl rfl rfl (by omega) (by first | omega | (simp only [lns]; omega)) (by first | omega | (simp only [lns]; omega)) (by (try dsimp only); omega) rfl rfl ?_) | (show VR _ _ _ (⟨_, .slice _ _ _ _ _, _, _, _, _⟩ :: _) _ _ _; first | refine vr_slice_head (gk rfl) rfl rfl (by first | exact .row | exact .full) rfl rfl (by first | exact .no | exact .int rfl rfl | exact .nat rfl (by omega)) (by first | omega | (simp only [lns]; omega)) (by first | omega | (simp only [lns]; omega)) rfl ?_ | refine vr_slice_sub (gk rfl) rfl rfl (by first | exact .row | exact .full) rfl rfl (by first | exact .no | exact .int rfl rfl | exact .nat rfl (by omega)) (by first | exact .no | exact .int rfl rfl | exact .nat rfl (by omega)) (by first | omega | (simp only [lns]; omega)) (by first | omega | (simp only [lns]; omega)) (by first | omega | (simp only [lns]; omega)) rfl ?_) | (show VR _ _ _ (⟨_, .call ⟨.builtin .copy, _, _⟩, _, _, _, _⟩ :: _) _ _ _; first | refine vr_copy (gk rfl) rfl rfl (by first | exact .row | exact .sub) rfl (by first | exact .src .rd | exact .src .nils | exact .src (.row rfl (by first | exact .row | exact .full) (by first | omega | (simp only [lns]; omega))) | exact .src (.sub rfl (by first | exact .row | exact .full) (by first | omega | (simp only [lns]; omega))) | exact .tail rfl (by first | omega | (simp only [lns]; omega)) (by first | omega | (simp only [lns]; omega))) rfl rfl rfl (by first | omega | (simp only [lns]; omega)) (by first | omega | (simp only [lns]; omega)) rfl ?_) | (show VR _ _ _ (⟨_, .call ⟨.builtin .cap, _, _⟩, _, _, _, _⟩ :: _) _ _ _; first | refine vr_cap_full (gk rfl) rfl rfl rfl rfl ?_))
      | (show VR _ _ _ [] _ _ _; first | refine vr_nil ?_ | refine vr_nil_t (by kernel_rfl) ?_)
      | (show thenQ _ _ _ _; first | refine q_then_n ?_ | refine q_then_r ?_)
      | (show VC _ (.seq _ _) _ _; (fail_if_success (show VC _ (.seq (.seq (.region 10 _ _) _) _) _ _)); (fail_if_success (show VC _ (.seq (.region 10 _ _) _) _ _)); refine vc_seq ?_)
      | refine vc_region ?_ | refine vc_region_t ?_
      | (show VC _ (.cond _ _ _) _ _; first | refine vc_cond_t rfl ?_ | (refine x_cond rfl ?_ ?_ <;> intro h <;> have hq := h <;> (try simp only [hqs] at hq)))
      | refine vc_ret ?_ | refine vc_skip ?_
      | fail)
    · have hq1 : ((l.length : Int) + (1 : Nat) - i).toNat = l.length + 1 - i := by omega
      refine vc_open (nm := 40) rfl (by
        intro e
        have := congrArg List.length e
        rw [List.length_append, List.length_replicate] at this
        change _ + _ = 0 at this
        omega) fun cp2 spare2 hcp2 hmax2 => ?_
      rw [List.length_append, List.length_replicate, List.length_take, rowOf_length] at hcp2
      repeat' (first
        | (show VR _ _ _ (_ :: _) _ _ _; first | refine x_opF rfl (by first | exact True.intro | omega) ?_ | (show VR _ _ _ (⟨_, .slice _ _ _ _ _, _, _, _, _⟩ :: _) _ _ _; first | refine vr_slice_sub (gk rfl) rfl rfl (by first | exact .row | exact .full) rfl rfl (by first | exact .no | exact .int rfl rfl | exact .nat rfl (by omega)) (by first | exact .no | exact .int rfl rfl | exact .nat rfl (by omega)) (by first | omega | (simp only [lns]; omega)) (by first | omega | (simp only [lns]; omega)) (by first | omega | (simp only [lns]; omega)) rfl ?_) | (show VR _ _ _ (⟨_, .call ⟨.builtin .copy, _, _⟩, _, _, _, _⟩ :: _) _ _ _; first | refine vr_copy (gk rfl) rfl rfl (by first | exact .row | exact .sub) rfl (by first | exact .src .rd | exact .src .nils | exact .src (.row rfl (by first | exact .row | exact .full) (by first | omega | (simp only [lns]; omega))) | exact .src (.sub rfl (by first | exact .row | exact .full) (by first | omega | (simp only [lns]; omega))) | exact .tail rfl (by first | omega | (simp only [lns]; omega)) (by first | omega | (simp only [lns]; omega))) rfl rfl rfl (by first | omega | (simp only [lns]; omega)) (by first | omega | (simp only [lns]; omega)) rfl ?_))
        | (show VR _ _ _ [] _ _ _; first | refine vr_nil ?_ | refine vr_nil_t (by kernel_rfl) ?_)
        | (show thenQ _ _ _ _; first | refine q_then_n ?_ | refine q_then_r ?_)
        | refine vc_seq ?_
        | refine vc_region ?_ | refine vc_region_t ?_
        | refine vc_ret ?_
        | fail)
      refine retL_of (le_gen0 (l := [(6, .c (.row 1 (l.length + 1)))]) (b := [(1, .row 71 6 (rowOf Pk.enc (insAt l i x)))]) (fun n => if n = 1 then 40 else n) ⟨⟨_, rfl, .c (.row rfl (by omega))⟩, trivial⟩
        ⟨⟨_, rfl, .shutO (l.length + 1) ?_⟩, trivial⟩ rfl (by simp only [wfL, wfs]; rfl)) (ret_row isRet_r rfl rfl)
      rw [hq1, show min 1 (i + (l.length + 1 - i) - i) = 1 by omega, show min (l.length - i) (i + (l.length + 1 - i) - (i + 1)) = l.length - i by omega]
      exact (ins_grow (y := (Pk.enc x).map C.d) (rowOf_length (enc := Pk.enc)) (by omega) rfl).trans (ins_row_Pk l i x).symm
    · refine retL_of (le_gen0 (l := [(6, .c (.row 1 (l.length + 1)))]) (b := [(1, .row 71 6 (rowOf Pk.enc (insAt l i x)))]) (fun n => if n = 1 then 0 else n) ⟨⟨_, rfl, .c (.row rfl rfl)⟩, trivial⟩
        ⟨⟨_, rfl, .shutO (l.length + 1) ?_⟩, trivial⟩ rfl (by simp only [wfL, wfs]; rfl)) (ret_row isRet_r rfl rfl)
      rw [show min 1 (l.length + 1 - i) = 1 by omega, show min (l.length + 1 - i) (l.length + 1 - (i + 1)) = l.length - i by omega]
      exact (ins_room (y := (Pk.enc x).map C.d) (rowOf_length (enc := Pk.enc)) (by omega)).trans (ins_row_Pk l i x).symm
theorem delete_Pk (l : List Pk) (i : Nat) (hi : i < l.length) (hl : l.length ≤ 100000) : FnS Tryz.prog 173 [.c (.row 0 l.length), AI i, AI (i + 1 : Int)] [(0, .row 71 6 (rowOf Pk.enc l))]
    (.c (.row 0 (l.length - 1))) [(0, .row 71 6 (rowOf Pk.enc (l.eraseIdx i)))] := by
  refine FnS.of_bodyM (enters_of Tryz.func173 (by kernel_rfl) rfl) Tryz.func173 rfl Tryz.ntmps173 Tryz.results173 rfl (by first | rfl | (simp only [wfRes, wfL, wfArgs, wfs]; rfl)) rfl fun E => ?_
  refine vc_retL ?_
  refine vc_open (nm := 0) rfl (rowOf_ne (by omega)) fun cp spare hcp hmax => ?_
  rw [rowOf_length] at hcp
  repeat' (first
    | (show VR _ _ _ (_ :: _) _ _ _; first | refine x_opF rfl (by first | exact True.intro | omega) ?_ | (show VR _ _ _ (⟨_, .call ⟨.builtin .len, _, _⟩, _, _, _, _⟩ :: _) _ _ _; first | refine vr_len_full (gk rfl) rfl rfl rfl rfl ?_) | (show VR _ _ _ (⟨_, .call ⟨.builtin .append, _, _⟩, _, _, _, _⟩ :: _) _ _ _; first | refine vr_append_full (gk rfl) rfl rfl rfl (by first | exact .rd | exact .nils | exact .row rfl (by first | exact .row | exact .full) (by first | omega | (simp only [lns]; omega)) | exact .sub rfl (by first | exact .row | exact .full) (by first | omega | (simp only [lns]; omega))) rfl rfl (by first | omega | (simp only [lns]; omega)) (by first | omega | (simp only [lns]; omega)) rfl ?_) | (show VR _ _ _ (⟨_, .slice _ _ _ _ (some _), _, _, _, _⟩ :: _) _ _ _; first | refine vr_slice_max (gk rfl) rfl rfl rfl rfl (by first | exact .no | exact .int rfl rfl | exact .nat rfl (by omega)) (by first | exact .no | exact .int rfl rfl | exact .nat rfl (by omega)) (by first | exact .no | exact .int rfl rfl | exact .nat rfl (by omega)) (by first | omega | (simp only [lns]; omega)) (by first | omega | (simp only [lns]; omega)) (by first | omega | (simp only [lns]; omega)) rfl ?_) | (show VR _ _ _ (⟨_, .slice _ _ _ _ _, _, _, _, _⟩ :: _) _ _ _; first | refine vr_slice_head (gk rfl) rfl rfl (by first | exact .row | exact .full) rfl rfl (by first | exact .no | exact .int rfl rfl | exact .nat rfl (by omega)) (by first | omega | (simp only [lns]; omega)) (by first | omega | (simp only [lns]; omega)) rfl ?_ | refine vr_slice_sub (gk rfl) rfl rfl (by first | exact .row | exact .full) rfl rfl (by first | exact .no | exact .int rfl rfl | exact .nat rfl (by omega)) (by first | exact .no | exact .int rfl rfl | exact .nat rfl (by omega)) (by first | omega | (simp only [lns]; omega)) (by first | omega | (simp only [lns]; omega)) (by first | omega | (simp only [lns]; omega)) rfl ?_) | (show VR _ _ _ (⟨_, .call ⟨.builtin .clear, _, _⟩, _, _, _, _⟩ :: _) _ _ _; first | refine vr_clear (gk rfl) rfl (by first | exact .row | exact .sub) rfl rfl rfl rfl rfl (by first | omega | (simp only [lns]; omega)) ?_))
    | (show VR _ _ _ [] _ _ _; first | refine vr_nil ?_ | refine vr_nil_t (by kernel_rfl) ?_)
    | (show thenQ _ _ _ _; first | refine q_then_n ?_ | refine q_then_r ?_)
    | refine vc_seq ?_
    | refine vc_region ?_ | refine vc_region_t ?_
    | (show VC _ (.cond _ _ _) _ _; first | (refine x_cond rfl ?_ ?_ <;> intro h <;> have hq := h <;> (try simp only [hqs] at hq)))
    | refine vc_ret ?_ | refine vc_skip ?_
    | fail)
  · exfalso; omega
  · have e1 : i + (l.length - (i + 1)) = l.length - 1 := by omega
    have e2 : (l.eraseIdx i).length = l.length - 1 := List.length_eraseIdx_of_lt hi
    refine retL_of (le_gen0 (l := [(6, .c (.row 0 (l.length - 1)))]) (b := [(0, .row 71 6 (rowOf Pk.enc (l.eraseIdx i)))]) (fun n => n) ⟨⟨_, rfl, .c (.row rfl e1)⟩, trivial⟩ ⟨⟨_, rfl, .shutO (l.length - 1) ?_⟩, trivial⟩ rfl (by simp only [wfL, wfs]; rfl)) (ret_row isRet_r rfl rfl)
    rw [e1]
    exact del_row (rowOf_length (enc := Pk.enc)) hi
abbrev predφDp (p : Dp → Bool) : List DV → DV → Prop := fun ds r => ∃ x : Dp, ds = [.agg x.enc] ∧ r = .d (.bool (p x))
theorem samePks_spec (a b : List Pk) : FnS Tryz.prog 29 [AD (pks a), AD (pks b)] [] (AB (decide (a = b))) [] := by
  refine FnS.of_body (enters_of Tryz.func29 (by kernel_rfl) rfl) Tryz.func29 rfl Tryz.ntmps29 Tryz.results29 rfl rfl rfl rfl fun E hS => ?_
  refine vc_bound (t := 0) rfl fun hb => ?_
  repeat' (first
    | (show VR _ _ _ (_ :: _) _ _ _; first | refine x_opF rfl (by first | exact True.intro | omega) ?_)
    | (show VR _ _ _ [] _ _ _; first | refine vr_nil ?_)
    | (show thenQ _ _ _ _; first | refine q_then_n ?_ | refine q_then_r ?_)
    | refine vc_seq ?_
    | refine vc_region ?_
    | (show VC _ (.cond _ _ _) _ _; first | (refine x_cond rfl ?_ ?_ <;> intro h <;> have hq := h <;> (try simp only [hqs] at hq)))
    | refine vc_ret ?_ | refine vc_block ?_ | refine vc_skip ?_
    | fail)
  · refine ret_bool isRet_r rfl ?_
    have : a ≠ b := fun e => by subst e; simp_all
    simp [this]
  · refine vc_loopI (ι := Nat) (fun k => stOf [(0, AD (pks a)), (1, AD (pks b)), (5, AI k)] []) (fun k => k ≤ a.length ∧ ∀ i, i < k → a.getD i default = b.getD i default) (fun k => a.length - k) 0 ⟨Nat.zero_le _, fun i hi => absurd hi (Nat.not_lt_zero _)⟩ ?_ ?_
    · exact le_of ⟨rfl, rfl, rfl, trivial⟩ trivial rfl
    · rintro k ⟨hk, hall⟩
      repeat' (first
        | (show VR _ _ _ (_ :: _) _ _ _; first | refine x_opF rfl (by first | exact True.intro | omega) ?_ | (show VR _ _ _ (⟨_, .indexAddr _ _ _, _, _, _, _⟩ :: _) _ _ _; first | refine vr_index_rd (gk rfl) rfl rfl rfl rfl rfl (by omega) rfl ?_) | (show VR _ _ _ (⟨_, .binOp _ _ _ _ _, _, _, _, _⟩ :: _) _ _ _; first | refine vr_neqA (gk rfl) rfl rfl rfl rfl rfl rfl rfl ?_))
        | (show VR _ _ _ [] _ _ _; first | refine vr_nil ?_ | refine vr_nil_t (by kernel_rfl) ?_)
        | (show thenQ _ _ _ _; first | refine q_then_n ?_ | refine q_then_x ?_ | refine q_then_r ?_)
        | (show blockQ _ _ _ _; first | refine q_blk_n ?_ | refine q_blk_r ?_ | refine q_blk_x ?_)
        | refine vc_seq ?_
        | refine vc_region ?_ | refine vc_region_t ?_
        | (show VC _ (.cond _ _ _) _ _; first | (refine x_cond rfl ?_ ?_ <;> intro h <;> have hq := h <;> (try simp only [hqs] at hq)))
        | refine vc_ret ?_ | refine vc_exit ?_ | refine vc_block ?_ | refine vc_skip ?_
        | fail)
      · refine ret_bool isRet_r rfl ?_
        have : a ≠ b := fun e => hq (by rw [e])
        simp [this]
      · refine ⟨k + 1, ⟨by omega, fun i hi => ?_⟩, by omega, le_of ⟨rfl, rfl, rfl, trivial⟩ trivial rfl⟩
        by_cases hik : i < k
        · exact hall i hik
        · have : i = k := by omega
          subst this
          exact pk_sv hq
      · refine ret_bool isRet_r rfl ?_
        have : a = b := Go.Sx.list_getD (by omega) fun i hi => hall i (by omega)
        simp [this]
end Go.Proofs.Q
