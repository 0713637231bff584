/-
  What functions of the given program hand back, by walks over its code, and plain laws on that. No condition.
-/
import Derived.Test.YtecdajajocafdaaGreatSxP18l
-- SXS
-- SXM
-- SXN
-- SXP
namespace Go.Proofs
open Go Go.Sx Go.Proofs.T Go.Proofs.Q
set_option maxRecDepth 4000
set_option linter.unusedSimpArgs false
set_option linter.unusedVariables false
attribute [local irreducible] VR VC thenQ blockQ retL
theorem del_Hd (l : List Hd) (p : Hd → Bool) (hl : l.length ≤ 100000) : FnS Tryz.prog 85 [.c (.row 0 l.length), .clo (predφHd p)] [(0, .row 67 5 (rowOf Hd.enc l))]
    (.c (.row 0 (l.filter fun x => !p x).length)) [(0, .row 67 5 (rowOf Hd.enc (l.filter fun x => !p x)))] := by
  refine FnS.of_bodyM (enters_of Tryz.func85 (by kernel_rfl) rfl) Tryz.func85 rfl Tryz.ntmps85 Tryz.results85 rfl (by first | rfl | (simp only [wfRes, wfL, wfArgs, wfs, mpO_namesB, mpO_namesI]; rfl)) rfl fun E => ?_
  refine vc_retL ?_
  have hidx := idxf_Hd l p
  cases hf : fstO l p with
  | none =>
    rw [hf] at hidx
    have hidx' : FnS Tryz.prog 109 [AD (hds l), .clo (predφHd p)] [] (AI (-1)) [] := hidx
    repeat' (first
      | (show VR _ _ _ (_ :: _) _ _ _; first | refine x_opF rfl (by first | exact True.intro | omega) ?_ | (show VR _ _ _ (⟨_, .call ⟨.value _, _, _⟩, _, _, _, _⟩ :: _) _ _ _; first | refine vr_callU [0] (hidx') (gk rfl) rfl (by (repeat' (first | exact .nil | refine .cons ?_ ?_ | exact .of0 (.c .d) | exact .of0 .ep | exact .clo | exact (.of0 (.c (cr_rowO (by simp) rfl rfl (fun _ => rfl)))) | exact .of0 (.c .nil) | exact .of0 (.c (cr_rowO (by simp) rfl (by first | rfl | omega) (fun _ => rfl))) | refine .of0 (.agg ?_) | exact .d | exact .nil | exact .of0 (.c (cr_row (by decide) rfl rfl (by repeat' (first | exact trivial | refine ⟨?_, ?_⟩ | rfl)))))) <;> fail) (by first | rfl | exact hfl_O (fun _ => rfl) | exact hfl_O2 rfl (fun _ => rfl)) rfl (by first | rfl | (simp only [wfRes, wfL, wfArgs, wfs, mpO_namesB, mpO_namesI]; rfl)) rfl (by first | exact newB_nil | exact newB_O | ((simp only [newB, List.map_cons, List.map_nil, Blk.shift, rowOf_shift]) <;> rfl) | rfl) rfl ?_))
      | (show VR _ _ _ [] _ _ _; first | refine vr_nil ?_)
      | (show thenQ _ _ _ _; first | refine q_then_n ?_ | refine q_then_r ?_)
      | refine vc_seq ?_
      | refine vc_region ?_
      | (show VC _ (.cond _ _ _) _ _; first | refine vc_cond_t rfl ?_)
      | refine vc_ret ?_
      | fail)
    have e : l.filter (fun x => !p x) = l := Go.Sx.filter_none (fstO_notmem hf)
    rw [e]
    exact retL_same (ret_row isRet_r rfl rfl)
  | some i =>
    rw [hf] at hidx
    obtain ⟨hi, hpi, hlt⟩ := fstO_some hf
    have hidx' : FnS Tryz.prog 109 [AD (hds l), .clo (predφHd p)] [] (AI (i : Nat)) [] := hidx
    repeat' (first
      | (show VR _ _ _ (_ :: _) _ _ _; first | refine x_opF rfl (by first | exact True.intro | omega) ?_ | (show VR _ _ _ (⟨_, .call ⟨.value _, _, _⟩, _, _, _, _⟩ :: _) _ _ _; first | refine vr_callU [0] (hidx') (gk rfl) rfl (by (repeat' (first | exact .nil | refine .cons ?_ ?_ | exact .of0 (.c .d) | exact .of0 .ep | exact .clo | exact (.of0 (.c (cr_rowO (by simp) rfl rfl (fun _ => rfl)))) | exact .of0 (.c .nil) | exact .of0 (.c (cr_rowO (by simp) rfl (by first | rfl | omega) (fun _ => rfl))) | refine .of0 (.agg ?_) | exact .d | exact .nil | exact .of0 (.c (cr_row (by decide) rfl rfl (by repeat' (first | exact trivial | refine ⟨?_, ?_⟩ | rfl)))))) <;> fail) (by first | rfl | exact hfl_O (fun _ => rfl) | exact hfl_O2 rfl (fun _ => rfl)) rfl (by first | rfl | (simp only [wfRes, wfL, wfArgs, wfs, mpO_namesB, mpO_namesI]; rfl)) rfl (by first | exact newB_nil | exact newB_O | ((simp only [newB, List.map_cons, List.map_nil, Blk.shift, rowOf_shift]) <;> rfl) | rfl) rfl ?_))
      | (show VR _ _ _ [] _ _ _; first | refine vr_nil ?_)
      | (show thenQ _ _ _ _; first | refine q_then_n ?_)
      | refine vc_seq ?_
      | refine vc_region ?_
      | (show VC _ (.cond _ _ _) _ _; first | refine vc_cond_f rfl ?_)
      | refine vc_block ?_ | refine vc_skip ?_
      | fail)
    refine vc_loopI (ι := Nat × Nat × List Hd) (fun q => stOf [(0, .c (.row 0 l.length)), (1, .clo (predφHd p)), (5, AI q.2.1), (6, AI q.1)] [(0, .row 67 5 (rowOf Hd.enc q.2.2))])
      (fun q => q.1 ≤ l.length ∧ q.2.1 < q.1 ∧ q.2.2.length = l.length ∧ q.2.2.take q.2.1 = (l.take q.1).filter (fun x => !p x) ∧ q.2.2.drop q.1 = l.drop q.1) (fun q => l.length - q.1) (i + 1, i, l) ⟨hi, Nat.lt_succ_self _, rfl, Go.Sx.del_start hi hpi hlt, rfl⟩ ?_ ?_
    · exact le_of ⟨rfl, rfl, rfl, rfl, trivial⟩ ⟨rfl, trivial⟩ (by simp only [wfL, wfs]; rfl)
    · rintro ⟨k, j, L⟩ ⟨h1, h2, h3, h4, h5⟩
      dsimp only at h1 h2 h3 h4 h5 ⊢
      repeat' (first
        | (show VR _ _ _ (_ :: _) _ _ _; first | refine x_opF rfl (by first | exact True.intro | omega) ?_ | (show VR _ _ _ (⟨_, .call ⟨.value _, _, _⟩, _, _, _, _⟩ :: _) _ _ _; first | refine vr_clo (⟨_, rfl, rfl⟩) (gk rfl) rfl rfl rfl rfl ?_) | (show VR _ _ _ (⟨_, .indexAddr _ _ _, _, _, _, _⟩ :: _) _ _ _; first | refine vr_index_rowO (gk rfl) rfl rfl rfl rfl rfl rfl (by omega) (by omega) rfl ?_) | (show VR _ _ _ (⟨_, .call ⟨.builtin .len, _, _⟩, _, _, _, _⟩ :: _) _ _ _; first | refine vr_len_row (gk rfl) rfl rfl (by first | rfl | exact rowOf_length.symm | (simp only [lns] <;> omega)) rfl rfl ?_) | (show VR _ _ _ (⟨_, .load _ _, _, _, _, _⟩ :: _) _ _ _; first | refine vr_load_rowO_agg (gk rfl) rfl rfl (by omega) rfl rfl rfl ?_) | (show VR _ _ _ (⟨_, .store _ _ _, _, _, _, _⟩ :: _) _ _ _; first | refine vr_store_rowO (gk rfl) rfl rfl rfl (by omega) rfl rfl rfl ?_))
        | (show VR _ _ _ [] _ _ _; first | refine vr_nil ?_)
        | (show thenQ _ _ _ _; first | refine q_then_n ?_ | refine q_then_x ?_)
        | (show blockQ _ _ _ _; first | refine q_blk_n ?_ | refine q_blk_x ?_)
        | (show VC _ (.seq _ _) _ _; (fail_if_success (show VC _ (.seq (.seq (.region 11 _ _) _) _) _ _)); (fail_if_success (show VC _ (.seq (.region 11 _ _) _) _ _)); refine vc_seq ?_)
        | refine vc_region ?_
        | (show VC _ (.cond _ _ _) _ _; first | (refine x_cond rfl ?_ ?_ <;> intro h <;> have hq := h <;> (try simp only [hqs] at hq)))
        | refine vc_exit ?_ | refine vc_block ?_ | refine vc_skip ?_
        | fail)
      · have hk : k < l.length := by omega
        obtain ⟨hx, hd⟩ := Go.Sx.drop_getD h3 h5 hk
        refine ⟨(k + 1, j + 1, L.set j (L.getD k default)), ⟨by dsimp only; omega, by dsimp only; omega, by simp [h3], ?_, ?_⟩, by dsimp only; omega, le_gen0 (fun n => n) ⟨⟨_, rfl, .c (.row rfl rfl)⟩, ⟨_, rfl, .clo⟩, ⟨_, rfl, .c .d⟩, ⟨_, rfl, .c .d⟩, trivial⟩
          ⟨⟨_, rfl, .rowD (rowOf_set rfl) rowOf_isD⟩, trivial⟩ rfl (by simp only [wfL, wfs]; rfl)⟩
        · dsimp only
          rw [Go.Sx.take_set (by omega), h4, Go.Sx.take_getD hk, List.filter_append, hx, List.filter_cons_of_pos (by rw [← hx]; exact h)]; rfl
        · dsimp only
          rw [List.drop_set_of_lt (by omega), hd]
      · have hk : k < l.length := by omega
        obtain ⟨hx, hd⟩ := Go.Sx.drop_getD h3 h5 hk
        refine ⟨(k + 1, j, L), ⟨by dsimp only; omega, by dsimp only; omega, h3, ?_, hd⟩, by dsimp only; omega, le_gen0 (fun n => n) ⟨⟨_, rfl, .c (.row rfl rfl)⟩, ⟨_, rfl, .clo⟩, ⟨_, rfl, .c .d⟩, ⟨_, rfl, .c .d⟩, trivial⟩
          ⟨⟨_, rfl, .rowD rfl rowOf_isD⟩, trivial⟩ rfl (by simp only [wfL, wfs]; rfl)⟩
        dsimp only
        rw [h4, Go.Sx.take_getD hk, List.filter_append, List.filter_cons_of_neg (by rw [← hx, h]; simp)]; simp
      · have hk : k = l.length := by omega
        subst hk
        refine vc_open (nm := 0) rfl (rowOf_ne (by omega)) fun cp spare hcp hmax => ?_
        rw [rowOf_length] at hcp
        repeat' (first
          | (show VR _ _ _ (_ :: _) _ _ _; first | refine x_opF rfl (by first | exact True.intro | omega) ?_ | (show VR _ _ _ (⟨_, .slice _ _ _ _ _, _, _, _, _⟩ :: _) _ _ _; first | refine vr_slice_head (gk rfl) rfl rfl (by first | exact .row | exact .full) rfl rfl (by first | exact .no | exact .int rfl rfl | exact .nat rfl (by omega)) (by first | omega | (simp only [lns]; omega)) (by first | omega | (simp only [lns]; omega)) rfl ?_ | refine vr_slice_sub (gk rfl) rfl rfl (by first | exact .row | exact .full) rfl rfl (by first | exact .no | exact .int rfl rfl | exact .nat rfl (by omega)) (by first | exact .no | exact .int rfl rfl | exact .nat rfl (by omega)) (by first | omega | (simp only [lns]; omega)) (by first | omega | (simp only [lns]; omega)) (by first | omega | (simp only [lns]; omega)) rfl ?_) | (show VR _ _ _ (⟨_, .call ⟨.builtin .clear, _, _⟩, _, _, _, _⟩ :: _) _ _ _; first | refine vr_clear (gk rfl) rfl (by first | exact .row | exact .sub) rfl rfl rfl rfl rfl (by first | omega | (simp only [lns]; omega)) ?_))
          | (show VR _ _ _ [] _ _ _; first | refine vr_nil ?_)
          | (show thenQ _ _ _ _; first | refine q_then_n ?_)
          | refine vc_seq ?_
          | refine vc_region ?_
          | refine vc_ret ?_
          | fail)
        rw [List.take_length] at h4
        have hj : (l.filter fun x => !p x).length = j := by rw [← h4, List.length_take]; omega
        rw [hj, ← h4]
        refine retL_of (le_gen0 (l := [(4, .c (.row 0 j))]) (b := [(0, .row 67 5 (rowOf Hd.enc (L.take j)))]) (fun n => n) ⟨⟨_, rfl, .c (.row rfl rfl)⟩, trivial⟩ ⟨⟨_, rfl, .shutO j ?_⟩, trivial⟩ rfl (by simp only [wfL, wfs]; rfl)) (ret_row isRet_r rfl rfl)
        rw [List.append_assoc, List.take_append_of_le_length (by rw [List.length_take, rowOf_length]; omega), List.take_take, Nat.min_self, rowOf_take]
theorem mexp1_spec (x : Hd) (t : Int) : FnS Tryz.prog 86 [hdA x, AD (.pt 1 fun _ => .int .i64 t)] [] (AB (decide (x.til < t))) [] := by
  refine FnS.of_body (enters_of Tryz.func86 (by kernel_rfl) rfl) Tryz.func86 rfl Tryz.ntmps86 Tryz.results86 rfl rfl rfl rfl fun E hS => ?_
  repeat' (first
    | (show VR _ _ _ (_ :: _) _ _ _; first | (show VR _ _ _ (⟨_, .load _ _, _, _, _, _⟩ :: _) _ _ _; first | refine vr_load_pt (gk rfl) rfl rfl rfl rfl ?_) | refine x_opF rfl (by first | exact True.intro | omega) ?_)
    | (show VR _ _ _ [] _ _ _; first | refine vr_nil ?_)
    | (show thenQ _ _ _ _; first | refine q_then_n ?_)
    | refine vc_seq ?_
    | refine vc_region ?_
    | refine vc_ret ?_
    | fail)
  all_goals exact ret_bool isRet_r rfl rfl
theorem mexp1_fnc {σ : St} {t : Int} {L : List Nat} : AR Tryz.prog σ L (.fnc 86 [.d (.pt 1 fun _ => .int .i64 t)]) (.clo (predφHd fun x => decide (x.til < t))) :=
  .fnc (eps := [AD (.pt 1 fun _ => .int .i64 t)]) (.cons (.c .d) .nil) (enters_of Tryz.func86 (by kernel_rfl) rfl)
    (by rintro _ _ ⟨x, rfl, rfl⟩; exact ⟨rfl, mexp1_spec x t⟩)
abbrev freshH (l : List Hd) (slot : Int) : List Hd := l.filter fun h => !decide (h.til < slot)
set_option maxHeartbeats 2000000 in
theorem mexpire_spec (s : Sta) (slot : Int) : FnS Tryz.prog 30 [stA s, AI slot] [] (.tup [stA (expireS s slot).1, AD (pks (expireS s slot).2.1), AI (expireS s slot).2.2]) [] := by
  have hck := checkS_spec s
  refine FnS.of_body (enters_of Tryz.func30 (by kernel_rfl) rfl) Tryz.func30 rfl Tryz.ntmps30 Tryz.results30 rfl rfl rfl rfl fun E hS => ?_
  refine vc_retL ?_
  by_cases hc : checkS s = 0
  · rw [hc] at hck
    have hhl := (heldB_of (checkS_of hc).2.2.2.1).1
    by_cases hs : slot < 0 ∨ 109951162 < slot
    · have e : expireS s slot = (noS, [], 2) := by rw [expireS, if_neg (by omega), if_pos hs]
      have d1 : (!decide (0 ≤ slot ∧ slot ≤ 109951162)) = true := by simp only [Bool.not_eq_true', decide_eq_false_iff_not]; omega
      rw [e]
      repeat' (first
        | (show VR _ _ _ (_ :: _) _ _ _; first | refine x_opF rfl (by first | exact True.intro | omega) ?_ | (show VR _ _ _ (⟨_, .call ⟨.value _, _, _⟩, _, _, _, _⟩ :: _) _ _ _; first | refine vr_calldU (hck) (gk rfl) rfl rfl rfl (by first | rfl | (simp only [wfRes, wfL, wfArgs, wfs, mpO_namesB, mpO_namesI]; rfl)) rfl (by first | exact newB_nil | exact newB_O | ((simp only [newB, List.map_cons, List.map_nil, Blk.shift, rowOf_shift]) <;> rfl) | rfl) rfl ?_ | refine vr_calldU (mwithin_spec _ _) (gk rfl) rfl rfl rfl (by first | rfl | (simp only [wfRes, wfL, wfArgs, wfs, mpO_namesB, mpO_namesI]; rfl)) rfl (by first | exact newB_nil | exact newB_O | ((simp only [newB, List.map_cons, List.map_nil, Blk.shift, rowOf_shift]) <;> rfl) | rfl) rfl ?_))
        | (show VR _ _ _ [] _ _ _; first | refine vr_nil ?_)
        | (show thenQ _ _ _ _; first | refine q_then_n ?_ | refine q_then_r ?_)
        | refine vc_seq ?_
        | refine vc_region ?_
        | (show VC _ (.cond _ _ _) _ _; first | refine vc_cond_t rfl ?_ | refine vc_cond_f rfl ?_ | refine x_know rfl (by assumption) ?_)
        | refine vc_ret ?_ | refine vc_skip ?_
        | fail)
      refine retL_of (le_gen0 (l := [(4, .c (.ptr 4 0)), (5, AD (pks [])), (6, AI 2)]) (b := [(4, .box noS.cs)]) (fun n => n) ?_ ?_ rfl (by first | rfl | (simp only [wfL, wfs, mpO_namesB, mpO_namesI]; rfl))) (ret_agg_ddL isRet_r rfl rfl rfl rfl rfl rfl rfl rfl rfl)
      all_goals repeat' (first | exact trivial | refine ⟨⟨_, rfl, ?_⟩, ?_⟩ | exact .c .d | exact .c (.ptr rfl) | exact .c .nil | refine .box ?_ | exact .nil | refine .cons ?_ ?_ | exact .d | fail)
    · have e : expireS s slot = (settleM { s with held := freshH s.held slot, qu := (expireQ s.qu slot).1 }, (expireQ s.qu slot).2, 0) := by rw [expireS, if_neg (by omega), if_neg hs]
      have d1 : (!decide (0 ≤ slot ∧ slot ≤ 109951162)) = false := by simp only [Bool.not_eq_false', decide_eq_true_eq]; omega
      rw [e]
      repeat' (first
        | (show VR _ _ _ (_ :: _) _ _ _; first | refine x_opF rfl (by first | exact True.intro | omega) ?_ | (show VR _ _ _ (⟨_, .call ⟨.value _, _, _⟩, _, _, _, _⟩ :: _) _ _ _; first | refine vr_calldU (hck) (gk rfl) rfl rfl rfl (by first | rfl | (simp only [wfRes, wfL, wfArgs, wfs, mpO_namesB, mpO_namesI]; rfl)) rfl (by first | exact newB_nil | exact newB_O | ((simp only [newB, List.map_cons, List.map_nil, Blk.shift, rowOf_shift]) <;> rfl) | rfl) rfl ?_ | refine vr_calldU (mwithin_spec _ _) (gk rfl) rfl rfl rfl (by first | rfl | (simp only [wfRes, wfL, wfArgs, wfs, mpO_namesB, mpO_namesI]; rfl)) rfl (by first | exact newB_nil | exact newB_O | ((simp only [newB, List.map_cons, List.map_nil, Blk.shift, rowOf_shift]) <;> rfl) | rfl) rfl ?_ | refine vr_calldU (clone_spec s hc) (gk rfl) rfl rfl rfl (by first | rfl | (simp only [wfRes, wfL, wfArgs, wfs, mpO_namesB, mpO_namesI]; rfl)) rfl (by first | exact newB_nil | exact newB_O | ((simp only [newB, List.map_cons, List.map_nil, Blk.shift, rowOf_shift]) <;> rfl) | rfl) rfl ?_))
        | (show VR _ _ _ [] _ _ _; first | refine vr_nil ?_)
        | (show thenQ _ _ _ _; first | refine q_then_n ?_)
        | (show VC _ (.seq _ _) _ _; (fail_if_success (show VC _ (.seq (.seq (.region 6 _ _) _) _) _ _)); (fail_if_success (show VC _ (.seq (.region 6 _ _) _) _ _)); refine vc_seq ?_)
        | refine vc_region ?_
        | (show VC _ (.cond _ _ _) _ _; first | refine vc_cond_f rfl ?_ | refine x_know rfl (by assumption) ?_)
        | refine vc_skip ?_
        | fail)
      refine VC.le (σ' := stOf [(2, .c (.ptr 2 0)), (3, AD (.pt 1 fun _ => .int .i64 slot)), (4, .c (.ptr 4 0)), (5, AD .nils), (6, AI 0)] [(2, .box (s.csR (.row 101 s.held.length) (.d (sns s.seen)))), (4, .box noS.cs), (101, .row 67 5 (rowOf Hd.enc s.held))]) ?_ ?_
      · refine le_gen (fun n => if n = 101 then 18101 else n) [18102, 3] hS ?_ ?_ rfl (by first | rfl | (simp only [wfL, wfs, mpO_namesB, mpO_namesI]; rfl))
        all_goals repeat' (first | exact trivial | refine ⟨⟨_, rfl, ?_⟩, ?_⟩ | exact .c .d | exact .c (.ptr rfl) | exact .rowD rfl rowOf_isD | refine .box ?_ | exact .nil | refine .cons ?_ ?_ | exact .d | exact .row rfl rfl | exact .frzOf (by first | (simp; done) | decide) rfl rfl (fun _ => rfl) | fail)
        exact .c (.cr (.ptr (by simp) rfl fun j hj => by
          have : j = 0 := by omega
          subst this; rfl))
      repeat' (first
        | (show VR _ _ _ (_ :: _) _ _ _; first | (show VR _ _ _ (⟨_, .load _ _, _, _, _, _⟩ :: _) _ _ _; first | refine vr_load_pt (gk rfl) rfl rfl rfl rfl ?_) | refine x_opF rfl (by first | exact True.intro | omega) ?_ | (show VR _ _ _ (⟨_, .call ⟨.value _, _, _⟩, _, _, _, _⟩ :: _) _ _ _; first | refine vr_calldU (expire_spec s.qu slot) (gk rfl) rfl rfl rfl (by first | rfl | (simp only [wfRes, wfL, wfArgs, wfs, mpO_namesB, mpO_namesI]; rfl)) rfl (by first | exact newB_nil | exact newB_O | ((simp only [newB, List.map_cons, List.map_nil, Blk.shift, rowOf_shift]) <;> rfl) | rfl) rfl ?_ | refine vr_callMU [] (del_Hd s.held (fun h => decide (h.til < slot)) (by omega)) (gk rfl) rfl rfl rowOf_isD rfl (.cons mexp1_fnc .nil) rfl (by first | rfl | exact hfl_O (fun _ => rfl) | exact hfl_O2 rfl (fun _ => rfl)) rfl (by first | rfl | (simp only [wfRes, wfL, wfArgs, wfs, mpO_namesB, mpO_namesI]; rfl)) rfl (by first | exact newB_nil | exact newB_O | ((simp only [newB, List.map_cons, List.map_nil, Blk.shift, rowOf_shift]) <;> rfl) | rfl) rfl ?_))
        | (show VR _ _ _ [] _ _ _; first | refine vr_nil ?_)
        | (show thenQ _ _ _ _; first | refine q_then_n ?_)
        | (show VC _ (.seq _ _) _ _; (fail_if_success (show VC _ (.seq (.seq (.region 9 _ _) _) _) _ _)); (fail_if_success (show VC _ (.seq (.region 9 _ _) _) _ _)); refine vc_seq ?_)
        | refine vc_region ?_
        | fail)
      refine VC.le (σ' := stOf [(2, .c (.ptr 2 0)), (4, .c (.ptr 4 0)), (5, AD .nils), (6, AI 0), (8, AD (pks (expireQ s.qu slot).2))] [(2, .box (Sta.cs { s with held := freshH s.held slot, qu := (expireQ s.qu slot).1 })), (4, .box noS.cs)]) ?_ ?_
      · refine le_gen (fun n => n) [22000] hS ?_ ?_ rfl (by first | rfl | (simp only [wfL, wfs, mpO_namesB, mpO_namesI]; rfl))
        all_goals repeat' (first | exact trivial | refine ⟨⟨_, rfl, ?_⟩, ?_⟩ | exact .c .d | exact .c (.ptr rfl) | exact .boxD rfl rfl | refine .box ?_ | exact .nil | refine .cons ?_ ?_ | exact .d | exact .frzOf (by first | (simp; done) | decide) rfl rfl (fun _ => rfl) | fail)
      repeat' (first
        | (show VR _ _ _ (_ :: _) _ _ _; first | refine x_opF rfl (by first | exact True.intro | omega) ?_ | (show VR _ _ _ (⟨_, .call ⟨.value _, _, _⟩, _, _, _, _⟩ :: _) _ _ _; first | refine vr_calldU (settle_spec { s with held := freshH s.held slot, qu := (expireQ s.qu slot).1 }) (gk rfl) rfl rfl rfl (by first | rfl | (simp only [wfRes, wfL, wfArgs, wfs, mpO_namesB, mpO_namesI]; rfl)) rfl (by first | exact newB_nil | exact newB_O | ((simp only [newB, List.map_cons, List.map_nil, Blk.shift, rowOf_shift]) <;> rfl) | rfl) rfl ?_))
        | (show VR _ _ _ [] _ _ _; first | refine vr_nil ?_)
        | (show thenQ _ _ _ _; first | refine q_then_n ?_)
        | refine vc_seq ?_
        | refine vc_region ?_
        | refine vc_ret ?_
        | fail)
      refine retL_of (le_gen0 (l := [(4, .c (.ptr 4 0)), (5, AD (pks (expireQ s.qu slot).2)), (6, AI 0)]) (b := [(4, .box (settleM { s with held := freshH s.held slot, qu := (expireQ s.qu slot).1 }).cs)]) (fun n => n) ?_ ?_ rfl (by first | rfl | (simp only [wfL, wfs, mpO_namesB, mpO_namesI]; rfl))) (ret_agg_ddL isRet_r rfl rfl rfl rfl rfl rfl rfl rfl rfl)
      all_goals repeat' (first | exact trivial | refine ⟨⟨_, rfl, ?_⟩, ?_⟩ | exact .c .d | exact .c (.ptr rfl) | exact .boxD rfl rfl | fail)
  · have e : expireS s slot = (noS, [], 1) := by rw [expireS, if_pos hc]
    have hd : decide (checkS s ≠ 0) = true := by simp [hc]
    rw [e]
    repeat' (first
      | (show VR _ _ _ (_ :: _) _ _ _; first | refine x_opF rfl (by first | exact True.intro | omega) ?_ | (show VR _ _ _ (⟨_, .call ⟨.value _, _, _⟩, _, _, _, _⟩ :: _) _ _ _; first | refine vr_calldU (hck) (gk rfl) rfl rfl rfl (by first | rfl | (simp only [wfRes, wfL, wfArgs, wfs, mpO_namesB, mpO_namesI]; rfl)) rfl (by first | exact newB_nil | exact newB_O | ((simp only [newB, List.map_cons, List.map_nil, Blk.shift, rowOf_shift]) <;> rfl) | rfl) rfl ?_))
      | (show VR _ _ _ [] _ _ _; first | refine vr_nil ?_)
      | (show thenQ _ _ _ _; first | refine q_then_n ?_ | refine q_then_r ?_)
      | refine vc_seq ?_
      | refine vc_region ?_
      | (show VC _ (.cond _ _ _) _ _; first | refine vc_cond_t rfl ?_ | refine x_know rfl (by assumption) ?_)
      | refine vc_ret ?_
      | fail)
    refine retL_of (le_gen0 (l := [(4, .c (.ptr 4 0)), (5, AD (pks [])), (6, AI 1)]) (b := [(4, .box noS.cs)]) (fun n => n) ?_ ?_ rfl (by first | rfl | (simp only [wfL, wfs, mpO_namesB, mpO_namesI]; rfl))) (ret_agg_ddL isRet_r rfl rfl rfl rfl rfl rfl rfl rfl rfl)
    all_goals repeat' (first | exact trivial | refine ⟨⟨_, rfl, ?_⟩, ?_⟩ | exact .c .d | exact .c (.ptr rfl) | exact .c .nil | refine .box ?_ | exact .nil | refine .cons ?_ ?_ | exact .d | fail)
/-! Hold. -/
abbrev findφHd : List DV → DV → Prop := fun ds r => ∃ x y : Hd, ds = [.agg x.enc, .agg y.enc] ∧ r = .d (.int .i64 (cmpI x.flow y.flow))
theorem searchHd_spec (l : List Hd) (y : Hd) (hl : l.length ≤ 1000000) : FnS Tryz.prog 75 [AD (hds l), hdA y, .clo findφHd] [] (.tup [AI (bsK Hd.flow l y.flow), AB (fdK Hd.flow l y.flow)]) [] := by
  refine FnS.of_body (enters_of Tryz.func75 (by kernel_rfl) rfl) Tryz.func75 rfl Tryz.ntmps75 Tryz.results75 rfl rfl rfl rfl fun E hS => ?_
  repeat' (first
    | (show VR _ _ _ (_ :: _) _ _ _; first | refine x_opF rfl (by first | exact True.intro | omega) ?_)
    | (show VR _ _ _ [] _ _ _; first | refine vr_nil ?_)
    | (show thenQ _ _ _ _; first | refine q_then_n ?_)
    | refine vc_seq ?_
    | refine vc_region ?_
    | refine vc_block ?_
    | fail)
  refine vc_loopI (ι := Nat × Nat) (fun p => stOf [(0, AD (hds l)), (2, .clo findφHd), (4, .c (.ptr 4 0)), (8, AI l.length), (9, AI p.1), (10, AI p.2)] [(4, .box y.cs)])
    (fun p => p.1 ≤ p.2 ∧ p.2 ≤ l.length ∧ bs (fun i => decide ((l.getD i default).flow < y.flow)) p.1 p.2 = bsK Hd.flow l y.flow) (fun p => p.2 - p.1) (0, l.length) ⟨Nat.zero_le _, Nat.le_refl _, rfl⟩ ?_ ?_
  · refine le_gen0 (fun n => n) ?_ ?_ rfl (by first | rfl | (simp only [wfL, wfs, mpO_namesB, mpO_namesI]; rfl))
    all_goals repeat' (first | exact trivial | refine ⟨⟨_, rfl, ?_⟩, ?_⟩ | exact .c .d | exact .clo | exact .c (.ptr rfl) | exact .boxD rfl rfl | fail)
  · rintro ⟨i, j⟩ ⟨h1, h2, h3⟩
    dsimp only at h1 h2 h3 ⊢
    repeat' (first
      | (show VR _ _ _ (_ :: _) _ _ _; first | refine x_opF rfl (by first | exact True.intro | omega) ?_ | (show VR _ _ _ (⟨_, .call ⟨.value _, _, _⟩, _, _, _, _⟩ :: _) _ _ _; first | refine vr_clo (⟨_, _, rfl, rfl⟩) (gk rfl) rfl rfl rfl rfl ?_) | (show VR _ _ _ (⟨_, .indexAddr _ _ _, _, _, _, _⟩ :: _) _ _ _; first | refine vr_index_rd (gk rfl) rfl rfl rfl rfl rfl (by omega) rfl ?_ | refine vr_index_rdN (gk rfl) rfl rfl rfl rfl (by first | omega | decide) rfl ?_) | (show VR _ _ _ (⟨_, .convert _ _ _, _, _, _, _⟩ :: _) _ _ _; first | refine vr_convert_id (gk rfl) rfl ⟨_, rfl⟩ rfl (by first | exact wrap_i64 (by omega) | exact wrap_u64 (by omega) | exact wrap_u16 (by omega) | exact wrap_u8 (by omega) | exact wrap_u32 (by omega)) rfl ?_) | (show VR _ _ _ (⟨_, .binOp _ _ _ _ _, _, _, _, _⟩ :: _) _ _ _; first | refine vr_shr (m := 1) (gk rfl) rfl rfl rfl (by decide) rfl ?_) | (refine x_gsplit rfl ?_ ?_ <;> intro h <;> have hq := h <;> (try simp only [hqs] at hq)))
      | (show VR _ _ _ [] _ _ _; first | refine vr_nil ?_ | refine vr_nil_t (by kernel_rfl) ?_)
      | (show thenQ _ _ _ _; first | refine q_then_n ?_ | refine q_then_x ?_)
      | (show blockQ _ _ _ _; first | refine q_blk_n ?_ | refine q_blk_x ?_)
      | refine vc_seq ?_
      | refine vc_region ?_ | refine vc_region_t ?_
      | (show VC _ (.cond _ _ _) _ _; first | (refine x_cond rfl ?_ ?_ <;> intro h <;> have hq := h <;> (try simp only [hqs] at hq)))
      | refine vc_ret ?_ | refine vc_exit ?_ | refine vc_block ?_ | refine vc_skip ?_
      | fail)
    · have e : (((i : Int) + (j : Int)) / 2 ^ 1).toNat = (i + j) / 2 := by omega
      rw [e] at hq
      refine ⟨((i + j) / 2 + 1, j), ⟨by dsimp only; omega, h2, ?_⟩, by dsimp only; omega, ?_⟩
      · rw [← h3]
        conv => rhs; rw [bs, if_pos (by omega)]
        rw [if_pos]
        exact decide_eq_true (cmpI_lt.1 hq)
      · dsimp only
        refine le_gen0 (fun n => n) ?_ ?_ rfl (by first | rfl | (simp only [wfL, wfs, mpO_namesB, mpO_namesI]; rfl))
        all_goals repeat' (first | exact trivial | refine ⟨⟨_, rfl, ?_⟩, ?_⟩ | exact .c .d | exact .clo | exact .c (.ptr rfl) | exact .boxD rfl rfl | fail)
    · have e : (((i : Int) + (j : Int)) / 2 ^ 1).toNat = (i + j) / 2 := by omega
      rw [e] at hq
      refine ⟨(i, (i + j) / 2), ⟨by dsimp only; omega, by dsimp only; omega, ?_⟩, by dsimp only; omega, ?_⟩
      · rw [← h3]
        conv => rhs; rw [bs, if_pos (by omega)]
        rw [if_neg]
        rw [decide_eq_true_eq, ← cmpI_lt]; exact Int.not_lt.2 hq
      · dsimp only
        refine le_gen0 (fun n => n) ?_ ?_ rfl (by first | rfl | (simp only [wfL, wfs, mpO_namesB, mpO_namesI]; rfl))
        all_goals repeat' (first | exact trivial | refine ⟨⟨_, rfl, ?_⟩, ?_⟩ | exact .c .d | exact .clo | exact .c (.ptr rfl) | exact .boxD rfl rfl | fail)
    all_goals (have e0 : bsK Hd.flow l y.flow = i := by
                 rw [← h3, bs, if_neg (by omega)])
    all_goals refine ret_d2 isRet_r rfl rfl (by rw [e0]) ?_
    · rw [fdK, e0, decide_eq_true (p := i < l.length) (by omega), Bool.true_and]
      exact congrArg D.bool (decide_eq_decide.2 cmpI_eq.symm)
    · rw [fdK, e0, decide_eq_false (p := i < l.length) (by omega)]; rfl
theorem hold1_spec (x y : Hd) : FnS Tryz.prog 76 [hdA x, hdA y] [] (AI (cmpI x.flow y.flow)) [] := by
  refine FnS.of_body (enters_of Tryz.func76 (by kernel_rfl) rfl) Tryz.func76 rfl Tryz.ntmps76 Tryz.results76 rfl rfl rfl rfl fun E hS => ?_
  repeat' (first
    | (show VR _ _ _ (_ :: _) _ _ _; first | refine x_opF rfl (by first | exact True.intro | omega) ?_ | (show VR _ _ _ (⟨_, .call ⟨.value _, _, _⟩, _, _, _, _⟩ :: _) _ _ _; first | refine vr_calldU (cmp_spec _ _) (gk rfl) rfl rfl rfl (by first | rfl | (simp only [wfRes, wfL, wfArgs, wfs, mpO_namesB, mpO_namesI]; rfl)) rfl (by first | exact newB_nil | exact newB_O | ((simp only [newB, List.map_cons, List.map_nil, Blk.shift, rowOf_shift]) <;> rfl) | rfl) rfl ?_))
    | (show VR _ _ _ [] _ _ _; first | refine vr_nil ?_)
    | (show thenQ _ _ _ _; first | refine q_then_n ?_)
    | refine vc_seq ?_
    | refine vc_region ?_
    | refine vc_ret ?_
    | fail)
  all_goals exact ret_int isRet_r rfl rfl
theorem hold1_fnc {σ : St} {L : List Nat} : AR Tryz.prog σ L (.fnc 76 []) (.clo findφHd) :=
  .fnc .nil (enters_of Tryz.func76 (by kernel_rfl) rfl) (by rintro _ _ ⟨x, t, rfl, rfl⟩; exact ⟨rfl, hold1_spec x t⟩)
instance : Overlaps Tryz.prog 135 :=
  ⟨28, 4, 67, 5, TyOK.slice Tryz.sxty28 rfl, fun w => TyOK.run_size Tryz.sxty67 w, fun args w => run_callFunc_extern Tryz.func135 (by kernel_rfl) (by kernel_rfl) (by kernel_rfl) (by kernel_rfl) args w⟩
abbrev Hd1 (x : Hd) : D := .rd 1 5 fun _ j => x.enc.getD j .nils
theorem ins_row_Hd (l : List Hd) (i : Nat) (x : Hd) : rowOf Hd.enc (insAt l i x) = List.take i (rowOf Hd.enc l) ++ (Hd.enc x).map C.d :: List.drop i (rowOf Hd.enc l) := by
  rw [insAt, rowOf_append, rowOf_take, rowOf_drop]
  rfl
theorem insert_Hd (l : List Hd) (i : Nat) (x : Hd) (hl : l.length ≤ 100000) (hi : i ≤ l.length) : FnS Tryz.prog 80 [.c (.row 0 l.length), AI i, AD (Hd1 x)] [(0, .row 67 5 (rowOf Hd.enc l))]
    (.c (.row 1 (l.length + 1))) [(1, .row 67 5 (rowOf Hd.enc (insAt l i x)))] := by
  refine FnS.of_bodyM (enters_of Tryz.func80 (by kernel_rfl) rfl) Tryz.func80 rfl Tryz.ntmps80 Tryz.results80 rfl (by first | rfl | (simp only [wfRes, wfL, wfArgs, wfs, mpO_namesB, mpO_namesI]; rfl)) rfl fun E => ?_
  refine vc_retL ?_
  repeat' (first
    | (show VR _ _ _ (_ :: _) _ _ _; first | refine x_opF rfl (by first | exact True.intro | omega) ?_ | (show VR _ _ _ (⟨_, .call ⟨.builtin .len, _, _⟩, _, _, _, _⟩ :: _) _ _ _; first | refine vr_len_row (gk rfl) rfl rfl (by first | rfl | exact rowOf_length.symm | (simp only [lns] <;> omega)) rfl rfl ?_) | (show VR _ _ _ (⟨_, .call ⟨.builtin .append, _, _⟩, _, _, _, _⟩ :: _) _ _ _; first | refine vr_append0 (gk rfl) rfl rfl rfl (by first | rfl | exact rowOf_length.symm | (simp only [lns] <;> omega)) (by first | exact .row rfl (by first | rfl | exact rowOf_length.symm) | exact .rd | exact .nils) rfl rfl rfl (by (try dsimp only); omega) rfl rfl ?_) | (show VR _ _ _ (⟨_, .slice _ _ _ _ _, _, _, _, _⟩ :: _) _ _ _; first | refine vr_slice_sub (gk rfl) rfl rfl (by first | exact .row | exact .full) rfl rfl (by first | exact .no | exact .int rfl rfl | exact .nat rfl (by omega)) (by first | exact .no | exact .int rfl rfl | exact .nat rfl (by omega)) (by first | omega | (simp only [lns]; omega)) (by first | omega | (simp only [lns]; omega)) (by first | omega | (simp only [lns]; omega)) rfl ?_))
    | (show VR _ _ _ [] _ _ _; first | refine vr_nil ?_)
    | (show thenQ _ _ _ _; first | refine q_then_n ?_ | refine q_then_r ?_)
    | (show VC _ (.seq _ _) _ _; (fail_if_success (show VC _ (.seq (.seq (.region 8 _ _) _) _) _ _)); (fail_if_success (show VC _ (.seq (.region 8 _ _) _) _ _)); refine vc_seq ?_)
    | refine vc_region ?_
    | (show VC _ (.cond _ _ _) _ _; first | refine vc_cond_f rfl ?_ | (refine x_cond rfl ?_ ?_ <;> intro h <;> have hq := h <;> (try simp only [hqs] at hq)))
    | refine vc_ret ?_ | refine vc_skip ?_
    | fail)
  · have e : i = l.length := by omega
    subst e
    refine retL_of (le_gen0 (l := [(6, .c (.row 1 (l.length + 1)))]) (b := [(1, .row 67 5 (rowOf Hd.enc (insAt l l.length x)))]) (fun n => if n = 1 then 25 else n) ⟨⟨_, rfl, .c (.row rfl rfl)⟩, trivial⟩
      ⟨⟨_, rfl, .rowD ?_ rowOf_isD⟩, trivial⟩ rfl (by simp only [wfL, wfs]; rfl)) (ret_row isRet_r rfl rfl)
    rw [insAt, List.take_length, List.drop_length, rowOf_append]
    rfl
  · refine vc_open (nm := 0) rfl (rowOf_ne (by omega)) fun cp spare hcp hmax => ?_
    rw [rowOf_length] at hcp
    repeat' (first
      | (show VR _ _ _ (_ :: _) _ _ _; first | refine x_opF rfl (by first | exact True.intro | omega) ?_ | (show VR _ _ _ (⟨_, .call ⟨.value _, _, _⟩, _, _, _, _⟩ :: _) _ _ _; first | refine vr_overlaps (gk rfl) rfl rfl rfl (by first | exact .row | exact .full) (by omega) rfl rfl rfl ?_) | (show VR _ _ _ (⟨_, .call ⟨.builtin .append, _, _⟩, _, _, _, _⟩ :: _) _ _ _; first | refine vr_append_zerosN (gk rfl) rfl rfl rfl rfl rfl rfl rfl rfl rfl rfl (by omega) (by first | omega | (simp only [lns]; omega)) (by first | omega | (simp only [lns]; omega)) (by (try dsimp only); omega) rfl rfl ?_) | (show VR _ _ _ (⟨_, .slice _ _ _ _ _, _, _, _, _⟩ :: _) _ _ _; first | refine vr_slice_head (gk rfl) rfl rfl (by first | exact .row | exact .full) rfl rfl (by first | exact .no | exact .int rfl rfl | exact .nat rfl (by omega)) (by first | omega | (simp only [lns]; omega)) (by first | omega | (simp only [lns]; omega)) rfl ?_ | refine vr_slice_sub (gk rfl) rfl rfl (by first | exact .row | exact .full) rfl rfl (by first | exact .no | exact .int rfl rfl | exact .nat rfl (by omega)) (by first | exact .no | exact .int rfl rfl | exact .nat rfl (by omega)) (by first | omega | (simp only [lns]; omega)) (by first | omega | (simp only [lns]; omega)) (by first | omega | (simp only [lns]; omega)) rfl ?_) | (show VR _ _ _ (⟨_, .call ⟨.builtin .copy, _, _⟩, _, _, _, _⟩ :: _) _ _ _; first | refine vr_copy (gk rfl) rfl rfl (by first | exact .row | exact .sub) rfl (by first | exact .src .rd | exact .src .nils | exact .src (.row rfl (by first | exact .row | exact .full) (by first | omega | (simp only [lns]; omega))) | exact .src (.sub rfl (by first | exact .row | exact .full) (by first | omega | (simp only [lns]; omega))) | exact .tail rfl (by first | omega | (simp only [lns]; omega)) (by first | omega | (simp only [lns]; omega))) rfl rfl rfl (by first | omega | (simp only [lns]; omega)) (by first | omega | (simp only [lns]; omega)) rfl ?_) | (show VR _ _ _ (⟨_, .call ⟨.builtin .cap, _, _⟩, _, _, _, _⟩ :: _) _ _ _; first | refine vr_cap_full (gk rfl) rfl rfl rfl rfl ?_))
      | (show VR _ _ _ [] _ _ _; first | refine vr_nil ?_ | refine vr_nil_t (by kernel_rfl) ?_)
      | (show thenQ _ _ _ _; first | refine q_then_n ?_ | refine q_then_r ?_)
      | (show VC _ (.seq _ _) _ _; (fail_if_success (show VC _ (.seq (.seq (.region 10 _ _) _) _) _ _)); (fail_if_success (show VC _ (.seq (.region 10 _ _) _) _ _)); refine vc_seq ?_)
      | refine vc_region ?_ | refine vc_region_t ?_
      | (show VC _ (.cond _ _ _) _ _; first | refine vc_cond_t rfl ?_ | (refine x_cond rfl ?_ ?_ <;> intro h <;> have hq := h <;> (try simp only [hqs] at hq)))
      | refine vc_ret ?_ | refine vc_skip ?_
      | fail)
    · have hq1 : ((l.length : Int) + (1 : Nat) - i).toNat = l.length + 1 - i := by omega
      refine vc_open (nm := 40) rfl (by
        intro e
        have := congrArg List.length e
        rw [List.length_append, List.length_replicate] at this
        change _ + _ = 0 at this
        omega) fun cp2 spare2 hcp2 hmax2 => ?_
      rw [List.length_append, List.length_replicate, List.length_take, rowOf_length] at hcp2
      repeat' (first
        | (show VR _ _ _ (_ :: _) _ _ _; first | refine x_opF rfl (by first | exact True.intro | omega) ?_ | (show VR _ _ _ (⟨_, .slice _ _ _ _ _, _, _, _, _⟩ :: _) _ _ _; first | refine vr_slice_sub (gk rfl) rfl rfl (by first | exact .row | exact .full) rfl rfl (by first | exact .no | exact .int rfl rfl | exact .nat rfl (by omega)) (by first | exact .no | exact .int rfl rfl | exact .nat rfl (by omega)) (by first | omega | (simp only [lns]; omega)) (by first | omega | (simp only [lns]; omega)) (by first | omega | (simp only [lns]; omega)) rfl ?_) | (show VR _ _ _ (⟨_, .call ⟨.builtin .copy, _, _⟩, _, _, _, _⟩ :: _) _ _ _; first | refine vr_copy (gk rfl) rfl rfl (by first | exact .row | exact .sub) rfl (by first | exact .src .rd | exact .src .nils | exact .src (.row rfl (by first | exact .row | exact .full) (by first | omega | (simp only [lns]; omega))) | exact .src (.sub rfl (by first | exact .row | exact .full) (by first | omega | (simp only [lns]; omega))) | exact .tail rfl (by first | omega | (simp only [lns]; omega)) (by first | omega | (simp only [lns]; omega))) rfl rfl rfl (by first | omega | (simp only [lns]; omega)) (by first | omega | (simp only [lns]; omega)) rfl ?_))
        | (show VR _ _ _ [] _ _ _; first | refine vr_nil ?_ | refine vr_nil_t (by kernel_rfl) ?_)
        | (show thenQ _ _ _ _; first | refine q_then_n ?_ | refine q_then_r ?_)
        | refine vc_seq ?_
        | refine vc_region ?_ | refine vc_region_t ?_
        | refine vc_ret ?_
        | fail)
      refine retL_of (le_gen0 (l := [(6, .c (.row 1 (l.length + 1)))]) (b := [(1, .row 67 5 (rowOf Hd.enc (insAt l i x)))]) (fun n => if n = 1 then 40 else n) ⟨⟨_, rfl, .c (.row rfl (by omega))⟩, trivial⟩
        ⟨⟨_, rfl, .shutO (l.length + 1) ?_⟩, trivial⟩ rfl (by simp only [wfL, wfs]; rfl)) (ret_row isRet_r rfl rfl)
      rw [hq1, show min 1 (i + (l.length + 1 - i) - i) = 1 by omega, show min (l.length - i) (i + (l.length + 1 - i) - (i + 1)) = l.length - i by omega]
      exact (ins_grow (y := (Hd.enc x).map C.d) (rowOf_length (enc := Hd.enc)) (by omega) rfl).trans (ins_row_Hd l i x).symm
    · refine retL_of (le_gen0 (l := [(6, .c (.row 1 (l.length + 1)))]) (b := [(1, .row 67 5 (rowOf Hd.enc (insAt l i x)))]) (fun n => if n = 1 then 0 else n) ⟨⟨_, rfl, .c (.row rfl rfl)⟩, trivial⟩
        ⟨⟨_, rfl, .shutO (l.length + 1) ?_⟩, trivial⟩ rfl (by simp only [wfL, wfs]; rfl)) (ret_row isRet_r rfl rfl)
      rw [show min 1 (l.length + 1 - i) = 1 by omega, show min (l.length + 1 - i) (l.length + 1 - (i + 1)) = l.length - i by omega]
      exact (ins_room (y := (Hd.enc x).map C.d) (rowOf_length (enc := Hd.enc)) (by omega)).trans (ins_row_Hd l i x).symm
end Go.Proofs
