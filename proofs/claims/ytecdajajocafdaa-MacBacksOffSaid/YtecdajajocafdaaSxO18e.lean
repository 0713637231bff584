/-
  What functions of the given program hand back, by walks over its code, and plain laws on that. No condition.
-/
import Derived.Test.YtecdajajocafdaaSxO18d
-- SXS
-- SXM
namespace Go.Proofs
open Go Go.Sx Go.Proofs.T Go.Proofs.Q
set_option maxRecDepth 4000
set_option linter.unusedSimpArgs false
set_option linter.unusedVariables false
attribute [local irreducible] VR VC thenQ blockQ retL
/-! Lists that rise are short. -/
theorem rise_len {n : Nat} {g : Nat → Int} (h : ∀ i, i < n → 0 ≤ g i ∧ g i ≤ 31 ∧ (0 < i → g (i - 1) < g i)) : n ≤ 32 := by
  have h1 : ∀ i, i < n → (i : Int) ≤ g i := by
    intro i
    induction i with
    | zero => intro hi; have := (h 0 hi).1; omega
    | succ i ih =>
      intro hi
      have h2 := ih (by omega)
      have h3 := (h (i + 1) hi).2.2 (by omega)
      rw [Nat.add_sub_cancel] at h3
      omega
  rcases Nat.lt_or_ge 32 n with h4 | h4
  · have := h1 32 h4
    have := (h 32 h4).2.1
    omega
  · exact h4
theorem risingB_of {l : List Int} (h : risingB l = true) : ∀ i, i < l.length → 0 ≤ l.getD i default ∧ l.getD i default ≤ 31 ∧ (0 < i → l.getD (i - 1) default < l.getD i default) := by
  intro i hi
  simp only [risingB, Bool.not_eq_true'] at h
  have := of_decide_eq_false (anyR_false h hi)
  omega
theorem risingB_len {l : List Int} (h : risingB l = true) : l.length ≤ 32 := rise_len (g := fun i => l.getD i default) (risingB_of h)
theorem seenB_of {l : List Sn} (h : seenB l = true) : ∀ i, i < l.length → 0 ≤ (l.getD i default).node ∧ (l.getD i default).node ≤ 31 ∧ 0 ≤ (l.getD i default).seq ∧ (l.getD i default).seq ≤ 255 ∧ (0 < i → (l.getD (i - 1) default).node < (l.getD i default).node) := by
  intro i hi
  simp only [seenB, Bool.not_eq_true'] at h
  have := of_decide_eq_false (anyR_false h hi)
  omega
theorem seenB_len {l : List Sn} (h : seenB l = true) : l.length ≤ 32 := rise_len (g := fun i => (l.getD i default).node) fun i hi => by
  have := seenB_of h i hi
  exact ⟨this.1, this.2.1, this.2.2.2.2⟩
theorem clone_TC (l : List TC) (hl : l.length ≤ 100000) : FnS Try.prog 27 [AD (tcs l)] [] (.c (.row 7 l.length)) [(7, .row 60 6 (rowOf TC.enc l))] := by
  refine FnS.of_body (enters_of Try.func27 (by kernel_rfl) rfl) Try.func27 rfl Try.ntmps27 Try.results27 rfl rfl rfl rfl fun E hS => ?_
  refine vc_retL ?_
  repeat' (first
    | (show VR _ _ _ (_ :: _) _ _ _; first | refine x_opF rfl (by first | exact True.intro | omega) ?_)
    | (show VR _ _ _ [] _ _ _; first | refine vr_nil ?_)
    | (show thenQ _ _ _ _; first | refine q_then_n ?_)
    | (show VC _ (.seq _ _) _ _; (fail_if_success (show VC _ (.seq (.seq (.region 1 _ _) _) _) _ _)); (fail_if_success (show VC _ (.seq (.region 1 _ _) _) _ _)); refine vc_seq ?_)
    | refine vc_region ?_
    | fail)
  refine vc_seq ?_
  refine vc_seq ?_
  refine vc_isnil rfl rfl rfl rfl fun b hb => ?_
  repeat' (first
    | (show VR _ _ _ (_ :: _) _ _ _; first | refine x_opF rfl (by first | exact True.intro | omega) ?_ | (show VR _ _ _ (⟨_, .call ⟨.builtin .append, _, _⟩, _, _, _, _⟩ :: _) _ _ _; first | refine vr_append0 (gk rfl) rfl rfl rfl (by first | rfl | exact rowOf_length.symm | (simp only [lns] <;> omega)) (by first | exact .row rfl (by first | rfl | exact rowOf_length.symm) | exact .rd | exact .nils) rfl rfl rfl (by (try dsimp only); omega) rfl rfl ?_))
    | (show VR _ _ _ [] _ _ _; first | refine vr_nil ?_)
    | (show thenQ _ _ _ _; first | refine q_then_n ?_ | refine q_then_r ?_)
    | refine vc_seq ?_
    | refine vc_region ?_
    | (show VC _ (.cond _ _ _) _ _; first | (refine x_cond rfl ?_ ?_ <;> intro h <;> have hq := h <;> (try simp only [hqs] at hq)))
    | refine vc_ret ?_ | refine vc_skip ?_
    | fail)
  · have h0 : l = [] := List.eq_nil_of_length_eq_zero (hb (by assumption))
    subst h0
    exact retL_of (le_nil (T := 60) (sz := 6) (nm := 7) (t := 2) rfl rfl) (ret_row isRet_r rfl rfl)
  · refine retL_of (le_gen0 (l := [(2, .c (.row 7 l.length))]) (b := [(7, .row 60 6 (rowOf TC.enc l))]) (fun n => n) ⟨⟨_, rfl, .c (.row rfl (by simp))⟩, trivial⟩ ⟨⟨_, rfl, .rowD ?_ rowOf_isD⟩, trivial⟩ rfl (by simp only [wfL, wfs]; rfl)) (ret_row isRet_r rfl rfl)
    exact (List.nil_append _).trans (rd_rowOf (enc := TC.enc) (sz := 6) fun _ => rfl)
theorem clone_Hd (l : List Hd) (hl : l.length ≤ 100000) : FnS Try.prog 40 [AD (hds l)] [] (.c (.row 7 l.length)) [(7, .row 75 5 (rowOf Hd.enc l))] := by
  refine FnS.of_body (enters_of Try.func40 (by kernel_rfl) rfl) Try.func40 rfl Try.ntmps40 Try.results40 rfl rfl rfl rfl fun E hS => ?_
  refine vc_retL ?_
  repeat' (first
    | (show VR _ _ _ (_ :: _) _ _ _; first | refine x_opF rfl (by first | exact True.intro | omega) ?_)
    | (show VR _ _ _ [] _ _ _; first | refine vr_nil ?_)
    | (show thenQ _ _ _ _; first | refine q_then_n ?_)
    | (show VC _ (.seq _ _) _ _; (fail_if_success (show VC _ (.seq (.seq (.region 1 _ _) _) _) _ _)); (fail_if_success (show VC _ (.seq (.region 1 _ _) _) _ _)); refine vc_seq ?_)
    | refine vc_region ?_
    | fail)
  refine vc_seq ?_
  refine vc_seq ?_
  refine vc_isnil rfl rfl rfl rfl fun b hb => ?_
  repeat' (first
    | (show VR _ _ _ (_ :: _) _ _ _; first | refine x_opF rfl (by first | exact True.intro | omega) ?_ | (show VR _ _ _ (⟨_, .call ⟨.builtin .append, _, _⟩, _, _, _, _⟩ :: _) _ _ _; first | refine vr_append0 (gk rfl) rfl rfl rfl (by first | rfl | exact rowOf_length.symm | (simp only [lns] <;> omega)) (by first | exact .row rfl (by first | rfl | exact rowOf_length.symm) | exact .rd | exact .nils) rfl rfl rfl (by (try dsimp only); omega) rfl rfl ?_))
    | (show VR _ _ _ [] _ _ _; first | refine vr_nil ?_)
    | (show thenQ _ _ _ _; first | refine q_then_n ?_ | refine q_then_r ?_)
    | refine vc_seq ?_
    | refine vc_region ?_
    | (show VC _ (.cond _ _ _) _ _; first | (refine x_cond rfl ?_ ?_ <;> intro h <;> have hq := h <;> (try simp only [hqs] at hq)))
    | refine vc_ret ?_ | refine vc_skip ?_
    | fail)
  · have h0 : l = [] := List.eq_nil_of_length_eq_zero (hb (by assumption))
    subst h0
    exact retL_of (le_nil (T := 75) (sz := 5) (nm := 7) (t := 2) rfl rfl) (ret_row isRet_r rfl rfl)
  · refine retL_of (le_gen0 (l := [(2, .c (.row 7 l.length))]) (b := [(7, .row 75 5 (rowOf Hd.enc l))]) (fun n => n) ⟨⟨_, rfl, .c (.row rfl (by simp))⟩, trivial⟩ ⟨⟨_, rfl, .rowD ?_ rowOf_isD⟩, trivial⟩ rfl (by simp only [wfL, wfs]; rfl)) (ret_row isRet_r rfl rfl)
    exact (List.nil_append _).trans (rd_rowOf (enc := Hd.enc) (sz := 5) fun _ => rfl)
theorem clone_Sn (l : List Sn) (hl : l.length ≤ 100000) : FnS Try.prog 41 [AD (sns l)] [] (.c (.row 7 l.length)) [(7, .row 102 2 (rowOf Sn.enc l))] := by
  refine FnS.of_body (enters_of Try.func41 (by kernel_rfl) rfl) Try.func41 rfl Try.ntmps41 Try.results41 rfl rfl rfl rfl fun E hS => ?_
  refine vc_retL ?_
  repeat' (first
    | (show VR _ _ _ (_ :: _) _ _ _; first | refine x_opF rfl (by first | exact True.intro | omega) ?_)
    | (show VR _ _ _ [] _ _ _; first | refine vr_nil ?_)
    | (show thenQ _ _ _ _; first | refine q_then_n ?_)
    | (show VC _ (.seq _ _) _ _; (fail_if_success (show VC _ (.seq (.seq (.region 1 _ _) _) _) _ _)); (fail_if_success (show VC _ (.seq (.region 1 _ _) _) _ _)); refine vc_seq ?_)
    | refine vc_region ?_
    | fail)
  refine vc_seq ?_
  refine vc_seq ?_
  refine vc_isnil rfl rfl rfl rfl fun b hb => ?_
  repeat' (first
    | (show VR _ _ _ (_ :: _) _ _ _; first | refine x_opF rfl (by first | exact True.intro | omega) ?_ | (show VR _ _ _ (⟨_, .call ⟨.builtin .append, _, _⟩, _, _, _, _⟩ :: _) _ _ _; first | refine vr_append0 (gk rfl) rfl rfl rfl (by first | rfl | exact rowOf_length.symm | (simp only [lns] <;> omega)) (by first | exact .row rfl (by first | rfl | exact rowOf_length.symm) | exact .rd | exact .nils) rfl rfl rfl (by (try dsimp only); omega) rfl rfl ?_))
    | (show VR _ _ _ [] _ _ _; first | refine vr_nil ?_)
    | (show thenQ _ _ _ _; first | refine q_then_n ?_ | refine q_then_r ?_)
    | refine vc_seq ?_
    | refine vc_region ?_
    | (show VC _ (.cond _ _ _) _ _; first | (refine x_cond rfl ?_ ?_ <;> intro h <;> have hq := h <;> (try simp only [hqs] at hq)))
    | refine vc_ret ?_ | refine vc_skip ?_
    | fail)
  · have h0 : l = [] := List.eq_nil_of_length_eq_zero (hb (by assumption))
    subst h0
    exact retL_of (le_nil (T := 102) (sz := 2) (nm := 7) (t := 2) rfl rfl) (ret_row isRet_r rfl rfl)
  · refine retL_of (le_gen0 (l := [(2, .c (.row 7 l.length))]) (b := [(7, .row 102 2 (rowOf Sn.enc l))]) (fun n => n) ⟨⟨_, rfl, .c (.row rfl (by simp))⟩, trivial⟩ ⟨⟨_, rfl, .rowD ?_ rowOf_isD⟩, trivial⟩ rfl (by simp only [wfL, wfs]; rfl)) (ret_row isRet_r rfl rfl)
    exact (List.nil_append _).trans (rd_rowOf (enc := Sn.enc) (sz := 2) fun _ => rfl)
theorem clone_I (l : List IntE) (hl : l.length ≤ 100000) : FnS Try.prog 42 [AD (ints l)] [] (.c (.row 7 l.length)) [(7, .row 3 1 (rowOf IntE.enc l))] := by
  refine FnS.of_body (enters_of Try.func42 (by kernel_rfl) rfl) Try.func42 rfl Try.ntmps42 Try.results42 rfl rfl rfl rfl fun E hS => ?_
  refine vc_retL ?_
  repeat' (first
    | (show VR _ _ _ (_ :: _) _ _ _; first | refine x_opF rfl (by first | exact True.intro | omega) ?_)
    | (show VR _ _ _ [] _ _ _; first | refine vr_nil ?_)
    | (show thenQ _ _ _ _; first | refine q_then_n ?_)
    | (show VC _ (.seq _ _) _ _; (fail_if_success (show VC _ (.seq (.seq (.region 1 _ _) _) _) _ _)); (fail_if_success (show VC _ (.seq (.region 1 _ _) _) _ _)); refine vc_seq ?_)
    | refine vc_region ?_
    | fail)
  refine vc_seq ?_
  refine vc_seq ?_
  refine vc_isnil rfl rfl rfl rfl fun b hb => ?_
  repeat' (first
    | (show VR _ _ _ (_ :: _) _ _ _; first | refine x_opF rfl (by first | exact True.intro | omega) ?_ | (show VR _ _ _ (⟨_, .call ⟨.builtin .append, _, _⟩, _, _, _, _⟩ :: _) _ _ _; first | refine vr_append0 (gk rfl) rfl rfl rfl (by first | rfl | exact rowOf_length.symm | (simp only [lns] <;> omega)) (by first | exact .row rfl (by first | rfl | exact rowOf_length.symm) | exact .rd | exact .nils) rfl rfl rfl (by (try dsimp only); omega) rfl rfl ?_))
    | (show VR _ _ _ [] _ _ _; first | refine vr_nil ?_)
    | (show thenQ _ _ _ _; first | refine q_then_n ?_ | refine q_then_r ?_)
    | refine vc_seq ?_
    | refine vc_region ?_
    | (show VC _ (.cond _ _ _) _ _; first | (refine x_cond rfl ?_ ?_ <;> intro h <;> have hq := h <;> (try simp only [hqs] at hq)))
    | refine vc_ret ?_ | refine vc_skip ?_
    | fail)
  · have h0 : l = [] := List.eq_nil_of_length_eq_zero (hb (by assumption))
    subst h0
    exact retL_of (le_nil (T := 3) (sz := 1) (nm := 7) (t := 2) rfl rfl) (ret_row isRet_r rfl rfl)
  · refine retL_of (le_gen0 (l := [(2, .c (.row 7 l.length))]) (b := [(7, .row 3 1 (rowOf IntE.enc l))]) (fun n => n) ⟨⟨_, rfl, .c (.row rfl (by simp))⟩, trivial⟩ ⟨⟨_, rfl, .rowD ?_ rowOf_isD⟩, trivial⟩ rfl (by simp only [wfL, wfs]; rfl)) (ret_row isRet_r rfl rfl)
    exact (List.nil_append _).trans (rd_rowOf (enc := IntE.enc) (sz := 1) fun _ => rfl)
def Sta.csR (s : Sta) (H S : C) : List C := [.d (.int .i64 s.tb.node), .d (.int .i64 s.tb.len), .d (tcs s.tb.cells), .d (.int .i64 s.qu.limit), .d (pks s.qu.packets), H, S,
  .d (.int .i64 s.list), .d (.int .i64 s.seq), .d (.int .i64 s.trying), .d (.int .i64 s.tries), .d (.int .i64 s.back), .d (.int .i64 s.wait), .d (.int .i64 s.seed)]
/-- A copied inner slice that is no longer written reads as the old one. -/
theorem bw_frz {σ : St} {f : Nat → Nat} {L : List Nat} {T k : Nat} {l : List Hd} {c : C} (hk : k < l.length) (hc : CW σ f L c (.d (ints (l.getD k default).acked))) :
    BW σ f L (.row T 5 ((rowOf Hd.enc l).set k (putC ((Hd.enc (l.getD k default)).map C.d) 4 [c]))) (.row T 5 (rowOf Hd.enc l)) := by
  refine .row ?_
  refine All2.of_get (by simp) fun i a b ha hb => ?_
  have hi : i < l.length := by have := (List.getElem?_eq_some_iff.1 hb).1; rwa [rowOf_length] at this
  rw [rowOf_get hi] at hb
  injection hb with hb; subst hb
  by_cases hik : i = k
  · subst hik
    rw [set_get (rowOf_get hi)] at ha
    injection ha with ha; subst ha
    exact .cons .d (.cons .d (.cons .d (.cons .d (.cons hc .nil))))
  · rw [List.getElem?_set_ne (fun e => hik e.symm), rowOf_get hi] at ha
    injection ha with ha; subst ha
    exact CWs.refl (by simp [Hd.enc, C.isD])
set_option maxHeartbeats 1000000 in
theorem clone_spec (s : Sta) (hck : checkS s = 0) : FnS Try.prog 16 [stA s] [] (.agg (s.csR (.row 101 s.held.length) (.row 102 s.seen.length)))
    [(101, .row 75 5 (rowOf Hd.enc s.held)), (102, .row 102 2 (rowOf Sn.enc s.seen))] := by
  obtain ⟨hT, hQ, _, hH, hSn, _, _⟩ := checkS_of hck
  have hTl := checkT_len hT
  have hQl := checkQ_len hQ
  have hHl := heldB_of hH
  have hSl := seenB_len hSn
  refine FnS.of_body (enters_of Try.func16 (by kernel_rfl) rfl) Try.func16 rfl Try.ntmps16 Try.results16 rfl rfl rfl rfl fun E hS => ?_
  refine vc_retL ?_
  repeat' (first
    | (show VR _ _ _ (_ :: _) _ _ _; first | refine x_opF rfl (by first | exact True.intro | omega) ?_ | (show VR _ _ _ (⟨_, .call ⟨.value _, _, _⟩, _, _, _, _⟩ :: _) _ _ _; first | refine vr_calldU (clone_TC s.tb.cells (by omega)) (gk rfl) rfl rfl rfl (by first | rfl | (simp only [wfRes, wfL, wfArgs, wfs, mpO_namesB, mpO_namesI]; rfl)) rfl (by first | exact newB_O | rfl) rfl ?_ | refine vr_calldU (clone_Pk s.qu.packets (by omega)) (gk rfl) rfl rfl rfl (by first | rfl | (simp only [wfRes, wfL, wfArgs, wfs, mpO_namesB, mpO_namesI]; rfl)) rfl (by first | exact newB_O | rfl) rfl ?_ | refine vr_calldU (clone_Hd s.held (by omega)) (gk rfl) rfl rfl rfl (by first | rfl | (simp only [wfRes, wfL, wfArgs, wfs, mpO_namesB, mpO_namesI]; rfl)) rfl (by first | exact newB_O | rfl) rfl ?_ | refine vr_calldU (clone_Sn s.seen (by omega)) (gk rfl) rfl rfl rfl (by first | rfl | (simp only [wfRes, wfL, wfArgs, wfs, mpO_namesB, mpO_namesI]; rfl)) rfl (by first | exact newB_O | rfl) rfl ?_) | (show VR _ _ _ (⟨_, .call ⟨.builtin .len, _, _⟩, _, _, _, _⟩ :: _) _ _ _; first | refine vr_len_row (gk rfl) rfl rfl (by first | rfl | exact rowOf_length.symm | (simp only [lns] <;> omega)) rfl rfl ?_))
    | (show VR _ _ _ [] _ _ _; first | refine vr_nil ?_ | refine vr_nil_t (by kernel_rfl) ?_)
    | (show thenQ _ _ _ _; first | refine q_then_n ?_)
    | refine vc_seq ?_
    | refine vc_region ?_ | refine vc_region_t ?_
    | refine vc_block ?_
    | fail)
  refine vc_loopI (ι := Nat) (fun k => stOf [(1, .c (.ptr 1 0)), (2, .c (.ptr 2 0)), (26, AI s.held.length), (27, AI k)] [(1, .box (s.csR (.row 101 s.held.length) (.row 102 s.seen.length))), (2, .box noS.cs), (101, .row 75 5 (rowOf Hd.enc s.held)), (102, .row 102 2 (rowOf Sn.enc s.seen))])
    (fun k => k ≤ s.held.length) (fun k => s.held.length - k) 0 (Nat.zero_le _) ?_ ?_
  · refine le_gen (fun n => if n = 101 then 18007 else if n = 102 then 21007 else n) [7007, 11007] hS ?_ ?_ rfl (by first | rfl | (simp only [wfL, wfs, mpO_namesB, mpO_namesI]; rfl))
    all_goals repeat' (first | exact trivial | refine ⟨⟨_, rfl, ?_⟩, ?_⟩ | exact .c .d | exact .c (.ptr rfl) | exact .rowD rfl rowOf_isD | refine .box ?_ | exact .nil | refine .cons ?_ ?_ | exact .d | exact .row rfl rfl | exact .frzOf (by first | (simp; done) | decide) rfl rfl (fun _ => rfl) | fail)
  · intro k hk
    rcases Nat.lt_or_ge k s.held.length with hlt | hge
    · have hal := risingB_len (rangesB_of (hHl.2 k hlt).1).2.2.2.2.2.2
      repeat' (first
        | (show VR _ _ _ (_ :: _) _ _ _; first | refine x_opF rfl (by first | exact True.intro | omega) ?_ | (show VR _ _ _ (⟨_, .call ⟨.value _, _, _⟩, _, _, _, _⟩ :: _) _ _ _; first | refine vr_calldU (clone_I (s.held.getD k default).acked (by omega)) (gk rfl) rfl rfl rfl (by first | rfl | (simp only [wfRes, wfL, wfArgs, wfs, mpO_namesB, mpO_namesI]; rfl)) rfl (by first | exact newB_O | rfl) rfl ?_) | (show VR _ _ _ (⟨_, .indexAddr _ _ _, _, _, _, _⟩ :: _) _ _ _; first | refine vr_index_rowO (gk rfl) rfl rfl rfl rfl rfl rfl (by omega) (by omega) rfl ?_) | (show VR _ _ _ (⟨_, .load _ _, _, _, _, _⟩ :: _) _ _ _; first | refine vr_load_rowO (gk rfl) rfl rfl (by omega) rfl rfl rfl ?_) | (show VR _ _ _ (⟨_, .store _ _ _, _, _, _, _⟩ :: _) _ _ _; first | refine vr_store_rowO (gk rfl) rfl rfl rfl (by omega) rfl rfl rfl ?_))
        | (show VR _ _ _ [] _ _ _; first | refine vr_nil ?_ | refine vr_nil_t (by kernel_rfl) ?_)
        | (show thenQ _ _ _ _; first | refine q_then_n ?_ | refine q_then_x ?_)
        | (show blockQ _ _ _ _; first | refine q_blk_n ?_ | refine q_blk_x ?_)
        | refine vc_seq ?_
        | refine vc_region ?_ | refine vc_region_t ?_
        | (show VC _ (.cond _ _ _) _ _; first | (refine x_cond rfl ?_ ?_ <;> intro h <;> have hq := h <;> (try simp only [hqs] at hq)))
        | refine vc_ret ?_ | refine vc_exit ?_ | refine vc_block ?_ | refine vc_skip ?_
        | fail)
      all_goals first
        | (exfalso; omega)
        | skip
      refine ⟨k + 1, by omega, by omega, ?_⟩
      refine le_gen (fun n => n) [39007] hS ?_ ?_ rfl (by first | rfl | (simp only [wfL, wfs, mpO_namesB, mpO_namesI]; rfl))
      all_goals repeat' (first | exact trivial | refine ⟨⟨_, rfl, ?_⟩, ?_⟩ | exact .c .d | exact .c (.ptr rfl) | exact .boxD rfl rfl | exact .rowD rfl rowOf_isD | refine .box ?_ | exact .nil | refine .cons ?_ ?_ | exact .d | exact .row rfl rfl | fail)
      exact bw_frz hlt (.frzOf (enc := IntE.enc) (by simp) rfl rfl (fun _ => rfl))
    · repeat' (first
        | (show VR _ _ _ (_ :: _) _ _ _; first | refine x_opF rfl (by first | exact True.intro | omega) ?_)
        | (show VR _ _ _ [] _ _ _; first | refine vr_nil ?_)
        | (show thenQ _ _ _ _; first | refine q_then_n ?_ | refine q_then_x ?_)
        | (show blockQ _ _ _ _; first | refine q_blk_x ?_)
        | refine vc_seq ?_
        | refine vc_region ?_ | refine vc_region_t ?_
        | (show VC _ (.cond _ _ _) _ _; first | (refine x_cond rfl ?_ ?_ <;> intro h <;> have hq := h <;> (try simp only [hqs] at hq)))
        | refine vc_ret ?_ | refine vc_exit ?_ | refine vc_block ?_ | refine vc_skip ?_
        | fail)
      all_goals first
        | (exfalso; omega)
        | skip
      refine retL_of (le_gen0 (l := [(2, .c (.ptr 2 0))]) (b := [(2, .box (s.csR (.row 101 s.held.length) (.row 102 s.seen.length))), (101, .row 75 5 (rowOf Hd.enc s.held)), (102, .row 102 2 (rowOf Sn.enc s.seen))]) (fun n => n) ?_ ?_ rfl (by first | rfl | (simp only [wfL, wfs, mpO_namesB, mpO_namesI]; rfl))) (retW isRet_r (.agg rfl rfl rfl rfl .nil) rfl (by repeat' (first | exact trivial | refine ⟨rfl, ?_⟩)))
      all_goals repeat' (first | exact trivial | refine ⟨⟨_, rfl, ?_⟩, ?_⟩ | exact .c (.ptr rfl) | exact .rowD rfl rowOf_isD | refine .box ?_ | exact .nil | refine .cons ?_ ?_ | exact .d | exact .row rfl rfl | fail)
end Go.Proofs
