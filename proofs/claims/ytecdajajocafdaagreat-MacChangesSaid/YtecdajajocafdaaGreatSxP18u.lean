/-
  What functions of the given program hand back, by walks over its code, and plain laws on that. No condition.
-/
import Derived.Test.YtecdajajocafdaaGreatSxP18t
-- SXS
-- SXM
-- SXN
namespace Go.Proofs
open Go Go.Sx Go.Proofs.T Go.Proofs.Q
set_option maxRecDepth 4000
set_option linter.unusedSimpArgs false
set_option linter.unusedVariables false
attribute [local irreducible] VR VC thenQ blockQ retL
theorem sT (t : Tb) : FnS Tryz.prog 21 [tbA t, tbA t] [] (AB true) [] := by
  have := T.same_spec t t
  rwa [show sameT t t = true from decide_eq_true ⟨rfl, rfl, rfl⟩] at this
theorem sQ (q : Qu) : FnS Tryz.prog 49 [quA q, quA q] [] (AB true) [] := by
  have := Q.same_spec q q
  rwa [show sameQ q q = true from decide_eq_true ⟨rfl, rfl⟩] at this
set_option maxHeartbeats 2000000 in
theorem same_refl (s : Sta) : FnS Tryz.prog 15 [stA s, stA s] [] (AB true) [] := by
  have d0 : ∀ a : Int, decide (a ≠ a) = false := fun a => by simp
  have e0 : ∀ a : Int, decide (a = a) = true := fun a => by simp
  have d1 := d0 (s.held.length : Nat)
  have d2 := d0 (s.seen.length : Nat)
  have e1 := e0 s.list
  have e2 := e0 s.seq
  have e3 := e0 s.trying
  have e4 := e0 s.tries
  have e5 := e0 s.back
  have e6 := e0 s.wait
  have e7 := e0 s.seed
  refine FnS.of_body (enters_of Tryz.func15 (by kernel_rfl) rfl) Tryz.func15 rfl Tryz.ntmps15 Tryz.results15 rfl rfl rfl rfl fun E hS => ?_
  repeat' (first
    | (show VR _ _ _ (_ :: _) _ _ _; first | refine x_opF rfl (by first | exact True.intro | omega) ?_ | (show VR _ _ _ (⟨_, .call ⟨.value _, _, _⟩, _, _, _, _⟩ :: _) _ _ _; first | refine vr_calldU (sT s.tb) (gk rfl) rfl rfl rfl (by first | rfl | (simp only [wfRes, wfL, wfArgs, wfs, mpO_namesB, mpO_namesI]; rfl)) rfl (by first | exact newB_nil | exact newB_O | ((simp only [newB, List.map_cons, List.map_nil, Blk.shift, rowOf_shift]) <;> rfl) | rfl) rfl ?_ | refine vr_calldU (sQ s.qu) (gk rfl) rfl rfl rfl (by first | rfl | (simp only [wfRes, wfL, wfArgs, wfs, mpO_namesB, mpO_namesI]; rfl)) rfl (by first | exact newB_nil | exact newB_O | ((simp only [newB, List.map_cons, List.map_nil, Blk.shift, rowOf_shift]) <;> rfl) | rfl) rfl ?_) | refine x_gknow rfl (by assumption) ?_)
    | (show VR _ _ _ [] _ _ _; first | refine vr_nil ?_)
    | (show thenQ _ _ _ _; first | refine q_then_n ?_)
    | refine vc_seq ?_
    | refine vc_region ?_
    | (show VC _ (.cond _ _ _) _ _; first | refine vc_cond_f rfl ?_ | refine x_know rfl (by assumption) ?_)
    | refine vc_block ?_ | refine vc_skip ?_
    | fail)
  refine vc_boundB (nm := 2) (j := 5) (n := s.held.length) rfl rfl fun hbl => ?_
  refine vc_boundB (nm := 2) (j := 6) (n := s.seen.length) rfl rfl fun hbs => ?_
  refine vc_loopI (ι := Nat) (fun k => stOf [(2, .c (.ptr 2 0)), (3, .c (.ptr 3 0)), (5, AI k)] [(2, .box s.cs), (3, .box s.cs)]) (fun k => k ≤ s.held.length) (fun k => s.held.length - k) 0 (Nat.zero_le _) ?_ ?_
  · refine le_gen0 (fun n => n) ?_ ?_ rfl (by first | rfl | (simp only [wfL, wfs, mpO_namesB, mpO_namesI]; rfl))
    all_goals repeat' (first | exact trivial | refine ⟨⟨_, rfl, ?_⟩, ?_⟩ | exact .c .d | exact .c (.ptr rfl) | exact .boxD rfl rfl | fail)
  · intro k hk
    rcases Nat.lt_or_ge k s.held.length with hlt | hge
    · have dlt : decide ((k : Int) < (s.held.length : Int)) = true := decide_eq_true (by omega)
      repeat' (first
        | (show VR _ _ _ (_ :: _) _ _ _; first | refine x_opF rfl (by first | exact True.intro | omega) ?_ | (show VR _ _ _ (⟨_, .call ⟨.value _, _, _⟩, _, _, _, _⟩ :: _) _ _ _; first | refine vr_calldU (sameHeld_refl (s.held.getD k default)) (gk rfl) rfl rfl rfl (by first | rfl | (simp only [wfRes, wfL, wfArgs, wfs, mpO_namesB, mpO_namesI]; rfl)) rfl (by first | exact newB_nil | exact newB_O | ((simp only [newB, List.map_cons, List.map_nil, Blk.shift, rowOf_shift]) <;> rfl) | rfl) rfl ?_) | (show VR _ _ _ (⟨_, .indexAddr _ _ _, _, _, _, _⟩ :: _) _ _ _; first | refine vr_index_rd (gk rfl) rfl rfl rfl rfl rfl (by omega) rfl ?_))
        | (show VR _ _ _ [] _ _ _; first | refine vr_nil ?_ | refine vr_nil_t (by kernel_rfl) ?_)
        | (show thenQ _ _ _ _; first | refine q_then_n ?_)
        | (show blockQ _ _ _ _; first | refine q_blk_n ?_)
        | refine vc_seq ?_
        | refine vc_region ?_ | refine vc_region_t ?_
        | (show VC _ (.cond _ _ _) _ _; first | refine vc_cond_t rfl ?_ | refine vc_cond_f rfl ?_ | refine x_know rfl (by assumption) ?_)
        | refine vc_block ?_ | refine vc_skip ?_
        | fail)
      refine ⟨k + 1, by omega, by omega, ?_⟩
      refine le_gen0 (fun n => n) ?_ ?_ rfl (by first | rfl | (simp only [wfL, wfs, mpO_namesB, mpO_namesI]; rfl))
      all_goals repeat' (first | exact trivial | refine ⟨⟨_, rfl, ?_⟩, ?_⟩ | exact .c .d | exact .c (.ptr rfl) | exact .boxD rfl rfl | fail)
    · have dlt : decide ((k : Int) < (s.held.length : Int)) = false := decide_eq_false (by omega)
      repeat' (first
        | (show VR _ _ _ (_ :: _) _ _ _; first | refine x_opF rfl (by first | exact True.intro | omega) ?_)
        | (show VR _ _ _ [] _ _ _; first | refine vr_nil ?_)
        | (show thenQ _ _ _ _; first | refine q_then_n ?_ | refine q_then_x ?_)
        | (show blockQ _ _ _ _; first | refine q_blk_x ?_)
        | refine vc_seq ?_
        | refine vc_region ?_
        | (show VC _ (.cond _ _ _) _ _; first | refine vc_cond_f rfl ?_ | refine x_know rfl (by assumption) ?_)
        | refine vc_exit ?_ | refine vc_block ?_
        | fail)
      refine vc_loopI (ι := Nat) (fun k => stOf [(2, .c (.ptr 2 0)), (3, .c (.ptr 3 0)), (6, AI k)] [(2, .box s.cs), (3, .box s.cs)]) (fun k => k ≤ s.seen.length) (fun k => s.seen.length - k) 0 (Nat.zero_le _) ?_ ?_
      · refine le_gen0 (fun n => n) ?_ ?_ rfl (by first | rfl | (simp only [wfL, wfs, mpO_namesB, mpO_namesI]; rfl))
        all_goals repeat' (first | exact trivial | refine ⟨⟨_, rfl, ?_⟩, ?_⟩ | exact .c .d | exact .c (.ptr rfl) | exact .boxD rfl rfl | fail)
      · intro k hk
        rcases Nat.lt_or_ge k s.seen.length with hlt | hge
        · have dlt : decide ((k : Int) < (s.seen.length : Int)) = true := decide_eq_true (by omega)
          repeat' (first
            | (show VR _ _ _ (_ :: _) _ _ _; first | refine x_opF rfl (by first | exact True.intro | omega) ?_ | (show VR _ _ _ (⟨_, .indexAddr _ _ _, _, _, _, _⟩ :: _) _ _ _; first | refine vr_index_rd (gk rfl) rfl rfl rfl rfl rfl (by omega) rfl ?_) | (show VR _ _ _ (⟨_, .binOp _ _ _ _ _, _, _, _, _⟩ :: _) _ _ _; first | refine vr_neqA (gk rfl) rfl rfl rfl rfl rfl rfl rfl ?_))
            | (show VR _ _ _ [] _ _ _; first | refine vr_nil ?_ | refine vr_nil_t (by kernel_rfl) ?_)
            | (show thenQ _ _ _ _; first | refine q_then_n ?_ | refine q_then_r ?_)
            | (show blockQ _ _ _ _; first | refine q_blk_n ?_ | refine q_blk_r ?_)
            | refine vc_seq ?_
            | refine vc_region ?_ | refine vc_region_t ?_
            | (show VC _ (.cond _ _ _) _ _; first | refine vc_cond_t rfl ?_ | refine x_know rfl (by assumption) ?_ | (refine x_cond rfl ?_ ?_ <;> intro h <;> have hq := h <;> (try simp only [hqs] at hq)))
            | refine vc_ret ?_ | refine vc_block ?_ | refine vc_skip ?_
            | fail)
          · exact absurd trivial hq
          · refine ⟨k + 1, by omega, by omega, ?_⟩
            refine le_gen0 (fun n => n) ?_ ?_ rfl (by first | rfl | (simp only [wfL, wfs, mpO_namesB, mpO_namesI]; rfl))
            all_goals repeat' (first | exact trivial | refine ⟨⟨_, rfl, ?_⟩, ?_⟩ | exact .c .d | exact .c (.ptr rfl) | exact .boxD rfl rfl | fail)
        · have dlt : decide ((k : Int) < (s.seen.length : Int)) = false := decide_eq_false (by omega)
          repeat' (first
            | (show VR _ _ _ (_ :: _) _ _ _; first | refine x_opF rfl (by first | exact True.intro | omega) ?_ | refine x_gknow rfl (by assumption) ?_)
            | (show VR _ _ _ [] _ _ _; first | refine vr_nil ?_)
            | (show thenQ _ _ _ _; first | refine q_then_n ?_ | refine q_then_x ?_)
            | (show blockQ _ _ _ _; first | refine q_blk_x ?_)
            | refine vc_seq ?_
            | refine vc_region ?_
            | (show VC _ (.cond _ _ _) _ _; first | refine vc_cond_f rfl ?_ | refine x_know rfl (by assumption) ?_)
            | refine vc_ret ?_ | refine vc_exit ?_
            | fail)
          exact ret_bool isRet_r rfl e7.symm
def fewH (h : Hd) : Bool := decide (h.data.size ≤ 200) && decide (h.acked.length ≤ 40)
def fewS (s : Sta) : Bool := fewT s.tb && fewQ s.qu && decide (s.held.length ≤ 20) && decide (s.seen.length ≤ 40) && s.held.all fewH
set_option maxHeartbeats 2000000 in
theorem fewS_spec (s : Sta) : FnS Tryz.prog 10 [stA s] [] (AB (fewS s)) [] := by
  refine FnS.of_body (enters_of Tryz.func10 (by kernel_rfl) rfl) Tryz.func10 rfl Tryz.ntmps10 Tryz.results10 rfl rfl rfl rfl fun E hS => ?_
  repeat' (first
    | (show VR _ _ _ (_ :: _) _ _ _; first | refine x_opF rfl (by first | exact True.intro | omega) ?_ | (show VR _ _ _ (⟨_, .call ⟨.value _, _, _⟩, _, _, _, _⟩ :: _) _ _ _; first | refine vr_calldU (fewT_spec s.tb) (gk rfl) rfl rfl rfl (by first | rfl | (simp only [wfRes, wfL, wfArgs, wfs, mpO_namesB, mpO_namesI]; rfl)) rfl (by first | exact newB_nil | exact newB_O | ((simp only [newB, List.map_cons, List.map_nil, Blk.shift, rowOf_shift]) <;> rfl) | rfl) rfl ?_ | refine vr_calldU (Q.few_spec s.qu) (gk rfl) rfl rfl rfl (by first | rfl | (simp only [wfRes, wfL, wfArgs, wfs, mpO_namesB, mpO_namesI]; rfl)) rfl (by first | exact newB_nil | exact newB_O | ((simp only [newB, List.map_cons, List.map_nil, Blk.shift, rowOf_shift]) <;> rfl) | rfl) rfl ?_) | (refine x_gsplit rfl ?_ ?_ <;> intro h <;> have hq := h <;> (try simp only [hqs] at hq)))
    | (show VR _ _ _ [] _ _ _; first | refine vr_nil ?_)
    | (show thenQ _ _ _ _; first | refine q_then_n ?_ | refine q_then_r ?_)
    | refine vc_seq ?_
    | refine vc_region ?_
    | (show VC _ (.cond _ _ _) _ _; first | refine vc_cond_t rfl ?_ | (refine x_cond rfl ?_ ?_ <;> intro h <;> have hq := h <;> (try simp only [hqs] at hq)))
    | refine vc_ret ?_ | refine vc_block ?_ | refine vc_skip ?_
    | fail)
  · refine ret_bool isRet_r rfl ?_
    simp only [fewS]; simp_all
  · refine ret_bool isRet_r rfl ?_
    simp only [fewS]; simp_all
  · refine ret_bool isRet_r rfl ?_
    rw [fewS, decide_eq_false (p := s.held.length ≤ 20) (by omega)]; simp
  · refine ret_bool isRet_r rfl ?_
    rw [fewS, decide_eq_false (p := s.seen.length ≤ 40) (by omega)]; simp
  have e : fewS s = s.held.all fewH := by
    rw [fewS, decide_eq_true (p := s.held.length ≤ 20) (by omega), decide_eq_true (p := s.seen.length ≤ 40) (by omega)]
    simp_all
  refine vc_loopI (ι := Nat) (fun k => stOf [(1, .c (.ptr 1 0)), (3, AI k)] [(1, .box s.cs)]) (fun k => k ≤ s.held.length ∧ ∀ i, i < k → fewH (s.held.getD i default) = true) (fun k => s.held.length - k) 0 ⟨Nat.zero_le _, fun i hi => absurd hi (Nat.not_lt_zero _)⟩ ?_ ?_
  · refine le_gen0 (fun n => n) ?_ ?_ rfl (by first | rfl | (simp only [wfL, wfs, mpO_namesB, mpO_namesI]; rfl))
    all_goals repeat' (first | exact trivial | refine ⟨⟨_, rfl, ?_⟩, ?_⟩ | exact .c .d | exact .c (.ptr rfl) | exact .boxD rfl rfl | fail)
  · intro k hk
    rcases Nat.lt_or_ge k s.held.length with hlt | hge
    · have dlt : decide ((k : Int) < (s.held.length : Int)) = true := decide_eq_true (by omega)
      repeat' (first
        | (show VR _ _ _ (_ :: _) _ _ _; first | refine x_opF rfl (by first | exact True.intro | omega) ?_ | (show VR _ _ _ (⟨_, .indexAddr _ _ _, _, _, _, _⟩ :: _) _ _ _; first | refine vr_index_rd (gk rfl) rfl rfl rfl rfl rfl (by omega) rfl ?_) | (refine x_gsplit rfl ?_ ?_ <;> intro h <;> have hq := h <;> (try simp only [hqs] at hq)))
        | (show VR _ _ _ [] _ _ _; first | refine vr_nil ?_)
        | (show thenQ _ _ _ _; first | refine q_then_n ?_ | refine q_then_r ?_)
        | (show blockQ _ _ _ _; first | refine q_blk_n ?_ | refine q_blk_r ?_)
        | refine vc_seq ?_
        | refine vc_region ?_
        | (show VC _ (.cond _ _ _) _ _; first | refine vc_cond_t rfl ?_ | refine x_know rfl (by assumption) ?_ | (refine x_cond rfl ?_ ?_ <;> intro h <;> have hq := h <;> (try simp only [hqs] at hq)))
        | refine vc_ret ?_ | refine vc_block ?_ | refine vc_skip ?_
        | fail)
      · refine ret_bool isRet_r rfl ?_
        rw [e, List.all_eq_false]
        exact ⟨_, getD_mem hlt, by rw [fewH, decide_eq_false (p := _ ≤ 200) (by omega)]; simp⟩
      · refine ret_bool isRet_r rfl ?_
        rw [e, List.all_eq_false]
        exact ⟨_, getD_mem hlt, by rw [fewH, decide_eq_false (p := _ ≤ 40) (by omega)]; simp⟩
      · refine ⟨k + 1, ⟨by omega, fun i hi => ?_⟩, by omega, ?_⟩
        · by_cases hik : i < k
          · exact hk.2 i hik
          · have : i = k := by omega
            subst this
            rw [fewH, decide_eq_true (p := _ ≤ 200) (by omega), decide_eq_true (p := _ ≤ 40) (by omega)]; rfl
        · refine le_gen0 (fun n => n) ?_ ?_ rfl (by first | rfl | (simp only [wfL, wfs, mpO_namesB, mpO_namesI]; rfl))
          all_goals repeat' (first | exact trivial | refine ⟨⟨_, rfl, ?_⟩, ?_⟩ | exact .c .d | exact .c (.ptr rfl) | exact .boxD rfl rfl | fail)
    · have dlt : decide ((k : Int) < (s.held.length : Int)) = false := decide_eq_false (by omega)
      repeat' (first
        | (show VR _ _ _ (_ :: _) _ _ _; first | refine x_opF rfl (by first | exact True.intro | omega) ?_)
        | (show VR _ _ _ [] _ _ _; first | refine vr_nil ?_)
        | (show thenQ _ _ _ _; first | refine q_then_n ?_ | refine q_then_x ?_)
        | (show blockQ _ _ _ _; first | refine q_blk_x ?_)
        | refine vc_seq ?_
        | refine vc_region ?_
        | (show VC _ (.cond _ _ _) _ _; first | refine vc_cond_f rfl ?_ | refine x_know rfl (by assumption) ?_)
        | refine vc_ret ?_ | refine vc_exit ?_
        | fail)
      refine ret_bool isRet_r rfl ?_
      rw [e, List.all_eq_true]
      intro x hx
      obtain ⟨i, hi, rfl⟩ := mem_getD hx
      exact hk.2 i (by omega)
/-! Short data. -/
abbrev strs (l : List ByteArray) : D := rdOf (fun x => [.str x]) 1 l
abbrev predφStr (p : ByteArray → Bool) : List DV → DV → Prop := fun ds r => ∃ x : ByteArray, ds = [.d (.str x)] ∧ r = .d (.bool (p x))
theorem idxf_Str (l : List ByteArray) (p : ByteArray → Bool) : FnS Tryz.prog 108 [AD (strs l), .clo (predφStr p)] [] (AI (oI (fstO l p))) [] := by
  refine FnS.of_body (enters_of Tryz.func108 (by kernel_rfl) rfl) Tryz.func108 rfl Tryz.ntmps108 Tryz.results108 rfl rfl rfl rfl fun E hS => ?_
  refine vc_bound (t := 0) rfl fun hb => ?_
  repeat' (first
    | (show VR _ _ _ (_ :: _) _ _ _; first | refine x_opF rfl (by first | exact True.intro | omega) ?_)
    | (show VR _ _ _ [] _ _ _; first | refine vr_nil ?_)
    | (show thenQ _ _ _ _; first | refine q_then_n ?_)
    | refine vc_seq ?_
    | refine vc_region ?_
    | refine vc_block ?_
    | fail)
  refine vc_loopI (ι := Nat) (fun k => stOf [(0, AD (strs l)), (1, .clo (predφStr p)), (7, AI l.length), (8, AI k)] []) (fun k => k ≤ l.length ∧ ∀ i, i < k → p (l.getD i default) = false) (fun k => l.length - k) 0 ⟨Nat.zero_le _, fun i hi => absurd hi (Nat.not_lt_zero _)⟩ ?_ ?_
  · exact le_of ⟨rfl, rfl, rfl, rfl, trivial⟩ trivial rfl
  · intro k hk
    repeat' (first
      | (show VR _ _ _ (_ :: _) _ _ _; first | refine x_opF rfl (by first | exact True.intro | omega) ?_ | (show VR _ _ _ (⟨_, .call ⟨.value _, _, _⟩, _, _, _, _⟩ :: _) _ _ _; first | refine vr_clo (⟨_, rfl, rfl⟩) (gk rfl) rfl rfl rfl rfl ?_) | (show VR _ _ _ (⟨_, .indexAddr _ _ _, _, _, _, _⟩ :: _) _ _ _; first | refine vr_index_rd (gk rfl) rfl rfl rfl rfl rfl (by omega) rfl ?_))
      | (show VR _ _ _ [] _ _ _; first | refine vr_nil ?_)
      | (show thenQ _ _ _ _; first | refine q_then_n ?_ | refine q_then_x ?_ | refine q_then_r ?_)
      | (show blockQ _ _ _ _; first | refine q_blk_n ?_ | refine q_blk_r ?_ | refine q_blk_x ?_)
      | refine vc_seq ?_
      | refine vc_region ?_
      | (show VC _ (.cond _ _ _) _ _; first | (refine x_cond rfl ?_ ?_ <;> intro h <;> have hq := h <;> (try simp only [hqs] at hq)))
      | refine vc_ret ?_ | refine vc_exit ?_ | refine vc_block ?_ | refine vc_skip ?_
      | fail)
    · refine ret_int isRet_r rfl ?_
      rw [fstO_hit hk.2 (by omega) h]; rfl
    · refine ⟨k + 1, ⟨by omega, fun i hi => ?_⟩, by omega, le_of ⟨rfl, rfl, rfl, rfl, trivial⟩ trivial rfl⟩
      by_cases hik : i < k
      · exact hk.2 i hik
      · have : i = k := by omega
        subst this
        exact h
    · refine ret_int isRet_r rfl ?_
      have : k = l.length := by omega
      subst this
      rw [fstO_none hk.2]; rfl
theorem containsf_Str (l : List ByteArray) (p : ByteArray → Bool) : FnS Tryz.prog 54 [AD (strs l), .clo (predφStr p)] [] (AB (l.any p)) [] := by
  refine FnS.of_body (enters_of Tryz.func54 (by kernel_rfl) rfl) Tryz.func54 rfl Tryz.ntmps54 Tryz.results54 rfl rfl rfl rfl fun E hS => ?_
  repeat' (first
    | (show VR _ _ _ (_ :: _) _ _ _; first | refine x_opF rfl (by first | exact True.intro | omega) ?_ | (show VR _ _ _ (⟨_, .call ⟨.value _, _, _⟩, _, _, _, _⟩ :: _) _ _ _; first | refine vr_callU [] (idxf_Str l p) (gk rfl) rfl (by (repeat' (first | exact .nil | refine .cons ?_ ?_ | exact .of0 (.c .d) | exact .of0 .ep | exact .clo | exact .of0 (.c .nil) | exact .of0 (.c (cr_rowO (by simp) rfl (by first | rfl | omega) (fun _ => rfl))) | refine .of0 (.agg ?_) | exact .d | exact .nil | exact .of0 (.c (cr_row (by decide) rfl rfl (by repeat' (first | exact trivial | refine ⟨?_, ?_⟩ | rfl)))))) <;> fail) (by first | rfl | exact hfl_O (fun _ => rfl) | exact hfl_O2 rfl (fun _ => rfl)) rfl (by first | rfl | (simp only [wfRes, wfL, wfArgs, wfs, mpO_namesB, mpO_namesI]; rfl)) rfl (by first | exact newB_nil | exact newB_O | ((simp only [newB, List.map_cons, List.map_nil, Blk.shift, rowOf_shift]) <;> rfl) | rfl) rfl ?_))
    | (show VR _ _ _ [] _ _ _; first | refine vr_nil ?_)
    | (show thenQ _ _ _ _; first | refine q_then_n ?_)
    | refine vc_seq ?_
    | refine vc_region ?_
    | refine vc_ret ?_
    | fail)
  all_goals exact ret_bool isRet_r rfl (fstO_any _ _).symm
theorem few1_spec (x : ByteArray) : FnS Tryz.prog 55 [AD (.str x)] [] (AB (decide (200 < (x.size : Int)))) [] := by
  refine FnS.of_body (enters_of Tryz.func55 (by kernel_rfl) rfl) Tryz.func55 rfl Tryz.ntmps55 Tryz.results55 rfl rfl rfl rfl fun E hS => ?_
  repeat' (first
    | (show VR _ _ _ (_ :: _) _ _ _; first | refine x_opF rfl (by first | exact True.intro | omega) ?_)
    | (show VR _ _ _ [] _ _ _; first | refine vr_nil ?_)
    | (show thenQ _ _ _ _; first | refine q_then_n ?_)
    | refine vc_seq ?_
    | refine vc_region ?_
    | refine vc_ret ?_
    | fail)
  all_goals exact ret_bool isRet_r rfl rfl
theorem few1_fnc {σ : St} {L : List Nat} : AR Tryz.prog σ L (.fnc 55 []) (.clo (predφStr fun x => decide (200 < (x.size : Int)))) :=
  .fnc .nil (enters_of Tryz.func55 (by kernel_rfl) rfl) (by rintro _ _ ⟨x, rfl, rfl⟩; exact ⟨rfl, few1_spec x⟩)
theorem lfew_spec (l : List ByteArray) : FnS Tryz.prog 18 [AD (strs l)] [] (AB (!l.any fun x => decide (200 < (x.size : Int)))) [] := by
  refine FnS.of_body (enters_of Tryz.func18 (by kernel_rfl) rfl) Tryz.func18 rfl Tryz.ntmps18 Tryz.results18 rfl rfl rfl rfl fun E hS => ?_
  repeat' (first
    | (show VR _ _ _ (_ :: _) _ _ _; first | refine x_opF rfl (by first | exact True.intro | omega) ?_ | (show VR _ _ _ (⟨_, .call ⟨.value _, _, _⟩, _, _, _, _⟩ :: _) _ _ _; first | refine vr_callU [] (containsf_Str l (fun x => decide (200 < (x.size : Int)))) (gk rfl) rfl (by (repeat' (first | exact .nil | refine .cons ?_ ?_ | exact .of0 (.c .d) | exact .of0 .ep | exact .clo | exact (few1_fnc) | exact .of0 (.c .nil) | exact .of0 (.c (cr_rowO (by simp) rfl (by first | rfl | omega) (fun _ => rfl))) | refine .of0 (.agg ?_) | exact .d | exact .nil | exact .of0 (.c (cr_row (by decide) rfl rfl (by repeat' (first | exact trivial | refine ⟨?_, ?_⟩ | rfl)))))) <;> fail) (by first | rfl | exact hfl_O (fun _ => rfl) | exact hfl_O2 rfl (fun _ => rfl)) rfl (by first | rfl | (simp only [wfRes, wfL, wfArgs, wfs, mpO_namesB, mpO_namesI]; rfl)) rfl (by first | exact newB_nil | exact newB_O | ((simp only [newB, List.map_cons, List.map_nil, Blk.shift, rowOf_shift]) <;> rfl) | rfl) rfl ?_))
    | (show VR _ _ _ [] _ _ _; first | refine vr_nil ?_)
    | (show thenQ _ _ _ _; first | refine q_then_n ?_)
    | refine vc_seq ?_
    | refine vc_region ?_
    | refine vc_ret ?_
    | fail)
  all_goals exact ret_bool isRet_r rfl rfl
end Go.Proofs
