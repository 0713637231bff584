/-
  What functions of the given program hand back, by walks over its code, and plain laws on that. No condition.
-/
import Derived.Test.YtecdajajocafdaaSxO18c
-- SXS
-- SXM
-- SXP
namespace Go.Proofs
open Go Go.Sx Go.Proofs.T Go.Proofs.Q
set_option maxRecDepth 4000
set_option linter.unusedSimpArgs false
set_option linter.unusedVariables false
attribute [local irreducible] VR VC thenQ blockQ retL
abbrev IntE := Int
abbrev IntE.enc (x : Int) : List D := [.int .i64 x]
theorem index_I (l : List Int) (x : Int) : FnS Try.prog 93 [AD (ints l), AI x] [] (AI (oI (fstO l fun y => decide (x = y)))) [] := by
  refine FnS.of_body (enters_of Try.func93 (by kernel_rfl) rfl) Try.func93 rfl Try.ntmps93 Try.results93 rfl rfl rfl rfl fun E hS => ?_
  refine vc_bound (t := 0) rfl fun hb => ?_
  repeat' (first
    | (show VR _ _ _ (_ :: _) _ _ _; first | refine x_opF rfl (by first | exact True.intro | omega) ?_)
    | (show VR _ _ _ [] _ _ _; first | refine vr_nil ?_)
    | (show thenQ _ _ _ _; first | refine q_then_n ?_)
    | refine vc_seq ?_
    | refine vc_region ?_
    | refine vc_block ?_
    | fail)
  refine vc_loopI (ι := Nat) (fun k => stOf [(0, AD (ints l)), (1, AI x), (7, AI l.length), (8, AI k)] []) (fun k => k ≤ l.length ∧ ∀ i, i < k → decide (x = l.getD i default) = false) (fun k => l.length - k) 0 ⟨Nat.zero_le _, fun i hi => absurd hi (Nat.not_lt_zero _)⟩ ?_ ?_
  · refine le_gen0 (fun n => n) ?_ ?_ rfl (by first | rfl | (simp only [wfL, wfs, mpO_namesB, mpO_namesI]; rfl))
    all_goals repeat' (first | exact trivial | refine ⟨⟨_, rfl, ?_⟩, ?_⟩ | exact .c .d | fail)
  · intro k hk
    repeat' (first
      | (show VR _ _ _ (_ :: _) _ _ _; first | refine x_opF rfl (by first | exact True.intro | omega) ?_ | (show VR _ _ _ (⟨_, .indexAddr _ _ _, _, _, _, _⟩ :: _) _ _ _; first | refine vr_index_rd (gk rfl) rfl rfl rfl rfl rfl (by omega) rfl ?_))
      | (show VR _ _ _ [] _ _ _; first | refine vr_nil ?_)
      | (show thenQ _ _ _ _; first | refine q_then_n ?_ | refine q_then_x ?_ | refine q_then_r ?_)
      | (show blockQ _ _ _ _; first | refine q_blk_n ?_ | refine q_blk_r ?_ | refine q_blk_x ?_)
      | refine vc_seq ?_
      | refine vc_region ?_
      | (show VC _ (.cond _ _ _) _ _; first | (refine x_cond rfl ?_ ?_ <;> intro h <;> have hq := h <;> (try simp only [hqs] at hq)))
      | refine vc_ret ?_ | refine vc_exit ?_ | refine vc_block ?_ | refine vc_skip ?_
      | fail)
    · refine ret_int isRet_r rfl ?_
      rw [fstO_hit (l := l) (p := fun y => decide (x = y)) hk.2 (by omega) (decide_eq_true (hq))]; rfl
    · refine ⟨k + 1, ⟨by omega, fun i hi => ?_⟩, by omega, ?_⟩
      · by_cases hik : i < k
        · exact hk.2 i hik
        · have : i = k := by omega
          subst this
          exact decide_eq_false fun e => hq (id e)
      · refine le_gen0 (fun n => n) ?_ ?_ rfl (by first | rfl | (simp only [wfL, wfs, mpO_namesB, mpO_namesI]; rfl))
        all_goals repeat' (first | exact trivial | refine ⟨⟨_, rfl, ?_⟩, ?_⟩ | exact .c .d | fail)
    · refine ret_int isRet_r rfl ?_
      have : k = l.length := by omega
      subst this
      rw [fstO_none (l := l) (p := fun y => decide (x = y)) hk.2]; rfl
theorem contains_I (l : List Int) (x : Int) : FnS Try.prog 75 [AD (ints l), AI x] [] (AB (l.any fun y => decide (x = y))) [] := by
  refine FnS.of_body (enters_of Try.func75 (by kernel_rfl) rfl) Try.func75 rfl Try.ntmps75 Try.results75 rfl rfl rfl rfl fun E hS => ?_
  repeat' (first
    | (show VR _ _ _ (_ :: _) _ _ _; first | refine x_opF rfl (by first | exact True.intro | omega) ?_ | (show VR _ _ _ (⟨_, .call ⟨.value _, _, _⟩, _, _, _, _⟩ :: _) _ _ _; first | refine vr_calldU (index_I l x) (gk rfl) rfl rfl rfl (by first | rfl | (simp only [wfRes, wfL, wfArgs, wfs, mpO_namesB, mpO_namesI]; rfl)) rfl (by first | exact newB_O | rfl) rfl ?_))
    | (show VR _ _ _ [] _ _ _; first | refine vr_nil ?_)
    | (show thenQ _ _ _ _; first | refine q_then_n ?_)
    | refine vc_seq ?_
    | refine vc_region ?_
    | refine vc_ret ?_
    | fail)
  all_goals exact ret_bool isRet_r rfl (fstO_any _ _).symm
set_option maxHeartbeats 1000000 in
theorem control_spec (s : Sta) (slot : Int) (c : TC) (hck : checkS s = 0) : FnS Try.prog 44 [wP s slot c] [] (acA (ctlA s slot c)) [] := by
  have hho := holds_spec s slot c c.flow
  refine FnS.of_body (enters_of Try.func44 (by kernel_rfl) rfl) Try.func44 rfl Try.ntmps44 Try.results44 rfl rfl rfl rfl fun E hS => ?_
  cases hsd : c.send with
  | false =>
    have hsd' : (!c.send) = true := by rw [hsd]; rfl
    have e : ctlA s slot c = lisA := by rw [ctlA, if_pos hsd]
    rw [e]
    repeat' (first
      | (show VR _ _ _ (_ :: _) _ _ _; first | (show VR _ _ _ (⟨_, .nilCheck _, _, _, _, _⟩ :: _) _ _ _; first | refine vr_nilCheck_pt (gk rfl) rfl rfl ?_) | (show VR _ _ _ (⟨_, .fieldAddr _ _ _, _, _, _, _⟩ :: _) _ _ _; first | refine vr_fieldAddr_pt (gk rfl) rfl rfl rfl rfl rfl ?_) | refine x_opF rfl (by first | exact True.intro | omega) ?_)
      | (show VR _ _ _ [] _ _ _; first | refine vr_nil ?_)
      | (show thenQ _ _ _ _; first | refine q_then_n ?_ | refine q_then_r ?_)
      | refine vc_seq ?_
      | refine vc_region ?_
      | (show VC _ (.cond _ _ _) _ _; first | refine vc_cond_t rfl ?_ | refine x_know rfl (by assumption) ?_)
      | refine vc_ret ?_
      | fail)
    exact ret_aggL isRet_r rfl rfl rfl rfl rfl
  | true =>
    have hsd' : (!c.send) = false := by rw [hsd]; rfl
    cases hf : heldI s.held c.flow with
    | none =>
      have e : ctlA s slot c = zAc := by rw [ctlA, if_neg (by rw [hsd]; simp), hf]
      rw [hf] at hho
      have hho' : FnS Try.prog 20 [wP s slot c, AI c.flow] [] (AI (-1)) [] := hho
      rw [e]
      repeat' (first
        | (show VR _ _ _ (_ :: _) _ _ _; first | (show VR _ _ _ (⟨_, .nilCheck _, _, _, _, _⟩ :: _) _ _ _; first | refine vr_nilCheck_pt (gk rfl) rfl rfl ?_) | (show VR _ _ _ (⟨_, .fieldAddr _ _ _, _, _, _, _⟩ :: _) _ _ _; first | refine vr_fieldAddr_pt (gk rfl) rfl rfl rfl rfl rfl ?_) | refine x_opF rfl (by first | exact True.intro | omega) ?_ | (show VR _ _ _ (⟨_, .call ⟨.value _, _, _⟩, _, _, _, _⟩ :: _) _ _ _; first | refine vr_calldU (hho') (gk rfl) rfl rfl rfl (by first | rfl | (simp only [wfRes, wfL, wfArgs, wfs, mpO_namesB, mpO_namesI]; rfl)) rfl (by first | exact newB_O | rfl) rfl ?_))
        | (show VR _ _ _ [] _ _ _; first | refine vr_nil ?_ | refine vr_nil_t (by kernel_rfl) ?_)
        | (show thenQ _ _ _ _; first | refine q_then_n ?_ | refine q_then_r ?_)
        | refine vc_seq ?_
        | refine vc_region ?_ | refine vc_region_t ?_
        | (show VC _ (.cond _ _ _) _ _; first | refine vc_cond_t rfl ?_ | refine vc_cond_f rfl ?_ | refine x_know rfl (by assumption) ?_)
        | refine vc_ret ?_ | refine vc_skip ?_
        | fail)
      exact ret_aggL isRet_r rfl rfl rfl rfl rfl
    | some i =>
      have e : ctlA s slot c = if (s.held.getD i default).til < slot ∨ ((s.held.getD i default).acked.any fun y => decide (c.peer = y)) = true then zAc else datA s c (s.held.getD i default) := by rw [ctlA, if_neg (by rw [hsd]; simp), hf]
      rw [hf] at hho
      have hho' : FnS Try.prog 20 [wP s slot c, AI c.flow] [] (AI (i : Nat)) [] := hho
      obtain ⟨hi, _, _⟩ := fstO_some hf
      have hfr := rangesB_of ((heldB_of (checkS_of hck).2.2.2.1).2 i hi).1
      rw [e]
      repeat' (first
        | (show VR _ _ _ (_ :: _) _ _ _; first | (show VR _ _ _ (⟨_, .nilCheck _, _, _, _, _⟩ :: _) _ _ _; first | refine vr_nilCheck_pt (gk rfl) rfl rfl ?_) | (show VR _ _ _ (⟨_, .fieldAddr _ _ _, _, _, _, _⟩ :: _) _ _ _; first | refine vr_fieldAddr_pt (gk rfl) rfl rfl rfl rfl rfl ?_) | refine x_opF rfl (by first | exact True.intro | omega) ?_ | (show VR _ _ _ (⟨_, .call ⟨.value _, _, _⟩, _, _, _, _⟩ :: _) _ _ _; first | refine vr_calldU (hho') (gk rfl) rfl rfl rfl (by first | rfl | (simp only [wfRes, wfL, wfArgs, wfs, mpO_namesB, mpO_namesI]; rfl)) rfl (by first | exact newB_O | rfl) rfl ?_ | refine vr_calldU (contains_I (s.held.getD i default).acked c.peer) (gk rfl) rfl rfl rfl (by first | rfl | (simp only [wfRes, wfL, wfArgs, wfs, mpO_namesB, mpO_namesI]; rfl)) rfl (by first | exact newB_O | rfl) rfl ?_) | (show VR _ _ _ (⟨_, .indexAddr _ _ _, _, _, _, _⟩ :: _) _ _ _; first | refine vr_index_rd (gk rfl) rfl rfl rfl rfl rfl (by omega) rfl ?_) | (refine x_gsplit rfl ?_ ?_ <;> intro h <;> have hq := h <;> (try simp only [hqs] at hq)))
        | (show VR _ _ _ [] _ _ _; first | refine vr_nil ?_ | refine vr_nil_t (by kernel_rfl) ?_)
        | (show thenQ _ _ _ _; first | refine q_then_n ?_ | refine q_then_r ?_)
        | refine vc_seq ?_
        | refine vc_region ?_ | refine vc_region_t ?_
        | (show VC _ (.cond _ _ _) _ _; first | refine vc_cond_t rfl ?_ | refine vc_cond_f rfl ?_ | refine x_know rfl (by assumption) ?_ | (refine x_cond rfl ?_ ?_ <;> intro h <;> have hq := h <;> (try simp only [hqs] at hq)))
        | refine vc_ret ?_ | refine vc_skip ?_
        | fail)
      all_goals first
        | (exfalso; omega)
        | skip
      · rw [if_pos (.inl hq)]
        exact ret_aggL isRet_r rfl rfl rfl rfl rfl
      · rw [if_pos (.inr h)]
        exact ret_aggL isRet_r rfl rfl rfl rfl rfl
      · rw [if_neg (by rintro (h1 | h1); omega; rw [h] at h1; cases h1)]
        exact ret_aggL isRet_r rfl rfl rfl rfl rfl
set_option maxHeartbeats 1000000 in
theorem agreed_spec (s : Sta) (slot : Int) (c : TC) : FnS Try.prog 45 [wP s slot c] [] (acA (agrA s c)) [] := by
  refine FnS.of_body (enters_of Try.func45 (by kernel_rfl) rfl) Try.func45 rfl Try.ntmps45 Try.results45 rfl rfl rfl rfl fun E hS => ?_
  cases hsd : c.send with
  | false =>
    have hsd' : (!c.send) = true := by rw [hsd]; rfl
    have e : agrA s c = lisA := by rw [agrA, if_pos hsd]
    rw [e]
    repeat' (first
      | (show VR _ _ _ (_ :: _) _ _ _; first | (show VR _ _ _ (⟨_, .nilCheck _, _, _, _, _⟩ :: _) _ _ _; first | refine vr_nilCheck_pt (gk rfl) rfl rfl ?_) | (show VR _ _ _ (⟨_, .fieldAddr _ _ _, _, _, _, _⟩ :: _) _ _ _; first | refine vr_fieldAddr_pt (gk rfl) rfl rfl rfl rfl rfl ?_) | refine x_opF rfl (by first | exact True.intro | omega) ?_)
      | (show VR _ _ _ [] _ _ _; first | refine vr_nil ?_)
      | (show thenQ _ _ _ _; first | refine q_then_n ?_ | refine q_then_r ?_)
      | refine vc_seq ?_
      | refine vc_region ?_
      | (show VC _ (.cond _ _ _) _ _; first | refine vc_cond_t rfl ?_ | refine x_know rfl (by assumption) ?_)
      | refine vc_ret ?_
      | fail)
    exact ret_aggL isRet_r rfl rfl rfl rfl rfl
  | true =>
    have hsd' : (!c.send) = false := by rw [hsd]; rfl
    have e : agrA s c = if (firstQ s.qu c.peer).2 = true then msgA s (firstQ s.qu c.peer).1 else zAc := by rw [agrA, if_neg (by rw [hsd]; simp)]
    rw [e]
    repeat' (first
      | (show VR _ _ _ (_ :: _) _ _ _; first | (show VR _ _ _ (⟨_, .nilCheck _, _, _, _, _⟩ :: _) _ _ _; first | refine vr_nilCheck_pt (gk rfl) rfl rfl ?_) | (show VR _ _ _ (⟨_, .fieldAddr _ _ _, _, _, _, _⟩ :: _) _ _ _; first | refine vr_fieldAddr_pt (gk rfl) rfl rfl rfl rfl rfl ?_) | refine x_opF rfl (by first | exact True.intro | omega) ?_ | (show VR _ _ _ (⟨_, .call ⟨.value _, _, _⟩, _, _, _, _⟩ :: _) _ _ _; first | refine vr_calldU (First_spec s.qu c.peer) (gk rfl) rfl rfl rfl (by first | rfl | (simp only [wfRes, wfL, wfArgs, wfs, mpO_namesB, mpO_namesI]; rfl)) rfl (by first | exact newB_O | rfl) rfl ?_ | refine vr_calldU (message_spec s slot c (firstQ s.qu c.peer).1) (gk rfl) rfl rfl rfl (by first | rfl | (simp only [wfRes, wfL, wfArgs, wfs, mpO_namesB, mpO_namesI]; rfl)) rfl (by first | exact newB_O | rfl) rfl ?_))
      | (show VR _ _ _ [] _ _ _; first | refine vr_nil ?_ | refine vr_nil_t (by kernel_rfl) ?_)
      | (show thenQ _ _ _ _; first | refine q_then_n ?_ | refine q_then_r ?_)
      | refine vc_seq ?_
      | refine vc_region ?_ | refine vc_region_t ?_
      | (show VC _ (.cond _ _ _) _ _; first | refine vc_cond_f rfl ?_ | refine x_know rfl (by assumption) ?_ | (refine x_cond rfl ?_ ?_ <;> intro h <;> have hq := h <;> (try simp only [hqs] at hq)))
      | refine vc_ret ?_ | refine vc_skip ?_
      | fail)
    · rw [if_pos h]
      exact ret_aggL isRet_r rfl rfl rfl rfl rfl
    · rw [if_neg (by rw [h]; simp)]
      exact ret_aggL isRet_r rfl rfl rfl rfl rfl
set_option maxHeartbeats 1000000 in
theorem shared_spec (s : Sta) (slot : Int) (c : TC) : FnS Try.prog 46 [wP s slot c] [] (acA (shrA s)) [] := by
  refine FnS.of_body (enters_of Try.func46 (by kernel_rfl) rfl) Try.func46 rfl Try.ntmps46 Try.results46 rfl rfl rfl rfl fun E hS => ?_
  repeat' (first
    | (show VR _ _ _ (_ :: _) _ _ _; first | (show VR _ _ _ (⟨_, .nilCheck _, _, _, _, _⟩ :: _) _ _ _; first | refine vr_nilCheck_pt (gk rfl) rfl rfl ?_) | (show VR _ _ _ (⟨_, .fieldAddr _ _ _, _, _, _, _⟩ :: _) _ _ _; first | refine vr_fieldAddr_pt (gk rfl) rfl rfl rfl rfl rfl ?_) | refine x_opF rfl (by first | exact True.intro | omega) ?_ | (show VR _ _ _ (⟨_, .call ⟨.value _, _, _⟩, _, _, _, _⟩ :: _) _ _ _; first | refine vr_calldU (candidate_spec s slot c) (gk rfl) rfl rfl rfl (by first | rfl | (simp only [wfRes, wfL, wfArgs, wfs, mpO_namesB, mpO_namesI]; rfl)) rfl (by first | exact newB_O | rfl) rfl ?_ | refine vr_calldU (message_spec s slot c (pkOf s (candI s))) (gk rfl) rfl rfl rfl (by first | rfl | (simp only [wfRes, wfL, wfArgs, wfs, mpO_namesB, mpO_namesI]; rfl)) rfl (by first | exact newB_O | rfl) rfl ?_) | (refine x_gsplit rfl ?_ ?_ <;> intro h <;> have hq := h <;> (try simp only [hqs] at hq)))
    | (show VR _ _ _ [] _ _ _; first | refine vr_nil ?_)
    | (show thenQ _ _ _ _; first | refine q_then_n ?_ | refine q_then_r ?_)
    | refine vc_seq ?_
    | refine vc_region ?_
    | (show VC _ (.cond _ _ _) _ _; first | refine vc_cond_f rfl ?_ | (refine x_cond rfl ?_ ?_ <;> intro h <;> have hq := h <;> (try simp only [hqs] at hq)))
    | refine vc_ret ?_ | refine vc_skip ?_
    | fail)
  all_goals first
    | (rw [shrA, if_pos ⟨by assumption, by omega⟩]
       exact ret_aggL isRet_r rfl rfl rfl rfl rfl)
    | (rw [shrA, if_neg (by rintro ⟨h1, h2⟩; simp_all)]
       exact ret_aggL isRet_r rfl rfl rfl rfl rfl)
set_option maxHeartbeats 1000000 in
theorem sent_spec (s : Sta) (slot : Int) (c : TC) : FnS Try.prog 51 [wP s slot c] [] (pkA (sentP s c)) [] := by
  refine FnS.of_body (enters_of Try.func51 (by kernel_rfl) rfl) Try.func51 rfl Try.ntmps51 Try.results51 rfl rfl rfl rfl fun E hS => ?_
  repeat' (first
    | (show VR _ _ _ (_ :: _) _ _ _; first | (show VR _ _ _ (⟨_, .nilCheck _, _, _, _, _⟩ :: _) _ _ _; first | refine vr_nilCheck_pt (gk rfl) rfl rfl ?_) | (show VR _ _ _ (⟨_, .fieldAddr _ _ _, _, _, _, _⟩ :: _) _ _ _; first | refine vr_fieldAddr_pt (gk rfl) rfl rfl rfl rfl rfl ?_) | refine x_opF rfl (by first | exact True.intro | omega) ?_ | (show VR _ _ _ (⟨_, .call ⟨.value _, _, _⟩, _, _, _, _⟩ :: _) _ _ _; first | refine vr_calldU (candidate_spec s slot c) (gk rfl) rfl rfl rfl (by first | rfl | (simp only [wfRes, wfL, wfArgs, wfs, mpO_namesB, mpO_namesI]; rfl)) rfl (by first | exact newB_O | rfl) rfl ?_ | refine vr_calldU (First_spec s.qu c.peer) (gk rfl) rfl rfl rfl (by first | rfl | (simp only [wfRes, wfL, wfArgs, wfs, mpO_namesB, mpO_namesI]; rfl)) rfl (by first | exact newB_O | rfl) rfl ?_))
    | (show VR _ _ _ [] _ _ _; first | refine vr_nil ?_ | refine vr_nil_t (by kernel_rfl) ?_)
    | (show thenQ _ _ _ _; first | refine q_then_n ?_ | refine q_then_r ?_)
    | refine vc_seq ?_
    | refine vc_region ?_ | refine vc_region_t ?_
    | (show VC _ (.cond _ _ _) _ _; first | (refine x_cond rfl ?_ ?_ <;> intro h <;> have hq := h <;> (try simp only [hqs] at hq)))
    | refine vc_ret ?_ | refine vc_skip ?_
    | fail)
  · rw [sentP, if_pos hq]
    exact ret_aggL isRet_r rfl rfl rfl rfl rfl
  · rw [sentP, if_neg hq]
    exact ret_aggL isRet_r rfl rfl rfl rfl rfl
theorem look3 {f1 f2 f3 z : C} {kd : Int} (h1 : ¬ kd = 1) (h2 : ¬ kd = 2) (h3 : ¬ kd = 3) : (lookK (putK (putK (putK [] [1] f1) [2] f2) [3] f3) [kd]).getD z = z := by
  simp [lookK, putK]
  rw [if_neg (fun e => h1 e.symm), if_neg (fun e => h2 e.symm), if_neg (fun e => h3 e.symm)]
  rfl
theorem aw_look {σ : St} {f : Nat → Nat} {L : List Nat} {x : C} {y : D} (h : x = .d y) : AW σ f L (.c x) (AD y) := by subst h; exact .c .d
theorem offA_pos {a : Ac} {o : Int} (h : a.kind = 0) : offA a o = a := if_pos h
theorem offA_neg {a : Ac} {o : Int} (h : ¬ a.kind = 0) : offA a o = { a with offset := o } := if_neg h
set_option maxHeartbeats 1000000 in
theorem action_spec (s : Sta) (slot : Int) (c : TC) (hck : checkS s = 0) : FnS Try.prog 19 [wP s slot c] [] (acA (actM s slot c)) [] := by
  obtain ⟨sl, of, kd, snd, pe, fl⟩ := c
  refine FnS.of_body (enters_of Try.func19 (by kernel_rfl) rfl) Try.func19 rfl Try.ntmps19 Try.results19 rfl rfl rfl rfl fun E hS => ?_
  by_cases h1 : kd = 1
  · subst h1
    have e : actM s slot ⟨sl, of, 1, snd, pe, fl⟩ = offA (ctlA s slot ⟨sl, of, 1, snd, pe, fl⟩) of := by rw [actM, rawA, if_pos rfl]
    rw [e]
    repeat' (first
      | (show VR _ _ _ (_ :: _) _ _ _; first | (show VR _ _ _ (⟨_, .makeFunc _ #[_] #[], _, _, _, _⟩ :: _) _ _ _; first | refine vr_makeFp (gk rfl) rfl rfl ?_) | (show VR _ _ _ (⟨_, .makeMap _ none, _, _, _, _⟩ :: _) _ _ _; first | refine vr_makeMap (gk rfl) rfl rfl ?_) | (show VR _ _ _ (⟨_, .insert _ _ _ _, _, _, _, _⟩ :: _) _ _ _; first | refine vr_insertF (gk rfl) rfl rfl rfl rfl rfl rfl rfl ?_) | (show VR _ _ _ (⟨_, .lookup _ _ _ false, _, _, _, _⟩ :: _) _ _ _; first | refine vr_lookupF (gk rfl) rfl rfl rfl rfl rfl rfl rfl rfl ?_) | (show VR _ _ _ (⟨_, .binOp .eql _ _ (.const .nilFunc) _, _, _, _, _⟩ :: _) _ _ _; first | refine vr_eqlFp (by kernel_rfl) (gk rfl) rfl rfl ?_) | (show VR _ _ _ (⟨_, .nilCheck _, _, _, _, _⟩ :: _) _ _ _; first | refine vr_nilCheck_pt (gk rfl) rfl rfl ?_) | (show VR _ _ _ (⟨_, .fieldAddr _ _ _, _, _, _, _⟩ :: _) _ _ _; first | refine vr_fieldAddr_pt (gk rfl) rfl rfl rfl rfl rfl ?_) | refine x_opF rfl (by first | exact True.intro | omega) ?_ | (show VR _ _ _ (⟨_, .call ⟨.value _, _, _⟩, _, _, _, _⟩ :: _) _ _ _; first | refine vr_callFp [] (control_spec s slot ⟨sl, of, 1, snd, pe, fl⟩ hck) (gk rfl) rfl rfl (by (repeat' (first | exact .nil | refine .cons ?_ ?_ | exact .of0 (.c .d) | exact .of0 .ep | exact .clo | exact .of0 (.c .nil) | exact .of0 (.c (cr_rowO (by simp) rfl (by first | rfl | omega) (fun _ => rfl))) | refine .of0 (.agg ?_) | exact .d | exact .nil | exact .of0 (.c (cr_row (by decide) rfl rfl (by repeat' (first | exact trivial | refine ⟨?_, ?_⟩ | rfl)))))) <;> fail) (by first | rfl | exact hfl_O (fun _ => rfl) | exact hfl_O2 rfl (fun _ => rfl)) rfl (by first | rfl | (simp only [wfRes, wfL, wfArgs, wfs, mpO_namesB, mpO_namesI]; rfl)) rfl (by first | exact newB_O | rfl) rfl ?_))
      | (show VR _ _ _ [] _ _ _; first | refine vr_nil ?_)
      | (show thenQ _ _ _ _; first | refine q_then_n ?_)
      | refine vc_seq ?_
      | refine vc_region ?_
      | (show VC _ (.cond _ _ _) _ _; first | refine vc_cond_f rfl ?_ | (refine x_cond rfl ?_ ?_ <;> intro h <;> have hq := h <;> (try simp only [hqs] at hq)))
      | refine vc_ret ?_ | refine vc_skip ?_
      | fail)
    · rw [offA_neg hq]
      exact ret_aggL isRet_r rfl rfl rfl rfl rfl
    · rw [offA_pos hq]
      exact ret_aggL isRet_r rfl rfl rfl rfl rfl
  by_cases h2 : kd = 2
  · subst h2
    have e : actM s slot ⟨sl, of, 2, snd, pe, fl⟩ = offA (agrA s ⟨sl, of, 2, snd, pe, fl⟩) of := by rw [actM, rawA, if_neg (by intro h; cases h), if_pos rfl]
    rw [e]
    repeat' (first
      | (show VR _ _ _ (_ :: _) _ _ _; first | (show VR _ _ _ (⟨_, .makeFunc _ #[_] #[], _, _, _, _⟩ :: _) _ _ _; first | refine vr_makeFp (gk rfl) rfl rfl ?_) | (show VR _ _ _ (⟨_, .makeMap _ none, _, _, _, _⟩ :: _) _ _ _; first | refine vr_makeMap (gk rfl) rfl rfl ?_) | (show VR _ _ _ (⟨_, .insert _ _ _ _, _, _, _, _⟩ :: _) _ _ _; first | refine vr_insertF (gk rfl) rfl rfl rfl rfl rfl rfl rfl ?_) | (show VR _ _ _ (⟨_, .lookup _ _ _ false, _, _, _, _⟩ :: _) _ _ _; first | refine vr_lookupF (gk rfl) rfl rfl rfl rfl rfl rfl rfl rfl ?_) | (show VR _ _ _ (⟨_, .binOp .eql _ _ (.const .nilFunc) _, _, _, _, _⟩ :: _) _ _ _; first | refine vr_eqlFp (by kernel_rfl) (gk rfl) rfl rfl ?_) | (show VR _ _ _ (⟨_, .nilCheck _, _, _, _, _⟩ :: _) _ _ _; first | refine vr_nilCheck_pt (gk rfl) rfl rfl ?_) | (show VR _ _ _ (⟨_, .fieldAddr _ _ _, _, _, _, _⟩ :: _) _ _ _; first | refine vr_fieldAddr_pt (gk rfl) rfl rfl rfl rfl rfl ?_) | refine x_opF rfl (by first | exact True.intro | omega) ?_ | (show VR _ _ _ (⟨_, .call ⟨.value _, _, _⟩, _, _, _, _⟩ :: _) _ _ _; first | refine vr_callFp [] (agreed_spec s slot ⟨sl, of, 2, snd, pe, fl⟩) (gk rfl) rfl rfl (by (repeat' (first | exact .nil | refine .cons ?_ ?_ | exact .of0 (.c .d) | exact .of0 .ep | exact .clo | exact .of0 (.c .nil) | exact .of0 (.c (cr_rowO (by simp) rfl (by first | rfl | omega) (fun _ => rfl))) | refine .of0 (.agg ?_) | exact .d | exact .nil | exact .of0 (.c (cr_row (by decide) rfl rfl (by repeat' (first | exact trivial | refine ⟨?_, ?_⟩ | rfl)))))) <;> fail) (by first | rfl | exact hfl_O (fun _ => rfl) | exact hfl_O2 rfl (fun _ => rfl)) rfl (by first | rfl | (simp only [wfRes, wfL, wfArgs, wfs, mpO_namesB, mpO_namesI]; rfl)) rfl (by first | exact newB_O | rfl) rfl ?_))
      | (show VR _ _ _ [] _ _ _; first | refine vr_nil ?_)
      | (show thenQ _ _ _ _; first | refine q_then_n ?_)
      | refine vc_seq ?_
      | refine vc_region ?_
      | (show VC _ (.cond _ _ _) _ _; first | refine vc_cond_f rfl ?_ | (refine x_cond rfl ?_ ?_ <;> intro h <;> have hq := h <;> (try simp only [hqs] at hq)))
      | refine vc_ret ?_ | refine vc_skip ?_
      | fail)
    · rw [offA_neg hq]
      exact ret_aggL isRet_r rfl rfl rfl rfl rfl
    · rw [offA_pos hq]
      exact ret_aggL isRet_r rfl rfl rfl rfl rfl
  by_cases h3 : kd = 3
  · subst h3
    have e : actM s slot ⟨sl, of, 3, snd, pe, fl⟩ = offA (shrA s) of := by rw [actM, rawA, if_neg (by intro h; cases h), if_neg (by intro h; cases h), if_pos rfl]
    rw [e]
    repeat' (first
      | (show VR _ _ _ (_ :: _) _ _ _; first | (show VR _ _ _ (⟨_, .makeFunc _ #[_] #[], _, _, _, _⟩ :: _) _ _ _; first | refine vr_makeFp (gk rfl) rfl rfl ?_) | (show VR _ _ _ (⟨_, .makeMap _ none, _, _, _, _⟩ :: _) _ _ _; first | refine vr_makeMap (gk rfl) rfl rfl ?_) | (show VR _ _ _ (⟨_, .insert _ _ _ _, _, _, _, _⟩ :: _) _ _ _; first | refine vr_insertF (gk rfl) rfl rfl rfl rfl rfl rfl rfl ?_) | (show VR _ _ _ (⟨_, .lookup _ _ _ false, _, _, _, _⟩ :: _) _ _ _; first | refine vr_lookupF (gk rfl) rfl rfl rfl rfl rfl rfl rfl rfl ?_) | (show VR _ _ _ (⟨_, .binOp .eql _ _ (.const .nilFunc) _, _, _, _, _⟩ :: _) _ _ _; first | refine vr_eqlFp (by kernel_rfl) (gk rfl) rfl rfl ?_) | (show VR _ _ _ (⟨_, .nilCheck _, _, _, _, _⟩ :: _) _ _ _; first | refine vr_nilCheck_pt (gk rfl) rfl rfl ?_) | (show VR _ _ _ (⟨_, .fieldAddr _ _ _, _, _, _, _⟩ :: _) _ _ _; first | refine vr_fieldAddr_pt (gk rfl) rfl rfl rfl rfl rfl ?_) | refine x_opF rfl (by first | exact True.intro | omega) ?_ | (show VR _ _ _ (⟨_, .call ⟨.value _, _, _⟩, _, _, _, _⟩ :: _) _ _ _; first | refine vr_callFp [] (shared_spec s slot ⟨sl, of, 3, snd, pe, fl⟩) (gk rfl) rfl rfl (by (repeat' (first | exact .nil | refine .cons ?_ ?_ | exact .of0 (.c .d) | exact .of0 .ep | exact .clo | exact .of0 (.c .nil) | exact .of0 (.c (cr_rowO (by simp) rfl (by first | rfl | omega) (fun _ => rfl))) | refine .of0 (.agg ?_) | exact .d | exact .nil | exact .of0 (.c (cr_row (by decide) rfl rfl (by repeat' (first | exact trivial | refine ⟨?_, ?_⟩ | rfl)))))) <;> fail) (by first | rfl | exact hfl_O (fun _ => rfl) | exact hfl_O2 rfl (fun _ => rfl)) rfl (by first | rfl | (simp only [wfRes, wfL, wfArgs, wfs, mpO_namesB, mpO_namesI]; rfl)) rfl (by first | exact newB_O | rfl) rfl ?_))
      | (show VR _ _ _ [] _ _ _; first | refine vr_nil ?_)
      | (show thenQ _ _ _ _; first | refine q_then_n ?_)
      | refine vc_seq ?_
      | refine vc_region ?_
      | (show VC _ (.cond _ _ _) _ _; first | refine vc_cond_f rfl ?_ | (refine x_cond rfl ?_ ?_ <;> intro h <;> have hq := h <;> (try simp only [hqs] at hq)))
      | refine vc_ret ?_ | refine vc_skip ?_
      | fail)
    · rw [offA_neg hq]
      exact ret_aggL isRet_r rfl rfl rfl rfl rfl
    · rw [offA_pos hq]
      exact ret_aggL isRet_r rfl rfl rfl rfl rfl
  have e : actM s slot ⟨sl, of, kd, snd, pe, fl⟩ = zAc := by
    rw [actM, rawA, if_neg h1, if_neg h2, if_neg h3]
    exact offA_pos rfl
  rw [e]
  repeat' (first
    | (show VR _ _ _ (_ :: _) _ _ _; first | (show VR _ _ _ (⟨_, .makeFunc _ #[_] #[], _, _, _, _⟩ :: _) _ _ _; first | refine vr_makeFp (gk rfl) rfl rfl ?_) | (show VR _ _ _ (⟨_, .makeMap _ none, _, _, _, _⟩ :: _) _ _ _; first | refine vr_makeMap (gk rfl) rfl rfl ?_) | (show VR _ _ _ (⟨_, .insert _ _ _ _, _, _, _, _⟩ :: _) _ _ _; first | refine vr_insertF (gk rfl) rfl rfl rfl rfl rfl rfl rfl ?_) | (show VR _ _ _ (⟨_, .lookup _ _ _ false, _, _, _, _⟩ :: _) _ _ _; first | refine vr_lookupF (gk rfl) rfl rfl rfl rfl rfl rfl rfl rfl ?_) | (show VR _ _ _ (⟨_, .nilCheck _, _, _, _, _⟩ :: _) _ _ _; first | refine vr_nilCheck_pt (gk rfl) rfl rfl ?_) | (show VR _ _ _ (⟨_, .fieldAddr _ _ _, _, _, _, _⟩ :: _) _ _ _; first | refine vr_fieldAddr_pt (gk rfl) rfl rfl rfl rfl rfl ?_) | refine x_opF rfl (by first | exact True.intro | omega) ?_)
    | (show VR _ _ _ [] _ _ _; first | refine vr_nil ?_)
    | (show thenQ _ _ _ _; first | refine q_then_n ?_)
    | (show VC _ (.seq _ _) _ _; (fail_if_success (show VC _ (.seq (.seq (.region 2 _ _) _) _) _ _)); (fail_if_success (show VC _ (.seq (.region 2 _ _) _) _ _)); refine vc_seq ?_)
    | refine vc_region ?_
    | fail)
  refine VC.le (σ' := stOf [(2, .c (.ptr 2 0)), (3, AD (.raw .nilFunc))] [(2, .box zAc.cs)]) ?_ ?_
  · refine le_gen0 (fun n => n) ?_ ?_ rfl (by first | rfl | (simp only [wfL, wfs, mpO_namesB, mpO_namesI]; rfl))
    all_goals repeat' (first | exact trivial | refine ⟨⟨_, rfl, ?_⟩, ?_⟩ | exact .c (.ptr rfl) | exact .boxD rfl rfl | fail)
    exact aw_look (look3 h1 h2 h3)
  repeat' (first
    | (show VR _ _ _ (_ :: _) _ _ _; first | (show VR _ _ _ (⟨_, .binOp .eql _ _ (.const .nilFunc) _, _, _, _, _⟩ :: _) _ _ _; first | refine vr_eqlFn0 (by kernel_rfl) (gk rfl) rfl rfl ?_) | refine x_opF rfl (by first | exact True.intro | omega) ?_)
    | (show VR _ _ _ [] _ _ _; first | refine vr_nil ?_)
    | (show thenQ _ _ _ _; first | refine q_then_n ?_ | refine q_then_r ?_)
    | refine vc_seq ?_
    | refine vc_region ?_
    | (show VC _ (.cond _ _ _) _ _; first | refine vc_cond_t rfl ?_)
    | refine vc_ret ?_
    | fail)
  exact ret_aggL isRet_r rfl rfl rfl rfl rfl
end Go.Proofs
