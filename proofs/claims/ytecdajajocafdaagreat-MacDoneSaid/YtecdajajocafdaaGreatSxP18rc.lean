/-
  What functions of the given program hand back, by walks over its code, and plain laws on that. No condition.
-/
import Derived.Test.YtecdajajocafdaaGreatSxP18rb
-- SXS
-- SXM
-- SXN
namespace Go.Proofs
open Go Go.Sx Go.Proofs.T Go.Proofs.Q
set_option maxRecDepth 4000
set_option linter.unusedSimpArgs false
set_option linter.unusedVariables false
attribute [local irreducible] VR VC thenQ blockQ retL

theorem r_leave_spec (s : Sta) (id : Int) (hck : checkS s = 0) (hid : ∃ i, idxId s.qu.packets id = some i) : FnS Tryz.prog 124 [stA s, AI id] [] (stA (leaveM s id)) [] := by
  obtain ⟨_, hQ, _, _, _, _, hr⟩ := checkS_of hck
  have hr := restB_of hr
  have hl := checkQ_len hQ
  obtain ⟨i, hi⟩ := hid
  have e : withoutQ s.qu id = (takeQ s.qu id).1 := by rw [takeQ_some hQ hi, withoutQ, filter_eraseI hQ hi]
  have hw := without_spec s.qu id (by omega)
  rw [e] at hw
  refine FnS.of_body (enters_of Tryz.func124 (by kernel_rfl) rfl) Tryz.func124 rfl Tryz.ntmps124 Tryz.results124 rfl rfl rfl rfl fun E hS => ?_
  repeat' (first
    | (show VR _ _ _ (_ :: _) _ _ _; first | refine x_opF rfl (by first | exact True.intro | omega) ?_ | (show VR _ _ _ (⟨_, .call ⟨.value _, _, _⟩, _, _, _, _⟩ :: _) _ _ _; first | refine vr_calldU (hw) (gk rfl) rfl rfl rfl (by first | rfl | (simp only [wfRes, wfL, wfArgs, wfs, mpO_namesB, mpO_namesI]; rfl)) rfl (by first | exact newB_nil | exact newB_O | ((simp only [newB, List.map_cons, List.map_nil, Blk.shift, rowOf_shift]) <;> rfl) | rfl) rfl ?_))
    | (show VR _ _ _ [] _ _ _; first | refine vr_nil ?_)
    | (show thenQ _ _ _ _; first | refine q_then_n ?_)
    | refine vc_seq ?_
    | refine vc_region ?_
    | refine vc_ret ?_
    | fail)
  exact ret_aggL isRet_r rfl rfl rfl rfl rfl
set_option maxHeartbeats 4000000 in
theorem r_sent_spec (s : Sta) (x : Pl) (acked : Bool) (hck : checkS s = 0) (hp : x.p = sentP s x.c) (hid : ∃ i, idxId s.qu.packets x.p.id = some i) : FnS Tryz.prog 61 [stA s, plA x, AB acked] [] (stA (triedM s x.c acked)) [] := by
  obtain ⟨_, _, _, _, _, hty, hr⟩ := checkS_of hck
  have hr := restB_of hr
  have hty := of_decide_eq_true hty
  have hpw := (pow5 (min (s.back + 1) 5)).resolve_left (by omega) |>.resolve_left (by omega)
  have hlv := r_leave_spec s x.p.id hck hid
  obtain ⟨xa, c, p, sm⟩ := x
  dsimp only at hp hid hlv ⊢
  subst hp
  have e1 : (sentP s c).to = -1 → triedM s c acked = leaveM s (sentP s c).id := fun h => if_pos h
  have e2 : ¬ (sentP s c).to = -1 → acked = true ∨ 4 ≤ triesM s c → ¬ c.kind = 3 → triedM s c acked = leaveM s (sentP s c).id := fun h h1 h2 => by rw [triedM, if_neg h, if_pos h1, goneM, if_neg h2]
  have e3 : ¬ (sentP s c).to = -1 → acked = true ∨ 4 ≤ triesM s c → c.kind = 3 → triedM s c acked = { leaveM s (sentP s c).id with back := 0, wait := 0 } := fun h h1 h2 => by rw [triedM, if_neg h, if_pos h1, goneM, if_pos h2]
  have e4 : ¬ (sentP s c).to = -1 → acked = false → triesM s c < 4 → ¬ c.kind = 3 → triedM s c acked = { s with trying := (sentP s c).id, tries := triesM s c } := fun h h1 h2 h3 => by rw [triedM, if_neg h, if_neg (by rw [h1]; simp; omega), againM, if_neg h3]
  have e5 : ¬ (sentP s c).to = -1 → acked = false → triesM s c < 4 → c.kind = 3 → triedM s c acked = { s with trying := (sentP s c).id, tries := triesM s c, back := min (s.back + 1) 5, seed := nextSeed s.seed, wait := nextSeed s.seed / 65536 % 2 ^ (min (s.back + 1) 5).toNat } := fun h h1 h2 h3 => by rw [triedM, if_neg h, if_neg (by rw [h1]; simp; omega), againM, if_pos h3]; rfl
  have t1 : s.trying = (sentP s c).id → triesM s c = s.tries + 1 := fun h => if_pos h
  have t2 : ¬ s.trying = (sentP s c).id → triesM s c = 1 := fun h => if_neg h
  have hts : triesM s c ≤ 4 := by unfold triesM; split <;> omega
  have hps := power_spec (min (s.back + 1) 5) (by omega)
  refine FnS.of_body (enters_of Tryz.func61 (by kernel_rfl) rfl) Tryz.func61 rfl Tryz.ntmps61 Tryz.results61 rfl rfl rfl rfl fun E hS => ?_
  by_cases k1 : (sentP s c).to = -1
  · have d1 : decide ((sentP s c).to = -1) = true := decide_eq_true k1
    rw [e1 k1]
    repeat' (first
      | (show VR _ _ _ (_ :: _) _ _ _; first | refine x_opF rfl (by first | exact True.intro | omega) ?_ | (show VR _ _ _ (⟨_, .call ⟨.value _, _, _⟩, _, _, _, _⟩ :: _) _ _ _; first | refine vr_calldU (hlv) (gk rfl) rfl rfl rfl (by first | rfl | (simp only [wfRes, wfL, wfArgs, wfs, mpO_namesB, mpO_namesI]; rfl)) rfl (by first | exact newB_nil | exact newB_O | ((simp only [newB, List.map_cons, List.map_nil, Blk.shift, rowOf_shift]) <;> rfl) | rfl) rfl ?_))
      | (show VR _ _ _ [] _ _ _; first | refine vr_nil ?_)
      | (show thenQ _ _ _ _; first | refine q_then_n ?_ | refine q_then_r ?_)
      | refine vc_seq ?_
      | refine vc_region ?_
      | (show VC _ (.cond _ _ _) _ _; first | refine vc_cond_t rfl ?_ | refine x_know rfl (by assumption) ?_)
      | refine vc_ret ?_
      | fail)
    exact ret_aggL isRet_r rfl rfl rfl rfl rfl
  have d1 : decide ((sentP s c).to = -1) = false := decide_eq_false k1
  by_cases k3 : c.kind = 3
  · have d3 : decide (c.kind = 3) = true := decide_eq_true k3
    by_cases kg : acked = true ∨ 4 ≤ triesM s c
    · rw [e3 k1 kg k3]
      repeat' (first
        | (show VR _ _ _ (_ :: _) _ _ _; first | refine x_opF rfl (by first | exact True.intro | omega) ?_ | (show VR _ _ _ (⟨_, .call ⟨.value _, _, _⟩, _, _, _, _⟩ :: _) _ _ _; first | refine vr_calldU (hlv) (gk rfl) rfl rfl rfl (by first | rfl | (simp only [wfRes, wfL, wfArgs, wfs, mpO_namesB, mpO_namesI]; rfl)) rfl (by first | exact newB_nil | exact newB_O | ((simp only [newB, List.map_cons, List.map_nil, Blk.shift, rowOf_shift]) <;> rfl) | rfl) rfl ?_) | (refine x_gsplit rfl ?_ ?_ <;> intro h <;> have hq := h <;> (try simp only [hqs] at hq)))
        | (show VR _ _ _ [] _ _ _; first | refine vr_nil ?_)
        | (show thenQ _ _ _ _; first | refine q_then_n ?_ | refine q_then_r ?_)
        | (show VC _ (.seq _ _) _ _; (fail_if_success (show VC _ (.seq (.seq (.region 12 _ _) _) _) _ _)); (fail_if_success (show VC _ (.seq (.region 12 _ _) _) _ _)); refine vc_seq ?_)
        | refine vc_region ?_
        | (show VC _ (.cond _ _ _) _ _; first | refine vc_cond_t rfl ?_ | refine vc_cond_f rfl ?_ | refine x_know rfl (by assumption) ?_ | (refine x_cond rfl ?_ ?_ <;> intro h <;> have hq := h <;> (try simp only [hqs] at hq)))
        | refine vc_ret ?_ | refine vc_skip ?_
        | fail)
      all_goals first
        | exact ret_aggL isRet_r rfl rfl rfl rfl rfl
        | (exfalso; rcases kg with kg | kg
           · simp_all
           · first | (have := t1 (by assumption); omega) | (have := t2 (by assumption); omega))
    · have ha : acked = false := by cases acked with
        | true => exact absurd (.inl rfl) kg
        | false => rfl
      have hlt : triesM s c < 4 := by omega
      rw [e5 k1 ha hlt k3]
      by_cases kt : s.trying = (sentP s c).id
      · have dt : decide (s.trying = (sentP s c).id) = true := decide_eq_true kt
        have h4 := t1 kt
        have d4 : decide (s.tries + 1 = 4) = false := decide_eq_false (by omega)
        rw [h4]
        repeat' (first
          | (show VR _ _ _ (_ :: _) _ _ _; first | refine x_opF rfl (by first | exact True.intro | omega) ?_ | refine x_gknow rfl (by assumption) ?_)
          | (show VR _ _ _ [] _ _ _; first | refine vr_nil ?_)
          | (show thenQ _ _ _ _; first | refine q_then_n ?_)
          | (show VC _ (.seq _ _) _ _; (fail_if_success (show VC _ (.seq (.seq (.region 15 _ _) _) _) _ _)); (fail_if_success (show VC _ (.seq (.region 15 _ _) _) _ _)); refine vc_seq ?_)
          | refine vc_region ?_
          | (show VC _ (.cond _ _ _) _ _; first | refine vc_cond_t rfl ?_ | refine vc_cond_f rfl ?_ | refine x_know rfl (by assumption) ?_)
          | refine vc_skip ?_
          | fail)
        obtain ⟨t, hte⟩ : ∃ t : Sta, t = { s with trying := (sentP s c).id, tries := s.tries + 1, back := min (s.back + 1) 5 } := ⟨_, rfl⟩
        have hts : t.seed = s.seed := by rw [hte]
        have htb : t.back = min (s.back + 1) 5 := by rw [hte]
        rw [← htb] at hpw hps
        have eX : ({ s with trying := (sentP s c).id, tries := s.tries + 1, back := min (s.back + 1) 5, seed := nextSeed s.seed, wait := nextSeed s.seed / 65536 % 2 ^ (min (s.back + 1) 5).toNat } : Sta) = { t with seed := nextSeed t.seed, wait := nextSeed t.seed / 65536 % 2 ^ t.back.toNat } := by rw [hte]
        rw [eX]
        refine VC.le (σ' := stOf [(3, .c (.ptr 3 0)), (6, .c (.ptr 6 0))] [(3, .box (Sta.cs { s with trying := (sentP s c).id, tries := s.tries + 1, back := min (s.back + 1) 5 })), (6, .box noS.cs)]) ?_ ?_
        · refine le_gen0 (fun n => n) ?_ ?_ rfl (by first | rfl | (simp only [wfL, wfs, mpO_namesB, mpO_namesI]; rfl))
          all_goals repeat' (first | exact trivial | refine ⟨⟨_, rfl, ?_⟩, ?_⟩ | exact .c (.ptr rfl) | exact .boxD rfl rfl | refine .box ?_ | exact .nil | refine .cons ?_ ?_ | exact .d | fail)
        rw [← hte]
        repeat' (first
          | (show VR _ _ _ (_ :: _) _ _ _; first | refine x_opF rfl (by first | exact True.intro | omega) ?_ | (show VR _ _ _ (⟨_, .call ⟨.value _, _, _⟩, _, _, _, _⟩ :: _) _ _ _; first | refine vr_calldU (hps) (gk rfl) rfl rfl rfl (by first | rfl | (simp only [wfRes, wfL, wfArgs, wfs, mpO_namesB, mpO_namesI]; rfl)) rfl (by first | exact newB_nil | exact newB_O | ((simp only [newB, List.map_cons, List.map_nil, Blk.shift, rowOf_shift]) <;> rfl) | rfl) rfl ?_))
          | (show VR _ _ _ [] _ _ _; first | refine vr_nil ?_ | refine vr_nil_t (by kernel_rfl) ?_)
          | (show thenQ _ _ _ _; first | refine q_then_n ?_)
          | refine vc_seq ?_
          | refine vc_region ?_ | refine vc_region_t ?_
          | refine vc_ret ?_
          | fail)
        exact ret_aggL isRet_r rfl rfl rfl rfl rfl
      · have dt : decide (s.trying = (sentP s c).id) = false := decide_eq_false kt
        have h4 := t2 kt
        rw [h4]
        repeat' (first
          | (show VR _ _ _ (_ :: _) _ _ _; first | refine x_opF rfl (by first | exact True.intro | omega) ?_ | refine x_gknow rfl (by assumption) ?_)
          | (show VR _ _ _ [] _ _ _; first | refine vr_nil ?_)
          | (show thenQ _ _ _ _; first | refine q_then_n ?_)
          | (show VC _ (.seq _ _) _ _; (fail_if_success (show VC _ (.seq (.seq (.region 15 _ _) _) _) _ _)); (fail_if_success (show VC _ (.seq (.region 15 _ _) _) _ _)); refine vc_seq ?_)
          | refine vc_region ?_
          | (show VC _ (.cond _ _ _) _ _; first | refine vc_cond_t rfl ?_ | refine vc_cond_f rfl ?_ | refine x_know rfl (by assumption) ?_)
          | refine vc_skip ?_
          | fail)
        obtain ⟨t, hte⟩ : ∃ t : Sta, t = { s with trying := (sentP s c).id, tries := 1, back := min (s.back + 1) 5 } := ⟨_, rfl⟩
        have hts : t.seed = s.seed := by rw [hte]
        have htb : t.back = min (s.back + 1) 5 := by rw [hte]
        rw [← htb] at hpw hps
        have eX : ({ s with trying := (sentP s c).id, tries := 1, back := min (s.back + 1) 5, seed := nextSeed s.seed, wait := nextSeed s.seed / 65536 % 2 ^ (min (s.back + 1) 5).toNat } : Sta) = { t with seed := nextSeed t.seed, wait := nextSeed t.seed / 65536 % 2 ^ t.back.toNat } := by rw [hte]
        rw [eX]
        refine VC.le (σ' := stOf [(3, .c (.ptr 3 0)), (6, .c (.ptr 6 0))] [(3, .box (Sta.cs { s with trying := (sentP s c).id, tries := 1, back := min (s.back + 1) 5 })), (6, .box noS.cs)]) ?_ ?_
        · refine le_gen0 (fun n => n) ?_ ?_ rfl (by first | rfl | (simp only [wfL, wfs, mpO_namesB, mpO_namesI]; rfl))
          all_goals repeat' (first | exact trivial | refine ⟨⟨_, rfl, ?_⟩, ?_⟩ | exact .c (.ptr rfl) | exact .boxD rfl rfl | refine .box ?_ | exact .nil | refine .cons ?_ ?_ | exact .d | fail)
        rw [← hte]
        repeat' (first
          | (show VR _ _ _ (_ :: _) _ _ _; first | refine x_opF rfl (by first | exact True.intro | omega) ?_ | (show VR _ _ _ (⟨_, .call ⟨.value _, _, _⟩, _, _, _, _⟩ :: _) _ _ _; first | refine vr_calldU (hps) (gk rfl) rfl rfl rfl (by first | rfl | (simp only [wfRes, wfL, wfArgs, wfs, mpO_namesB, mpO_namesI]; rfl)) rfl (by first | exact newB_nil | exact newB_O | ((simp only [newB, List.map_cons, List.map_nil, Blk.shift, rowOf_shift]) <;> rfl) | rfl) rfl ?_))
          | (show VR _ _ _ [] _ _ _; first | refine vr_nil ?_ | refine vr_nil_t (by kernel_rfl) ?_)
          | (show thenQ _ _ _ _; first | refine q_then_n ?_)
          | refine vc_seq ?_
          | refine vc_region ?_ | refine vc_region_t ?_
          | refine vc_ret ?_
          | fail)
        exact ret_aggL isRet_r rfl rfl rfl rfl rfl
  · have d3 : decide (c.kind = 3) = false := decide_eq_false k3
    by_cases kg : acked = true ∨ 4 ≤ triesM s c
    · rw [e2 k1 kg k3]
      repeat' (first
        | (show VR _ _ _ (_ :: _) _ _ _; first | refine x_opF rfl (by first | exact True.intro | omega) ?_ | (show VR _ _ _ (⟨_, .call ⟨.value _, _, _⟩, _, _, _, _⟩ :: _) _ _ _; first | refine vr_calldU (hlv) (gk rfl) rfl rfl rfl (by first | rfl | (simp only [wfRes, wfL, wfArgs, wfs, mpO_namesB, mpO_namesI]; rfl)) rfl (by first | exact newB_nil | exact newB_O | ((simp only [newB, List.map_cons, List.map_nil, Blk.shift, rowOf_shift]) <;> rfl) | rfl) rfl ?_) | (refine x_gsplit rfl ?_ ?_ <;> intro h <;> have hq := h <;> (try simp only [hqs] at hq)))
        | (show VR _ _ _ [] _ _ _; first | refine vr_nil ?_)
        | (show thenQ _ _ _ _; first | refine q_then_n ?_ | refine q_then_r ?_)
        | (show VC _ (.seq _ _) _ _; (fail_if_success (show VC _ (.seq (.seq (.region 12 _ _) _) _) _ _)); (fail_if_success (show VC _ (.seq (.region 12 _ _) _) _ _)); refine vc_seq ?_)
        | refine vc_region ?_
        | (show VC _ (.cond _ _ _) _ _; first | refine vc_cond_t rfl ?_ | refine vc_cond_f rfl ?_ | refine x_know rfl (by assumption) ?_ | (refine x_cond rfl ?_ ?_ <;> intro h <;> have hq := h <;> (try simp only [hqs] at hq)))
        | refine vc_ret ?_ | refine vc_skip ?_
        | fail)
      all_goals first
        | exact ret_aggL isRet_r rfl rfl rfl rfl rfl
        | (exfalso; rcases kg with kg | kg
           · simp_all
           · first | (have := t1 (by assumption); omega) | (have := t2 (by assumption); omega))
    · have ha : acked = false := by cases acked with
        | true => exact absurd (.inl rfl) kg
        | false => rfl
      have hlt : triesM s c < 4 := by omega
      rw [e4 k1 ha hlt k3]
      repeat' (first
        | (show VR _ _ _ (_ :: _) _ _ _; first | refine x_opF rfl (by first | exact True.intro | omega) ?_ | (show VR _ _ _ (⟨_, .call ⟨.value _, _, _⟩, _, _, _, _⟩ :: _) _ _ _; first | refine vr_calldU (hlv) (gk rfl) rfl rfl rfl (by first | rfl | (simp only [wfRes, wfL, wfArgs, wfs, mpO_namesB, mpO_namesI]; rfl)) rfl (by first | exact newB_nil | exact newB_O | ((simp only [newB, List.map_cons, List.map_nil, Blk.shift, rowOf_shift]) <;> rfl) | rfl) rfl ?_) | refine x_gknow rfl (by assumption) ?_)
        | (show VR _ _ _ [] _ _ _; first | refine vr_nil ?_)
        | (show thenQ _ _ _ _; first | refine q_then_n ?_ | refine q_then_r ?_)
        | refine vc_seq ?_
        | refine vc_region ?_
        | (show VC _ (.cond _ _ _) _ _; first | refine vc_cond_f rfl ?_ | refine x_know rfl (by assumption) ?_ | (refine x_cond rfl ?_ ?_ <;> intro h <;> have hq := h <;> (try simp only [hqs] at hq)))
        | refine vc_ret ?_ | refine vc_skip ?_
        | fail)
      all_goals first
        | (rw [t1 (by assumption)]
           exact ret_aggL isRet_r rfl rfl rfl rfl rfl)
        | (rw [t2 (by assumption)]
           exact ret_aggL isRet_r rfl rfl rfl rfl rfl)
        | (exfalso; have := t1 (by assumption); omega)
end Go.Proofs


