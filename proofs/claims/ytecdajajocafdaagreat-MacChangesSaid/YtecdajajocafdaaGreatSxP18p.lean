/-
  What functions of the given program hand back, by walks over its code, and plain laws on that. No condition.
-/
import Derived.Test.YtecdajajocafdaaGreatSxP18k
import Derived.Test.YtecdajajocafdaaGreatSxP18o
-- SXS
-- SXM
-- SXN
namespace Go.Proofs
open Go Go.Sx Go.Proofs.T Go.Proofs.Q
set_option maxRecDepth 4000
set_option linter.unusedSimpArgs false
set_option linter.unusedVariables false
attribute [local irreducible] VR VC thenQ blockQ retL
/-! The reference's New, searches, messages. -/
theorem r_new_spec (t : Tb) (limit seed : Int) : FnS Tryz.prog 12 [tbA t, AI limit, AI seed] [] (.tup [stA (newS t limit seed).1, AI (newS t limit seed).2]) [] := by
  have hck := r_checkT_spec t
  refine FnS.of_body (enters_of Tryz.func12 (by kernel_rfl) rfl) Tryz.func12 rfl Tryz.ntmps12 Tryz.results12 rfl rfl rfl rfl fun E hS => ?_
  refine vc_retL ?_
  repeat' (first
    | (show VR _ _ _ (_ :: _) _ _ _; first | refine x_opF rfl (by first | exact True.intro | omega) ?_ | (show VR _ _ _ (⟨_, .call ⟨.value _, _, _⟩, _, _, _, _⟩ :: _) _ _ _; first | refine vr_calldU (hck) (gk rfl) rfl rfl rfl (by first | rfl | (simp only [wfRes, wfL, wfArgs, wfs, mpO_namesB, mpO_namesI]; rfl)) rfl (by first | exact newB_nil | exact newB_O | ((simp only [newB, List.map_cons, List.map_nil, Blk.shift, rowOf_shift]) <;> rfl) | rfl) rfl ?_) | (refine x_gsplit rfl ?_ ?_ <;> intro h <;> have hq := h <;> (try simp only [hqs] at hq)))
    | (show VR _ _ _ [] _ _ _; first | refine vr_nil ?_)
    | (show thenQ _ _ _ _; first | refine q_then_n ?_ | refine q_then_r ?_)
    | refine vc_seq ?_
    | refine vc_region ?_
    | (show VC _ (.cond _ _ _) _ _; first | refine vc_cond_t rfl ?_ | (refine x_cond rfl ?_ ?_ <;> intro h <;> have hq := h <;> (try simp only [hqs] at hq)))
    | refine vc_ret ?_ | refine vc_skip ?_
    | fail)
  · have e : newS t limit seed = (noS, 1) := by rw [newS, if_pos hq]
    rw [e]
    refine retL_of (le_gen0 (l := [(6, .c (.ptr 6 0)), (7, AI 1)]) (b := [(6, .box noS.cs)]) (fun n => n) ?_ ?_ rfl (by first | rfl | (simp only [wfL, wfs, mpO_namesB, mpO_namesI]; rfl))) (ret_agg_dL isRet_r rfl rfl rfl rfl rfl rfl rfl)
    all_goals repeat' (first | exact trivial | refine ⟨⟨_, rfl, ?_⟩, ?_⟩ | exact .c .d | exact .c (.ptr rfl) | refine .box ?_ | exact .nil | refine .cons ?_ ?_ | exact .d | fail)
  · have e : newS t limit seed = (noS, 2) := by rw [newS, if_neg (by omega), if_pos (by omega)]
    rw [e]
    refine retL_of (le_gen0 (l := [(6, .c (.ptr 6 0)), (7, AI 2)]) (b := [(6, .box noS.cs)]) (fun n => n) ?_ ?_ rfl (by first | rfl | (simp only [wfL, wfs, mpO_namesB, mpO_namesI]; rfl))) (ret_agg_dL isRet_r rfl rfl rfl rfl rfl rfl rfl)
    all_goals repeat' (first | exact trivial | refine ⟨⟨_, rfl, ?_⟩, ?_⟩ | exact .c .d | exact .c (.ptr rfl) | refine .box ?_ | exact .nil | refine .cons ?_ ?_ | exact .d | fail)
  · have e : newS t limit seed = (noS, 2) := by rw [newS, if_neg (by omega), if_pos (by omega)]
    rw [e]
    refine retL_of (le_gen0 (l := [(6, .c (.ptr 6 0)), (7, AI 2)]) (b := [(6, .box noS.cs)]) (fun n => n) ?_ ?_ rfl (by first | rfl | (simp only [wfL, wfs, mpO_namesB, mpO_namesI]; rfl))) (ret_agg_dL isRet_r rfl rfl rfl rfl rfl rfl rfl)
    all_goals repeat' (first | exact trivial | refine ⟨⟨_, rfl, ?_⟩, ?_⟩ | exact .c .d | exact .c (.ptr rfl) | refine .box ?_ | exact .nil | refine .cons ?_ ?_ | exact .d | fail)
  · have e : newS t limit seed = (noS, 2) := by rw [newS, if_neg (by omega), if_pos (by omega)]
    rw [e]
    refine retL_of (le_gen0 (l := [(6, .c (.ptr 6 0)), (7, AI 2)]) (b := [(6, .box noS.cs)]) (fun n => n) ?_ ?_ rfl (by first | rfl | (simp only [wfL, wfs, mpO_namesB, mpO_namesI]; rfl))) (ret_agg_dL isRet_r rfl rfl rfl rfl rfl rfl rfl)
    all_goals repeat' (first | exact trivial | refine ⟨⟨_, rfl, ?_⟩, ?_⟩ | exact .c .d | exact .c (.ptr rfl) | refine .box ?_ | exact .nil | refine .cons ?_ ?_ | exact .d | fail)
  · have e : newS t limit seed = (noS, 2) := by rw [newS, if_neg (by omega), if_pos (by omega)]
    rw [e]
    refine retL_of (le_gen0 (l := [(6, .c (.ptr 6 0)), (7, AI 2)]) (b := [(6, .box noS.cs)]) (fun n => n) ?_ ?_ rfl (by first | rfl | (simp only [wfL, wfs, mpO_namesB, mpO_namesI]; rfl))) (ret_agg_dL isRet_r rfl rfl rfl rfl rfl rfl rfl)
    all_goals repeat' (first | exact trivial | refine ⟨⟨_, rfl, ?_⟩, ?_⟩ | exact .c .d | exact .c (.ptr rfl) | refine .box ?_ | exact .nil | refine .cons ?_ ?_ | exact .d | fail)
  · have e : newS t limit seed = (⟨t, ⟨limit, []⟩, [], [], 0, 0, -1, 0, 0, 0, seed⟩, 0) := by rw [newS, if_neg (by omega), if_neg (by omega)]
    rw [e]
    refine retL_of (le_gen0 (l := [(6, .c (.ptr 6 0)), (7, AI 0)]) (b := [(6, .box (Sta.cs ⟨t, ⟨limit, []⟩, [], [], 0, 0, -1, 0, 0, 0, seed⟩))]) (fun n => n) ?_ ?_ rfl (by first | rfl | (simp only [wfL, wfs, mpO_namesB, mpO_namesI]; rfl))) (ret_agg_dL isRet_r rfl rfl rfl rfl rfl rfl rfl)
    all_goals repeat' (first | exact trivial | refine ⟨⟨_, rfl, ?_⟩, ?_⟩ | exact .c .d | exact .c (.ptr rfl) | refine .box ?_ | exact .nil | refine .cons ?_ ?_ | exact .d | fail)
theorem r_index_spec (s : Sta) (flow : Int) : FnS Tryz.prog 62 [stA s, AI flow] [] (AI (oI (heldI s.held flow))) [] := by
  refine FnS.of_body (enters_of Tryz.func62 (by kernel_rfl) rfl) Tryz.func62 rfl Tryz.ntmps62 Tryz.results62 rfl rfl rfl rfl fun E hS => ?_
  repeat' (first
    | (show VR _ _ _ (_ :: _) _ _ _; first | refine x_opF rfl (by first | exact True.intro | omega) ?_)
    | (show VR _ _ _ [] _ _ _; first | refine vr_nil ?_)
    | (show thenQ _ _ _ _; first | refine q_then_n ?_)
    | refine vc_seq ?_
    | refine vc_region ?_
    | refine vc_block ?_
    | fail)
  refine vc_boundB (nm := 2) (j := 5) (n := s.held.length) rfl rfl fun hbl => ?_
  refine vc_loopI (ι := Nat) (fun k => stOf [(1, AI flow), (2, .c (.ptr 2 0)), (5, AI k)] [(2, .box s.cs)]) (fun k => k ≤ s.held.length ∧ ∀ i, i < k → decide ((s.held.getD i default).flow = flow) = false) (fun k => s.held.length - k) 0 ⟨Nat.zero_le _, fun i hi => absurd hi (Nat.not_lt_zero _)⟩ ?_ ?_
  · refine le_gen0 (fun n => n) ?_ ?_ rfl (by first | rfl | (simp only [wfL, wfs, mpO_namesB, mpO_namesI]; rfl))
    all_goals repeat' (first | exact trivial | refine ⟨⟨_, rfl, ?_⟩, ?_⟩ | exact .c .d | exact .c (.ptr rfl) | exact .boxD rfl rfl | fail)
  · intro k hk
    repeat' (first
      | (show VR _ _ _ (_ :: _) _ _ _; first | refine x_opF rfl (by first | exact True.intro | omega) ?_ | (show VR _ _ _ (⟨_, .indexAddr _ _ _, _, _, _, _⟩ :: _) _ _ _; first | refine vr_index_rd (gk rfl) rfl rfl rfl rfl rfl (by omega) rfl ?_))
      | (show VR _ _ _ [] _ _ _; first | refine vr_nil ?_)
      | (show thenQ _ _ _ _; first | refine q_then_n ?_ | refine q_then_x ?_ | refine q_then_r ?_)
      | (show blockQ _ _ _ _; first | refine q_blk_n ?_ | refine q_blk_r ?_ | refine q_blk_x ?_)
      | refine vc_seq ?_
      | refine vc_region ?_
      | (show VC _ (.cond _ _ _) _ _; first | (refine x_cond rfl ?_ ?_ <;> intro h <;> have hq := h <;> (try simp only [hqs] at hq)))
      | refine vc_ret ?_ | refine vc_exit ?_ | refine vc_block ?_ | refine vc_skip ?_
      | fail)
    · refine ret_int isRet_r rfl ?_
      rw [heldI, fstO_hit (l := s.held) (p := fun h => decide (h.flow = flow)) hk.2 (by omega) (decide_eq_true hq)]; rfl
    · refine ⟨k + 1, ⟨by omega, fun i hi => ?_⟩, by omega, ?_⟩
      · by_cases hik : i < k
        · exact hk.2 i hik
        · have : i = k := by omega
          subst this
          exact decide_eq_false hq
      · refine le_gen0 (fun n => n) ?_ ?_ rfl (by first | rfl | (simp only [wfL, wfs, mpO_namesB, mpO_namesI]; rfl))
        all_goals repeat' (first | exact trivial | refine ⟨⟨_, rfl, ?_⟩, ?_⟩ | exact .c .d | exact .c (.ptr rfl) | exact .boxD rfl rfl | fail)
    · refine ret_int isRet_r rfl ?_
      rw [heldI, fstO_none (l := s.held) (p := fun h => decide (h.flow = flow)) fun i hi => hk.2 i (by omega)]; rfl
theorem r_has_spec (l : List Int) (n : Int) : FnS Tryz.prog 104 [AD (ints l), AI n] [] (AB (l.any fun y => decide (n = y))) [] := by
  refine FnS.of_body (enters_of Tryz.func104 (by kernel_rfl) rfl) Tryz.func104 rfl Tryz.ntmps104 Tryz.results104 rfl rfl rfl rfl fun E hS => ?_
  repeat' (first
    | (show VR _ _ _ (_ :: _) _ _ _; first | refine x_opF rfl (by first | exact True.intro | omega) ?_)
    | (show VR _ _ _ [] _ _ _; first | refine vr_nil ?_)
    | (show thenQ _ _ _ _; first | refine q_then_n ?_)
    | refine vc_seq ?_
    | refine vc_region ?_
    | refine vc_block ?_
    | fail)
  refine vc_bound (t := 0) rfl fun hbl => ?_
  refine vc_loopI (ι := Nat) (fun k => stOf [(0, AD (ints l)), (1, AI n), (5, AI k)] []) (fun k => k ≤ l.length ∧ ∀ i, i < k → decide (n = l.getD i default) = false) (fun k => l.length - k) 0 ⟨Nat.zero_le _, fun i hi => absurd hi (Nat.not_lt_zero _)⟩ ?_ ?_
  · refine le_gen0 (fun n => n) ?_ ?_ rfl (by first | rfl | (simp only [wfL, wfs, mpO_namesB, mpO_namesI]; rfl))
    all_goals repeat' (first | exact trivial | refine ⟨⟨_, rfl, ?_⟩, ?_⟩ | exact .c .d | fail)
  · intro k hk
    repeat' (first
      | (show VR _ _ _ (_ :: _) _ _ _; first | refine x_opF rfl (by first | exact True.intro | omega) ?_ | (show VR _ _ _ (⟨_, .indexAddr _ _ _, _, _, _, _⟩ :: _) _ _ _; first | refine vr_index_rd (gk rfl) rfl rfl rfl rfl rfl (by omega) rfl ?_))
      | (show VR _ _ _ [] _ _ _; first | refine vr_nil ?_)
      | (show thenQ _ _ _ _; first | refine q_then_n ?_ | refine q_then_x ?_ | refine q_then_r ?_)
      | (show blockQ _ _ _ _; first | refine q_blk_n ?_ | refine q_blk_r ?_ | refine q_blk_x ?_)
      | refine vc_seq ?_
      | refine vc_region ?_
      | (show VC _ (.cond _ _ _) _ _; first | (refine x_cond rfl ?_ ?_ <;> intro h <;> have hq := h <;> (try simp only [hqs] at hq)))
      | refine vc_ret ?_ | refine vc_exit ?_ | refine vc_block ?_ | refine vc_skip ?_
      | fail)
    · refine ret_bool isRet_r rfl ?_
      exact List.any_eq_true.2 ⟨l.getD k default, getD_mem (by omega), decide_eq_true hq.symm⟩
    · refine ⟨k + 1, ⟨by omega, fun i hi => ?_⟩, by omega, ?_⟩
      · by_cases hik : i < k
        · exact hk.2 i hik
        · have : i = k := by omega
          subst this
          exact decide_eq_false fun h => hq h.symm
      · refine le_gen0 (fun n => n) ?_ ?_ rfl (by first | rfl | (simp only [wfL, wfs, mpO_namesB, mpO_namesI]; rfl))
        all_goals repeat' (first | exact trivial | refine ⟨⟨_, rfl, ?_⟩, ?_⟩ | exact .c .d | fail)
    · refine ret_bool isRet_r rfl ?_
      rw [List.any_eq_false]
      intro x hx
      obtain ⟨i, hi, rfl⟩ := mem_getD hx
      rw [hk.2 i (by omega)]; simp
set_option maxHeartbeats 1000000 in
theorem r_agreed_spec (t : Tb) (to : Int) : FnS Tryz.prog 152 [tbA t, AI to] [] (AB (agrB t to)) [] := by
  refine FnS.of_body (enters_of Tryz.func152 (by kernel_rfl) rfl) Tryz.func152 rfl Tryz.ntmps152 Tryz.results152 rfl rfl rfl rfl fun E hS => ?_
  repeat' (first
    | (show VR _ _ _ (_ :: _) _ _ _; first | refine x_opF rfl (by first | exact True.intro | omega) ?_)
    | (show VR _ _ _ [] _ _ _; first | refine vr_nil ?_)
    | (show thenQ _ _ _ _; first | refine q_then_n ?_)
    | refine vc_seq ?_
    | refine vc_region ?_
    | refine vc_block ?_
    | fail)
  refine vc_boundB (nm := 2) (j := 2) (n := t.cells.length) rfl rfl fun hbl => ?_
  refine vc_loopI (ι := Nat) (fun k => stOf [(1, AI to), (2, .c (.ptr 2 0)), (5, AI k)] [(2, .box t.cs)]) (fun k => k ≤ t.cells.length ∧ ∀ i, i < k → (decide ((t.cells.getD i default).kind = 2) && (t.cells.getD i default).send && decide ((t.cells.getD i default).peer = to)) = false) (fun k => t.cells.length - k) 0 ⟨Nat.zero_le _, fun i hi => absurd hi (Nat.not_lt_zero _)⟩ ?_ ?_
  · refine le_gen0 (fun n => n) ?_ ?_ rfl (by first | rfl | (simp only [wfL, wfs, mpO_namesB, mpO_namesI]; rfl))
    all_goals repeat' (first | exact trivial | refine ⟨⟨_, rfl, ?_⟩, ?_⟩ | exact .c .d | exact .c (.ptr rfl) | exact .boxD rfl rfl | fail)
  · intro k hk
    rcases Nat.lt_or_ge k t.cells.length with hlt | hge
    · repeat' (first
        | (show VR _ _ _ (_ :: _) _ _ _; first | refine x_opF rfl (by first | exact True.intro | omega) ?_ | (show VR _ _ _ (⟨_, .indexAddr _ _ _, _, _, _, _⟩ :: _) _ _ _; first | refine vr_index_rd (gk rfl) rfl rfl rfl rfl rfl (by omega) rfl ?_) | (refine x_gsplit rfl ?_ ?_ <;> intro h <;> have hq := h <;> (try simp only [hqs] at hq)))
        | (show VR _ _ _ [] _ _ _; first | refine vr_nil ?_)
        | (show thenQ _ _ _ _; first | refine q_then_n ?_ | refine q_then_x ?_ | refine q_then_r ?_)
        | (show blockQ _ _ _ _; first | refine q_blk_n ?_ | refine q_blk_r ?_ | refine q_blk_x ?_)
        | refine vc_seq ?_
        | refine vc_region ?_
        | (show VC _ (.cond _ _ _) _ _; first | refine vc_cond_f rfl ?_ | (refine x_cond rfl ?_ ?_ <;> intro h <;> have hq := h <;> (try simp only [hqs] at hq)))
        | refine vc_ret ?_ | refine vc_exit ?_ | refine vc_block ?_ | refine vc_skip ?_
        | fail)
      all_goals first
        | (exfalso; omega)
        | (refine ret_bool isRet_r rfl ?_
           exact List.any_eq_true.2 ⟨t.cells.getD k default, getD_mem hlt, by simp_all⟩)
        | (refine ⟨k + 1, ⟨by omega, fun i hi => ?_⟩, by omega, ?_⟩
           · by_cases hik : i < k
             · exact hk.2 i hik
             · have : i = k := by omega
               subst this
               simp_all
           · refine le_gen0 (fun n => n) ?_ ?_ rfl (by first | rfl | (simp only [wfL, wfs, mpO_namesB, mpO_namesI]; rfl))
             all_goals repeat' (first | exact trivial | refine ⟨⟨_, rfl, ?_⟩, ?_⟩ | exact .c .d | exact .c (.ptr rfl) | exact .boxD rfl rfl | fail)
           )
    · repeat' (first
        | (show VR _ _ _ (_ :: _) _ _ _; first | refine x_opF rfl (by first | exact True.intro | omega) ?_ | (show VR _ _ _ (⟨_, .indexAddr _ _ _, _, _, _, _⟩ :: _) _ _ _; first | refine vr_index_rd (gk rfl) rfl rfl rfl rfl rfl (by omega) rfl ?_) | (refine x_gsplit rfl ?_ ?_ <;> intro h <;> have hq := h <;> (try simp only [hqs] at hq)))
        | (show VR _ _ _ [] _ _ _; first | refine vr_nil ?_)
        | (show thenQ _ _ _ _; first | refine q_then_n ?_ | refine q_then_x ?_ | refine q_then_r ?_)
        | (show blockQ _ _ _ _; first | refine q_blk_n ?_ | refine q_blk_r ?_ | refine q_blk_x ?_)
        | refine vc_seq ?_
        | refine vc_region ?_
        | (show VC _ (.cond _ _ _) _ _; first | refine vc_cond_f rfl ?_ | (refine x_cond rfl ?_ ?_ <;> intro h <;> have hq := h <;> (try simp only [hqs] at hq)))
        | refine vc_ret ?_ | refine vc_exit ?_ | refine vc_block ?_ | refine vc_skip ?_
        | fail)
      all_goals first
        | (exfalso; omega)
        | skip
      refine ret_bool isRet_r rfl ?_
      rw [agrB, List.any_eq_false]
      intro x hx
      obtain ⟨i, hi, rfl⟩ := mem_getD hx
      rw [hk.2 i (by omega)]; simp
set_option maxHeartbeats 1000000 in
theorem r_candidate_spec (s : Sta) : FnS Tryz.prog 107 [stA s] [] (.tup [pkA (pkOf s (candI s)), AB (candI s).isSome]) [] := by
  refine FnS.of_body (enters_of Tryz.func107 (by kernel_rfl) rfl) Tryz.func107 rfl Tryz.ntmps107 Tryz.results107 rfl rfl rfl rfl fun E hS => ?_
  repeat' (first
    | (show VR _ _ _ (_ :: _) _ _ _; first | refine x_opF rfl (by first | exact True.intro | omega) ?_)
    | (show VR _ _ _ [] _ _ _; first | refine vr_nil ?_)
    | (show thenQ _ _ _ _; first | refine q_then_n ?_)
    | refine vc_seq ?_
    | refine vc_region ?_
    | refine vc_block ?_
    | fail)
  refine vc_boundB (nm := 1) (j := 4) (n := s.qu.packets.length) rfl rfl fun hbl => ?_
  refine vc_loopI (ι := Nat) (fun k => stOf [(1, .c (.ptr 1 0)), (2, .c (.ptr 2 0)), (4, AI k)] [(1, .box s.cs), (2, .box noP.cs)]) (fun k => k ≤ s.qu.packets.length ∧ ∀ i, i < k → (decide ((s.qu.packets.getD i default).to = -1) || !agrB s.tb (s.qu.packets.getD i default).to) = false) (fun k => s.qu.packets.length - k) 0 ⟨Nat.zero_le _, fun i hi => absurd hi (Nat.not_lt_zero _)⟩ ?_ ?_
  · refine le_gen0 (fun n => n) ?_ ?_ rfl (by first | rfl | (simp only [wfL, wfs, mpO_namesB, mpO_namesI]; rfl))
    all_goals repeat' (first | exact trivial | refine ⟨⟨_, rfl, ?_⟩, ?_⟩ | exact .c .d | exact .c (.ptr rfl) | exact .boxD rfl rfl | fail)
  · intro k hk
    rcases Nat.lt_or_ge k s.qu.packets.length with hlt | hge
    · have hag := r_agreed_spec s.tb (s.qu.packets.getD k default).to
      have dlt : decide ((k : Int) < (s.qu.packets.length : Int)) = true := decide_eq_true (by omega)
      repeat' (first
        | (show VR _ _ _ (_ :: _) _ _ _; first | refine x_opF rfl (by first | exact True.intro | omega) ?_ | (show VR _ _ _ (⟨_, .indexAddr _ _ _, _, _, _, _⟩ :: _) _ _ _; first | refine vr_index_rd (gk rfl) rfl rfl rfl rfl rfl (by omega) rfl ?_))
        | (show VR _ _ _ [] _ _ _; first | refine vr_nil ?_)
        | (show thenQ _ _ _ _; first | refine q_then_n ?_)
        | (show VC _ (.seq _ _) _ _; (fail_if_success (show VC _ (.seq (.seq (.region 5 _ _) _) _) _ _)); (fail_if_success (show VC _ (.seq (.region 5 _ _) _) _ _)); refine vc_seq ?_)
        | refine vc_region ?_
        | (show VC _ (.cond _ _ _) _ _; first | refine vc_cond_t rfl ?_ | refine x_know rfl (by assumption) ?_)
        | refine vc_block ?_ | refine vc_skip ?_
        | fail)
      generalize hx : s.qu.packets.getD k default = x at hag ⊢
      by_cases h1 : x.to = -1
      · have d1 : decide (x.to = -1) = true := decide_eq_true h1
        have hc : candI s = some k := fstO_hit hk.2 hlt (by rw [hx]; simp [h1])
        have hp : pkOf s (some k) = x := hx
        repeat' (first
          | (show VR _ _ _ (_ :: _) _ _ _; first | refine x_opF rfl (by first | exact True.intro | omega) ?_ | refine x_gknow rfl (by assumption) ?_)
          | (show VR _ _ _ [] _ _ _; first | refine vr_nil ?_)
          | (show thenQ _ _ _ _; first | refine q_then_n ?_ | refine q_then_r ?_)
          | (show blockQ _ _ _ _; first | refine q_blk_r ?_)
          | refine vc_seq ?_
          | refine vc_region ?_
          | (show VC _ (.cond _ _ _) _ _; first | refine vc_cond_t rfl ?_)
          | refine vc_ret ?_
          | fail)
        rw [hc, hp]
        exact ret_agg_dL isRet_r rfl rfl rfl rfl rfl rfl rfl
      · have d1 : decide (x.to = -1) = false := decide_eq_false h1
        cases h2 : agrB s.tb x.to with
        | false =>
          rw [h2] at hag
          have hc : candI s = some k := fstO_hit hk.2 hlt (by rw [hx, h2]; simp)
          have hp : pkOf s (some k) = x := hx
          repeat' (first
            | (show VR _ _ _ (_ :: _) _ _ _; first | refine x_opF rfl (by first | exact True.intro | omega) ?_ | (show VR _ _ _ (⟨_, .call ⟨.value _, _, _⟩, _, _, _, _⟩ :: _) _ _ _; first | refine vr_calldU (hag) (gk rfl) rfl rfl rfl (by first | rfl | (simp only [wfRes, wfL, wfArgs, wfs, mpO_namesB, mpO_namesI]; rfl)) rfl (by first | exact newB_nil | exact newB_O | ((simp only [newB, List.map_cons, List.map_nil, Blk.shift, rowOf_shift]) <;> rfl) | rfl) rfl ?_) | refine x_gknow rfl (by assumption) ?_)
            | (show VR _ _ _ [] _ _ _; first | refine vr_nil ?_)
            | (show thenQ _ _ _ _; first | refine q_then_n ?_ | refine q_then_r ?_)
            | (show blockQ _ _ _ _; first | refine q_blk_r ?_)
            | refine vc_seq ?_
            | refine vc_region ?_
            | (show VC _ (.cond _ _ _) _ _; first | refine vc_cond_t rfl ?_)
            | refine vc_ret ?_
            | fail)
          rw [hc, hp]
          exact ret_agg_dL isRet_r rfl rfl rfl rfl rfl rfl rfl
        | true =>
          rw [h2] at hag
          repeat' (first
            | (show VR _ _ _ (_ :: _) _ _ _; first | refine x_opF rfl (by first | exact True.intro | omega) ?_ | (show VR _ _ _ (⟨_, .call ⟨.value _, _, _⟩, _, _, _, _⟩ :: _) _ _ _; first | refine vr_calldU (hag) (gk rfl) rfl rfl rfl (by first | rfl | (simp only [wfRes, wfL, wfArgs, wfs, mpO_namesB, mpO_namesI]; rfl)) rfl (by first | exact newB_nil | exact newB_O | ((simp only [newB, List.map_cons, List.map_nil, Blk.shift, rowOf_shift]) <;> rfl) | rfl) rfl ?_) | refine x_gknow rfl (by assumption) ?_)
            | (show VR _ _ _ [] _ _ _; first | refine vr_nil ?_)
            | (show thenQ _ _ _ _; first | refine q_then_n ?_)
            | (show blockQ _ _ _ _; first | refine q_blk_n ?_)
            | refine vc_seq ?_
            | refine vc_region ?_
            | (show VC _ (.cond _ _ _) _ _; first | refine vc_cond_f rfl ?_)
            | refine vc_skip ?_
            | fail)
          refine ⟨k + 1, ⟨by omega, fun i hi => ?_⟩, by omega, ?_⟩
          · by_cases hik : i < k
            · exact hk.2 i hik
            · have : i = k := by omega
              subst this
              rw [hx, h2, d1]; rfl
          · refine le_gen0 (fun n => n) ?_ ?_ rfl (by first | rfl | (simp only [wfL, wfs, mpO_namesB, mpO_namesI]; rfl))
            all_goals repeat' (first | exact trivial | refine ⟨⟨_, rfl, ?_⟩, ?_⟩ | exact .c .d | exact .c (.ptr rfl) | exact .boxD rfl rfl | fail)
    · have dlt : decide ((k : Int) < (s.qu.packets.length : Int)) = false := decide_eq_false (by omega)
      repeat' (first
        | (show VR _ _ _ (_ :: _) _ _ _; first | refine x_opF rfl (by first | exact True.intro | omega) ?_)
        | (show VR _ _ _ [] _ _ _; first | refine vr_nil ?_)
        | (show thenQ _ _ _ _; first | refine q_then_n ?_ | refine q_then_x ?_)
        | (show blockQ _ _ _ _; first | refine q_blk_x ?_)
        | refine vc_seq ?_
        | refine vc_region ?_
        | (show VC _ (.cond _ _ _) _ _; first | refine vc_cond_f rfl ?_ | refine x_know rfl (by assumption) ?_)
        | refine vc_ret ?_ | refine vc_exit ?_
        | fail)
      have hc : candI s = none := fstO_none fun i hi => hk.2 i (by omega)
      rw [hc]
      exact ret_agg_dL isRet_r rfl rfl rfl rfl rfl rfl rfl
def msgF (s : Sta) (p : Pk) : Fr := ⟨4, s.tb.node, p.to, s.list, s.seq, 0, 0, 0, 0, 0, 0, p.data⟩
theorem r_message_spec (s : Sta) (p : Pk) : FnS Tryz.prog 106 [stA s, pkA p] [] (frA (msgF s p)) [] := by
  refine FnS.of_body (enters_of Tryz.func106 (by kernel_rfl) rfl) Tryz.func106 rfl Tryz.ntmps106 Tryz.results106 rfl rfl rfl rfl fun E hS => ?_
  repeat' (first
    | (show VR _ _ _ (_ :: _) _ _ _; first | refine x_opF rfl (by first | exact True.intro | omega) ?_)
    | (show VR _ _ _ [] _ _ _; first | refine vr_nil ?_)
    | (show thenQ _ _ _ _; first | refine q_then_n ?_)
    | refine vc_seq ?_
    | refine vc_region ?_
    | refine vc_ret ?_
    | fail)
  all_goals exact ret_aggL isRet_r rfl rfl rfl rfl rfl
end Go.Proofs
