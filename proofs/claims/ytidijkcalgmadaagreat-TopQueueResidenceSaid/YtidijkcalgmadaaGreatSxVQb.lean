/-
  What functions of the given program hand back, by walks over its code, and plain laws on that. No condition.
-/
import Derived.Test.YtidijkcalgmadaaGreatSxVQa
-- SXS
-- SXM
namespace Go.Proofs.Q
open Go Go.Sx
set_option maxRecDepth 4000
set_option linter.unusedSimpArgs false
set_option linter.unusedVariables false
attribute [local irreducible] VR VC thenQ blockQ retL

def pkErr (l : List Pk) (k : Nat) : Int :=
  if formP (l.getD k default) ≠ 0 then formP (l.getD k default)
  else if ((l.take k).any fun x => decide (x.id = (l.getD k default).id)) = true then 6
  else if 0 < k ∧ (l.getD k default).prio < (l.getD (k - 1) default).prio then 5 else 0
def checkQ (q : Qu) : Int := if inI q.limit 1 64 = false then 2 else if q.limit < q.packets.length then 8 else firstErr q.packets.length (pkErr q.packets)

theorem checkQ_hit {q : Qu} {k : Nat} {e : Int} (h1 : inI q.limit 1 64 = true) (h0 : (q.packets.length : Int) ≤ q.limit) (h : k ≤ q.packets.length ∧ ∀ i, i < k → pkErr q.packets i = 0) (hk : k < q.packets.length) (he : pkErr q.packets k = e) (hne : e ≠ 0) : e = checkQ q := by
  subst he
  rw [checkQ, if_neg (by simp [h1]), if_neg (by omega), firstErr_hit h.2 hk hne]
theorem checkQ_none {q : Qu} {k : Nat} (h1 : inI q.limit 1 64 = true) (h0 : (q.packets.length : Int) ≤ q.limit) (h : k ≤ q.packets.length ∧ ∀ i, i < k → pkErr q.packets i = 0) (hk : q.packets.length ≤ k) : 0 = checkQ q := by
  rw [checkQ, if_neg (by simp [h1]), if_neg (by omega), firstErr_none fun i hi => h.2 i (by omega)]

set_option maxRecDepth 4000 in
set_option maxHeartbeats 200000 in
theorem checkQ_spec (q : Qu) : FnS Tryz.prog 89 [quA q] [] (AI (checkQ q)) [] := by
  refine FnS.of_body (enters_of Tryz.func89 (by kernel_rfl) rfl) Tryz.func89 rfl Tryz.ntmps89 Tryz.results89 rfl rfl rfl rfl fun E hS => ?_
  repeat' (first
    | (show VR _ _ _ (_ :: _) _ _ _; first | refine x_opF rfl (by first | exact True.intro | omega) ?_ | (show VR _ _ _ (⟨_, .call ⟨.value _, _, _⟩, _, _, _, _⟩ :: _) _ _ _; first | refine vr_calldU (within_spec _ _ _) (gk rfl) rfl rfl rfl (by first | rfl | (simp only [wfRes, wfL, wfArgs, wfs, mpO_namesB, mpO_namesI]; rfl)) rfl (by first | exact newB_O | rfl) rfl ?_) | (show VR _ _ _ (⟨_, .makeMap _ none, _, _, _, _⟩ :: _) _ _ _; first | refine vr_makeMapB (gk rfl) rfl rfl rfl rfl ?_))
    | (show VR _ _ _ [] _ _ _; first | refine vr_nil ?_)
    | (show thenQ _ _ _ _; first | refine q_then_n ?_ | refine q_then_r ?_)
    | refine vc_seq ?_
    | refine vc_region ?_
    | (show VC _ (.cond _ _ _) _ _; first | (refine x_cond rfl ?_ ?_ <;> intro h <;> have hq := h <;> (try simp only [hqs] at hq)))
    | refine vc_ret ?_ | refine vc_block ?_ | refine vc_skip ?_
    | fail)
  · refine ret_int isRet_r rfl ?_
    rw [checkQ, if_pos hq]
  · refine ret_int isRet_r rfl ?_
    rw [checkQ, if_neg (by simp_all), if_pos (by omega)]
  · have h1 : inI q.limit 1 64 = true := by simp_all
    have h2 : q.limit ≤ 64 := by simp [inI] at h1; omega
    refine vc_loopI (ι := Nat) (fun k => stOf [(1, .c (.ptr 1 0)), (3, .c (.mp 17)), (19, AD (pks q.packets)), (20, AI q.packets.length), (21, AI k)] [(1, .box q.cs), (17, .map (mpO k1 cfB (setO Pk.id (q.packets.take k))))]) (fun k => k ≤ q.packets.length ∧ ∀ i, i < k → pkErr q.packets i = 0) (fun k => q.packets.length - k) 0 ⟨Nat.zero_le _, fun i hi => absurd hi (Nat.not_lt_zero _)⟩ ?_ ?_
    · refine le_gen0 (fun n => n) ?_ ?_ rfl (by first | rfl | (simp only [wfL, wfs, mpO_namesB, mpO_namesI]; rfl))
      all_goals repeat' (first | exact trivial | refine ⟨⟨_, rfl, ?_⟩, ?_⟩ | exact .c .d | exact .c (.ptr rfl) | exact .c (.mp rfl) | exact .boxD rfl rfl | exact .mapO (fun _ => rfl) rfl | fail)
    · intro k hk
      repeat' (first
        | (show VR _ _ _ (_ :: _) _ _ _; first | refine x_opF rfl (by first | exact True.intro | omega) ?_ | (show VR _ _ _ (⟨_, .call ⟨.value _, _, _⟩, _, _, _, _⟩ :: _) _ _ _; first | refine vr_calldU (form_spec _) (gk rfl) rfl rfl rfl (by first | rfl | (simp only [wfRes, wfL, wfArgs, wfs, mpO_namesB, mpO_namesI]; rfl)) rfl (by first | exact newB_O | rfl) rfl ?_) | (show VR _ _ _ (⟨_, .indexAddr _ _ _, _, _, _, _⟩ :: _) _ _ _; first | refine vr_index_rd (gk rfl) rfl rfl rfl rfl rfl (by omega) rfl ?_) | (show VR _ _ _ (⟨_, .lookup _ _ _ _, _, _, _, _⟩ :: _) _ _ _; first | refine vr_lookupB (gk rfl) rfl rfl rfl rfl rfl rfl ?_))
        | (show VR _ _ _ [] _ _ _; first | refine vr_nil ?_)
        | (show thenQ _ _ _ _; first | refine q_then_n ?_ | refine q_then_x ?_ | refine q_then_r ?_)
        | (show blockQ _ _ _ _; first | refine q_blk_r ?_ | refine q_blk_x ?_)
        | (show VC _ (.seq _ _) _ _; (fail_if_success (show VC _ (.seq (.seq (.region 14 _ _) _) _) _ _)); (fail_if_success (show VC _ (.seq (.region 14 _ _) _) _ _)); refine vc_seq ?_)
        | refine vc_region ?_
        | (show VC _ (.cond _ _ _) _ _; first | (refine x_cond rfl ?_ ?_ <;> intro h <;> have hq := h <;> (try simp only [hqs] at hq)))
        | refine vc_ret ?_ | refine vc_exit ?_ | refine vc_block ?_ | refine vc_skip ?_
        | fail)
      · refine ret_int isRet_r rfl ?_
        refine (checkQ_hit (e := formP (q.packets.getD k default)) h1 (by omega) hk (by omega) ?_ hq).symm
        rw [pkErr, if_pos hq]
      · rw [setO_asc] at hq
        refine ret_int isRet_r rfl ?_
        refine (checkQ_hit (e := 6) h1 (by omega) hk (by omega) ?_ (by decide)).symm
        rw [pkErr, if_neg (by omega), if_pos hq]
      · clear h
        rw [setO_asc] at hq
        have ha := hq
        clear hq
        repeat' (first
          | (show VR _ _ _ (_ :: _) _ _ _; first | refine x_opF rfl (by first | exact True.intro | omega) ?_ | (show VR _ _ _ (⟨_, .indexAddr _ _ _, _, _, _, _⟩ :: _) _ _ _; first | refine vr_index_rdP (gk rfl) rfl rfl rfl rfl rfl (by omega) rfl ?_) | (show VR _ _ _ (⟨_, .mapUpdate _ _ _ _, _, _, _, _⟩ :: _) _ _ _; first | refine vr_mapUpdateB (gk rfl) rfl rfl rfl rfl rfl ?_) | (refine x_gsplit rfl ?_ ?_ <;> intro h <;> have hq := h <;> (try simp only [hqs] at hq)))
          | (show VR _ _ _ [] _ _ _; first | refine vr_nil ?_ | refine vr_nil_t (by kernel_rfl) ?_)
          | (show thenQ _ _ _ _; first | refine q_then_n ?_ | refine q_then_r ?_)
          | (show blockQ _ _ _ _; first | refine q_blk_n ?_ | refine q_blk_r ?_)
          | refine vc_seq ?_
          | refine vc_region ?_ | refine vc_region_t ?_
          | (show VC _ (.cond _ _ _) _ _; first | refine vc_cond_f rfl ?_ | (refine x_cond rfl ?_ ?_ <;> intro h <;> have hq := h <;> (try simp only [hqs] at hq)))
          | refine vc_ret ?_ | refine vc_skip ?_
          | fail)
        · refine ret_int isRet_r rfl ?_
          refine (checkQ_hit (e := 5) h1 (by omega) hk (by omega) ?_ (by decide)).symm
          rw [pkErr, if_neg (by omega), if_neg (by rw [ha]; decide), if_pos (by omega)]
        all_goals
          refine ⟨k + 1, ⟨by omega, fun i hi => ?_⟩, by omega, ?_⟩
          · by_cases hik : i < k
            · exact hk.2 i hik
            · have : i = k := by omega
              subst this
              rw [pkErr, if_neg (by omega), if_neg (by rw [ha]; decide), if_neg (by omega)]
          · have e : putA (setO Pk.id (q.packets.take k)) (q.packets.getD k default).id true = setO Pk.id (q.packets.take (k + 1)) := by
              rw [take_getD (by omega)]; exact setO_put ha
            rw [← e]
            refine le_gen0 (fun n => n) ?_ ?_ rfl (by first | rfl | (simp only [wfL, wfs, mpO_namesB, mpO_namesI]; rfl))
            all_goals repeat' (first | exact trivial | refine ⟨⟨_, rfl, ?_⟩, ?_⟩ | exact .c .d | exact .c (.ptr rfl) | exact .c (.mp rfl) | exact .boxD rfl rfl | exact .mapO (fun _ => rfl) rfl | fail)
      · refine ret_int isRet_r rfl ?_
        exact (checkQ_none h1 (by omega) hk (by omega)).symm

end Go.Proofs.Q


