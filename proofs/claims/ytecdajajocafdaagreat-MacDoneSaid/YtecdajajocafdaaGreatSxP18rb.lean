/-
  What functions of the given program hand back, by walks over its code, and plain laws on that. No condition.
-/
import Derived.Test.YtecdajajocafdaaGreatSxP18s
import Derived.Test.YtecdajajocafdaaGreatSxP18ra
import Derived.Test.YtecdajajocafdaaGreatSxP18kc
-- SXS
-- SXM
-- SXN
namespace Go.Proofs
open Go Go.Sx Go.Proofs.T Go.Proofs.Q
set_option maxRecDepth 4000
set_option linter.unusedSimpArgs false
set_option linter.unusedVariables false
attribute [local irreducible] VR VC thenQ blockQ retL

/-! What the reference does behind a slot. -/
set_option maxHeartbeats 2000000 in
theorem r_see_spec (l : List Sn) (x : Sn) (hl : l.length ≤ 1000) (hri : Rise Sn.node l) : FnS Tryz.prog 125 [AD (sns l), snA x] [] (AD (sns (updK Sn.node l x))) [] := by
  refine FnS.of_body (enters_of Tryz.func125 (by kernel_rfl) rfl) Tryz.func125 rfl Tryz.ntmps125 Tryz.results125 rfl rfl rfl rfl fun E hS => ?_
  refine vc_retL ?_
  repeat' (first
    | (show VR _ _ _ (_ :: _) _ _ _; first | refine x_opF rfl (by first | exact True.intro | omega) ?_)
    | (show VR _ _ _ [] _ _ _; first | refine vr_nil ?_)
    | (show thenQ _ _ _ _; first | refine q_then_n ?_)
    | refine vc_seq ?_
    | refine vc_region ?_
    | refine vc_block ?_
    | fail)
  refine VC.le (le_nil (t := 5) (nm := 45) (T := 91) (sz := 2) rfl rfl) ?_
  refine vc_loopI (ι := Nat) (fun k => stOf [(0, AD (sns l)), (3, .c (.ptr 3 0)), (5, .c (.row 45 (l.take k).length)), (6, AI k)]
    [(3, .box x.cs), (45, .row 91 2 (rowOf Sn.enc (l.take k)))])
    (fun k => k ≤ l.length ∧ ∀ a, a < k → (l.getD a default).node < x.node) (fun k => l.length - k) 0 ⟨Nat.zero_le _, fun i hi => absurd hi (Nat.not_lt_zero _)⟩ ?_ ?_
  · refine le_gen0 (fun n => n) ?_ ?_ rfl (by first | rfl | (simp only [wfL, wfs, mpO_namesB, mpO_namesI]; rfl))
    all_goals repeat' (first | exact trivial | refine ⟨⟨_, rfl, ?_⟩, ?_⟩ | exact .c .d | exact .c (.ptr rfl) | exact .c (.row rfl rfl) | exact .boxD rfl rfl | exact .rowD rfl rowOf_isD | fail)
  · intro k hk
    have htl : (l.take k).length ≤ 1000 := by rw [List.length_take]; omega
    rcases Nat.lt_or_ge k l.length with hlt | hge
    · have dlt : decide ((k : Int) < (l.length : Int)) = true := decide_eq_true (by omega)
      by_cases hfl : (l.getD k default).node < x.node
      · have d2 : decide ((l.getD k default).node < x.node) = true := decide_eq_true hfl
        repeat' (first
          | (show VR _ _ _ (_ :: _) _ _ _; first | refine x_opF rfl (by first | exact True.intro | omega) ?_ | (show VR _ _ _ (⟨_, .indexAddr _ _ _, _, _, _, _⟩ :: _) _ _ _; first | refine vr_index_rd (gk rfl) rfl rfl rfl rfl rfl (by omega) rfl ?_) | (show VR _ _ _ (⟨_, .call ⟨.builtin .append, _, _⟩, _, _, _, _⟩ :: _) _ _ _; first | refine vr_append0 (gk rfl) rfl rfl rfl (by first | rfl | exact rowOf_length.symm | (simp only [lns] <;> omega)) (by first | exact .row rfl (by first | rfl | exact rowOf_length.symm) | exact .rd | exact .nils) rfl rfl rfl (by (try dsimp only); omega) rfl rfl ?_) | refine x_gknow rfl (by assumption) ?_)
          | (show VR _ _ _ [] _ _ _; first | refine vr_nil ?_ | refine vr_nil_t (by kernel_rfl) ?_)
          | (show thenQ _ _ _ _; first | refine q_then_n ?_)
          | (show blockQ _ _ _ _; first | refine q_blk_n ?_)
          | refine vc_seq ?_
          | refine vc_region ?_ | refine vc_region_t ?_
          | (show VC _ (.cond _ _ _) _ _; first | refine vc_cond_t rfl ?_ | refine x_know rfl (by assumption) ?_)
          | refine vc_block ?_ | refine vc_skip ?_
          | fail)
        refine ⟨k + 1, ⟨by omega, fun a ha => ?_⟩, by omega, ?_⟩
        · by_cases hak : a < k
          · exact hk.2 a hak
          · rw [show a = k by omega]; exact hfl
        · rw [Go.Sx.take_getD hlt]
          refine le_gen0 (fun n => if n = 45 then 29 else n) ?_ ?_ rfl (by first | rfl | (simp only [wfL, wfs, mpO_namesB, mpO_namesI]; rfl))
          all_goals repeat' (first | exact trivial | refine ⟨⟨_, rfl, ?_⟩, ?_⟩ | exact .c .d | exact .c (.ptr rfl) | (refine .c (.row rfl ?_); ((try dsimp only); first | rfl | omega | (simp only [lns] <;> omega)); done) | exact .boxD rfl rfl | (refine .rowD ?_ rowOf_isD; rw [rowOf_append]; rfl) | fail)
      · have d2 : decide ((l.getD k default).node < x.node) = false := decide_eq_false hfl
        have h2 : ∀ a, k ≤ a → a < l.length → x.node ≤ (l.getD a default).node := fun a ha hl => by
          rcases Nat.lt_or_ge k a with h3 | h3
          · have := hri k a h3 hl; omega
          · rw [show a = k by omega]; omega
        repeat' (first
          | (show VR _ _ _ (_ :: _) _ _ _; first | refine x_opF rfl (by first | exact True.intro | omega) ?_ | (show VR _ _ _ (⟨_, .indexAddr _ _ _, _, _, _, _⟩ :: _) _ _ _; first | refine vr_index_rd (gk rfl) rfl rfl rfl rfl rfl (by omega) rfl ?_) | (show VR _ _ _ (⟨_, .call ⟨.builtin .append, _, _⟩, _, _, _, _⟩ :: _) _ _ _; first | refine vr_append0 (gk rfl) rfl rfl rfl (by first | rfl | exact rowOf_length.symm | (simp only [lns] <;> omega)) (by first | exact .row rfl (by first | rfl | exact rowOf_length.symm) | exact .rd | exact .nils) rfl rfl rfl (by (try dsimp only); omega) rfl rfl ?_) | refine x_gknow rfl (by assumption) ?_)
          | (show VR _ _ _ [] _ _ _; first | refine vr_nil ?_ | refine vr_nil_t (by kernel_rfl) ?_)
          | (show thenQ _ _ _ _; first | refine q_then_n ?_ | refine q_then_x ?_)
          | (show blockQ _ _ _ _; first | refine q_blk_x ?_)
          | refine vc_seq ?_
          | refine vc_region ?_ | refine vc_region_t ?_
          | (show VC _ (.cond _ _ _) _ _; first | refine vc_cond_f rfl ?_ | refine x_know rfl (by assumption) ?_)
          | refine vc_exit ?_ | refine vc_block ?_
          | fail)
        refine vc_loopI (ι := Nat) (fun j => stOf [(0, AD (sns l)), (3, .c (.ptr 3 0)), (5, .c (.row 46 (scanK Sn.node l x k j).length)), (6, AI j)]
          [(3, .box x.cs), (46, .row 91 2 (rowOf Sn.enc (scanK Sn.node l x k j)))])
          (fun j => k ≤ j ∧ j ≤ l.length) (fun j => l.length - j) k ⟨Nat.le_refl _, hk.1⟩ ?_ ?_
        · rw [scanK_start]
          refine le_gen0 (fun n => if n = 46 then 33 else n) ?_ ?_ rfl (by first | rfl | (simp only [wfL, wfs, mpO_namesB, mpO_namesI]; rfl))
          all_goals repeat' (first | exact trivial | refine ⟨⟨_, rfl, ?_⟩, ?_⟩ | exact .c .d | exact .c (.ptr rfl) | (refine .c (.row rfl ?_); ((try dsimp only); first | rfl | omega | (simp only [lns] <;> omega)); done) | exact .boxD rfl rfl | (refine .rowD ?_ rowOf_isD; rw [rowOf_append]; rfl) | fail)
        · intro j hj
          have hsl := scanK_len (k := Sn.node) (l := l) (x := x) (i := k) (j := j)
          rcases Nat.lt_or_ge j l.length with hlj | hgj
          · have dl : decide ((j : Int) < (l.length : Int)) = true := decide_eq_true (by omega)
            have hst := scanK_step (k := Sn.node) (l := l) (x := x) hj.1 hlj
            repeat' (first
              | (show VR _ _ _ (_ :: _) _ _ _; first | refine x_opF rfl (by first | exact True.intro | omega) ?_ | (show VR _ _ _ (⟨_, .indexAddr _ _ _, _, _, _, _⟩ :: _) _ _ _; first | refine vr_index_rd (gk rfl) rfl rfl rfl rfl rfl (by omega) rfl ?_) | (show VR _ _ _ (⟨_, .call ⟨.builtin .append, _, _⟩, _, _, _, _⟩ :: _) _ _ _; first | refine vr_append0 (gk rfl) rfl rfl rfl (by first | rfl | exact rowOf_length.symm | (simp only [lns] <;> omega)) (by first | exact .row rfl (by first | rfl | exact rowOf_length.symm) | exact .rd | exact .nils) rfl rfl rfl (by (try dsimp only); omega) rfl rfl ?_))
              | (show VR _ _ _ [] _ _ _; first | refine vr_nil ?_ | refine vr_nil_t (by kernel_rfl) ?_)
              | (show thenQ _ _ _ _; first | refine q_then_n ?_)
              | (show blockQ _ _ _ _; first | refine q_blk_n ?_)
              | refine vc_seq ?_
              | refine vc_region ?_ | refine vc_region_t ?_
              | (show VC _ (.cond _ _ _) _ _; first | refine vc_cond_t rfl ?_ | refine x_know rfl (by assumption) ?_ | (refine x_cond rfl ?_ ?_ <;> intro h <;> have hq := h <;> (try simp only [hqs] at hq)))
              | refine vc_block ?_ | refine vc_skip ?_
              | fail)
            · rw [if_neg hq] at hst
              refine ⟨j + 1, ⟨by omega, by omega⟩, by omega, ?_⟩
              rw [hst]
              refine le_gen0 (fun n => if n = 46 then 54 else n) ?_ ?_ rfl (by first | rfl | (simp only [wfL, wfs, mpO_namesB, mpO_namesI]; rfl))
              all_goals repeat' (first | exact trivial | refine ⟨⟨_, rfl, ?_⟩, ?_⟩ | exact .c .d | exact .c (.ptr rfl) | (refine .c (.row rfl ?_); ((try dsimp only); first | rfl | omega | (simp only [lns] <;> omega)); done) | exact .boxD rfl rfl | (refine .rowD ?_ rowOf_isD; rw [rowOf_append]; rfl) | fail)
            · rw [if_pos hq, List.append_nil] at hst
              refine ⟨j + 1, ⟨by omega, by omega⟩, by omega, ?_⟩
              rw [hst]
              refine le_gen0 (fun n => n) ?_ ?_ rfl (by first | rfl | (simp only [wfL, wfs, mpO_namesB, mpO_namesI]; rfl))
              all_goals repeat' (first | exact trivial | refine ⟨⟨_, rfl, ?_⟩, ?_⟩ | exact .c .d | exact .c (.ptr rfl) | exact .c (.row rfl rfl) | exact .boxD rfl rfl | exact .rowD rfl rowOf_isD | fail)
          · have dl : decide ((j : Int) < (l.length : Int)) = false := decide_eq_false (by omega)
            have hj' : j = l.length := by omega
            subst hj'
            have hen : scanK Sn.node l x k l.length = updK Sn.node l x := scanK_end hk.1 hk.2 h2
            rw [hen] at hsl
            rw [hen]
            repeat' (first
              | (show VR _ _ _ (_ :: _) _ _ _; first | refine x_opF rfl (by first | exact True.intro | omega) ?_)
              | (show VR _ _ _ [] _ _ _; first | refine vr_nil ?_)
              | (show thenQ _ _ _ _; first | refine q_then_n ?_ | refine q_then_x ?_)
              | (show blockQ _ _ _ _; first | refine q_blk_x ?_)
              | refine vc_seq ?_
              | refine vc_region ?_
              | (show VC _ (.cond _ _ _) _ _; first | refine vc_cond_f rfl ?_ | refine x_know rfl (by assumption) ?_)
              | refine vc_ret ?_ | refine vc_exit ?_
              | fail)
            refine retL_of (le_gen (l := [(4, AD (sns (updK Sn.node l x)))]) (b := []) (fun n => n) [46] hS ?_ ?_ rfl (by first | rfl | (simp only [wfL, wfs, mpO_namesB, mpO_namesI]; rfl))) (ret_d isRet_r rfl rfl)
            all_goals repeat' (first | exact trivial | refine ⟨⟨_, rfl, ?_⟩, ?_⟩ | exact .c (.frzOf (by first | (simp; done) | decide) rfl rfl (fun _ => rfl)) | fail)
    · have dlt : decide ((k : Int) < (l.length : Int)) = false := decide_eq_false (by omega)
      have h2 : ∀ a, k ≤ a → a < l.length → x.node ≤ (l.getD a default).node := fun a ha hl => by omega
      repeat' (first
        | (show VR _ _ _ (_ :: _) _ _ _; first | refine x_opF rfl (by first | exact True.intro | omega) ?_ | (show VR _ _ _ (⟨_, .call ⟨.builtin .append, _, _⟩, _, _, _, _⟩ :: _) _ _ _; first | refine vr_append0 (gk rfl) rfl rfl rfl (by first | rfl | exact rowOf_length.symm | (simp only [lns] <;> omega)) (by first | exact .row rfl (by first | rfl | exact rowOf_length.symm) | exact .rd | exact .nils) rfl rfl rfl (by (try dsimp only); omega) rfl rfl ?_) | refine x_gknow rfl (by assumption) ?_)
        | (show VR _ _ _ [] _ _ _; first | refine vr_nil ?_ | refine vr_nil_t (by kernel_rfl) ?_)
        | (show thenQ _ _ _ _; first | refine q_then_n ?_ | refine q_then_x ?_)
        | (show blockQ _ _ _ _; first | refine q_blk_x ?_)
        | refine vc_seq ?_
        | refine vc_region ?_ | refine vc_region_t ?_
        | (show VC _ (.cond _ _ _) _ _; first | refine vc_cond_f rfl ?_)
        | refine vc_exit ?_ | refine vc_block ?_
        | fail)
      refine vc_loopI (ι := Nat) (fun j => stOf [(0, AD (sns l)), (3, .c (.ptr 3 0)), (5, .c (.row 46 (scanK Sn.node l x k j).length)), (6, AI j)]
        [(3, .box x.cs), (46, .row 91 2 (rowOf Sn.enc (scanK Sn.node l x k j)))])
        (fun j => k ≤ j ∧ j ≤ l.length) (fun j => l.length - j) k ⟨Nat.le_refl _, hk.1⟩ ?_ ?_
      · rw [scanK_start]
        refine le_gen0 (fun n => if n = 46 then 33 else n) ?_ ?_ rfl (by first | rfl | (simp only [wfL, wfs, mpO_namesB, mpO_namesI]; rfl))
        all_goals repeat' (first | exact trivial | refine ⟨⟨_, rfl, ?_⟩, ?_⟩ | exact .c .d | exact .c (.ptr rfl) | (refine .c (.row rfl ?_); ((try dsimp only); first | rfl | omega | (simp only [lns] <;> omega)); done) | exact .boxD rfl rfl | (refine .rowD ?_ rowOf_isD; rw [rowOf_append]; rfl) | fail)
      · intro j hj
        have hsl := scanK_len (k := Sn.node) (l := l) (x := x) (i := k) (j := j)
        rcases Nat.lt_or_ge j l.length with hlj | hgj
        · have dl : decide ((j : Int) < (l.length : Int)) = true := decide_eq_true (by omega)
          have hst := scanK_step (k := Sn.node) (l := l) (x := x) hj.1 hlj
          repeat' (first
            | (show VR _ _ _ (_ :: _) _ _ _; first | refine x_opF rfl (by first | exact True.intro | omega) ?_ | (show VR _ _ _ (⟨_, .indexAddr _ _ _, _, _, _, _⟩ :: _) _ _ _; first | refine vr_index_rd (gk rfl) rfl rfl rfl rfl rfl (by omega) rfl ?_) | (show VR _ _ _ (⟨_, .call ⟨.builtin .append, _, _⟩, _, _, _, _⟩ :: _) _ _ _; first | refine vr_append0 (gk rfl) rfl rfl rfl (by first | rfl | exact rowOf_length.symm | (simp only [lns] <;> omega)) (by first | exact .row rfl (by first | rfl | exact rowOf_length.symm) | exact .rd | exact .nils) rfl rfl rfl (by (try dsimp only); omega) rfl rfl ?_))
            | (show VR _ _ _ [] _ _ _; first | refine vr_nil ?_ | refine vr_nil_t (by kernel_rfl) ?_)
            | (show thenQ _ _ _ _; first | refine q_then_n ?_)
            | (show blockQ _ _ _ _; first | refine q_blk_n ?_)
            | refine vc_seq ?_
            | refine vc_region ?_ | refine vc_region_t ?_
            | (show VC _ (.cond _ _ _) _ _; first | refine vc_cond_t rfl ?_ | refine x_know rfl (by assumption) ?_ | (refine x_cond rfl ?_ ?_ <;> intro h <;> have hq := h <;> (try simp only [hqs] at hq)))
            | refine vc_block ?_ | refine vc_skip ?_
            | fail)
          · rw [if_neg hq] at hst
            refine ⟨j + 1, ⟨by omega, by omega⟩, by omega, ?_⟩
            rw [hst]
            refine le_gen0 (fun n => if n = 46 then 54 else n) ?_ ?_ rfl (by first | rfl | (simp only [wfL, wfs, mpO_namesB, mpO_namesI]; rfl))
            all_goals repeat' (first | exact trivial | refine ⟨⟨_, rfl, ?_⟩, ?_⟩ | exact .c .d | exact .c (.ptr rfl) | (refine .c (.row rfl ?_); ((try dsimp only); first | rfl | omega | (simp only [lns] <;> omega)); done) | exact .boxD rfl rfl | (refine .rowD ?_ rowOf_isD; rw [rowOf_append]; rfl) | fail)
          · rw [if_pos hq, List.append_nil] at hst
            refine ⟨j + 1, ⟨by omega, by omega⟩, by omega, ?_⟩
            rw [hst]
            refine le_gen0 (fun n => n) ?_ ?_ rfl (by first | rfl | (simp only [wfL, wfs, mpO_namesB, mpO_namesI]; rfl))
            all_goals repeat' (first | exact trivial | refine ⟨⟨_, rfl, ?_⟩, ?_⟩ | exact .c .d | exact .c (.ptr rfl) | exact .c (.row rfl rfl) | exact .boxD rfl rfl | exact .rowD rfl rowOf_isD | fail)
        · have dl : decide ((j : Int) < (l.length : Int)) = false := decide_eq_false (by omega)
          have hj' : j = l.length := by omega
          subst hj'
          have hen : scanK Sn.node l x k l.length = updK Sn.node l x := scanK_end hk.1 hk.2 h2
          rw [hen] at hsl
          rw [hen]
          repeat' (first
            | (show VR _ _ _ (_ :: _) _ _ _; first | refine x_opF rfl (by first | exact True.intro | omega) ?_)
            | (show VR _ _ _ [] _ _ _; first | refine vr_nil ?_)
            | (show thenQ _ _ _ _; first | refine q_then_n ?_ | refine q_then_x ?_)
            | (show blockQ _ _ _ _; first | refine q_blk_x ?_)
            | refine vc_seq ?_
            | refine vc_region ?_
            | (show VC _ (.cond _ _ _) _ _; first | refine vc_cond_f rfl ?_ | refine x_know rfl (by assumption) ?_)
            | refine vc_ret ?_ | refine vc_exit ?_
            | fail)
          refine retL_of (le_gen (l := [(4, AD (sns (updK Sn.node l x)))]) (b := []) (fun n => n) [46] hS ?_ ?_ rfl (by first | rfl | (simp only [wfL, wfs, mpO_namesB, mpO_namesI]; rfl))) (ret_d isRet_r rfl rfl)
          all_goals repeat' (first | exact trivial | refine ⟨⟨_, rfl, ?_⟩, ?_⟩ | exact .c (.frzOf (by first | (simp; done) | decide) rfl rfl (fun _ => rfl)) | fail)
end Go.Proofs


