/-
  What functions of the given program hand back, by walks over its code, and plain laws on that. No condition.
-/
import Derived.Test.YtidijkcalgmadaaGreatSxMR
import Derived.Test.YtidijkcalgmadaaGreatSxMFa
import Derived.Test.YtidijkcalgmadaaGreatSxLibC
import Derived.Test.YtidijkcalgmadaaGreatSxMP
set_option linter.unusedSimpArgs false
set_option linter.unusedVariables false
section
namespace Go.Proofs.Y
open Go Go.Sx
open Go.Proofs.P (Rk rkA ints isNaN_spec)
open Go.Proofs.R (rks)
set_option maxRecDepth 4000
attribute [local irreducible] VR VC thenQ blockQ retL
theorem less_spec (a b : Int) : FnS Tryz.prog 170 [AI a, AI b] [] (AB (decide (a < b))) [] := by
  refine FnS.of_body (enters_of Tryz.func170 (by kernel_rfl) rfl) Tryz.func170 rfl Tryz.ntmps170 Tryz.results170 rfl rfl rfl rfl fun E hS => ?_
  repeat' (first | (show VR _ _ _ (_ :: _) _ _ _; first | refine x_opF rfl (by first | exact True.intro | omega) ?_ | (show VR _ _ _ (⟨_, .call ⟨.value _, _, _⟩, _, _, _, _⟩ :: _) _ _ _; first | refine vr_calldU (isNaN_spec _) (gk rfl) rfl rfl rfl (by first | rfl | (simp only [wfRes, wfL, wfArgs, wfs, mpO_namesB, mpO_namesI]; rfl)) rfl (by first | exact newB_nil | exact newB_O | ((simp only [newB, List.map_cons, List.map_nil, Blk.shift, rowOf_shift]) <;> rfl) | rfl) rfl ?_)) | (show VR _ _ _ [] _ _ _; first | refine vr_nil ?_) | (show thenQ _ _ _ _; first | refine q_then_n ?_) | refine vc_seq ?_ | refine vc_region ?_ | refine vc_ret ?_)
  all_goals exact ret_bool isRet_r rfl rfl
abbrev Up (l : List Int) : Prop := ∀ i, i + 1 < l.length -> l.getD i default < l.getD (i + 1) default
theorem ins_spec (l : List Int) (hu : Up l) (h0 : l.length <= 12) : FnS Tryz.prog 234 [AD (ints l), AI 0, AI l.length] [] (.tup []) [] := by
  refine FnS.of_body (enters_of Tryz.func234 (by kernel_rfl) rfl) Tryz.func234 rfl Tryz.ntmps234 Tryz.results234 rfl rfl rfl rfl fun E hS => ?_
  repeat' (first | (show VR _ _ _ (_ :: _) _ _ _; first | refine x_opF rfl (by first | exact True.intro | omega) ?_) | (show VR _ _ _ [] _ _ _; first | refine vr_nil ?_) | (show thenQ _ _ _ _; first | refine q_then_n ?_) | refine vc_seq ?_ | refine vc_region ?_ | refine vc_block ?_)
  refine vc_loopI (ι := Nat) (fun k => stOf [(0, AD (ints l)), (1, AI 0), (2, AI l.length), (6, AI k)] []) (fun k => 1 <= k) (fun k => l.length - k) 1 (Nat.le_refl _) ?_ ?_
  · refine le_gen0 (fun n => n) ?_ ?_ rfl (by first | rfl | (simp only [wfL, wfs, mpO_namesB, mpO_namesI]; rfl))
    all_goals repeat' (first | exact trivial | refine ⟨⟨_, rfl, ?_⟩, ?_⟩ | exact .c .d)
  · intro k hk
    rcases Nat.lt_or_ge k l.length with hlt | hge
    · have d1 : decide ((k : Int) < (l.length : Int)) = true := decide_eq_true (by omega)
      have d2 : decide ((0 : Int) < (k : Int)) = true := decide_eq_true (by omega)
      have hlt2 : l.getD (k - 1) default < l.getD k default := by have := hu (k - 1) (by omega); rwa [Nat.sub_add_cancel hk] at this
      have d3 : decide (l.getD k default < l.getD (k - 1) default) = false := decide_eq_false (by omega)
      repeat' (first | (show VR _ _ _ (_ :: _) _ _ _; first | refine x_opF rfl (by first | exact True.intro | omega) ?_) | (show VR _ _ _ [] _ _ _; first | refine vr_nil ?_) | (show thenQ _ _ _ _; first | refine q_then_n ?_) | refine vc_seq ?_ | refine vc_region ?_ | (show VC _ (.cond _ _ _) _ _; first | refine vc_cond_t rfl ?_ | refine x_know rfl (by assumption) ?_) | refine vc_block ?_ | refine vc_skip ?_)
      refine vc_loopI (ι := Unit) (fun _ => stOf [(0, AD (ints l)), (1, AI 0), (2, AI l.length), (6, AI k), (7, AI k)] []) (fun _ => True) (fun _ => 0) () trivial ?_ ?_
      · refine le_gen0 (fun n => n) ?_ ?_ rfl (by first | rfl | (simp only [wfL, wfs, mpO_namesB, mpO_namesI]; rfl))
        all_goals repeat' (first | exact trivial | refine ⟨⟨_, rfl, ?_⟩, ?_⟩ | exact .c .d)
      · intro _ _
        repeat' (first | (show VR _ _ _ (_ :: _) _ _ _; first | refine x_opF rfl (by first | exact True.intro | omega) ?_ | (show VR _ _ _ (⟨_, .call ⟨.value _, _, _⟩, _, _, _, _⟩ :: _) _ _ _; first | refine vr_calldU (less_spec _ _) (gk rfl) rfl rfl rfl (by first | rfl | (simp only [wfRes, wfL, wfArgs, wfs, mpO_namesB, mpO_namesI]; rfl)) rfl (by first | exact newB_nil | exact newB_O | ((simp only [newB, List.map_cons, List.map_nil, Blk.shift, rowOf_shift]) <;> rfl) | rfl) rfl ?_) | (show VR _ _ _ (⟨_, .indexAddr _ _ _, _, _, _, _⟩ :: _) _ _ _; first | refine vr_index_rd (gk rfl) rfl rfl rfl rfl rfl (by omega) rfl ?_ | refine vr_index_rdP (gk rfl) rfl rfl rfl rfl rfl (by omega) rfl ?_) | refine x_gknow rfl (by assumption) ?_) | (show VR _ _ _ [] _ _ _; first | refine vr_nil ?_ | refine vr_nil_t (by kernel_rfl) ?_) | (show thenQ _ _ _ _; first | refine q_then_n ?_ | refine q_then_x ?_) | (show blockQ _ _ _ _; first | refine q_blk_n ?_ | refine q_blk_x ?_) | refine vc_seq ?_ | refine vc_region ?_ | refine vc_region_t ?_ | (show VC _ (.cond _ _ _) _ _; first | refine vc_cond_f rfl ?_ | refine x_know rfl (by assumption) ?_) | refine vc_exit ?_)
        refine ⟨k + 1, by omega, by omega, ?_⟩
        refine le_gen0 (fun n => n) ?_ ?_ rfl (by first | rfl | (simp only [wfL, wfs, mpO_namesB, mpO_namesI]; rfl))
        all_goals repeat' (first | exact trivial | refine ⟨⟨_, rfl, ?_⟩, ?_⟩ | exact .c .d)
    · have d1 : decide ((k : Int) < (l.length : Int)) = false := decide_eq_false (by omega)
      repeat' (first | (show VR _ _ _ (_ :: _) _ _ _; first | refine x_opF rfl (by first | exact True.intro | omega) ?_) | (show VR _ _ _ [] _ _ _; first | refine vr_nil ?_) | (show thenQ _ _ _ _; first | refine q_then_n ?_ | refine q_then_x ?_) | (show blockQ _ _ _ _; first | refine q_blk_x ?_) | refine vc_seq ?_ | refine vc_region ?_ | (show VC _ (.cond _ _ _) _ _; first | refine vc_cond_f rfl ?_ | refine x_know rfl (by assumption) ?_) | refine vc_exit ?_)
      exact retW (.inl rfl) .nil rfl trivial
theorem pdq_spec (l : List Int) (hu : Up l) (h0 : l.length <= 12) (lim : Int) : FnS Tryz.prog 209 [AD (ints l), AI 0, AI l.length, AI lim] [] (.tup []) [] := by
  have hi := ins_spec l hu h0
  have d1 : decide ((l.length : Int) <= 12) = true := decide_eq_true (by omega)
  refine FnS.of_body (enters_of Tryz.func209 (by kernel_rfl) rfl) Tryz.func209 rfl Tryz.ntmps209 Tryz.results209 rfl rfl rfl rfl fun E hS => ?_
  repeat' (first | (show VR _ _ _ (_ :: _) _ _ _; first | refine x_opF rfl (by first | exact True.intro | omega) ?_) | (show VR _ _ _ [] _ _ _; first | refine vr_nil ?_) | (show thenQ _ _ _ _; first | refine q_then_n ?_) | refine vc_seq ?_ | refine vc_region ?_ | refine vc_block ?_)
  refine vc_loopI (ι := Unit) (fun _ => stOf [(0, AD (ints l)), (1, AI 0), (2, AI l.length), (3, AI lim)] []) (fun _ => True) (fun _ => 0) () trivial ?_ ?_
  · refine le_gen0 (fun n => n) ?_ ?_ rfl (by first | rfl | (simp only [wfL, wfs, mpO_namesB, mpO_namesI]; rfl))
    all_goals repeat' (first | exact trivial | refine ⟨⟨_, rfl, ?_⟩, ?_⟩ | exact .c .d)
  · intro _ _
    repeat' (first | (show VR _ _ _ (_ :: _) _ _ _; first | refine x_opF rfl (by first | exact True.intro | omega) ?_ | (show VR _ _ _ (⟨_, .call ⟨.value _, _, _⟩, _, _, _, _⟩ :: _) _ _ _; first | refine vr_calldU (hi) (gk rfl) rfl rfl rfl (by first | rfl | (simp only [wfRes, wfL, wfArgs, wfs, mpO_namesB, mpO_namesI]; rfl)) rfl (by first | exact newB_nil | exact newB_O | ((simp only [newB, List.map_cons, List.map_nil, Blk.shift, rowOf_shift]) <;> rfl) | rfl) rfl ?_)) | (show VR _ _ _ [] _ _ _; first | refine vr_nil ?_) | (show thenQ _ _ _ _; first | refine q_then_n ?_ | refine q_then_r ?_) | (show blockQ _ _ _ _; first | refine q_blk_r ?_) | refine vc_seq ?_ | refine vc_region ?_ | (show VC _ (.cond _ _ _) _ _; first | refine vc_cond_t rfl ?_ | refine x_know rfl (by assumption) ?_) | refine vc_ret ?_ | refine vc_block ?_)
    all_goals trace_state
    all_goals exact retW (.inr rfl) .nil rfl trivial
theorem sort_spec (l : List Int) (hu : Up l) (h0 : l.length <= 12) : FnS Tryz.prog 155 [AD (ints l)] [] (.tup []) [] := by
  have hp := pdq_spec l hu h0 (lenV l.length)
  have hb := len_spec l.length (by omega)
  refine FnS.of_body (enters_of Tryz.func155 (by kernel_rfl) rfl) Tryz.func155 rfl Tryz.ntmps155 Tryz.results155 rfl rfl rfl rfl fun E hS => ?_
  repeat' (first | (show VR _ _ _ (_ :: _) _ _ _; first | refine x_opF rfl (by first | exact True.intro | omega) ?_ | (show VR _ _ _ (⟨_, .call ⟨.value _, _, _⟩, _, _, _, _⟩ :: _) _ _ _; first | refine vr_calldU (hb) (gk rfl) rfl rfl rfl (by first | rfl | (simp only [wfRes, wfL, wfArgs, wfs, mpO_namesB, mpO_namesI]; rfl)) rfl (by first | exact newB_nil | exact newB_O | ((simp only [newB, List.map_cons, List.map_nil, Blk.shift, rowOf_shift]) <;> rfl) | rfl) rfl ?_ | refine vr_calldU (hp) (gk rfl) rfl rfl rfl (by first | rfl | (simp only [wfRes, wfL, wfArgs, wfs, mpO_namesB, mpO_namesI]; rfl)) rfl (by first | exact newB_nil | exact newB_O | ((simp only [newB, List.map_cons, List.map_nil, Blk.shift, rowOf_shift]) <;> rfl) | rfl) rfl ?_) | (show VR _ _ _ (⟨_, .convert _ _ _, _, _, _, _⟩ :: _) _ _ _; first | refine vr_convert_id (gk rfl) rfl ⟨_, rfl⟩ rfl (by first | exact wrap_i64 (by omega) | exact wrap_u64 (by omega) | exact wrap_u16 (by omega) | exact wrap_u8 (by omega) | exact wrap_u32 (by omega)) rfl ?_)) | (show VR _ _ _ [] _ _ _; first | refine vr_nil ?_) | (show thenQ _ _ _ _; first | refine q_then_n ?_) | refine vc_seq ?_ | refine vc_region ?_)
  exact retW (.inl rfl) .nil rfl trivial
theorem compact_spec (l : List Int) (hu : Up l) (h0 : l.length <= 1000) : FnS Tryz.prog 156 [AD (ints l)] [] (AD (ints l)) [] := by
  refine FnS.of_body (enters_of Tryz.func156 (by kernel_rfl) rfl) Tryz.func156 rfl Tryz.ntmps156 Tryz.results156 rfl rfl rfl rfl fun E hS => ?_
  by_cases h1 : l.length < 2
  · have d1 : decide ((l.length : Int) < 2) = true := decide_eq_true (by omega)
    repeat' (first | (show VR _ _ _ (_ :: _) _ _ _; first | refine x_opF rfl (by first | exact True.intro | omega) ?_) | (show VR _ _ _ [] _ _ _; first | refine vr_nil ?_) | (show thenQ _ _ _ _; first | refine q_then_n ?_ | refine q_then_r ?_) | refine vc_seq ?_ | refine vc_region ?_ | (show VC _ (.cond _ _ _) _ _; first | refine vc_cond_t rfl ?_ | refine x_know rfl (by assumption) ?_) | refine vc_ret ?_)
    exact ret_d isRet_r rfl rfl
  have d1 : decide ((l.length : Int) < 2) = false := decide_eq_false (by omega)
  repeat' (first | (show VR _ _ _ (_ :: _) _ _ _; first | refine x_opF rfl (by first | exact True.intro | omega) ?_) | (show VR _ _ _ [] _ _ _; first | refine vr_nil ?_) | (show thenQ _ _ _ _; first | refine q_then_n ?_) | refine vc_seq ?_ | refine vc_region ?_ | (show VC _ (.cond _ _ _) _ _; first | refine vc_cond_f rfl ?_ | refine x_know rfl (by assumption) ?_) | refine vc_block ?_ | refine vc_skip ?_)
  refine vc_loopI (ι := Nat) (fun k => stOf [(0, AD (ints l)), (2, AD .nils), (3, AI k)] []) (fun k => 1 <= k) (fun k => l.length - k) 1 (Nat.le_refl _) ?_ ?_
  · refine le_gen0 (fun n => n) ?_ ?_ rfl (by first | rfl | (simp only [wfL, wfs, mpO_namesB, mpO_namesI]; rfl))
    all_goals repeat' (first | exact trivial | refine ⟨⟨_, rfl, ?_⟩, ?_⟩ | exact .c .d)
  · intro k hk
    rcases Nat.lt_or_ge k l.length with hlt | hge
    · have d2 : decide ((k : Int) < (l.length : Int)) = true := decide_eq_true (by omega)
      have hlt2 : l.getD (k - 1) default < l.getD k default := by have := hu (k - 1) (by omega); rwa [Nat.sub_add_cancel hk] at this
      have d3 : decide (l.getD k default = l.getD (k - 1) default) = false := decide_eq_false (by omega)
      repeat' (first | (show VR _ _ _ (_ :: _) _ _ _; first | refine x_opF rfl (by first | exact True.intro | omega) ?_ | (show VR _ _ _ (⟨_, .indexAddr _ _ _, _, _, _, _⟩ :: _) _ _ _; first | refine vr_index_rd (gk rfl) rfl rfl rfl rfl rfl (by omega) rfl ?_ | refine vr_index_rdP (gk rfl) rfl rfl rfl rfl rfl (by omega) rfl ?_)) | (show VR _ _ _ [] _ _ _; first | refine vr_nil ?_ | refine vr_nil_t (by kernel_rfl) ?_) | (show thenQ _ _ _ _; first | refine q_then_n ?_) | (show blockQ _ _ _ _; first | refine q_blk_n ?_) | refine vc_seq ?_ | refine vc_region ?_ | refine vc_region_t ?_ | (show VC _ (.cond _ _ _) _ _; first | refine vc_cond_t rfl ?_ | refine vc_cond_f rfl ?_ | refine x_know rfl (by assumption) ?_) | refine vc_block ?_ | refine vc_skip ?_)
      refine ⟨k + 1, by omega, by omega, ?_⟩
      refine le_gen0 (fun n => n) ?_ ?_ rfl (by first | rfl | (simp only [wfL, wfs, mpO_namesB, mpO_namesI]; rfl))
      all_goals repeat' (first | exact trivial | refine ⟨⟨_, rfl, ?_⟩, ?_⟩ | exact .c .d)
    · have d2 : decide ((k : Int) < (l.length : Int)) = false := decide_eq_false (by omega)
      repeat' (first | (show VR _ _ _ (_ :: _) _ _ _; first | refine x_opF rfl (by first | exact True.intro | omega) ?_) | (show VR _ _ _ [] _ _ _; first | refine vr_nil ?_) | (show thenQ _ _ _ _; first | refine q_then_n ?_ | refine q_then_x ?_) | (show blockQ _ _ _ _; first | refine q_blk_x ?_) | refine vc_seq ?_ | refine vc_region ?_ | (show VC _ (.cond _ _ _) _ _; first | refine vc_cond_f rfl ?_ | refine x_know rfl (by assumption) ?_) | refine vc_ret ?_ | refine vc_exit ?_)
      exact ret_d isRet_r rfl rfl
abbrev predφRk (p : Rk -> Bool) : List DV -> DV -> Prop := fun ds r => ∃ x : Rk, ds = [.agg x.enc] /\ r = .d (.bool (p x))
theorem idxf_Rk (l : List Rk) (p : Rk -> Bool) : FnS Tryz.prog 211 [AD (rks l), .clo (predφRk p)] [] (AI (oI (fstO l p))) [] := by
  refine FnS.of_body (enters_of Tryz.func211 (by kernel_rfl) rfl) Tryz.func211 rfl Tryz.ntmps211 Tryz.results211 rfl rfl rfl rfl fun E hS => ?_
  refine vc_bound (t := 0) rfl fun hb => ?_
  repeat' (first | (show VR _ _ _ (_ :: _) _ _ _; first | refine x_opF rfl (by first | exact True.intro | omega) ?_) | (show VR _ _ _ [] _ _ _; first | refine vr_nil ?_) | (show thenQ _ _ _ _; first | refine q_then_n ?_) | refine vc_seq ?_ | refine vc_region ?_ | refine vc_block ?_)
  refine vc_loopI (ι := Nat) (fun k => stOf [(0, AD (rks l)), (1, .clo (predφRk p)), (7, AI l.length), (8, AI k)] []) (fun k => k <= l.length /\ ∀ i, i < k -> p (l.getD i default) = false) (fun k => l.length - k) 0 ⟨Nat.zero_le _, fun i hi => absurd hi (Nat.not_lt_zero _)⟩ ?_ ?_
  · exact le_of ⟨rfl, rfl, rfl, rfl, trivial⟩ trivial rfl
  · intro k hk
    repeat' (first | (show VR _ _ _ (_ :: _) _ _ _; first | refine x_opF rfl (by first | exact True.intro | omega) ?_ | (show VR _ _ _ (⟨_, .call ⟨.value _, _, _⟩, _, _, _, _⟩ :: _) _ _ _; first | refine vr_clo (⟨_, rfl, rfl⟩) (gk rfl) rfl rfl rfl rfl ?_) | (show VR _ _ _ (⟨_, .indexAddr _ _ _, _, _, _, _⟩ :: _) _ _ _; first | refine vr_index_rd (gk rfl) rfl rfl rfl rfl rfl (by omega) rfl ?_)) | (show VR _ _ _ [] _ _ _; first | refine vr_nil ?_) | (show thenQ _ _ _ _; first | refine q_then_n ?_ | refine q_then_x ?_ | refine q_then_r ?_) | (show blockQ _ _ _ _; first | refine q_blk_n ?_ | refine q_blk_r ?_ | refine q_blk_x ?_) | refine vc_seq ?_ | refine vc_region ?_ | (show VC _ (.cond _ _ _) _ _; first | (refine x_cond rfl ?_ ?_ <;> intro h <;> have hq := h <;> (try simp only [hqs] at hq))) | refine vc_ret ?_ | refine vc_exit ?_ | refine vc_block ?_ | refine vc_skip ?_)
    · refine ret_int isRet_r rfl ?_
      rw [fstO_hit hk.2 (by omega) h]; rfl
    · refine ⟨k + 1, ⟨by omega, fun i hi => ?_⟩, by omega, le_of ⟨rfl, rfl, rfl, rfl, trivial⟩ trivial rfl⟩
      by_cases hik : i < k
      · exact hk.2 i hik
      · have : i = k := by omega
        subst this
        exact h
    · refine ret_int isRet_r rfl ?_
      have : k = l.length := by omega
      subst this
      rw [fstO_none hk.2]; rfl
theorem par1_spec (x : Rk) (t : Int) : FnS Tryz.prog 212 [rkA x, .ep (fun _ => .int .i64 t) 1] [] (AB (decide (x.node = t))) [] := by
  refine FnS.of_body (enters_of Tryz.func212 (by kernel_rfl) rfl) Tryz.func212 rfl Tryz.ntmps212 Tryz.results212 rfl rfl rfl rfl fun E hS => ?_
  repeat' (first | (show VR _ _ _ (_ :: _) _ _ _; first | refine x_opF rfl (by first | exact True.intro | omega) ?_) | (show VR _ _ _ [] _ _ _; first | refine vr_nil ?_) | (show thenQ _ _ _ _; first | refine q_then_n ?_) | refine vc_seq ?_ | refine vc_region ?_ | refine vc_ret ?_)
  all_goals exact ret_bool isRet_r rfl rfl
theorem par1_fnc {σ : St} {t : Int} {n1 : Nat} (h1 : σ (.b n1) = some (.k (.box [.d (.int .i64 t)]))) : AR Tryz.prog σ [n1] (.fnc 212 [.ptr n1 0]) (.clo (predφRk fun x => decide (x.node = t))) :=
  .fnc (eps := [.ep (fun _ => .int .i64 t) 1]) (.cons (.ptr (by simp) h1 (fun j hj => by
    have : j = 0 := by omega
    subst this; rfl)) .nil) (enters_of Tryz.func212 (by kernel_rfl) rfl)
    (by rintro _ _ ⟨x, rfl, rfl⟩; exact ⟨rfl, par1_spec x t⟩)
theorem par_at (l : List Rk) (t : Int) {i : Nat} (hi : i < l.length) (h : fstO l (fun x => decide (x.node = t)) = some i) : FnS Tryz.prog 157 [AD (rks l), AI t] [] (.tup [AI (l.getD i default).parent, AB true]) [] := by
  have hx := idxf_Rk l fun x => decide (x.node = t)
  rw [h] at hx
  refine FnS.of_body (enters_of Tryz.func157 (by kernel_rfl) rfl) Tryz.func157 rfl Tryz.ntmps157 Tryz.results157 rfl rfl rfl rfl fun E hS => ?_
  repeat' (first | (show VR _ _ _ (_ :: _) _ _ _; first | refine x_opF rfl (by first | exact True.intro | omega) ?_ | (show VR _ _ _ (⟨_, .call ⟨.value _, _, _⟩, _, _, _, _⟩ :: _) _ _ _; first | refine vr_callU [3] (hx) (gk rfl) rfl (by (repeat' (first | exact .nil | refine .cons ?_ ?_ | exact .of0 (.c .d) | exact .of0 .ep | exact .clo | exact (par1_fnc rfl) | exact .of0 (.c .nil) | exact .of0 (.c (cr_rowO (by simp) rfl (by first | rfl | omega) (fun _ => rfl))) | refine .of0 (.agg ?_) | exact .d | exact .nil | exact .of0 (.c (cr_row (by decide) rfl rfl (by repeat' (first | exact trivial | refine ⟨?_, ?_⟩ | rfl)))))) <;> fail) (by first | rfl | exact hfl_O (fun _ => rfl) | exact hfl_O2 rfl (fun _ => rfl)) rfl (by first | rfl | (simp only [wfRes, wfL, wfArgs, wfs, mpO_namesB, mpO_namesI]; rfl)) rfl (by first | exact newB_nil | exact newB_O | ((simp only [newB, List.map_cons, List.map_nil, Blk.shift, rowOf_shift]) <;> rfl) | rfl) rfl ?_) | (show VR _ _ _ (⟨_, .indexAddr _ _ _, _, _, _, _⟩ :: _) _ _ _; first | refine vr_index_rd (gk rfl) rfl rfl rfl rfl rfl (by omega) rfl ?_)) | (show VR _ _ _ [] _ _ _; first | refine vr_nil ?_) | (show thenQ _ _ _ _; first | refine q_then_n ?_) | refine vc_seq ?_ | refine vc_region ?_ | (show VC _ (.cond _ _ _) _ _; first | refine vc_cond_f rfl ?_) | refine vc_ret ?_ | refine vc_skip ?_)
  exact ret_d2 isRet_r rfl rfl rfl rfl
theorem par_no (l : List Rk) (t : Int) (h : fstO l (fun x => decide (x.node = t)) = none) : FnS Tryz.prog 157 [AD (rks l), AI t] [] (.tup [AI 0, AB false]) [] := by
  have hx := idxf_Rk l fun x => decide (x.node = t)
  rw [h] at hx
  refine FnS.of_body (enters_of Tryz.func157 (by kernel_rfl) rfl) Tryz.func157 rfl Tryz.ntmps157 Tryz.results157 rfl rfl rfl rfl fun E hS => ?_
  repeat' (first | (show VR _ _ _ (_ :: _) _ _ _; first | refine x_opF rfl (by first | exact True.intro | omega) ?_ | (show VR _ _ _ (⟨_, .call ⟨.value _, _, _⟩, _, _, _, _⟩ :: _) _ _ _; first | refine vr_callU [3] (hx) (gk rfl) rfl (by (repeat' (first | exact .nil | refine .cons ?_ ?_ | exact .of0 (.c .d) | exact .of0 .ep | exact .clo | exact (par1_fnc rfl) | exact .of0 (.c .nil) | exact .of0 (.c (cr_rowO (by simp) rfl (by first | rfl | omega) (fun _ => rfl))) | refine .of0 (.agg ?_) | exact .d | exact .nil | exact .of0 (.c (cr_row (by decide) rfl rfl (by repeat' (first | exact trivial | refine ⟨?_, ?_⟩ | rfl)))))) <;> fail) (by first | rfl | exact hfl_O (fun _ => rfl) | exact hfl_O2 rfl (fun _ => rfl)) rfl (by first | rfl | (simp only [wfRes, wfL, wfArgs, wfs, mpO_namesB, mpO_namesI]; rfl)) rfl (by first | exact newB_nil | exact newB_O | ((simp only [newB, List.map_cons, List.map_nil, Blk.shift, rowOf_shift]) <;> rfl) | rfl) rfl ?_)) | (show VR _ _ _ [] _ _ _; first | refine vr_nil ?_) | (show thenQ _ _ _ _; first | refine q_then_n ?_ | refine q_then_r ?_) | refine vc_seq ?_ | refine vc_region ?_ | (show VC _ (.cond _ _ _) _ _; first | refine vc_cond_t rfl ?_) | refine vc_ret ?_)
  exact ret_d2 isRet_r rfl rfl rfl rfl
end Go.Proofs.Y
end
section
namespace Go.Proofs.Y
open Go Go.Sx
open Go.Proofs.P (Rk rkA ints isNaN_spec)
open Go.Proofs.R (rks)
set_option maxRecDepth 4000
attribute [local irreducible] VR VC thenQ blockQ retL scopeQ
def keyR (r : Rk) : Int := r.epoch * 65536 + (65535 - r.least)
structure Tree (l : List Rk) : Prop where
  node : ∀ i, i < l.length -> (l.getD i default).node = i
  par : ∀ i, i < l.length -> (l.getD i default).parent = -1 \/ ∃ j : Nat, j < l.length /\ (l.getD i default).parent = j /\ keyR (l.getD i default) < keyR (l.getD j default)
def nodesI (k : Nat) : List Int := (List.range k).map fun (i : Nat) => (i : Int)
theorem nodesI_len (k : Nat) : (nodesI k).length = k := by simp [nodesI]
theorem nodesI_at {k i : Nat} (h : i < k) : (nodesI k).getD i default = i := by simp [nodesI, List.getD_eq_getElem?_getD, h]
theorem nodesI_up (k : Nat) : Up (nodesI k) := fun i hi => by
  rw [nodesI_len] at hi
  rw [nodesI_at (by omega), nodesI_at hi]
  omega
theorem Tree.fst {l : List Rk} (h : Tree l) {i : Nat} (hi : i < l.length) : fstO l (fun x => decide (x.node = (i : Int))) = some i :=
  fstO_hit (fun k hk => decide_eq_false (by rw [h.node k (by omega)]; omega)) hi (decide_eq_true (h.node i hi))
theorem Tree.none {l : List Rk} (h : Tree l) : fstO l (fun x => decide (x.node = -1)) = none :=
  fstO_none fun k hk => decide_eq_false (by rw [h.node k (by omega)]; omega)
def nodesL (l : List Rk) (k : Nat) : List Int := (List.range k).map fun i => (l.getD i default).node
theorem nodesL_len (l : List Rk) (k : Nat) : (nodesL l k).length = k := by simp [nodesL]
theorem nodesL_succ (l : List Rk) (k : Nat) : nodesL l (k + 1) = nodesL l k ++ [(l.getD k default).node] := by simp [nodesL, List.range_succ]
theorem Tree.nodes {l : List Rk} (h : Tree l) : nodesL l l.length = nodesI l.length :=
  List.map_congr_left fun i hi => h.node i (List.mem_range.1 hi)
abbrev encI (x : Int) : List D := [.int .i64 x]
set_option maxHeartbeats 4000000 in
theorem cycle_spec (l : List Rk) (h : Tree l) (h1 : 1 <= l.length) (h2 : l.length <= 12) : FnS Tryz.prog 77 [AD (rks l)] [] (AD .nils) [] := by
  have hso := sort_spec (nodesI l.length) (nodesI_up _) (by rw [nodesI_len]; exact h2)
  have hco := compact_spec (nodesI l.length) (nodesI_up _) (by rw [nodesI_len]; omega)
  have hnl := nodesI_len l.length
  refine FnS.of_body (enters_of Tryz.func77 (by kernel_rfl) rfl) Tryz.func77 rfl Tryz.ntmps77 Tryz.results77 rfl rfl rfl rfl fun E hS => ?_
  repeat' (first | (show VR _ _ _ (_ :: _) _ _ _; first | refine x_opF rfl (by first | exact True.intro | omega) ?_) | (show VR _ _ _ [] _ _ _; first | refine vr_nil ?_) | (show thenQ _ _ _ _; first | refine q_then_n ?_) | refine vc_seq ?_ | refine vc_region ?_)
  refine vc_scope ?_
  repeat' (first | (show VR _ _ _ (_ :: _) _ _ _; first | refine x_opF rfl (by first | exact True.intro | omega) ?_) | (show VR _ _ _ [] _ _ _; first | refine vr_nil ?_) | (show thenQ _ _ _ _; first | refine q_then_n ?_) | refine vc_seq ?_ | refine vc_region ?_ | refine vc_block ?_)
  refine vc_loopI (ι := Nat) (fun k => stOf [(0, AD (rks l)), (3, .c (.row 44 (nodesL l k).length)), (12, AD (rks l)), (13, AI l.length), (14, AI k)] [(44, .row 3 1 (rowOf encI (nodesL l k)))]) (fun k => k <= l.length) (fun k => l.length - k) 0 (Nat.zero_le _) ?_ ?_
  · refine (le_nil (t := 3) (nm := 44) (T := 3) (sz := 1) rfl rfl).trans ?_
    refine le_gen0 (fun n => n) ?_ ?_ rfl (by first | rfl | (simp only [wfL, wfs, mpO_namesB, mpO_namesI]; rfl))
    all_goals repeat' (first | exact trivial | refine ⟨⟨_, rfl, ?_⟩, ?_⟩ | exact .c .d | exact .c (.row rfl rfl) | exact .rowD rfl rowOf_isD)
  · intro k hk
    have hkl := nodesL_len l k
    rcases Nat.lt_or_ge k l.length with hlt | hge
    · have d1 : decide ((k : Int) < (l.length : Int)) = true := decide_eq_true (by omega)
      repeat' (first | (show VR _ _ _ (_ :: _) _ _ _; first | refine x_opF rfl (by first | exact True.intro | omega) ?_ | (show VR _ _ _ (⟨_, .indexAddr _ _ _, _, _, _, _⟩ :: _) _ _ _; first | refine vr_index_rd (gk rfl) rfl rfl rfl rfl rfl (by omega) rfl ?_) | (show VR _ _ _ (⟨_, .call ⟨.builtin .append, _, _⟩, _, _, _, _⟩ :: _) _ _ _; first | refine vr_append0 (gk rfl) rfl rfl rfl (by first | rfl | exact rowOf_length.symm | (simp only [lns] <;> omega)) (by first | exact .row rfl (by first | rfl | exact rowOf_length.symm) | exact .rd | exact .nils) rfl rfl rfl (by (try dsimp only); omega) rfl rfl ?_)) | (show VR _ _ _ [] _ _ _; first | refine vr_nil ?_) | (show thenQ _ _ _ _; first | refine q_then_n ?_) | (show blockQ _ _ _ _; first | refine q_blk_n ?_) | refine vc_seq ?_ | refine vc_region ?_ | (show VC _ (.cond _ _ _) _ _; first | refine vc_cond_t rfl ?_ | refine x_know rfl (by assumption) ?_) | refine vc_block ?_ | refine vc_skip ?_)
      refine ⟨k + 1, by omega, by omega, ?_⟩
      rw [nodesL_succ]
      refine le_gen0 (fun n => if n = 44 then 22 else n) ?_ ?_ rfl (by first | rfl | (simp only [wfL, wfs, mpO_namesB, mpO_namesI]; rfl))
      all_goals repeat' (first | exact trivial | refine ⟨⟨_, rfl, ?_⟩, ?_⟩ | exact .c .d | (refine .c (.row rfl ?_); ((try dsimp only); first | rfl | omega | (simp only [lns] <;> omega)); done) | (refine .rowD ?_ rowOf_isD; rw [rowOf_append]; rfl))
    · have d1 : decide ((k : Int) < (l.length : Int)) = false := decide_eq_false (by omega)
      have e : k = l.length := by omega
      subst e
      rw [h.nodes]
      repeat' (first | (show VR _ _ _ (_ :: _) _ _ _; first | refine x_opF rfl (by first | exact True.intro | omega) ?_) | (show VR _ _ _ [] _ _ _; first | refine vr_nil ?_) | (show thenQ _ _ _ _; first | refine q_then_n ?_ | refine q_then_x ?_) | (show blockQ _ _ _ _; first | refine q_blk_x ?_) | (show VC _ (.seq _ _) _ _; (fail_if_success (show VC _ (.seq (.seq (.region 7 _ _) _) _) _ _)); (fail_if_success (show VC _ (.seq (.region 7 _ _) _) _ _)); refine vc_seq ?_) | refine vc_region ?_ | (show VC _ (.cond _ _ _) _ _; first | refine vc_cond_f rfl ?_ | refine x_know rfl (by assumption) ?_) | refine vc_exit ?_)
      refine VC.le (σ' := stOf [(0, AD (rks l)), (3, AD (ints (nodesI l.length)))] []) ?_ ?_
      · refine le_gen (fun n => n) [44] hS ?_ ?_ rfl (by first | rfl | (simp only [wfL, wfs, mpO_namesB, mpO_namesI]; rfl))
        all_goals repeat' (first | exact trivial | refine ⟨⟨_, rfl, ?_⟩, ?_⟩ | exact .c .d | exact .c (.frzOf (by first | (simp; done) | decide) rfl rfl (fun _ => rfl)))
      repeat' (first | (show VR _ _ _ (_ :: _) _ _ _; first | refine x_opF rfl (by first | exact True.intro | omega) ?_ | (show VR _ _ _ (⟨_, .call ⟨.value _, _, _⟩, _, _, _, _⟩ :: _) _ _ _; first | refine vr_calldU (hso) (gk rfl) rfl rfl rfl (by first | rfl | (simp only [wfRes, wfL, wfArgs, wfs, mpO_namesB, mpO_namesI]; rfl)) rfl (by first | exact newB_nil | exact newB_O | ((simp only [newB, List.map_cons, List.map_nil, Blk.shift, rowOf_shift]) <;> rfl) | rfl) rfl ?_ | refine vr_calldU (hco) (gk rfl) rfl rfl rfl (by first | rfl | (simp only [wfRes, wfL, wfArgs, wfs, mpO_namesB, mpO_namesI]; rfl)) rfl (by first | exact newB_nil | exact newB_O | ((simp only [newB, List.map_cons, List.map_nil, Blk.shift, rowOf_shift]) <;> rfl) | rfl) rfl ?_)) | (show VR _ _ _ [] _ _ _; first | refine vr_nil ?_) | (show thenQ _ _ _ _; first | refine q_then_n ?_) | refine vc_seq ?_ | refine vc_region ?_ | refine vc_block ?_ | refine vc_label ?_)
      refine vc_loopI (ι := Nat) (fun k => stOf [(0, AD (rks l)), (27, AD (ints (nodesI l.length))), (28, AI l.length), (29, AI k)] []) (fun k => k <= l.length) (fun k => l.length - k) 0 (Nat.zero_le _) ?_ ?_
      · rw [hnl]
        refine le_gen0 (fun n => n) ?_ ?_ rfl (by first | rfl | (simp only [wfL, wfs, mpO_namesB, mpO_namesI]; rfl))
        all_goals repeat' (first | exact trivial | refine ⟨⟨_, rfl, ?_⟩, ?_⟩ | exact .c .d)
      · intro k hk
        rcases Nat.lt_or_ge k l.length with hlt | hge
        · have d2 : decide ((k : Int) < (l.length : Int)) = true := decide_eq_true (by omega)
          have hat : (nodesI l.length).getD k default = k := nodesI_at hlt
          repeat' (first | (show VR _ _ _ (_ :: _) _ _ _; first | refine x_opF rfl (by first | exact True.intro | omega) ?_ | (show VR _ _ _ (⟨_, .indexAddr _ _ _, _, _, _, _⟩ :: _) _ _ _; first | refine vr_index_rd (gk rfl) rfl rfl rfl rfl rfl (by omega) rfl ?_)) | (show VR _ _ _ [] _ _ _; first | refine vr_nil ?_) | (show thenQ _ _ _ _; first | refine q_then_n ?_) | refine vc_seq ?_ | refine vc_region ?_ | (show VC _ (.cond _ _ _) _ _; first | refine vc_cond_t rfl ?_ | refine x_know rfl (by assumption) ?_) | refine vc_block ?_ | refine vc_skip ?_)
          refine vc_loopI (ι := List Int × Int) (fun p => stOf [(0, AD (rks l)), (7, AI ((nodesI l.length).getD k default)), (8, .c (.row 44 p.1.length)), (9, AI p.2), (27, AD (ints (nodesI l.length))), (28, AI l.length), (29, AI k)] [(44, .row 3 1 (rowOf encI p.1))])
            (fun p => p.1.length <= l.length + 1 /\ (p.2 = -1 \/ ∃ j : Nat, j < l.length /\ p.2 = j /\ keyR (l.getD k default) <= keyR (l.getD j default))) (fun p => l.length + 1 - p.1.length) ([], (nodesI l.length).getD k default) ⟨by simp, .inr ⟨k, hlt, hat, Int.le_refl _⟩⟩ ?_ ?_
          · refine (le_nil (t := 8) (nm := 44) (T := 3) (sz := 1) rfl rfl).trans ?_
            refine le_gen0 (fun n => n) ?_ ?_ rfl (by first | rfl | (simp only [wfL, wfs, mpO_namesB, mpO_namesI]; rfl))
            all_goals repeat' (first | exact trivial | refine ⟨⟨_, rfl, ?_⟩, ?_⟩ | exact .c .d | exact .c (.row rfl rfl) | exact .rowD rfl rowOf_isD)
          · rintro ⟨ws, at'⟩ ⟨hw, hp⟩
            dsimp only at hw hp ⊢
            rcases Nat.lt_or_ge l.length ws.length with hlw | hlw
            · have d3 : decide ((ws.length : Int) <= (l.length : Int)) = false := decide_eq_false (by omega)
              repeat' (first | (show VR _ _ _ (_ :: _) _ _ _; first | refine x_opF rfl (by first | exact True.intro | omega) ?_ | (show VR _ _ _ (⟨_, .call ⟨.builtin .len, _, _⟩, _, _, _, _⟩ :: _) _ _ _; first | refine vr_len_row (gk rfl) rfl rfl (by first | rfl | exact rowOf_length.symm | (simp only [lns] <;> omega)) rfl rfl ?_)) | (show VR _ _ _ [] _ _ _; first | refine vr_nil ?_) | (show thenQ _ _ _ _; first | refine q_then_n ?_ | refine q_then_x ?_) | (show blockQ _ _ _ _; first | refine q_blk_n ?_ | refine q_blk_x ?_) | refine vc_seq ?_ | refine vc_region ?_ | (show VC _ (.cond _ _ _) _ _; first | refine vc_cond_f rfl ?_ | refine x_know rfl (by assumption) ?_) | refine vc_exit ?_)
              refine ⟨k + 1, by omega, by omega, ?_⟩
              refine le_gen0 (fun n => n) ?_ ?_ rfl (by first | rfl | (simp only [wfL, wfs, mpO_namesB, mpO_namesI]; rfl))
              all_goals repeat' (first | exact trivial | refine ⟨⟨_, rfl, ?_⟩, ?_⟩ | exact .c .d)
            have d3 : decide ((ws.length : Int) <= (l.length : Int)) = true := decide_eq_true (by omega)
            rcases hp with rfl | ⟨j, hj, rfl, hkj⟩
            · repeat' (first | (show VR _ _ _ (_ :: _) _ _ _; first | refine x_opF rfl (by first | exact True.intro | omega) ?_ | (show VR _ _ _ (⟨_, .call ⟨.value _, _, _⟩, _, _, _, _⟩ :: _) _ _ _; first | refine vr_calldU (par_no l (-1) h.none) (gk rfl) rfl rfl rfl (by first | rfl | (simp only [wfRes, wfL, wfArgs, wfs, mpO_namesB, mpO_namesI]; rfl)) rfl (by first | exact newB_nil | exact newB_O | ((simp only [newB, List.map_cons, List.map_nil, Blk.shift, rowOf_shift]) <;> rfl) | rfl) rfl ?_) | (show VR _ _ _ (⟨_, .call ⟨.builtin .len, _, _⟩, _, _, _, _⟩ :: _) _ _ _; first | refine vr_len_row (gk rfl) rfl rfl (by first | rfl | exact rowOf_length.symm | (simp only [lns] <;> omega)) rfl rfl ?_) | (show VR _ _ _ (⟨_, .call ⟨.builtin .append, _, _⟩, _, _, _, _⟩ :: _) _ _ _; first | refine vr_append0 (gk rfl) rfl rfl rfl (by first | rfl | exact rowOf_length.symm | (simp only [lns] <;> omega)) (by first | exact .row rfl (by first | rfl | exact rowOf_length.symm) | exact .rd | exact .nils) rfl rfl rfl (by (try dsimp only); omega) rfl rfl ?_)) | (show VR _ _ _ [] _ _ _; first | refine vr_nil ?_) | (show thenQ _ _ _ _; first | refine q_then_n ?_ | refine q_then_x ?_) | (show blockQ _ _ _ _; first | refine q_blk_x ?_ | refine q_blk_o rfl ?_) | refine vc_seq ?_ | refine vc_region ?_ | (show VC _ (.cond _ _ _) _ _; first | refine vc_cond_t rfl ?_ | refine x_know rfl (by assumption) ?_) | refine vc_exit ?_ | refine vc_block ?_ | refine vc_skip ?_)
              refine ⟨k + 1, by omega, by omega, ?_⟩
              refine le_gen0 (fun n => n) ?_ ?_ rfl (by first | rfl | (simp only [wfL, wfs, mpO_namesB, mpO_namesI]; rfl))
              all_goals repeat' (first | exact trivial | refine ⟨⟨_, rfl, ?_⟩, ?_⟩ | exact .c .d)
            · have d4 : decide ((l.getD j default).parent = (nodesI l.length).getD k default) = false := decide_eq_false (by
                rw [hat]
                rcases h.par j hj with e | ⟨i, hi, e, hk⟩
                · omega
                · intro e2
                  have : i = k := by omega
                  subst this
                  omega)
              repeat' (first | (show VR _ _ _ (_ :: _) _ _ _; first | refine x_opF rfl (by first | exact True.intro | omega) ?_ | (show VR _ _ _ (⟨_, .call ⟨.value _, _, _⟩, _, _, _, _⟩ :: _) _ _ _; first | refine vr_calldU (par_at l j hj (h.fst hj)) (gk rfl) rfl rfl rfl (by first | rfl | (simp only [wfRes, wfL, wfArgs, wfs, mpO_namesB, mpO_namesI]; rfl)) rfl (by first | exact newB_nil | exact newB_O | ((simp only [newB, List.map_cons, List.map_nil, Blk.shift, rowOf_shift]) <;> rfl) | rfl) rfl ?_) | (show VR _ _ _ (⟨_, .call ⟨.builtin .len, _, _⟩, _, _, _, _⟩ :: _) _ _ _; first | refine vr_len_row (gk rfl) rfl rfl (by first | rfl | exact rowOf_length.symm | (simp only [lns] <;> omega)) rfl rfl ?_) | (show VR _ _ _ (⟨_, .call ⟨.builtin .append, _, _⟩, _, _, _, _⟩ :: _) _ _ _; first | refine vr_append0 (gk rfl) rfl rfl rfl (by first | rfl | exact rowOf_length.symm | (simp only [lns] <;> omega)) (by first | exact .row rfl (by first | rfl | exact rowOf_length.symm) | exact .rd | exact .nils) rfl rfl rfl (by (try dsimp only); omega) rfl rfl ?_)) | (show VR _ _ _ [] _ _ _; first | refine vr_nil ?_) | (show thenQ _ _ _ _; first | refine q_then_n ?_) | (show blockQ _ _ _ _; first | refine q_blk_n ?_) | refine vc_seq ?_ | refine vc_region ?_ | (show VC _ (.cond _ _ _) _ _; first | refine vc_cond_t rfl ?_ | refine vc_cond_f rfl ?_ | refine x_know rfl (by assumption) ?_) | refine vc_block ?_ | refine vc_skip ?_)
              refine ⟨(ws ++ [(j : Int)], (l.getD j default).parent), ⟨by simp; omega, ?_⟩, by simp; omega, ?_⟩
              · rcases h.par j hj with e | ⟨i, hi, e, hk⟩
                · exact .inl e
                · exact .inr ⟨i, hi, e, by omega⟩
              · refine le_gen0 (fun n => if n = 44 then 42 else n) ?_ ?_ rfl (by first | rfl | (simp only [wfL, wfs, mpO_namesB, mpO_namesI]; rfl))
                all_goals repeat' (first | exact trivial | refine ⟨⟨_, rfl, ?_⟩, ?_⟩ | exact .c .d | (refine .c (.row rfl ?_); ((try dsimp only); first | rfl | omega | (simp only [lns] <;> omega)); done) | (refine .rowD ?_ rowOf_isD; rw [rowOf_append]; rfl))
        · have d2 : decide ((k : Int) < (l.length : Int)) = false := decide_eq_false (by omega)
          repeat' (first | (show VR _ _ _ (_ :: _) _ _ _; first | refine x_opF rfl (by first | exact True.intro | omega) ?_) | (show VR _ _ _ [] _ _ _; first | refine vr_nil ?_) | (show thenQ _ _ _ _; first | refine q_then_n ?_ | refine q_then_x ?_) | (show blockQ _ _ _ _; first | refine q_blk_x ?_) | refine vc_seq ?_ | refine vc_region ?_ | (show VC _ (.cond _ _ _) _ _; first | refine vc_cond_f rfl ?_ | refine x_know rfl (by assumption) ?_) | refine vc_ret ?_ | refine vc_exit ?_)
          refine q_sc_r ?_
          exact ret_d isRet_r rfl rfl
end Go.Proofs.Y
end
section
namespace Go.Proofs.R
open Go Go.Sx Go.Proofs.P
def AdOK (r : Rk) (e k : Int) : Prop := e < r.epoch \/ (e = r.epoch /\ r.least <= k)
def Mono (r s : Rk) : Prop := r.epoch < s.epoch \/ (r.epoch = s.epoch /\ s.least <= r.least)
theorem AdOK.mono {r s : Rk} {e k : Int} (h : AdOK r e k) (m : Mono r s) : AdOK s e k := by
  unfold AdOK Mono at *
  omega
theorem Mono.refl (r : Rk) : Mono r r := .inr ⟨rfl, Int.le_refl _⟩
theorem Mono.trans {r s t : Rk} (h : Mono r s) (m : Mono s t) : Mono r t := by
  unfold Mono at *
  omega
theorem mono_begin (r : Rk) (e : Int) : Mono r (begin' r e) := by
  unfold begin' Mono
  split
  · left; assumption
  · exact .inr ⟨rfl, Int.le_refl _⟩
theorem mono_lose (r : Rk) : Mono r (lose' r) := by
  unfold lose'
  split
  · exact .inr ⟨rfl, Int.le_refl _⟩
  · exact Mono.refl r
theorem mono_adopted (r : Rk) (fr e k c : Int) : Mono r (adopted r fr e k c) := mono_begin r e
def FromL (l : List Nb) (r s : Rk) : Prop := s.parent = -1 \/ (∃ b, b < l.length /\ (l.getD b default).node = s.parent /\ (l.getD b default).epoch = s.epoch /\ (l.getD b default).rank = s.heard) \/ (s.parent = r.parent /\ s.epoch = r.epoch /\ s.heard = r.heard)
theorem from_ado {l : List Nb} {s : Rk} {b : Nat} (r : Rk) (hb : b < l.length) (h : CanAt l s b) : FromL l r (adoAt l s b) :=
  .inr (.inl ⟨b, hb, rfl, (begin_le (by have := h.feas; omega)).symm, rfl⟩)
theorem stepA_from {l : List Nb} (hl : checkNb l = 0) {r : Rk} (hr : rkErr r = 0) (hn : r.node ≠ 0) : Mono r (stepA l r) /\ FromL l r (stepA l r) := by
  by_cases hp : r.parent < 0
  · rw [stepA_low hp]; exact ⟨Mono.refl r, .inr (.inr ⟨rfl, rfl, rfl⟩)⟩
  by_cases hf : foundNb l r.parent = true
  · obtain ⟨hb, he⟩ := found_iff.1 hf
    obtain ⟨ha, _⟩ := adv_range hl hb
    rw [stepA_at hl hb he.symm]
    obtain ⟨_, h⟩ := update_cases hr (by omega) ha (cost_range hl hb)
    rcases h with ⟨_, h⟩ | ⟨_, hc, h⟩ | ⟨_, h⟩
    · rw [h]; exact ⟨Mono.refl r, .inr (.inr ⟨rfl, rfl, rfl⟩)⟩
    · rw [h]
      have hc' : CanAt l r (bsNb l r.parent) := by unfold CanAt; rw [he]; exact hc
      have e : adopted r r.parent (l.getD (bsNb l r.parent) default).epoch (l.getD (bsNb l r.parent) default).rank (costC (l.getD (bsNb l r.parent) default).att (l.getD (bsNb l r.parent) default).ack) = adoAt l r (bsNb l r.parent) := by
        unfold adoAt; rw [he]
      rw [e]
      exact ⟨mono_adopted _ _ _ _ _, from_ado r hb hc'⟩
    · rw [h]
      rw [advB_t] at ha
      have hb' := rk_begin hr ha.1 (show r.parent ≠ -1 by omega)
      exact ⟨(mono_begin _ _).trans (mono_lose _), .inl (lose_parent hb')⟩
  · have e : stepA l r = lose' r := by unfold stepA; rw [if_pos (by omega), if_neg hf]
    rw [e]
    exact ⟨mono_lose r, .inl (lose_parent hr)⟩
theorem select_from {l : List Nb} (hl : checkNb l = 0) {r : Rk} (hr : rkErr r = 0) {m : Int} (hm : 0 <= m /\ m <= 65535) :
    (select' l r m).2.2 = 0 /\ rkErr (select' l r m).1 = 0 /\ (select' l r m).1.node = r.node /\ Mono r (select' l r m).1 /\ FromL l r (select' l r m).1 := by
  have hm' : inR m 0 65535 = true := by rw [inR_t]; exact hm
  by_cases hn : r.node = 0
  · have e : select' l r m = (r, false, 0) := by
      unfold select'
      rw [if_neg (by simp [hl, hr]), if_neg (by simp [hm']), if_pos hn]
    rw [e]
    exact ⟨rfl, hr, rfl, Mono.refl r, .inr (.inr ⟨rfl, rfl, rfl⟩)⟩
  · have e : select' l r m = (stepB l (stepA l r) m, decide ((stepB l (stepA l r) m).parent ≠ r.parent), 0) := by
      unfold select'
      rw [if_neg (by simp [hl, hr]), if_neg (by simp [hm']), if_neg hn]
    have hA := stepA_cases hl hr hn
    have hF := stepA_from hl hr hn
    have hs := steady_of hl hr hn hm
    rw [e]
    refine ⟨rfl, hs.right, hs.node, ?_⟩
    dsimp only
    by_cases ht : takeB l (stepA l r) m = true
    · obtain ⟨b, _, hbl, _, hc, he, _⟩ := takeB_some hl ht
      rw [he]
      exact ⟨hF.1.trans (mono_adopted _ _ _ _ _), from_ado r hbl hc⟩
    · have e2 : stepB l (stepA l r) m = stepA l r := by unfold stepB; rw [if_neg ht]
      rw [e2]
      exact hF
end Go.Proofs.R
end
section
namespace Go.Proofs.R
open Go Go.Sx Go.Proofs.P
structure Wk where
  r : Rk
  l : List Nb
  deriving Inhabited
structure Sd where
  nd : Nat
  slot : Nat
  rk : Nat
  ep : Nat
  deriving Inhabited
structure Dd where
  kind : Int
  node : Int
  which : Int
  slot : Int
  deriving Inhabited
def selW (w : Wk) (m : Int) : Wk := ⟨(select' w.l w.r m).1, w.l⟩
def saidD (said : List Sd) (k : Int) : Sd := said.getD (k % (said.length : Int)).toNat default
def sayOf (w : Wk) (slot : Int) : Sd := ⟨w.r.node.toNat, slot.toNat, w.r.rank.toNat, w.r.epoch.toNat⟩
def doesM (w : Wk) (d : Dd) (said : List Sd) (slot m : Int) : Wk × Option Sd :=
  if d.kind % 7 = 0 then (if w.r.rank = 65535 then (w, none) else (⟨(advM w.r).1, w.l⟩, some (sayOf w slot)))
  else if d.kind % 7 = 1 then (if said.length = 0 then (w, none) else if ((saidD said d.which).nd : Int) = w.r.node then (w, none) else (selW ⟨w.r, hearL w.l (saidD said d.which).nd (saidD said d.which).ep (saidD said d.which).rk slot⟩ m, none))
  else if d.kind % 7 = 2 \/ d.kind % 7 = 3 then (if foundNb w.l (d.which % 8) = false then (w, none) else (selW ⟨w.r, w.l.set (bsNb w.l (d.which % 8)) (cnt (w.l.getD (bsNb w.l (d.which % 8)) default) (decide (d.kind % 7 = 2)))⟩ m, none))
  else if d.kind % 7 = 4 then (selW ⟨w.r, kept w.l slot (1 + d.which % 20)⟩ m, none)
  else if d.kind % 7 = 5 then (⟨lose' w.r, []⟩, none)
  else (⟨if (renM w.r).2 = 0 then (renM w.r).1 else w.r, w.l⟩, none)
def AdAt (L : List Wk) (p e k : Int) : Prop := ∃ j : Nat, j < L.length /\ p = j /\ AdOK (L.getD j default).r e k
structure NL (L : List Wk) (said : List Sd) (slot : Int) : Prop where
  node : ∀ i, i < L.length -> (L.getD i default).r.node = i
  rk : ∀ i, i < L.length -> rkErr (L.getD i default).r = 0
  nb : ∀ i, i < L.length -> checkNb (L.getD i default).l = 0
  slots : ∀ i, i < L.length -> ∀ x ∈ (L.getD i default).l, x.slot <= slot
  ad : ∀ i, i < L.length -> ∀ x ∈ (L.getD i default).l, AdAt L x.node x.epoch x.rank
  sd : ∀ s ∈ said, AdAt L s.nd s.ep s.rk /\ (1 <= s.ep /\ s.ep <= 65535) /\ s.rk <= 65534 /\ (s.slot : Int) <= slot
  par : ∀ i, i < L.length -> (L.getD i default).r.parent ≠ -1 -> AdAt L (L.getD i default).r.parent (L.getD i default).r.epoch (L.getD i default).r.heard
theorem wk_set {L : List Wk} {i j : Nat} {w : Wk} (hi : i < L.length) : (L.set i w).getD j default = if j = i then w else L.getD j default := by
  by_cases h : j = i
  · subst h; simp [List.getD_eq_getElem?_getD, hi]
  · simp [List.getD_eq_getElem?_getD, h, List.getElem?_set_ne (Ne.symm h)]
theorem AdAt.set {L : List Wk} {i : Nat} {w : Wk} (hi : i < L.length) (hm : Mono (L.getD i default).r w.r) {p e k : Int} (h : AdAt L p e k) : AdAt (L.set i w) p e k := by
  obtain ⟨j, hj, hp, ha⟩ := h
  refine ⟨j, by rw [List.length_set]; exact hj, hp, ?_⟩
  rw [wk_set hi]
  split
  · rename_i e; subst e; exact ha.mono hm
  · exact ha
structure Goes (L : List Wk) (slot : Int) (i : Nat) (w : Wk) : Prop where
  node : w.r.node = i
  rk : rkErr w.r = 0
  nb : checkNb w.l = 0
  slots : ∀ x ∈ w.l, x.slot <= slot
  ad : ∀ x ∈ w.l, AdAt L x.node x.epoch x.rank
  mono : Mono (L.getD i default).r w.r
  par : w.r.parent ≠ -1 -> AdAt L w.r.parent w.r.epoch w.r.heard
theorem NL.set {L : List Wk} {said : List Sd} {slot slot2 : Int} (h : NL L said slot) (hs : slot <= slot2) {i : Nat} (hi : i < L.length) {w : Wk} (g : Goes L slot2 i w) : NL (L.set i w) said slot2 := by
  refine ⟨fun j hj => ?_, fun j hj => ?_, fun j hj => ?_, fun j hj => ?_, fun j hj => ?_, fun s hs2 => ?_, fun j hj => ?_⟩
  all_goals try rw [List.length_set] at hj
  all_goals try rw [wk_set hi]
  · split
    · rename_i e; subst e; exact g.node
    · exact h.node j hj
  · split
    · exact g.rk
    · exact h.rk j hj
  · split
    · exact g.nb
    · exact h.nb j hj
  · split
    · exact g.slots
    · exact fun x hx => Int.le_trans (h.slots j hj x hx) hs
  · split
    · exact fun x hx => (g.ad x hx).set hi g.mono
    · exact fun x hx => (h.ad j hj x hx).set hi g.mono
  · obtain ⟨h1, h2, h3, h4⟩ := h.sd s hs2
    exact ⟨h1.set hi g.mono, h2, h3, Int.le_trans h4 hs⟩
  · split
    · exact fun hp => (g.par hp).set hi g.mono
    · exact fun hp => (h.par j hj hp).set hi g.mono
theorem NL.same {L : List Wk} {said : List Sd} {slot slot2 : Int} (h : NL L said slot) (hs : slot <= slot2) {i : Nat} (hi : i < L.length) : Goes L slot2 i (L.getD i default) :=
  ⟨h.node i hi, h.rk i hi, h.nb i hi, fun x hx => Int.le_trans (h.slots i hi x hx) hs, h.ad i hi, Mono.refl _, h.par i hi⟩
theorem goes_sel {L : List Wk} {said : List Sd} {slot slot2 m : Int} (h : NL L said slot) (hm : 0 <= m /\ m <= 65535) {i : Nat} (hi : i < L.length) {l : List Nb} (hc : checkNb l = 0) (hsl : ∀ x ∈ l, x.slot <= slot2) (had : ∀ x ∈ l, AdAt L x.node x.epoch x.rank) :
    Goes L slot2 i (selW ⟨(L.getD i default).r, l⟩ m) := by
  obtain ⟨_, h2, h3, h4, h5⟩ := select_from hc (h.rk i hi) hm
  refine ⟨h3.trans (h.node i hi), h2, hc, hsl, had, h4, fun hp => ?_⟩
  show AdAt L (select' l (L.getD i default).r m).1.parent (select' l (L.getD i default).r m).1.epoch (select' l (L.getD i default).r m).1.heard
  rcases h5 with h5 | ⟨b, hb, e1, e2, e3⟩ | ⟨e1, e2, e3⟩
  · exact absurd h5 hp
  · rw [<- e1, <- e2, <- e3]
    refine had _ ?_
    rw [List.getD_eq_getElem?_getD, List.getElem?_eq_getElem hb]
    exact List.getElem_mem hb
  · rw [e1, e2, e3]
    refine h.par i hi ?_
    rw [<- e1]; exact hp
theorem getD_mem {l : List Nb} {i : Nat} (h : i < l.length) : l.getD i default ∈ l := by
  rw [List.getD_eq_getElem?_getD, List.getElem?_eq_getElem h]
  exact List.getElem_mem h
theorem mem_hearL {l : List Nb} {t e k s : Int} {x : Nb} (h : x ∈ hearL l t e k s) : x ∈ l \/ (x.node = t /\ x.epoch = e /\ x.rank = k /\ x.slot = s) := by
  unfold hearL at h
  cases hf : foundNb l t with
  | true =>
    rw [hf] at h
    simp only [if_true] at h
    rcases List.mem_or_eq_of_mem_set h with h | h
    · exact .inl h
    · subst h; exact .inr ⟨(found_iff.1 hf).2, rfl, rfl, rfl⟩
  | false =>
    rw [hf] at h
    simp only [Bool.false_eq_true, if_false, P.insAt] at h
    rcases List.mem_append.1 h with h | h
    · exact .inl (List.mem_of_mem_take h)
    · rcases List.mem_cons.1 h with h | h
      · subst h; exact .inr ⟨rfl, rfl, rfl, rfl⟩
      · exact .inl (List.mem_of_mem_drop h)
theorem kept_check {l : List Nb} (h : checkNb l = 0) (slot age : Int) : checkNb (kept l slot age) = 0 := by
  obtain ⟨hlen, hall⟩ := checkNb_ok h
  have hle : (kept l slot age).length <= l.length := List.length_filter_le ..
  have hmem : ∀ k, k < (kept l slot age).length -> (kept l slot age).getD k default ∈ l := fun k hk => (List.mem_filter.1 (getD_mem hk)).1
  have hpw : l.Pairwise fun a b => a.node < b.node := by
    rw [List.pairwise_iff_getElem]
    intro a b ha hb hab
    have := nb_mono h hab hb
    simpa [List.getD_eq_getElem?_getD, ha, hb] using this
  have hpk : (kept l slot age).Pairwise fun a b => a.node < b.node := hpw.filter _
  refine check_of (by omega) (fun k hk => ?_) (fun k h0 hk => ?_)
  · obtain ⟨j, hj, e⟩ := List.mem_iff_getElem.1 (hmem k hk)
    have := nbErr_ok (hall j hj)
    rw [show l.getD j default = (kept l slot age).getD k default by rw [List.getD_eq_getElem?_getD, List.getElem?_eq_getElem hj]; exact e] at this
    exact this
  · rw [List.pairwise_iff_getElem] at hpk
    have := hpk (k - 1) k (by omega) hk (by omega)
    simpa [List.getD_eq_getElem?_getD, hk, show k - 1 < (kept l slot age).length by omega] using this
theorem adv_rk {r : Rk} (h : rkErr r = 0) (hk : r.rank ≠ 65535) : (advM r).2.2.2 = 0 /\ (advM r).1 = { r with least := min r.least r.rank } /\ (1 <= r.epoch /\ r.epoch <= 65535) /\ 0 <= r.rank /\ r.rank <= 65534 /\ rkErr (advM r).1 = 0 := by
  obtain ⟨h1, h2, h3, h4⟩ := rk_ok h
  have e : advM r = ({ r with least := min r.least r.rank }, r.epoch, r.rank, 0) := by
    unfold advM
    rw [if_neg (by simp [h]), if_neg hk]
  rw [e]
  simp only [inR_t] at h2
  simp only [leastB, Bool.or_eq_true, Bool.and_eq_true, decide_eq_true_eq, inR_t] at h3
  by_cases h0 : r.node = 0
  · have h4' := h4
    unfold rightB at h4
    rw [if_pos h0] at h4
    simp only [Bool.and_eq_true, decide_eq_true_eq, Bool.or_eq_true] at h4
    refine ⟨rfl, rfl, by omega, by omega, by omega, rk_of h1 (by rw [inR_t]; exact h2) ?_ ?_⟩
    · simp only [leastB, Bool.or_eq_true, Bool.and_eq_true, decide_eq_true_eq, inR_t]
      right; omega
    · unfold rightB
      rw [if_pos h0]
      simp only [Bool.and_eq_true, decide_eq_true_eq, Bool.or_eq_true]
      omega
  · unfold rightB at h4
    rw [if_neg h0] at h4
    by_cases hp : r.parent = -1
    · rw [if_pos hp] at h4
      simp only [Bool.and_eq_true, decide_eq_true_eq] at h4
      exact absurd h4.1.2 hk
    · rw [if_neg hp] at h4
      simp only [Bool.and_eq_true, decide_eq_true_eq, ne_eq] at h4
      refine ⟨rfl, rfl, by omega, by omega, by omega, rk_of h1 (by rw [inR_t]; exact h2) ?_ ?_⟩
      · simp only [leastB, Bool.or_eq_true, Bool.and_eq_true, decide_eq_true_eq, inR_t]
        left; omega
      · unfold rightB
        rw [if_neg h0, if_neg hp]
        simp only [Bool.and_eq_true, decide_eq_true_eq, ne_eq]
        refine ⟨⟨⟨⟨⟨⟨h4.1.1.1.1.1.1, h4.1.1.1.1.1.2⟩, ?_⟩, ?_⟩, ?_⟩, ?_⟩, ?_⟩ <;> omega
theorem ren_rk {r : Rk} (h : rkErr r = 0) : rkErr (if (renM r).2 = 0 then (renM r).1 else r) = 0 /\ (if (renM r).2 = 0 then (renM r).1 else r).node = r.node /\ Mono r (if (renM r).2 = 0 then (renM r).1 else r) /\ ((if (renM r).2 = 0 then (renM r).1 else r).parent = -1 \/ (if (renM r).2 = 0 then (renM r).1 else r) = r) := by
  by_cases hc : r.node = 0 /\ r.epoch ≠ 65535
  · have e : renM r = (begin' r (r.epoch + 1), 0) := by
      unfold renM
      rw [if_neg (by simp [h]), if_neg (by simp [hc.1]), if_neg hc.2]
    rw [e]
    simp only [if_true]
    obtain ⟨h1, h2, h3, h4⟩ := rk_ok h
    simp only [inR_t] at h2
    unfold rightB at h4
    rw [if_pos hc.1] at h4
    simp only [Bool.and_eq_true, decide_eq_true_eq, Bool.or_eq_true] at h4
    have eb : begin' r (r.epoch + 1) = { r with epoch := r.epoch + 1, least := 65535 } := by unfold begin'; rw [if_pos (by omega)]
    refine ⟨?_, begin_node _ _, mono_begin _ _, .inl ?_⟩
    · rw [eb]
      refine rk_of h1 (by rw [inR_t]; show 0 <= r.epoch + 1 /\ r.epoch + 1 <= 65535; omega) ?_ ?_
      · simp [leastB, inR]
      · unfold rightB
        rw [if_pos hc.1]
        simp only [Bool.and_eq_true, decide_eq_true_eq, Bool.or_eq_true]
        exact ⟨⟨⟨⟨by show 1 <= r.epoch + 1; omega, h4.1.1.1.2⟩, h4.1.1.2⟩, h4.1.2⟩, .inr trivial⟩
    · rw [eb]; exact h4.1.1.1.2
  · have e : (renM r).2 ≠ 0 := by
      unfold renM
      rw [if_neg (by simp [h])]
      by_cases h0 : r.node = 0
      · rw [if_neg (by simp [h0]), if_pos (by by_cases h1 : r.epoch = 65535; exact h1; exact absurd ⟨h0, h1⟩ hc)]
        decide
      · rw [if_pos h0]
        decide
    rw [if_neg e]
    exact ⟨h, rfl, Mono.refl r, .inr rfl⟩
theorem NL.does {L : List Wk} {said : List Sd} {slot slot2 m : Int} (h : NL L said slot) (h0 : 0 <= slot) (hs : slot <= slot2) (hs2 : slot2 <= 1099511627776) (hm : 0 <= m /\ m <= 65535) (d : Dd) (hL : L.length <= 32) {i : Nat} (hi : i < L.length) :
    NL (L.set i (doesM (L.getD i default) d said slot2 m).1) (said ++ (doesM (L.getD i default) d said slot2 m).2.toList) slot2 := by
  have same : Goes L slot2 i (L.getD i default) := h.same hs hi
  have keep : ∀ w, Goes L slot2 i w -> NL (L.set i w) (said ++ (none : Option Sd).toList) slot2 := fun w g => by
    simp only [Option.toList, List.append_nil]; exact h.set hs hi g
  unfold doesM
  split
  · split
    · exact keep _ same
    · rename_i hk
      obtain ⟨a1, a2, a3, a4, a5, a6⟩ := adv_rk (h.rk i hi) hk
      have hmono : Mono (L.getD i default).r (advM (L.getD i default).r).1 := by
        rw [a2]; exact .inr ⟨rfl, by show min _ _ <= _; omega⟩
      have g : Goes L slot2 i ⟨(advM (L.getD i default).r).1, (L.getD i default).l⟩ := by
        refine ⟨?_, a6, same.nb, same.slots, same.ad, hmono, ?_⟩
        · show (advM (L.getD i default).r).1.node = _
          rw [a2]; exact same.node
        · show (advM (L.getD i default).r).1.parent ≠ -1 -> AdAt L (advM (L.getD i default).r).1.parent (advM (L.getD i default).r).1.epoch (advM (L.getD i default).r).1.heard
          rw [a2]; exact same.par
      have hn := h.set hs hi g
      have hnode := h.node i hi
      refine ⟨hn.node, hn.rk, hn.nb, hn.slots, hn.ad, fun s hs3 => ?_, hn.par⟩
      rcases List.mem_append.1 hs3 with hs3 | hs3
      · exact hn.sd s hs3
      · have e : s = sayOf (L.getD i default) slot2 := by simpa using hs3
        subst e
        refine ⟨⟨i, by rw [List.length_set]; exact hi, ?_, ?_⟩, ?_, ?_, ?_⟩
        · show (((L.getD i default).r.node.toNat : Nat) : Int) = i
          rw [hnode]; simp
        · rw [wk_set hi, if_pos rfl]
          right
          show (((L.getD i default).r.epoch.toNat : Nat) : Int) = (advM (L.getD i default).r).1.epoch /\ (advM (L.getD i default).r).1.least <= (((L.getD i default).r.rank.toNat : Nat) : Int)
          rw [a2]
          show (((L.getD i default).r.epoch.toNat : Nat) : Int) = (L.getD i default).r.epoch /\ min (L.getD i default).r.least (L.getD i default).r.rank <= (((L.getD i default).r.rank.toNat : Nat) : Int)
          omega
        · show 1 <= (L.getD i default).r.epoch.toNat /\ (L.getD i default).r.epoch.toNat <= 65535
          omega
        · show (L.getD i default).r.rank.toNat <= 65534
          omega
        · show ((slot2.toNat : Nat) : Int) <= slot2
          omega
  split
  · split
    · exact keep _ same
    · rename_i hne
      split
      · exact keep _ same
      · have hmem : saidD said d.which ∈ said := by
          have h1 := Int.emod_lt_of_pos d.which (show (0 : Int) < said.length by omega)
          have h2 := Int.emod_nonneg d.which (show (said.length : Int) ≠ 0 by omega)
          unfold saidD
          rw [List.getD_eq_getElem?_getD, List.getElem?_eq_getElem (by omega)]
          exact List.getElem_mem _
        obtain ⟨d1, d2, d3, d4⟩ := h.sd _ hmem
        obtain ⟨j, hj, hjn, _⟩ := id d1
        have hh : heardB (saidD said d.which).nd (saidD said d.which).ep (saidD said d.which).rk slot2 = true := by
          simp only [heardB, Bool.and_eq_true, inR_t]
          omega
        refine keep _ (goes_sel h hm hi (hear_check (h.nb i hi) hh) (fun x hx => ?_) fun x hx => ?_)
        · rcases mem_hearL hx with hx | hx
          · exact same.slots x hx
          · omega
        · rcases mem_hearL hx with hx | hx
          · exact same.ad x hx
          · rw [hx.1, hx.2.1, hx.2.2.1]; exact d1
  split
  · split
    · exact keep _ same
    · rename_i hf
      have hf' : foundNb (L.getD i default).l (d.which % 8) = true := by simpa using hf
      have hb := (found_iff.1 hf').1
      refine keep _ (goes_sel h hm hi (check_cnt (h.nb i hi) hb) (fun x hx => ?_) fun x hx => ?_)
      · rcases List.mem_or_eq_of_mem_set hx with hx | hx
        · exact same.slots x hx
        · have h9 := same.slots _ (getD_mem hb)
          subst hx; exact h9
      · rcases List.mem_or_eq_of_mem_set hx with hx | hx
        · exact same.ad x hx
        · have h9 := same.ad _ (getD_mem hb)
          subst hx; exact h9
  split
  · refine keep _ (goes_sel h hm hi (kept_check (h.nb i hi) _ _) (fun x hx => ?_) fun x hx => ?_)
    · exact same.slots x (List.mem_filter.1 hx).1
    · exact same.ad x (List.mem_filter.1 hx).1
  split
  · exact keep ⟨lose' (L.getD i default).r, []⟩ ⟨(lose_node _).trans same.node, rk_lose same.rk, (by show checkNb [] = 0; decide), (fun x hx => nomatch hx), (fun x hx => nomatch hx), mono_lose _, fun hp => absurd (lose_parent same.rk) hp⟩
  · obtain ⟨r1, r2, r3, r4⟩ := ren_rk (h.rk i hi)
    refine keep _ ⟨r2.trans same.node, r1, same.nb, same.slots, same.ad, r3, fun hp => ?_⟩
    rcases r4 with r4 | r4
    · exact absurd r4 hp
    · show AdAt L (if (renM (L.getD i default).r).2 = 0 then (renM (L.getD i default).r).1 else (L.getD i default).r).parent (if (renM (L.getD i default).r).2 = 0 then (renM (L.getD i default).r).1 else (L.getD i default).r).epoch (if (renM (L.getD i default).r).2 = 0 then (renM (L.getD i default).r).1 else (L.getD i default).r).heard
      rw [r4] at hp ⊢
      exact same.par hp
def nl0 (n : Nat) : List Wk := (startL n).map fun r => ⟨r, []⟩
theorem nl0_len (n : Nat) : (nl0 n).length = n := by simp [nl0, startL_len]
theorem nl0_at {n i : Nat} (hi : i < n) : (nl0 n).getD i default = ⟨(startM (i : Nat)).1, []⟩ := by
  unfold nl0 startL
  simp [List.getD_eq_getElem?_getD, hi]
theorem start_rk {i : Nat} (hi : i < 32) : rkErr (startM (i : Nat)).1 = 0 /\ (startM (i : Nat)).1.node = i /\ (startM (i : Nat)).1.parent = -1 /\ (startM (i : Nat)).2 = 0 := by
  have hn : nodeB (i : Int) = true := by simp only [nodeB, inR_t]; omega
  unfold startM
  rw [hn]
  simp only [Bool.true_eq_false, if_false]
  by_cases h0 : (i : Int) = 0
  · rw [if_pos h0, h0]
    exact ⟨by decide, rfl, rfl, rfl⟩
  · rw [if_neg h0]
    refine ⟨rk_of hn (by show inR 0 0 65535 = true; decide) (by simp [leastB, inR]) ?_, rfl, rfl, rfl⟩
    unfold rightB
    rw [if_neg h0]
    rfl
theorem nl0_ok {n : Nat} (hn : n <= 32) : NL (nl0 n) [] 0 := by
  have hl := nl0_len n
  refine ⟨fun i hi => ?_, fun i hi => ?_, fun i hi => ?_, fun i hi => ?_, fun i hi => ?_, (fun s hs => nomatch hs), fun i hi => ?_⟩
  all_goals rw [hl] at hi
  all_goals rw [nl0_at hi]
  · exact (start_rk (by omega)).2.1
  · exact (start_rk (by omega)).1
  · show checkNb [] = 0; decide
  · intro x hx; cases hx
  · intro x hx; cases hx
  · intro hp; exact absurd (start_rk (by omega)).2.2.1 hp
end Go.Proofs.R
end
section
namespace Go.Proofs.R
open Go Go.Sx Go.Proofs.P
set_option maxRecDepth 4000
attribute [local irreducible] VR VC thenQ blockQ retL sayS offS
abbrev wkC (w : Wk) : List C := [.d (.int .i64 w.r.node), .d (.int .i64 w.r.epoch), .d (.int .i64 w.r.parent), .d (.int .i64 w.r.heard), .d (.int .i64 w.r.rank), .d (.int .i64 w.r.least), .d (nbs w.l)]
abbrev wkA (w : Wk) : AV := .agg (wkC w)
theorem selects_spec (w : Wk) (m : Int) : FnS Tryz.prog 76 [wkA w, AI m] [] (.tup [wkA (selW w m), AB (decide ((select' w.l w.r m).2.2 = 0))]) [] := by
  have h := select_spec w.l w.r m
  unfold selW
  generalize select' w.l w.r m = q at *
  obtain ⟨⟨q1, q2, q3, q4, q5, q6⟩, qb, qe⟩ := q
  refine FnS.of_body (enters_of Tryz.func76 (by kernel_rfl) rfl) Tryz.func76 rfl Tryz.ntmps76 Tryz.results76 rfl rfl rfl rfl fun E hS => ?_
  repeat' (first | (show VR _ _ _ (_ :: _) _ _ _; first | refine x_opF rfl (by first | exact True.intro | omega) ?_ | (show VR _ _ _ (⟨_, .call ⟨.value _, _, _⟩, _, _, _, _⟩ :: _) _ _ _; first | refine vr_calldU (h) (gk rfl) rfl rfl rfl (by first | rfl | (simp only [wfRes, wfL, wfArgs, wfs, mpO_namesB, mpO_namesI]; rfl)) rfl (by first | exact newB_nil | exact newB_O | ((simp only [newB, List.map_cons, List.map_nil, Blk.shift, rowOf_shift]) <;> rfl) | rfl) rfl ?_)) | (show VR _ _ _ [] _ _ _; first | refine vr_nil ?_) | (show thenQ _ _ _ _; first | refine q_then_n ?_) | refine vc_seq ?_ | refine vc_region ?_ | refine vc_ret ?_)
  exact ret_agg_b isRet_r rfl rfl rfl rfl rfl rfl rfl
noncomputable def sayB (s : Sd) : ByteArray := sayS s.nd s.slot s.rk s.ep
structure SdOK (s : Sd) : Prop where
  nd : s.nd <= 31
  slot : s.slot <= 109951162
  rk : s.rk <= 65534
  ep : 1 <= s.ep /\ s.ep <= 65535
set_option maxHeartbeats 2000000 in
theorem heard_same (w : Wk) (s : Sd) (slot m : Int) (hs : SdOK s) (h : (s.nd : Int) = w.r.node) : FnS Tryz.prog 71 [wkA w, AD (.str (sayB s)), AI slot, AI m] [] (.tup [wkA w, AB true]) [] := by
  have hd : FnS Tryz.prog 50 [AD (.str (sayB s))] [] (.tup [frA (bcn s.nd s.slot s.rk s.ep (offS true)), AI 0]) [] := said_spec s.nd s.ep s.rk s.slot hs.nd hs.slot (by have := hs.rk; omega) hs.ep.2
  have d1 : decide ((s.nd : Int) = w.r.node) = true := decide_eq_true h
  generalize sayB s = S at *
  generalize offS true = O at *
  refine FnS.of_body (enters_of Tryz.func71 (by kernel_rfl) rfl) Tryz.func71 rfl Tryz.ntmps71 Tryz.results71 rfl rfl rfl rfl fun E hS => ?_
  repeat' (first | (show VR _ _ _ (_ :: _) _ _ _; first | refine x_opF rfl (by first | exact True.intro | omega) ?_ | (show VR _ _ _ (⟨_, .call ⟨.value _, _, _⟩, _, _, _, _⟩ :: _) _ _ _; first | refine vr_calldU (hd) (gk rfl) rfl rfl rfl (by first | rfl | (simp only [wfRes, wfL, wfArgs, wfs, mpO_namesB, mpO_namesI]; rfl)) rfl (by first | exact newB_nil | exact newB_O | ((simp only [newB, List.map_cons, List.map_nil, Blk.shift, rowOf_shift]) <;> rfl) | rfl) rfl ?_)) | (show VR _ _ _ [] _ _ _; first | refine vr_nil ?_) | (show thenQ _ _ _ _; first | refine q_then_n ?_ | refine q_then_r ?_) | refine vc_seq ?_ | refine vc_region ?_ | (show VC _ (.cond _ _ _) _ _; first | refine vc_cond_t rfl ?_ | refine vc_cond_f rfl ?_ | refine x_know rfl (by assumption) ?_) | refine vc_ret ?_ | refine vc_skip ?_)
  exact ret_agg_b isRet_r rfl rfl rfl rfl rfl rfl rfl
set_option maxHeartbeats 2000000 in
theorem heard_new (w : Wk) (s : Sd) (slot m : Int) (hs : SdOK s) (h : (s.nd : Int) ≠ w.r.node) (he : hearM w.l s.nd s.ep s.rk slot = (hearL w.l s.nd s.ep s.rk slot, 0)) (hse : (select' (hearL w.l s.nd s.ep s.rk slot) w.r m).2.2 = 0) :
    FnS Tryz.prog 71 [wkA w, AD (.str (sayB s)), AI slot, AI m] [] (.tup [wkA (selW ⟨w.r, hearL w.l s.nd s.ep s.rk slot⟩ m), AB true]) [] := by
  have hd : FnS Tryz.prog 50 [AD (.str (sayB s))] [] (.tup [frA (bcn s.nd s.slot s.rk s.ep (offS true)), AI 0]) [] := said_spec s.nd s.ep s.rk s.slot hs.nd hs.slot (by have := hs.rk; omega) hs.ep.2
  have d1 : decide ((s.nd : Int) = w.r.node) = false := decide_eq_false h
  have hh := hear_spec w.l s.nd s.ep s.rk slot
  rw [he] at hh
  have hsel := selects_spec ⟨w.r, hearL w.l s.nd s.ep s.rk slot⟩ m
  dsimp only at hsel
  rw [hse] at hsel
  generalize sayB s = S at *
  generalize offS true = O at *
  generalize hearL w.l s.nd s.ep s.rk slot = l2 at *
  generalize selW ⟨w.r, l2⟩ m = w2 at *
  refine FnS.of_body (enters_of Tryz.func71 (by kernel_rfl) rfl) Tryz.func71 rfl Tryz.ntmps71 Tryz.results71 rfl rfl rfl rfl fun E hS => ?_
  repeat' (first | (show VR _ _ _ (_ :: _) _ _ _; first | refine x_opF rfl (by first | exact True.intro | omega) ?_ | (show VR _ _ _ (⟨_, .call ⟨.value _, _, _⟩, _, _, _, _⟩ :: _) _ _ _; first | refine vr_calldU (hd) (gk rfl) rfl rfl rfl (by first | rfl | (simp only [wfRes, wfL, wfArgs, wfs, mpO_namesB, mpO_namesI]; rfl)) rfl (by first | exact newB_nil | exact newB_O | ((simp only [newB, List.map_cons, List.map_nil, Blk.shift, rowOf_shift]) <;> rfl) | rfl) rfl ?_ | refine vr_calldU (hh) (gk rfl) rfl rfl rfl (by first | rfl | (simp only [wfRes, wfL, wfArgs, wfs, mpO_namesB, mpO_namesI]; rfl)) rfl (by first | exact newB_nil | exact newB_O | ((simp only [newB, List.map_cons, List.map_nil, Blk.shift, rowOf_shift]) <;> rfl) | rfl) rfl ?_ | refine vr_calldU (hsel) (gk rfl) rfl rfl rfl (by first | rfl | (simp only [wfRes, wfL, wfArgs, wfs, mpO_namesB, mpO_namesI]; rfl)) rfl (by first | exact newB_nil | exact newB_O | ((simp only [newB, List.map_cons, List.map_nil, Blk.shift, rowOf_shift]) <;> rfl) | rfl) rfl ?_)) | (show VR _ _ _ [] _ _ _; first | refine vr_nil ?_) | (show thenQ _ _ _ _; first | refine q_then_n ?_) | refine vc_seq ?_ | refine vc_region ?_ | (show VC _ (.cond _ _ _) _ _; first | refine vc_cond_f rfl ?_ | refine x_know rfl (by assumption) ?_) | refine vc_ret ?_ | refine vc_skip ?_)
  exact ret_agg_b isRet_r rfl rfl rfl rfl rfl rfl rfl
end Go.Proofs.R
end
section
namespace Go.Proofs.Y
open Go Go.Sx
open Go.Proofs.P (Rk rkA ints isNaN_spec)
open Go.Proofs.R (rks Wk wkC)
set_option maxRecDepth 4000
attribute [local irreducible] VR VC thenQ blockQ retL scopeQ
theorem countP_lt {α : Type} {p q : α -> Bool} {a : α} : ∀ {l : List α}, (∀ x, p x = true -> q x = true) -> a ∈ l -> q a = true -> p a = false -> l.countP p < l.countP q
  | [], _, h, _, _ => by cases h
  | b :: l, himp, h, hq, hp => by
    have hle : l.countP p <= l.countP q := List.countP_mono_left fun x _ => himp x
    rcases List.mem_cons.1 h with rfl | h
    · rw [List.countP_cons_of_neg (by simp [hp]), List.countP_cons_of_pos hq]; omega
    · have ih := countP_lt himp h hq hp
      by_cases hb : p b = true
      · rw [List.countP_cons_of_pos hb, List.countP_cons_of_pos (himp b hb)]; omega
      · rw [List.countP_cons_of_neg hb]
        by_cases hb2 : q b = true
        · rw [List.countP_cons_of_pos hb2]; omega
        · rw [List.countP_cons_of_neg hb2]; exact ih
def above (l : List Rk) (j : Nat) : Nat := (List.range l.length).countP fun i => decide (keyR (l.getD j default) < keyR (l.getD i default))
theorem above_lt {l : List Rk} {j i : Nat} (hi : i < l.length) (h : keyR (l.getD j default) < keyR (l.getD i default)) : above l i < above l j :=
  countP_lt (a := i) (fun x hx => decide_eq_true (by have := of_decide_eq_true hx; omega)) (List.mem_range.2 hi) (decide_eq_true h) (decide_eq_false (by omega))
theorem above_le {l : List Rk} {j : Nat} (hj : j < l.length) : above l j < l.length := by
  have h : above l j < (List.range l.length).countP fun _ => true :=
    countP_lt (a := j) (fun x _ => rfl) (List.mem_range.2 hj) rfl (decide_eq_false (by omega))
  simpa using h
def _root_.Go.Proofs.R.Wk.enc (w : Wk) : List D := [.int .i64 w.r.node, .int .i64 w.r.epoch, .int .i64 w.r.parent, .int .i64 w.r.heard, .int .i64 w.r.rank, .int .i64 w.r.least, P.nbs w.l]
abbrev wks (l : List Wk) : D := rdOf Wk.enc 7 l
def stsL (L : List Wk) (k : Nat) : List Rk := (List.range k).map fun i => (L.getD i default).r
theorem stsL_len (L : List Wk) (k : Nat) : (stsL L k).length = k := by simp [stsL]
theorem stsL_succ (L : List Wk) (k : Nat) : stsL L (k + 1) = stsL L k ++ [(L.getD k default).r] := by simp [stsL, List.range_succ]
theorem stsL_at (L : List Wk) {k i : Nat} (h : i < k) : (stsL L k).getD i default = (L.getD i default).r := by simp [stsL, List.getD_eq_getElem?_getD, h]
def UpTo (l : List Rk) (m : Nat) (a : Int) : Prop := a = -1 \/ ∃ j : Nat, j < l.length /\ a = j /\ above l j + m < l.length
theorem UpTo.step {l : List Rk} (h : Tree l) {m j : Nat} (hj : j < l.length) (hm : above l j + m < l.length) : UpTo l (m + 1) (l.getD j default).parent := by
  rcases h.par j hj with e | ⟨i, hi, e, hk⟩
  · exact .inl e
  · have := above_lt hi hk
    exact .inr ⟨i, hi, e, by omega⟩
set_option maxHeartbeats 4000000 in
theorem acyclic_spec (L : List Wk) (h : Tree (stsL L L.length)) (h1 : 1 <= L.length) (h2 : L.length <= 12) : FnS Tryz.prog 26 [AD (wks L)] [] (AB true) [] := by
  have hcy := cycle_spec _ h (by rw [stsL_len]; exact h1) (by rw [stsL_len]; exact h2)
  refine FnS.of_body (enters_of Tryz.func26 (by kernel_rfl) rfl) Tryz.func26 rfl Tryz.ntmps26 Tryz.results26 rfl rfl rfl rfl fun E hS => ?_
  repeat' (first | (show VR _ _ _ (_ :: _) _ _ _; first | refine x_opF rfl (by first | exact True.intro | omega) ?_) | (show VR _ _ _ [] _ _ _; first | refine vr_nil ?_) | (show thenQ _ _ _ _; first | refine q_then_n ?_) | refine vc_seq ?_ | refine vc_region ?_ | refine vc_block ?_)
  refine vc_loopI (ι := Nat) (fun k => stOf [(0, AD (wks L)), (3, .c (.row 44 (stsL L k).length)), (7, AD (wks L)), (8, AI L.length), (9, AI k)] [(44, .row 68 6 (rowOf Rk.enc (stsL L k)))]) (fun k => k <= L.length) (fun k => L.length - k) 0 (Nat.zero_le _) ?_ ?_
  · refine (le_nil (t := 3) (nm := 44) (T := 68) (sz := 6) rfl rfl).trans ?_
    refine le_gen0 (fun n => n) ?_ ?_ rfl (by first | rfl | (simp only [wfL, wfs, mpO_namesB, mpO_namesI]; rfl))
    all_goals repeat' (first | exact trivial | refine ⟨⟨_, rfl, ?_⟩, ?_⟩ | exact .c .d | exact .c (.row rfl rfl) | exact .rowD rfl rowOf_isD)
  · intro k hk
    have hkl := stsL_len L k
    rcases Nat.lt_or_ge k L.length with hlt | hge
    · have d1 : decide ((k : Int) < (L.length : Int)) = true := decide_eq_true (by omega)
      repeat' (first | (show VR _ _ _ (_ :: _) _ _ _; first | refine x_opF rfl (by first | exact True.intro | omega) ?_ | (show VR _ _ _ (⟨_, .indexAddr _ _ _, _, _, _, _⟩ :: _) _ _ _; first | refine vr_index_rd (gk rfl) rfl rfl rfl rfl rfl (by omega) rfl ?_) | (show VR _ _ _ (⟨_, .call ⟨.builtin .append, _, _⟩, _, _, _, _⟩ :: _) _ _ _; first | refine vr_append0 (gk rfl) rfl rfl rfl (by first | rfl | exact rowOf_length.symm | (simp only [lns] <;> omega)) (by first | exact .row rfl (by first | rfl | exact rowOf_length.symm) | exact .rd | exact .nils) rfl rfl rfl (by (try dsimp only); omega) rfl rfl ?_)) | (show VR _ _ _ [] _ _ _; first | refine vr_nil ?_) | (show thenQ _ _ _ _; first | refine q_then_n ?_) | (show blockQ _ _ _ _; first | refine q_blk_n ?_) | refine vc_seq ?_ | refine vc_region ?_ | (show VC _ (.cond _ _ _) _ _; first | refine vc_cond_t rfl ?_ | refine x_know rfl (by assumption) ?_) | refine vc_block ?_ | refine vc_skip ?_)
      refine ⟨k + 1, by omega, by omega, ?_⟩
      rw [stsL_succ]
      refine le_gen0 (fun n => if n = 44 then 17 else n) ?_ ?_ rfl (by first | rfl | (simp only [wfL, wfs, mpO_namesB, mpO_namesI]; rfl))
      all_goals repeat' (first | exact trivial | refine ⟨⟨_, rfl, ?_⟩, ?_⟩ | exact .c .d | (refine .c (.row rfl ?_); ((try dsimp only); first | rfl | omega | (simp only [lns] <;> omega)); done) | (refine .rowD ?_ rowOf_isD; rw [rowOf_append]; rfl))
    · have d1 : decide ((k : Int) < (L.length : Int)) = false := decide_eq_false (by omega)
      have e : k = L.length := by omega
      subst e
      repeat' (first | (show VR _ _ _ (_ :: _) _ _ _; first | refine x_opF rfl (by first | exact True.intro | omega) ?_) | (show VR _ _ _ [] _ _ _; first | refine vr_nil ?_) | (show thenQ _ _ _ _; first | refine q_then_n ?_ | refine q_then_x ?_) | (show blockQ _ _ _ _; first | refine q_blk_x ?_) | (show VC _ (.seq _ _) _ _; (fail_if_success (show VC _ (.seq (.seq (.region 7 _ _) _) _) _ _)); (fail_if_success (show VC _ (.seq (.region 7 _ _) _) _ _)); refine vc_seq ?_) | refine vc_region ?_ | (show VC _ (.cond _ _ _) _ _; first | refine vc_cond_f rfl ?_ | refine x_know rfl (by assumption) ?_) | refine vc_exit ?_)
      generalize stsL L L.length = S at *
      rw [<- hkl]
      refine VC.le (σ' := stOf [(3, AD (rks S))] []) ?_ ?_
      · refine le_gen (fun n => n) [44] hS ?_ ?_ rfl (by first | rfl | (simp only [wfL, wfs, mpO_namesB, mpO_namesI]; rfl))
        all_goals repeat' (first | exact trivial | refine ⟨⟨_, rfl, ?_⟩, ?_⟩ | exact .c (.frzOf (by first | (simp; done) | decide) rfl rfl (fun _ => rfl)))
      repeat' (first | (show VR _ _ _ (_ :: _) _ _ _; first | refine x_opF rfl (by first | exact True.intro | omega) ?_ | (show VR _ _ _ (⟨_, .call ⟨.value _, _, _⟩, _, _, _, _⟩ :: _) _ _ _; first | refine vr_calldU (hcy) (gk rfl) rfl rfl rfl (by first | rfl | (simp only [wfRes, wfL, wfArgs, wfs, mpO_namesB, mpO_namesI]; rfl)) rfl (by first | exact newB_nil | exact newB_O | ((simp only [newB, List.map_cons, List.map_nil, Blk.shift, rowOf_shift]) <;> rfl) | rfl) rfl ?_)) | (show VR _ _ _ [] _ _ _; first | refine vr_nil ?_) | (show thenQ _ _ _ _; first | refine q_then_n ?_) | refine vc_seq ?_ | refine vc_region ?_ | (show VC _ (.cond _ _ _) _ _; first | refine vc_cond_f rfl ?_) | refine vc_block ?_ | refine vc_skip ?_)
      refine vc_loopI (ι := Nat) (fun k => stOf [(3, AD (rks S)), (24, AI S.length), (25, AI k)] []) (fun k => k <= S.length) (fun k => S.length - k) 0 (Nat.zero_le _) ?_ ?_
      · refine le_gen0 (fun n => n) ?_ ?_ rfl (by first | rfl | (simp only [wfL, wfs, mpO_namesB, mpO_namesI]; rfl))
        all_goals repeat' (first | exact trivial | refine ⟨⟨_, rfl, ?_⟩, ?_⟩ | exact .c .d)
      · intro k hk
        rcases Nat.lt_or_ge k S.length with hlt | hge
        · have d2 : decide ((k : Int) < (S.length : Int)) = true := decide_eq_true (by omega)
          repeat' (first | (show VR _ _ _ (_ :: _) _ _ _; first | refine x_opF rfl (by first | exact True.intro | omega) ?_) | (show VR _ _ _ [] _ _ _; first | refine vr_nil ?_) | (show thenQ _ _ _ _; first | refine q_then_n ?_) | refine vc_seq ?_ | refine vc_region ?_ | (show VC _ (.cond _ _ _) _ _; first | refine vc_cond_t rfl ?_ | refine x_know rfl (by assumption) ?_) | refine vc_block ?_ | refine vc_skip ?_)
          refine vc_loopI (ι := Nat × Int) (fun p => stOf [(3, AD (rks S)), (6, AI p.2), (24, AI S.length), (25, AI k), (29, AI S.length), (30, AI p.1)] []) (fun p => p.1 <= S.length /\ UpTo S p.1 p.2) (fun p => S.length - p.1) (0, (k : Int)) ⟨Nat.zero_le _, .inr ⟨k, hlt, rfl, above_le hlt⟩⟩ ?_ ?_
          · refine le_gen0 (fun n => n) ?_ ?_ rfl (by first | rfl | (simp only [wfL, wfs, mpO_namesB, mpO_namesI]; rfl))
            all_goals repeat' (first | exact trivial | refine ⟨⟨_, rfl, ?_⟩, ?_⟩ | exact .c .d)
          · rintro ⟨m, a⟩ ⟨hm, ha⟩
            dsimp only at hm ha ⊢
            rcases Nat.lt_or_ge m S.length with hml | hml
            · have d3 : decide ((m : Int) < (S.length : Int)) = true := decide_eq_true (by omega)
              rcases ha with rfl | ⟨j, hj, rfl, haj⟩
              · repeat' (first | (show VR _ _ _ (_ :: _) _ _ _; first | refine x_opF rfl (by first | exact True.intro | omega) ?_) | (show VR _ _ _ [] _ _ _; first | refine vr_nil ?_) | (show thenQ _ _ _ _; first | refine q_then_n ?_) | (show blockQ _ _ _ _; first | refine q_blk_n ?_) | refine vc_seq ?_ | refine vc_region ?_ | (show VC _ (.cond _ _ _) _ _; first | refine vc_cond_t rfl ?_ | refine vc_cond_f rfl ?_ | refine x_know rfl (by assumption) ?_) | refine vc_block ?_ | refine vc_skip ?_)
                refine ⟨(m + 1, -1), ⟨by dsimp only; omega, .inl rfl⟩, by dsimp only; omega, ?_⟩
                refine le_gen0 (fun n => n) ?_ ?_ rfl (by first | rfl | (simp only [wfL, wfs, mpO_namesB, mpO_namesI]; rfl))
                all_goals repeat' (first | exact trivial | refine ⟨⟨_, rfl, ?_⟩, ?_⟩ | exact .c .d)
              · have d4 : decide ((0 : Int) <= (j : Int)) = true := decide_eq_true (by omega)
                have d5 : decide ((j : Int) < (S.length : Int)) = true := decide_eq_true (by omega)
                repeat' (first | (show VR _ _ _ (_ :: _) _ _ _; first | refine x_opF rfl (by first | exact True.intro | omega) ?_ | (show VR _ _ _ (⟨_, .indexAddr _ _ _, _, _, _, _⟩ :: _) _ _ _; first | refine vr_index_rd (gk rfl) rfl rfl rfl rfl rfl (by omega) rfl ?_)) | (show VR _ _ _ [] _ _ _; first | refine vr_nil ?_) | (show thenQ _ _ _ _; first | refine q_then_n ?_) | (show blockQ _ _ _ _; first | refine q_blk_n ?_) | refine vc_seq ?_ | refine vc_region ?_ | (show VC _ (.cond _ _ _) _ _; first | refine vc_cond_t rfl ?_ | refine x_know rfl (by assumption) ?_) | refine vc_block ?_ | refine vc_skip ?_)
                refine ⟨(m + 1, (S.getD j default).parent), ⟨by dsimp only; omega, UpTo.step h hj haj⟩, by dsimp only; omega, ?_⟩
                refine le_gen0 (fun n => n) ?_ ?_ rfl (by first | rfl | (simp only [wfL, wfs, mpO_namesB, mpO_namesI]; rfl))
                all_goals repeat' (first | exact trivial | refine ⟨⟨_, rfl, ?_⟩, ?_⟩ | exact .c .d)
            · have d3 : decide ((m : Int) < (S.length : Int)) = false := decide_eq_false (by omega)
              have e : a = -1 := by
                rcases ha with e | ⟨j, hj, _, haj⟩
                · exact e
                · omega
              subst e
              repeat' (first | (show VR _ _ _ (_ :: _) _ _ _; first | refine x_opF rfl (by first | exact True.intro | omega) ?_) | (show VR _ _ _ [] _ _ _; first | refine vr_nil ?_) | (show thenQ _ _ _ _; first | refine q_then_n ?_ | refine q_then_x ?_) | (show blockQ _ _ _ _; first | refine q_blk_n ?_ | refine q_blk_x ?_) | refine vc_seq ?_ | refine vc_region ?_ | (show VC _ (.cond _ _ _) _ _; first | refine vc_cond_f rfl ?_ | refine x_know rfl (by assumption) ?_) | refine vc_exit ?_ | refine vc_skip ?_)
              refine ⟨k + 1, by omega, by omega, ?_⟩
              refine le_gen0 (fun n => n) ?_ ?_ rfl (by first | rfl | (simp only [wfL, wfs, mpO_namesB, mpO_namesI]; rfl))
              all_goals repeat' (first | exact trivial | refine ⟨⟨_, rfl, ?_⟩, ?_⟩ | exact .c .d)
        · have d2 : decide ((k : Int) < (S.length : Int)) = false := decide_eq_false (by omega)
          repeat' (first | (show VR _ _ _ (_ :: _) _ _ _; first | refine x_opF rfl (by first | exact True.intro | omega) ?_) | (show VR _ _ _ [] _ _ _; first | refine vr_nil ?_) | (show thenQ _ _ _ _; first | refine q_then_n ?_ | refine q_then_x ?_) | (show blockQ _ _ _ _; first | refine q_blk_x ?_) | refine vc_seq ?_ | refine vc_region ?_ | (show VC _ (.cond _ _ _) _ _; first | refine vc_cond_f rfl ?_ | refine x_know rfl (by assumption) ?_) | refine vc_ret ?_ | refine vc_exit ?_)
          exact ret_bool isRet_r rfl rfl
end Go.Proofs.Y
end
section
namespace Go.Proofs.R
open Go Go.Sx Go.Proofs.P
set_option maxRecDepth 4000
attribute [local irreducible] VR VC thenQ blockQ retL sayS offS
abbrev u8 (n : Int) : C := .d (.int .u8 n)
abbrev ddA (d : Dd) : AV := .agg [u8 d.kind, u8 d.node, u8 d.which, u8 d.slot]
noncomputable abbrev sds (l : List Sd) : D := rdOf (fun s => [.str (sayB s)]) 1 l
noncomputable def strO : Option Sd -> ByteArray
  | none => ⟨#[]⟩
  | some s => sayB s
noncomputable abbrev encS (s : Sd) : List D := [.str (sayB s)]
structure DdOK (d : Dd) : Prop where
  kind : 0 <= d.kind /\ d.kind <= 255
  node : 0 <= d.node /\ d.node <= 255
  which : 0 <= d.which /\ d.which <= 255
  slot : 0 <= d.slot /\ d.slot <= 255
structure DoesOK (w : Wk) (d : Dd) (said : List Sd) (slot m : Int) : Prop where
  rk : rkErr w.r = 0
  nb : checkNb w.l = 0
  sl : ∀ x ∈ w.l, x.slot <= slot
  slot : 0 <= slot /\ slot <= 1000
  m : 0 <= m /\ m <= 255
  dd : DdOK d
  len : said.length <= 1000
  sd : ∀ s ∈ said, SdOK s
set_option maxHeartbeats 2000000 in
theorem does0_none (w : Wk) (d : Dd) (said : List Sd) (slot m : Int) (h : DoesOK w d said slot m) (hk : d.kind % 7 = 0) (hr : w.r.rank = 65535) : FnW Tryz.prog 25 [wkA w, ddA d, .c (.row 101 said.length), AI slot, AI m] [(101, .row 9 1 (rowOf encS said))] [101] (.tup [wkA w, AD (.str ⟨#[]⟩), AB true]) [(101, .row 9 1 (rowOf encS said))] := by
  intro r
  simp only [pinsL, List.map_cons, List.map_nil, List.cons_append, List.nil_append, Nat.reduceAdd]
  have ha := advM_spec w.r
  have e : advM w.r = (rkZ, 0, 0, 12) := by unfold advM; rw [if_neg (by simp [h.rk]), if_pos hr]
  rw [e] at ha
  obtain ⟨k0, k1⟩ := h.dd.kind
  have d0 : decide (d.kind % 7 = 0) = true := decide_eq_true hk
  refine FnS.of_bodyM (enters_of Tryz.func25 (by kernel_rfl) rfl) Tryz.func25 rfl Tryz.ntmps25 Tryz.results25 rfl (by first | rfl | (simp only [wfRes, wfL, wfArgs, wfs, mpO_namesB, mpO_namesI]; rfl)) rfl fun E => ?_
  refine vc_retL ?_
  repeat' (first | (show VR _ _ _ (_ :: _) _ _ _; first | refine x_opF rfl (by first | exact True.intro | omega) ?_ | (show VR _ _ _ (⟨_, .call ⟨.value _, _, _⟩, _, _, _, _⟩ :: _) _ _ _; first | refine vr_calldU (ha) (gk rfl) rfl rfl rfl (by first | rfl | (simp only [wfRes, wfL, wfArgs, wfs, mpO_namesB, mpO_namesI]; rfl)) rfl (by first | exact newB_nil | exact newB_O | ((simp only [newB, List.map_cons, List.map_nil, Blk.shift, rowOf_shift]) <;> rfl) | rfl) rfl ?_)) | (show VR _ _ _ [] _ _ _; first | refine vr_nil ?_) | (show thenQ _ _ _ _; first | refine q_then_n ?_ | refine q_then_r ?_) | (show blockQ _ _ _ _; first | refine q_blk_r ?_) | refine vc_seq ?_ | refine vc_region ?_ | (show VC _ (.cond _ _ _) _ _; first | refine vc_cond_t rfl ?_ | refine x_know rfl (by assumption) ?_) | refine vc_ret ?_ | refine vc_block ?_)
  refine retL_of (le_gen0 (l := [(10, .c (.ptr 10 0)), (11, AD (.str ⟨#[]⟩)), (12, AB true)]) (b := [(9101, .pin 101 (r 101)), (10, .box (wkC w)), (101, .row 9 1 (rowOf encS said))]) (fun n => n) ?_ ?_ rfl (by first | rfl | (simp only [wfL, wfs, mpO_namesB, mpO_namesI]; rfl))) (retW isRet_r (.agg rfl rfl rfl rfl (.tmp rfl rfl (.tmp rfl rfl .nil))) rfl (by repeat' (first | exact trivial | refine ⟨rfl, ?_⟩)))
  all_goals repeat' (first | exact trivial | refine ⟨⟨_, rfl, ?_⟩, ?_⟩ | exact .c .d | exact .c (.ptr rfl) | exact .boxD rfl rfl | exact .pin rfl | exact .rowD rfl rowOf_isD)
set_option maxHeartbeats 2000000 in
theorem does0_some (w : Wk) (d : Dd) (said : List Sd) (slot m : Int) (h : DoesOK w d said slot m) (hk : d.kind % 7 = 0) (hr : w.r.rank ≠ 65535) : FnW Tryz.prog 25 [wkA w, ddA d, .c (.row 101 said.length), AI slot, AI m] [(101, .row 9 1 (rowOf encS said))] [101] (.tup [wkA ⟨(advM w.r).1, w.l⟩, AD (.str (sayB (sayOf w slot))), AB true]) [(101, .row 9 1 (rowOf encS said))] := by
  intro r
  simp only [pinsL, List.map_cons, List.map_nil, List.cons_append, List.nil_append, Nat.reduceAdd]
  have ha := advM_spec w.r
  obtain ⟨e1, _, e2, e3, e4, _⟩ := adv_rk h.rk hr
  obtain ⟨⟨n0, n1⟩, _⟩ := rk_range h.rk
  obtain ⟨k0, k1⟩ := h.dd.kind
  have hs := h.slot
  have hn := announced_spec w.r.node.toNat w.r.epoch.toNat w.r.rank.toNat slot.toNat w.r.parent w.r.heard w.r.least (by omega) (by omega) (by omega) (by omega)
  rw [Int.toNat_of_nonneg n0, Int.toNat_of_nonneg (by omega : 0 <= w.r.epoch), Int.toNat_of_nonneg e3, Int.toNat_of_nonneg hs.1] at hn
  have d0 : decide (d.kind % 7 = 0) = true := decide_eq_true hk
  have hS : sayS w.r.node.toNat slot.toNat w.r.rank.toNat w.r.epoch.toNat = sayB (sayOf w slot) := rfl
  rw [hS] at hn
  clear hS
  generalize sayB (sayOf w slot) = S at *
  rw [e1] at ha
  generalize (advM w.r).2.1 = x1 at *
  generalize (advM w.r).2.2.1 = x2 at *
  generalize (advM w.r).1 = r2 at *
  refine FnS.of_bodyM (enters_of Tryz.func25 (by kernel_rfl) rfl) Tryz.func25 rfl Tryz.ntmps25 Tryz.results25 rfl (by first | rfl | (simp only [wfRes, wfL, wfArgs, wfs, mpO_namesB, mpO_namesI]; rfl)) rfl fun E => ?_
  refine vc_retL ?_
  repeat' (first | (show VR _ _ _ (_ :: _) _ _ _; first | refine x_opF rfl (by first | exact True.intro | omega) ?_ | (show VR _ _ _ (⟨_, .call ⟨.value _, _, _⟩, _, _, _, _⟩ :: _) _ _ _; first | refine vr_calldU (ha) (gk rfl) rfl rfl rfl (by first | rfl | (simp only [wfRes, wfL, wfArgs, wfs, mpO_namesB, mpO_namesI]; rfl)) rfl (by first | exact newB_nil | exact newB_O | ((simp only [newB, List.map_cons, List.map_nil, Blk.shift, rowOf_shift]) <;> rfl) | rfl) rfl ?_ | refine vr_calldU (hn) (gk rfl) rfl rfl rfl (by first | rfl | (simp only [wfRes, wfL, wfArgs, wfs, mpO_namesB, mpO_namesI]; rfl)) rfl (by first | exact newB_nil | exact newB_O | ((simp only [newB, List.map_cons, List.map_nil, Blk.shift, rowOf_shift]) <;> rfl) | rfl) rfl ?_)) | (show VR _ _ _ [] _ _ _; first | refine vr_nil ?_) | (show thenQ _ _ _ _; first | refine q_then_n ?_ | refine q_then_r ?_) | (show blockQ _ _ _ _; first | refine q_blk_r ?_) | refine vc_seq ?_ | refine vc_region ?_ | (show VC _ (.cond _ _ _) _ _; first | refine vc_cond_t rfl ?_ | refine vc_cond_f rfl ?_ | refine x_know rfl (by assumption) ?_) | refine vc_ret ?_ | refine vc_block ?_ | refine vc_skip ?_)
  refine retL_of (le_gen0 (l := [(10, .c (.ptr 10 0)), (11, AD (.str S)), (12, AB true)]) (b := [(9101, .pin 101 (r 101)), (10, .box (wkC ⟨r2, w.l⟩)), (101, .row 9 1 (rowOf encS said))]) (fun n => n) ?_ ?_ rfl (by first | rfl | (simp only [wfL, wfs, mpO_namesB, mpO_namesI]; rfl))) (retW isRet_r (.agg rfl rfl rfl rfl (.tmp rfl rfl (.tmp rfl rfl .nil))) rfl (by repeat' (first | exact trivial | refine ⟨rfl, ?_⟩)))
  all_goals repeat' (first | exact trivial | refine ⟨⟨_, rfl, ?_⟩, ?_⟩ | exact .c .d | exact .c (.ptr rfl) | exact .boxD rfl rfl | exact .pin rfl | exact .rowD rfl rowOf_isD)
set_option maxHeartbeats 2000000 in
theorem does1_empty (w : Wk) (d : Dd) (said : List Sd) (slot m : Int) (h : DoesOK w d said slot m) (hk : d.kind % 7 = 1) (hr : said.length = 0) : FnW Tryz.prog 25 [wkA w, ddA d, .c (.row 101 said.length), AI slot, AI m] [(101, .row 9 1 (rowOf encS said))] [101] (.tup [wkA w, AD (.str ⟨#[]⟩), AB true]) [(101, .row 9 1 (rowOf encS said))] := by
  intro r
  simp only [pinsL, List.map_cons, List.map_nil, List.cons_append, List.nil_append, Nat.reduceAdd]
  obtain ⟨k0, k1⟩ := h.dd.kind
  have d0 : decide (d.kind % 7 = 0) = false := decide_eq_false (by omega)
  have d1 : decide (d.kind % 7 = 1) = true := decide_eq_true hk
  have d2 : decide ((said.length : Int) = 0) = true := decide_eq_true (by omega)
  refine FnS.of_bodyM (enters_of Tryz.func25 (by kernel_rfl) rfl) Tryz.func25 rfl Tryz.ntmps25 Tryz.results25 rfl (by first | rfl | (simp only [wfRes, wfL, wfArgs, wfs, mpO_namesB, mpO_namesI]; rfl)) rfl fun E => ?_
  refine vc_retL ?_
  repeat' (first | (show VR _ _ _ (_ :: _) _ _ _; first | refine x_opF rfl (by first | exact True.intro | omega) ?_ | (show VR _ _ _ (⟨_, .call ⟨.builtin .len, _, _⟩, _, _, _, _⟩ :: _) _ _ _; first | refine vr_len_row (gk rfl) rfl rfl (by first | rfl | exact rowOf_length.symm | (simp only [lns] <;> omega)) rfl rfl ?_)) | (show VR _ _ _ [] _ _ _; first | refine vr_nil ?_) | (show thenQ _ _ _ _; first | refine q_then_n ?_ | refine q_then_r ?_) | (show blockQ _ _ _ _; first | refine q_blk_r ?_) | refine vc_seq ?_ | refine vc_region ?_ | (show VC _ (.cond _ _ _) _ _; first | refine vc_cond_t rfl ?_ | refine vc_cond_f rfl ?_ | refine x_know rfl (by assumption) ?_) | refine vc_ret ?_ | refine vc_block ?_)
  refine retL_of (le_gen0 (l := [(10, .c (.ptr 10 0)), (11, AD (.str ⟨#[]⟩)), (12, AB true)]) (b := [(9101, .pin 101 (r 101)), (10, .box (wkC w)), (101, .row 9 1 (rowOf encS said))]) (fun n => n) ?_ ?_ rfl (by first | rfl | (simp only [wfL, wfs, mpO_namesB, mpO_namesI]; rfl))) (retW isRet_r (.agg rfl rfl rfl rfl (.tmp rfl rfl (.tmp rfl rfl .nil))) rfl (by repeat' (first | exact trivial | refine ⟨rfl, ?_⟩)))
  all_goals repeat' (first | exact trivial | refine ⟨⟨_, rfl, ?_⟩, ?_⟩ | exact .c .d | exact .c (.ptr rfl) | exact .boxD rfl rfl | exact .pin rfl | exact .rowD rfl rowOf_isD)
set_option maxHeartbeats 2000000 in
theorem does1_run (w : Wk) (d : Dd) (said : List Sd) (slot m : Int) (h : DoesOK w d said slot m) (hk : d.kind % 7 = 1) (hr : said.length ≠ 0) (w2 : Wk) (hc : FnS Tryz.prog 71 [wkA w, AD (.str (sayB (saidD said d.which))), AI slot, AI m] [] (.tup [wkA w2, AB true]) []) :
    FnW Tryz.prog 25 [wkA w, ddA d, .c (.row 101 said.length), AI slot, AI m] [(101, .row 9 1 (rowOf encS said))] [101] (.tup [wkA w2, AD (.str ⟨#[]⟩), AB true]) [(101, .row 9 1 (rowOf encS said))] := by
  intro r
  simp only [pinsL, List.map_cons, List.map_nil, List.cons_append, List.nil_append, Nat.reduceAdd]
  obtain ⟨k0, k1⟩ := h.dd.kind
  obtain ⟨w0, w1⟩ := h.dd.which
  have hl := h.len
  have d0 : decide (d.kind % 7 = 0) = false := decide_eq_false (by omega)
  have d1 : decide (d.kind % 7 = 1) = true := decide_eq_true hk
  have d2 : decide ((said.length : Int) = 0) = false := decide_eq_false (by omega)
  have hj0 : 0 <= d.which % (said.length : Int) := Int.emod_nonneg _ (by omega)
  have hj1 : d.which % (said.length : Int) < (said.length : Int) := Int.emod_lt_of_pos _ (by omega)
  unfold saidD at hc
  refine FnS.of_bodyM (enters_of Tryz.func25 (by kernel_rfl) rfl) Tryz.func25 rfl Tryz.ntmps25 Tryz.results25 rfl (by first | rfl | (simp only [wfRes, wfL, wfArgs, wfs, mpO_namesB, mpO_namesI]; rfl)) rfl fun E => ?_
  refine vc_retL ?_
  repeat' (first | (show VR _ _ _ (_ :: _) _ _ _; first | refine x_opF rfl (by first | exact True.intro | omega) ?_ | (show VR _ _ _ (⟨_, .call ⟨.value _, _, _⟩, _, _, _, _⟩ :: _) _ _ _; first | refine vr_calldU (hc) (gk rfl) rfl rfl rfl (by first | rfl | (simp only [wfRes, wfL, wfArgs, wfs, mpO_namesB, mpO_namesI]; rfl)) rfl (by first | exact newB_nil | exact newB_O | ((simp only [newB, List.map_cons, List.map_nil, Blk.shift, rowOf_shift]) <;> rfl) | rfl) rfl ?_) | (show VR _ _ _ (⟨_, .indexAddr _ _ _, _, _, _, _⟩ :: _) _ _ _; first | refine vr_index_rowN (gk rfl) rfl rfl rfl rfl rfl (by omega) (by first | rfl | exact rowOf_length.symm | (simp only [lns] <;> omega)) rfl ?_) | (show VR _ _ _ (⟨_, .call ⟨.builtin .len, _, _⟩, _, _, _, _⟩ :: _) _ _ _; first | refine vr_len_row (gk rfl) rfl rfl (by first | rfl | exact rowOf_length.symm | (simp only [lns] <;> omega)) rfl rfl ?_) | (show VR _ _ _ (⟨_, .load _ _, _, _, _, _⟩ :: _) _ _ _; first | refine vr_load_rowO (gk rfl) rfl rfl (by omega) rfl rfl rfl ?_) | (show VR _ _ _ (⟨_, .convert _ _ _, _, _, _, _⟩ :: _) _ _ _; first | refine vr_convert_id (gk rfl) rfl ⟨_, rfl⟩ rfl (by first | exact wrap_i64 (by omega) | exact wrap_u64 (by omega) | exact wrap_u16 (by omega) | exact wrap_u8 (by omega) | exact wrap_u32 (by omega)) rfl ?_)) | (show VR _ _ _ [] _ _ _; first | refine vr_nil ?_ | refine vr_nil_t (by kernel_rfl) ?_) | (show thenQ _ _ _ _; first | refine q_then_n ?_ | refine q_then_r ?_) | (show blockQ _ _ _ _; first | refine q_blk_r ?_) | refine vc_seq ?_ | refine vc_region ?_ | refine vc_region_t ?_ | (show VC _ (.cond _ _ _) _ _; first | refine vc_cond_t rfl ?_ | refine vc_cond_f rfl ?_ | refine x_know rfl (by assumption) ?_) | refine vc_ret ?_ | refine vc_block ?_ | refine vc_skip ?_)
  refine retL_of (le_gen0 (l := [(10, .c (.ptr 10 0)), (11, AD (.str ⟨#[]⟩)), (12, AB true)]) (b := [(9101, .pin 101 (r 101)), (10, .box (wkC w2)), (101, .row 9 1 (rowOf encS said))]) (fun n => n) ?_ ?_ rfl (by first | rfl | (simp only [wfL, wfs, mpO_namesB, mpO_namesI]; rfl))) (retW isRet_r (.agg rfl rfl rfl rfl (.tmp rfl rfl (.tmp rfl rfl .nil))) rfl (by repeat' (first | exact trivial | refine ⟨rfl, ?_⟩)))
  all_goals repeat' (first | exact trivial | refine ⟨⟨_, rfl, ?_⟩, ?_⟩ | exact .c .d | exact .c (.ptr rfl) | exact .boxD rfl rfl | exact .pin rfl | exact .rowD rfl rowOf_isD)
set_option maxHeartbeats 2000000 in
theorem does2_none (w : Wk) (d : Dd) (said : List Sd) (slot m : Int) (h : DoesOK w d said slot m) (hk : d.kind % 7 = 2 \/ d.kind % 7 = 3) (hf : foundNb w.l (d.which % 8) = false) : FnW Tryz.prog 25 [wkA w, ddA d, .c (.row 101 said.length), AI slot, AI m] [(101, .row 9 1 (rowOf encS said))] [101] (.tup [wkA w, AD (.str ⟨#[]⟩), AB true]) [(101, .row 9 1 (rowOf encS said))] := by
  intro r
  simp only [pinsL, List.map_cons, List.map_nil, List.cons_append, List.nil_append, Nat.reduceAdd]
  obtain ⟨k0, k1⟩ := h.dd.kind
  obtain ⟨w0, w1⟩ := h.dd.which
  have d0 : decide (d.kind % 7 = 0) = false := decide_eq_false (by omega)
  have d1 : decide (d.kind % 7 = 1) = false := decide_eq_false (by omega)
  have hc := fun b => count_spec w.l (d.which % 8) b
  have e : ∀ b, countM w.l (d.which % 8) b = ([], 7) := fun b => by unfold countM; rw [if_neg (by simp [h.nb]), if_pos hf]
  simp only [e] at hc
  rcases hk with hk | hk
  · have d2 : decide (d.kind % 7 = 2) = true := decide_eq_true hk
    refine FnS.of_bodyM (enters_of Tryz.func25 (by kernel_rfl) rfl) Tryz.func25 rfl Tryz.ntmps25 Tryz.results25 rfl (by first | rfl | (simp only [wfRes, wfL, wfArgs, wfs, mpO_namesB, mpO_namesI]; rfl)) rfl fun E => ?_
    refine vc_retL ?_
    repeat' (first | (show VR _ _ _ (_ :: _) _ _ _; first | refine x_opF rfl (by first | exact True.intro | omega) ?_ | (show VR _ _ _ (⟨_, .call ⟨.value _, _, _⟩, _, _, _, _⟩ :: _) _ _ _; first | refine vr_calldU (hc _) (gk rfl) rfl rfl rfl (by first | rfl | (simp only [wfRes, wfL, wfArgs, wfs, mpO_namesB, mpO_namesI]; rfl)) rfl (by first | exact newB_nil | exact newB_O | ((simp only [newB, List.map_cons, List.map_nil, Blk.shift, rowOf_shift]) <;> rfl) | rfl) rfl ?_) | (show VR _ _ _ (⟨_, .convert _ _ _, _, _, _, _⟩ :: _) _ _ _; first | refine vr_convert_id (gk rfl) rfl ⟨_, rfl⟩ rfl (by first | exact wrap_i64 (by omega) | exact wrap_u64 (by omega) | exact wrap_u16 (by omega) | exact wrap_u8 (by omega) | exact wrap_u32 (by omega)) rfl ?_)) | (show VR _ _ _ [] _ _ _; first | refine vr_nil ?_) | (show thenQ _ _ _ _; first | refine q_then_n ?_ | refine q_then_r ?_) | (show blockQ _ _ _ _; first | refine q_blk_r ?_) | refine vc_seq ?_ | refine vc_region ?_ | (show VC _ (.cond _ _ _) _ _; first | refine vc_cond_t rfl ?_ | refine vc_cond_f rfl ?_ | refine x_know rfl (by assumption) ?_) | refine vc_ret ?_ | refine vc_block ?_ | refine vc_skip ?_)
    refine retL_of (le_gen0 (l := [(10, .c (.ptr 10 0)), (11, AD (.str ⟨#[]⟩)), (12, AB true)]) (b := [(9101, .pin 101 (r 101)), (10, .box (wkC w)), (101, .row 9 1 (rowOf encS said))]) (fun n => n) ?_ ?_ rfl (by first | rfl | (simp only [wfL, wfs, mpO_namesB, mpO_namesI]; rfl))) (retW isRet_r (.agg rfl rfl rfl rfl (.tmp rfl rfl (.tmp rfl rfl .nil))) rfl (by repeat' (first | exact trivial | refine ⟨rfl, ?_⟩)))
    all_goals repeat' (first | exact trivial | refine ⟨⟨_, rfl, ?_⟩, ?_⟩ | exact .c .d | exact .c (.ptr rfl) | exact .boxD rfl rfl | exact .pin rfl | exact .rowD rfl rowOf_isD)
  · have d2 : decide (d.kind % 7 = 2) = false := decide_eq_false (by omega)
    have d3 : decide (d.kind % 7 = 3) = true := decide_eq_true hk
    refine FnS.of_bodyM (enters_of Tryz.func25 (by kernel_rfl) rfl) Tryz.func25 rfl Tryz.ntmps25 Tryz.results25 rfl (by first | rfl | (simp only [wfRes, wfL, wfArgs, wfs, mpO_namesB, mpO_namesI]; rfl)) rfl fun E => ?_
    refine vc_retL ?_
    repeat' (first | (show VR _ _ _ (_ :: _) _ _ _; first | refine x_opF rfl (by first | exact True.intro | omega) ?_ | (show VR _ _ _ (⟨_, .call ⟨.value _, _, _⟩, _, _, _, _⟩ :: _) _ _ _; first | refine vr_calldU (hc _) (gk rfl) rfl rfl rfl (by first | rfl | (simp only [wfRes, wfL, wfArgs, wfs, mpO_namesB, mpO_namesI]; rfl)) rfl (by first | exact newB_nil | exact newB_O | ((simp only [newB, List.map_cons, List.map_nil, Blk.shift, rowOf_shift]) <;> rfl) | rfl) rfl ?_) | (show VR _ _ _ (⟨_, .convert _ _ _, _, _, _, _⟩ :: _) _ _ _; first | refine vr_convert_id (gk rfl) rfl ⟨_, rfl⟩ rfl (by first | exact wrap_i64 (by omega) | exact wrap_u64 (by omega) | exact wrap_u16 (by omega) | exact wrap_u8 (by omega) | exact wrap_u32 (by omega)) rfl ?_)) | (show VR _ _ _ [] _ _ _; first | refine vr_nil ?_) | (show thenQ _ _ _ _; first | refine q_then_n ?_ | refine q_then_r ?_) | (show blockQ _ _ _ _; first | refine q_blk_r ?_) | refine vc_seq ?_ | refine vc_region ?_ | (show VC _ (.cond _ _ _) _ _; first | refine vc_cond_t rfl ?_ | refine vc_cond_f rfl ?_ | refine x_know rfl (by assumption) ?_) | refine vc_ret ?_ | refine vc_block ?_)
    refine retL_of (le_gen0 (l := [(10, .c (.ptr 10 0)), (11, AD (.str ⟨#[]⟩)), (12, AB true)]) (b := [(9101, .pin 101 (r 101)), (10, .box (wkC w)), (101, .row 9 1 (rowOf encS said))]) (fun n => n) ?_ ?_ rfl (by first | rfl | (simp only [wfL, wfs, mpO_namesB, mpO_namesI]; rfl))) (retW isRet_r (.agg rfl rfl rfl rfl (.tmp rfl rfl (.tmp rfl rfl .nil))) rfl (by repeat' (first | exact trivial | refine ⟨rfl, ?_⟩)))
    all_goals repeat' (first | exact trivial | refine ⟨⟨_, rfl, ?_⟩, ?_⟩ | exact .c .d | exact .c (.ptr rfl) | exact .boxD rfl rfl | exact .pin rfl | exact .rowD rfl rowOf_isD)
set_option maxHeartbeats 2000000 in
theorem does2_some (w : Wk) (d : Dd) (said : List Sd) (slot m : Int) (h : DoesOK w d said slot m) (hk : d.kind % 7 = 2 \/ d.kind % 7 = 3) (hf : foundNb w.l (d.which % 8) = true)
    (hse : (select' (w.l.set (bsNb w.l (d.which % 8)) (cnt (w.l.getD (bsNb w.l (d.which % 8)) default) (decide (d.kind % 7 = 2)))) w.r m).2.2 = 0) :
    FnW Tryz.prog 25 [wkA w, ddA d, .c (.row 101 said.length), AI slot, AI m] [(101, .row 9 1 (rowOf encS said))] [101] (.tup [wkA (selW ⟨w.r, w.l.set (bsNb w.l (d.which % 8)) (cnt (w.l.getD (bsNb w.l (d.which % 8)) default) (decide (d.kind % 7 = 2)))⟩ m), AD (.str ⟨#[]⟩), AB true]) [(101, .row 9 1 (rowOf encS said))] := by
  intro r
  simp only [pinsL, List.map_cons, List.map_nil, List.cons_append, List.nil_append, Nat.reduceAdd]
  obtain ⟨k0, k1⟩ := h.dd.kind
  obtain ⟨w0, w1⟩ := h.dd.which
  have d0 : decide (d.kind % 7 = 0) = false := decide_eq_false (by omega)
  have d1 : decide (d.kind % 7 = 1) = false := decide_eq_false (by omega)
  have hc := count_spec w.l (d.which % 8) (decide (d.kind % 7 = 2))
  have e : countM w.l (d.which % 8) (decide (d.kind % 7 = 2)) = (w.l.set (bsNb w.l (d.which % 8)) (cnt (w.l.getD (bsNb w.l (d.which % 8)) default) (decide (d.kind % 7 = 2))), 0) := by unfold countM; rw [if_neg (by simp [h.nb]), if_neg (by simp [hf])]
  rw [e] at hc
  generalize w.l.set (bsNb w.l (d.which % 8)) (cnt (w.l.getD (bsNb w.l (d.which % 8)) default) (decide (d.kind % 7 = 2))) = l2 at *
  have hsel := selects_spec ⟨w.r, l2⟩ m
  dsimp only at hsel
  rw [hse] at hsel
  generalize selW ⟨w.r, l2⟩ m = w2 at *
  rcases hk with hk | hk
  · have d2 : decide (d.kind % 7 = 2) = true := decide_eq_true hk
    refine FnS.of_bodyM (enters_of Tryz.func25 (by kernel_rfl) rfl) Tryz.func25 rfl Tryz.ntmps25 Tryz.results25 rfl (by first | rfl | (simp only [wfRes, wfL, wfArgs, wfs, mpO_namesB, mpO_namesI]; rfl)) rfl fun E => ?_
    refine vc_retL ?_
    repeat' (first | (show VR _ _ _ (_ :: _) _ _ _; first | refine x_opF rfl (by first | exact True.intro | omega) ?_ | (show VR _ _ _ (⟨_, .call ⟨.value _, _, _⟩, _, _, _, _⟩ :: _) _ _ _; first | refine vr_calldU (hc) (gk rfl) rfl rfl rfl (by first | rfl | (simp only [wfRes, wfL, wfArgs, wfs, mpO_namesB, mpO_namesI]; rfl)) rfl (by first | exact newB_nil | exact newB_O | ((simp only [newB, List.map_cons, List.map_nil, Blk.shift, rowOf_shift]) <;> rfl) | rfl) rfl ?_ | refine vr_calldU (hsel) (gk rfl) rfl rfl rfl (by first | rfl | (simp only [wfRes, wfL, wfArgs, wfs, mpO_namesB, mpO_namesI]; rfl)) rfl (by first | exact newB_nil | exact newB_O | ((simp only [newB, List.map_cons, List.map_nil, Blk.shift, rowOf_shift]) <;> rfl) | rfl) rfl ?_) | (show VR _ _ _ (⟨_, .convert _ _ _, _, _, _, _⟩ :: _) _ _ _; first | refine vr_convert_id (gk rfl) rfl ⟨_, rfl⟩ rfl (by first | exact wrap_i64 (by omega) | exact wrap_u64 (by omega) | exact wrap_u16 (by omega) | exact wrap_u8 (by omega) | exact wrap_u32 (by omega)) rfl ?_)) | (show VR _ _ _ [] _ _ _; first | refine vr_nil ?_) | (show thenQ _ _ _ _; first | refine q_then_n ?_) | (show blockQ _ _ _ _; first | refine q_blk_n ?_) | refine vc_seq ?_ | refine vc_region ?_ | (show VC _ (.cond _ _ _) _ _; first | refine vc_cond_t rfl ?_ | refine vc_cond_f rfl ?_ | refine x_know rfl (by assumption) ?_) | refine vc_ret ?_ | refine vc_block ?_ | refine vc_skip ?_)
    refine retL_of (le_gen0 (l := [(10, .c (.ptr 10 0)), (11, AD (.str ⟨#[]⟩)), (12, AB true)]) (b := [(9101, .pin 101 (r 101)), (10, .box (wkC w2)), (101, .row 9 1 (rowOf encS said))]) (fun n => n) ?_ ?_ rfl (by first | rfl | (simp only [wfL, wfs, mpO_namesB, mpO_namesI]; rfl))) (retW isRet_r (.agg rfl rfl rfl rfl (.tmp rfl rfl (.tmp rfl rfl .nil))) rfl (by repeat' (first | exact trivial | refine ⟨rfl, ?_⟩)))
    all_goals repeat' (first | exact trivial | refine ⟨⟨_, rfl, ?_⟩, ?_⟩ | exact .c .d | exact .c (.ptr rfl) | exact .boxD rfl rfl | exact .pin rfl | exact .rowD rfl rowOf_isD)
  · have d2 : decide (d.kind % 7 = 2) = false := decide_eq_false (by omega)
    have d3 : decide (d.kind % 7 = 3) = true := decide_eq_true hk
    refine FnS.of_bodyM (enters_of Tryz.func25 (by kernel_rfl) rfl) Tryz.func25 rfl Tryz.ntmps25 Tryz.results25 rfl (by first | rfl | (simp only [wfRes, wfL, wfArgs, wfs, mpO_namesB, mpO_namesI]; rfl)) rfl fun E => ?_
    refine vc_retL ?_
    repeat' (first | (show VR _ _ _ (_ :: _) _ _ _; first | refine x_opF rfl (by first | exact True.intro | omega) ?_ | (show VR _ _ _ (⟨_, .call ⟨.value _, _, _⟩, _, _, _, _⟩ :: _) _ _ _; first | refine vr_calldU (hc) (gk rfl) rfl rfl rfl (by first | rfl | (simp only [wfRes, wfL, wfArgs, wfs, mpO_namesB, mpO_namesI]; rfl)) rfl (by first | exact newB_nil | exact newB_O | ((simp only [newB, List.map_cons, List.map_nil, Blk.shift, rowOf_shift]) <;> rfl) | rfl) rfl ?_ | refine vr_calldU (hsel) (gk rfl) rfl rfl rfl (by first | rfl | (simp only [wfRes, wfL, wfArgs, wfs, mpO_namesB, mpO_namesI]; rfl)) rfl (by first | exact newB_nil | exact newB_O | ((simp only [newB, List.map_cons, List.map_nil, Blk.shift, rowOf_shift]) <;> rfl) | rfl) rfl ?_) | (show VR _ _ _ (⟨_, .convert _ _ _, _, _, _, _⟩ :: _) _ _ _; first | refine vr_convert_id (gk rfl) rfl ⟨_, rfl⟩ rfl (by first | exact wrap_i64 (by omega) | exact wrap_u64 (by omega) | exact wrap_u16 (by omega) | exact wrap_u8 (by omega) | exact wrap_u32 (by omega)) rfl ?_)) | (show VR _ _ _ [] _ _ _; first | refine vr_nil ?_) | (show thenQ _ _ _ _; first | refine q_then_n ?_) | (show blockQ _ _ _ _; first | refine q_blk_n ?_) | refine vc_seq ?_ | refine vc_region ?_ | (show VC _ (.cond _ _ _) _ _; first | refine vc_cond_t rfl ?_ | refine vc_cond_f rfl ?_ | refine x_know rfl (by assumption) ?_) | refine vc_ret ?_ | refine vc_block ?_ | refine vc_skip ?_)
    refine retL_of (le_gen0 (l := [(10, .c (.ptr 10 0)), (11, AD (.str ⟨#[]⟩)), (12, AB true)]) (b := [(9101, .pin 101 (r 101)), (10, .box (wkC w2)), (101, .row 9 1 (rowOf encS said))]) (fun n => n) ?_ ?_ rfl (by first | rfl | (simp only [wfL, wfs, mpO_namesB, mpO_namesI]; rfl))) (retW isRet_r (.agg rfl rfl rfl rfl (.tmp rfl rfl (.tmp rfl rfl .nil))) rfl (by repeat' (first | exact trivial | refine ⟨rfl, ?_⟩)))
    all_goals repeat' (first | exact trivial | refine ⟨⟨_, rfl, ?_⟩, ?_⟩ | exact .c .d | exact .c (.ptr rfl) | exact .boxD rfl rfl | exact .pin rfl | exact .rowD rfl rowOf_isD)
set_option maxHeartbeats 2000000 in
theorem does4 (w : Wk) (d : Dd) (said : List Sd) (slot m : Int) (h : DoesOK w d said slot m) (hk : d.kind % 7 = 4) (hse : (select' (kept w.l slot (1 + d.which % 20)) w.r m).2.2 = 0) :
    FnW Tryz.prog 25 [wkA w, ddA d, .c (.row 101 said.length), AI slot, AI m] [(101, .row 9 1 (rowOf encS said))] [101] (.tup [wkA (selW ⟨w.r, kept w.l slot (1 + d.which % 20)⟩ m), AD (.str ⟨#[]⟩), AB true]) [(101, .row 9 1 (rowOf encS said))] := by
  intro r
  simp only [pinsL, List.map_cons, List.map_nil, List.cons_append, List.nil_append, Nat.reduceAdd]
  obtain ⟨k0, k1⟩ := h.dd.kind
  obtain ⟨w0, w1⟩ := h.dd.which
  have hs := h.slot
  have d0 : decide (d.kind % 7 = 0) = false := decide_eq_false (by omega)
  have d1 : decide (d.kind % 7 = 1) = false := decide_eq_false (by omega)
  have d2 : decide (d.kind % 7 = 2) = false := decide_eq_false (by omega)
  have d3 : decide (d.kind % 7 = 3) = false := decide_eq_false (by omega)
  have d4 : decide (d.kind % 7 = 4) = true := decide_eq_true hk
  have hc := forget_spec w.l slot (1 + d.which % 20)
  unfold forgetM at hc
  rw [if_pos ⟨h.nb, hs.1, by omega⟩] at hc
  generalize kept w.l slot (1 + d.which % 20) = l2 at *
  have hsel := selects_spec ⟨w.r, l2⟩ m
  dsimp only at hsel
  rw [hse] at hsel
  generalize selW ⟨w.r, l2⟩ m = w2 at *
  refine FnS.of_bodyM (enters_of Tryz.func25 (by kernel_rfl) rfl) Tryz.func25 rfl Tryz.ntmps25 Tryz.results25 rfl (by first | rfl | (simp only [wfRes, wfL, wfArgs, wfs, mpO_namesB, mpO_namesI]; rfl)) rfl fun E => ?_
  refine vc_retL ?_
  repeat' (first | (show VR _ _ _ (_ :: _) _ _ _; first | refine x_opF rfl (by first | exact True.intro | omega) ?_ | (show VR _ _ _ (⟨_, .call ⟨.value _, _, _⟩, _, _, _, _⟩ :: _) _ _ _; first | refine vr_calldU (hc) (gk rfl) rfl rfl rfl (by first | rfl | (simp only [wfRes, wfL, wfArgs, wfs, mpO_namesB, mpO_namesI]; rfl)) rfl (by first | exact newB_nil | exact newB_O | ((simp only [newB, List.map_cons, List.map_nil, Blk.shift, rowOf_shift]) <;> rfl) | rfl) rfl ?_ | refine vr_calldU (hsel) (gk rfl) rfl rfl rfl (by first | rfl | (simp only [wfRes, wfL, wfArgs, wfs, mpO_namesB, mpO_namesI]; rfl)) rfl (by first | exact newB_nil | exact newB_O | ((simp only [newB, List.map_cons, List.map_nil, Blk.shift, rowOf_shift]) <;> rfl) | rfl) rfl ?_) | (show VR _ _ _ (⟨_, .convert _ _ _, _, _, _, _⟩ :: _) _ _ _; first | refine vr_convert_id (gk rfl) rfl ⟨_, rfl⟩ rfl (by first | exact wrap_i64 (by omega) | exact wrap_u64 (by omega) | exact wrap_u16 (by omega) | exact wrap_u8 (by omega) | exact wrap_u32 (by omega)) rfl ?_)) | (show VR _ _ _ [] _ _ _; first | refine vr_nil ?_) | (show thenQ _ _ _ _; first | refine q_then_n ?_) | (show blockQ _ _ _ _; first | refine q_blk_n ?_) | refine vc_seq ?_ | refine vc_region ?_ | (show VC _ (.cond _ _ _) _ _; first | refine vc_cond_t rfl ?_ | refine vc_cond_f rfl ?_ | refine x_know rfl (by assumption) ?_) | refine vc_ret ?_ | refine vc_block ?_)
  refine retL_of (le_gen0 (l := [(10, .c (.ptr 10 0)), (11, AD (.str ⟨#[]⟩)), (12, AB true)]) (b := [(9101, .pin 101 (r 101)), (10, .box (wkC w2)), (101, .row 9 1 (rowOf encS said))]) (fun n => n) ?_ ?_ rfl (by first | rfl | (simp only [wfL, wfs, mpO_namesB, mpO_namesI]; rfl))) (retW isRet_r (.agg rfl rfl rfl rfl (.tmp rfl rfl (.tmp rfl rfl .nil))) rfl (by repeat' (first | exact trivial | refine ⟨rfl, ?_⟩)))
  all_goals repeat' (first | exact trivial | refine ⟨⟨_, rfl, ?_⟩, ?_⟩ | exact .c .d | exact .c (.ptr rfl) | exact .boxD rfl rfl | exact .pin rfl | exact .rowD rfl rowOf_isD)
set_option maxHeartbeats 2000000 in
theorem does5 (w : Wk) (d : Dd) (said : List Sd) (slot m : Int) (h : DoesOK w d said slot m) (hk : d.kind % 7 = 5) :
    FnW Tryz.prog 25 [wkA w, ddA d, .c (.row 101 said.length), AI slot, AI m] [(101, .row 9 1 (rowOf encS said))] [101] (.tup [wkA ⟨lose' w.r, []⟩, AD (.str ⟨#[]⟩), AB true]) [(101, .row 9 1 (rowOf encS said))] := by
  intro r
  simp only [pinsL, List.map_cons, List.map_nil, List.cons_append, List.nil_append, Nat.reduceAdd]
  obtain ⟨k0, k1⟩ := h.dd.kind
  have d0 : decide (d.kind % 7 = 0) = false := decide_eq_false (by omega)
  have d1 : decide (d.kind % 7 = 1) = false := decide_eq_false (by omega)
  have d2 : decide (d.kind % 7 = 2) = false := decide_eq_false (by omega)
  have d3 : decide (d.kind % 7 = 3) = false := decide_eq_false (by omega)
  have d4 : decide (d.kind % 7 = 4) = false := decide_eq_false (by omega)
  have d5 : decide (d.kind % 7 = 5) = true := decide_eq_true hk
  have hc := restart_spec w.r
  generalize lose' w.r = r2 at *
  refine FnS.of_bodyM (enters_of Tryz.func25 (by kernel_rfl) rfl) Tryz.func25 rfl Tryz.ntmps25 Tryz.results25 rfl (by first | rfl | (simp only [wfRes, wfL, wfArgs, wfs, mpO_namesB, mpO_namesI]; rfl)) rfl fun E => ?_
  refine vc_retL ?_
  repeat' (first | (show VR _ _ _ (_ :: _) _ _ _; first | refine x_opF rfl (by first | exact True.intro | omega) ?_ | (show VR _ _ _ (⟨_, .call ⟨.value _, _, _⟩, _, _, _, _⟩ :: _) _ _ _; first | refine vr_calldU (hc) (gk rfl) rfl rfl rfl (by first | rfl | (simp only [wfRes, wfL, wfArgs, wfs, mpO_namesB, mpO_namesI]; rfl)) rfl (by first | exact newB_nil | exact newB_O | ((simp only [newB, List.map_cons, List.map_nil, Blk.shift, rowOf_shift]) <;> rfl) | rfl) rfl ?_)) | (show VR _ _ _ [] _ _ _; first | refine vr_nil ?_) | (show thenQ _ _ _ _; first | refine q_then_n ?_ | refine q_then_r ?_) | (show blockQ _ _ _ _; first | refine q_blk_r ?_) | refine vc_seq ?_ | refine vc_region ?_ | (show VC _ (.cond _ _ _) _ _; first | refine vc_cond_t rfl ?_ | refine vc_cond_f rfl ?_ | refine x_know rfl (by assumption) ?_) | refine vc_ret ?_ | refine vc_block ?_)
  refine retL_of (le_gen0 (l := [(10, .c (.ptr 10 0)), (11, AD (.str ⟨#[]⟩)), (12, AB true)]) (b := [(9101, .pin 101 (r 101)), (10, .box (wkC ⟨r2, []⟩)), (101, .row 9 1 (rowOf encS said))]) (fun n => n) ?_ ?_ rfl (by first | rfl | (simp only [wfL, wfs, mpO_namesB, mpO_namesI]; rfl))) (retW isRet_r (.agg rfl rfl rfl rfl (.tmp rfl rfl (.tmp rfl rfl .nil))) rfl (by repeat' (first | exact trivial | refine ⟨rfl, ?_⟩)))
  all_goals repeat' (first | exact trivial | refine ⟨⟨_, rfl, ?_⟩, ?_⟩ | exact .c .d | exact .c (.ptr rfl) | exact .pin rfl | exact .rowD rfl rowOf_isD | refine .box ?_ | exact .nil | refine .cons ?_ ?_ | exact .d)
set_option maxHeartbeats 2000000 in
theorem does6 (w : Wk) (d : Dd) (said : List Sd) (slot m : Int) (h : DoesOK w d said slot m) (hk : d.kind % 7 = 6) :
    FnW Tryz.prog 25 [wkA w, ddA d, .c (.row 101 said.length), AI slot, AI m] [(101, .row 9 1 (rowOf encS said))] [101] (.tup [wkA ⟨if (renM w.r).2 = 0 then (renM w.r).1 else w.r, w.l⟩, AD (.str ⟨#[]⟩), AB true]) [(101, .row 9 1 (rowOf encS said))] := by
  intro r
  simp only [pinsL, List.map_cons, List.map_nil, List.cons_append, List.nil_append, Nat.reduceAdd]
  obtain ⟨k0, k1⟩ := h.dd.kind
  have d0 : decide (d.kind % 7 = 0) = false := decide_eq_false (by omega)
  have d1 : decide (d.kind % 7 = 1) = false := decide_eq_false (by omega)
  have d2 : decide (d.kind % 7 = 2) = false := decide_eq_false (by omega)
  have d3 : decide (d.kind % 7 = 3) = false := decide_eq_false (by omega)
  have d4 : decide (d.kind % 7 = 4) = false := decide_eq_false (by omega)
  have d5 : decide (d.kind % 7 = 5) = false := decide_eq_false (by omega)
  have hc := renM_spec w.r
  generalize renM w.r = q at *
  obtain ⟨q1, q2⟩ := q
  by_cases hq0 : q2 = 0
  · rw [if_pos hq0]
    have d6 : decide (q2 = 0) = true := decide_eq_true hq0
    refine FnS.of_bodyM (enters_of Tryz.func25 (by kernel_rfl) rfl) Tryz.func25 rfl Tryz.ntmps25 Tryz.results25 rfl (by first | rfl | (simp only [wfRes, wfL, wfArgs, wfs, mpO_namesB, mpO_namesI]; rfl)) rfl fun E => ?_
    refine vc_retL ?_
    repeat' (first | (show VR _ _ _ (_ :: _) _ _ _; first | refine x_opF rfl (by first | exact True.intro | omega) ?_ | (show VR _ _ _ (⟨_, .call ⟨.value _, _, _⟩, _, _, _, _⟩ :: _) _ _ _; first | refine vr_calldU (hc) (gk rfl) rfl rfl rfl (by first | rfl | (simp only [wfRes, wfL, wfArgs, wfs, mpO_namesB, mpO_namesI]; rfl)) rfl (by first | exact newB_nil | exact newB_O | ((simp only [newB, List.map_cons, List.map_nil, Blk.shift, rowOf_shift]) <;> rfl) | rfl) rfl ?_)) | (show VR _ _ _ [] _ _ _; first | refine vr_nil ?_) | (show thenQ _ _ _ _; first | refine q_then_n ?_ | refine q_then_r ?_) | (show blockQ _ _ _ _; first | refine q_blk_r ?_) | refine vc_seq ?_ | refine vc_region ?_ | (show VC _ (.cond _ _ _) _ _; first | refine vc_cond_t rfl ?_ | refine vc_cond_f rfl ?_ | refine x_know rfl (by assumption) ?_) | refine vc_ret ?_ | refine vc_block ?_)
    refine retL_of (le_gen0 (l := [(10, .c (.ptr 10 0)), (11, AD (.str ⟨#[]⟩)), (12, AB true)]) (b := [(9101, .pin 101 (r 101)), (10, .box (wkC ⟨q1, w.l⟩)), (101, .row 9 1 (rowOf encS said))]) (fun n => n) ?_ ?_ rfl (by first | rfl | (simp only [wfL, wfs, mpO_namesB, mpO_namesI]; rfl))) (retW isRet_r (.agg rfl rfl rfl rfl (.tmp rfl rfl (.tmp rfl rfl .nil))) rfl (by repeat' (first | exact trivial | refine ⟨rfl, ?_⟩)))
    all_goals repeat' (first | exact trivial | refine ⟨⟨_, rfl, ?_⟩, ?_⟩ | exact .c .d | exact .c (.ptr rfl) | exact .boxD rfl rfl | exact .pin rfl | exact .rowD rfl rowOf_isD)
  · rw [if_neg hq0]
    have d6 : decide (q2 = 0) = false := decide_eq_false hq0
    refine FnS.of_bodyM (enters_of Tryz.func25 (by kernel_rfl) rfl) Tryz.func25 rfl Tryz.ntmps25 Tryz.results25 rfl (by first | rfl | (simp only [wfRes, wfL, wfArgs, wfs, mpO_namesB, mpO_namesI]; rfl)) rfl fun E => ?_
    refine vc_retL ?_
    repeat' (first | (show VR _ _ _ (_ :: _) _ _ _; first | refine x_opF rfl (by first | exact True.intro | omega) ?_ | (show VR _ _ _ (⟨_, .call ⟨.value _, _, _⟩, _, _, _, _⟩ :: _) _ _ _; first | refine vr_calldU (hc) (gk rfl) rfl rfl rfl (by first | rfl | (simp only [wfRes, wfL, wfArgs, wfs, mpO_namesB, mpO_namesI]; rfl)) rfl (by first | exact newB_nil | exact newB_O | ((simp only [newB, List.map_cons, List.map_nil, Blk.shift, rowOf_shift]) <;> rfl) | rfl) rfl ?_)) | (show VR _ _ _ [] _ _ _; first | refine vr_nil ?_) | (show thenQ _ _ _ _; first | refine q_then_n ?_ | refine q_then_r ?_) | (show blockQ _ _ _ _; first | refine q_blk_r ?_) | refine vc_seq ?_ | refine vc_region ?_ | (show VC _ (.cond _ _ _) _ _; first | refine vc_cond_f rfl ?_ | refine x_know rfl (by assumption) ?_) | refine vc_ret ?_ | refine vc_block ?_ | refine vc_skip ?_)
    refine retL_of (le_gen0 (l := [(10, .c (.ptr 10 0)), (11, AD (.str ⟨#[]⟩)), (12, AB true)]) (b := [(9101, .pin 101 (r 101)), (10, .box (wkC ⟨w.r, w.l⟩)), (101, .row 9 1 (rowOf encS said))]) (fun n => n) ?_ ?_ rfl (by first | rfl | (simp only [wfL, wfs, mpO_namesB, mpO_namesI]; rfl))) (retW isRet_r (.agg rfl rfl rfl rfl (.tmp rfl rfl (.tmp rfl rfl .nil))) rfl (by repeat' (first | exact trivial | refine ⟨rfl, ?_⟩)))
    all_goals repeat' (first | exact trivial | refine ⟨⟨_, rfl, ?_⟩, ?_⟩ | exact .c .d | exact .c (.ptr rfl) | exact .boxD rfl rfl | exact .pin rfl | exact .rowD rfl rowOf_isD)
end Go.Proofs.R
end
section
namespace Go.Proofs.R
open Go Go.Sx Go.Proofs.P
set_option maxRecDepth 4000
attribute [local irreducible] VR VC thenQ blockQ retL sayS offS
theorem hearM_ok {l : List Nb} {t e k s : Int} (h : checkNb l = 0) (hr : heardB t e k s = true) (hs : ∀ x ∈ l, x.slot <= s) : hearM l t e k s = (hearL l t e k s, 0) := by
  have h0 : 0 <= s := by simp only [heardB, Bool.and_eq_true, inR_t] at hr; omega
  have hx : ¬ s < (hearX l t).slot := by
    unfold hearX
    split
    · rename_i hf
      have := hs _ (getD_mem (found_iff.1 hf).1)
      omega
    · show ¬ s < 0
      omega
  unfold hearM
  rw [if_neg (by simp [h]), if_neg (by simp [hr]), if_neg hx]
theorem does_spec (w : Wk) (d : Dd) (said : List Sd) (slot m : Int) (h : DoesOK w d said slot m) :
    FnW Tryz.prog 25 [wkA w, ddA d, .c (.row 101 said.length), AI slot, AI m] [(101, .row 9 1 (rowOf encS said))] [101] (.tup [wkA (doesM w d said slot m).1, AD (.str (strO (doesM w d said slot m).2)), AB true]) [(101, .row 9 1 (rowOf encS said))] := by
  have hm : 0 <= m /\ m <= 65535 := by have := h.m; omega
  have hs := h.slot
  unfold doesM
  split
  · rename_i hk
    split
    · rename_i hr
      exact does0_none w d said slot m h hk hr
    · rename_i hr
      exact does0_some w d said slot m h hk hr
  split
  · rename_i hk
    split
    · rename_i hr
      exact does1_empty w d said slot m h hk hr
    · rename_i hr
      have hmem : saidD said d.which ∈ said := by
        have h1 := Int.emod_lt_of_pos d.which (show (0 : Int) < said.length by omega)
        have h2 := Int.emod_nonneg d.which (show (said.length : Int) ≠ 0 by omega)
        unfold saidD
        rw [List.getD_eq_getElem?_getD, List.getElem?_eq_getElem (by omega)]
        exact List.getElem_mem _
      have ho := h.sd _ hmem
      split
      · rename_i he
        exact does1_run w d said slot m h hk hr w (heard_same w _ slot m ho he)
      · rename_i he
        have hh : heardB (saidD said d.which).nd (saidD said d.which).ep (saidD said d.which).rk slot = true := by
          have h1 := ho.nd
          have h2 := ho.rk
          have h3 := ho.ep
          simp only [heardB, Bool.and_eq_true, inR_t]
          omega
        exact does1_run w d said slot m h hk hr _ (heard_new w _ slot m ho he (hearM_ok h.nb hh h.sl) (select_from (hear_check h.nb hh) h.rk hm).1)
  split
  · rename_i hk
    split
    · rename_i hf
      exact does2_none w d said slot m h hk hf
    · rename_i hf
      have hf' : foundNb w.l (d.which % 8) = true := by simpa using hf
      exact does2_some w d said slot m h hk hf' (select_from (check_cnt h.nb (found_iff.1 hf').1) h.rk hm).1
  split
  · rename_i hk
    exact does4 w d said slot m h hk (select_from (kept_check h.nb _ _) h.rk hm).1
  split
  · rename_i hk
    exact does5 w d said slot m h hk
  · refine does6 w d said slot m h ?_
    have := Int.emod_lt_of_pos d.kind (show (0 : Int) < 7 by decide)
    have := Int.emod_nonneg d.kind (show (7 : Int) ≠ 0 by decide)
    omega
end Go.Proofs.R
end
section
namespace Go.Proofs.Y
open Go Go.Sx
open Go.Proofs.P Go.Proofs.R
theorem BW.snoc {α : Type} {enc : α -> List D} {σ : St} {f : Nat -> Nat} {L : List Nat} {T sz : Nat} {l : List α} {x : α} {cs : List C} (h : All2 (CW σ f L) cs ((enc x).map C.d)) : BW σ f L (.row T sz (rowOf enc l ++ [cs])) (.row T sz (rowOf enc (l ++ [x]))) := by
  rw [rowOf_append]
  refine .row (All2.append (all2_isD rowOf_isD) ?_)
  exact .cons h .nil
theorem tree_of {L : List Wk} {said : List Sd} {slot : Int} (h : NL L said slot) : Tree (stsL L L.length) := by
  refine ⟨fun i hi => ?_, fun i hi => ?_⟩
  all_goals rw [stsL_len] at hi
  · rw [stsL_at L hi]; exact h.node i hi
  · rw [stsL_at L hi]
    by_cases hp : (L.getD i default).r.parent = -1
    · exact .inl hp
    · obtain ⟨j, hj, hpj, ha⟩ := h.par i hi hp
      refine .inr ⟨j, by rw [stsL_len]; exact hj, hpj, ?_⟩
      rw [stsL_at L hj]
      obtain ⟨_, _, _, _, _, _, hlt, _⟩ := rk_parent (h.rk i hi) hp
      have l1 := (rk_ok (h.rk i hi)).2.2.1
      have l2 := (rk_ok (h.rk j hj)).2.2.1
      simp only [leastB, Bool.or_eq_true, Bool.and_eq_true, decide_eq_true_eq, inR_t] at l1 l2
      unfold keyR
      unfold AdOK at ha
      omega
theorem does_ok {L : List Wk} {said : List Sd} {slot slot2 m : Int} (h : NL L said slot) (h0 : 0 <= slot) (hs : slot <= slot2) (hs2 : slot2 <= 1000) (hm : 0 <= m /\ m <= 255) {d : Dd} (hd : DdOK d) (hL : L.length <= 32) (hsl : said.length <= 1000) {i : Nat} (hi : i < L.length) : DoesOK (L.getD i default) d said slot2 m :=
  ⟨h.rk i hi, h.nb i hi, fun x hx => Int.le_trans (h.slots i hi x hx) hs, ⟨by omega, hs2⟩, hm, hd, hsl, fun s hs3 => by
    obtain ⟨⟨j, hj, hn, _⟩, h2, h3, h4⟩ := h.sd s hs3
    exact ⟨by omega, by omega, h3, h2⟩⟩
theorem NL.node' {L : List Wk} {said : List Sd} {slot : Int} {i : Nat} {w : Wk} (hi : i < L.length) (h : NL (L.set i w) said slot) : w.r.node = i := by
  have := h.node i (by rw [List.length_set]; exact hi)
  rw [wk_set hi, if_pos rfl] at this
  exact this
theorem sayB_size (s : Sd) : 0 < (sayB s).size := by
  unfold sayB sayS
  have := protP_size (bcnS s.nd s.slot s.rk s.ep (offS true))
  omega
end Go.Proofs.Y
end
section
namespace Go.Proofs.Y
open Go Go.Sx
open Go.Proofs.P Go.Proofs.R
set_option maxRecDepth 4000
attribute [local irreducible] VR VC thenQ blockQ retL scopeQ sayS offS
def _root_.Go.Proofs.R.Dd.enc (d : Dd) : List D := [.int .u8 d.kind, .int .u8 d.node, .int .u8 d.which, .int .u8 d.slot]
abbrev dds (l : List Dd) : D := rdOf Dd.enc 4 l
theorem nl0_succ (k : Nat) : nl0 (k + 1) = nl0 k ++ [⟨(startM (k : Nat)).1, []⟩] := by simp [nl0, startL_succ]
set_option maxHeartbeats 4000000 in
theorem lawNoLoops_spec (no mg : Int) (ds : List Dd) (h1 : 0 <= no /\ no <= 255) (h2 : 0 <= mg /\ mg <= 255) (hd : ∀ d ∈ ds, DdOK d) : FnS Tryz.prog 5 [AD (.int .u8 no), AD (dds ds), AD (.int .u8 mg)] [] (AB true) [] := by
  obtain ⟨N, hN⟩ : ∃ N : Nat, 2 + no % 7 = (N : Int) := ⟨(2 + no % 7).toNat, by omega⟩
  have hN2 : 2 <= N /\ N <= 8 := by omega
  obtain ⟨n0, n1⟩ := h1
  obtain ⟨m0, m1⟩ := h2
  refine FnS.of_body (enters_of Tryz.func5 (by kernel_rfl) rfl) Tryz.func5 rfl Tryz.ntmps5 Tryz.results5 rfl rfl rfl rfl fun E hS => ?_
  by_cases hlen : 80 < ds.length
  · have d1 : decide ((80 : Int) < (ds.length : Int)) = true := decide_eq_true (by omega)
    repeat' (first | (show VR _ _ _ (_ :: _) _ _ _; first | refine x_opF rfl (by first | exact True.intro | omega) ?_ | (show VR _ _ _ (⟨_, .call ⟨.value _, _, _⟩, _, _, _, _⟩ :: _) _ _ _; first | refine vr_calldU (works_spec) (gk rfl) rfl rfl rfl (by first | rfl | (simp only [wfRes, wfL, wfArgs, wfs, mpO_namesB, mpO_namesI]; rfl)) rfl (by first | exact newB_nil | exact newB_O | ((simp only [newB, List.map_cons, List.map_nil, Blk.shift, rowOf_shift]) <;> rfl) | rfl) rfl ?_) | (show VR _ _ _ (⟨_, .convert _ _ _, _, _, _, _⟩ :: _) _ _ _; first | refine vr_convert_id (gk rfl) rfl ⟨_, rfl⟩ rfl (by first | exact wrap_i64 (by omega) | exact wrap_u64 (by omega) | exact wrap_u16 (by omega) | exact wrap_u8 (by omega) | exact wrap_u32 (by omega)) rfl ?_)) | (show VR _ _ _ [] _ _ _; first | refine vr_nil ?_) | (show thenQ _ _ _ _; first | refine q_then_n ?_ | refine q_then_r ?_) | refine vc_seq ?_ | refine vc_region ?_ | (show VC _ (.cond _ _ _) _ _; first | refine vc_cond_t rfl ?_ | refine vc_cond_f rfl ?_ | refine x_know rfl (by assumption) ?_) | refine vc_ret ?_ | refine vc_skip ?_)
    exact ret_bool isRet_r rfl rfl
  have d1 : decide ((80 : Int) < (ds.length : Int)) = false := decide_eq_false (by omega)
  repeat' (first | (show VR _ _ _ (_ :: _) _ _ _; first | refine x_opF rfl (by first | exact True.intro | omega) ?_ | (show VR _ _ _ (⟨_, .call ⟨.value _, _, _⟩, _, _, _, _⟩ :: _) _ _ _; first | refine vr_calldU (works_spec) (gk rfl) rfl rfl rfl (by first | rfl | (simp only [wfRes, wfL, wfArgs, wfs, mpO_namesB, mpO_namesI]; rfl)) rfl (by first | exact newB_nil | exact newB_O | ((simp only [newB, List.map_cons, List.map_nil, Blk.shift, rowOf_shift]) <;> rfl) | rfl) rfl ?_) | (show VR _ _ _ (⟨_, .convert _ _ _, _, _, _, _⟩ :: _) _ _ _; first | refine vr_convert_id (gk rfl) rfl ⟨_, rfl⟩ rfl (by first | exact wrap_i64 (by omega) | exact wrap_u64 (by omega) | exact wrap_u16 (by omega) | exact wrap_u8 (by omega) | exact wrap_u32 (by omega)) rfl ?_)) | (show VR _ _ _ [] _ _ _; first | refine vr_nil ?_) | (show thenQ _ _ _ _; first | refine q_then_n ?_) | (show VC _ (.seq _ _) _ _; (fail_if_success (show VC _ (.seq (.seq (.region 7 _ _) _) _) _ _)); (fail_if_success (show VC _ (.seq (.region 7 _ _) _) _ _)); refine vc_seq ?_) | refine vc_region ?_ | (show VC _ (.cond _ _ _) _ _; first | refine vc_cond_f rfl ?_ | refine x_know rfl (by assumption) ?_) | refine vc_skip ?_)
  refine VC.le (σ' := stOf [(1, AD (dds ds)), (2, AD (.int .u8 mg)), (7, AI N), (8, .c (.row 300 (nl0 0).length))] [(300, .row 87 7 (rowOf Wk.enc (nl0 0)))]) ?_ ?_
  · rw [<- hN]
    refine (le_nil (t := 8) (nm := 300) (T := 87) (sz := 7) rfl rfl).trans ?_
    refine le_gen0 (fun n => n) ?_ ?_ rfl (by first | rfl | (simp only [wfL, wfs, mpO_namesB, mpO_namesI]; rfl))
    all_goals repeat' (first | exact trivial | refine ⟨⟨_, rfl, ?_⟩, ?_⟩ | exact .c .d | exact .c (.row rfl rfl) | exact .rowD rfl rowOf_isD)
  repeat' (first | (show VR _ _ _ (_ :: _) _ _ _; first | refine x_opF rfl (by first | exact True.intro | omega) ?_) | (show VR _ _ _ [] _ _ _; first | refine vr_nil ?_) | (show thenQ _ _ _ _; first | refine q_then_n ?_) | refine vc_seq ?_ | refine vc_region ?_ | refine vc_block ?_)
  refine vc_loopI (ι := Nat) (fun k => stOf [(1, AD (dds ds)), (2, AD (.int .u8 mg)), (7, AI N), (8, .c (.row 300 (nl0 k).length)), (29, AI N), (30, AI k)] [(300, .row 87 7 (rowOf Wk.enc (nl0 k)))]) (fun k => k <= N) (fun k => N - k) 0 (Nat.zero_le _) ?_ ?_
  · refine le_gen0 (fun n => n) ?_ ?_ rfl (by first | rfl | (simp only [wfL, wfs, mpO_namesB, mpO_namesI]; rfl))
    all_goals repeat' (first | exact trivial | refine ⟨⟨_, rfl, ?_⟩, ?_⟩ | exact .c .d | exact .c (.row rfl rfl) | exact .rowD rfl rowOf_isD)
  · intro k hk
    have hkl := nl0_len k
    rcases Nat.lt_or_ge k N with hlt | hge
    · have d2 : decide ((k : Int) < (N : Int)) = true := decide_eq_true (by omega)
      have hst := start_spec (k : Int)
      rw [(start_rk (i := k) (by omega)).2.2.2] at hst
      repeat' (first | (show VR _ _ _ (_ :: _) _ _ _; first | refine x_opF rfl (by first | exact True.intro | omega) ?_ | (show VR _ _ _ (⟨_, .call ⟨.value _, _, _⟩, _, _, _, _⟩ :: _) _ _ _; first | refine vr_calldU (hst) (gk rfl) rfl rfl rfl (by first | rfl | (simp only [wfRes, wfL, wfArgs, wfs, mpO_namesB, mpO_namesI]; rfl)) rfl (by first | exact newB_nil | exact newB_O | ((simp only [newB, List.map_cons, List.map_nil, Blk.shift, rowOf_shift]) <;> rfl) | rfl) rfl ?_) | (show VR _ _ _ (⟨_, .call ⟨.builtin .append, _, _⟩, _, _, _, _⟩ :: _) _ _ _; first | refine vr_append0 (gk rfl) rfl rfl rfl (by first | rfl | exact rowOf_length.symm | (simp only [lns] <;> omega)) (by first | exact .row rfl (by first | rfl | exact rowOf_length.symm) | exact .rd | exact .nils) rfl rfl rfl (by (try dsimp only); omega) rfl rfl ?_)) | (show VR _ _ _ [] _ _ _; first | refine vr_nil ?_) | (show thenQ _ _ _ _; first | refine q_then_n ?_) | (show blockQ _ _ _ _; first | refine q_blk_n ?_) | refine vc_seq ?_ | refine vc_region ?_ | (show VC _ (.cond _ _ _) _ _; first | refine vc_cond_t rfl ?_ | refine vc_cond_f rfl ?_ | refine x_know rfl (by assumption) ?_) | refine vc_block ?_ | refine vc_skip ?_)
      refine ⟨k + 1, by omega, by omega, ?_⟩
      rw [nl0_succ]
      generalize (startM (k : Int)).1 = r at *
      refine le_gen0 (fun n => if n = 300 then 44 else n) ?_ ?_ rfl (by first | rfl | (simp only [wfL, wfs, mpO_namesB, mpO_namesI]; rfl))
      all_goals repeat' (first | exact trivial | refine ⟨⟨_, rfl, ?_⟩, ?_⟩ | exact .c .d | (refine .c (.row rfl ?_); ((try dsimp only); first | rfl | omega | (simp only [lns] <;> omega)); done))
      · exact BW.snoc (.cons .d (.cons .d (.cons .d (.cons .d (.cons .d (.cons .d (.cons .nil .nil)))))))
    · have d2 : decide ((k : Int) < (N : Int)) = false := decide_eq_false (by omega)
      have e : k = N := by omega
      subst e
      repeat' (first | (show VR _ _ _ (_ :: _) _ _ _; first | refine x_opF rfl (by first | exact True.intro | omega) ?_) | (show VR _ _ _ [] _ _ _; first | refine vr_nil ?_) | (show thenQ _ _ _ _; first | refine q_then_n ?_ | refine q_then_x ?_) | (show blockQ _ _ _ _; first | refine q_blk_x ?_) | (show VC _ (.seq _ _) _ _; (fail_if_success (show VC _ (.seq (.seq (.region 18 _ _) _) _) _ _)); (fail_if_success (show VC _ (.seq (.region 18 _ _) _) _ _)); refine vc_seq ?_) | refine vc_region ?_ | (show VC _ (.cond _ _ _) _ _; first | refine vc_cond_f rfl ?_ | refine x_know rfl (by assumption) ?_) | refine vc_exit ?_ | refine vc_block ?_)
      refine VC.le (σ' := stOf [(2, AD (.int .u8 mg)), (7, AI k), (8, .c (.row 300 (nl0 k).length)), (12, .c (.row 301 0)), (13, AI 0), (46, AD (dds ds)), (47, AI ds.length), (48, AI 0)] [(300, .row 87 7 (rowOf Wk.enc (nl0 k))), (301, .row 9 1 (rowOf encS []))]) ?_ ?_
      · refine (le_nil (t := 12) (nm := 301) (T := 9) (sz := 1) rfl rfl).trans ?_
        refine le_gen0 (fun n => n) ?_ ?_ rfl (by first | rfl | (simp only [wfL, wfs, mpO_namesB, mpO_namesI]; rfl))
        all_goals repeat' (first | exact trivial | refine ⟨⟨_, rfl, ?_⟩, ?_⟩ | exact .c .d | exact .c (.row rfl rfl) | exact .rowD rfl rowOf_isD)
      refine vc_loopI (ι := Nat × List Wk × List Sd × Int) (fun p => stOf [(2, AD (.int .u8 mg)), (7, AI k), (8, .c (.row 300 p.2.1.length)), (12, .c (.row 301 p.2.2.1.length)), (13, AI p.2.2.2), (46, AD (dds ds)), (47, AI ds.length), (48, AI p.1)] [(300, .row 87 7 (rowOf Wk.enc p.2.1)), (301, .row 9 1 (rowOf encS p.2.2.1))])
        (fun p => p.1 <= ds.length /\ p.2.1.length = k /\ NL p.2.1 p.2.2.1 p.2.2.2 /\ 0 <= p.2.2.2 /\ p.2.2.2 <= 3 * p.1 /\ p.2.2.1.length <= p.1) (fun p => ds.length - p.1) (0, nl0 k, [], 0) ⟨Nat.zero_le _, hkl, nl0_ok (by omega), Int.le_refl _, Int.le_refl _, Nat.le_refl _⟩ ?_ ?_
      · refine le_gen0 (fun n => n) ?_ ?_ rfl (by first | rfl | (simp only [wfL, wfs, mpO_namesB, mpO_namesI]; rfl))
        all_goals repeat' (first | exact trivial | refine ⟨⟨_, rfl, ?_⟩, ?_⟩ | exact .c .d | exact .c (.row rfl rfl) | exact .rowD rfl rowOf_isD)
      · rintro ⟨q, L, said, slot⟩ ⟨hq, hL, hnl, hs0, hs1, hsl⟩
        dsimp only at hq hL hnl hs0 hs1 hsl ⊢
        rcases Nat.lt_or_ge q ds.length with hlt2 | hge2
        · have d3 : decide ((q : Int) < (ds.length : Int)) = true := decide_eq_true (by omega)
          obtain ⟨d, hde⟩ : ∃ d, d = ds.getD q default := ⟨_, rfl⟩
          have hdm : d ∈ ds := by
            rw [hde, List.getD_eq_getElem?_getD, List.getElem?_eq_getElem hlt2]
            exact List.getElem_mem hlt2
          have hdo := hd d hdm
          obtain ⟨⟨x0, x1⟩, ⟨x2, x3⟩, ⟨x4, x5⟩, ⟨x6, x7⟩⟩ := id hdo
          obtain ⟨i, hi⟩ : ∃ i : Nat, d.node % (k : Int) = i := ⟨(d.node % (k : Int)).toNat, by have := Int.emod_nonneg d.node (show (k : Int) ≠ 0 by omega); omega⟩
          have hik : i < k := by have := Int.emod_lt_of_pos d.node (show (0 : Int) < k by omega); omega
          have hiL : i < L.length := by omega
          obtain ⟨slot2, hslot2⟩ : ∃ t, t = slot + d.slot % 4 := ⟨_, rfl⟩
          have hsl2 : slot <= slot2 /\ slot2 <= slot + 3 := by omega
          have hdoes := does_spec (L.getD i default) d said slot2 mg (does_ok hnl hs0 hsl2.1 (by omega) ⟨m0, m1⟩ hdo (by omega) (by omega) hiL)
          have hnl2 := hnl.does hs0 hsl2.1 (by omega) (show 0 <= mg /\ mg <= 65535 by omega) d (by omega) hiL
          generalize doesM (L.getD i default) d said slot2 mg = R at *
          obtain ⟨w2, opt⟩ := R
          dsimp only at hdoes hnl2
          have hwn := NL.node' hiL hnl2
          have hac := acyclic_spec (L.set i w2) (tree_of hnl2) (by rw [List.length_set]; omega) (by rw [List.length_set]; omega)
          have d4 : decide (w2.r.node ≠ (i : Int)) = false := decide_eq_false (by simpa using hwn)
          have hlL : (L.set i w2).length = L.length := List.length_set ..
          repeat' (first | (show VR _ _ _ (_ :: _) _ _ _; first | refine x_opF rfl (by first | exact True.intro | omega) ?_ | (show VR _ _ _ (⟨_, .indexAddr _ _ _, _, _, _, _⟩ :: _) _ _ _; first | refine vr_index_rd (gk rfl) rfl rfl rfl rfl rfl (by omega) rfl ?_)) | (show VR _ _ _ [] _ _ _; first | refine vr_nil ?_) | (show thenQ _ _ _ _; first | refine q_then_n ?_) | (show VC _ (.seq _ _) _ _; (fail_if_success (show VC _ (.seq (.seq (.region 20 _ _) _) _) _ _)); (fail_if_success (show VC _ (.seq (.region 20 _ _) _) _ _)); refine vc_seq ?_) | refine vc_region ?_ | (show VC _ (.cond _ _ _) _ _; first | refine vc_cond_t rfl ?_ | refine x_know rfl (by assumption) ?_) | refine vc_block ?_ | refine vc_skip ?_)
          rw [<- hde]
          refine VC.le (σ' := stOf [(2, AD (.int .u8 mg)), (7, AI k), (8, .c (.row 300 L.length)), (12, .c (.row 301 said.length)), (13, AI slot), (15, .c (.ptr 15 0)), (46, AD (dds ds)), (47, AI ds.length), (48, AI q)] [(15, .box [u8 d.kind, u8 d.node, u8 d.which, u8 d.slot]), (300, .row 87 7 (rowOf Wk.enc L)), (301, .row 9 1 (rowOf encS said))]) ?_ ?_
          · refine le_gen0 (fun n => n) ?_ ?_ rfl (by first | rfl | (simp only [wfL, wfs, mpO_namesB, mpO_namesI]; rfl))
            all_goals repeat' (first | exact trivial | refine ⟨⟨_, rfl, ?_⟩, ?_⟩ | exact .c .d | exact .c (.ptr rfl) | exact .c (.row rfl rfl) | exact .boxD rfl rfl | exact .rowD rfl rowOf_isD)
          repeat' (first | (show VR _ _ _ (_ :: _) _ _ _; first | refine x_opF rfl (by first | exact True.intro | omega) ?_ | (show VR _ _ _ (⟨_, .convert _ _ _, _, _, _, _⟩ :: _) _ _ _; first | refine vr_convert_id (gk rfl) rfl ⟨_, rfl⟩ rfl (by first | exact wrap_i64 (by omega) | exact wrap_u64 (by omega) | exact wrap_u16 (by omega) | exact wrap_u8 (by omega) | exact wrap_u32 (by omega)) rfl ?_)) | (show VR _ _ _ [] _ _ _; first | refine vr_nil ?_) | (show thenQ _ _ _ _; first | refine q_then_n ?_) | (show VC _ (.seq _ _) _ _; (fail_if_success (show VC _ (.seq (.seq (.region 22 _ _) _) _) _ _)); (fail_if_success (show VC _ (.seq (.region 22 _ _) _) _ _)); refine vc_seq ?_) | refine vc_region ?_)
          refine VC.le (σ' := stOf [(2, AD (.int .u8 mg)), (7, AI k), (8, .c (.row 300 L.length)), (12, .c (.row 301 said.length)), (13, AI slot2), (15, .c (.ptr 15 0)), (16, AI i), (46, AD (dds ds)), (47, AI ds.length), (48, AI q)] [(15, .box [u8 d.kind, u8 d.node, u8 d.which, u8 d.slot]), (300, .row 87 7 (rowOf Wk.enc L)), (301, .row 9 1 (rowOf encS said))]) ?_ ?_
          · rw [hslot2, <- hi]
            refine le_gen0 (fun n => n) ?_ ?_ rfl (by first | rfl | (simp only [wfL, wfs, mpO_namesB, mpO_namesI]; rfl))
            all_goals repeat' (first | exact trivial | refine ⟨⟨_, rfl, ?_⟩, ?_⟩ | exact .c .d | exact .c (.ptr rfl) | exact .c (.row rfl rfl) | exact .boxD rfl rfl | exact .rowD rfl rowOf_isD)
          repeat' (first | (show VR _ _ _ (_ :: _) _ _ _; first | refine x_opF rfl (by first | exact True.intro | omega) ?_ | (show VR _ _ _ (⟨_, .call ⟨.value _, _, _⟩, _, _, _, _⟩ :: _) _ _ _; first | refine vr_callW (nmL [(101, 301)]) [] [101] (hdoes) (gk rfl) rfl rfl (by (repeat' (first | exact .nil | refine .cons ?_ ?_ | exact .w (.c (.ptr rfl)) rfl | exact .w (.c (.row rfl rfl)) rfl | exact .w (.c (.mp rfl)) rfl | exact .w (.c (.fn rfl)) rfl | exact .w (.rp rfl) rfl | (refine .w (.fncC ?_) rfl; repeat' (first | exact .nil | refine .cons ?_ ?_ | exact .d | exact .ptr rfl | exact .row rfl rfl | (refine .row rfl ?_; ((try dsimp only); first | rfl | omega | (simp only [lns] <;> omega)); done) | exact .fn rfl | exact .mp rfl | exact .frzOf (by first | (simp; done) | decide) rfl rfl (fun _ => rfl))) | exact .r (.of0 (.c .d)) | refine .r ?_ | exact .of0 (.c .d) | exact .of0 .ep | exact .clo | exact .of0 (.c .nil) | exact .of0 (.c (cr_rowO (by simp) rfl (by first | rfl | omega) (fun _ => rfl))) | refine .of0 (.agg ?_) | exact .d | exact .nil | exact .of0 (.c (cr_row (by decide) rfl rfl (by repeat' (first | exact trivial | refine ⟨?_, ?_⟩ | rfl)))))) <;> fail) (by (repeat' (first | exact trivial | refine ⟨⟨_, rfl, ?_⟩, ?_⟩ | exact .boxD rfl rfl | exact .rowD rfl rowOf_isD | exact .mapO (fun _ => rfl) rfl | exact .pin rfl | refine .box ?_ | exact .nil | refine .cons ?_ ?_ | exact .d | exact .ptr rfl | exact .row rfl rfl | (refine .row rfl ?_; ((try dsimp only); first | rfl | omega | (simp only [lns] <;> omega)); done) | exact .fn rfl | exact .mp rfl | exact .frzOf (by first | (simp; done) | decide) rfl rfl (fun _ => rfl))) <;> fail) rfl rfl rfl (by first | rfl | (simp only [List.all_cons, List.all_nil, rowOf_flatB]; rfl)) rfl (by first | rfl | (simp only [wfRes, wfL, wfArgs, wfs, mpO_namesB, mpO_namesI]; rfl)) rfl rfl rfl (by (simp only [newW, List.map_cons, List.map_nil, Blk.ren, C.ren, rowOf_ren, mpO_renB, mpO_renI, gW, memN, nmL, Nat.reduceBEq, Bool.or_false, Bool.or_true, Bool.false_or, Bool.true_or, cond_true, cond_false, Nat.reduceMul, Nat.reduceAdd]) <;> rfl) (by (simp only [AV.ren, AV.ren0, List.map_cons, List.map_nil, C.ren, gW, memN, nmL, Nat.reduceBEq, Bool.or_false, Bool.or_true, Bool.false_or, Bool.true_or, cond_true, cond_false, Nat.reduceMul, Nat.reduceAdd]) <;> rfl) rfl ?_) | (show VR _ _ _ (⟨_, .indexAddr _ _ _, _, _, _, _⟩ :: _) _ _ _; first | refine vr_index_rowO (gk rfl) rfl rfl rfl rfl rfl rfl (by omega) (by omega) rfl ?_) | (show VR _ _ _ (⟨_, .load _ _, _, _, _, _⟩ :: _) _ _ _; first | refine vr_load_rowO_agg (gk rfl) rfl rfl (by omega) rfl rfl rfl ?_) | (show VR _ _ _ (⟨_, .convert _ _ _, _, _, _, _⟩ :: _) _ _ _; first | refine vr_convert_id (gk rfl) rfl ⟨_, rfl⟩ rfl (by first | exact wrap_i64 (by omega) | exact wrap_u64 (by omega) | exact wrap_u16 (by omega) | exact wrap_u8 (by omega) | exact wrap_u32 (by omega)) rfl ?_)) | (show VR _ _ _ [] _ _ _; first | refine vr_nil_t (by kernel_rfl) ?_) | (show thenQ _ _ _ _; first | refine q_then_n ?_) | (show VC _ (.seq _ _) _ _; (fail_if_success (show VC _ (.seq (.seq (.region 23 _ _) _) _) _ _)); (fail_if_success (show VC _ (.seq (.region 23 _ _) _) _ _)); refine vc_seq ?_) | refine vc_region_t ?_)
          have hdl : ds.length - (q + 1) < ds.length - q := by omega
          cases opt with
          | none =>
            simp only [Option.toList, List.append_nil] at hnl2
            refine VC.le (σ' := stOf [(2, AD (.int .u8 mg)), (7, AI k), (8, .c (.row 300 L.length)), (12, .c (.row 301 said.length)), (13, AI slot2), (16, AI i), (17, .c (.ptr 17 0)), (18, AD (.str ⟨#[]⟩)), (19, AB true), (46, AD (dds ds)), (47, AI ds.length), (48, AI q)] [(17, .box (wkC w2)), (300, .row 87 7 (rowOf Wk.enc L)), (301, .row 9 1 (rowOf encS said))]) ?_ ?_
            · refine le_gen0 (fun n => n) ?_ ?_ rfl (by first | rfl | (simp only [wfL, wfs, mpO_namesB, mpO_namesI]; rfl))
              all_goals repeat' (first | exact trivial | refine ⟨⟨_, rfl, ?_⟩, ?_⟩ | exact .c .d | exact .c (.ptr rfl) | exact .c (.row rfl rfl) | exact .boxD rfl rfl | exact .rowD rfl rowOf_isD)
            repeat' (first | (show VR _ _ _ (_ :: _) _ _ _; first | (show VR _ _ _ (⟨_, .binOp _ _ _ _ _, _, _, _, _⟩ :: _) _ _ _; first | refine vr_neqStr (gk rfl) rfl rfl rfl rfl ?_) | refine x_opF rfl (by first | exact True.intro | omega) ?_ | (show VR _ _ _ (⟨_, .indexAddr _ _ _, _, _, _, _⟩ :: _) _ _ _; first | refine vr_index_rowO (gk rfl) rfl rfl rfl rfl rfl rfl (by omega) (by omega) rfl ?_) | (show VR _ _ _ (⟨_, .store _ _ _, _, _, _, _⟩ :: _) _ _ _; first | refine vr_store_rowO (gk rfl) rfl rfl rfl (by omega) rfl rfl rfl ?_)) | (show VR _ _ _ [] _ _ _; first | refine vr_nil ?_) | (show thenQ _ _ _ _; first | refine q_then_n ?_) | (show VC _ (.seq _ _) _ _; (fail_if_success (show VC _ (.seq (.seq (.region 28 _ _) _) _) _ _)); (fail_if_success (show VC _ (.seq (.region 28 _ _) _) _ _)); refine vc_seq ?_) | refine vc_region ?_ | (show VC _ (.cond _ _ _) _ _; first | refine vc_cond_f rfl ?_ | refine x_know rfl (by assumption) ?_) | refine vc_skip ?_)
            refine VC.le (σ' := stOf [(2, AD (.int .u8 mg)), (7, AI k), (8, .c (.row 300 (L.set i w2).length)), (12, .c (.row 301 (said).length)), (13, AI slot2), (46, AD (dds ds)), (47, AI ds.length), (48, AI q)] [(300, .row 87 7 (rowOf Wk.enc (L.set i w2))), (301, .row 9 1 (rowOf encS (said)))]) ?_ ?_
            · refine le_gen0 (fun n => n) ?_ ?_ rfl (by first | rfl | (simp only [wfL, wfs, mpO_namesB, mpO_namesI]; rfl))
              all_goals repeat' (first | exact trivial | refine ⟨⟨_, rfl, ?_⟩, ?_⟩ | exact .c .d | exact .c (.row rfl rfl) | (refine .c (.row rfl ?_); ((try dsimp only); first | rfl | omega | (simp only [lns] <;> omega)); done) | exact .rowD rfl rowOf_isD | exact .rowD (rowOf_set rfl) rowOf_isD)
            repeat' (first | (show VR _ _ _ (_ :: _) _ _ _; first | refine x_opF rfl (by first | exact True.intro | omega) ?_ | (show VR _ _ _ (⟨_, .call ⟨.value _, _, _⟩, _, _, _, _⟩ :: _) _ _ _; first | refine vr_callU [300] (hac) (gk rfl) rfl (by (repeat' (first | exact .nil | refine .cons ?_ ?_ | exact .of0 (.c .d) | exact .of0 .ep | exact .clo | exact .of0 (.c .nil) | exact .of0 (.c (cr_rowO (by simp) rfl (by first | rfl | omega) (fun _ => rfl))) | refine .of0 (.agg ?_) | exact .d | exact .nil | exact .of0 (.c (cr_row (by decide) rfl rfl (by repeat' (first | exact trivial | refine ⟨?_, ?_⟩ | rfl)))))) <;> fail) (by first | rfl | exact hfl_O (fun _ => rfl) | exact hfl_O2 rfl (fun _ => rfl)) rfl (by first | rfl | (simp only [wfRes, wfL, wfArgs, wfs, mpO_namesB, mpO_namesI]; rfl)) rfl (by first | exact newB_nil | exact newB_O | ((simp only [newB, List.map_cons, List.map_nil, Blk.shift, rowOf_shift]) <;> rfl) | rfl) rfl ?_)) | (show VR _ _ _ [] _ _ _; first | refine vr_nil ?_) | (show thenQ _ _ _ _; first | refine q_then_n ?_) | (show blockQ _ _ _ _; first | refine q_blk_n ?_) | refine vc_seq ?_ | refine vc_region ?_ | (show VC _ (.cond _ _ _) _ _; first | refine vc_cond_f rfl ?_) | refine vc_skip ?_)
            refine ⟨(q + 1, L.set i w2, said, slot2), ⟨hlt2, by dsimp only; rw [hlL]; exact hL, hnl2, by dsimp only; omega, by dsimp only; push_cast; omega, by simp; omega⟩, hdl, ?_⟩
            refine le_gen0 (fun n => n) ?_ ?_ rfl (by first | rfl | (simp only [wfL, wfs, mpO_namesB, mpO_namesI]; rfl))
            all_goals repeat' (first | exact trivial | refine ⟨⟨_, rfl, ?_⟩, ?_⟩ | exact .c .d | exact .c (.row rfl rfl) | exact .rowD rfl rowOf_isD)
          | some s =>
            have hsz := sayB_size s
            have d5 : decide (sayB s ≠ ⟨#[]⟩) = true := decide_eq_true (fun e => by rw [e] at hsz; exact absurd hsz (by decide))
            simp only [Option.toList] at hnl2
            refine VC.le (σ' := stOf [(2, AD (.int .u8 mg)), (7, AI k), (8, .c (.row 300 L.length)), (12, .c (.row 301 said.length)), (13, AI slot2), (16, AI i), (17, .c (.ptr 17 0)), (18, AD (.str (sayB s))), (19, AB true), (46, AD (dds ds)), (47, AI ds.length), (48, AI q)] [(17, .box (wkC w2)), (300, .row 87 7 (rowOf Wk.enc L)), (301, .row 9 1 (rowOf encS said))]) ?_ ?_
            · refine le_gen0 (fun n => n) ?_ ?_ rfl (by first | rfl | (simp only [wfL, wfs, mpO_namesB, mpO_namesI]; rfl))
              all_goals repeat' (first | exact trivial | refine ⟨⟨_, rfl, ?_⟩, ?_⟩ | exact .c .d | exact .c (.ptr rfl) | exact .c (.row rfl rfl) | exact .boxD rfl rfl | exact .rowD rfl rowOf_isD)
            repeat' (first | (show VR _ _ _ (_ :: _) _ _ _; first | (show VR _ _ _ (⟨_, .binOp _ _ _ _ _, _, _, _, _⟩ :: _) _ _ _; first | refine vr_neqStr (gk rfl) rfl rfl rfl rfl ?_) | refine x_opF rfl (by first | exact True.intro | omega) ?_ | (show VR _ _ _ (⟨_, .indexAddr _ _ _, _, _, _, _⟩ :: _) _ _ _; first | refine vr_index_rowO (gk rfl) rfl rfl rfl rfl rfl rfl (by omega) (by omega) rfl ?_) | (show VR _ _ _ (⟨_, .call ⟨.builtin .append, _, _⟩, _, _, _, _⟩ :: _) _ _ _; first | refine vr_append0 (gk rfl) rfl rfl rfl (by first | rfl | exact rowOf_length.symm | (simp only [lns] <;> omega)) (by first | exact .row rfl (by first | rfl | exact rowOf_length.symm) | exact .rd | exact .nils) rfl rfl rfl (by (try dsimp only); omega) rfl rfl ?_) | (show VR _ _ _ (⟨_, .store _ _ _, _, _, _, _⟩ :: _) _ _ _; first | refine vr_store_rowO (gk rfl) rfl rfl rfl (by omega) rfl rfl rfl ?_)) | (show VR _ _ _ [] _ _ _; first | refine vr_nil ?_) | (show thenQ _ _ _ _; first | refine q_then_n ?_) | (show VC _ (.seq _ _) _ _; (fail_if_success (show VC _ (.seq (.seq (.region 28 _ _) _) _) _ _)); (fail_if_success (show VC _ (.seq (.region 28 _ _) _) _ _)); refine vc_seq ?_) | refine vc_region ?_ | (show VC _ (.cond _ _ _) _ _; first | refine vc_cond_t rfl ?_ | refine vc_cond_f rfl ?_ | refine x_know rfl (by assumption) ?_) | refine vc_skip ?_)
            refine VC.le (σ' := stOf [(2, AD (.int .u8 mg)), (7, AI k), (8, .c (.row 300 (L.set i w2).length)), (12, .c (.row 301 (said ++ [s]).length)), (13, AI slot2), (46, AD (dds ds)), (47, AI ds.length), (48, AI q)] [(300, .row 87 7 (rowOf Wk.enc (L.set i w2))), (301, .row 9 1 (rowOf encS (said ++ [s])))]) ?_ ?_
            · refine le_gen0 (fun n => if n = 301 then 91 else n) ?_ ?_ rfl (by first | rfl | (simp only [wfL, wfs, mpO_namesB, mpO_namesI]; rfl))
              all_goals repeat' (first | exact trivial | refine ⟨⟨_, rfl, ?_⟩, ?_⟩ | exact .c .d | (refine .c (.row rfl ?_); ((try dsimp only); first | rfl | omega | (simp only [lns] <;> omega)); done) | exact .rowD (rowOf_set rfl) rowOf_isD | (refine .rowD ?_ rowOf_isD; rw [rowOf_append]; rfl))
            repeat' (first | (show VR _ _ _ (_ :: _) _ _ _; first | refine x_opF rfl (by first | exact True.intro | omega) ?_ | (show VR _ _ _ (⟨_, .call ⟨.value _, _, _⟩, _, _, _, _⟩ :: _) _ _ _; first | refine vr_callU [300] (hac) (gk rfl) rfl (by (repeat' (first | exact .nil | refine .cons ?_ ?_ | exact .of0 (.c .d) | exact .of0 .ep | exact .clo | exact .of0 (.c .nil) | exact .of0 (.c (cr_rowO (by simp) rfl (by first | rfl | omega) (fun _ => rfl))) | refine .of0 (.agg ?_) | exact .d | exact .nil | exact .of0 (.c (cr_row (by decide) rfl rfl (by repeat' (first | exact trivial | refine ⟨?_, ?_⟩ | rfl)))))) <;> fail) (by first | rfl | exact hfl_O (fun _ => rfl) | exact hfl_O2 rfl (fun _ => rfl)) rfl (by first | rfl | (simp only [wfRes, wfL, wfArgs, wfs, mpO_namesB, mpO_namesI]; rfl)) rfl (by first | exact newB_nil | exact newB_O | ((simp only [newB, List.map_cons, List.map_nil, Blk.shift, rowOf_shift]) <;> rfl) | rfl) rfl ?_)) | (show VR _ _ _ [] _ _ _; first | refine vr_nil ?_) | (show thenQ _ _ _ _; first | refine q_then_n ?_) | (show blockQ _ _ _ _; first | refine q_blk_n ?_) | refine vc_seq ?_ | refine vc_region ?_ | (show VC _ (.cond _ _ _) _ _; first | refine vc_cond_f rfl ?_) | refine vc_skip ?_)
            refine ⟨(q + 1, L.set i w2, said ++ [s], slot2), ⟨hlt2, by dsimp only; rw [hlL]; exact hL, hnl2, by dsimp only; omega, by dsimp only; push_cast; omega, by simp; omega⟩, hdl, ?_⟩
            refine le_gen0 (fun n => n) ?_ ?_ rfl (by first | rfl | (simp only [wfL, wfs, mpO_namesB, mpO_namesI]; rfl))
            all_goals repeat' (first | exact trivial | refine ⟨⟨_, rfl, ?_⟩, ?_⟩ | exact .c .d | exact .c (.row rfl rfl) | exact .rowD rfl rowOf_isD)
        · have d3 : decide ((q : Int) < (ds.length : Int)) = false := decide_eq_false (by omega)
          repeat' (first | (show VR _ _ _ (_ :: _) _ _ _; first | refine x_opF rfl (by first | exact True.intro | omega) ?_) | (show VR _ _ _ [] _ _ _; first | refine vr_nil ?_) | (show thenQ _ _ _ _; first | refine q_then_n ?_ | refine q_then_x ?_) | (show blockQ _ _ _ _; first | refine q_blk_x ?_) | refine vc_seq ?_ | refine vc_region ?_ | (show VC _ (.cond _ _ _) _ _; first | refine vc_cond_f rfl ?_ | refine x_know rfl (by assumption) ?_) | refine vc_ret ?_ | refine vc_exit ?_)
          exact ret_bool isRet_r rfl rfl
end Go.Proofs.Y
end
