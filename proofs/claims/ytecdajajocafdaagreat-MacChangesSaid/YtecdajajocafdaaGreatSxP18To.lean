/-
  What functions of the given program hand back, by walks over its code, and plain laws on that. No condition.
-/
import Derived.Test.YtecdajajocafdaaGreatSxP18Tm
-- SXU
namespace Go.Proofs.T
open Go Go.Sx
set_option maxRecDepth 4000
set_option linter.unusedSimpArgs false
set_option linter.unusedVariables false
attribute [local irreducible] VR VC thenQ blockQ retL
def bsSl (l : List TC) (t : Int) : Nat := bs (fun i => decide (cmpI (l.getD i default).slot t < 0)) 0 l.length
def foundSl (l : List TC) (t : Int) : Bool := decide (bsSl l t < l.length) && decide (cmpI (l.getD (bsSl l t) default).slot t = 0)
abbrev findφSl : List DV → DV → Prop := fun ds r => ∃ (x : TC) (t : Int), ds = [.agg x.enc, .d (.int .i64 t)] ∧ r = .d (.int .i64 (cmpI x.slot t))
theorem searchSl_spec (l : List TC) (t : Int) (hl : l.length ≤ 1000000) : FnS Tryz.prog 147 [AD (tcs l), AI t, .clo findφSl] [] (.tup [AI (bsSl l t), AB (foundSl l t)]) [] := by
  refine FnS.of_body (enters_of Tryz.func147 (by kernel_rfl) rfl) Tryz.func147 rfl Tryz.ntmps147 Tryz.results147 rfl rfl rfl rfl fun E hS => ?_
  repeat' (first
    | (show VR _ _ _ (_ :: _) _ _ _; first | refine x_opF rfl (by first | exact True.intro | omega) ?_)
    | (show VR _ _ _ [] _ _ _; first | refine vr_nil ?_)
    | (show thenQ _ _ _ _; first | refine q_then_n ?_)
    | refine vc_seq ?_
    | refine vc_region ?_
    | refine vc_block ?_
    | fail)
  refine vc_loopI (ι := Nat × Nat) (fun p => stOf [(0, AD (tcs l)), (1, AI t), (2, .clo findφSl), (8, AI l.length), (9, AI p.1), (10, AI p.2)] [])
    (fun p => p.1 ≤ p.2 ∧ p.2 ≤ l.length ∧ bs (fun i => decide (cmpI (l.getD i default).slot t < 0)) p.1 p.2 = bsSl l t) (fun p => p.2 - p.1) (0, l.length) ⟨Nat.zero_le _, Nat.le_refl _, rfl⟩ ?_ ?_
  · exact le_of ⟨rfl, rfl, rfl, rfl, rfl, rfl, trivial⟩ trivial rfl
  · rintro ⟨i, j⟩ ⟨h1, h2, h3⟩
    dsimp only at h1 h2 h3 ⊢
    repeat' (first
      | (show VR _ _ _ (_ :: _) _ _ _; first | refine x_opF rfl (by first | exact True.intro | omega) ?_ | (show VR _ _ _ (⟨_, .call ⟨.value _, _, _⟩, _, _, _, _⟩ :: _) _ _ _; first | refine vr_clo (⟨_, _, rfl, rfl⟩) (gk rfl) rfl rfl rfl rfl ?_) | (show VR _ _ _ (⟨_, .indexAddr _ _ _, _, _, _, _⟩ :: _) _ _ _; first | refine vr_index_rd (gk rfl) rfl rfl rfl rfl rfl (by omega) rfl ?_ | refine vr_index_rdN (gk rfl) rfl rfl rfl rfl (by first | omega | decide) rfl ?_) | (show VR _ _ _ (⟨_, .convert _ _ _, _, _, _, _⟩ :: _) _ _ _; first | refine vr_convert_id (gk rfl) rfl ⟨_, rfl⟩ rfl (by first | exact wrap_i64 (by omega) | exact wrap_u64 (by omega) | exact wrap_u16 (by omega) | exact wrap_u8 (by omega) | exact wrap_u32 (by omega)) rfl ?_) | (show VR _ _ _ (⟨_, .binOp _ _ _ _ _, _, _, _, _⟩ :: _) _ _ _; first | refine vr_shr (m := 1) (gk rfl) rfl rfl rfl (by decide) rfl ?_) | (refine x_gsplit rfl ?_ ?_ <;> intro h <;> have hq := h <;> (try simp only [decide_eq_true_eq, decide_eq_false_iff_not, Int.not_lt, Int.not_le, ne_eq, Decidable.not_not, Bool.not_eq_true', Bool.not_eq_false'] at hq)))
      | (show VR _ _ _ [] _ _ _; first | refine vr_nil ?_)
      | (show thenQ _ _ _ _; first | refine q_then_n ?_ | refine q_then_x ?_)
      | (show blockQ _ _ _ _; first | refine q_blk_n ?_ | refine q_blk_x ?_)
      | refine vc_seq ?_
      | refine vc_region ?_
      | (show VC _ (.cond _ _ _) _ _; first | (refine x_cond rfl ?_ ?_ <;> intro h <;> have hq := h <;> (try simp only [decide_eq_true_eq, decide_eq_false_iff_not, Int.not_lt, Int.not_le, ne_eq, Decidable.not_not, Bool.not_eq_true', Bool.not_eq_false'] at hq)))
      | refine vc_ret ?_ | refine vc_exit ?_ | refine vc_block ?_ | refine vc_skip ?_
      | fail)
    · have e : (((i : Int) + (j : Int)) / 2 ^ 1).toNat = (i + j) / 2 := by omega
      rw [e] at hq
      refine ⟨((i + j) / 2 + 1, j), ⟨by dsimp only; omega, h2, ?_⟩, by dsimp only; omega, le_of ⟨rfl, rfl, rfl, rfl, ad_eq ?_ rfl, rfl, trivial⟩ trivial rfl⟩
      · rw [← h3]
        conv => rhs; rw [bs, if_pos (by omega)]
        rw [if_pos]
        exact decide_eq_true hq
      · congr 1 <;> omega
    · have e : (((i : Int) + (j : Int)) / 2 ^ 1).toNat = (i + j) / 2 := by omega
      rw [e] at hq
      refine ⟨(i, (i + j) / 2), ⟨by dsimp only; omega, by dsimp only; omega, ?_⟩, by dsimp only; omega, le_of ⟨rfl, rfl, rfl, rfl, rfl, ad_eq ?_ rfl, trivial⟩ trivial rfl⟩
      · rw [← h3]
        conv => rhs; rw [bs, if_pos (by omega)]
        rw [if_neg]
        rw [decide_eq_true_eq]; exact Int.not_lt.2 hq
      · congr 1 <;> omega
    all_goals (have e0 : bsSl l t = i := by
                 rw [← h3, bs, if_neg (by omega)])
    all_goals refine ret_d2 isRet_r rfl rfl (by rw [e0]) ?_
    all_goals simp_all [foundSl] <;> omega
theorem at1_spec (c : TC) (n : Int) : FnS Tryz.prog 148 [tcA c, AI n] [] (AI (cmpI c.slot n)) [] := by
  refine FnS.of_body (enters_of Tryz.func148 (by kernel_rfl) rfl) Tryz.func148 rfl Tryz.ntmps148 Tryz.results148 rfl rfl rfl rfl fun E hS => ?_
  repeat' (first
    | (show VR _ _ _ (_ :: _) _ _ _; first | refine x_opF rfl (by first | exact True.intro | omega) ?_ | (show VR _ _ _ (⟨_, .call ⟨.value _, _, _⟩, _, _, _, _⟩ :: _) _ _ _; first | refine vr_calldU (cmp_spec _ _) (gk rfl) rfl rfl rfl (by first | rfl | (simp only [wfRes, wfL, wfArgs, List.all_cons, List.all_nil, rowOf_blk]; rfl)) rfl (by first | exact newB_O | rfl) rfl ?_))
    | (show VR _ _ _ [] _ _ _; first | refine vr_nil ?_)
    | (show thenQ _ _ _ _; first | refine q_then_n ?_)
    | refine vc_seq ?_
    | refine vc_region ?_
    | refine vc_ret ?_
    | fail)
  all_goals exact ret_int isRet_r rfl rfl
theorem at1_fnc {σ : St} {L : List Nat} : AR Tryz.prog σ L (.fnc 148 []) (.clo findφSl) :=
  .fnc .nil (enters_of Tryz.func148 (by kernel_rfl) rfl) (by rintro _ _ ⟨x, t, rfl, rfl⟩; exact ⟨rfl, at1_spec x t⟩)
/-! ## Right tables are sorted -/
theorem firstErr_all {n : Nat} {f : Nat → Int} (h : firstErr n f = 0) : ∀ i, i < n → f i = 0 := by
  intro i hi
  unfold firstErr at h
  cases hf : (List.range n).find? (fun i => f i != 0) with
  | none =>
    have := List.find?_eq_none.1 hf i (List.mem_range.2 hi)
    simpa using this
  | some k =>
    rw [hf] at h
    have := List.find?_some hf
    simp only [Option.elim] at h
    rw [h] at this; simp at this
theorem checkT_ok {t : Tb} (h : checkT t = 0) : ∀ i, i < t.cells.length → formE (t.cells.getD i default) t.node t.len = 0 ∧ (0 < i → lessB (t.cells.getD (i - 1) default) (t.cells.getD i default) = true) := by
  have hl := checkT_len h
  unfold checkT at h
  split at h
  · cases h
  · split at h
    · cases h
    · intro i hi
      have := firstErr_all h i hi
      unfold tcErr at this
      split at this
      · omega
      · rename_i h1
        refine ⟨by omega, fun h0 => ?_⟩
        split at this
        · cases this
        · rename_i h2
          have h3 : ¬ 0 ≤ cmpTC (t.cells.getD (i - 1) default) (t.cells.getD i default) := fun hc => h2 ⟨h0, hc⟩
          rw [less_cmp] at h3
          simpa using h3
theorem lessB_iff {a b : TC} : lessB a b = true ↔ a.slot < b.slot ∨ (a.slot = b.slot ∧ a.kind < b.kind) := by
  simp [lessB]
theorem lessB_trans {a b c : TC} (h : lessB a b = true) (k : lessB b c = true) : lessB a c = true := by
  rw [lessB_iff] at *; omega
/-- A list of cells in its order. -/
def Srt (l : List TC) : Prop := ∀ i j, i < j → j < l.length → lessB (l.getD i default) (l.getD j default) = true
theorem srt_of {l : List TC} (h : ∀ i, i < l.length → 0 < i → lessB (l.getD (i - 1) default) (l.getD i default) = true) : Srt l := by
  intro i j hij
  induction j with
  | zero => omega
  | succ j ih =>
    intro hj
    have h1 := h (j + 1) hj (by omega)
    rw [Nat.add_sub_cancel] at h1
    rcases Nat.lt_or_ge i j with h2 | h2
    · exact lessB_trans (ih h2 (by omega)) h1
    · rw [show i = j by omega]; exact h1
theorem checkT_srt {t : Tb} (h : checkT t = 0) : Srt t.cells := srt_of fun i hi h0 => (checkT_ok h i hi).2 h0
theorem cmpI_lt {a b : Int} : cmpI a b < 0 ↔ a < b := by
  unfold cmpI; split <;> (try split) <;> omega
theorem cmpI_eq {a b : Int} : cmpI a b = 0 ↔ a = b := by
  unfold cmpI; split <;> (try split) <;> omega
theorem bsSl_fst {l : List TC} (h : Srt l) (s : Int) : fstO l (fun c => decide (c.slot = s)) = if bsSl l s < l.length ∧ (l.getD (bsSl l s) default).slot = s then some (bsSl l s) else none := by
  have hb := bs_spec (f := fun i => decide (cmpI (l.getD i default).slot s < 0)) (n := l.length) (fun a b hab hb hf => by
    simp only [decide_eq_true_eq, cmpI_lt] at hf ⊢
    have := lessB_iff.1 (h a b hab hb)
    omega)
  change bsSl l s ≤ _ ∧ (∀ a, a < bsSl l s → _) ∧ ∀ a, bsSl l s ≤ a → _ at hb
  obtain ⟨h1, h2, h3⟩ := hb
  simp only [decide_eq_true_eq, decide_eq_false_iff_not, cmpI_lt] at h2 h3
  split
  · rename_i hc
    exact fstO_hit (fun i hi => decide_eq_false (by have := h2 i hi; omega)) hc.1 (decide_eq_true hc.2)
  · rename_i hc
    refine fstO_none fun i hi => ?_
    simp only [decide_eq_false_iff_not]
    intro he
    rcases Nat.lt_or_ge i (bsSl l s) with hlt | hge
    · have := h2 i hlt; omega
    · refine hc ⟨by omega, ?_⟩
      have h5 := h3 (bsSl l s) (Nat.le_refl _) (by omega)
      rcases Nat.lt_or_ge (bsSl l s) i with h6 | h6
      · have := lessB_iff.1 (h _ _ h6 hi); omega
      · rw [show bsSl l s = i by omega]; exact he
def noC : TC := ⟨0, 0, 0, false, 0, 0⟩
def atM (t : Tb) (slot : Int) : TC × Bool := if checkT t ≠ 0 ∨ slot < 0 then (noC, false) else match fstO t.cells (fun c => decide (c.slot = slot % t.len)) with
  | some i => (t.cells.getD i default, true)
  | none => (noC, false)
set_option maxHeartbeats 1000000 in
theorem at_spec (t : Tb) (slot : Int) : FnS Tryz.prog 100 [tbA t, AI slot] [] (.tup [tcA (atM t slot).1, AB (atM t slot).2]) [] := by
  have hck := checkT_spec t
  refine FnS.of_body (enters_of Tryz.func100 (by kernel_rfl) rfl) Tryz.func100 rfl Tryz.ntmps100 Tryz.results100 rfl rfl rfl rfl fun E hS => ?_
  by_cases hc : checkT t = 0
  · rw [hc] at hck
    have hl := checkT_len hc
    by_cases hs : slot < 0
    · have e : atM t slot = (noC, false) := by rw [atM, if_pos (.inr hs)]
      rw [e]
      repeat' (first
        | (show VR _ _ _ (_ :: _) _ _ _; first | refine x_opF rfl (by first | exact True.intro | omega) ?_ | (show VR _ _ _ (⟨_, .call ⟨.value _, _, _⟩, _, _, _, _⟩ :: _) _ _ _; first | refine vr_calldU (hck) (gk rfl) rfl rfl rfl (by first | rfl | (simp only [wfRes, wfL, wfArgs, List.all_cons, List.all_nil, rowOf_blk]; rfl)) rfl (by first | exact newB_O | rfl) rfl ?_))
        | (show VR _ _ _ [] _ _ _; first | refine vr_nil ?_)
        | (show thenQ _ _ _ _; first | refine q_then_n ?_ | refine q_then_r ?_)
        | refine vc_seq ?_
        | refine vc_region ?_ | refine vc_region_t ?_
        | (show VC _ (.cond _ _ _) _ _; first | (refine x_cond rfl ?_ ?_ <;> intro h <;> have hq := h <;> (try simp only [decide_eq_true_eq, decide_eq_false_iff_not, Int.not_lt, Int.not_le, ne_eq, Decidable.not_not, Bool.not_eq_true', Bool.not_eq_false'] at hq)))
        | refine vc_ret ?_ | refine vc_skip ?_
        | fail)
      all_goals first
        | (exfalso; omega)
        | exact ret_agg_dL isRet_r rfl rfl rfl rfl rfl rfl rfl
    · have e : atM t slot = match fstO t.cells (fun c => decide (c.slot = slot % t.len)) with
          | some i => (t.cells.getD i default, true)
          | none => (noC, false) := by rw [atM, if_neg (by omega)]
      rw [bsSl_fst (checkT_srt hc)] at e
      repeat' (first
        | (show VR _ _ _ (_ :: _) _ _ _; first | refine x_opF rfl (by first | exact True.intro | omega) ?_ | (show VR _ _ _ (⟨_, .call ⟨.value _, _, _⟩, _, _, _, _⟩ :: _) _ _ _; first | refine vr_calldU (hck) (gk rfl) rfl rfl rfl (by first | rfl | (simp only [wfRes, wfL, wfArgs, List.all_cons, List.all_nil, rowOf_blk]; rfl)) rfl (by first | exact newB_O | rfl) rfl ?_ | refine vr_callU [] (searchSl_spec t.cells _ (by omega)) (gk rfl) rfl (by (repeat' (first | exact .nil | refine .cons ?_ ?_ | exact .of0 (.c .d) | exact .of0 .ep | exact .clo | exact (at1_fnc) | exact .of0 (.c .nil) | exact .of0 (.c (cr_rowO (by simp) rfl (by first | rfl | omega) (fun _ => rfl))) | refine .of0 (.agg ?_) | exact .d | exact .nil | exact .of0 (.c (cr_row (by decide) rfl rfl (by repeat' (first | exact trivial | refine ⟨?_, ?_⟩ | rfl)))))) <;> fail) (by first | rfl | exact hfl_O (fun _ => rfl) | exact hfl_O2 rfl (fun _ => rfl)) rfl (by first | rfl | (simp only [wfRes, wfL, wfArgs, List.all_cons, List.all_nil, rowOf_blk]; rfl)) rfl (by first | exact newB_O | rfl) rfl ?_) | (show VR _ _ _ (⟨_, .indexAddr _ _ _, _, _, _, _⟩ :: _) _ _ _; first | refine vr_index_rd (gk rfl) rfl rfl rfl rfl rfl (by omega) rfl ?_) | (refine x_gsplit rfl ?_ ?_ <;> intro h <;> have hq := h <;> (try simp only [decide_eq_true_eq, decide_eq_false_iff_not, Int.not_lt, Int.not_le, ne_eq, Decidable.not_not, Bool.not_eq_true', Bool.not_eq_false'] at hq)))
        | (show VR _ _ _ [] _ _ _; first | refine vr_nil ?_ | refine vr_nil_t (by kernel_rfl) ?_)
        | (show thenQ _ _ _ _; first | refine q_then_n ?_ | refine q_then_r ?_)
        | refine vc_seq ?_
        | refine vc_region ?_ | refine vc_region_t ?_
        | (show VC _ (.cond _ _ _) _ _; first | refine vc_cond_f rfl ?_ | (refine x_cond rfl ?_ ?_ <;> intro h <;> have hq := h <;> (try simp only [decide_eq_true_eq, decide_eq_false_iff_not, Int.not_lt, Int.not_le, ne_eq, Decidable.not_not, Bool.not_eq_true', Bool.not_eq_false'] at hq)))
        | refine vc_ret ?_ | refine vc_skip ?_
        | fail)
      all_goals first
        | (exfalso; omega)
        | skip
      · rw [if_pos ⟨by omega, hq⟩] at e
        rw [e]
        exact ret_agg_dL isRet_r rfl rfl rfl rfl rfl rfl rfl
      all_goals
        rw [if_neg (by omega)] at e
        rw [e]
        exact ret_agg_dL isRet_r rfl rfl rfl rfl rfl rfl rfl
  · have e : atM t slot = (noC, false) := by rw [atM, if_pos (.inl hc)]
    rw [e]
    repeat' (first
      | (show VR _ _ _ (_ :: _) _ _ _; first | refine x_opF rfl (by first | exact True.intro | omega) ?_ | (show VR _ _ _ (⟨_, .call ⟨.value _, _, _⟩, _, _, _, _⟩ :: _) _ _ _; first | refine vr_calldU (hck) (gk rfl) rfl rfl rfl (by first | rfl | (simp only [wfRes, wfL, wfArgs, List.all_cons, List.all_nil, rowOf_blk]; rfl)) rfl (by first | exact newB_O | rfl) rfl ?_) | (refine x_gsplit rfl ?_ ?_ <;> intro h <;> have hq := h <;> (try simp only [decide_eq_true_eq, decide_eq_false_iff_not, Int.not_lt, Int.not_le, ne_eq, Decidable.not_not, Bool.not_eq_true', Bool.not_eq_false'] at hq)))
      | (show VR _ _ _ [] _ _ _; first | refine vr_nil ?_)
      | (show thenQ _ _ _ _; first | refine q_then_n ?_ | refine q_then_r ?_)
      | refine vc_seq ?_
      | refine vc_region ?_ | refine vc_region_t ?_
      | (show VC _ (.cond _ _ _) _ _; first | refine vc_cond_t rfl ?_ | (refine x_cond rfl ?_ ?_ <;> intro h <;> have hq := h <;> (try simp only [decide_eq_true_eq, decide_eq_false_iff_not, Int.not_lt, Int.not_le, ne_eq, Decidable.not_not, Bool.not_eq_true', Bool.not_eq_false'] at hq)))
      | refine vc_ret ?_ | refine vc_skip ?_
      | fail)
    all_goals first
      | (exfalso; omega)
      | exact ret_agg_dL isRet_r rfl rfl rfl rfl rfl rfl rfl
set_option maxHeartbeats 1000000 in
theorem r_at_spec (t : Tb) (slot : Int) : FnS Tryz.prog 22 [tbA t, AI slot] [] (.tup [tcA (atM t slot).1, AB (atM t slot).2]) [] := by
  have hck := r_checkT_spec t
  refine FnS.of_body (enters_of Tryz.func22 (by kernel_rfl) rfl) Tryz.func22 rfl Tryz.ntmps22 Tryz.results22 rfl rfl rfl rfl fun E hS => ?_
  by_cases hc : checkT t = 0
  · rw [hc] at hck
    have hl := checkT_len hc
    by_cases hs : slot < 0
    · have e : atM t slot = (noC, false) := by rw [atM, if_pos (.inr hs)]
      rw [e]
      repeat' (first
        | (show VR _ _ _ (_ :: _) _ _ _; first | refine x_opF rfl (by first | exact True.intro | omega) ?_ | (show VR _ _ _ (⟨_, .call ⟨.value _, _, _⟩, _, _, _, _⟩ :: _) _ _ _; first | refine vr_calldU (hck) (gk rfl) rfl rfl rfl (by first | rfl | (simp only [wfRes, wfL, wfArgs, List.all_cons, List.all_nil, rowOf_blk]; rfl)) rfl (by first | exact newB_O | rfl) rfl ?_))
        | (show VR _ _ _ [] _ _ _; first | refine vr_nil ?_)
        | (show thenQ _ _ _ _; first | refine q_then_n ?_ | refine q_then_r ?_)
        | refine vc_seq ?_
        | refine vc_region ?_
        | (show VC _ (.cond _ _ _) _ _; first | (refine x_cond rfl ?_ ?_ <;> intro h <;> have hq := h <;> (try simp only [decide_eq_true_eq, decide_eq_false_iff_not, Int.not_lt, Int.not_le, ne_eq, Decidable.not_not, Bool.not_eq_true', Bool.not_eq_false'] at hq)))
        | refine vc_ret ?_ | refine vc_block ?_ | refine vc_skip ?_
        | fail)
      all_goals first
        | (exfalso; omega)
        | exact ret_agg_dL isRet_r rfl rfl rfl rfl rfl rfl rfl
    · have e : atM t slot = match fstO t.cells (fun c => decide (c.slot = slot % t.len)) with
          | some i => (t.cells.getD i default, true)
          | none => (noC, false) := by rw [atM, if_neg (by omega)] <;> rfl
      repeat' (first
        | (show VR _ _ _ (_ :: _) _ _ _; first | refine x_opF rfl (by first | exact True.intro | omega) ?_ | (show VR _ _ _ (⟨_, .call ⟨.value _, _, _⟩, _, _, _, _⟩ :: _) _ _ _; first | refine vr_calldU (hck) (gk rfl) rfl rfl rfl (by first | rfl | (simp only [wfRes, wfL, wfArgs, List.all_cons, List.all_nil, rowOf_blk]; rfl)) rfl (by first | exact newB_O | rfl) rfl ?_))
        | (show VR _ _ _ [] _ _ _; first | refine vr_nil ?_)
        | (show thenQ _ _ _ _; first | refine q_then_n ?_ | refine q_then_r ?_)
        | refine vc_seq ?_
        | refine vc_region ?_
        | (show VC _ (.cond _ _ _) _ _; first | (refine x_cond rfl ?_ ?_ <;> intro h <;> have hq := h <;> (try simp only [decide_eq_true_eq, decide_eq_false_iff_not, Int.not_lt, Int.not_le, ne_eq, Decidable.not_not, Bool.not_eq_true', Bool.not_eq_false'] at hq)))
        | refine vc_ret ?_ | refine vc_block ?_ | refine vc_skip ?_
        | fail)
      all_goals first
        | (exfalso; omega)
        | skip
      refine vc_loopI (ι := Nat) (fun k => stOf [(1, AI slot), (2, .c (.ptr 2 0)), (4, .c (.ptr 4 0)), (6, AI k)] [(2, .box t.cs), (4, .box noC.cs)]) (fun k => k ≤ t.cells.length ∧ ∀ i, i < k → decide ((t.cells.getD i default).slot = slot % t.len) = false) (fun k => t.cells.length - k) 0 ⟨Nat.zero_le _, fun i hi => absurd hi (Nat.not_lt_zero _)⟩ ?_ ?_
      · refine le_gen0 (fun n => n) ?_ ?_ rfl (by first | rfl | (simp only [wfL, List.all_cons, List.all_nil, rowOf_blk]; rfl))
        all_goals repeat' (first | exact trivial | refine ⟨⟨_, rfl, ?_⟩, ?_⟩ | exact .c .d | exact .c (.ptr rfl) | exact .boxD rfl rfl | fail)
      · intro k hk
        repeat' (first
          | (show VR _ _ _ (_ :: _) _ _ _; first | refine x_opF rfl (by first | exact True.intro | omega) ?_ | (show VR _ _ _ (⟨_, .indexAddr _ _ _, _, _, _, _⟩ :: _) _ _ _; first | refine vr_index_rd (gk rfl) rfl rfl rfl rfl rfl (by omega) rfl ?_))
          | (show VR _ _ _ [] _ _ _; first | refine vr_nil ?_ | refine vr_nil_t (by kernel_rfl) ?_)
          | (show thenQ _ _ _ _; first | refine q_then_n ?_ | refine q_then_x ?_ | refine q_then_r ?_)
          | (show blockQ _ _ _ _; first | refine q_blk_n ?_ | refine q_blk_r ?_ | refine q_blk_x ?_)
          | refine vc_seq ?_
          | refine vc_region ?_ | refine vc_region_t ?_
          | (show VC _ (.cond _ _ _) _ _; first | (refine x_cond rfl ?_ ?_ <;> intro h <;> have hq := h <;> (try simp only [decide_eq_true_eq, decide_eq_false_iff_not, Int.not_lt, Int.not_le, ne_eq, Decidable.not_not, Bool.not_eq_true', Bool.not_eq_false'] at hq)))
          | refine vc_ret ?_ | refine vc_exit ?_ | refine vc_block ?_ | refine vc_skip ?_
          | fail)
        · rw [fstO_hit (l := t.cells) (p := fun c : TC => decide (c.slot = slot % t.len)) hk.2 (by omega) (decide_eq_true hq)] at e
          rw [e]
          exact ret_agg_dL isRet_r rfl rfl rfl rfl rfl rfl rfl
        · refine ⟨k + 1, ⟨by omega, fun i hi => ?_⟩, by omega, ?_⟩
          · by_cases hik : i < k
            · exact hk.2 i hik
            · have : i = k := by omega
              subst this
              exact decide_eq_false hq
          · refine le_gen0 (fun n => n) ?_ ?_ rfl (by first | rfl | (simp only [wfL, List.all_cons, List.all_nil, rowOf_blk]; rfl))
            all_goals repeat' (first | exact trivial | refine ⟨⟨_, rfl, ?_⟩, ?_⟩ | exact .c .d | exact .c (.ptr rfl) | exact .boxD rfl rfl | fail)
        · rw [fstO_none (l := t.cells) (p := fun c : TC => decide (c.slot = slot % t.len)) fun i hi => hk.2 i (by omega)] at e
          rw [e]
          exact ret_agg_dL isRet_r rfl rfl rfl rfl rfl rfl rfl
  · have e : atM t slot = (noC, false) := by rw [atM, if_pos (.inl hc)]
    rw [e]
    repeat' (first
      | (show VR _ _ _ (_ :: _) _ _ _; first | refine x_opF rfl (by first | exact True.intro | omega) ?_ | (show VR _ _ _ (⟨_, .call ⟨.value _, _, _⟩, _, _, _, _⟩ :: _) _ _ _; first | refine vr_calldU (hck) (gk rfl) rfl rfl rfl (by first | rfl | (simp only [wfRes, wfL, wfArgs, List.all_cons, List.all_nil, rowOf_blk]; rfl)) rfl (by first | exact newB_O | rfl) rfl ?_) | (refine x_gsplit rfl ?_ ?_ <;> intro h <;> have hq := h <;> (try simp only [decide_eq_true_eq, decide_eq_false_iff_not, Int.not_lt, Int.not_le, ne_eq, Decidable.not_not, Bool.not_eq_true', Bool.not_eq_false'] at hq)))
      | (show VR _ _ _ [] _ _ _; first | refine vr_nil ?_)
      | (show thenQ _ _ _ _; first | refine q_then_n ?_ | refine q_then_r ?_)
      | refine vc_seq ?_
      | refine vc_region ?_
      | (show VC _ (.cond _ _ _) _ _; first | refine vc_cond_t rfl ?_ | (refine x_cond rfl ?_ ?_ <;> intro h <;> have hq := h <;> (try simp only [decide_eq_true_eq, decide_eq_false_iff_not, Int.not_lt, Int.not_le, ne_eq, Decidable.not_not, Bool.not_eq_true', Bool.not_eq_false'] at hq)))
      | refine vc_ret ?_ | refine vc_block ?_ | refine vc_skip ?_
      | fail)
    all_goals first
      | (exfalso; omega)
      | exact ret_agg_dL isRet_r rfl rfl rfl rfl rfl rfl rfl
end Go.Proofs.T
