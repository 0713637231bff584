/-
  What functions of the given program hand back, by walks over its code, and plain laws on that. No condition.
-/
import Derived.Test.YtplonmkbgocmlaaSxP24h
-- SXS
-- SXB
-- SXM
namespace Go.Proofs
open Go Go.Sx
set_option maxRecDepth 4000
set_option linter.unusedSimpArgs false
set_option linter.unusedVariables false
attribute [local irreducible] VR VC thenQ blockQ retL
/-! Right lists. -/
theorem firstErr_zero {n : Nat} {f : Nat → Int} (h : firstErr n f = 0) : ∀ i, i < n → f i = 0 := by
  intro i hi
  unfold firstErr at h
  cases hf : (List.range n).find? (fun i => f i != 0) with
  | none =>
    have := List.find?_eq_none.1 hf i (List.mem_range.2 hi)
    simpa using this
  | some k =>
    rw [hf] at h
    have := List.find?_some hf
    have h : f k = 0 := h
    rw [h] at this; cases this
structure OkR (l : List RP) : Prop where
  form : ∀ i, i < l.length → formR (l.getD i default) = 0
  up : ∀ i, i + 1 < l.length → (l.getD i default).node < (l.getD (i + 1) default).node
theorem okR_of {l : List RP} (h : checkR l = 0) : OkR l := by
  have h0 := firstErr_zero h
  refine ⟨fun i hi => ?_, fun i hi => ?_⟩
  · have := h0 i hi
    unfold rpErr at this
    split at this
    · rename_i h1; exact absurd this h1
    · rename_i h1; exact Classical.not_not.1 h1
  · have := h0 (i + 1) hi
    unfold rpErr at this
    split at this
    · rename_i h1; exact absurd this h1
    · split at this
      · cases this
      · rename_i h2
        rw [Nat.add_sub_cancel] at h2
        omega
theorem okR_check {l : List RP} (h : OkR l) : checkR l = 0 := by
  refine firstErr_none fun i hi => ?_
  rw [rpErr, if_neg (by rw [h.form i hi]; simp), if_neg]
  rintro ⟨h1, h2⟩
  have := h.up (i - 1) (by omega)
  rw [Nat.sub_add_cancel h1] at this
  omega
theorem formR_ok {r : RP} (h : formR r = 0) : 1 ≤ r.node ∧ r.node < 32 ∧ (r.parent = -1 ∨ (0 ≤ r.parent ∧ r.parent < 32)) ∧ 1 ≤ r.number ∧ r.number ≤ 2147483647 ∧ r.parent ≠ r.node := by
  unfold formR nodeB at h
  split at h
  · cases h
  · rename_i h1
    split at h
    · cases h
    · rename_i h2
      simp only [decide_eq_false_iff_not] at h1
      omega
theorem OkR.lt {l : List RP} (h : OkR l) : ∀ (j i : Nat), i < j → j < l.length → (l.getD i default).node < (l.getD j default).node
  | 0, i, hij, _ => absurd hij (Nat.not_lt_zero _)
  | j + 1, i, hij, hj => by
    have h1 := h.up j hj
    rcases Nat.lt_or_ge i j with h2 | h2
    · have := h.lt j i h2 (by omega); omega
    · have : i = j := by omega
      subst this; exact h1
theorem OkR.ge {l : List RP} (h : OkR l) : ∀ (i : Nat), i < l.length → (i : Int) + 1 ≤ (l.getD i default).node
  | 0, hi => (formR_ok (h.form 0 hi)).1
  | i + 1, hi => by have := h.ge i (by omega); have := h.up i hi; omega
theorem OkR.len {l : List RP} (h : OkR l) : l.length ≤ 31 := by
  rcases Nat.eq_zero_or_pos l.length with h0 | h0
  · omega
  · have h1 := h.ge (l.length - 1) (by omega)
    have h2 := (formR_ok (h.form (l.length - 1) (by omega))).2.1
    omega
theorem cmpI_lt {a b : Int} : decide (cmpI a b < 0) = decide (a < b) := by
  unfold cmpI
  refine decide_eq_decide.2 ?_
  split
  · omega
  · split <;> omega
theorem cmpI_eq {a b : Int} : cmpI a b = 0 ↔ a = b := by
  unfold cmpI; split
  · constructor
    · intro h; omega
    · intro h; omega
  · split
    · constructor
      · intro h; omega
      · intro h; omega
    · constructor
      · intro _; omega
      · intro _; rfl
theorem OkR.bs {l : List RP} (h : OkR l) (t : Int) : bsRp l t ≤ l.length ∧ (∀ a, a < bsRp l t → (l.getD a default).node < t) ∧ ∀ a, bsRp l t ≤ a → a < l.length → t ≤ (l.getD a default).node := by
  have hb := bs_spec (f := fun i => decide (cmpI (l.getD i default).node t < 0)) (n := l.length) (by
    intro a b hab hb hf
    rw [cmpI_lt, decide_eq_true_eq] at hf ⊢
    have := h.lt b a hab hb
    omega)
  refine ⟨hb.1, fun a ha => ?_, fun a h1 h2 => ?_⟩
  · have := hb.2.1 a ha
    rw [cmpI_lt, decide_eq_true_eq] at this; exact this
  · have := hb.2.2 a h1 h2
    rw [cmpI_lt, decide_eq_false_iff_not] at this; omega
theorem found_iff {l : List RP} {t : Int} : foundRp l t = true ↔ bsRp l t < l.length ∧ (l.getD (bsRp l t) default).node = t := by
  unfold foundRp
  rw [Bool.and_eq_true, decide_eq_true_eq, decide_eq_true_eq, cmpI_eq]
theorem OkR.fst {l : List RP} (h : OkR l) (t : Int) : fstO l (fun y => decide (y.node = t)) = if foundRp l t = true then some (bsRp l t) else none := by
  obtain ⟨h1, h2, h3⟩ := h.bs t
  split
  · rename_i hf
    obtain ⟨h4, h5⟩ := found_iff.1 hf
    exact fstO_hit (l := l) (p := fun y : RP => decide (y.node = t)) (fun i hi => decide_eq_false (by have := h2 i hi; omega)) h4 (decide_eq_true h5)
  · rename_i hf
    refine fstO_none fun i hi => decide_eq_false fun e => hf (found_iff.2 ?_)
    have h6 : bsRp l t ≤ i := by
      rcases Nat.lt_or_ge i (bsRp l t) with h7 | h7
      · have := h2 i h7; omega
      · exact h7
    rcases Nat.lt_or_ge (bsRp l t) i with h7 | h7
    · have := h.lt i (bsRp l t) h7 hi
      have := h3 _ (Nat.le_refl _) (by omega)
      omega
    · have : i = bsRp l t := by omega
      subst this
      exact ⟨hi, e⟩
theorem OkR.index {l : List RP} (h : OkR l) (t : Int) : oI (fstO l fun y => decide (y.node = t)) = if foundRp l t = true then (bsRp l t : Int) else -1 := by
  rw [h.fst t]; split <;> rfl
/-! Put. -/
def putM (l : List RP) (r : RP) : List RP × Bool × Int := if checkR l ≠ 0 then ([], false, 1) else if formR r ≠ 0 then ([], false, formR r) else
  if foundRp l r.node = true then (if r.number ≤ (l.getD (bsRp l r.node) default).number then (l, false, 0) else (l.set (bsRp l r.node) r, true, 0)) else (insAt l (bsRp l r.node) r, true, 0)
set_option maxHeartbeats 2000000 in
theorem put_spec (l : List RP) (r : RP) : FnS Try.prog 11 [AD (rps l), rpA r] [] (.tup [AD (rps (putM l r).1), AB (putM l r).2.1, AI (putM l r).2.2]) [] := by
  have hck := checkR_spec l
  have hfm := form_spec r
  refine FnS.of_body (enters_of Try.func11 (by kernel_rfl) rfl) Try.func11 rfl Try.ntmps11 Try.results11 rfl rfl rfl rfl fun E hS => ?_
  refine vc_retL ?_
  by_cases hc : checkR l = 0
  · have hok := okR_of hc
    have hl := hok.len
    rw [hc] at hck
    by_cases hf : formR r = 0
    · rw [hf] at hfm
      have hfd := find_spec l r.node (by omega)
      obtain ⟨hb1, hb2, hb3⟩ := hok.bs r.node
      cases hfo : foundRp l r.node with
      | true =>
        rw [hfo] at hfd
        obtain ⟨h4, h5⟩ := found_iff.1 hfo
        have e : putM l r = if r.number ≤ (l.getD (bsRp l r.node) default).number then (l, false, 0) else (l.set (bsRp l r.node) r, true, 0) := by rw [putM, if_neg (by simp [hc]), if_neg (by simp [hf]), if_pos hfo]
        rw [e]
        repeat' (first
          | (show VR _ _ _ (_ :: _) _ _ _; first | (show VR _ _ _ (⟨_, .alloc _, _, _, _, _⟩ :: _) _ _ _; first | refine vr_allocArr (gk rfl) rfl rfl (by decide) rfl rfl ?_) | (show VR _ _ _ (⟨_, .load _ _, _, _, _, _⟩ :: _) _ _ _; first | refine vr_loadArr (gk rfl) rfl rfl rfl (by first | assumption | rfl | ((try simp only [lns]); first | assumption | omega)) rfl rfl ?_) | (show VR _ _ _ (⟨_, .store _ _ _, _, _, _, _⟩ :: _) _ _ _; first | refine vr_storeB (gk rfl) rfl rfl rfl (by omega) rfl ?_ | refine vr_storeI (gk rfl) rfl rfl rfl (by first | omega | ((try simp only [lns]); omega)) rfl ?_ | refine vr_storeArr (gk rfl) rfl rfl rfl (by first | assumption | rfl | ((try simp only [lns]); first | assumption | omega)) (by first | assumption | rfl | ((try simp only [lns]); first | assumption | omega)) rfl ?_) | (show VR _ _ _ (⟨_, .indexAddr _ _ _, _, _, _, _⟩ :: _) _ _ _; first | refine vr_indexArrN (gk rfl) rfl rfl rfl rfl rfl (by omega) rfl ?_ | refine vr_indexArr (gk rfl) rfl rfl rfl rfl (by omega) (by omega) rfl ?_ | refine vr_indexBox (gk rfl) rfl rfl rfl (by decide) (by decide) rfl rfl ?_) | (show VR _ _ _ (⟨_, .binOp _ _ _ _ _, _, _, _, _⟩ :: _) _ _ _; first | refine vr_eqlArr (gk rfl) rfl rfl rfl rfl rfl (by first | assumption | rfl | ((try simp only [lns]); first | assumption | omega)) (by first | assumption | rfl | ((try simp only [lns]); first | assumption | omega)) (by kernel_rfl) rfl ?_ | refine vr_eqlStr (gk rfl) rfl rfl rfl rfl ?_ | refine vr_neqStr (gk rfl) rfl rfl rfl rfl ?_ | refine vr_eqlNil (gk rfl) rfl rfl rfl ?_ | refine vr_neqNil (gk rfl) rfl rfl rfl ?_ | refine vr_eqlRd (gk rfl) rfl rfl (by omega) rfl ?_ | refine vr_neqRd (gk rfl) rfl rfl (by omega) rfl ?_) | (show VR _ _ _ (⟨_, .slice _ _ _ _ _, _, _, _, _⟩ :: _) _ _ _; first | refine vr_tailStr (gk rfl) rfl rfl (by omega) rfl ?_) | (show VR _ _ _ (⟨_, .convert _ _ _, _, _, _, _⟩ :: _) _ _ _; first | refine vr_convStr (gk rfl) rfl rfl (by first | rfl | exact rowOf_length.symm | (simp only [lns] <;> omega)) rfl rfl rfl rfl ?_ | refine vr_convNil (gk rfl) rfl rfl rfl rfl rfl ?_) | refine x_opF rfl (by first | exact True.intro | omega) ?_ | (show VR _ _ _ (⟨_, .call ⟨.value _, _, _⟩, _, _, _, _⟩ :: _) _ _ _; first | refine vr_calldU (hck) (gk rfl) rfl rfl rfl (by first | rfl | (simp only [wfRes, wfL, wfArgs, wfs, mpO_namesB, mpO_namesI]; rfl)) rfl (by first | exact newB_O | rfl) rfl ?_ | refine vr_calldU (hfm) (gk rfl) rfl rfl rfl (by first | rfl | (simp only [wfRes, wfL, wfArgs, wfs, mpO_namesB, mpO_namesI]; rfl)) rfl (by first | exact newB_O | rfl) rfl ?_ | refine vr_calldU (clone_RP l (by omega)) (gk rfl) rfl rfl rfl (by first | rfl | (simp only [wfRes, wfL, wfArgs, wfs, mpO_namesB, mpO_namesI]; rfl)) rfl (by first | exact newB_O | rfl) rfl ?_ | refine vr_calldU (hfd) (gk rfl) rfl rfl rfl (by first | rfl | (simp only [wfRes, wfL, wfArgs, wfs, mpO_namesB, mpO_namesI]; rfl)) rfl (by first | exact newB_O | rfl) rfl ?_) | (show VR _ _ _ (⟨_, .indexAddr _ _ _, _, _, _, _⟩ :: _) _ _ _; first | refine vr_index_rd (gk rfl) rfl rfl rfl rfl rfl (by omega) rfl ?_ | refine vr_index_rdP (gk rfl) rfl rfl rfl rfl rfl (by omega) rfl ?_ | refine vr_index_rdN (gk rfl) rfl rfl rfl rfl (by first | omega | decide) rfl ?_ | refine vr_index_rowO (gk rfl) rfl rfl rfl rfl rfl rfl (by omega) (by omega) rfl ?_ | refine vr_index_row (gk rfl) rfl rfl rfl rfl rfl rfl (by omega) (by omega) rfl ?_ | refine vr_index_rowN (gk rfl) rfl rfl rfl rfl rfl (by omega) (by first | rfl | exact rowOf_length.symm | (simp only [lns] <;> omega)) rfl ?_) | (show VR _ _ _ (⟨_, .index _ _ _, _, _, _, _⟩ :: _) _ _ _; first | refine vr_indexStr (m := 0) (gk rfl) rfl rfl rfl (by decide) (by omega) rfl rfl ?_ | refine vr_indexStr (gk rfl) rfl rfl rfl (by omega) (by omega) (by first | exact (Int.toNat_natCast _).symm | rfl) rfl ?_) | (show VR _ _ _ (⟨_, .nilCheck _, _, _, _, _⟩ :: _) _ _ _; first | refine vr_nilCheck_rp (gk rfl) rfl rfl ?_ | refine vr_nilCheck_ptr (gk rfl) rfl rfl ?_ | refine vr_nilCheck_ep (gk rfl) rfl rfl ?_) | (show VR _ _ _ (⟨_, .load _ _, _, _, _, _⟩ :: _) _ _ _; first | refine vr_load_rowO_agg (gk rfl) rfl rfl (by omega) rfl rfl rfl ?_ | refine vr_load_rowO (gk rfl) rfl rfl (by omega) rfl rfl rfl ?_ | refine vr_load_rowS_agg (gk rfl) rfl rfl (by omega) rfl rfl rfl ?_ | refine vr_load_rowS (gk rfl) rfl rfl (by omega) rfl rfl rfl ?_) | (show VR _ _ _ (⟨_, .store _ _ _, _, _, _, _⟩ :: _) _ _ _; first | refine vr_store_rowO (gk rfl) rfl rfl rfl (by omega) rfl rfl rfl ?_ | refine vr_store_rowS (gk rfl) rfl rfl rfl (by omega) rfl rfl rfl ?_) | refine x_gknow rfl (by assumption) ?_ | (refine x_gsplit rfl ?_ ?_ <;> intro h <;> have hq := h <;> (try simp only [hqs] at hq)))
          | (show VR _ _ _ [] _ _ _; first | refine vr_nil ?_ | refine vr_nil_t (by kernel_rfl) ?_)
          | (show thenQ _ _ _ _; first | refine q_then_n ?_ | refine q_then_x ?_ | refine q_then_r ?_)
          | (show blockQ _ _ _ _; first | refine q_blk_n ?_ | refine q_blk_r ?_ | refine q_blk_x ?_ | refine q_blk_o rfl ?_)
          | refine vc_seq ?_
          | refine vc_region ?_ | refine vc_region_t ?_
          | (show VC _ (.cond _ _ _) _ _; first | refine vc_cond_t rfl ?_ | refine vc_cond_f rfl ?_ | refine x_know rfl (by assumption) ?_ | (refine x_cond rfl ?_ ?_ <;> intro h <;> have hq := h <;> (try simp only [hqs] at hq)))
          | refine vc_ret ?_ | refine vc_exit ?_ | refine vc_block ?_ | refine vc_skip ?_ | refine vc_label ?_)
        · rw [if_pos hq]
          refine retL_of (le_gen (l := [(4, AD (rps l)), (5, AB false), (6, AI 0)]) (b := []) (fun n => n) [20007] hS ?_ ?_ rfl (by first | rfl | (simp only [wfL, wfs, mpO_namesB, mpO_namesI]; rfl))) (ret_d3 isRet_r rfl rfl rfl rfl rfl rfl)
          all_goals repeat' (first | exact trivial | refine ⟨⟨_, rfl, ?_⟩, ?_⟩ | exact .c .d | exact .clo | exact .ep | exact .c (.ptr rfl) | exact .rp rfl | exact .c (.mp rfl) | exact .c (.fn rfl) | exact .c (.row rfl rfl) | exact .c .nil | (refine .c (.row rfl ?_); ((try dsimp only); first | rfl | omega | (simp only [lns] <;> omega)); done) | (refine .c (cw_eq ?_); first | rfl | (congr 1; omega); done) | exact .c (.frzOf (by simp) rfl rfl (fun _ => rfl)) | (refine .c (.frzOf (by simp) rfl ?_ (fun _ => rfl)); ((try dsimp only); first | rfl | omega | (simp only [lns] <;> omega)); done) | exact .boxD rfl rfl | exact .pin rfl | exact .mapO (fun _ => rfl) rfl | (refine .mapO (fun _ => rfl) ?_; ((try dsimp only); first | rfl | omega | (simp only [lns] <;> omega)); done) | exact .rowD rfl rowOf_isD | exact .rowD (rowOf_append.symm) rowOf_isD | exact .rowD (rowOf_set rfl) rowOf_isD | (refine .rowD ?_ rowOf_isD; rw [rowOf_append]; rfl) | (refine .rowD ?_ rowOf_isD; simp only [rowOf_append, List.append_assoc]; rfl) | refine .agg ?_ | refine .fncC ?_ | refine .box ?_ | exact .nil | refine .cons ?_ ?_ | exact .d | exact .ptr rfl | exact .row rfl rfl | (refine .row rfl ?_; ((try dsimp only); first | rfl | omega | (simp only [lns] <;> omega)); done) | exact .frzOf (by simp) rfl rfl (fun _ => rfl) | (refine .frzOf (by simp) rfl ?_ (fun _ => rfl); ((try dsimp only); first | rfl | omega | (simp only [lns] <;> omega)); done))
        · rw [if_neg (by omega)]
          refine retL_of (le_gen (l := [(4, AD (rps (l.set (bsRp l r.node) r))), (5, AB true), (6, AI 0)]) (b := []) (fun n => n) [20007] hS ?_ ?_ rfl (by first | rfl | (simp only [wfL, wfs, mpO_namesB, mpO_namesI]; rfl))) (ret_d3 isRet_r rfl rfl rfl rfl rfl rfl)
          all_goals repeat' (first | exact trivial | refine ⟨⟨_, rfl, ?_⟩, ?_⟩ | exact .c .d | exact .clo | exact .ep | exact .c (.ptr rfl) | exact .rp rfl | exact .c (.mp rfl) | exact .c (.fn rfl) | exact .c (.row rfl rfl) | exact .c .nil | (refine .c (.row rfl ?_); ((try dsimp only); first | rfl | omega | (simp only [lns] <;> omega)); done) | (refine .c (cw_eq ?_); first | rfl | (congr 1; omega); done) | exact .c (.frzOf (by simp) rfl rfl (fun _ => rfl)) | (refine .c (.frzOf (by simp) rfl ?_ (fun _ => rfl)); ((try dsimp only); first | rfl | omega | (simp only [lns] <;> omega)); done) | exact .boxD rfl rfl | exact .pin rfl | exact .mapO (fun _ => rfl) rfl | (refine .mapO (fun _ => rfl) ?_; ((try dsimp only); first | rfl | omega | (simp only [lns] <;> omega)); done) | exact .rowD rfl rowOf_isD | exact .rowD (rowOf_append.symm) rowOf_isD | exact .rowD (rowOf_set rfl) rowOf_isD | (refine .rowD ?_ rowOf_isD; rw [rowOf_append]; rfl) | (refine .rowD ?_ rowOf_isD; simp only [rowOf_append, List.append_assoc]; rfl) | refine .agg ?_ | refine .fncC ?_ | refine .box ?_ | exact .nil | refine .cons ?_ ?_ | exact .d | exact .ptr rfl | exact .row rfl rfl | (refine .row rfl ?_; ((try dsimp only); first | rfl | omega | (simp only [lns] <;> omega)); done) | exact .frzOf (by simp) rfl rfl (fun _ => rfl) | (refine .frzOf (by simp) rfl ?_ (fun _ => rfl); ((try dsimp only); first | rfl | omega | (simp only [lns] <;> omega)); done))
          exact .c (.frzEq (by simp) rfl (rowOf_set rfl) (by simp) (fun _ => rfl))
      | false =>
        rw [hfo] at hfd
        have e : putM l r = (insAt l (bsRp l r.node) r, true, 0) := by rw [putM, if_neg (by simp [hc]), if_neg (by simp [hf]), if_neg (by rw [hfo]; simp)]
        rw [e]
        repeat' (first
          | (show VR _ _ _ (_ :: _) _ _ _; first | (show VR _ _ _ (⟨_, .alloc _, _, _, _, _⟩ :: _) _ _ _; first | refine vr_allocArr (gk rfl) rfl rfl (by decide) rfl rfl ?_) | (show VR _ _ _ (⟨_, .load _ _, _, _, _, _⟩ :: _) _ _ _; first | refine vr_loadArr (gk rfl) rfl rfl rfl (by first | assumption | rfl | ((try simp only [lns]); first | assumption | omega)) rfl rfl ?_) | (show VR _ _ _ (⟨_, .store _ _ _, _, _, _, _⟩ :: _) _ _ _; first | refine vr_storeB (gk rfl) rfl rfl rfl (by omega) rfl ?_ | refine vr_storeI (gk rfl) rfl rfl rfl (by first | omega | ((try simp only [lns]); omega)) rfl ?_ | refine vr_storeArr (gk rfl) rfl rfl rfl (by first | assumption | rfl | ((try simp only [lns]); first | assumption | omega)) (by first | assumption | rfl | ((try simp only [lns]); first | assumption | omega)) rfl ?_) | (show VR _ _ _ (⟨_, .indexAddr _ _ _, _, _, _, _⟩ :: _) _ _ _; first | refine vr_indexArrN (gk rfl) rfl rfl rfl rfl rfl (by omega) rfl ?_ | refine vr_indexArr (gk rfl) rfl rfl rfl rfl (by omega) (by omega) rfl ?_ | refine vr_indexBox (gk rfl) rfl rfl rfl (by decide) (by decide) rfl rfl ?_) | (show VR _ _ _ (⟨_, .binOp _ _ _ _ _, _, _, _, _⟩ :: _) _ _ _; first | refine vr_eqlArr (gk rfl) rfl rfl rfl rfl rfl (by first | assumption | rfl | ((try simp only [lns]); first | assumption | omega)) (by first | assumption | rfl | ((try simp only [lns]); first | assumption | omega)) (by kernel_rfl) rfl ?_ | refine vr_eqlStr (gk rfl) rfl rfl rfl rfl ?_ | refine vr_neqStr (gk rfl) rfl rfl rfl rfl ?_ | refine vr_eqlNil (gk rfl) rfl rfl rfl ?_ | refine vr_neqNil (gk rfl) rfl rfl rfl ?_ | refine vr_eqlRd (gk rfl) rfl rfl (by omega) rfl ?_ | refine vr_neqRd (gk rfl) rfl rfl (by omega) rfl ?_) | (show VR _ _ _ (⟨_, .slice _ _ _ _ _, _, _, _, _⟩ :: _) _ _ _; first | refine vr_tailStr (gk rfl) rfl rfl (by omega) rfl ?_) | (show VR _ _ _ (⟨_, .convert _ _ _, _, _, _, _⟩ :: _) _ _ _; first | refine vr_convStr (gk rfl) rfl rfl (by first | rfl | exact rowOf_length.symm | (simp only [lns] <;> omega)) rfl rfl rfl rfl ?_ | refine vr_convNil (gk rfl) rfl rfl rfl rfl rfl ?_) | refine x_opF rfl (by first | exact True.intro | omega) ?_ | (show VR _ _ _ (⟨_, .call ⟨.value _, _, _⟩, _, _, _, _⟩ :: _) _ _ _; first | refine vr_calldU (hck) (gk rfl) rfl rfl rfl (by first | rfl | (simp only [wfRes, wfL, wfArgs, wfs, mpO_namesB, mpO_namesI]; rfl)) rfl (by first | exact newB_O | rfl) rfl ?_ | refine vr_calldU (hfm) (gk rfl) rfl rfl rfl (by first | rfl | (simp only [wfRes, wfL, wfArgs, wfs, mpO_namesB, mpO_namesI]; rfl)) rfl (by first | exact newB_O | rfl) rfl ?_ | refine vr_calldU (clone_RP l (by omega)) (gk rfl) rfl rfl rfl (by first | rfl | (simp only [wfRes, wfL, wfArgs, wfs, mpO_namesB, mpO_namesI]; rfl)) rfl (by first | exact newB_O | rfl) rfl ?_ | refine vr_calldU (hfd) (gk rfl) rfl rfl rfl (by first | rfl | (simp only [wfRes, wfL, wfArgs, wfs, mpO_namesB, mpO_namesI]; rfl)) rfl (by first | exact newB_O | rfl) rfl ?_ | refine vr_callU [] (hck) (gk rfl) rfl (by (repeat' (first | exact .nil | refine .cons ?_ ?_ | exact .of0 (.c .d) | exact .of0 .ep | exact .clo | exact .of0 (.c .nil) | exact .of0 (.c (cr_rowO (by simp) rfl (by first | rfl | omega) (fun _ => rfl))) | refine .of0 (.agg ?_) | exact .d | exact .nil | exact .of0 (.c (cr_row (by decide) rfl rfl (by repeat' (first | exact trivial | refine ⟨?_, ?_⟩ | rfl)))))) <;> fail) (by first | rfl | exact hfl_O (fun _ => rfl) | exact hfl_O2 rfl (fun _ => rfl)) rfl (by first | rfl | (simp only [wfRes, wfL, wfArgs, wfs, mpO_namesB, mpO_namesI]; rfl)) rfl (by first | exact newB_O | rfl) rfl ?_ | refine vr_callU [] (hfm) (gk rfl) rfl (by (repeat' (first | exact .nil | refine .cons ?_ ?_ | exact .of0 (.c .d) | exact .of0 .ep | exact .clo | exact .of0 (.c .nil) | exact .of0 (.c (cr_rowO (by simp) rfl (by first | rfl | omega) (fun _ => rfl))) | refine .of0 (.agg ?_) | exact .d | exact .nil | exact .of0 (.c (cr_row (by decide) rfl rfl (by repeat' (first | exact trivial | refine ⟨?_, ?_⟩ | rfl)))))) <;> fail) (by first | rfl | exact hfl_O (fun _ => rfl) | exact hfl_O2 rfl (fun _ => rfl)) rfl (by first | rfl | (simp only [wfRes, wfL, wfArgs, wfs, mpO_namesB, mpO_namesI]; rfl)) rfl (by first | exact newB_O | rfl) rfl ?_ | refine vr_callU [] (clone_RP l (by omega)) (gk rfl) rfl (by (repeat' (first | exact .nil | refine .cons ?_ ?_ | exact .of0 (.c .d) | exact .of0 .ep | exact .clo | exact .of0 (.c .nil) | exact .of0 (.c (cr_rowO (by simp) rfl (by first | rfl | omega) (fun _ => rfl))) | refine .of0 (.agg ?_) | exact .d | exact .nil | exact .of0 (.c (cr_row (by decide) rfl rfl (by repeat' (first | exact trivial | refine ⟨?_, ?_⟩ | rfl)))))) <;> fail) (by first | rfl | exact hfl_O (fun _ => rfl) | exact hfl_O2 rfl (fun _ => rfl)) rfl (by first | rfl | (simp only [wfRes, wfL, wfArgs, wfs, mpO_namesB, mpO_namesI]; rfl)) rfl (by first | exact newB_O | rfl) rfl ?_ | refine vr_callU [] (hfd) (gk rfl) rfl (by (repeat' (first | exact .nil | refine .cons ?_ ?_ | exact .of0 (.c .d) | exact .of0 .ep | exact .clo | exact .of0 (.c .nil) | exact .of0 (.c (cr_rowO (by simp) rfl (by first | rfl | omega) (fun _ => rfl))) | refine .of0 (.agg ?_) | exact .d | exact .nil | exact .of0 (.c (cr_row (by decide) rfl rfl (by repeat' (first | exact trivial | refine ⟨?_, ?_⟩ | rfl)))))) <;> fail) (by first | rfl | exact hfl_O (fun _ => rfl) | exact hfl_O2 rfl (fun _ => rfl)) rfl (by first | rfl | (simp only [wfRes, wfL, wfArgs, wfs, mpO_namesB, mpO_namesI]; rfl)) rfl (by first | exact newB_O | rfl) rfl ?_ | refine vr_callMU [34] (insert_RP l (bsRp l r.node) r (by omega) hb1) (gk rfl) rfl rfl rowOf_isD rfl (by (repeat' (first | exact .nil | refine .cons ?_ ?_ | exact .of0 (.c .d) | exact .of0 .ep | exact .clo | exact .of0 (.c .nil) | exact .of0 (.c (cr_rowO (by simp) rfl (by first | rfl | omega) (fun _ => rfl))) | refine .of0 (.agg ?_) | exact .d | exact .nil | exact .of0 (.c (cr_row (by decide) rfl rfl (by repeat' (first | exact trivial | refine ⟨?_, ?_⟩ | rfl)))))) <;> fail) rfl (by first | rfl | exact hfl_O (fun _ => rfl) | exact hfl_O2 rfl (fun _ => rfl)) rfl (by first | rfl | (simp only [wfRes, wfL, wfArgs, wfs, mpO_namesB, mpO_namesI]; rfl)) rfl (by first | exact newB_O | rfl) rfl ?_) | (show VR _ _ _ (⟨_, .indexAddr _ _ _, _, _, _, _⟩ :: _) _ _ _; first | refine vr_index_rd (gk rfl) rfl rfl rfl rfl rfl (by omega) rfl ?_ | refine vr_index_rdP (gk rfl) rfl rfl rfl rfl rfl (by omega) rfl ?_ | refine vr_index_rdN (gk rfl) rfl rfl rfl rfl (by first | omega | decide) rfl ?_ | refine vr_index_rowO (gk rfl) rfl rfl rfl rfl rfl rfl (by omega) (by omega) rfl ?_ | refine vr_index_row (gk rfl) rfl rfl rfl rfl rfl rfl (by omega) (by omega) rfl ?_ | refine vr_index_rowN (gk rfl) rfl rfl rfl rfl rfl (by omega) (by first | rfl | exact rowOf_length.symm | (simp only [lns] <;> omega)) rfl ?_) | (show VR _ _ _ (⟨_, .index _ _ _, _, _, _, _⟩ :: _) _ _ _; first | refine vr_indexStr (m := 0) (gk rfl) rfl rfl rfl (by decide) (by omega) rfl rfl ?_ | refine vr_indexStr (gk rfl) rfl rfl rfl (by omega) (by omega) (by first | exact (Int.toNat_natCast _).symm | rfl) rfl ?_) | (show VR _ _ _ (⟨_, .nilCheck _, _, _, _, _⟩ :: _) _ _ _; first | refine vr_nilCheck_rp (gk rfl) rfl rfl ?_ | refine vr_nilCheck_ptr (gk rfl) rfl rfl ?_ | refine vr_nilCheck_ep (gk rfl) rfl rfl ?_) | (show VR _ _ _ (⟨_, .load _ _, _, _, _, _⟩ :: _) _ _ _; first | refine vr_load_rowO_agg (gk rfl) rfl rfl (by omega) rfl rfl rfl ?_ | refine vr_load_rowO (gk rfl) rfl rfl (by omega) rfl rfl rfl ?_ | refine vr_load_rowS_agg (gk rfl) rfl rfl (by omega) rfl rfl rfl ?_ | refine vr_load_rowS (gk rfl) rfl rfl (by omega) rfl rfl rfl ?_) | (show VR _ _ _ (⟨_, .store _ _ _, _, _, _, _⟩ :: _) _ _ _; first | refine vr_store_rowO (gk rfl) rfl rfl rfl (by omega) rfl rfl rfl ?_ | refine vr_store_rowS (gk rfl) rfl rfl rfl (by omega) rfl rfl rfl ?_) | refine x_gknow rfl (by assumption) ?_ | (refine x_gsplit rfl ?_ ?_ <;> intro h <;> have hq := h <;> (try simp only [hqs] at hq)))
          | (show VR _ _ _ [] _ _ _; first | refine vr_nil ?_ | refine vr_nil_t (by kernel_rfl) ?_)
          | (show thenQ _ _ _ _; first | refine q_then_n ?_ | refine q_then_x ?_ | refine q_then_r ?_)
          | (show blockQ _ _ _ _; first | refine q_blk_n ?_ | refine q_blk_r ?_ | refine q_blk_x ?_ | refine q_blk_o rfl ?_)
          | refine vc_seq ?_
          | refine vc_region ?_ | refine vc_region_t ?_
          | (show VC _ (.cond _ _ _) _ _; first | refine vc_cond_t rfl ?_ | refine vc_cond_f rfl ?_ | refine x_know rfl (by assumption) ?_ | (refine x_cond rfl ?_ ?_ <;> intro h <;> have hq := h <;> (try simp only [hqs] at hq)))
          | refine vc_ret ?_ | refine vc_exit ?_ | refine vc_block ?_ | refine vc_skip ?_ | refine vc_label ?_)
        refine retL_of (le_gen (l := [(4, AD (rps (insAt l (bsRp l r.node) r))), (5, AB true), (6, AI 0)]) (b := []) (fun n => n) [35001] hS ?_ ?_ rfl (by first | rfl | (simp only [wfL, wfs, mpO_namesB, mpO_namesI]; rfl))) (ret_d3 isRet_r rfl rfl rfl rfl rfl rfl)
        all_goals repeat' (first | exact trivial | refine ⟨⟨_, rfl, ?_⟩, ?_⟩ | exact .c .d | exact .clo | exact .ep | exact .c (.ptr rfl) | exact .rp rfl | exact .c (.mp rfl) | exact .c (.fn rfl) | exact .c (.row rfl rfl) | exact .c .nil | (refine .c (.row rfl ?_); ((try dsimp only); first | rfl | omega | (simp only [lns] <;> omega)); done) | (refine .c (cw_eq ?_); first | rfl | (congr 1; omega); done) | exact .c (.frzOf (by simp) rfl rfl (fun _ => rfl)) | (refine .c (.frzOf (by simp) rfl ?_ (fun _ => rfl)); ((try dsimp only); first | rfl | omega | (simp only [lns] <;> omega)); done) | exact .boxD rfl rfl | exact .pin rfl | exact .mapO (fun _ => rfl) rfl | (refine .mapO (fun _ => rfl) ?_; ((try dsimp only); first | rfl | omega | (simp only [lns] <;> omega)); done) | exact .rowD rfl rowOf_isD | exact .rowD (rowOf_append.symm) rowOf_isD | exact .rowD (rowOf_set rfl) rowOf_isD | (refine .rowD ?_ rowOf_isD; rw [rowOf_append]; rfl) | (refine .rowD ?_ rowOf_isD; simp only [rowOf_append, List.append_assoc]; rfl) | refine .agg ?_ | refine .fncC ?_ | refine .box ?_ | exact .nil | refine .cons ?_ ?_ | exact .d | exact .ptr rfl | exact .row rfl rfl | (refine .row rfl ?_; ((try dsimp only); first | rfl | omega | (simp only [lns] <;> omega)); done) | exact .frzOf (by simp) rfl rfl (fun _ => rfl) | (refine .frzOf (by simp) rfl ?_ (fun _ => rfl); ((try dsimp only); first | rfl | omega | (simp only [lns] <;> omega)); done))
        all_goals (simp only [insAt, List.length_append, List.length_cons, List.length_take, List.length_drop]; omega)
    · have e : putM l r = ([], false, formR r) := by rw [putM, if_neg (by simp [hc]), if_pos hf]
      rw [e]
      have hdd : decide (formR r ≠ 0) = true := decide_eq_true hf
      repeat' (first
        | (show VR _ _ _ (_ :: _) _ _ _; first | (show VR _ _ _ (⟨_, .alloc _, _, _, _, _⟩ :: _) _ _ _; first | refine vr_allocArr (gk rfl) rfl rfl (by decide) rfl rfl ?_) | (show VR _ _ _ (⟨_, .load _ _, _, _, _, _⟩ :: _) _ _ _; first | refine vr_loadArr (gk rfl) rfl rfl rfl (by first | assumption | rfl | ((try simp only [lns]); first | assumption | omega)) rfl rfl ?_) | (show VR _ _ _ (⟨_, .store _ _ _, _, _, _, _⟩ :: _) _ _ _; first | refine vr_storeB (gk rfl) rfl rfl rfl (by omega) rfl ?_ | refine vr_storeI (gk rfl) rfl rfl rfl (by first | omega | ((try simp only [lns]); omega)) rfl ?_ | refine vr_storeArr (gk rfl) rfl rfl rfl (by first | assumption | rfl | ((try simp only [lns]); first | assumption | omega)) (by first | assumption | rfl | ((try simp only [lns]); first | assumption | omega)) rfl ?_) | (show VR _ _ _ (⟨_, .indexAddr _ _ _, _, _, _, _⟩ :: _) _ _ _; first | refine vr_indexArrN (gk rfl) rfl rfl rfl rfl rfl (by omega) rfl ?_ | refine vr_indexArr (gk rfl) rfl rfl rfl rfl (by omega) (by omega) rfl ?_ | refine vr_indexBox (gk rfl) rfl rfl rfl (by decide) (by decide) rfl rfl ?_) | (show VR _ _ _ (⟨_, .binOp _ _ _ _ _, _, _, _, _⟩ :: _) _ _ _; first | refine vr_eqlArr (gk rfl) rfl rfl rfl rfl rfl (by first | assumption | rfl | ((try simp only [lns]); first | assumption | omega)) (by first | assumption | rfl | ((try simp only [lns]); first | assumption | omega)) (by kernel_rfl) rfl ?_ | refine vr_eqlStr (gk rfl) rfl rfl rfl rfl ?_ | refine vr_neqStr (gk rfl) rfl rfl rfl rfl ?_ | refine vr_eqlNil (gk rfl) rfl rfl rfl ?_ | refine vr_neqNil (gk rfl) rfl rfl rfl ?_ | refine vr_eqlRd (gk rfl) rfl rfl (by omega) rfl ?_ | refine vr_neqRd (gk rfl) rfl rfl (by omega) rfl ?_) | (show VR _ _ _ (⟨_, .slice _ _ _ _ _, _, _, _, _⟩ :: _) _ _ _; first | refine vr_tailStr (gk rfl) rfl rfl (by omega) rfl ?_) | (show VR _ _ _ (⟨_, .convert _ _ _, _, _, _, _⟩ :: _) _ _ _; first | refine vr_convStr (gk rfl) rfl rfl (by first | rfl | exact rowOf_length.symm | (simp only [lns] <;> omega)) rfl rfl rfl rfl ?_ | refine vr_convNil (gk rfl) rfl rfl rfl rfl rfl ?_) | refine x_opF rfl (by first | exact True.intro | omega) ?_ | (show VR _ _ _ (⟨_, .call ⟨.value _, _, _⟩, _, _, _, _⟩ :: _) _ _ _; first | refine vr_calldU (hck) (gk rfl) rfl rfl rfl (by first | rfl | (simp only [wfRes, wfL, wfArgs, wfs, mpO_namesB, mpO_namesI]; rfl)) rfl (by first | exact newB_O | rfl) rfl ?_ | refine vr_calldU (hfm) (gk rfl) rfl rfl rfl (by first | rfl | (simp only [wfRes, wfL, wfArgs, wfs, mpO_namesB, mpO_namesI]; rfl)) rfl (by first | exact newB_O | rfl) rfl ?_) | (show VR _ _ _ (⟨_, .indexAddr _ _ _, _, _, _, _⟩ :: _) _ _ _; first | refine vr_index_rd (gk rfl) rfl rfl rfl rfl rfl (by omega) rfl ?_ | refine vr_index_rdP (gk rfl) rfl rfl rfl rfl rfl (by omega) rfl ?_ | refine vr_index_rdN (gk rfl) rfl rfl rfl rfl (by first | omega | decide) rfl ?_ | refine vr_index_rowO (gk rfl) rfl rfl rfl rfl rfl rfl (by omega) (by omega) rfl ?_ | refine vr_index_row (gk rfl) rfl rfl rfl rfl rfl rfl (by omega) (by omega) rfl ?_ | refine vr_index_rowN (gk rfl) rfl rfl rfl rfl rfl (by omega) (by first | rfl | exact rowOf_length.symm | (simp only [lns] <;> omega)) rfl ?_) | (show VR _ _ _ (⟨_, .index _ _ _, _, _, _, _⟩ :: _) _ _ _; first | refine vr_indexStr (m := 0) (gk rfl) rfl rfl rfl (by decide) (by omega) rfl rfl ?_ | refine vr_indexStr (gk rfl) rfl rfl rfl (by omega) (by omega) (by first | exact (Int.toNat_natCast _).symm | rfl) rfl ?_) | (show VR _ _ _ (⟨_, .nilCheck _, _, _, _, _⟩ :: _) _ _ _; first | refine vr_nilCheck_rp (gk rfl) rfl rfl ?_ | refine vr_nilCheck_ptr (gk rfl) rfl rfl ?_ | refine vr_nilCheck_ep (gk rfl) rfl rfl ?_) | (show VR _ _ _ (⟨_, .load _ _, _, _, _, _⟩ :: _) _ _ _; first | refine vr_load_rowO_agg (gk rfl) rfl rfl (by omega) rfl rfl rfl ?_ | refine vr_load_rowO (gk rfl) rfl rfl (by omega) rfl rfl rfl ?_ | refine vr_load_rowS_agg (gk rfl) rfl rfl (by omega) rfl rfl rfl ?_ | refine vr_load_rowS (gk rfl) rfl rfl (by omega) rfl rfl rfl ?_) | (show VR _ _ _ (⟨_, .store _ _ _, _, _, _, _⟩ :: _) _ _ _; first | refine vr_store_rowO (gk rfl) rfl rfl rfl (by omega) rfl rfl rfl ?_ | refine vr_store_rowS (gk rfl) rfl rfl rfl (by omega) rfl rfl rfl ?_) | refine x_gknow rfl (by assumption) ?_ | (refine x_gsplit rfl ?_ ?_ <;> intro h <;> have hq := h <;> (try simp only [hqs] at hq)))
        | (show VR _ _ _ [] _ _ _; first | refine vr_nil ?_ | refine vr_nil_t (by kernel_rfl) ?_)
        | (show thenQ _ _ _ _; first | refine q_then_n ?_ | refine q_then_x ?_ | refine q_then_r ?_)
        | (show blockQ _ _ _ _; first | refine q_blk_n ?_ | refine q_blk_r ?_ | refine q_blk_x ?_ | refine q_blk_o rfl ?_)
        | refine vc_seq ?_
        | refine vc_region ?_ | refine vc_region_t ?_
        | (show VC _ (.cond _ _ _) _ _; first | refine vc_cond_t rfl ?_ | refine vc_cond_f rfl ?_ | refine x_know rfl (by assumption) ?_ | (refine x_cond rfl ?_ ?_ <;> intro h <;> have hq := h <;> (try simp only [hqs] at hq)))
        | refine vc_ret ?_ | refine vc_exit ?_ | refine vc_block ?_ | refine vc_skip ?_ | refine vc_label ?_)
      refine retL_of (le_gen0 (l := [(4, AD (rps [])), (5, AB false), (6, AI (formR r))]) (b := []) (fun n => n) ?_ ?_ rfl (by first | rfl | (simp only [wfL, wfs, mpO_namesB, mpO_namesI]; rfl))) (ret_d3 isRet_r rfl rfl rfl rfl rfl rfl)
      all_goals repeat' (first | exact trivial | refine ⟨⟨_, rfl, ?_⟩, ?_⟩ | exact .c .d | exact .clo | exact .ep | exact .c (.ptr rfl) | exact .rp rfl | exact .c (.mp rfl) | exact .c (.fn rfl) | exact .c (.row rfl rfl) | exact .c .nil | (refine .c (.row rfl ?_); ((try dsimp only); first | rfl | omega | (simp only [lns] <;> omega)); done) | (refine .c (cw_eq ?_); first | rfl | (congr 1; omega); done) | exact .boxD rfl rfl | exact .pin rfl | exact .mapO (fun _ => rfl) rfl | (refine .mapO (fun _ => rfl) ?_; ((try dsimp only); first | rfl | omega | (simp only [lns] <;> omega)); done) | exact .rowD rfl rowOf_isD | exact .rowD (rowOf_append.symm) rowOf_isD | exact .rowD (rowOf_set rfl) rowOf_isD | (refine .rowD ?_ rowOf_isD; rw [rowOf_append]; rfl) | (refine .rowD ?_ rowOf_isD; simp only [rowOf_append, List.append_assoc]; rfl) | refine .agg ?_ | refine .fncC ?_ | refine .box ?_ | exact .nil | refine .cons ?_ ?_ | exact .d | exact .ptr rfl | exact .row rfl rfl | (refine .row rfl ?_; ((try dsimp only); first | rfl | omega | (simp only [lns] <;> omega)); done))
  · have e : putM l r = ([], false, 1) := by rw [putM, if_pos hc]
    rw [e]
    have hdd : decide (checkR l ≠ 0) = true := decide_eq_true hc
    repeat' (first
      | (show VR _ _ _ (_ :: _) _ _ _; first | (show VR _ _ _ (⟨_, .alloc _, _, _, _, _⟩ :: _) _ _ _; first | refine vr_allocArr (gk rfl) rfl rfl (by decide) rfl rfl ?_) | (show VR _ _ _ (⟨_, .load _ _, _, _, _, _⟩ :: _) _ _ _; first | refine vr_loadArr (gk rfl) rfl rfl rfl (by first | assumption | rfl | ((try simp only [lns]); first | assumption | omega)) rfl rfl ?_) | (show VR _ _ _ (⟨_, .store _ _ _, _, _, _, _⟩ :: _) _ _ _; first | refine vr_storeB (gk rfl) rfl rfl rfl (by omega) rfl ?_ | refine vr_storeI (gk rfl) rfl rfl rfl (by first | omega | ((try simp only [lns]); omega)) rfl ?_ | refine vr_storeArr (gk rfl) rfl rfl rfl (by first | assumption | rfl | ((try simp only [lns]); first | assumption | omega)) (by first | assumption | rfl | ((try simp only [lns]); first | assumption | omega)) rfl ?_) | (show VR _ _ _ (⟨_, .indexAddr _ _ _, _, _, _, _⟩ :: _) _ _ _; first | refine vr_indexArrN (gk rfl) rfl rfl rfl rfl rfl (by omega) rfl ?_ | refine vr_indexArr (gk rfl) rfl rfl rfl rfl (by omega) (by omega) rfl ?_ | refine vr_indexBox (gk rfl) rfl rfl rfl (by decide) (by decide) rfl rfl ?_) | (show VR _ _ _ (⟨_, .binOp _ _ _ _ _, _, _, _, _⟩ :: _) _ _ _; first | refine vr_eqlArr (gk rfl) rfl rfl rfl rfl rfl (by first | assumption | rfl | ((try simp only [lns]); first | assumption | omega)) (by first | assumption | rfl | ((try simp only [lns]); first | assumption | omega)) (by kernel_rfl) rfl ?_ | refine vr_eqlStr (gk rfl) rfl rfl rfl rfl ?_ | refine vr_neqStr (gk rfl) rfl rfl rfl rfl ?_ | refine vr_eqlNil (gk rfl) rfl rfl rfl ?_ | refine vr_neqNil (gk rfl) rfl rfl rfl ?_ | refine vr_eqlRd (gk rfl) rfl rfl (by omega) rfl ?_ | refine vr_neqRd (gk rfl) rfl rfl (by omega) rfl ?_) | (show VR _ _ _ (⟨_, .slice _ _ _ _ _, _, _, _, _⟩ :: _) _ _ _; first | refine vr_tailStr (gk rfl) rfl rfl (by omega) rfl ?_) | (show VR _ _ _ (⟨_, .convert _ _ _, _, _, _, _⟩ :: _) _ _ _; first | refine vr_convStr (gk rfl) rfl rfl (by first | rfl | exact rowOf_length.symm | (simp only [lns] <;> omega)) rfl rfl rfl rfl ?_ | refine vr_convNil (gk rfl) rfl rfl rfl rfl rfl ?_) | refine x_opF rfl (by first | exact True.intro | omega) ?_ | (show VR _ _ _ (⟨_, .call ⟨.value _, _, _⟩, _, _, _, _⟩ :: _) _ _ _; first | refine vr_calldU (hck) (gk rfl) rfl rfl rfl (by first | rfl | (simp only [wfRes, wfL, wfArgs, wfs, mpO_namesB, mpO_namesI]; rfl)) rfl (by first | exact newB_O | rfl) rfl ?_) | (show VR _ _ _ (⟨_, .indexAddr _ _ _, _, _, _, _⟩ :: _) _ _ _; first | refine vr_index_rd (gk rfl) rfl rfl rfl rfl rfl (by omega) rfl ?_ | refine vr_index_rdP (gk rfl) rfl rfl rfl rfl rfl (by omega) rfl ?_ | refine vr_index_rdN (gk rfl) rfl rfl rfl rfl (by first | omega | decide) rfl ?_ | refine vr_index_rowO (gk rfl) rfl rfl rfl rfl rfl rfl (by omega) (by omega) rfl ?_ | refine vr_index_row (gk rfl) rfl rfl rfl rfl rfl rfl (by omega) (by omega) rfl ?_ | refine vr_index_rowN (gk rfl) rfl rfl rfl rfl rfl (by omega) (by first | rfl | exact rowOf_length.symm | (simp only [lns] <;> omega)) rfl ?_) | (show VR _ _ _ (⟨_, .index _ _ _, _, _, _, _⟩ :: _) _ _ _; first | refine vr_indexStr (m := 0) (gk rfl) rfl rfl rfl (by decide) (by omega) rfl rfl ?_ | refine vr_indexStr (gk rfl) rfl rfl rfl (by omega) (by omega) (by first | exact (Int.toNat_natCast _).symm | rfl) rfl ?_) | (show VR _ _ _ (⟨_, .nilCheck _, _, _, _, _⟩ :: _) _ _ _; first | refine vr_nilCheck_rp (gk rfl) rfl rfl ?_ | refine vr_nilCheck_ptr (gk rfl) rfl rfl ?_ | refine vr_nilCheck_ep (gk rfl) rfl rfl ?_) | (show VR _ _ _ (⟨_, .load _ _, _, _, _, _⟩ :: _) _ _ _; first | refine vr_load_rowO_agg (gk rfl) rfl rfl (by omega) rfl rfl rfl ?_ | refine vr_load_rowO (gk rfl) rfl rfl (by omega) rfl rfl rfl ?_ | refine vr_load_rowS_agg (gk rfl) rfl rfl (by omega) rfl rfl rfl ?_ | refine vr_load_rowS (gk rfl) rfl rfl (by omega) rfl rfl rfl ?_) | (show VR _ _ _ (⟨_, .store _ _ _, _, _, _, _⟩ :: _) _ _ _; first | refine vr_store_rowO (gk rfl) rfl rfl rfl (by omega) rfl rfl rfl ?_ | refine vr_store_rowS (gk rfl) rfl rfl rfl (by omega) rfl rfl rfl ?_) | refine x_gknow rfl (by assumption) ?_ | (refine x_gsplit rfl ?_ ?_ <;> intro h <;> have hq := h <;> (try simp only [hqs] at hq)))
      | (show VR _ _ _ [] _ _ _; first | refine vr_nil ?_ | refine vr_nil_t (by kernel_rfl) ?_)
      | (show thenQ _ _ _ _; first | refine q_then_n ?_ | refine q_then_x ?_ | refine q_then_r ?_)
      | (show blockQ _ _ _ _; first | refine q_blk_n ?_ | refine q_blk_r ?_ | refine q_blk_x ?_ | refine q_blk_o rfl ?_)
      | refine vc_seq ?_
      | refine vc_region ?_ | refine vc_region_t ?_
      | (show VC _ (.cond _ _ _) _ _; first | refine vc_cond_t rfl ?_ | refine vc_cond_f rfl ?_ | refine x_know rfl (by assumption) ?_ | (refine x_cond rfl ?_ ?_ <;> intro h <;> have hq := h <;> (try simp only [hqs] at hq)))
      | refine vc_ret ?_ | refine vc_exit ?_ | refine vc_block ?_ | refine vc_skip ?_ | refine vc_label ?_)
    refine retL_of (le_gen0 (l := [(4, AD (rps [])), (5, AB false), (6, AI 1)]) (b := []) (fun n => n) ?_ ?_ rfl (by first | rfl | (simp only [wfL, wfs, mpO_namesB, mpO_namesI]; rfl))) (ret_d3 isRet_r rfl rfl rfl rfl rfl rfl)
    all_goals repeat' (first | exact trivial | refine ⟨⟨_, rfl, ?_⟩, ?_⟩ | exact .c .d | exact .clo | exact .ep | exact .c (.ptr rfl) | exact .rp rfl | exact .c (.mp rfl) | exact .c (.fn rfl) | exact .c (.row rfl rfl) | exact .c .nil | (refine .c (.row rfl ?_); ((try dsimp only); first | rfl | omega | (simp only [lns] <;> omega)); done) | (refine .c (cw_eq ?_); first | rfl | (congr 1; omega); done) | exact .boxD rfl rfl | exact .pin rfl | exact .mapO (fun _ => rfl) rfl | (refine .mapO (fun _ => rfl) ?_; ((try dsimp only); first | rfl | omega | (simp only [lns] <;> omega)); done) | exact .rowD rfl rowOf_isD | exact .rowD (rowOf_append.symm) rowOf_isD | exact .rowD (rowOf_set rfl) rowOf_isD | (refine .rowD ?_ rowOf_isD; rw [rowOf_append]; rfl) | (refine .rowD ?_ rowOf_isD; simp only [rowOf_append, List.append_assoc]; rfl) | refine .agg ?_ | refine .fncC ?_ | refine .box ?_ | exact .nil | refine .cons ?_ ?_ | exact .d | exact .ptr rfl | exact .row rfl rfl | (refine .row rfl ?_; ((try dsimp only); first | rfl | omega | (simp only [lns] <;> omega)); done))
end Go.Proofs
