/-
  What functions of the given program hand back, by walks over its code, and plain laws on that. No condition.
-/
import Derived.Test.YtplonmkbgocmlaaSxP24a
import Derived.Test.YtplonmkbgocmlaaSxLibC
-- SXS
-- SXB
namespace Go.Proofs
open Go Go.Sx
set_option maxRecDepth 4000
set_option linter.unusedSimpArgs false
set_option linter.unusedVariables false
attribute [local irreducible] VR VC thenQ blockQ retL

/-! Sets of nodes as arrays of bools. -/
def visV (S : List Int) : List Bool := (List.range 32).map fun i : Nat => decide ((i : Int) ∈ S)
theorem visV_len (S : List Int) : (visV S).length = 32 := by simp [visV]
theorem visV_get (S : List Int) {m : Nat} (h : m < 32) : (visV S).getD m default = decide ((m : Int) ∈ S) := by
  simp [visV, List.getD, h]
theorem visV_nil : visV [] = List.replicate 32 false := by simp [visV, List.range, List.range.loop, List.replicate]
theorem visV_set (S : List Int) {n : Int} (h : 0 ≤ n ∧ n < 32) : (visV S).set n.toNat true = visV (S ++ [n]) := by
  refine List.ext_getElem (by simp [visV]) fun i h1 h2 => ?_
  have hi : i < 32 := by simpa [visV] using h2
  rw [List.getElem_set]
  by_cases e : n.toNat = i
  · have : (i : Int) = n := by omega
    simp [visV, e, this]
  · have : (i : Int) ≠ n := by omega
    simp [visV, e, this]
theorem visV_eq (S : List Int) {n : Int} (h : 0 ≤ n ∧ n < 32) : decide (visV S = (visV S).set n.toNat true) = decide (n ∈ S) := by
  refine decide_eq_decide.2 ?_
  constructor
  · intro e
    have h1 := congrArg (fun V : List Bool => V.getD n.toNat default) e
    have h1 : (visV S).getD n.toNat default = ((visV S).set n.toNat true).getD n.toNat default := h1
    rw [visV_set S h, visV_get _ (by omega), visV_get _ (by omega)] at h1
    have e2 : ((n.toNat : Nat) : Int) = n := by omega
    rw [e2] at h1
    simpa using h1
  · intro hm
    rw [visV_set S h]
    refine List.map_congr_left fun i hi => ?_
    simp only [List.mem_append, List.mem_singleton]
    refine decide_eq_decide.2 ⟨.inl, ?_⟩
    rintro (h | h)
    · exact h
    · rw [h]; exact hm

def dupB (l : List Int) : Bool := decide (¬ l.Nodup)
theorem nodup_snoc {l : List Int} {k : Nat} (h : k < l.length) (hn : (l.take k).Nodup) : (l.take (k + 1)).Nodup ↔ l.getD k default ∉ l.take k := by
  rw [take_getD h, List.nodup_append]
  simp only [List.nodup_cons, List.not_mem_nil, not_false_eq_true, List.nodup_nil, and_self, List.mem_singleton, forall_eq, ne_eq, true_and]
  constructor
  · rintro ⟨_, h2⟩ h3
    exact h2 _ h3 rfl
  · intro h2
    exact ⟨hn, fun a ha e => h2 (e ▸ ha)⟩
theorem dup_hit {l : List Int} {k : Nat} (h : k < l.length) (hm : l.getD k default ∈ l.take k) : dupB l = true := by
  refine decide_eq_true fun hn => ?_
  have h1 : (l.take (k + 1)).Nodup := hn.sublist (List.take_sublist _ _)
  have h0 : (l.take k).Nodup := hn.sublist (List.take_sublist _ _)
  exact (nodup_snoc h h0).1 h1 hm
theorem twice_spec (l : List Int) (hr : ∀ x ∈ l, 0 ≤ x ∧ x < 32) : FnS Try.prog 43 [AD (ints l)] [] (AB (dupB l)) [] := by
  refine FnS.of_body (enters_of Try.func43 (by kernel_rfl) rfl) Try.func43 rfl Try.ntmps43 Try.results43 rfl rfl rfl rfl fun E hS => ?_
  refine vc_bound (t := 0) rfl fun hb => ?_
  repeat' (first
    | (show VR _ _ _ (_ :: _) _ _ _; first | (show VR _ _ _ (⟨_, .alloc _, _, _, _, _⟩ :: _) _ _ _; first | refine vr_allocArr (gk rfl) rfl rfl (by decide) rfl rfl ?_) | (show VR _ _ _ (⟨_, .load _ _, _, _, _, _⟩ :: _) _ _ _; first | refine vr_loadArr (gk rfl) rfl rfl rfl (by first | assumption | rfl | ((try simp only [lns]); first | assumption | omega)) rfl rfl ?_) | (show VR _ _ _ (⟨_, .store _ _ _, _, _, _, _⟩ :: _) _ _ _; first | refine vr_storeB (gk rfl) rfl rfl rfl (by omega) rfl ?_ | refine vr_storeI (gk rfl) rfl rfl rfl (by first | omega | ((try simp only [lns]); omega)) rfl ?_ | refine vr_storeArr (gk rfl) rfl rfl rfl (by first | assumption | rfl | ((try simp only [lns]); first | assumption | omega)) (by first | assumption | rfl | ((try simp only [lns]); first | assumption | omega)) rfl ?_) | (show VR _ _ _ (⟨_, .indexAddr _ _ _, _, _, _, _⟩ :: _) _ _ _; first | refine vr_indexArrN (gk rfl) rfl rfl rfl rfl rfl (by omega) rfl ?_ | refine vr_indexArr (gk rfl) rfl rfl rfl rfl (by omega) (by omega) rfl ?_ | refine vr_indexBox (gk rfl) rfl rfl rfl (by decide) (by decide) rfl rfl ?_) | (show VR _ _ _ (⟨_, .binOp _ _ _ _ _, _, _, _, _⟩ :: _) _ _ _; first | refine vr_eqlArr (gk rfl) rfl rfl rfl rfl rfl (by first | assumption | rfl | ((try simp only [lns]); first | assumption | omega)) (by first | assumption | rfl | ((try simp only [lns]); first | assumption | omega)) (by kernel_rfl) rfl ?_ | refine vr_eqlStr (gk rfl) rfl rfl rfl rfl ?_ | refine vr_neqStr (gk rfl) rfl rfl rfl rfl ?_ | refine vr_eqlNil (gk rfl) rfl rfl rfl ?_ | refine vr_neqNil (gk rfl) rfl rfl rfl ?_ | refine vr_eqlRd (gk rfl) rfl rfl (by omega) rfl ?_ | refine vr_neqRd (gk rfl) rfl rfl (by omega) rfl ?_) | (show VR _ _ _ (⟨_, .slice _ _ _ _ _, _, _, _, _⟩ :: _) _ _ _; first | refine vr_tailStr (gk rfl) rfl rfl (by omega) rfl ?_) | (show VR _ _ _ (⟨_, .convert _ _ _, _, _, _, _⟩ :: _) _ _ _; first | refine vr_convStr (gk rfl) rfl rfl (by first | rfl | exact rowOf_length.symm | (simp only [lns] <;> omega)) rfl rfl rfl rfl ?_ | refine vr_convNil (gk rfl) rfl rfl rfl rfl rfl ?_) | refine x_opF rfl (by first | exact True.intro | omega) ?_ | (show VR _ _ _ (⟨_, .indexAddr _ _ _, _, _, _, _⟩ :: _) _ _ _; first | refine vr_index_rd (gk rfl) rfl rfl rfl rfl rfl (by omega) rfl ?_ | refine vr_index_rdP (gk rfl) rfl rfl rfl rfl rfl (by omega) rfl ?_ | refine vr_index_rdN (gk rfl) rfl rfl rfl rfl (by first | omega | decide) rfl ?_) | (show VR _ _ _ (⟨_, .index _ _ _, _, _, _, _⟩ :: _) _ _ _; first | refine vr_indexStr (m := 0) (gk rfl) rfl rfl rfl (by decide) (by omega) rfl rfl ?_ | refine vr_indexStr (gk rfl) rfl rfl rfl (by omega) (by omega) (by first | exact (Int.toNat_natCast _).symm | rfl) rfl ?_) | (show VR _ _ _ (⟨_, .nilCheck _, _, _, _, _⟩ :: _) _ _ _; first | refine vr_nilCheck_rp (gk rfl) rfl rfl ?_ | refine vr_nilCheck_ptr (gk rfl) rfl rfl ?_ | refine vr_nilCheck_ep (gk rfl) rfl rfl ?_) | (show VR _ _ _ (⟨_, .binOp _ _ _ _ _, _, _, _, _⟩ :: _) _ _ _; first | refine x_ariw rfl rfl rfl rfl rfl ?_) | refine x_gknow rfl (by assumption) ?_ | (refine x_gsplit rfl ?_ ?_ <;> intro h <;> have hq := h <;> (try simp only [hqs] at hq)))
    | (show VR _ _ _ [] _ _ _; first | refine vr_nil ?_ | refine vr_nil_t (by kernel_rfl) ?_)
    | (show thenQ _ _ _ _; first | refine q_then_n ?_ | refine q_then_x ?_ | refine q_then_r ?_)
    | (show blockQ _ _ _ _; first | refine q_blk_n ?_ | refine q_blk_r ?_ | refine q_blk_x ?_ | refine q_blk_o rfl ?_)
    | refine vc_seq ?_
    | refine vc_region ?_ | refine vc_region_t ?_
    | (show VC _ (.cond _ _ _) _ _; first | refine vc_cond_t rfl ?_ | refine vc_cond_f rfl ?_ | refine x_know rfl (by assumption) ?_ | (refine x_cond rfl ?_ ?_ <;> intro h <;> have hq := h <;> (try simp only [hqs] at hq)))
    | refine vc_ret ?_ | refine vc_exit ?_ | refine vc_block ?_ | refine vc_skip ?_ | refine vc_label ?_)
  refine vc_loopI (ι := Nat) (fun k => stOf [(0, AD (ints l)), (3, .rp 3 1 0 0), (7, AD (ints l)), (8, AI l.length), (9, AI k)] [(3, .row 71 1 (rowOf encB (visV (l.take k))))]) (fun k => k ≤ l.length ∧ (l.take k).Nodup) (fun k => l.length - k) 0 ⟨Nat.zero_le _, by simp⟩ ?_ ?_
  · rw [List.take_zero, visV_nil]
    refine le_gen0 (fun n => n) ?_ ?_ rfl (by first | rfl | (simp only [wfL, wfs]; rfl))
    all_goals repeat' (first | exact trivial | refine ⟨⟨_, rfl, ?_⟩, ?_⟩ | exact .c .d | exact .clo | exact .ep | exact .c (.ptr rfl) | exact .rp rfl | exact .c (.mp rfl) | exact .c (.fn rfl) | exact .c (.row rfl rfl) | exact .c .nil | (refine .c (.row rfl ?_); ((try dsimp only); first | rfl | omega | (simp only [lns] <;> omega)); done) | (refine .c (cw_eq ?_); first | rfl | (congr 1; omega); done) | exact .boxD rfl rfl | exact .pin rfl | exact .rowD rfl rowOf_isD | exact .rowD (rowOf_append.symm) rowOf_isD | exact .rowD (rowOf_set rfl) rowOf_isD | (refine .rowD ?_ rowOf_isD; rw [rowOf_append]; rfl) | (refine .rowD ?_ rowOf_isD; simp only [rowOf_append, List.append_assoc]; rfl) | refine .agg ?_ | refine .box ?_ | exact .nil | refine .cons ?_ ?_ | exact .d | exact .ptr rfl | exact .row rfl rfl | (refine .row rfl ?_; ((try dsimp only); first | rfl | omega | (simp only [lns] <;> omega)); done))
  · intro k hk
    have hV := visV_len (l.take k)
    rcases Nat.lt_or_ge k l.length with hlt | hge
    · have hx := hr _ (getD_mem hlt)
      have hV2 : ((visV (l.take k)).set (l.getD k default).toNat true).length = 32 := by rw [List.length_set]; exact hV
      have hV3 : (List.replicate 32 false).length = 32 := rfl
      repeat' (first
        | (show VR _ _ _ (_ :: _) _ _ _; first | (show VR _ _ _ (⟨_, .alloc _, _, _, _, _⟩ :: _) _ _ _; first | refine vr_allocArr (gk rfl) rfl rfl (by decide) rfl rfl ?_) | (show VR _ _ _ (⟨_, .load _ _, _, _, _, _⟩ :: _) _ _ _; first | refine vr_loadArr (gk rfl) rfl rfl rfl (by first | assumption | rfl | ((try simp only [lns]); first | assumption | omega)) rfl rfl ?_) | (show VR _ _ _ (⟨_, .store _ _ _, _, _, _, _⟩ :: _) _ _ _; first | refine vr_storeB (gk rfl) rfl rfl rfl (by omega) rfl ?_ | refine vr_storeI (gk rfl) rfl rfl rfl (by first | omega | ((try simp only [lns]); omega)) rfl ?_ | refine vr_storeArr (gk rfl) rfl rfl rfl (by first | assumption | rfl | ((try simp only [lns]); first | assumption | omega)) (by first | assumption | rfl | ((try simp only [lns]); first | assumption | omega)) rfl ?_) | (show VR _ _ _ (⟨_, .indexAddr _ _ _, _, _, _, _⟩ :: _) _ _ _; first | refine vr_indexArrN (gk rfl) rfl rfl rfl rfl rfl (by omega) rfl ?_ | refine vr_indexArr (gk rfl) rfl rfl rfl rfl (by omega) (by omega) rfl ?_ | refine vr_indexBox (gk rfl) rfl rfl rfl (by decide) (by decide) rfl rfl ?_) | (show VR _ _ _ (⟨_, .binOp _ _ _ _ _, _, _, _, _⟩ :: _) _ _ _; first | refine vr_eqlArr (gk rfl) rfl rfl rfl rfl rfl (by first | assumption | rfl | ((try simp only [lns]); first | assumption | omega)) (by first | assumption | rfl | ((try simp only [lns]); first | assumption | omega)) (by kernel_rfl) rfl ?_ | refine vr_eqlStr (gk rfl) rfl rfl rfl rfl ?_ | refine vr_neqStr (gk rfl) rfl rfl rfl rfl ?_ | refine vr_eqlNil (gk rfl) rfl rfl rfl ?_ | refine vr_neqNil (gk rfl) rfl rfl rfl ?_ | refine vr_eqlRd (gk rfl) rfl rfl (by omega) rfl ?_ | refine vr_neqRd (gk rfl) rfl rfl (by omega) rfl ?_) | (show VR _ _ _ (⟨_, .slice _ _ _ _ _, _, _, _, _⟩ :: _) _ _ _; first | refine vr_tailStr (gk rfl) rfl rfl (by omega) rfl ?_) | (show VR _ _ _ (⟨_, .convert _ _ _, _, _, _, _⟩ :: _) _ _ _; first | refine vr_convStr (gk rfl) rfl rfl (by first | rfl | exact rowOf_length.symm | (simp only [lns] <;> omega)) rfl rfl rfl rfl ?_ | refine vr_convNil (gk rfl) rfl rfl rfl rfl rfl ?_) | refine x_opF rfl (by first | exact True.intro | omega) ?_ | (show VR _ _ _ (⟨_, .indexAddr _ _ _, _, _, _, _⟩ :: _) _ _ _; first | refine vr_index_rd (gk rfl) rfl rfl rfl rfl rfl (by omega) rfl ?_ | refine vr_index_rdP (gk rfl) rfl rfl rfl rfl rfl (by omega) rfl ?_ | refine vr_index_rdN (gk rfl) rfl rfl rfl rfl (by first | omega | decide) rfl ?_) | (show VR _ _ _ (⟨_, .index _ _ _, _, _, _, _⟩ :: _) _ _ _; first | refine vr_indexStr (m := 0) (gk rfl) rfl rfl rfl (by decide) (by omega) rfl rfl ?_ | refine vr_indexStr (gk rfl) rfl rfl rfl (by omega) (by omega) (by first | exact (Int.toNat_natCast _).symm | rfl) rfl ?_) | (show VR _ _ _ (⟨_, .nilCheck _, _, _, _, _⟩ :: _) _ _ _; first | refine vr_nilCheck_rp (gk rfl) rfl rfl ?_ | refine vr_nilCheck_ptr (gk rfl) rfl rfl ?_ | refine vr_nilCheck_ep (gk rfl) rfl rfl ?_) | (show VR _ _ _ (⟨_, .binOp _ _ _ _ _, _, _, _, _⟩ :: _) _ _ _; first | refine x_ariw rfl rfl rfl rfl rfl ?_) | refine x_gknow rfl (by assumption) ?_ | (refine x_gsplit rfl ?_ ?_ <;> intro h <;> have hq := h <;> (try simp only [hqs] at hq)))
        | (show VR _ _ _ [] _ _ _; first | refine vr_nil ?_ | refine vr_nil_t (by kernel_rfl) ?_)
        | (show thenQ _ _ _ _; first | refine q_then_n ?_ | refine q_then_x ?_ | refine q_then_r ?_)
        | (show blockQ _ _ _ _; first | refine q_blk_n ?_ | refine q_blk_r ?_ | refine q_blk_x ?_ | refine q_blk_o rfl ?_)
        | refine vc_seq ?_
        | refine vc_region ?_ | refine vc_region_t ?_
        | (show VC _ (.cond _ _ _) _ _; first | refine vc_cond_t rfl ?_ | refine vc_cond_f rfl ?_ | refine x_know rfl (by assumption) ?_ | (refine x_cond rfl ?_ ?_ <;> intro h <;> have hq := h <;> (try simp only [hqs] at hq)))
        | refine vc_ret ?_ | refine vc_exit ?_ | refine vc_block ?_ | refine vc_skip ?_ | refine vc_label ?_)
      all_goals first
        | (exfalso; omega)
        | skip
      · rw [visV_eq _ hx] at h
        exact ret_bool isRet_r rfl (dup_hit hlt (of_decide_eq_true h))
      · rw [visV_eq _ hx] at h
        refine ⟨k + 1, ⟨by omega, (nodup_snoc hlt hk.2).2 (of_decide_eq_false h)⟩, by omega, ?_⟩
        rw [take_getD hlt, ← visV_set _ hx]
        refine le_gen0 (fun n => n) ?_ ?_ rfl (by first | rfl | (simp only [wfL, wfs]; rfl))
        all_goals repeat' (first | exact trivial | refine ⟨⟨_, rfl, ?_⟩, ?_⟩ | exact .c .d | exact .clo | exact .ep | exact .c (.ptr rfl) | exact .rp rfl | exact .c (.mp rfl) | exact .c (.fn rfl) | exact .c (.row rfl rfl) | exact .c .nil | (refine .c (.row rfl ?_); ((try dsimp only); first | rfl | omega | (simp only [lns] <;> omega)); done) | (refine .c (cw_eq ?_); first | rfl | (congr 1; omega); done) | exact .boxD rfl rfl | exact .pin rfl | exact .rowD rfl rowOf_isD | exact .rowD (rowOf_append.symm) rowOf_isD | exact .rowD (rowOf_set rfl) rowOf_isD | (refine .rowD ?_ rowOf_isD; rw [rowOf_append]; rfl) | (refine .rowD ?_ rowOf_isD; simp only [rowOf_append, List.append_assoc]; rfl) | refine .agg ?_ | refine .box ?_ | exact .nil | refine .cons ?_ ?_ | exact .d | exact .ptr rfl | exact .row rfl rfl | (refine .row rfl ?_; ((try dsimp only); first | rfl | omega | (simp only [lns] <;> omega)); done))
    · repeat' (first
        | (show VR _ _ _ (_ :: _) _ _ _; first | (show VR _ _ _ (⟨_, .alloc _, _, _, _, _⟩ :: _) _ _ _; first | refine vr_allocArr (gk rfl) rfl rfl (by decide) rfl rfl ?_) | (show VR _ _ _ (⟨_, .load _ _, _, _, _, _⟩ :: _) _ _ _; first | refine vr_loadArr (gk rfl) rfl rfl rfl (by first | assumption | rfl | ((try simp only [lns]); first | assumption | omega)) rfl rfl ?_) | (show VR _ _ _ (⟨_, .store _ _ _, _, _, _, _⟩ :: _) _ _ _; first | refine vr_storeB (gk rfl) rfl rfl rfl (by omega) rfl ?_ | refine vr_storeI (gk rfl) rfl rfl rfl (by first | omega | ((try simp only [lns]); omega)) rfl ?_ | refine vr_storeArr (gk rfl) rfl rfl rfl (by first | assumption | rfl | ((try simp only [lns]); first | assumption | omega)) (by first | assumption | rfl | ((try simp only [lns]); first | assumption | omega)) rfl ?_) | (show VR _ _ _ (⟨_, .indexAddr _ _ _, _, _, _, _⟩ :: _) _ _ _; first | refine vr_indexArrN (gk rfl) rfl rfl rfl rfl rfl (by omega) rfl ?_ | refine vr_indexArr (gk rfl) rfl rfl rfl rfl (by omega) (by omega) rfl ?_ | refine vr_indexBox (gk rfl) rfl rfl rfl (by decide) (by decide) rfl rfl ?_) | (show VR _ _ _ (⟨_, .binOp _ _ _ _ _, _, _, _, _⟩ :: _) _ _ _; first | refine vr_eqlArr (gk rfl) rfl rfl rfl rfl rfl (by first | assumption | rfl | ((try simp only [lns]); first | assumption | omega)) (by first | assumption | rfl | ((try simp only [lns]); first | assumption | omega)) (by kernel_rfl) rfl ?_ | refine vr_eqlStr (gk rfl) rfl rfl rfl rfl ?_ | refine vr_neqStr (gk rfl) rfl rfl rfl rfl ?_ | refine vr_eqlNil (gk rfl) rfl rfl rfl ?_ | refine vr_neqNil (gk rfl) rfl rfl rfl ?_ | refine vr_eqlRd (gk rfl) rfl rfl (by omega) rfl ?_ | refine vr_neqRd (gk rfl) rfl rfl (by omega) rfl ?_) | (show VR _ _ _ (⟨_, .slice _ _ _ _ _, _, _, _, _⟩ :: _) _ _ _; first | refine vr_tailStr (gk rfl) rfl rfl (by omega) rfl ?_) | (show VR _ _ _ (⟨_, .convert _ _ _, _, _, _, _⟩ :: _) _ _ _; first | refine vr_convStr (gk rfl) rfl rfl (by first | rfl | exact rowOf_length.symm | (simp only [lns] <;> omega)) rfl rfl rfl rfl ?_ | refine vr_convNil (gk rfl) rfl rfl rfl rfl rfl ?_) | refine x_opF rfl (by first | exact True.intro | omega) ?_ | (show VR _ _ _ (⟨_, .indexAddr _ _ _, _, _, _, _⟩ :: _) _ _ _; first | refine vr_index_rd (gk rfl) rfl rfl rfl rfl rfl (by omega) rfl ?_ | refine vr_index_rdP (gk rfl) rfl rfl rfl rfl rfl (by omega) rfl ?_ | refine vr_index_rdN (gk rfl) rfl rfl rfl rfl (by first | omega | decide) rfl ?_) | (show VR _ _ _ (⟨_, .index _ _ _, _, _, _, _⟩ :: _) _ _ _; first | refine vr_indexStr (m := 0) (gk rfl) rfl rfl rfl (by decide) (by omega) rfl rfl ?_ | refine vr_indexStr (gk rfl) rfl rfl rfl (by omega) (by omega) (by first | exact (Int.toNat_natCast _).symm | rfl) rfl ?_) | (show VR _ _ _ (⟨_, .nilCheck _, _, _, _, _⟩ :: _) _ _ _; first | refine vr_nilCheck_rp (gk rfl) rfl rfl ?_ | refine vr_nilCheck_ptr (gk rfl) rfl rfl ?_ | refine vr_nilCheck_ep (gk rfl) rfl rfl ?_) | (show VR _ _ _ (⟨_, .binOp _ _ _ _ _, _, _, _, _⟩ :: _) _ _ _; first | refine x_ariw rfl rfl rfl rfl rfl ?_) | refine x_gknow rfl (by assumption) ?_ | (refine x_gsplit rfl ?_ ?_ <;> intro h <;> have hq := h <;> (try simp only [hqs] at hq)))
        | (show VR _ _ _ [] _ _ _; first | refine vr_nil ?_ | refine vr_nil_t (by kernel_rfl) ?_)
        | (show thenQ _ _ _ _; first | refine q_then_n ?_ | refine q_then_x ?_ | refine q_then_r ?_)
        | (show blockQ _ _ _ _; first | refine q_blk_n ?_ | refine q_blk_r ?_ | refine q_blk_x ?_ | refine q_blk_o rfl ?_)
        | refine vc_seq ?_
        | refine vc_region ?_ | refine vc_region_t ?_
        | (show VC _ (.cond _ _ _) _ _; first | refine vc_cond_t rfl ?_ | refine vc_cond_f rfl ?_ | refine x_know rfl (by assumption) ?_ | (refine x_cond rfl ?_ ?_ <;> intro h <;> have hq := h <;> (try simp only [hqs] at hq)))
        | refine vc_ret ?_ | refine vc_exit ?_ | refine vc_block ?_ | refine vc_skip ?_ | refine vc_label ?_)
      all_goals first
        | (exfalso; omega)
        | skip
      have hk' : k = l.length := by omega
      refine ret_bool isRet_r rfl (decide_eq_false ?_)
      have := hk.2
      rw [hk', List.take_length] at this
      exact fun h => h this
end Go.Proofs


