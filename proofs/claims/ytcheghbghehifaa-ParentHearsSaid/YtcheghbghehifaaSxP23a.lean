/-
  What functions of the given program hand back, by walks over its code, and plain laws on that. No condition.
-/
import Derived.Test.YtcheghbghehifaaSxLibB
import Derived.Test.YtcheghbghehifaaSxT23
namespace Go.Proofs
open Go Go.Sx
set_option linter.unusedSimpArgs false
set_option linter.unusedVariables false
attribute [local irreducible] VR VC thenQ blockQ

structure Nb where
  node : Int
  epoch : Int
  rank : Int
  slot : Int
  att : Int
  ack : Int
  deriving DecidableEq, Inhabited
def Nb.enc (x : Nb) : List D := [.int .i64 x.node, .int .i64 x.epoch, .int .i64 x.rank, .int .i64 x.slot, .int .i64 x.att, .int .i64 x.ack]
abbrev nbs (l : List Nb) : D := rdOf Nb.enc 6 l

def inR (n lo hi : Int) : Bool := decide (lo ≤ n ∧ n ≤ hi)

theorem inR_t (n lo hi : Int) : (inR n lo hi = true) = (lo ≤ n ∧ n ≤ hi) := by simp [inR]
theorem inR_f (n lo hi : Int) : (inR n lo hi = false) = ¬ (lo ≤ n ∧ n ≤ hi) := by simp [inR]

theorem within_spec (n lo hi : Int) : FnS Try.prog 42 [AI n, AI lo, AI hi] [] (AB (inR n lo hi)) [] := by
  refine FnS.of_body (enters_of Try.func42 (by kernel_rfl) rfl) Try.func42 rfl Try.ntmps42 Try.results42 rfl rfl rfl rfl fun E hS => ?_
  repeat' (first
    | (show VR _ _ _ (_ :: _) _ _ _; first | refine x_op rfl (by first | exact True.intro | omega) ?_ | (show VR _ _ _ (⟨_, .pick _ _ _, _, _, _, _⟩ :: _) _ _ _; first | refine vr_pick_true (gk rfl) rfl (by assumption) rfl rfl ?_ | refine vr_pick_false (gk rfl) rfl (by assumption) rfl rfl ?_) | refine x_gknow rfl (by assumption) ?_ | (refine x_gsplit rfl ?_ ?_ <;> intro h <;> have hq := h <;> (try simp only [decide_eq_true_eq, decide_eq_false_iff_not, Int.not_lt, Int.not_le, ne_eq, Decidable.not_not, Bool.not_eq_true', Bool.not_eq_false'] at hq)))
    | (show VR _ _ _ [] _ _ _; first | refine vr_nil ?_ | refine vr_nil_t (by kernel_rfl) ?_)
    | (show thenQ _ _ _ _; first | refine q_then_n ?_ | refine q_then_x ?_ | refine q_then_r ?_)
    | (show blockQ _ _ _ _; first | refine q_blk_n ?_ | refine q_blk_r ?_ | refine q_blk_x ?_ | refine q_blk_o rfl ?_)
    | refine vc_seq ?_
    | refine vc_region ?_ | refine vc_region_t ?_
    | (show VC _ (.cond _ _ _) _ _; first | refine vc_cond_t rfl ?_ | refine vc_cond_f rfl ?_ | refine x_know rfl (by assumption) ?_ | (refine x_cond rfl ?_ ?_ <;> intro h <;> have hq := h <;> (try simp only [decide_eq_true_eq, decide_eq_false_iff_not, Int.not_lt, Int.not_le, ne_eq, Decidable.not_not, Bool.not_eq_true', Bool.not_eq_false'] at hq)))
    | refine vc_ret ?_ | refine vc_exit ?_ | refine vc_block ?_ | refine vc_skip ?_ | refine vc_label ?_)
  all_goals refine ret_bool isRet_r rfl ?_
  all_goals simp_all [inR] <;> omega

def heardB (n e r s : Int) : Bool := inR n 0 31 && inR e 1 65535 && inR r 0 65534 && inR s 0 1099511627776

theorem heard_spec (n e r s : Int) : FnS Try.prog 51 [AI n, AI e, AI r, AI s] [] (AB (heardB n e r s)) [] := by
  refine FnS.of_body (enters_of Try.func51 (by kernel_rfl) rfl) Try.func51 rfl Try.ntmps51 Try.results51 rfl rfl rfl rfl fun E hS => ?_
  repeat' (first
    | (show VR _ _ _ (_ :: _) _ _ _; first | refine x_op rfl (by first | exact True.intro | omega) ?_ | (show VR _ _ _ (⟨_, .call ⟨.value _, _, _⟩, _, _, _, _⟩ :: _) _ _ _; first | refine vr_calld (within_spec _ _ _) (gk rfl) rfl rfl rfl rfl rfl rfl ?_) | (show VR _ _ _ (⟨_, .pick _ _ _, _, _, _, _⟩ :: _) _ _ _; first | refine vr_pick_true (gk rfl) rfl (by assumption) rfl rfl ?_ | refine vr_pick_false (gk rfl) rfl (by assumption) rfl rfl ?_) | refine x_gknow rfl (by assumption) ?_ | (refine x_gsplit rfl ?_ ?_ <;> intro h <;> have hq := h <;> (try simp only [decide_eq_true_eq, decide_eq_false_iff_not, Int.not_lt, Int.not_le, ne_eq, Decidable.not_not, Bool.not_eq_true', Bool.not_eq_false'] at hq)))
    | (show VR _ _ _ [] _ _ _; first | refine vr_nil ?_ | refine vr_nil_t (by kernel_rfl) ?_)
    | (show thenQ _ _ _ _; first | refine q_then_n ?_ | refine q_then_x ?_ | refine q_then_r ?_)
    | (show blockQ _ _ _ _; first | refine q_blk_n ?_ | refine q_blk_r ?_ | refine q_blk_x ?_ | refine q_blk_o rfl ?_)
    | refine vc_seq ?_
    | refine vc_region ?_ | refine vc_region_t ?_
    | (show VC _ (.cond _ _ _) _ _; first | refine vc_cond_t rfl ?_ | refine vc_cond_f rfl ?_ | refine x_know rfl (by assumption) ?_ | (refine x_cond rfl ?_ ?_ <;> intro h <;> have hq := h <;> (try simp only [decide_eq_true_eq, decide_eq_false_iff_not, Int.not_lt, Int.not_le, ne_eq, Decidable.not_not, Bool.not_eq_true', Bool.not_eq_false'] at hq)))
    | refine vc_ret ?_ | refine vc_exit ?_ | refine vc_block ?_ | refine vc_skip ?_ | refine vc_label ?_)
  all_goals refine ret_bool isRet_r rfl ?_
  all_goals simp_all [heardB]

def nbErr (l : List Nb) (i : Nat) : Int :=
  let x := l.getD i default
  if heardB x.node x.epoch x.rank x.slot && inR x.att 0 255 && inR x.ack 0 x.att then
    if 0 < i ∧ x.node ≤ (l.getD (i - 1) default).node then 5 else 0
  else 2
def checkNb (l : List Nb) : Int := if 32 < l.length then 8 else firstErr l.length (nbErr l)

theorem checkNb_hit {l : List Nb} {k : Nat} {e : Int} (h0 : l.length ≤ 32) (h : k ≤ l.length ∧ ∀ i, i < k → nbErr l i = 0) (hk : k < l.length) (he : nbErr l k = e) (hne : e ≠ 0) : e = checkNb l := by
  subst he
  rw [checkNb, if_neg (by omega), firstErr_hit h.2 hk hne]
theorem checkNb_none {l : List Nb} {k : Nat} (h0 : l.length ≤ 32) (h : k ≤ l.length ∧ ∀ i, i < k → nbErr l i = 0) (hk : l.length ≤ k) : (0 : Int) = checkNb l := by
  rw [checkNb, if_neg (by omega), firstErr_none fun i hi => h.2 i (by omega)]

theorem check_spec (l : List Nb) : FnS Try.prog 17 [AD (nbs l)] [] (AI (checkNb l)) [] := by
  refine FnS.of_body (enters_of Try.func17 (by kernel_rfl) rfl) Try.func17 rfl Try.ntmps17 Try.results17 rfl rfl rfl rfl fun E hS => ?_
  refine vc_bound (t := 0) rfl fun hb => ?_
  repeat' (first
    | (show VR _ _ _ (_ :: _) _ _ _; first | refine x_op rfl (by first | exact True.intro | omega) ?_ | (show VR _ _ _ (⟨_, .indexAddr _ _ _, _, _, _, _⟩ :: _) _ _ _; first | refine vr_index_rd (gk rfl) rfl rfl rfl rfl rfl (by omega) rfl ?_ | refine vr_index_rdP (gk rfl) rfl rfl rfl rfl rfl (by omega) rfl ?_ | refine vr_index_rdN (gk rfl) rfl rfl rfl rfl (by omega) rfl ?_ | refine vr_index_row (gk rfl) rfl rfl rfl rfl rfl rfl (by omega) (by omega) rfl ?_ | refine vr_index_rowN (gk rfl) rfl rfl rfl rfl rfl (by omega) (by first | rfl | exact rowOf_length.symm) rfl ?_) | (show VR _ _ _ (⟨_, .call ⟨.builtin .len, _, _⟩, _, _, _, _⟩ :: _) _ _ _; first | refine vr_len_row (gk rfl) rfl rfl (by first | rfl | exact rowOf_length.symm) rfl rfl ?_) | (show VR _ _ _ (⟨_, .binOp _ _ _ _ _, _, _, _, _⟩ :: _) _ _ _; first | refine x_ariw rfl rfl rfl rfl rfl ?_) | (show VR _ _ _ (⟨_, .pick _ _ _, _, _, _, _⟩ :: _) _ _ _; first | refine vr_pick_true (gk rfl) rfl (by assumption) rfl rfl ?_ | refine vr_pick_false (gk rfl) rfl (by assumption) rfl rfl ?_) | refine x_gknow rfl (by assumption) ?_ | (refine x_gsplit rfl ?_ ?_ <;> intro h <;> have hq := h <;> (try simp only [decide_eq_true_eq, decide_eq_false_iff_not, Int.not_lt, Int.not_le, ne_eq, Decidable.not_not, Bool.not_eq_true', Bool.not_eq_false'] at hq)))
    | (show VR _ _ _ [] _ _ _; first | refine vr_nil ?_ | refine vr_nil_t (by kernel_rfl) ?_)
    | (show thenQ _ _ _ _; first | refine q_then_n ?_ | refine q_then_x ?_ | refine q_then_r ?_)
    | (show blockQ _ _ _ _; first | refine q_blk_n ?_ | refine q_blk_r ?_ | refine q_blk_x ?_ | refine q_blk_o rfl ?_)
    | refine vc_seq ?_
    | refine vc_region ?_ | refine vc_region_t ?_
    | (show VC _ (.cond _ _ _) _ _; first | refine vc_cond_t rfl ?_ | refine vc_cond_f rfl ?_ | refine x_know rfl (by assumption) ?_ | (refine x_cond rfl ?_ ?_ <;> intro h <;> have hq := h <;> (try simp only [decide_eq_true_eq, decide_eq_false_iff_not, Int.not_lt, Int.not_le, ne_eq, Decidable.not_not, Bool.not_eq_true', Bool.not_eq_false'] at hq)))
    | refine vc_ret ?_ | refine vc_exit ?_ | refine vc_block ?_ | refine vc_skip ?_ | refine vc_label ?_)
  · refine ret_int isRet_r rfl ?_
    simp [checkNb]; omega
  · refine vc_loopI (ι := Nat) (fun k => stOf [(0, AD (nbs l)), (8, AD (nbs l)), (9, AI l.length), (10, AI k)] []) (fun k => k ≤ l.length ∧ ∀ i, i < k → nbErr l i = 0) (fun k => l.length - k) 0 ⟨Nat.zero_le _, fun i hi => absurd hi (Nat.not_lt_zero _)⟩ ?_ ?_
    · exact le_of ⟨rfl, rfl, rfl, rfl, trivial⟩ trivial rfl
    · intro k hk
      repeat' (first
        | (show VR _ _ _ (_ :: _) _ _ _; first | refine x_op rfl (by first | exact True.intro | omega) ?_ | (show VR _ _ _ (⟨_, .call ⟨.value _, _, _⟩, _, _, _, _⟩ :: _) _ _ _; first | refine vr_calld (heard_spec _ _ _ _) (gk rfl) rfl rfl rfl rfl rfl rfl ?_ | refine vr_calld (within_spec _ _ _) (gk rfl) rfl rfl rfl rfl rfl rfl ?_) | (show VR _ _ _ (⟨_, .indexAddr _ _ _, _, _, _, _⟩ :: _) _ _ _; first | refine vr_index_rd (gk rfl) rfl rfl rfl rfl rfl (by omega) rfl ?_ | refine vr_index_rdP (gk rfl) rfl rfl rfl rfl rfl (by omega) rfl ?_ | refine vr_index_rdN (gk rfl) rfl rfl rfl rfl (by omega) rfl ?_ | refine vr_index_row (gk rfl) rfl rfl rfl rfl rfl rfl (by omega) (by omega) rfl ?_ | refine vr_index_rowN (gk rfl) rfl rfl rfl rfl rfl (by omega) (by first | rfl | exact rowOf_length.symm) rfl ?_) | (show VR _ _ _ (⟨_, .call ⟨.builtin .len, _, _⟩, _, _, _, _⟩ :: _) _ _ _; first | refine vr_len_row (gk rfl) rfl rfl (by first | rfl | exact rowOf_length.symm) rfl rfl ?_) | (show VR _ _ _ (⟨_, .binOp _ _ _ _ _, _, _, _, _⟩ :: _) _ _ _; first | refine x_ariw rfl rfl rfl rfl rfl ?_) | (show VR _ _ _ (⟨_, .pick _ _ _, _, _, _, _⟩ :: _) _ _ _; first | refine vr_pick_true (gk rfl) rfl (by assumption) rfl rfl ?_ | refine vr_pick_false (gk rfl) rfl (by assumption) rfl rfl ?_) | refine x_gknow rfl (by assumption) ?_ | (refine x_gsplit rfl ?_ ?_ <;> intro h <;> have hq := h <;> (try simp only [decide_eq_true_eq, decide_eq_false_iff_not, Int.not_lt, Int.not_le, ne_eq, Decidable.not_not, Bool.not_eq_true', Bool.not_eq_false'] at hq)))
        | (show VR _ _ _ [] _ _ _; first | refine vr_nil ?_ | refine vr_nil_t (by kernel_rfl) ?_)
        | (show thenQ _ _ _ _; first | refine q_then_n ?_ | refine q_then_x ?_ | refine q_then_r ?_)
        | (show blockQ _ _ _ _; first | refine q_blk_n ?_ | refine q_blk_r ?_ | refine q_blk_x ?_ | refine q_blk_o rfl ?_)
        | refine vc_seq ?_
        | refine vc_region ?_ | refine vc_region_t ?_
        | (show VC _ (.cond _ _ _) _ _; first | refine vc_cond_t rfl ?_ | refine vc_cond_f rfl ?_ | refine x_know rfl (by assumption) ?_ | (refine x_cond rfl ?_ ?_ <;> intro h <;> have hq := h <;> (try simp only [decide_eq_true_eq, decide_eq_false_iff_not, Int.not_lt, Int.not_le, ne_eq, Decidable.not_not, Bool.not_eq_true', Bool.not_eq_false'] at hq)))
        | refine vc_ret ?_ | refine vc_exit ?_ | refine vc_block ?_ | refine vc_skip ?_ | refine vc_label ?_)
      all_goals first
        | (refine ret_int isRet_r rfl ?_
           first
           | exact (checkNb_none (by omega) hk (by omega)).symm
           | (refine (checkNb_hit (by omega) hk (by omega) ?_ (by decide)).symm; simp_all [nbErr]))
        | (refine ⟨k + 1, ⟨by omega, fun i hi => ?_⟩, by omega, le_of ⟨rfl, rfl, rfl, rfl, trivial⟩ trivial rfl⟩
           by_cases hik : i < k
           · exact hk.2 i hik
           · have : i = k := by omega
             subst this
             simp_all [nbErr])
        | trace_state
end Go.Proofs

