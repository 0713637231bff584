/-
  What functions of the given program hand back, by walks over its code, and plain laws on that. No condition.
-/
import Derived.Test.YtcheghbghehifaaSxP23a
namespace Go.Proofs
open Go Go.Sx
set_option linter.unusedSimpArgs false
set_option linter.unusedVariables false
attribute [local irreducible] VR VC thenQ blockQ

/-! ## rank -/

structure Rk where
  node : Int
  epoch : Int
  parent : Int
  heard : Int
  rank : Int
  least : Int
  deriving DecidableEq, Inhabited
def Rk.cs (r : Rk) : List C := [.d (.int .i64 r.node), .d (.int .i64 r.epoch), .d (.int .i64 r.parent), .d (.int .i64 r.heard), .d (.int .i64 r.rank), .d (.int .i64 r.least)]
abbrev rkA (r : Rk) : AV := .agg r.cs

theorem rwithin_spec (n lo hi : Int) : FnS Try.prog 52 [AI n, AI lo, AI hi] [] (AB (inR n lo hi)) [] := by
  refine FnS.of_body (enters_of Try.func52 (by kernel_rfl) rfl) Try.func52 rfl Try.ntmps52 Try.results52 rfl rfl rfl rfl fun E hS => ?_
  repeat' (first
    | (show VR _ _ _ (_ :: _) _ _ _; first | refine x_op rfl (by first | exact True.intro | omega) ?_ | (show VR _ _ _ (⟨_, .pick _ _ _, _, _, _, _⟩ :: _) _ _ _; first | refine vr_pick_true (gk rfl) rfl (by assumption) rfl rfl ?_ | refine vr_pick_false (gk rfl) rfl (by assumption) rfl rfl ?_) | refine x_gknow rfl (by assumption) ?_ | (refine x_gsplit rfl ?_ ?_ <;> intro h <;> have hq := h <;> (try simp only [decide_eq_true_eq, decide_eq_false_iff_not, Int.not_lt, Int.not_le, ne_eq, Decidable.not_not, Bool.not_eq_true', Bool.not_eq_false'] at hq)))
    | (show VR _ _ _ [] _ _ _; first | refine vr_nil ?_ | refine vr_nil_t (by kernel_rfl) ?_)
    | (show thenQ _ _ _ _; first | refine q_then_n ?_ | refine q_then_x ?_ | refine q_then_r ?_)
    | (show blockQ _ _ _ _; first | refine q_blk_n ?_ | refine q_blk_r ?_ | refine q_blk_x ?_ | refine q_blk_o rfl ?_)
    | refine vc_seq ?_
    | refine vc_region ?_ | refine vc_region_t ?_
    | (show VC _ (.cond _ _ _) _ _; first | refine vc_cond_t rfl ?_ | refine vc_cond_f rfl ?_ | refine x_know rfl (by assumption) ?_ | (refine x_cond rfl ?_ ?_ <;> intro h <;> have hq := h <;> (try simp only [decide_eq_true_eq, decide_eq_false_iff_not, Int.not_lt, Int.not_le, ne_eq, Decidable.not_not, Bool.not_eq_true', Bool.not_eq_false'] at hq)))
    | refine vc_ret ?_ | refine vc_exit ?_ | refine vc_block ?_ | refine vc_skip ?_ | refine vc_label ?_)
  all_goals refine ret_bool isRet_r rfl ?_
  all_goals simp_all [inR] <;> omega

def nodeB (n : Int) : Bool := inR n 0 31
theorem rnode_spec (n : Int) : FnS Try.prog 53 [AI n] [] (AB (nodeB n)) [] := by
  refine FnS.of_body (enters_of Try.func53 (by kernel_rfl) rfl) Try.func53 rfl Try.ntmps53 Try.results53 rfl rfl rfl rfl fun E hS => ?_
  repeat' (first
    | (show VR _ _ _ (_ :: _) _ _ _; first | refine x_op rfl (by first | exact True.intro | omega) ?_ | (show VR _ _ _ (⟨_, .call ⟨.value _, _, _⟩, _, _, _, _⟩ :: _) _ _ _; first | refine vr_calld (rwithin_spec _ _ _) (gk rfl) rfl rfl rfl rfl rfl rfl ?_) | refine x_gknow rfl (by assumption) ?_ | (refine x_gsplit rfl ?_ ?_ <;> intro h <;> have hq := h <;> (try simp only [decide_eq_true_eq, decide_eq_false_iff_not, Int.not_lt, Int.not_le, ne_eq, Decidable.not_not, Bool.not_eq_true', Bool.not_eq_false'] at hq)))
    | (show VR _ _ _ [] _ _ _; first | refine vr_nil ?_ | refine vr_nil_t (by kernel_rfl) ?_)
    | (show thenQ _ _ _ _; first | refine q_then_n ?_ | refine q_then_x ?_ | refine q_then_r ?_)
    | (show blockQ _ _ _ _; first | refine q_blk_n ?_ | refine q_blk_r ?_ | refine q_blk_x ?_ | refine q_blk_o rfl ?_)
    | refine vc_seq ?_
    | refine vc_region ?_ | refine vc_region_t ?_
    | (show VC _ (.cond _ _ _) _ _; first | refine vc_cond_t rfl ?_ | refine vc_cond_f rfl ?_ | refine x_know rfl (by assumption) ?_ | (refine x_cond rfl ?_ ?_ <;> intro h <;> have hq := h <;> (try simp only [decide_eq_true_eq, decide_eq_false_iff_not, Int.not_lt, Int.not_le, ne_eq, Decidable.not_not, Bool.not_eq_true', Bool.not_eq_false'] at hq)))
    | refine vc_ret ?_ | refine vc_exit ?_ | refine vc_block ?_ | refine vc_skip ?_ | refine vc_label ?_)
  all_goals exact ret_bool isRet_r rfl rfl

def advB (e r : Int) : Bool := inR e 1 65535 && inR r 0 65534
theorem adv_spec (e r : Int) : FnS Try.prog 55 [AI e, AI r] [] (AB (advB e r)) [] := by
  refine FnS.of_body (enters_of Try.func55 (by kernel_rfl) rfl) Try.func55 rfl Try.ntmps55 Try.results55 rfl rfl rfl rfl fun E hS => ?_
  repeat' (first
    | (show VR _ _ _ (_ :: _) _ _ _; first | refine x_op rfl (by first | exact True.intro | omega) ?_ | (show VR _ _ _ (⟨_, .call ⟨.value _, _, _⟩, _, _, _, _⟩ :: _) _ _ _; first | refine vr_calld (rwithin_spec _ _ _) (gk rfl) rfl rfl rfl rfl rfl rfl ?_) | (show VR _ _ _ (⟨_, .pick _ _ _, _, _, _, _⟩ :: _) _ _ _; first | refine vr_pick_true (gk rfl) rfl (by assumption) rfl rfl ?_ | refine vr_pick_false (gk rfl) rfl (by assumption) rfl rfl ?_) | refine x_gknow rfl (by assumption) ?_ | (refine x_gsplit rfl ?_ ?_ <;> intro h <;> have hq := h <;> (try simp only [decide_eq_true_eq, decide_eq_false_iff_not, Int.not_lt, Int.not_le, ne_eq, Decidable.not_not, Bool.not_eq_true', Bool.not_eq_false'] at hq)))
    | (show VR _ _ _ [] _ _ _; first | refine vr_nil ?_ | refine vr_nil_t (by kernel_rfl) ?_)
    | (show thenQ _ _ _ _; first | refine q_then_n ?_ | refine q_then_x ?_ | refine q_then_r ?_)
    | (show blockQ _ _ _ _; first | refine q_blk_n ?_ | refine q_blk_r ?_ | refine q_blk_x ?_ | refine q_blk_o rfl ?_)
    | refine vc_seq ?_
    | refine vc_region ?_ | refine vc_region_t ?_
    | (show VC _ (.cond _ _ _) _ _; first | refine vc_cond_t rfl ?_ | refine vc_cond_f rfl ?_ | refine x_know rfl (by assumption) ?_ | (refine x_cond rfl ?_ ?_ <;> intro h <;> have hq := h <;> (try simp only [decide_eq_true_eq, decide_eq_false_iff_not, Int.not_lt, Int.not_le, ne_eq, Decidable.not_not, Bool.not_eq_true', Bool.not_eq_false'] at hq)))
    | refine vc_ret ?_ | refine vc_exit ?_ | refine vc_block ?_ | refine vc_skip ?_ | refine vc_label ?_)
  all_goals refine ret_bool isRet_r rfl ?_
  all_goals simp_all [advB]

def leastB (r : Rk) : Bool := inR r.least 1 65535 || (decide (r.node = 0) && decide (r.least = 0))
def rightB (r : Rk) : Bool :=
  if r.node = 0 then decide (1 ≤ r.epoch) && decide (r.parent = -1) && decide (r.heard = 0) && decide (r.rank = 0) && (decide (r.least = 0) || decide (r.least = 65535))
  else if r.parent = -1 then decide (r.heard = 65535) && decide (r.rank = 65535) && (decide (0 < r.epoch) || decide (r.least = 65535))
  else nodeB r.parent && decide (r.parent ≠ r.node) && decide (1 ≤ r.epoch) && decide (0 ≤ r.heard) && decide (r.heard < r.rank) && decide (r.heard < r.least) && decide (r.rank < 65535)
def rkErr (r : Rk) : Int := if nodeB r.node && inR r.epoch 0 65535 && leastB r then (if rightB r then 0 else 1) else 2

theorem rcheck_spec (r : Rk) : FnS Try.prog 18 [rkA r] [] (AI (rkErr r)) [] := by
  refine FnS.of_body (enters_of Try.func18 (by kernel_rfl) rfl) Try.func18 rfl Try.ntmps18 Try.results18 rfl rfl rfl rfl fun E hS => ?_
  refine vc_cut (stOf [(1, .c (.ptr 1 0)), (2, AI 0)] [(1, .box r.cs)]) ?_ ?_
  · repeat' (first
      | (show VR _ _ _ (_ :: _) _ _ _; first | refine x_op rfl (by first | exact True.intro | omega) ?_ | (show VR _ _ _ (⟨_, .pick _ _ _, _, _, _, _⟩ :: _) _ _ _; first | refine vr_pick_true (gk rfl) rfl (by assumption) rfl rfl ?_ | refine vr_pick_false (gk rfl) rfl (by assumption) rfl rfl ?_) | refine x_gknow rfl (by assumption) ?_ | (refine x_gsplit rfl ?_ ?_ <;> intro h <;> have hq := h <;> (try simp only [decide_eq_true_eq, decide_eq_false_iff_not, Int.not_lt, Int.not_le, ne_eq, Decidable.not_not, Bool.not_eq_true', Bool.not_eq_false'] at hq)))
      | (show VR _ _ _ [] _ _ _; first | refine vr_nil ?_ | refine vr_nil_t (by kernel_rfl) ?_)
      | (show thenQ _ _ _ _; first | refine q_then_n ?_ | refine q_then_x ?_ | refine q_then_r ?_)
      | (show blockQ _ _ _ _; first | refine q_blk_n ?_ | refine q_blk_r ?_ | refine q_blk_x ?_ | refine q_blk_o rfl ?_)
      | refine vc_seq ?_
      | refine vc_region ?_ | refine vc_region_t ?_
      | (show VC _ (.cond _ _ _) _ _; first | refine vc_cond_t rfl ?_ | refine vc_cond_f rfl ?_ | refine x_know rfl (by assumption) ?_ | (refine x_cond rfl ?_ ?_ <;> intro h <;> have hq := h <;> (try simp only [decide_eq_true_eq, decide_eq_false_iff_not, Int.not_lt, Int.not_le, ne_eq, Decidable.not_not, Bool.not_eq_true', Bool.not_eq_false'] at hq)))
      | refine vc_ret ?_ | refine vc_exit ?_ | refine vc_block ?_ | refine vc_skip ?_ | refine vc_label ?_)
    show Le _ _ _
    exact le_of ⟨rfl, rfl, trivial⟩ ⟨rfl, trivial⟩ rfl
  refine vc_cut (stOf [(1, .c (.ptr 1 0)), (2, AI 0), (3, AB (leastB r))] [(1, .box r.cs)]) ?_ ?_
  · repeat' (first
      | (show VR _ _ _ (_ :: _) _ _ _; first | refine x_op rfl (by first | exact True.intro | omega) ?_ | (show VR _ _ _ (⟨_, .call ⟨.value _, _, _⟩, _, _, _, _⟩ :: _) _ _ _; first | refine vr_calld (rwithin_spec _ _ _) (gk rfl) rfl rfl rfl rfl rfl rfl ?_) | (show VR _ _ _ (⟨_, .pick _ _ _, _, _, _, _⟩ :: _) _ _ _; first | refine vr_pick_true (gk rfl) rfl (by assumption) rfl rfl ?_ | refine vr_pick_false (gk rfl) rfl (by assumption) rfl rfl ?_) | refine x_gknow rfl (by assumption) ?_ | (refine x_gsplit rfl ?_ ?_ <;> intro h <;> have hq := h <;> (try simp only [decide_eq_true_eq, decide_eq_false_iff_not, Int.not_lt, Int.not_le, ne_eq, Decidable.not_not, Bool.not_eq_true', Bool.not_eq_false'] at hq)))
      | (show VR _ _ _ [] _ _ _; first | refine vr_nil ?_ | refine vr_nil_t (by kernel_rfl) ?_)
      | (show thenQ _ _ _ _; first | refine q_then_n ?_ | refine q_then_x ?_ | refine q_then_r ?_)
      | (show blockQ _ _ _ _; first | refine q_blk_n ?_ | refine q_blk_r ?_ | refine q_blk_x ?_ | refine q_blk_o rfl ?_)
      | refine vc_seq ?_
      | refine vc_region ?_ | refine vc_region_t ?_
      | (show VC _ (.cond _ _ _) _ _; first | refine vc_cond_t rfl ?_ | refine vc_cond_f rfl ?_ | refine x_know rfl (by assumption) ?_ | (refine x_cond rfl ?_ ?_ <;> intro h <;> have hq := h <;> (try simp only [decide_eq_true_eq, decide_eq_false_iff_not, Int.not_lt, Int.not_le, ne_eq, Decidable.not_not, Bool.not_eq_true', Bool.not_eq_false'] at hq)))
      | refine vc_ret ?_ | refine vc_exit ?_ | refine vc_block ?_ | refine vc_skip ?_ | refine vc_label ?_)
    all_goals show Le _ _ _
    all_goals refine le_of ⟨rfl, rfl, ab_eq ?_ rfl, trivial⟩ ⟨rfl, trivial⟩ rfl
    all_goals simp_all [leastB]
  repeat' (first
    | (show VR _ _ _ (_ :: _) _ _ _; first | refine x_op rfl (by first | exact True.intro | omega) ?_ | (show VR _ _ _ (⟨_, .call ⟨.value _, _, _⟩, _, _, _, _⟩ :: _) _ _ _; first | refine vr_calld (rwithin_spec _ _ _) (gk rfl) rfl rfl rfl rfl rfl rfl ?_ | refine vr_calld (rnode_spec _) (gk rfl) rfl rfl rfl rfl rfl rfl ?_) | (show VR _ _ _ (⟨_, .pick _ _ _, _, _, _, _⟩ :: _) _ _ _; first | refine vr_pick_true (gk rfl) rfl (by assumption) rfl rfl ?_ | refine vr_pick_false (gk rfl) rfl (by assumption) rfl rfl ?_) | refine x_gknow rfl (by assumption) ?_ | (refine x_gsplit rfl ?_ ?_ <;> intro h <;> have hq := h <;> (try simp only [decide_eq_true_eq, decide_eq_false_iff_not, Int.not_lt, Int.not_le, ne_eq, Decidable.not_not, Bool.not_eq_true', Bool.not_eq_false'] at hq)))
    | (show VR _ _ _ [] _ _ _; first | refine vr_nil ?_ | refine vr_nil_t (by kernel_rfl) ?_)
    | (show thenQ _ _ _ _; first | refine q_then_n ?_ | refine q_then_x ?_ | refine q_then_r ?_)
    | (show blockQ _ _ _ _; first | refine q_blk_n ?_ | refine q_blk_r ?_ | refine q_blk_x ?_ | refine q_blk_o rfl ?_)
    | (show VC _ (.seq (.region _ _ _) _) _ _; refine vc_seq ?_)
    | (show VC _ (.seq (.cond _ _ _) _) _ _; refine vc_seq ?_)
    | (show VC _ (.seq .skip _) _ _; refine vc_seq ?_)
    | (show VC _ (.seq (.label _) _) _ _; refine vc_seq ?_)
    | (show VC _ (.seq (.seq (.region _ _ _) (.cond _ _ _)) _) _ _; refine vc_seq ?_)
    | refine vc_region ?_ | refine vc_region_t ?_
    | (show VC _ (.cond _ _ _) _ _; first | refine vc_cond_t rfl ?_ | refine vc_cond_f rfl ?_ | refine x_know rfl (by assumption) ?_ | (refine x_cond rfl ?_ ?_ <;> intro h <;> have hq := h <;> (try simp only [decide_eq_true_eq, decide_eq_false_iff_not, Int.not_lt, Int.not_le, ne_eq, Decidable.not_not, Bool.not_eq_true', Bool.not_eq_false'] at hq)))
    | refine vc_ret ?_ | refine vc_exit ?_ | refine vc_block ?_ | refine vc_skip ?_ | refine vc_label ?_)
  all_goals first
    | (refine ret_int isRet_r rfl ?_; simp_all [rkErr])
    | refine vc_cut (stOf [(1, .c (.ptr 1 0)), (2, AI 0), (4, AB (rightB r))] [(1, .box r.cs)]) ?_ ?_
  · repeat' (first
      | (show VR _ _ _ (_ :: _) _ _ _; first | refine x_op rfl (by first | exact True.intro | omega) ?_ | (show VR _ _ _ (⟨_, .call ⟨.value _, _, _⟩, _, _, _, _⟩ :: _) _ _ _; first | refine vr_calld (rwithin_spec _ _ _) (gk rfl) rfl rfl rfl rfl rfl rfl ?_ | refine vr_calld (rnode_spec _) (gk rfl) rfl rfl rfl rfl rfl rfl ?_) | (show VR _ _ _ (⟨_, .pick _ _ _, _, _, _, _⟩ :: _) _ _ _; first | refine vr_pick_true (gk rfl) rfl (by assumption) rfl rfl ?_ | refine vr_pick_false (gk rfl) rfl (by assumption) rfl rfl ?_) | refine x_gknow rfl (by assumption) ?_ | (refine x_gsplit rfl ?_ ?_ <;> intro h <;> have hq := h <;> (try simp only [decide_eq_true_eq, decide_eq_false_iff_not, Int.not_lt, Int.not_le, ne_eq, Decidable.not_not, Bool.not_eq_true', Bool.not_eq_false'] at hq)))
      | (show VR _ _ _ [] _ _ _; first | refine vr_nil ?_ | refine vr_nil_t (by kernel_rfl) ?_)
      | (show thenQ _ _ _ _; first | refine q_then_n ?_ | refine q_then_x ?_ | refine q_then_r ?_)
      | (show blockQ _ _ _ _; first | refine q_blk_n ?_ | refine q_blk_r ?_ | refine q_blk_x ?_ | refine q_blk_o rfl ?_)
      | refine vc_seq ?_
      | refine vc_region ?_ | refine vc_region_t ?_
      | (show VC _ (.cond _ _ _) _ _; first | refine vc_cond_t rfl ?_ | refine vc_cond_f rfl ?_ | refine x_know rfl (by assumption) ?_ | (refine x_cond rfl ?_ ?_ <;> intro h <;> have hq := h <;> (try simp only [decide_eq_true_eq, decide_eq_false_iff_not, Int.not_lt, Int.not_le, ne_eq, Decidable.not_not, Bool.not_eq_true', Bool.not_eq_false'] at hq)))
      | refine vc_ret ?_ | refine vc_exit ?_ | refine vc_block ?_ | refine vc_skip ?_ | refine vc_label ?_)
    all_goals show Le _ _ _
    all_goals refine le_of ⟨rfl, rfl, ab_eq ?_ rfl, trivial⟩ ⟨rfl, trivial⟩ rfl
    all_goals simp_all [rightB] <;> omega
  · repeat' (first
      | (show VR _ _ _ (_ :: _) _ _ _; first | refine x_op rfl (by first | exact True.intro | omega) ?_ | (show VR _ _ _ (⟨_, .pick _ _ _, _, _, _, _⟩ :: _) _ _ _; first | refine vr_pick_true (gk rfl) rfl (by assumption) rfl rfl ?_ | refine vr_pick_false (gk rfl) rfl (by assumption) rfl rfl ?_) | refine x_gknow rfl (by assumption) ?_ | (refine x_gsplit rfl ?_ ?_ <;> intro h <;> have hq := h <;> (try simp only [decide_eq_true_eq, decide_eq_false_iff_not, Int.not_lt, Int.not_le, ne_eq, Decidable.not_not, Bool.not_eq_true', Bool.not_eq_false'] at hq)))
      | (show VR _ _ _ [] _ _ _; first | refine vr_nil ?_ | refine vr_nil_t (by kernel_rfl) ?_)
      | (show thenQ _ _ _ _; first | refine q_then_n ?_ | refine q_then_x ?_ | refine q_then_r ?_)
      | (show blockQ _ _ _ _; first | refine q_blk_n ?_ | refine q_blk_r ?_ | refine q_blk_x ?_ | refine q_blk_o rfl ?_)
      | refine vc_seq ?_
      | refine vc_region ?_ | refine vc_region_t ?_
      | (show VC _ (.cond _ _ _) _ _; first | refine vc_cond_t rfl ?_ | refine vc_cond_f rfl ?_ | refine x_know rfl (by assumption) ?_ | (refine x_cond rfl ?_ ?_ <;> intro h <;> have hq := h <;> (try simp only [decide_eq_true_eq, decide_eq_false_iff_not, Int.not_lt, Int.not_le, ne_eq, Decidable.not_not, Bool.not_eq_true', Bool.not_eq_false'] at hq)))
      | refine vc_ret ?_ | refine vc_exit ?_ | refine vc_block ?_ | refine vc_skip ?_ | refine vc_label ?_)
    all_goals refine ret_int isRet_r rfl ?_
    all_goals simp_all [rkErr]

def feasB (r : Rk) (e k : Int) : Bool := decide (rkErr r = 0) && decide (r.node ≠ 0) && advB e k && (decide (r.epoch < e) || (decide (e = r.epoch) && decide (k < r.least)))
theorem feas_spec (r : Rk) (e k : Int) : FnS Try.prog 63 [rkA r, AI e, AI k] [] (AB (feasB r e k)) [] := by
  refine FnS.of_body (enters_of Try.func63 (by kernel_rfl) rfl) Try.func63 rfl Try.ntmps63 Try.results63 rfl rfl rfl rfl fun E hS => ?_
  repeat' (first
    | (show VR _ _ _ (_ :: _) _ _ _; first | refine x_op rfl (by first | exact True.intro | omega) ?_ | (show VR _ _ _ (⟨_, .call ⟨.value _, _, _⟩, _, _, _, _⟩ :: _) _ _ _; first | refine vr_calld (rcheck_spec r) (gk rfl) rfl rfl rfl rfl rfl rfl ?_ | refine vr_calld (adv_spec _ _) (gk rfl) rfl rfl rfl rfl rfl rfl ?_) | (show VR _ _ _ (⟨_, .pick _ _ _, _, _, _, _⟩ :: _) _ _ _; first | refine vr_pick_true (gk rfl) rfl (by assumption) rfl rfl ?_ | refine vr_pick_false (gk rfl) rfl (by assumption) rfl rfl ?_) | refine x_gknow rfl (by assumption) ?_ | (refine x_gsplit rfl ?_ ?_ <;> intro h <;> have hq := h <;> (try simp only [decide_eq_true_eq, decide_eq_false_iff_not, Int.not_lt, Int.not_le, ne_eq, Decidable.not_not, Bool.not_eq_true', Bool.not_eq_false'] at hq)))
    | (show VR _ _ _ [] _ _ _; first | refine vr_nil ?_ | refine vr_nil_t (by kernel_rfl) ?_)
    | (show thenQ _ _ _ _; first | refine q_then_n ?_ | refine q_then_x ?_ | refine q_then_r ?_)
    | (show blockQ _ _ _ _; first | refine q_blk_n ?_ | refine q_blk_r ?_ | refine q_blk_x ?_ | refine q_blk_o rfl ?_)
    | refine vc_seq ?_
    | refine vc_region ?_ | refine vc_region_t ?_
    | (show VC _ (.cond _ _ _) _ _; first | refine vc_cond_t rfl ?_ | refine vc_cond_f rfl ?_ | refine x_know rfl (by assumption) ?_ | (refine x_cond rfl ?_ ?_ <;> intro h <;> have hq := h <;> (try simp only [decide_eq_true_eq, decide_eq_false_iff_not, Int.not_lt, Int.not_le, ne_eq, Decidable.not_not, Bool.not_eq_true', Bool.not_eq_false'] at hq)))
    | refine vc_ret ?_ | refine vc_exit ?_ | refine vc_block ?_ | refine vc_skip ?_ | refine vc_label ?_)
  all_goals try refine ret_bool isRet_r rfl ?_
  all_goals simp_all [feasB]

def begin' (r : Rk) (e : Int) : Rk := if r.epoch < e then { r with epoch := e, least := 65535 } else r
theorem ret_agg1 {P : Program} {σ : St} {t nm : Nat} {T : TypeId} {ti : TyI} {cs cs' : List C} {e : Exit} (he : e = .normal ∨ e = .ret) [ht : TyOK P T ti] (hx : σ (.s t) = some (.v (.c (.ptr nm 0)))) (hb : σ (.b nm) = some (.k (.box cs'))) (hagg : ti.isAgg = true)
    (hl : (cs'.take ti.size).length = ti.size) (h : cs = cs'.take ti.size) : retQ P [.cell t T] (.agg cs) [] e σ :=
  ⟨he, [.agg ((cs'.drop 0).take ti.size)], .agg hx hb hagg hl .nil, by rw [h]; rfl, fun p hp => by cases hp⟩
theorem begin_spec (r : Rk) (e : Int) : FnS Try.prog 56 [rkA r, AI e] [] (rkA (begin' r e)) [] := by
  refine FnS.of_body (enters_of Try.func56 (by kernel_rfl) rfl) Try.func56 rfl Try.ntmps56 Try.results56 rfl rfl rfl rfl fun E hS => ?_
  repeat' (first
    | (show VR _ _ _ (_ :: _) _ _ _; first | refine x_op rfl (by first | exact True.intro | omega) ?_ | refine x_gknow rfl (by assumption) ?_ | (refine x_gsplit rfl ?_ ?_ <;> intro h <;> have hq := h <;> (try simp only [decide_eq_true_eq, decide_eq_false_iff_not, Int.not_lt, Int.not_le, ne_eq, Decidable.not_not, Bool.not_eq_true', Bool.not_eq_false'] at hq)))
    | (show VR _ _ _ [] _ _ _; first | refine vr_nil ?_ | refine vr_nil_t (by kernel_rfl) ?_)
    | (show thenQ _ _ _ _; first | refine q_then_n ?_ | refine q_then_x ?_ | refine q_then_r ?_)
    | (show blockQ _ _ _ _; first | refine q_blk_n ?_ | refine q_blk_r ?_ | refine q_blk_x ?_ | refine q_blk_o rfl ?_)
    | refine vc_seq ?_
    | refine vc_region ?_ | refine vc_region_t ?_
    | (show VC _ (.cond _ _ _) _ _; first | refine vc_cond_t rfl ?_ | refine vc_cond_f rfl ?_ | refine x_know rfl (by assumption) ?_ | (refine x_cond rfl ?_ ?_ <;> intro h <;> have hq := h <;> (try simp only [decide_eq_true_eq, decide_eq_false_iff_not, Int.not_lt, Int.not_le, ne_eq, Decidable.not_not, Bool.not_eq_true', Bool.not_eq_false'] at hq)))
    | refine vc_ret ?_ | refine vc_exit ?_ | refine vc_block ?_ | refine vc_skip ?_ | refine vc_label ?_)
  all_goals refine ret_agg1 isRet_r rfl rfl rfl rfl ?_
  all_goals unfold begin'
  all_goals split
  all_goals first | rfl | (exfalso; omega)

def lose' (r : Rk) : Rk := if rkErr r = 0 ∧ r.node ≠ 0 then { r with parent := -1, heard := 65535, rank := 65535 } else r
theorem lose_spec (r : Rk) : FnS Try.prog 44 [rkA r] [] (rkA (lose' r)) [] := by
  refine FnS.of_body (enters_of Try.func44 (by kernel_rfl) rfl) Try.func44 rfl Try.ntmps44 Try.results44 rfl rfl rfl rfl fun E hS => ?_
  repeat' (first
    | (show VR _ _ _ (_ :: _) _ _ _; first | refine x_op rfl (by first | exact True.intro | omega) ?_ | (show VR _ _ _ (⟨_, .call ⟨.value _, _, _⟩, _, _, _, _⟩ :: _) _ _ _; first | refine vr_calld (rcheck_spec r) (gk rfl) rfl rfl rfl rfl rfl rfl ?_) | (show VR _ _ _ (⟨_, .pick _ _ _, _, _, _, _⟩ :: _) _ _ _; first | refine vr_pick_true (gk rfl) rfl (by assumption) rfl rfl ?_ | refine vr_pick_false (gk rfl) rfl (by assumption) rfl rfl ?_) | refine x_gknow rfl (by assumption) ?_ | (refine x_gsplit rfl ?_ ?_ <;> intro h <;> have hq := h <;> (try simp only [decide_eq_true_eq, decide_eq_false_iff_not, Int.not_lt, Int.not_le, ne_eq, Decidable.not_not, Bool.not_eq_true', Bool.not_eq_false'] at hq)))
    | (show VR _ _ _ [] _ _ _; first | refine vr_nil ?_ | refine vr_nil_t (by kernel_rfl) ?_)
    | (show thenQ _ _ _ _; first | refine q_then_n ?_ | refine q_then_x ?_ | refine q_then_r ?_)
    | (show blockQ _ _ _ _; first | refine q_blk_n ?_ | refine q_blk_r ?_ | refine q_blk_x ?_ | refine q_blk_o rfl ?_)
    | refine vc_seq ?_
    | refine vc_region ?_ | refine vc_region_t ?_
    | (show VC _ (.cond _ _ _) _ _; first | refine vc_cond_t rfl ?_ | refine vc_cond_f rfl ?_ | refine x_know rfl (by assumption) ?_ | (refine x_cond rfl ?_ ?_ <;> intro h <;> have hq := h <;> (try simp only [decide_eq_true_eq, decide_eq_false_iff_not, Int.not_lt, Int.not_le, ne_eq, Decidable.not_not, Bool.not_eq_true', Bool.not_eq_false'] at hq)))
    | refine vc_ret ?_ | refine vc_exit ?_ | refine vc_block ?_ | refine vc_skip ?_ | refine vc_label ?_)
  all_goals refine ret_agg1 isRet_r rfl rfl rfl rfl ?_
  all_goals unfold lose'
  all_goals split
  all_goals first | rfl | (exfalso; simp_all; done)

def rkZ : Rk := ⟨0, 0, 0, 0, 0, 0⟩
theorem ret_agg_d {P : Program} {σ : St} {t u nm : Nat} {T : TypeId} {ti : TyI} {cs cs' : List C} {x x' : D} {e : Exit} (he : e = .normal ∨ e = .ret) [ht : TyOK P T ti] (hx : σ (.s t) = some (.v (.c (.ptr nm 0)))) (hb : σ (.b nm) = some (.k (.box cs'))) (hagg : ti.isAgg = true)
    (hl : (cs'.take ti.size).length = ti.size) (hu : σ (.s u) = some (.v (AD x'))) (h : cs = cs'.take ti.size) (h2 : x = x') : retQ P [.cell t T, .tmp u] (.tup [.agg cs, AD x]) [] e σ :=
  ⟨he, [.agg ((cs'.drop 0).take ti.size), AD x'], .agg hx hb hagg hl (.tmp rfl hu .nil), by rw [h, h2]; rfl, fun p hp => by cases hp⟩

def adopt' (r : Rk) (fr e k c : Int) : Rk × Int :=
  if rkErr r ≠ 0 then (rkZ, 1)
  else if (nodeB fr && decide (fr ≠ r.node) && advB e k && inR c 1 1023) = false then (rkZ, 2)
  else if feasB r e k = false then (rkZ, 12)
  else if 65535 ≤ k + c then (rkZ, 21)
  else ({ begin' r e with parent := fr, heard := k, rank := k + c }, 0)

theorem advB_t (e k : Int) : (advB e k = true) = ((1 ≤ e ∧ e ≤ 65535) ∧ 0 ≤ k ∧ k ≤ 65534) := by simp [advB, inR]
theorem advB_f (e k : Int) : (advB e k = false) = ¬ ((1 ≤ e ∧ e ≤ 65535) ∧ 0 ≤ k ∧ k ≤ 65534) := by rw [← advB_t]; simp
theorem bounds_adv {e k : Int} (h : advB e k = true) : (1 ≤ e ∧ e ≤ 65535) ∧ 0 ≤ k ∧ k ≤ 65534 := by simpa [advB, inR] using h
theorem bounds_inR {c lo hi : Int} (h : inR c lo hi = true) : lo ≤ c ∧ c ≤ hi := by simpa [inR] using h

end Go.Proofs

