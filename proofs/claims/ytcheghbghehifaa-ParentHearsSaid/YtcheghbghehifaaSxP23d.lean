/-
  What functions of the given program hand back, by walks over its code, and plain laws on that. No condition.
-/
import Derived.Test.YtcheghbghehifaaSxP23c
namespace Go.Proofs
open Go Go.Sx
set_option linter.unusedSimpArgs false
set_option linter.unusedVariables false
attribute [local irreducible] VR VC thenQ blockQ

def Nb.cs (x : Nb) : List C := [.d (.int .i64 x.node), .d (.int .i64 x.epoch), .d (.int .i64 x.rank), .d (.int .i64 x.slot), .d (.int .i64 x.att), .d (.int .i64 x.ack)]
abbrev nbA (x : Nb) : AV := .agg x.cs

theorem find1_spec (x : Nb) (t : Int) : FnS Try.prog 68 [nbA x, AI t] [] (AI (cmpI x.node t)) [] := by
  refine FnS.of_body (enters_of Try.func68 (by kernel_rfl) rfl) Try.func68 rfl Try.ntmps68 Try.results68 rfl rfl rfl rfl fun E hS => ?_
  repeat' (first
    | (show VR _ _ _ (_ :: _) _ _ _; first | refine x_op rfl (by first | exact True.intro | omega) ?_ | (show VR _ _ _ (⟨_, .call ⟨.value _, _, _⟩, _, _, _, _⟩ :: _) _ _ _; first | refine vr_calld (cmp_spec _ _) (gk rfl) rfl rfl rfl rfl rfl rfl ?_) | refine x_gknow rfl (by assumption) ?_ | (refine x_gsplit rfl ?_ ?_ <;> intro h <;> have hq := h <;> (try simp only [decide_eq_true_eq, decide_eq_false_iff_not, Int.not_lt, Int.not_le, ne_eq, Decidable.not_not, Bool.not_eq_true', Bool.not_eq_false'] at hq)))
    | (show VR _ _ _ [] _ _ _; first | refine vr_nil ?_ | refine vr_nil_t (by kernel_rfl) ?_)
    | (show thenQ _ _ _ _; first | refine q_then_n ?_ | refine q_then_x ?_ | refine q_then_r ?_)
    | (show blockQ _ _ _ _; first | refine q_blk_n ?_ | refine q_blk_r ?_ | refine q_blk_x ?_ | refine q_blk_o rfl ?_)
    | refine vc_seq ?_
    | refine vc_region ?_ | refine vc_region_t ?_
    | (show VC _ (.cond _ _ _) _ _; first | refine vc_cond_t rfl ?_ | refine vc_cond_f rfl ?_ | refine x_know rfl (by assumption) ?_ | (refine x_cond rfl ?_ ?_ <;> intro h <;> have hq := h <;> (try simp only [decide_eq_true_eq, decide_eq_false_iff_not, Int.not_lt, Int.not_le, ne_eq, Decidable.not_not, Bool.not_eq_true', Bool.not_eq_false'] at hq)))
    | refine vc_ret ?_ | refine vc_exit ?_ | refine vc_block ?_ | refine vc_skip ?_ | refine vc_label ?_)
  all_goals exact ret_int isRet_r rfl rfl

/-- The least index at which f no longer holds, as a binary search finds it. -/
def bs (f : Nat → Bool) (i j : Nat) : Nat := if i < j then (if f ((i + j) / 2) then bs f ((i + j) / 2 + 1) j else bs f i ((i + j) / 2)) else i
termination_by j - i
decreasing_by all_goals omega

def nbCmp (t : Int) (x : Nb) : Int := cmpI x.node t
def bsNb (l : List Nb) (t : Int) : Nat := bs (fun i => decide (nbCmp t (l.getD i default) < 0)) 0 l.length
theorem bs_le (f : Nat → Bool) (i j : Nat) (h : i ≤ j) : bs f i j ≤ j := by
  fun_induction bs f i j with
  | case1 i j hij hf ih => exact ih (by omega)
  | case2 i j hij hf ih => exact Nat.le_trans (ih (by omega)) (by omega)
  | case3 => exact h
def foundNb (l : List Nb) (t : Int) : Bool := decide (bsNb l t < l.length) && decide (nbCmp t (l.getD (bsNb l t) default) = 0)

theorem bs_in (f : Nat → Bool) (i j : Nat) : i ≤ bs f i j := by
  fun_induction bs f i j with
  | case1 i j hij hf ih => omega
  | case2 i j hij hf ih => exact ih
  | case3 => exact Nat.le_refl _

abbrev findφ : List DV → DV → Prop := fun ds r => ∃ (x : Nb) (t : Int), ds = [.agg x.enc, .d (.int .i64 t)] ∧ r = .d (.int .i64 (cmpI x.node t))

theorem search_spec (l : List Nb) (t : Int) (hl : l.length ≤ 1000000) : FnS Try.prog 67 [AD (nbs l), AI t, .clo findφ] [] (.tup [AI (bsNb l t), AB (foundNb l t)]) [] := by
  refine FnS.of_body (enters_of Try.func67 (by kernel_rfl) rfl) Try.func67 rfl Try.ntmps67 Try.results67 rfl rfl rfl rfl fun E hS => ?_
  repeat' (first
    | (show VR _ _ _ (_ :: _) _ _ _; first | refine x_op rfl (by first | exact True.intro | omega) ?_ | (show VR _ _ _ (⟨_, .indexAddr _ _ _, _, _, _, _⟩ :: _) _ _ _; first | refine vr_index_rd (gk rfl) rfl rfl rfl rfl rfl (by omega) rfl ?_ | refine vr_index_rdP (gk rfl) rfl rfl rfl rfl rfl (by omega) rfl ?_ | refine vr_index_rdN (gk rfl) rfl rfl rfl rfl (by omega) rfl ?_ | refine vr_index_row (gk rfl) rfl rfl rfl rfl rfl rfl (by omega) (by omega) rfl ?_ | refine vr_index_rowN (gk rfl) rfl rfl rfl rfl rfl (by omega) (by first | rfl | exact rowOf_length.symm) rfl ?_) | (show VR _ _ _ (⟨_, .call ⟨.builtin .len, _, _⟩, _, _, _, _⟩ :: _) _ _ _; first | refine vr_len_row (gk rfl) rfl rfl (by first | rfl | exact rowOf_length.symm) rfl rfl ?_) | (show VR _ _ _ (⟨_, .convert _ _ _, _, _, _, _⟩ :: _) _ _ _; first | refine vr_convert_id (gk rfl) rfl ⟨_, rfl⟩ rfl (by first | exact wrap_i64 (by omega) | exact wrap_u64 (by omega) | exact wrap_u16 (by omega) | exact wrap_u8 (by omega) | exact wrap_u32 (by omega)) rfl ?_ | refine vr_convert (gk rfl) rfl ⟨_, rfl⟩ rfl rfl ?_) | (show VR _ _ _ (⟨_, .binOp _ _ _ _ _, _, _, _, _⟩ :: _) _ _ _; first | refine vr_shr (m := 1) (gk rfl) rfl rfl rfl (by decide) rfl ?_ | refine vr_shr (m := 8) (gk rfl) rfl rfl rfl (by decide) rfl ?_ | refine x_ariw rfl rfl rfl rfl rfl ?_) | (show VR _ _ _ (⟨_, .pick _ _ _, _, _, _, _⟩ :: _) _ _ _; first | refine vr_pick_true (gk rfl) rfl (by assumption) rfl rfl ?_ | refine vr_pick_false (gk rfl) rfl (by assumption) rfl rfl ?_) | refine x_gknow rfl (by assumption) ?_ | (refine x_gsplit rfl ?_ ?_ <;> intro h <;> have hq := h <;> (try simp only [decide_eq_true_eq, decide_eq_false_iff_not, Int.not_lt, Int.not_le, ne_eq, Decidable.not_not, Bool.not_eq_true', Bool.not_eq_false'] at hq)))
    | (show VR _ _ _ [] _ _ _; first | refine vr_nil ?_ | refine vr_nil_t (by kernel_rfl) ?_)
    | (show thenQ _ _ _ _; first | refine q_then_n ?_ | refine q_then_x ?_ | refine q_then_r ?_)
    | (show blockQ _ _ _ _; first | refine q_blk_n ?_ | refine q_blk_r ?_ | refine q_blk_x ?_ | refine q_blk_o rfl ?_)
    | refine vc_seq ?_
    | refine vc_region ?_ | refine vc_region_t ?_
    | (show VC _ (.cond _ _ _) _ _; first | refine vc_cond_t rfl ?_ | refine vc_cond_f rfl ?_ | refine x_know rfl (by assumption) ?_ | (refine x_cond rfl ?_ ?_ <;> intro h <;> have hq := h <;> (try simp only [decide_eq_true_eq, decide_eq_false_iff_not, Int.not_lt, Int.not_le, ne_eq, Decidable.not_not, Bool.not_eq_true', Bool.not_eq_false'] at hq)))
    | refine vc_ret ?_ | refine vc_exit ?_ | refine vc_block ?_ | refine vc_skip ?_ | refine vc_label ?_)
  refine vc_loopI (ι := Nat × Nat) (fun p => stOf [(0, AD (nbs l)), (1, AI t), (2, .clo findφ), (8, AI l.length), (9, AI p.1), (10, AI p.2)] [])
    (fun p => p.1 ≤ p.2 ∧ p.2 ≤ l.length ∧ bs (fun i => decide (nbCmp t (l.getD i default) < 0)) p.1 p.2 = bsNb l t) (fun p => p.2 - p.1) (0, l.length) ⟨Nat.zero_le _, Nat.le_refl _, rfl⟩ ?_ ?_
  · exact le_of ⟨rfl, rfl, rfl, rfl, rfl, rfl, trivial⟩ trivial rfl
  · rintro ⟨i, j⟩ ⟨h1, h2, h3⟩
    dsimp only at h1 h2 h3 ⊢
    repeat' (first
      | (show VR _ _ _ (_ :: _) _ _ _; first | refine x_op rfl (by first | exact True.intro | omega) ?_ | (show VR _ _ _ (⟨_, .call ⟨.value _, _, _⟩, _, _, _, _⟩ :: _) _ _ _; first | refine vr_clo (⟨_, _, rfl, rfl⟩) (gk rfl) rfl rfl rfl rfl ?_) | (show VR _ _ _ (⟨_, .indexAddr _ _ _, _, _, _, _⟩ :: _) _ _ _; first | refine vr_index_rd (gk rfl) rfl rfl rfl rfl rfl (by omega) rfl ?_ | refine vr_index_rdP (gk rfl) rfl rfl rfl rfl rfl (by omega) rfl ?_ | refine vr_index_rdN (gk rfl) rfl rfl rfl rfl (by omega) rfl ?_ | refine vr_index_row (gk rfl) rfl rfl rfl rfl rfl rfl (by omega) (by omega) rfl ?_ | refine vr_index_rowN (gk rfl) rfl rfl rfl rfl rfl (by omega) (by first | rfl | exact rowOf_length.symm) rfl ?_) | (show VR _ _ _ (⟨_, .call ⟨.builtin .len, _, _⟩, _, _, _, _⟩ :: _) _ _ _; first | refine vr_len_row (gk rfl) rfl rfl (by first | rfl | exact rowOf_length.symm) rfl rfl ?_) | (show VR _ _ _ (⟨_, .convert _ _ _, _, _, _, _⟩ :: _) _ _ _; first | refine vr_convert_id (gk rfl) rfl ⟨_, rfl⟩ rfl (by first | exact wrap_i64 (by omega) | exact wrap_u64 (by omega) | exact wrap_u16 (by omega) | exact wrap_u8 (by omega) | exact wrap_u32 (by omega)) rfl ?_ | refine vr_convert (gk rfl) rfl ⟨_, rfl⟩ rfl rfl ?_) | (show VR _ _ _ (⟨_, .binOp _ _ _ _ _, _, _, _, _⟩ :: _) _ _ _; first | refine vr_shr (m := 1) (gk rfl) rfl rfl rfl (by decide) rfl ?_ | refine vr_shr (m := 8) (gk rfl) rfl rfl rfl (by decide) rfl ?_ | refine x_ariw rfl rfl rfl rfl rfl ?_) | (show VR _ _ _ (⟨_, .pick _ _ _, _, _, _, _⟩ :: _) _ _ _; first | refine vr_pick_true (gk rfl) rfl (by assumption) rfl rfl ?_ | refine vr_pick_false (gk rfl) rfl (by assumption) rfl rfl ?_) | refine x_gknow rfl (by assumption) ?_ | (refine x_gsplit rfl ?_ ?_ <;> intro h <;> have hq := h <;> (try simp only [decide_eq_true_eq, decide_eq_false_iff_not, Int.not_lt, Int.not_le, ne_eq, Decidable.not_not, Bool.not_eq_true', Bool.not_eq_false'] at hq)))
      | (show VR _ _ _ [] _ _ _; first | refine vr_nil ?_ | refine vr_nil_t (by kernel_rfl) ?_)
      | (show thenQ _ _ _ _; first | refine q_then_n ?_ | refine q_then_x ?_ | refine q_then_r ?_)
      | (show blockQ _ _ _ _; first | refine q_blk_n ?_ | refine q_blk_r ?_ | refine q_blk_x ?_ | refine q_blk_o rfl ?_)
      | refine vc_seq ?_
      | refine vc_region ?_ | refine vc_region_t ?_
      | (show VC _ (.cond _ _ _) _ _; first | refine vc_cond_t rfl ?_ | refine vc_cond_f rfl ?_ | refine x_know rfl (by assumption) ?_ | (refine x_cond rfl ?_ ?_ <;> intro h <;> have hq := h <;> (try simp only [decide_eq_true_eq, decide_eq_false_iff_not, Int.not_lt, Int.not_le, ne_eq, Decidable.not_not, Bool.not_eq_true', Bool.not_eq_false'] at hq)))
      | refine vc_ret ?_ | refine vc_exit ?_ | refine vc_block ?_ | refine vc_skip ?_ | refine vc_label ?_)
    · have e : (((i : Int) + (j : Int)) / 2 ^ 1).toNat = (i + j) / 2 := by omega
      rw [e] at hq
      refine ⟨((i + j) / 2 + 1, j), ⟨by dsimp only; omega, h2, ?_⟩, by dsimp only; omega, le_of ⟨rfl, rfl, rfl, rfl, ad_eq ?_ rfl, rfl, trivial⟩ trivial rfl⟩
      · rw [← h3]
        conv => rhs; rw [bs, if_pos (by omega)]
        rw [if_pos]
        exact decide_eq_true hq
      · congr 1 <;> omega
    · have e : (((i : Int) + (j : Int)) / 2 ^ 1).toNat = (i + j) / 2 := by omega
      rw [e] at hq
      refine ⟨(i, (i + j) / 2), ⟨by dsimp only; omega, by dsimp only; omega, ?_⟩, by dsimp only; omega, le_of ⟨rfl, rfl, rfl, rfl, rfl, ad_eq ?_ rfl, trivial⟩ trivial rfl⟩
      · rw [← h3]
        conv => rhs; rw [bs, if_pos (by omega)]
        rw [if_neg]
        rw [decide_eq_true_eq]; exact Int.not_lt.2 hq
      · congr 1 <;> omega
    all_goals (have e0 : bsNb l t = i := by
                 rw [← h3, bs, if_neg (by omega)])
    all_goals refine ret_d2 isRet_r rfl rfl (by rw [e0]) ?_
    all_goals simp_all [foundNb, nbCmp] <;> omega

theorem find_fnc {σ : St} {L : List Nat} : AR Try.prog σ L (.fnc 68 []) (.clo findφ) :=
  .fnc .nil (enters_of Try.func68 (by kernel_rfl) rfl) (by rintro _ _ ⟨x, t, rfl, rfl⟩; exact ⟨rfl, find1_spec x t⟩)
theorem find_spec (l : List Nb) (t : Int) (hl : l.length ≤ 1000000) : FnS Try.prog 43 [AD (nbs l), AI t] [] (.tup [AI (bsNb l t), AB (foundNb l t)]) [] := by
  refine FnS.of_body (enters_of Try.func43 (by kernel_rfl) rfl) Try.func43 rfl Try.ntmps43 Try.results43 rfl rfl rfl rfl fun E hS => ?_
  repeat' (first
    | (show VR _ _ _ (_ :: _) _ _ _; first | refine x_op rfl (by first | exact True.intro | omega) ?_ | (show VR _ _ _ (⟨_, .call ⟨.value _, _, _⟩, _, _, _, _⟩ :: _) _ _ _; first | refine vr_calld (search_spec l _ hl) (gk rfl) rfl rfl rfl rfl rfl rfl ?_ | refine vr_call [] (search_spec l _ hl) (gk rfl) rfl (by (repeat' (first | exact .nil | refine .cons ?_ ?_ | exact .of0 (.c .d) | exact .of0 .ep | exact .clo | exact (find_fnc) | exact .of0 (.c .nil) | refine .of0 (.agg ?_) | exact .d | exact .nil | exact .of0 (.c (cr_row (by decide) rfl rfl (by repeat' (first | exact trivial | refine ⟨?_, ?_⟩ | rfl)))))); done) rfl rfl rfl rfl rfl ?_) | refine x_gknow rfl (by assumption) ?_ | (refine x_gsplit rfl ?_ ?_ <;> intro h <;> have hq := h <;> (try simp only [decide_eq_true_eq, decide_eq_false_iff_not, Int.not_lt, Int.not_le, ne_eq, Decidable.not_not, Bool.not_eq_true', Bool.not_eq_false'] at hq)))
    | (show VR _ _ _ [] _ _ _; first | refine vr_nil ?_ | refine vr_nil_t (by kernel_rfl) ?_)
    | (show thenQ _ _ _ _; first | refine q_then_n ?_ | refine q_then_x ?_ | refine q_then_r ?_)
    | (show blockQ _ _ _ _; first | refine q_blk_n ?_ | refine q_blk_r ?_ | refine q_blk_x ?_ | refine q_blk_o rfl ?_)
    | refine vc_seq ?_
    | refine vc_region ?_ | refine vc_region_t ?_
    | (show VC _ (.cond _ _ _) _ _; first | refine vc_cond_t rfl ?_ | refine vc_cond_f rfl ?_ | refine x_know rfl (by assumption) ?_ | (refine x_cond rfl ?_ ?_ <;> intro h <;> have hq := h <;> (try simp only [decide_eq_true_eq, decide_eq_false_iff_not, Int.not_lt, Int.not_le, ne_eq, Decidable.not_not, Bool.not_eq_true', Bool.not_eq_false'] at hq)))
    | refine vc_ret ?_ | refine vc_exit ?_ | refine vc_block ?_ | refine vc_skip ?_ | refine vc_label ?_)
  all_goals exact ret_d2 isRet_r rfl rfl rfl rfl

/-! ## Links -/

structure Lk where
  n : Nb
  idx : Int
  cost : Int
  deriving DecidableEq, Inhabited
def Lk.cs (x : Lk) : List C := [.d (.int .i64 x.n.node), .d (.int .i64 x.n.epoch), .d (.int .i64 x.n.rank), .d (.int .i64 x.n.slot), .d (.int .i64 x.n.att), .d (.int .i64 x.n.ack), .d (.int .i64 x.idx), .d (.int .i64 x.cost)]
def Lk.enc (x : Lk) : List D := [.int .i64 x.n.node, .int .i64 x.n.epoch, .int .i64 x.n.rank, .int .i64 x.n.slot, .int .i64 x.n.att, .int .i64 x.n.ack, .int .i64 x.idx, .int .i64 x.cost]
abbrev lks (l : List Lk) : D := rdOf Lk.enc 8 l
abbrev lkA (x : Lk) : AV := .agg x.cs
def Lk.path (x : Lk) : Int := IntKind.i64.wrap (x.n.rank + x.cost)

theorem path_spec (x : Lk) : FnS Try.prog 45 [lkA x] [] (AI x.path) [] := by
  refine FnS.of_body (enters_of Try.func45 (by kernel_rfl) rfl) Try.func45 rfl Try.ntmps45 Try.results45 rfl rfl rfl rfl fun E hS => ?_
  repeat' (first
    | (show VR _ _ _ (_ :: _) _ _ _; first | refine x_op rfl (by first | exact True.intro | omega) ?_ | (show VR _ _ _ (⟨_, .binOp _ _ _ _ _, _, _, _, _⟩ :: _) _ _ _; first | refine x_ariw rfl rfl rfl rfl rfl ?_) | refine x_gknow rfl (by assumption) ?_ | (refine x_gsplit rfl ?_ ?_ <;> intro h <;> have hq := h <;> (try simp only [decide_eq_true_eq, decide_eq_false_iff_not, Int.not_lt, Int.not_le, ne_eq, Decidable.not_not, Bool.not_eq_true', Bool.not_eq_false'] at hq)))
    | (show VR _ _ _ [] _ _ _; first | refine vr_nil ?_ | refine vr_nil_t (by kernel_rfl) ?_)
    | (show thenQ _ _ _ _; first | refine q_then_n ?_ | refine q_then_x ?_ | refine q_then_r ?_)
    | (show blockQ _ _ _ _; first | refine q_blk_n ?_ | refine q_blk_r ?_ | refine q_blk_x ?_ | refine q_blk_o rfl ?_)
    | refine vc_seq ?_
    | refine vc_region ?_ | refine vc_region_t ?_
    | (show VC _ (.cond _ _ _) _ _; first | refine vc_cond_t rfl ?_ | refine vc_cond_f rfl ?_ | refine x_know rfl (by assumption) ?_ | (refine x_cond rfl ?_ ?_ <;> intro h <;> have hq := h <;> (try simp only [decide_eq_true_eq, decide_eq_false_iff_not, Int.not_lt, Int.not_le, ne_eq, Decidable.not_not, Bool.not_eq_true', Bool.not_eq_false'] at hq)))
    | refine vc_ret ?_ | refine vc_exit ?_ | refine vc_block ?_ | refine vc_skip ?_ | refine vc_label ?_)
  all_goals exact ret_int isRet_r rfl rfl

def betterI (a b : Lk) : Int := orI [cmpI b.n.epoch a.n.epoch, cmpI a.path b.path, cmpI a.n.node b.n.node]
theorem better_spec (a b : Lk) : FnS Try.prog 65 [lkA a, lkA b] [] (AI (betterI a b)) [] := by
  refine FnS.of_body (enters_of Try.func65 (by kernel_rfl) rfl) Try.func65 rfl Try.ntmps65 Try.results65 rfl rfl rfl rfl fun E hS => ?_
  repeat' (first
    | (show VR _ _ _ (_ :: _) _ _ _; first | refine x_op rfl (by first | exact True.intro | omega) ?_ | (show VR _ _ _ (⟨_, .call ⟨.value _, _, _⟩, _, _, _, _⟩ :: _) _ _ _; first | refine vr_calld (cmp_spec _ _) (gk rfl) rfl rfl rfl rfl rfl rfl ?_ | refine vr_calld (path_spec a) (gk rfl) rfl rfl rfl rfl rfl rfl ?_ | refine vr_calld (path_spec b) (gk rfl) rfl rfl rfl rfl rfl rfl ?_ | refine vr_call [] (cmp_spec _ _) (gk rfl) rfl (by (repeat' (first | exact .nil | refine .cons ?_ ?_ | exact .of0 (.c .d) | exact .of0 .ep | exact .clo | exact .of0 (.c .nil) | refine .of0 (.agg ?_) | exact .d | exact .nil | exact .of0 (.c (cr_row (by decide) rfl rfl (by repeat' (first | exact trivial | refine ⟨?_, ?_⟩ | rfl)))))); done) rfl rfl rfl rfl rfl ?_ | refine vr_call [] (path_spec a) (gk rfl) rfl (by (repeat' (first | exact .nil | refine .cons ?_ ?_ | exact .of0 (.c .d) | exact .of0 .ep | exact .clo | exact .of0 (.c .nil) | refine .of0 (.agg ?_) | exact .d | exact .nil | exact .of0 (.c (cr_row (by decide) rfl rfl (by repeat' (first | exact trivial | refine ⟨?_, ?_⟩ | rfl)))))); done) rfl rfl rfl rfl rfl ?_ | refine vr_call [] (path_spec b) (gk rfl) rfl (by (repeat' (first | exact .nil | refine .cons ?_ ?_ | exact .of0 (.c .d) | exact .of0 .ep | exact .clo | exact .of0 (.c .nil) | refine .of0 (.agg ?_) | exact .d | exact .nil | exact .of0 (.c (cr_row (by decide) rfl rfl (by repeat' (first | exact trivial | refine ⟨?_, ?_⟩ | rfl)))))); done) rfl rfl rfl rfl rfl ?_ | refine vr_call [24] (or_spec [_, _, _]) (gk rfl) rfl (by (repeat' (first | exact .nil | refine .cons ?_ ?_ | exact .of0 (.c .d) | exact .of0 .ep | exact .clo | exact .of0 (.c .nil) | refine .of0 (.agg ?_) | exact .d | exact .nil | exact .of0 (.c (cr_row (by decide) rfl rfl (by repeat' (first | exact trivial | refine ⟨?_, ?_⟩ | rfl)))))); done) rfl rfl rfl rfl rfl ?_) | refine x_gknow rfl (by assumption) ?_ | (refine x_gsplit rfl ?_ ?_ <;> intro h <;> have hq := h <;> (try simp only [decide_eq_true_eq, decide_eq_false_iff_not, Int.not_lt, Int.not_le, ne_eq, Decidable.not_not, Bool.not_eq_true', Bool.not_eq_false'] at hq)))
    | (show VR _ _ _ [] _ _ _; first | refine vr_nil ?_ | refine vr_nil_t (by kernel_rfl) ?_)
    | (show thenQ _ _ _ _; first | refine q_then_n ?_ | refine q_then_x ?_ | refine q_then_r ?_)
    | (show blockQ _ _ _ _; first | refine q_blk_n ?_ | refine q_blk_r ?_ | refine q_blk_x ?_ | refine q_blk_o rfl ?_)
    | refine vc_seq ?_
    | refine vc_region ?_ | refine vc_region_t ?_
    | (show VC _ (.cond _ _ _) _ _; first | refine vc_cond_t rfl ?_ | refine vc_cond_f rfl ?_ | refine x_know rfl (by assumption) ?_ | (refine x_cond rfl ?_ ?_ <;> intro h <;> have hq := h <;> (try simp only [decide_eq_true_eq, decide_eq_false_iff_not, Int.not_lt, Int.not_le, ne_eq, Decidable.not_not, Bool.not_eq_true', Bool.not_eq_false'] at hq)))
    | refine vc_ret ?_ | refine vc_exit ?_ | refine vc_block ?_ | refine vc_skip ?_ | refine vc_label ?_)
  all_goals exact ret_int isRet_r rfl rfl
end Go.Proofs

