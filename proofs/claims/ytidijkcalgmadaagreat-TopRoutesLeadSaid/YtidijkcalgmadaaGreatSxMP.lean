/-
  What functions of the given program hand back, by walks over its code, and plain laws on that. No condition.
-/
import Derived.Test.YtidijkcalgmadaaGreatSxLibB
import Derived.Test.YtidijkcalgmadaaGreatSxTtop
import Derived.Test.YtidijkcalgmadaaGreatSxLibC
set_option linter.unusedSimpArgs false
set_option linter.unusedVariables false
section
namespace Go.Proofs.P
open Go Go.Sx
set_option maxRecDepth 4000
attribute [local irreducible] VR VC thenQ blockQ
structure Nb where
  node : Int
  epoch : Int
  rank : Int
  slot : Int
  att : Int
  ack : Int
  deriving DecidableEq, Inhabited
def Nb.enc (x : Nb) : List D := [.int .i64 x.node, .int .i64 x.epoch, .int .i64 x.rank, .int .i64 x.slot, .int .i64 x.att, .int .i64 x.ack]
abbrev nbs (l : List Nb) : D := rdOf Nb.enc 6 l
def inR (n lo hi : Int) : Bool := decide (lo <= n /\ n <= hi)
theorem inR_t (n lo hi : Int) : (inR n lo hi = true) = (lo <= n /\ n <= hi) := by simp [inR]
theorem inR_f (n lo hi : Int) : (inR n lo hi = false) = ¬ (lo <= n /\ n <= hi) := by simp [inR]
theorem within_spec (n lo hi : Int) : FnS Tryz.prog 134 [AI n, AI lo, AI hi] [] (AB (inR n lo hi)) [] := by
  refine FnS.of_body (enters_of Tryz.func134 (by kernel_rfl) rfl) Tryz.func134 rfl Tryz.ntmps134 Tryz.results134 rfl rfl rfl rfl fun E hS => ?_
  repeat' (first|(refine gR ?_; first|refine x_opF rfl (by first|exact True.intro|omega) ?_|(refine x_gsplit rfl ?_ ?_ <;> intro h <;> have hq := h <;> (try simp only [decide_eq_true_eq, decide_eq_false_iff_not, Int.not_lt, Int.not_le, ne_eq, Decidable.not_not, Bool.not_eq_true', Bool.not_eq_false'] at hq)))|(refine gO ?_; first|refine vr_nil ?_)|(refine gT ?_; first|refine q_then_n ?_)|refine vc_seq ?_|refine vc_region ?_|refine vc_ret ?_)
  all_goals refine ret_bool isRet_r rfl ?_
  all_goals simp_all [inR] <;> omega
def heardB (n e r s : Int) : Bool := inR n 0 31 && inR e 1 65535 && inR r 0 65534 && inR s 0 1099511627776
theorem heard_spec (n e r s : Int) : FnS Tryz.prog 129 [AI n, AI e, AI r, AI s] [] (AB (heardB n e r s)) [] := by
  refine FnS.of_body (enters_of Tryz.func129 (by kernel_rfl) rfl) Tryz.func129 rfl Tryz.ntmps129 Tryz.results129 rfl rfl rfl rfl fun E hS => ?_
  repeat' (first|(refine gR ?_; first|refine x_opF rfl (by first|exact True.intro|omega) ?_|(refine gC ?_; first|refine vr_calld (within_spec _ _ _) (gk rfl) rfl rfl rfl rfl rfl rfl ?_)|(refine x_gsplit rfl ?_ ?_ <;> intro h <;> have hq := h <;> (try simp only [decide_eq_true_eq, decide_eq_false_iff_not, Int.not_lt, Int.not_le, ne_eq, Decidable.not_not, Bool.not_eq_true', Bool.not_eq_false'] at hq)))|(refine gO ?_; first|refine vr_nil ?_)|(refine gT ?_; first|refine q_then_n ?_)|refine vc_seq ?_|refine vc_region ?_|refine vc_ret ?_)
  all_goals refine ret_bool isRet_r rfl ?_
  all_goals simp_all [heardB]
def nbErr (l : List Nb) (i : Nat) : Int :=
  let x := l.getD i default
  if heardB x.node x.epoch x.rank x.slot && inR x.att 0 255 && inR x.ack 0 x.att then
    if 0 < i /\ x.node <= (l.getD (i - 1) default).node then 5 else 0
  else 2
def checkNb (l : List Nb) : Int := if 32 < l.length then 8 else firstErr l.length (nbErr l)
theorem checkNb_hit {l : List Nb} {k : Nat} {e : Int} (h0 : l.length <= 32) (h : k <= l.length /\ ∀ i, i < k -> nbErr l i = 0) (hk : k < l.length) (he : nbErr l k = e) (hne : e ≠ 0) : e = checkNb l := by
  subst he
  rw [checkNb, if_neg (by omega), firstErr_hit h.2 hk hne]
theorem checkNb_none {l : List Nb} {k : Nat} (h0 : l.length <= 32) (h : k <= l.length /\ ∀ i, i < k -> nbErr l i = 0) (hk : l.length <= k) : (0 : Int) = checkNb l := by
  rw [checkNb, if_neg (by omega), firstErr_none fun i hi => h.2 i (by omega)]
theorem check_spec (l : List Nb) : FnS Tryz.prog 128 [AD (nbs l)] [] (AI (checkNb l)) [] := by
  refine FnS.of_body (enters_of Tryz.func128 (by kernel_rfl) rfl) Tryz.func128 rfl Tryz.ntmps128 Tryz.results128 rfl rfl rfl rfl fun E hS => ?_
  refine vc_bound (t := 0) rfl fun hb => ?_
  repeat' (first|(refine gR ?_; first|refine x_opF rfl (by first|exact True.intro|omega) ?_)|(refine gO ?_; first|refine vr_nil ?_)|(refine gT ?_; first|refine q_then_n ?_|refine q_then_r ?_)|refine vc_seq ?_|refine vc_region ?_|(show VC _ (.cond _ _ _) _ _; first|(refine x_cond rfl ?_ ?_ <;> intro h <;> have hq := h <;> (try simp only [decide_eq_true_eq, decide_eq_false_iff_not, Int.not_lt, Int.not_le, ne_eq, Decidable.not_not, Bool.not_eq_true', Bool.not_eq_false'] at hq)))|refine vc_ret ?_|refine vc_block ?_|refine vc_skip ?_)
  · refine ret_int isRet_r rfl ?_
    simp [checkNb]; omega
  · refine vc_loopI (ι := Nat) (fun k => stOf [(0, AD (nbs l)), (8, AD (nbs l)), (9, AI l.length), (10, AI k)] []) (fun k => k <= l.length /\ ∀ i, i < k -> nbErr l i = 0) (fun k => l.length - k) 0 ⟨Nat.zero_le _, fun i hi => absurd hi (Nat.not_lt_zero _)⟩ ?_ ?_
    · exact le_of ⟨rfl, rfl, rfl, rfl, trivial⟩ trivial rfl
    · intro k hk
      repeat' (first|(refine gR ?_; first|refine x_opF rfl (by first|exact True.intro|omega) ?_|(refine gC ?_; first|refine vr_calld (heard_spec _ _ _ _) (gk rfl) rfl rfl rfl rfl rfl rfl ?_|refine vr_calld (within_spec _ _ _) (gk rfl) rfl rfl rfl rfl rfl rfl ?_)|(refine gI ?_; first|refine vr_index_rd (gk rfl) rfl rfl rfl rfl rfl (by omega) rfl ?_|refine vr_index_rdP (gk rfl) rfl rfl rfl rfl rfl (by omega) rfl ?_)|(refine x_gsplit rfl ?_ ?_ <;> intro h <;> have hq := h <;> (try simp only [decide_eq_true_eq, decide_eq_false_iff_not, Int.not_lt, Int.not_le, ne_eq, Decidable.not_not, Bool.not_eq_true', Bool.not_eq_false'] at hq)))|(refine gO ?_; first|refine vr_nil ?_|refine vr_nil_t (by kernel_rfl) ?_)|(refine gT ?_; first|refine q_then_n ?_|refine q_then_x ?_|refine q_then_r ?_)|(refine gK ?_; first|refine q_blk_n ?_|refine q_blk_r ?_|refine q_blk_x ?_)|refine vc_seq ?_|refine vc_region ?_|refine vc_region_t ?_|(show VC _ (.cond _ _ _) _ _; first|refine vc_cond_t rfl ?_|refine vc_cond_f rfl ?_|(refine x_cond rfl ?_ ?_ <;> intro h <;> have hq := h <;> (try simp only [decide_eq_true_eq, decide_eq_false_iff_not, Int.not_lt, Int.not_le, ne_eq, Decidable.not_not, Bool.not_eq_true', Bool.not_eq_false'] at hq)))|refine vc_ret ?_|refine vc_exit ?_|refine vc_block ?_|refine vc_skip ?_)
      all_goals first
        | (refine ret_int isRet_r rfl ?_
           first
           | exact (checkNb_none (by omega) hk (by omega)).symm
           | (refine (checkNb_hit (by omega) hk (by omega) ?_ (by decide)).symm; simp_all [nbErr]))
        | (refine ⟨k + 1, ⟨by omega, fun i hi => ?_⟩, by omega, le_of ⟨rfl, rfl, rfl, rfl, trivial⟩ trivial rfl⟩
           by_cases hik : i < k
           · exact hk.2 i hik
           · have : i = k := by omega
             subst this
             simp_all [nbErr])
        | trace_state
end Go.Proofs.P
end
section
namespace Go.Proofs.P
open Go Go.Sx
set_option maxRecDepth 4000
attribute [local irreducible] VR VC thenQ blockQ
structure Rk where
  node : Int
  epoch : Int
  parent : Int
  heard : Int
  rank : Int
  least : Int
  deriving DecidableEq, Inhabited
def Rk.cs (r : Rk) : List C := [.d (.int .i64 r.node), .d (.int .i64 r.epoch), .d (.int .i64 r.parent), .d (.int .i64 r.heard), .d (.int .i64 r.rank), .d (.int .i64 r.least)]
abbrev rkA (r : Rk) : AV := .agg r.cs
theorem rwithin_spec (n lo hi : Int) : FnS Tryz.prog 53 [AI n, AI lo, AI hi] [] (AB (inR n lo hi)) [] := by
  refine FnS.of_body (enters_of Tryz.func53 (by kernel_rfl) rfl) Tryz.func53 rfl Tryz.ntmps53 Tryz.results53 rfl rfl rfl rfl fun E hS => ?_
  repeat' (first|(refine gR ?_; first|refine x_opF rfl (by first|exact True.intro|omega) ?_|(refine x_gsplit rfl ?_ ?_ <;> intro h <;> have hq := h <;> (try simp only [decide_eq_true_eq, decide_eq_false_iff_not, Int.not_lt, Int.not_le, ne_eq, Decidable.not_not, Bool.not_eq_true', Bool.not_eq_false'] at hq)))|(refine gO ?_; first|refine vr_nil ?_)|(refine gT ?_; first|refine q_then_n ?_)|refine vc_seq ?_|refine vc_region ?_|refine vc_ret ?_)
  all_goals refine ret_bool isRet_r rfl ?_
  all_goals simp_all [inR] <;> omega
def nodeB (n : Int) : Bool := inR n 0 31
theorem rnode_spec (n : Int) : FnS Tryz.prog 69 [AI n] [] (AB (nodeB n)) [] := by
  refine FnS.of_body (enters_of Tryz.func69 (by kernel_rfl) rfl) Tryz.func69 rfl Tryz.ntmps69 Tryz.results69 rfl rfl rfl rfl fun E hS => ?_
  repeat' (first|(refine gR ?_; first|refine x_opF rfl (by first|exact True.intro|omega) ?_|(refine gC ?_; first|refine vr_calld (rwithin_spec _ _ _) (gk rfl) rfl rfl rfl rfl rfl rfl ?_))|(refine gO ?_; first|refine vr_nil ?_)|(refine gT ?_; first|refine q_then_n ?_)|refine vc_seq ?_|refine vc_region ?_|refine vc_ret ?_)
  all_goals exact ret_bool isRet_r rfl rfl
def advB (e r : Int) : Bool := inR e 1 65535 && inR r 0 65534
theorem adv_spec (e r : Int) : FnS Tryz.prog 200 [AI e, AI r] [] (AB (advB e r)) [] := by
  refine FnS.of_body (enters_of Tryz.func200 (by kernel_rfl) rfl) Tryz.func200 rfl Tryz.ntmps200 Tryz.results200 rfl rfl rfl rfl fun E hS => ?_
  repeat' (first|(refine gR ?_; first|refine x_opF rfl (by first|exact True.intro|omega) ?_|(refine gC ?_; first|refine vr_calld (rwithin_spec _ _ _) (gk rfl) rfl rfl rfl rfl rfl rfl ?_)|(refine x_gsplit rfl ?_ ?_ <;> intro h <;> have hq := h <;> (try simp only [decide_eq_true_eq, decide_eq_false_iff_not, Int.not_lt, Int.not_le, ne_eq, Decidable.not_not, Bool.not_eq_true', Bool.not_eq_false'] at hq)))|(refine gO ?_; first|refine vr_nil ?_)|(refine gT ?_; first|refine q_then_n ?_)|refine vc_seq ?_|refine vc_region ?_|refine vc_ret ?_)
  all_goals refine ret_bool isRet_r rfl ?_
  all_goals simp_all [advB]
def leastB (r : Rk) : Bool := inR r.least 1 65535 || (decide (r.node = 0) && decide (r.least = 0))
def rightB (r : Rk) : Bool :=
  if r.node = 0 then decide (1 <= r.epoch) && decide (r.parent = -1) && decide (r.heard = 0) && decide (r.rank = 0) && (decide (r.least = 0) || decide (r.least = 65535))
  else if r.parent = -1 then decide (r.heard = 65535) && decide (r.rank = 65535) && (decide (0 < r.epoch) || decide (r.least = 65535))
  else nodeB r.parent && decide (r.parent ≠ r.node) && decide (1 <= r.epoch) && decide (0 <= r.heard) && decide (r.heard < r.rank) && decide (r.heard < r.least) && decide (r.rank < 65535)
def rkErr (r : Rk) : Int := if nodeB r.node && inR r.epoch 0 65535 && leastB r then (if rightB r then 0 else 1) else 2
theorem rcheck_spec (r : Rk) : FnS Tryz.prog 133 [rkA r] [] (AI (rkErr r)) [] := by
  refine FnS.of_body (enters_of Tryz.func133 (by kernel_rfl) rfl) Tryz.func133 rfl Tryz.ntmps133 Tryz.results133 rfl rfl rfl rfl fun E hS => ?_
  refine vc_cut (stOf [(1, .c (.ptr 1 0)), (2, AI 0)] [(1, .box r.cs)]) ?_ ?_
  · repeat' (first|(refine gR ?_; first|refine x_opF rfl (by first|exact True.intro|omega) ?_)|(refine gO ?_; first|refine vr_nil ?_)|(refine gT ?_; first|refine q_then_n ?_)|refine vc_region ?_)
    show Le _ _ _
    exact le_of ⟨rfl, rfl, trivial⟩ ⟨rfl, trivial⟩ rfl
  refine vc_cut (stOf [(1, .c (.ptr 1 0)), (2, AI 0), (3, AB (leastB r))] [(1, .box r.cs)]) ?_ ?_
  · repeat' (first|(refine gR ?_; first|refine x_opF rfl (by first|exact True.intro|omega) ?_|(refine gC ?_; first|refine vr_calld (rwithin_spec _ _ _) (gk rfl) rfl rfl rfl rfl rfl rfl ?_)|(refine x_gsplit rfl ?_ ?_ <;> intro h <;> have hq := h <;> (try simp only [decide_eq_true_eq, decide_eq_false_iff_not, Int.not_lt, Int.not_le, ne_eq, Decidable.not_not, Bool.not_eq_true', Bool.not_eq_false'] at hq)))|(refine gO ?_; first|refine vr_nil ?_)|(refine gT ?_; first|refine q_then_n ?_)|refine vc_region ?_)
    all_goals show Le _ _ _
    all_goals refine le_of ⟨rfl, rfl, ab_eq ?_ rfl, trivial⟩ ⟨rfl, trivial⟩ rfl
    all_goals simp_all [leastB]
  repeat' (first|(refine gR ?_; first|refine x_opF rfl (by first|exact True.intro|omega) ?_|(refine gC ?_; first|refine vr_calld (rwithin_spec _ _ _) (gk rfl) rfl rfl rfl rfl rfl rfl ?_|refine vr_calld (rnode_spec _) (gk rfl) rfl rfl rfl rfl rfl rfl ?_)|(refine x_gsplit rfl ?_ ?_ <;> intro h <;> have hq := h <;> (try simp only [decide_eq_true_eq, decide_eq_false_iff_not, Int.not_lt, Int.not_le, ne_eq, Decidable.not_not, Bool.not_eq_true', Bool.not_eq_false'] at hq)))|(refine gO ?_; first|refine vr_nil ?_)|(refine gT ?_; first|refine q_then_n ?_|refine q_then_r ?_)|(show VC _ (.seq (.region _ _ _) _) _ _; refine vc_seq ?_)|(show VC _ (.seq (.seq (.region _ _ _) (.cond _ _ _)) _) _ _; refine vc_seq ?_)|refine vc_region ?_|(show VC _ (.cond _ _ _) _ _; first|refine vc_cond_t rfl ?_|(refine x_cond rfl ?_ ?_ <;> intro h <;> have hq := h <;> (try simp only [decide_eq_true_eq, decide_eq_false_iff_not, Int.not_lt, Int.not_le, ne_eq, Decidable.not_not, Bool.not_eq_true', Bool.not_eq_false'] at hq)))|refine vc_ret ?_|refine vc_skip ?_)
  all_goals first
    | (refine ret_int isRet_r rfl ?_; simp_all [rkErr]) | refine vc_cut (stOf [(1, .c (.ptr 1 0)), (2, AI 0), (4, AB (rightB r))] [(1, .box r.cs)]) ?_ ?_
  · repeat' (first|(refine gR ?_; first|refine x_opF rfl (by first|exact True.intro|omega) ?_|(refine gC ?_; first|refine vr_calld (rnode_spec _) (gk rfl) rfl rfl rfl rfl rfl rfl ?_)|(refine x_gsplit rfl ?_ ?_ <;> intro h <;> have hq := h <;> (try simp only [decide_eq_true_eq, decide_eq_false_iff_not, Int.not_lt, Int.not_le, ne_eq, Decidable.not_not, Bool.not_eq_true', Bool.not_eq_false'] at hq)))|(refine gO ?_; first|refine vr_nil ?_)|(refine gT ?_; first|refine q_then_n ?_)|(refine gK ?_; first|refine q_blk_n ?_)|refine vc_seq ?_|refine vc_region ?_|(show VC _ (.cond _ _ _) _ _; first|(refine x_cond rfl ?_ ?_ <;> intro h <;> have hq := h <;> (try simp only [decide_eq_true_eq, decide_eq_false_iff_not, Int.not_lt, Int.not_le, ne_eq, Decidable.not_not, Bool.not_eq_true', Bool.not_eq_false'] at hq)))|refine vc_block ?_)
    all_goals show Le _ _ _
    all_goals refine le_of ⟨rfl, rfl, ab_eq ?_ rfl, trivial⟩ ⟨rfl, trivial⟩ rfl
    all_goals simp_all [rightB] <;> omega
  · repeat' (first|(refine gR ?_; first|refine x_opF rfl (by first|exact True.intro|omega) ?_)|(refine gO ?_; first|refine vr_nil ?_)|(refine gT ?_; first|refine q_then_n ?_|refine q_then_r ?_)|refine vc_seq ?_|refine vc_region ?_|(show VC _ (.cond _ _ _) _ _; first|(refine x_cond rfl ?_ ?_ <;> intro h <;> have hq := h <;> (try simp only [decide_eq_true_eq, decide_eq_false_iff_not, Int.not_lt, Int.not_le, ne_eq, Decidable.not_not, Bool.not_eq_true', Bool.not_eq_false'] at hq)))|refine vc_ret ?_|refine vc_skip ?_)
    all_goals refine ret_int isRet_r rfl ?_
    all_goals simp_all [rkErr]
def feasB (r : Rk) (e k : Int) : Bool := decide (rkErr r = 0) && decide (r.node ≠ 0) && advB e k && (decide (r.epoch < e) || (decide (e = r.epoch) && decide (k < r.least)))
theorem feas_spec (r : Rk) (e k : Int) : FnS Tryz.prog 201 [rkA r, AI e, AI k] [] (AB (feasB r e k)) [] := by
  refine FnS.of_body (enters_of Tryz.func201 (by kernel_rfl) rfl) Tryz.func201 rfl Tryz.ntmps201 Tryz.results201 rfl rfl rfl rfl fun E hS => ?_
  repeat' (first|(refine gR ?_; first|refine x_opF rfl (by first|exact True.intro|omega) ?_|(refine gC ?_; first|refine vr_calld (rcheck_spec r) (gk rfl) rfl rfl rfl rfl rfl rfl ?_|refine vr_calld (adv_spec _ _) (gk rfl) rfl rfl rfl rfl rfl rfl ?_)|(refine x_gsplit rfl ?_ ?_ <;> intro h <;> have hq := h <;> (try simp only [decide_eq_true_eq, decide_eq_false_iff_not, Int.not_lt, Int.not_le, ne_eq, Decidable.not_not, Bool.not_eq_true', Bool.not_eq_false'] at hq)))|(refine gO ?_; first|refine vr_nil ?_)|(refine gT ?_; first|refine q_then_n ?_|refine q_then_r ?_)|refine vc_seq ?_|refine vc_region ?_|(show VC _ (.cond _ _ _) _ _; first|refine vc_cond_t rfl ?_|(refine x_cond rfl ?_ ?_ <;> intro h <;> have hq := h <;> (try simp only [decide_eq_true_eq, decide_eq_false_iff_not, Int.not_lt, Int.not_le, ne_eq, Decidable.not_not, Bool.not_eq_true', Bool.not_eq_false'] at hq)))|refine vc_ret ?_|refine vc_skip ?_)
  all_goals try refine ret_bool isRet_r rfl ?_
  all_goals simp_all [feasB]
def begin' (r : Rk) (e : Int) : Rk := if r.epoch < e then { r with epoch := e, least := 65535 } else r
theorem ret_agg1 {P : Program} {σ : St} {t nm : Nat} {T : TypeId} {ti : TyI} {cs cs' : List C} {e : Exit} (he : e = .normal \/ e = .ret) [ht : TyOK P T ti] (hx : σ (.s t) = some (.v (.c (.ptr nm 0)))) (hb : σ (.b nm) = some (.k (.box cs'))) (hagg : ti.isAgg = true)
    (hl : (cs'.take ti.size).length = ti.size) (h : cs = cs'.take ti.size) : retQ P [.cell t T] (.agg cs) [] e σ :=
  ⟨he, [.agg ((cs'.drop 0).take ti.size)], .agg hx hb hagg hl .nil, by rw [h]; rfl, fun p hp => by cases hp⟩
theorem begin_spec (r : Rk) (e : Int) : FnS Tryz.prog 154 [rkA r, AI e] [] (rkA (begin' r e)) [] := by
  refine FnS.of_body (enters_of Tryz.func154 (by kernel_rfl) rfl) Tryz.func154 rfl Tryz.ntmps154 Tryz.results154 rfl rfl rfl rfl fun E hS => ?_
  repeat' (first|(refine gR ?_; first|refine x_opF rfl (by first|exact True.intro|omega) ?_)|(refine gO ?_; first|refine vr_nil ?_)|(refine gT ?_; first|refine q_then_n ?_)|refine vc_seq ?_|refine vc_region ?_|(show VC _ (.cond _ _ _) _ _; first|(refine x_cond rfl ?_ ?_ <;> intro h <;> have hq := h <;> (try simp only [decide_eq_true_eq, decide_eq_false_iff_not, Int.not_lt, Int.not_le, ne_eq, Decidable.not_not, Bool.not_eq_true', Bool.not_eq_false'] at hq)))|refine vc_ret ?_|refine vc_skip ?_)
  all_goals refine ret_agg1 isRet_r rfl rfl rfl rfl ?_
  all_goals unfold begin'
  all_goals split
  all_goals first|rfl|(exfalso; omega)
def lose' (r : Rk) : Rk := if rkErr r = 0 /\ r.node ≠ 0 then { r with parent := -1, heard := 65535, rank := 65535 } else r
theorem lose_spec (r : Rk) : FnS Tryz.prog 137 [rkA r] [] (rkA (lose' r)) [] := by
  refine FnS.of_body (enters_of Tryz.func137 (by kernel_rfl) rfl) Tryz.func137 rfl Tryz.ntmps137 Tryz.results137 rfl rfl rfl rfl fun E hS => ?_
  repeat' (first|(refine gR ?_; first|refine x_opF rfl (by first|exact True.intro|omega) ?_|(refine gC ?_; first|refine vr_calld (rcheck_spec r) (gk rfl) rfl rfl rfl rfl rfl rfl ?_)|(refine x_gsplit rfl ?_ ?_ <;> intro h <;> have hq := h <;> (try simp only [decide_eq_true_eq, decide_eq_false_iff_not, Int.not_lt, Int.not_le, ne_eq, Decidable.not_not, Bool.not_eq_true', Bool.not_eq_false'] at hq)))|(refine gO ?_; first|refine vr_nil ?_)|(refine gT ?_; first|refine q_then_n ?_)|refine vc_seq ?_|refine vc_region ?_|(show VC _ (.cond _ _ _) _ _; first|refine vc_cond_f rfl ?_|(refine x_cond rfl ?_ ?_ <;> intro h <;> have hq := h <;> (try simp only [decide_eq_true_eq, decide_eq_false_iff_not, Int.not_lt, Int.not_le, ne_eq, Decidable.not_not, Bool.not_eq_true', Bool.not_eq_false'] at hq)))|refine vc_ret ?_|refine vc_skip ?_)
  all_goals refine ret_agg1 isRet_r rfl rfl rfl rfl ?_
  all_goals unfold lose'
  all_goals split
  all_goals first|rfl|(exfalso; simp_all; done)
def rkZ : Rk := ⟨0, 0, 0, 0, 0, 0⟩
theorem ret_agg_d {P : Program} {σ : St} {t u nm : Nat} {T : TypeId} {ti : TyI} {cs cs' : List C} {x x' : D} {e : Exit} (he : e = .normal \/ e = .ret) [ht : TyOK P T ti] (hx : σ (.s t) = some (.v (.c (.ptr nm 0)))) (hb : σ (.b nm) = some (.k (.box cs'))) (hagg : ti.isAgg = true)
    (hl : (cs'.take ti.size).length = ti.size) (hu : σ (.s u) = some (.v (AD x'))) (h : cs = cs'.take ti.size) (h2 : x = x') : retQ P [.cell t T, .tmp u] (.tup [.agg cs, AD x]) [] e σ :=
  ⟨he, [.agg ((cs'.drop 0).take ti.size), AD x'], .agg hx hb hagg hl (.tmp rfl hu .nil), by rw [h, h2]; rfl, fun p hp => by cases hp⟩
def adopt' (r : Rk) (fr e k c : Int) : Rk × Int :=
  if rkErr r ≠ 0 then (rkZ, 1)
  else if (nodeB fr && decide (fr ≠ r.node) && advB e k && inR c 1 1023) = false then (rkZ, 2)
  else if feasB r e k = false then (rkZ, 12)
  else if 65535 <= k + c then (rkZ, 21)
  else ({ begin' r e with parent := fr, heard := k, rank := k + c }, 0)
theorem advB_t (e k : Int) : (advB e k = true) = ((1 <= e /\ e <= 65535) /\ 0 <= k /\ k <= 65534) := by simp [advB, inR]
theorem advB_f (e k : Int) : (advB e k = false) = ¬ ((1 <= e /\ e <= 65535) /\ 0 <= k /\ k <= 65534) := by rw [<- advB_t]; simp
theorem bounds_adv {e k : Int} (h : advB e k = true) : (1 <= e /\ e <= 65535) /\ 0 <= k /\ k <= 65534 := by simpa [advB, inR] using h
theorem bounds_inR {c lo hi : Int} (h : inR c lo hi = true) : lo <= c /\ c <= hi := by simpa [inR] using h
end Go.Proofs.P
end
section
namespace Go.Proofs.P
open Go Go.Sx
set_option maxRecDepth 4000
attribute [local irreducible] VR VC thenQ blockQ
theorem adopt_spec (r : Rk) (fr e k c : Int) : FnS Tryz.prog 140 [rkA r, AI fr, AI e, AI k, AI c] [] (.tup [rkA (adopt' r fr e k c).1, AI (adopt' r fr e k c).2]) [] := by
  refine FnS.of_body (enters_of Tryz.func140 (by kernel_rfl) rfl) Tryz.func140 rfl Tryz.ntmps140 Tryz.results140 rfl rfl rfl rfl fun E hS => ?_
  repeat' (first|(refine gR ?_; first|refine x_opF rfl (by first|exact True.intro|omega) ?_|(refine gC ?_; first|refine vr_calld (rcheck_spec r) (gk rfl) rfl rfl rfl rfl rfl rfl ?_|refine vr_calld (rnode_spec _) (gk rfl) rfl rfl rfl rfl rfl rfl ?_|refine vr_calld (adv_spec _ _) (gk rfl) rfl rfl rfl rfl rfl rfl ?_|refine vr_calld (rwithin_spec _ _ _) (gk rfl) rfl rfl rfl rfl rfl rfl ?_|refine vr_calld (feas_spec r _ _) (gk rfl) rfl rfl rfl rfl rfl rfl ?_|refine vr_calld (begin_spec r _) (gk rfl) rfl rfl rfl rfl rfl rfl ?_)|(refine x_gsplit rfl ?_ ?_ <;> intro h <;> have hq := h <;> (try simp only [decide_eq_true_eq, decide_eq_false_iff_not, Int.not_lt, Int.not_le, ne_eq, Decidable.not_not, Bool.not_eq_true', Bool.not_eq_false', inR_t, inR_f, advB_t, advB_f] at hq)))|(refine gO ?_; first|refine vr_nil ?_)|(refine gT ?_; first|refine q_then_n ?_|refine q_then_r ?_)|(refine gK ?_; first|refine q_blk_n ?_|refine q_blk_r ?_)|refine vc_seq ?_|refine vc_region ?_|(show VC _ (.cond _ _ _) _ _; first|refine vc_cond_t rfl ?_|(refine x_cond rfl ?_ ?_ <;> intro h <;> have hq := h <;> (try simp only [decide_eq_true_eq, decide_eq_false_iff_not, Int.not_lt, Int.not_le, ne_eq, Decidable.not_not, Bool.not_eq_true', Bool.not_eq_false', inR_t, inR_f, advB_t, advB_f] at hq)))|refine vc_ret ?_|refine vc_block ?_|refine vc_skip ?_)
  all_goals try refine ret_agg_d isRet_r rfl rfl rfl rfl rfl ?_ ?_
  all_goals try refine ret_agg_d isRet_r rfl rfl rfl rfl rfl ?_ ?_
  all_goals unfold adopt'
  all_goals repeat' split
  all_goals first|rfl|(exfalso; simp_all; done)|(exfalso; omega)|trace_state
def update' (r : Rk) (e k c : Int) : Rk × Int :=
  if rkErr r ≠ 0 then (rkZ, 1)
  else if (advB e k && inR c 1 1023) = false then (rkZ, 2)
  else if r.parent = -1 then (rkZ, 12)
  else if e < r.epoch then (r, 0)
  else if (adopt' r r.parent e k c).2 = 0 then ((adopt' r r.parent e k c).1, 0)
  else (lose' (begin' r e), 0)
theorem update_spec (r : Rk) (e k c : Int) : FnS Tryz.prog 135 [rkA r, AI e, AI k, AI c] [] (.tup [rkA (update' r e k c).1, AI (update' r e k c).2]) [] := by
  refine FnS.of_body (enters_of Tryz.func135 (by kernel_rfl) rfl) Tryz.func135 rfl Tryz.ntmps135 Tryz.results135 rfl rfl rfl rfl fun E hS => ?_
  repeat' (first|(refine gR ?_; first|refine x_opF rfl (by first|exact True.intro|omega) ?_|(refine gC ?_; first|refine vr_calld (rcheck_spec r) (gk rfl) rfl rfl rfl rfl rfl rfl ?_|refine vr_calld (adv_spec _ _) (gk rfl) rfl rfl rfl rfl rfl rfl ?_|refine vr_calld (rwithin_spec _ _ _) (gk rfl) rfl rfl rfl rfl rfl rfl ?_|refine vr_calld (adopt_spec r _ _ _ _) (gk rfl) rfl rfl rfl rfl rfl rfl ?_|refine vr_calld (begin_spec r _) (gk rfl) rfl rfl rfl rfl rfl rfl ?_|refine vr_calld (lose_spec (begin' r e)) (gk rfl) rfl rfl rfl rfl rfl rfl ?_)|(refine x_gsplit rfl ?_ ?_ <;> intro h <;> have hq := h <;> (try simp only [decide_eq_true_eq, decide_eq_false_iff_not, Int.not_lt, Int.not_le, ne_eq, Decidable.not_not, Bool.not_eq_true', Bool.not_eq_false', inR_t, inR_f, advB_t, advB_f] at hq)))|(refine gO ?_; first|refine vr_nil ?_)|(refine gT ?_; first|refine q_then_n ?_|refine q_then_r ?_)|(refine gK ?_; first|refine q_blk_n ?_|refine q_blk_r ?_)|refine vc_seq ?_|refine vc_region ?_|(show VC _ (.cond _ _ _) _ _; first|refine vc_cond_t rfl ?_|(refine x_cond rfl ?_ ?_ <;> intro h <;> have hq := h <;> (try simp only [decide_eq_true_eq, decide_eq_false_iff_not, Int.not_lt, Int.not_le, ne_eq, Decidable.not_not, Bool.not_eq_true', Bool.not_eq_false', inR_t, inR_f, advB_t, advB_f] at hq)))|refine vc_ret ?_|refine vc_block ?_|refine vc_skip ?_)
  all_goals try refine ret_agg_d isRet_r rfl rfl rfl rfl rfl ?_ ?_
  all_goals unfold update'
  all_goals repeat' split
  all_goals first|rfl|(exfalso; simp_all; done)|(exfalso; omega)|trace_state
def costC (a k : Int) : Int :=
  if a < 0 \/ k < 0 \/ a < k then 0 else if a < 4 then 256 else if k = 0 then 1023 else min ((128 * a + k - 1) / k) 1023
theorem cost_spec (a k : Int) (h : a <= 2147483648) : FnS Tryz.prog 136 [.agg [.d (.int .i64 a), .d (.int .i64 k)]] [] (AI (costC a k)) [] := by
  refine FnS.of_body (enters_of Tryz.func136 (by kernel_rfl) rfl) Tryz.func136 rfl Tryz.ntmps136 Tryz.results136 rfl rfl rfl rfl fun E hS => ?_
  repeat' (first|(refine gR ?_; first|refine x_opF rfl (by first|exact True.intro|omega) ?_|(refine x_gsplit rfl ?_ ?_ <;> intro h <;> have hq := h <;> (try simp only [decide_eq_true_eq, decide_eq_false_iff_not, Int.not_lt, Int.not_le, ne_eq, Decidable.not_not, Bool.not_eq_true', Bool.not_eq_false'] at hq)))|(refine gO ?_; first|refine vr_nil ?_)|(refine gT ?_; first|refine q_then_n ?_|refine q_then_r ?_)|(refine gK ?_; first|refine q_blk_n ?_|refine q_blk_r ?_)|refine vc_seq ?_|refine vc_region ?_|(show VC _ (.cond _ _ _) _ _; first|refine vc_cond_t rfl ?_|(refine x_cond rfl ?_ ?_ <;> intro h <;> have hq := h <;> (try simp only [decide_eq_true_eq, decide_eq_false_iff_not, Int.not_lt, Int.not_le, ne_eq, Decidable.not_not, Bool.not_eq_true', Bool.not_eq_false'] at hq)))|refine vc_ret ?_|refine vc_block ?_|refine vc_skip ?_)
  all_goals refine ret_int isRet_r rfl ?_
  all_goals unfold costC
  all_goals repeat' split
  all_goals first|rfl|(exfalso; simp_all; done)|(exfalso; omega)|trace_state
def cmpI (a b : Int) : Int := if a < b then -1 else if b < a then 1 else 0
theorem isNaN_spec (a : Int) : FnS Tryz.prog 178 [AI a] [] (AB false) [] := by
  refine FnS.of_body (enters_of Tryz.func178 (by kernel_rfl) rfl) Tryz.func178 rfl Tryz.ntmps178 Tryz.results178 rfl rfl rfl rfl fun E hS => ?_
  repeat' (first|(refine gR ?_; first|refine x_opF rfl (by first|exact True.intro|omega) ?_)|(refine gO ?_; first|refine vr_nil ?_)|(refine gT ?_; first|refine q_then_n ?_)|refine vc_seq ?_|refine vc_region ?_|refine vc_ret ?_)
  all_goals exact ret_bool isRet_r rfl (by simp)
theorem cmp_spec (a b : Int) : FnS Tryz.prog 119 [AI a, AI b] [] (AI (cmpI a b)) [] := by
  refine FnS.of_body (enters_of Tryz.func119 (by kernel_rfl) rfl) Tryz.func119 rfl Tryz.ntmps119 Tryz.results119 rfl rfl rfl rfl fun E hS => ?_
  repeat' (first|(refine gR ?_; first|refine x_opF rfl (by first|exact True.intro|omega) ?_|(refine gC ?_; first|refine vr_calld (isNaN_spec _) (gk rfl) rfl rfl rfl rfl rfl rfl ?_))|(refine gO ?_; first|refine vr_nil ?_)|(refine gT ?_; first|refine q_then_n ?_|refine q_then_r ?_)|refine vc_seq ?_|refine vc_region ?_|(show VC _ (.cond _ _ _) _ _; first|refine vc_cond_f rfl ?_|(refine x_cond rfl ?_ ?_ <;> intro h <;> have hq := h <;> (try simp only [decide_eq_true_eq, decide_eq_false_iff_not, Int.not_lt, Int.not_le, ne_eq, Decidable.not_not, Bool.not_eq_true', Bool.not_eq_false'] at hq)))|refine vc_ret ?_|refine vc_skip ?_)
  all_goals refine ret_int isRet_r rfl ?_
  all_goals unfold cmpI
  all_goals repeat' split
  all_goals first|rfl|(exfalso; simp_all; done)|(exfalso; omega)|trace_state
def orI : List Int -> Int
  | [] => 0
  | x :: l => if x ≠ 0 then x else orI l
abbrev ints (l : List Int) : D := rdOf (fun x => [.int .i64 x]) 1 l
theorem orI_at : ∀ (l : List Int) (k : Nat), (∀ i, i < k -> l.getD i 0 = 0) -> k <= l.length -> orI l = orI (l.drop k)
  | l, 0, _, _ => rfl
  | [], k + 1, _, h => absurd h (by simp)
  | x :: l, k + 1, h, hk => by
    have h0 : x = 0 := h 0 (by omega)
    rw [List.drop_succ_cons, <- orI_at l k (fun i hi => h (i + 1) (by omega)) (by simpa using hk)]
    simp [orI, h0]
theorem or_spec (l : List Int) : FnS Tryz.prog 158 [AD (ints l)] [] (AI (orI l)) [] := by
  refine FnS.of_body (enters_of Tryz.func158 (by kernel_rfl) rfl) Tryz.func158 rfl Tryz.ntmps158 Tryz.results158 rfl rfl rfl rfl fun E hS => ?_
  refine vc_bound (t := 0) rfl fun hb => ?_
  repeat' (first|(refine gR ?_; first|refine x_opF rfl (by first|exact True.intro|omega) ?_)|(refine gO ?_; first|refine vr_nil ?_)|(refine gT ?_; first|refine q_then_n ?_)|refine vc_seq ?_|refine vc_region ?_|refine vc_block ?_)
  refine vc_loopI (ι := Nat) (fun k => stOf [(3, AI 0), (6, AD (ints l)), (7, AI l.length), (8, AI k)] []) (fun k => k <= l.length /\ ∀ i, i < k -> l.getD i 0 = 0) (fun k => l.length - k) 0 ⟨Nat.zero_le _, fun i hi => absurd hi (Nat.not_lt_zero _)⟩ ?_ ?_
  · exact le_of ⟨rfl, rfl, rfl, rfl, trivial⟩ trivial rfl
  · intro k hk
    repeat' (first|(refine gR ?_; first|refine x_opF rfl (by first|exact True.intro|omega) ?_|(refine gI ?_; first|refine vr_index_rd (gk rfl) rfl rfl rfl rfl rfl (by omega) rfl ?_))|(refine gO ?_; first|refine vr_nil ?_)|(refine gT ?_; first|refine q_then_n ?_|refine q_then_x ?_|refine q_then_r ?_)|(refine gK ?_; first|refine q_blk_n ?_|refine q_blk_r ?_|refine q_blk_x ?_)|refine vc_seq ?_|refine vc_region ?_|(show VC _ (.cond _ _ _) _ _; first|(refine x_cond rfl ?_ ?_ <;> intro h <;> have hq := h <;> (try simp only [decide_eq_true_eq, decide_eq_false_iff_not, Int.not_lt, Int.not_le, ne_eq, Decidable.not_not, Bool.not_eq_true', Bool.not_eq_false'] at hq)))|refine vc_ret ?_|refine vc_exit ?_|refine vc_block ?_|refine vc_skip ?_)
    · refine ret_int isRet_r rfl ?_
      rw [orI_at l k hk.2 hk.1, List.drop_eq_getElem_cons (by omega), orI, if_pos]
      · simp [List.getD_eq_getElem?_getD]; rw [List.getElem?_eq_getElem (by omega)]; rfl
      · rw [List.getD_eq_getElem?_getD, List.getElem?_eq_getElem (by omega)] at hq; exact hq
    · refine ⟨k + 1, ⟨by omega, fun i hi => ?_⟩, by omega, le_of ⟨rfl, rfl, rfl, rfl, trivial⟩ trivial rfl⟩
      by_cases hik : i < k
      · exact hk.2 i hik
      · have : i = k := by omega
        subst this
        exact hq
    · refine ret_int isRet_r rfl ?_
      rw [orI_at l k hk.2 hk.1, List.drop_of_length_le (by omega)]; rfl
end Go.Proofs.P
end
section
namespace Go.Proofs.P
open Go Go.Sx
set_option maxRecDepth 4000
attribute [local irreducible] VR VC thenQ blockQ
def Nb.cs (x : Nb) : List C := [.d (.int .i64 x.node), .d (.int .i64 x.epoch), .d (.int .i64 x.rank), .d (.int .i64 x.slot), .d (.int .i64 x.att), .d (.int .i64 x.ack)]
abbrev nbA (x : Nb) : AV := .agg x.cs
theorem find1_spec (x : Nb) (t : Int) : FnS Tryz.prog 197 [nbA x, AI t] [] (AI (cmpI x.node t)) [] := by
  refine FnS.of_body (enters_of Tryz.func197 (by kernel_rfl) rfl) Tryz.func197 rfl Tryz.ntmps197 Tryz.results197 rfl rfl rfl rfl fun E hS => ?_
  repeat' (first|(refine gR ?_; first|refine x_opF rfl (by first|exact True.intro|omega) ?_|(refine gC ?_; first|refine vr_calld (cmp_spec _ _) (gk rfl) rfl rfl rfl rfl rfl rfl ?_))|(refine gO ?_; first|refine vr_nil ?_)|(refine gT ?_; first|refine q_then_n ?_)|refine vc_seq ?_|refine vc_region ?_|refine vc_ret ?_)
  all_goals exact ret_int isRet_r rfl rfl
def bs (f : Nat -> Bool) (i j : Nat) : Nat := if i < j then (if f ((i + j) / 2) then bs f ((i + j) / 2 + 1) j else bs f i ((i + j) / 2)) else i
termination_by j - i
decreasing_by all_goals omega
def nbCmp (t : Int) (x : Nb) : Int := cmpI x.node t
def bsNb (l : List Nb) (t : Int) : Nat := bs (fun i => decide (nbCmp t (l.getD i default) < 0)) 0 l.length
theorem bs_le (f : Nat -> Bool) (i j : Nat) (h : i <= j) : bs f i j <= j := by
  fun_induction bs f i j with
  | case1 i j hij hf ih => exact ih (by omega)
  | case2 i j hij hf ih => exact Nat.le_trans (ih (by omega)) (by omega)
  | case3 => exact h
def foundNb (l : List Nb) (t : Int) : Bool := decide (bsNb l t < l.length) && decide (nbCmp t (l.getD (bsNb l t) default) = 0)
abbrev findφ : List DV -> DV -> Prop := fun ds r => ∃ (x : Nb) (t : Int), ds = [.agg x.enc, .d (.int .i64 t)] /\ r = .d (.int .i64 (cmpI x.node t))
theorem search_spec (l : List Nb) (t : Int) (hl : l.length <= 1000000) : FnS Tryz.prog 196 [AD (nbs l), AI t, .clo findφ] [] (.tup [AI (bsNb l t), AB (foundNb l t)]) [] := by
  refine FnS.of_body (enters_of Tryz.func196 (by kernel_rfl) rfl) Tryz.func196 rfl Tryz.ntmps196 Tryz.results196 rfl rfl rfl rfl fun E hS => ?_
  repeat' (first|(refine gR ?_; first|refine x_opF rfl (by first|exact True.intro|omega) ?_)|(refine gO ?_; first|refine vr_nil ?_)|(refine gT ?_; first|refine q_then_n ?_)|refine vc_seq ?_|refine vc_region ?_|refine vc_block ?_)
  refine vc_loopI (ι := Nat × Nat) (fun p => stOf [(0, AD (nbs l)), (1, AI t), (2, .clo findφ), (8, AI l.length), (9, AI p.1), (10, AI p.2)] [])
    (fun p => p.1 <= p.2 /\ p.2 <= l.length /\ bs (fun i => decide (nbCmp t (l.getD i default) < 0)) p.1 p.2 = bsNb l t) (fun p => p.2 - p.1) (0, l.length) ⟨Nat.zero_le _, Nat.le_refl _, rfl⟩ ?_ ?_
  · exact le_of ⟨rfl, rfl, rfl, rfl, rfl, rfl, trivial⟩ trivial rfl
  · rintro ⟨i, j⟩ ⟨h1, h2, h3⟩
    dsimp only at h1 h2 h3 ⊢
    repeat' (first|(refine gR ?_; first|refine x_opF rfl (by first|exact True.intro|omega) ?_|(refine gC ?_; first|refine vr_clo (⟨_, _, rfl, rfl⟩) (gk rfl) rfl rfl rfl rfl ?_)|(refine gI ?_; first|refine vr_index_rd (gk rfl) rfl rfl rfl rfl rfl (by omega) rfl ?_|refine vr_index_rdN (gk rfl) rfl rfl rfl rfl (by first|omega|decide) rfl ?_)|(refine gV ?_; first|refine vr_convert_id (gk rfl) rfl ⟨_, rfl⟩ rfl (by first|exact wrap_i64 (by omega)|exact wrap_u64 (by omega)|exact wrap_u16 (by omega)|exact wrap_u8 (by omega)|exact wrap_u32 (by omega)) rfl ?_)|(refine gB ?_; first|refine vr_shr (m := 1) (gk rfl) rfl rfl rfl (by decide) rfl ?_)|(refine x_gsplit rfl ?_ ?_ <;> intro h <;> have hq := h <;> (try simp only [decide_eq_true_eq, decide_eq_false_iff_not, Int.not_lt, Int.not_le, ne_eq, Decidable.not_not, Bool.not_eq_true', Bool.not_eq_false'] at hq)))|(refine gO ?_; first|refine vr_nil ?_)|(refine gT ?_; first|refine q_then_n ?_|refine q_then_x ?_)|(refine gK ?_; first|refine q_blk_n ?_|refine q_blk_x ?_)|refine vc_seq ?_|refine vc_region ?_|(show VC _ (.cond _ _ _) _ _; first|(refine x_cond rfl ?_ ?_ <;> intro h <;> have hq := h <;> (try simp only [decide_eq_true_eq, decide_eq_false_iff_not, Int.not_lt, Int.not_le, ne_eq, Decidable.not_not, Bool.not_eq_true', Bool.not_eq_false'] at hq)))|refine vc_ret ?_|refine vc_exit ?_|refine vc_block ?_|refine vc_skip ?_)
    · have e : (((i : Int) + (j : Int)) / 2 ^ 1).toNat = (i + j) / 2 := by omega
      rw [e] at hq
      refine ⟨((i + j) / 2 + 1, j), ⟨by dsimp only; omega, h2, ?_⟩, by dsimp only; omega, le_of ⟨rfl, rfl, rfl, rfl, ad_eq ?_ rfl, rfl, trivial⟩ trivial rfl⟩
      · rw [<- h3]
        conv => rhs; rw [bs, if_pos (by omega)]
        rw [if_pos]
        exact decide_eq_true hq
      · congr 1 <;> omega
    · have e : (((i : Int) + (j : Int)) / 2 ^ 1).toNat = (i + j) / 2 := by omega
      rw [e] at hq
      refine ⟨(i, (i + j) / 2), ⟨by dsimp only; omega, by dsimp only; omega, ?_⟩, by dsimp only; omega, le_of ⟨rfl, rfl, rfl, rfl, rfl, ad_eq ?_ rfl, trivial⟩ trivial rfl⟩
      · rw [<- h3]
        conv => rhs; rw [bs, if_pos (by omega)]
        rw [if_neg]
        rw [decide_eq_true_eq]; exact Int.not_lt.2 hq
      · congr 1 <;> omega
    all_goals (have e0 : bsNb l t = i := by
                 rw [<- h3, bs, if_neg (by omega)])
    all_goals refine ret_d2 isRet_r rfl rfl (by rw [e0]) ?_
    all_goals simp_all [foundNb, nbCmp] <;> omega
theorem find_fnc {σ : St} {L : List Nat} : AR Tryz.prog σ L (.fnc 197 []) (.clo findφ) :=
  .fnc .nil (enters_of Tryz.func197 (by kernel_rfl) rfl) (by rintro _ _ ⟨x, t, rfl, rfl⟩; exact ⟨rfl, find1_spec x t⟩)
theorem find_spec (l : List Nb) (t : Int) (hl : l.length <= 1000000) : FnS Tryz.prog 130 [AD (nbs l), AI t] [] (.tup [AI (bsNb l t), AB (foundNb l t)]) [] := by
  refine FnS.of_body (enters_of Tryz.func130 (by kernel_rfl) rfl) Tryz.func130 rfl Tryz.ntmps130 Tryz.results130 rfl rfl rfl rfl fun E hS => ?_
  repeat' (first|(refine gR ?_; first|refine x_opF rfl (by first|exact True.intro|omega) ?_|(refine gC ?_; first|refine vr_call [] (search_spec l _ hl) (gk rfl) rfl (by (repeat' (first|exact .nil|refine .cons ?_ ?_|exact .of0 (.c .d)|exact .of0 .ep|exact .clo|exact (find_fnc)|exact .of0 (.c .nil)|refine .of0 (.agg ?_)|exact .d|exact .nil|exact .of0 (.c (cr_row (by decide) rfl rfl (by repeat' (first|exact trivial|refine ⟨?_, ?_⟩|rfl)))))) <;> fail) rfl rfl rfl rfl rfl ?_))|(refine gO ?_; first|refine vr_nil ?_)|(refine gT ?_; first|refine q_then_n ?_)|refine vc_seq ?_|refine vc_region ?_|refine vc_ret ?_)
  all_goals exact ret_d2 isRet_r rfl rfl rfl rfl
structure Lk where
  n : Nb
  idx : Int
  cost : Int
  deriving DecidableEq, Inhabited
def Lk.cs (x : Lk) : List C := [.d (.int .i64 x.n.node), .d (.int .i64 x.n.epoch), .d (.int .i64 x.n.rank), .d (.int .i64 x.n.slot), .d (.int .i64 x.n.att), .d (.int .i64 x.n.ack), .d (.int .i64 x.idx), .d (.int .i64 x.cost)]
def Lk.enc (x : Lk) : List D := [.int .i64 x.n.node, .int .i64 x.n.epoch, .int .i64 x.n.rank, .int .i64 x.n.slot, .int .i64 x.n.att, .int .i64 x.n.ack, .int .i64 x.idx, .int .i64 x.cost]
abbrev lks (l : List Lk) : D := rdOf Lk.enc 8 l
abbrev lkA (x : Lk) : AV := .agg x.cs
def Lk.path (x : Lk) : Int := IntKind.i64.wrap (x.n.rank + x.cost)
theorem path_spec (x : Lk) : FnS Tryz.prog 139 [lkA x] [] (AI x.path) [] := by
  refine FnS.of_body (enters_of Tryz.func139 (by kernel_rfl) rfl) Tryz.func139 rfl Tryz.ntmps139 Tryz.results139 rfl rfl rfl rfl fun E hS => ?_
  repeat' (first|(refine gR ?_; first|refine x_opF rfl (by first|exact True.intro|omega) ?_|(refine gB ?_; first|refine x_ariw rfl rfl rfl rfl rfl ?_))|(refine gO ?_; first|refine vr_nil ?_)|(refine gT ?_; first|refine q_then_n ?_)|refine vc_seq ?_|refine vc_region ?_|refine vc_ret ?_)
  all_goals exact ret_int isRet_r rfl rfl
def betterI (a b : Lk) : Int := orI [cmpI b.n.epoch a.n.epoch, cmpI a.path b.path, cmpI a.n.node b.n.node]
theorem better_spec (a b : Lk) : FnS Tryz.prog 203 [lkA a, lkA b] [] (AI (betterI a b)) [] := by
  refine FnS.of_body (enters_of Tryz.func203 (by kernel_rfl) rfl) Tryz.func203 rfl Tryz.ntmps203 Tryz.results203 rfl rfl rfl rfl fun E hS => ?_
  repeat' (first|(refine gR ?_; first|refine x_opF rfl (by first|exact True.intro|omega) ?_|(refine gC ?_; first|refine vr_calld (cmp_spec _ _) (gk rfl) rfl rfl rfl rfl rfl rfl ?_|refine vr_calld (path_spec a) (gk rfl) rfl rfl rfl rfl rfl rfl ?_|refine vr_calld (path_spec b) (gk rfl) rfl rfl rfl rfl rfl rfl ?_|refine vr_call [24] (or_spec [_, _, _]) (gk rfl) rfl (by (repeat' (first|exact .nil|refine .cons ?_ ?_|exact .of0 (.c .d)|exact .of0 .ep|exact .clo|exact .of0 (.c .nil)|refine .of0 (.agg ?_)|exact .d|exact .nil|exact .of0 (.c (cr_row (by decide) rfl rfl (by repeat' (first|exact trivial|refine ⟨?_, ?_⟩|rfl)))))) <;> fail) rfl rfl rfl rfl rfl ?_))|(refine gO ?_; first|refine vr_nil ?_|refine vr_nil_t (by kernel_rfl) ?_)|(refine gT ?_; first|refine q_then_n ?_)|refine vc_seq ?_|refine vc_region ?_|refine vc_region_t ?_|refine vc_ret ?_)
  all_goals exact ret_int isRet_r rfl rfl
end Go.Proofs.P
end
section
namespace Go.Proofs.P
open Go Go.Sx
set_option maxRecDepth 4000
attribute [local irreducible] VR VC thenQ blockQ
def minTo (l : List Lk) : Nat -> Lk
  | 0 => l.getD 0 default
  | k + 1 => if betterI (l.getD (k + 1) default) (minTo l k) < 0 then l.getD (k + 1) default else minTo l k
abbrev betterφ : List DV -> DV -> Prop := fun ds r => ∃ (a b : Lk), ds = [.agg a.enc, .agg b.enc] /\ r = .d (.int .i64 (betterI a b))
abbrev zero8 : List C := [.d (.int .i64 0), .d (.int .i64 0), .d (.int .i64 0), .d (.int .i64 0), .d (.int .i64 0), .d (.int .i64 0), .d (.int .i64 0), .d (.int .i64 0)]
theorem min_spec (l : List Lk) (h0 : 0 < l.length) (hl : l.length <= 1000000) : FnS Tryz.prog 202 [AD (lks l), .clo betterφ] [] (lkA (minTo l (l.length - 1))) [] := by
  refine FnS.of_body (enters_of Tryz.func202 (by kernel_rfl) rfl) Tryz.func202 rfl Tryz.ntmps202 Tryz.results202 rfl rfl rfl rfl fun E hS => ?_
  repeat' (first|(refine gR ?_; first|refine x_opF rfl (by first|exact True.intro|omega) ?_|(refine gI ?_; first|refine vr_index_rd (gk rfl) rfl rfl rfl rfl rfl (by omega) rfl ?_))|(refine gO ?_; first|refine vr_nil ?_)|(refine gT ?_; first|refine q_then_n ?_)|refine vc_seq ?_|refine vc_region ?_|(show VC _ (.cond _ _ _) _ _; first|(refine x_cond rfl ?_ ?_ <;> intro h <;> have hq := h <;> (try simp only [decide_eq_true_eq, decide_eq_false_iff_not, Int.not_lt, Int.not_le, ne_eq, Decidable.not_not, Bool.not_eq_true', Bool.not_eq_false'] at hq)))|refine vc_block ?_|refine vc_skip ?_)
  · exfalso; omega
  refine vc_loopI (ι := Nat × Lk) (fun p => stOf [(0, AD (lks l)), (1, .clo betterφ), (4, .c (.ptr 4 0)), (5, .c (.ptr 5 0)), (6, AI (p.1 + 1 : Nat))] [(4, .box zero8), (5, .box p.2.cs)])
    (fun p => p.1 + 1 <= l.length /\ p.2 = minTo l p.1) (fun p => l.length - p.1) (0, l.getD 0 default) ⟨by dsimp only; omega, rfl⟩ ?_ ?_
  · exact le_of ⟨rfl, rfl, rfl, rfl, rfl, trivial⟩ ⟨rfl, rfl, trivial⟩ rfl
  · rintro ⟨k, m⟩ ⟨h1, h2⟩
    dsimp only at h1 h2 ⊢
    repeat' (first|(refine gR ?_; first|refine x_opF rfl (by first|exact True.intro|omega) ?_|(refine gC ?_; first|refine vr_clo (⟨_, _, rfl, rfl⟩) (gk rfl) rfl rfl rfl rfl ?_)|(refine gI ?_; first|refine vr_index_rd (gk rfl) rfl rfl rfl rfl rfl (by omega) rfl ?_))|(refine gO ?_; first|refine vr_nil ?_|refine vr_nil_t (by kernel_rfl) ?_)|(refine gT ?_; first|refine q_then_n ?_|refine q_then_x ?_)|(refine gK ?_; first|refine q_blk_n ?_|refine q_blk_x ?_)|refine vc_seq ?_|refine vc_region ?_|refine vc_region_t ?_|(show VC _ (.cond _ _ _) _ _; first|(refine x_cond rfl ?_ ?_ <;> intro h <;> have hq := h <;> (try simp only [decide_eq_true_eq, decide_eq_false_iff_not, Int.not_lt, Int.not_le, ne_eq, Decidable.not_not, Bool.not_eq_true', Bool.not_eq_false'] at hq)))|refine vc_ret ?_|refine vc_exit ?_|refine vc_block ?_|refine vc_skip ?_)
    · have e : ((k + 1 : Nat) : Int).toNat = k + 1 := by omega
      refine ⟨(k + 1, l.getD (k + 1) default), ⟨by dsimp only; omega, ?_⟩, by dsimp only; omega, le_of ⟨rfl, rfl, rfl, rfl, rfl, trivial⟩ ⟨rfl, rfl, trivial⟩ rfl⟩
      rw [minTo, <- h2, if_pos hq]
    · refine ⟨(k + 1, m), ⟨by dsimp only; omega, ?_⟩, by dsimp only; omega, le_of ⟨rfl, rfl, rfl, rfl, rfl, trivial⟩ ⟨rfl, rfl, trivial⟩ rfl⟩
      rw [minTo, <- h2, if_neg (by omega)]
    all_goals have e : l.length - 1 = k := by omega
    all_goals refine ret_agg1 isRet_r rfl rfl rfl rfl ?_
    all_goals rw [e, <- h2]
    all_goals rfl
end Go.Proofs.P
end
section
namespace Go.Proofs.P
open Go Go.Sx
set_option maxRecDepth 4000
attribute [local irreducible] VR VC thenQ blockQ
theorem checkNb_ok {l : List Nb} (h : checkNb l = 0) : l.length <= 32 /\ ∀ i, i < l.length -> nbErr l i = 0 := by
  unfold checkNb at h
  split at h
  · cases h
  · refine ⟨by omega, fun i hi => ?_⟩
    unfold firstErr at h
    cases hf : (List.range l.length).find? (fun i => nbErr l i != 0) with
    | none =>
      have := List.find?_eq_none.1 hf i (List.mem_range.2 hi)
      simpa using this
    | some j =>
      rw [hf] at h
      have := List.find?_some hf
      simp only [bne_iff_ne, ne_eq] at this
      exact absurd h this
theorem nbErr_ok {l : List Nb} {i : Nat} (h : nbErr l i = 0) : heardB (l.getD i default).node (l.getD i default).epoch (l.getD i default).rank (l.getD i default).slot = true /\ (0 <= (l.getD i default).att /\ (l.getD i default).att <= 255) /\
    (0 <= (l.getD i default).ack /\ (l.getD i default).ack <= (l.getD i default).att) := by
  unfold nbErr at h
  simp only at h
  split at h
  · rename_i hh
    simp only [Bool.and_eq_true, inR_t] at hh
    exact ⟨hh.1.1, hh.1.2, hh.2⟩
  · cases h
def mkLk (l : List Nb) (i : Nat) : Lk := ⟨l.getD i default, i, costC (l.getD i default).att (l.getD i default).ack⟩
def okLk (r : Rk) (x : Lk) : Bool := decide (x.n.node ≠ r.node) && feasB r x.n.epoch x.n.rank && decide (x.path < 65535)
def links (l : List Nb) (r : Rk) : Nat -> List Lk
  | 0 => []
  | k + 1 => if okLk r (mkLk l k) = true then links l r k ++ [mkLk l k] else links l r k
theorem links_len (l : List Nb) (r : Rk) : ∀ k, (links l r k).length <= k
  | 0 => Nat.le_refl _
  | k + 1 => by
    have := links_len l r k
    unfold links
    split
    · simp; omega
    · omega
theorem better_fnc {σ : St} {L : List Nat} : AR Tryz.prog σ L (.fnc 203 []) (.clo betterφ) :=
  .fnc .nil (enters_of Tryz.func203 (by kernel_rfl) rfl) (by rintro _ _ ⟨a, b, rfl, rfl⟩; exact ⟨rfl, better_spec a b⟩)
def bestLk (l : List Nb) (r : Rk) : Lk := minTo (links l r l.length) ((links l r l.length).length - 1)
def hasLk (l : List Nb) (r : Rk) : Bool := decide ((links l r l.length).length ≠ 0)
theorem ret_agg_b {P : Program} {σ : St} {t u nm : Nat} {T : TypeId} {ti : TyI} {cs cs' : List C} {x x' : D} {e : Exit} (he : e = .normal \/ e = .ret) [ht : TyOK P T ti] (hx : σ (.s t) = some (.v (.c (.ptr nm 0)))) (hb : σ (.b nm) = some (.k (.box cs'))) (hagg : ti.isAgg = true)
    (hl : (cs'.take ti.size).length = ti.size) (hu : σ (.s u) = some (.v (AD x'))) (h : cs = cs'.take ti.size) (h2 : x = x') : retQ P [.cell t T, .tmp u] (.tup [.agg cs, AD x]) [] e σ :=
  ret_agg_d he hx hb hagg hl hu h h2
theorem best_spec (l : List Nb) (r : Rk) (hc : checkNb l = 0) : FnS Tryz.prog 138 [AD (nbs l), rkA r] [] (.tup [lkA (bestLk l r), AB (hasLk l r)]) [] := by
  obtain ⟨hlen, hall⟩ := checkNb_ok hc
  refine FnS.of_body (enters_of Tryz.func138 (by kernel_rfl) rfl) Tryz.func138 rfl Tryz.ntmps138 Tryz.results138 rfl rfl rfl rfl fun E hS => ?_
  repeat' (first|(refine gR ?_; first|refine x_opF rfl (by first|exact True.intro|omega) ?_)|(refine gO ?_; first|refine vr_nil ?_)|(refine gT ?_; first|refine q_then_n ?_)|(show VC _ (.seq (.region _ _ _) _) _ _; refine vc_seq ?_)|refine vc_region ?_)
  refine vc_cut (stOf [(3, .c (.ptr 3 0)), (4, .c (.ptr 4 0)), (5, AB false), (6, AD (lks (links l r l.length)))] [(3, .box r.cs), (4, .box zero8)]) ?_ ?_
  · repeat' (first|(refine gR ?_; first|refine x_opF rfl (by first|exact True.intro|omega) ?_)|(refine gO ?_; first|refine vr_nil ?_)|(refine gT ?_; first|refine q_then_n ?_)|refine vc_seq ?_|refine vc_region ?_|refine vc_block ?_)
    refine vc_loopI (ι := Nat × List Lk) (fun p => stOf [(3, .c (.ptr 3 0)), (4, .c (.ptr 4 0)), (5, AB false), (6, .c (.row 44 p.2.length)), (10, AD (nbs l)), (11, AI l.length), (12, AI p.1)] [(3, .box r.cs), (4, .box zero8), (44, .row 235 8 (rowOf Lk.enc p.2))])
      (fun p => p.1 <= l.length /\ p.2 = links l r p.1 /\ p.2.length <= p.1) (fun p => l.length - p.1) (0, []) ⟨Nat.zero_le _, rfl, Nat.zero_le _⟩ ?_ ?_
    · exact (le_nil (t := 6) (nm := 44) (T := 235) (sz := 8) rfl rfl).trans (le_of ⟨rfl, rfl, rfl, rfl, rfl, rfl, rfl, trivial⟩ ⟨rfl, rfl, rfl, trivial⟩ rfl)
    · rintro ⟨k, ls⟩ ⟨h1, h2, h3⟩
      dsimp only at h1 h2 h3 ⊢
      have hatt : k < l.length -> (l.getD k default).att <= 255 := fun h => (nbErr_ok (hall k h)).2.1.2
      have hrl : (rowOf Lk.enc ls).length = ls.length := rowOf_length
      repeat' (first|(refine gR ?_; first|refine x_opF rfl (by first|exact True.intro|omega) ?_|(refine gC ?_; first|refine vr_calld (cost_spec _ _ (by omega)) (gk rfl) rfl rfl rfl rfl rfl rfl ?_|refine vr_calld (feas_spec r _ _) (gk rfl) rfl rfl rfl rfl rfl rfl ?_|refine vr_calld (path_spec (mkLk l k)) (gk rfl) rfl rfl rfl rfl rfl rfl ?_)|(refine gI ?_; first|refine vr_index_rd (gk rfl) rfl rfl rfl rfl rfl (by omega) rfl ?_)|(refine gA ?_; first|refine vr_append1 (gk rfl) rfl rfl rfl (by first|rfl|exact rowOf_length.symm|(simp only [rowOf_length, List.length_set, List.length_replicate, List.length_append, List.length_take, List.length_cons, List.length_nil, List.length_map, List.length_drop, List.length_range] <;> omega)) (by first|exact .row rfl (by first|rfl|exact rowOf_length.symm)|exact .rd|exact .nils) rfl rfl rfl (by (try dsimp only); omega) rfl rfl ?_)|(refine x_gsplit rfl ?_ ?_ <;> intro h <;> have hq := h <;> (try simp only [decide_eq_true_eq, decide_eq_false_iff_not, Int.not_lt, Int.not_le, ne_eq, Decidable.not_not, Bool.not_eq_true', Bool.not_eq_false'] at hq)))|(refine gO ?_; first|refine vr_nil ?_|refine vr_nil_t (by kernel_rfl) ?_)|(refine gT ?_; first|refine q_then_n ?_|refine q_then_x ?_)|(refine gK ?_; first|refine q_blk_n ?_|refine q_blk_x ?_)|refine vc_seq ?_|refine vc_region ?_|refine vc_region_t ?_|(show VC _ (.cond _ _ _) _ _; first|refine vc_cond_f rfl ?_|(refine x_cond rfl ?_ ?_ <;> intro h <;> have hq := h <;> (try simp only [decide_eq_true_eq, decide_eq_false_iff_not, Int.not_lt, Int.not_le, ne_eq, Decidable.not_not, Bool.not_eq_true', Bool.not_eq_false'] at hq)))|refine vc_exit ?_|refine vc_block ?_|refine vc_skip ?_)
      · refine ⟨(k + 1, ls ++ [mkLk l k]), ⟨by dsimp only; omega, ?_, by simp; omega⟩, by dsimp only; omega, ?_⟩
        · rw [links, if_pos, <- h2]
          simp_all [okLk, mkLk]
        · refine le_gen (fun n => if n = 44 then 100044 else n) [] hS ⟨⟨_, rfl, .c (.ptr rfl)⟩, ⟨_, rfl, .c (.ptr rfl)⟩, ⟨_, rfl, .c .d⟩, ⟨_, rfl, .c (.row rfl (by simp))⟩, ⟨_, rfl, .c .d⟩, ⟨_, rfl, .c .d⟩, ⟨_, rfl, .c .d⟩, trivial⟩
            ⟨⟨_, rfl, .boxD rfl rfl⟩, ⟨_, rfl, .boxD rfl rfl⟩, ⟨_, rfl, .rowD (by rw [rowOf_append]; rfl) rowOf_isD⟩, trivial⟩ rfl (by simp only [wfL, List.all_cons, List.all_nil, rowOf_blk]; rfl)
      all_goals try (refine ⟨(k + 1, ls), ⟨by dsimp only; omega, ?_, by dsimp only; omega⟩, by dsimp only; omega, le_gen (fun n => n) [] hS ⟨⟨_, rfl, .c (.ptr rfl)⟩, ⟨_, rfl, .c (.ptr rfl)⟩, ⟨_, rfl, .c .d⟩, ⟨_, rfl, .c (.row rfl rfl)⟩, ⟨_, rfl, .c .d⟩, ⟨_, rfl, .c .d⟩, ⟨_, rfl, .c .d⟩, trivial⟩
            ⟨⟨_, rfl, .boxD rfl rfl⟩, ⟨_, rfl, .boxD rfl rfl⟩, ⟨_, rfl, .rowD rfl rowOf_isD⟩, trivial⟩ rfl (by simp only [wfL, List.all_cons, List.all_nil, rowOf_blk]; rfl)⟩
                     rw [links, if_neg, <- h2]
                     simp_all [okLk, mkLk])
      · have e : k = l.length := by omega
        subst e
        subst h2
        exact le_gen (fun n => n) [44] hS ⟨⟨_, rfl, .c (.ptr rfl)⟩, ⟨_, rfl, .c (.ptr rfl)⟩, ⟨_, rfl, .c .d⟩, ⟨_, rfl, .c (.frzOf (by simp) rfl rfl (fun _ => rfl))⟩, trivial⟩ ⟨⟨_, rfl, .boxD rfl rfl⟩, ⟨_, rfl, .boxD rfl rfl⟩, trivial⟩ rfl rfl
  · have hll := links_len l r l.length
    have hz : decide (((links l r l.length).length : Int) = 0) = false -> 0 < (links l r l.length).length := fun h => by
      have := of_decide_eq_false h
      omega
    repeat' (first|(refine gR ?_; first|refine x_opF rfl (by first|exact True.intro|omega) ?_|(refine gC ?_; first|refine vr_call [] (min_spec (links l r l.length) (hz (by assumption)) (by omega)) (gk rfl) rfl (by (repeat' (first|exact .nil|refine .cons ?_ ?_|exact .of0 (.c .d)|exact .of0 .ep|exact .clo|exact (better_fnc)|exact .of0 (.c .nil)|refine .of0 (.agg ?_)|exact .d|exact .nil|exact .of0 (.c (cr_row (by decide) rfl rfl (by repeat' (first|exact trivial|refine ⟨?_, ?_⟩|rfl)))))) <;> fail) rfl rfl rfl rfl rfl ?_))|(refine gO ?_; first|refine vr_nil ?_)|(refine gT ?_; first|refine q_then_n ?_|refine q_then_r ?_)|refine vc_seq ?_|refine vc_region ?_|(show VC _ (.cond _ _ _) _ _; first|(refine x_cond rfl ?_ ?_ <;> intro h <;> have hq := h <;> (try simp only [decide_eq_true_eq, decide_eq_false_iff_not, Int.not_lt, Int.not_le, ne_eq, Decidable.not_not, Bool.not_eq_true', Bool.not_eq_false'] at hq)))|refine vc_ret ?_|refine vc_skip ?_)
    · refine ret_agg_b isRet_r rfl rfl rfl rfl rfl ?_ ?_
      · have : links l r l.length = [] := List.eq_nil_of_length_eq_zero (by omega)
        rw [bestLk, this]; rfl
      · rw [hasLk, decide_eq_false (by omega)]
    · refine ret_agg_b isRet_r rfl rfl rfl rfl rfl rfl ?_
      rw [hasLk, decide_eq_true (by omega)]
end Go.Proofs.P
end
section
namespace Go.Proofs.P
open Go Go.Sx
set_option maxRecDepth 4000
attribute [local irreducible] VR VC thenQ blockQ
end Go.Proofs.P
end
section
namespace Go.Proofs.P
open Go Go.Sx
set_option maxRecDepth 4000
attribute [local irreducible] VR VC thenQ blockQ
def stepA (l : List Nb) (r : Rk) : Rk :=
  if 0 <= r.parent then
    (if foundNb l r.parent = true then (update' r (l.getD (bsNb l r.parent) default).epoch (l.getD (bsNb l r.parent) default).rank (costC (l.getD (bsNb l r.parent) default).att (l.getD (bsNb l r.parent) default).ack)).1 else lose' r)
  else r
def takeB (l : List Nb) (r1 : Rk) (m : Int) : Bool :=
  hasLk l r1 && (decide (r1.parent = -1) || decide (r1.epoch < (bestLk l r1).n.epoch) || decide (IntKind.i64.wrap ((bestLk l r1).path + m) < r1.rank))
def stepB (l : List Nb) (r1 : Rk) (m : Int) : Rk :=
  if takeB l r1 m = true then (adopt' r1 (bestLk l r1).n.node (bestLk l r1).n.epoch (bestLk l r1).n.rank (bestLk l r1).cost).1 else r1
def select' (l : List Nb) (r : Rk) (m : Int) : Rk × Bool × Int :=
  if checkNb l ≠ 0 \/ rkErr r ≠ 0 then (rkZ, false, 1)
  else if inR m 0 65535 = false then (rkZ, false, 2)
  else if r.node = 0 then (r, false, 0)
  else (stepB l (stepA l r) m, decide ((stepB l (stepA l r) m).parent ≠ r.parent), 0)
abbrev zero6 : List C := [.d (.int .i64 0), .d (.int .i64 0), .d (.int .i64 0), .d (.int .i64 0), .d (.int .i64 0), .d (.int .i64 0)]
theorem ret_agg_d2 {P : Program} {σ : St} {t u v nm : Nat} {T : TypeId} {ti : TyI} {cs cs' : List C} {x x' y y' : D} {e : Exit} (he : e = .normal \/ e = .ret) [ht : TyOK P T ti] (hx : σ (.s t) = some (.v (.c (.ptr nm 0)))) (hb : σ (.b nm) = some (.k (.box cs'))) (hagg : ti.isAgg = true)
    (hl : (cs'.take ti.size).length = ti.size) (hu : σ (.s u) = some (.v (AD x'))) (hv : σ (.s v) = some (.v (AD y'))) (h : cs = cs'.take ti.size) (h2 : x = x') (h3 : y = y') : retQ P [.cell t T, .tmp u, .tmp v] (.tup [.agg cs, AD x, AD y]) [] e σ :=
  ⟨he, [.agg ((cs'.drop 0).take ti.size), AD x', AD y'], .agg hx hb hagg hl (.tmp rfl hu (.tmp rfl hv .nil)), by rw [h, h2, h3]; rfl, fun p hp => by cases hp⟩
theorem found_t (l : List Nb) (t : Int) : (foundNb l t = true) = (bsNb l t < l.length /\ nbCmp t (l.getD (bsNb l t) default) = 0) := by simp [foundNb]
theorem att_le {l : List Nb} (h : checkNb l = 0) (k : Nat) : (l.getD k default).att <= 255 := by
  by_cases hk : k < l.length
  · exact (nbErr_ok ((checkNb_ok h).2 k hk)).2.1.2
  · rw [List.getD_eq_getElem?_getD, List.getElem?_eq_none (by omega)]; decide
theorem bx_eq {σ : St} {k : Key} {cs cs' : List C} (h : cs = cs') (hx : σ k = some (.k (.box cs))) : σ k = some (.k (.box cs')) := by rw [<- h]; exact hx
set_option maxHeartbeats 2000000 in
theorem select_spec (l : List Nb) (r : Rk) (m : Int) : FnS Tryz.prog 52 [AD (nbs l), rkA r, AI m] [] (.tup [rkA (select' l r m).1, AB (select' l r m).2.1, AI (select' l r m).2.2]) [] := by
  refine FnS.of_body (enters_of Tryz.func52 (by kernel_rfl) rfl) Tryz.func52 rfl Tryz.ntmps52 Tryz.results52 rfl rfl rfl rfl fun E hS => ?_
  repeat' (first|(refine gR ?_; first|refine x_opF rfl (by first|exact True.intro|omega) ?_|(refine gC ?_; first|refine vr_calld (check_spec l) (gk rfl) rfl rfl rfl rfl rfl rfl ?_|refine vr_calld (rcheck_spec r) (gk rfl) rfl rfl rfl rfl rfl rfl ?_|refine vr_calld (within_spec _ _ _) (gk rfl) rfl rfl rfl rfl rfl rfl ?_)|(refine x_gsplit rfl ?_ ?_ <;> intro h <;> have hq := h <;> (try simp only [decide_eq_true_eq, decide_eq_false_iff_not, Int.not_lt, Int.not_le, ne_eq, Decidable.not_not, Bool.not_eq_true', Bool.not_eq_false', inR_t, inR_f] at hq)))|(refine gO ?_; first|refine vr_nil ?_)|(refine gT ?_; first|refine q_then_n ?_|refine q_then_r ?_)|(refine gK ?_; first|refine q_blk_n ?_|refine q_blk_r ?_)|(show VC _ (.seq _ _) _ _; (fail_if_success (show VC _ (.seq (.seq (.region 8 _ _) _) _) _ _)); (fail_if_success (show VC _ (.seq (.region 8 _ _) _) _ _)); refine vc_seq ?_)|refine vc_region ?_|(show VC _ (.cond _ _ _) _ _; first|refine vc_cond_t rfl ?_|(refine x_cond rfl ?_ ?_ <;> intro h <;> have hq := h <;> (try simp only [decide_eq_true_eq, decide_eq_false_iff_not, Int.not_lt, Int.not_le, ne_eq, Decidable.not_not, Bool.not_eq_true', Bool.not_eq_false', inR_t, inR_f] at hq)))|refine vc_ret ?_|refine vc_block ?_|refine vc_skip ?_)
  --A
  all_goals first
    | (refine ret_agg_d2 isRet_r rfl rfl rfl rfl rfl rfl ?_ ?_ ?_
       all_goals unfold select'
       all_goals repeat' split
       all_goals first|rfl|(exfalso; simp_all; done))
    | skip
  --B
  have hc : checkNb l = 0 := by simp_all
  have hr : rkErr r = 0 := by simp_all
  have hm : inR m 0 65535 = true := by simp_all
  have hn : ¬ r.node = 0 := by simp_all
  have hlen := (checkNb_ok hc).1
  have hall := (checkNb_ok hc).2
  --C
  refine vc_cut (stOf [(0, AD (nbs l)), (2, AI m), (4, .c (.ptr 4 0)), (6, .c (.ptr 6 0)), (7, AB false), (8, AI 0), (9, AI r.parent)] [(4, .box (stepA l r).cs), (6, .box zero6)]) ?_ ?_
  · have hatt := att_le hc (bsNb l r.parent)
    repeat' (first|(refine gR ?_; first|refine x_opF rfl (by first|exact True.intro|omega) ?_|(refine gC ?_; first|refine vr_calld (find_spec l _ (by omega)) (gk rfl) rfl rfl rfl rfl rfl rfl ?_|refine vr_calld (cost_spec _ _ (by omega)) (gk rfl) rfl rfl rfl rfl rfl rfl ?_|refine vr_calld (update_spec r _ _ _) (gk rfl) rfl rfl rfl rfl rfl rfl ?_|refine vr_calld (lose_spec r) (gk rfl) rfl rfl rfl rfl rfl rfl ?_)|(refine gI ?_; first|refine vr_index_rd (gk rfl) rfl rfl rfl rfl rfl (by omega) rfl ?_))|(refine gO ?_; first|refine vr_nil ?_|refine vr_nil_t (by kernel_rfl) ?_)|(refine gT ?_; first|refine q_then_n ?_)|refine vc_seq ?_|refine vc_region ?_|refine vc_region_t ?_|(show VC _ (.cond _ _ _) _ _; first|(refine x_cond rfl ?_ ?_ <;> intro h <;> have hq := h <;> (try simp only [decide_eq_true_eq, decide_eq_false_iff_not, Int.not_lt, Int.not_le, ne_eq, Decidable.not_not, Bool.not_eq_true', Bool.not_eq_false', found_t] at hq)))|refine vc_skip ?_)
    all_goals refine le_of ⟨rfl, rfl, rfl, rfl, rfl, rfl, rfl, trivial⟩ ⟨bx_eq ?_ rfl, rfl, trivial⟩ rfl
    all_goals unfold stepA
    all_goals repeat' split
    all_goals first|rfl|(exfalso; simp_all; done)|(exfalso; omega)
  refine vc_cut (stOf [(4, .c (.ptr 4 0)), (6, .c (.ptr 6 0)), (7, AB false), (8, AI 0), (9, AI r.parent)] [(4, .box (stepB l (stepA l r) m).cs), (6, .box zero6)]) ?_ ?_
  · repeat' (first|(refine gR ?_; first|refine x_opF rfl (by first|exact True.intro|omega) ?_|(refine gC ?_; first|refine vr_calld (best_spec l (stepA l r) hc) (gk rfl) rfl rfl rfl rfl rfl rfl ?_|refine vr_calld (adopt_spec (stepA l r) _ _ _ _) (gk rfl) rfl rfl rfl rfl rfl rfl ?_|refine vr_calld (path_spec (bestLk l (stepA l r))) (gk rfl) rfl rfl rfl rfl rfl rfl ?_)|(refine gB ?_; first|refine x_ariw rfl rfl rfl rfl rfl ?_)|(refine x_gsplit rfl ?_ ?_ <;> intro h <;> have hq := h <;> (try simp only [decide_eq_true_eq, decide_eq_false_iff_not, Int.not_lt, Int.not_le, ne_eq, Decidable.not_not, Bool.not_eq_true', Bool.not_eq_false'] at hq)))|(refine gO ?_; first|refine vr_nil ?_|refine vr_nil_t (by kernel_rfl) ?_)|(refine gT ?_; first|refine q_then_n ?_)|refine vc_seq ?_|refine vc_region ?_|refine vc_region_t ?_|(show VC _ (.cond _ _ _) _ _; first|refine vc_cond_t rfl ?_|refine vc_cond_f rfl ?_|(refine x_cond rfl ?_ ?_ <;> intro h <;> have hq := h <;> (try simp only [decide_eq_true_eq, decide_eq_false_iff_not, Int.not_lt, Int.not_le, ne_eq, Decidable.not_not, Bool.not_eq_true', Bool.not_eq_false'] at hq)))|refine vc_skip ?_)
    all_goals refine le_of ⟨rfl, rfl, rfl, rfl, rfl, trivial⟩ ⟨bx_eq ?_ rfl, rfl, trivial⟩ rfl
    all_goals unfold stepB takeB
    all_goals split
    all_goals first|rfl|(exfalso; simp_all; done)|(exfalso; simp_all; omega)
  · repeat' (first|(refine gR ?_; first|refine x_opF rfl (by first|exact True.intro|omega) ?_)|(refine gO ?_; first|refine vr_nil_t (by kernel_rfl) ?_)|(refine gT ?_; first|refine q_then_n ?_)|refine vc_seq ?_|refine vc_region_t ?_|refine vc_ret ?_)
    refine ret_agg_d2 isRet_r rfl rfl rfl rfl rfl rfl ?_ ?_ ?_
    all_goals unfold select'
    all_goals rw [if_neg (by simp [hc, hr]), if_neg (by simp [hm]), if_neg hn]
    all_goals rfl
end Go.Proofs.P
end
section
namespace Go.Proofs.P
open Go Go.Sx
set_option maxRecDepth 4000
attribute [local irreducible] VR VC thenQ blockQ
end Go.Proofs.P
end
section
namespace Go.Proofs.P
open Go Go.Sx
set_option maxRecDepth 4000
attribute [local irreducible] VR VC thenQ blockQ
end Go.Proofs.P
end
section
namespace Go.Proofs.P
open Go Go.Sx
set_option maxRecDepth 4000
attribute [local irreducible] VR VC thenQ blockQ
theorem rk_ok {r : Rk} (h : rkErr r = 0) : nodeB r.node = true /\ inR r.epoch 0 65535 = true /\ leastB r = true /\ rightB r = true := by
  unfold rkErr at h
  split at h
  · rename_i h1
    simp only [Bool.and_eq_true] at h1
    split at h
    · exact ⟨h1.1.1, h1.1.2, h1.2, ‹_›⟩
    · cases h
  · cases h
theorem rk_of {r : Rk} (h1 : nodeB r.node = true) (h2 : inR r.epoch 0 65535 = true) (h3 : leastB r = true) (h4 : rightB r = true) : rkErr r = 0 := by
  simp [rkErr, h1, h2, h3, h4]
theorem rk_parent {r : Rk} (h : rkErr r = 0) (hp : r.parent ≠ -1) : r.node ≠ 0 /\ nodeB r.parent = true /\ r.parent ≠ r.node /\ 1 <= r.epoch /\ 0 <= r.heard /\ r.heard < r.rank /\ r.heard < r.least /\ r.rank < 65535 := by
  obtain ⟨_, _, _, h4⟩ := rk_ok h
  unfold rightB at h4
  split at h4
  · simp only [Bool.and_eq_true, decide_eq_true_eq] at h4; exact absurd h4.1.1.1.2 hp
  · rename_i hn
    simp only [if_neg hp, Bool.and_eq_true, decide_eq_true_eq, ne_eq] at h4
    exact ⟨hn, h4.1.1.1.1.1.1, h4.1.1.1.1.1.2, h4.1.1.1.1.2, h4.1.1.1.2, h4.1.1.2, h4.1.2, h4.2⟩
theorem rk_begin {r : Rk} {e : Int} (h : rkErr r = 0) (he : 1 <= e /\ e <= 65535) (hp : r.parent ≠ -1) : rkErr (begin' r e) = 0 := by
  unfold begin'
  split
  · obtain ⟨h1, h2, h3, h4⟩ := rk_ok h
    obtain ⟨g1, g2, g3, g4, g5, g6, g7, g8⟩ := rk_parent h hp
    refine rk_of h1 ?_ ?_ ?_
    · simp [inR]; omega
    · simp [leastB, inR]
    · simp [rightB, g1, hp, g2, g3, g5, g6, g8]; omega
  · exact h
end Go.Proofs.P
end
section
namespace Go.Proofs.P
open Go Go.Sx
set_option maxRecDepth 4000
attribute [local irreducible] VR VC thenQ blockQ
def oI : Option Nat -> Int
  | none => -1
  | some i => i
end Go.Proofs.P
end
section
namespace Go.Proofs.P
open Go Go.Sx
theorem nb_lt {l : List Nb} (h : checkNb l = 0) {i : Nat} (h0 : 0 < i) (hi : i < l.length) : (l.getD (i - 1) default).node < (l.getD i default).node := by
  have := (checkNb_ok h).2 i hi
  unfold nbErr at this
  simp only at this
  split at this
  · split at this
    · cases this
    · rename_i hn; omega
  · cases this
theorem nb_mono {l : List Nb} (h : checkNb l = 0) {i j : Nat} (hij : i < j) (hj : j < l.length) : (l.getD i default).node < (l.getD j default).node := by
  induction j with
  | zero => omega
  | succ j ih =>
    have h1 := nb_lt h (i := j + 1) (by omega) hj
    simp only [Nat.add_sub_cancel] at h1
    rcases Nat.lt_or_ge i j with hl | hg
    · have := ih hl (by omega); omega
    · have : i = j := by omega
      subst this; exact h1
theorem bs_below {f : Nat -> Bool} {N : Nat} (hm : ∀ i j, i <= j -> j < N -> f j = true -> f i = true) (i j : Nat) (hj : j <= N) (h1 : ∀ k, k < i -> f k = true) (h2 : ∀ k, j <= k -> k < N -> f k = false) :
    (∀ k, k < bs f i j -> f k = true) /\ (∀ k, bs f i j <= k -> k < N -> f k = false) := by
  fun_induction bs f i j with
  | case1 i j hij hf ih => exact ih hj (fun k hk => hm k _ (by omega) (by omega) hf) h2
  | case2 i j hij hf ih =>
    refine ih (by omega) h1 (fun k hk hkN => ?_)
    cases hfk : f k with
    | false => rfl
    | true => exact absurd (hm _ k hk hkN hfk) (by simpa using hf)
  | case3 i j hij => exact ⟨fun k hk => h1 k hk, fun k hk => h2 k (by omega)⟩
theorem cmpI_lt {a b : Int} : cmpI a b < 0 ↔ a < b := by
  unfold cmpI; split
  · simp [*]
  · split
    · simp; omega
    · simp; omega
theorem cmpI_eq {a b : Int} : cmpI a b = 0 ↔ a = b := by
  unfold cmpI; split
  · simp; omega
  · split
    · simp; omega
    · simp; omega
theorem bsNb_ok {l : List Nb} (h : checkNb l = 0) (t : Int) : bsNb l t <= l.length /\ (∀ k, k < bsNb l t -> (l.getD k default).node < t) /\ (∀ k, bsNb l t <= k -> k < l.length -> t <= (l.getD k default).node) := by
  have := bs_below (f := fun i => decide (nbCmp t (l.getD i default) < 0)) (N := l.length) (by
    intro i j hij hj hf
    simp only [nbCmp, decide_eq_true_eq, cmpI_lt] at hf ⊢
    rcases Nat.lt_or_ge i j with hl | hg
    · have := nb_mono h hl hj; omega
    · have : i = j := by omega
      subst this; exact hf) 0 l.length (Nat.le_refl _) (fun k hk => absurd hk (Nat.not_lt_zero _)) (fun k hk hk2 => by omega)
  refine ⟨bs_le _ _ _ (Nat.zero_le _), fun k hk => ?_, fun k hk hk2 => ?_⟩
  · have := this.1 k hk
    simpa [nbCmp, cmpI_lt] using this
  · have := this.2 k hk hk2
    simpa [nbCmp, cmpI_lt] using this
theorem found_iff {l : List Nb} {t : Int} : foundNb l t = true ↔ bsNb l t < l.length /\ (l.getD (bsNb l t) default).node = t := by
  rw [found_t, nbCmp, cmpI_eq]
end Go.Proofs.P
end
section
namespace Go.Proofs.P
open Go Go.Sx
set_option maxRecDepth 4000
attribute [local irreducible] VR VC thenQ blockQ
end Go.Proofs.P
end
section
namespace Go.Proofs.P
open Go Go.Sx
set_option maxRecDepth 4000
attribute [local irreducible] VR VC thenQ blockQ
end Go.Proofs.P
end
section
namespace Go.Proofs.P
open Go Go.Sx
theorem rk_lose {r : Rk} (h : rkErr r = 0) : rkErr (lose' r) = 0 := by
  unfold lose'
  split
  · rename_i hn
    obtain ⟨h1, h2, h3, h4⟩ := rk_ok h
    refine rk_of h1 h2 ?_ ?_
    · simp only [leastB] at h3 ⊢; exact h3
    · simp only [rightB] at h4 ⊢
      rw [if_neg hn.2] at h4 ⊢
      split at h4
      · simp only [Bool.and_eq_true, decide_eq_true_eq] at h4 ⊢
        simp only [if_true, decide_true, Bool.true_and]
        exact h4.2
      · simp only [Bool.and_eq_true, decide_eq_true_eq] at h4
        simp only [if_true, decide_true, Bool.true_and, Bool.or_eq_true, decide_eq_true_eq]
        left; omega
  · exact h
theorem rk_range {r : Rk} (h : rkErr r = 0) : (0 <= r.node /\ r.node <= 31) /\ 0 <= r.epoch /\ r.epoch <= 65535 := by
  obtain ⟨h1, h2, _, _⟩ := rk_ok h
  simp only [nodeB, inR_t] at h1 h2
  exact ⟨h1, h2⟩
structure CanAdopt (r : Rk) (fr e k c : Int) : Prop where
  right : rkErr r = 0
  notRoot : r.node ≠ 0
  fr : 0 <= fr /\ fr <= 31 /\ fr ≠ r.node
  adv : (1 <= e /\ e <= 65535) /\ 0 <= k /\ k <= 65534
  cost : 1 <= c /\ c <= 1023
  feas : r.epoch < e \/ (e = r.epoch /\ k < r.least)
  path : k + c < 65535
theorem adopt_yes {r : Rk} {fr e k c : Int} (h : CanAdopt r fr e k c) : adopt' r fr e k c = ({ begin' r e with parent := fr, heard := k, rank := k + c }, 0) := by
  have ha : advB e k = true := by rw [advB_t]; exact h.adv
  have hn : nodeB fr = true := by simp only [nodeB, inR_t]; exact ⟨h.fr.1, h.fr.2.1⟩
  have hc : inR c 1 1023 = true := by rw [inR_t]; exact h.cost
  have hf : feasB r e k = true := by
    have := h.feas
    simp only [feasB, h.right, ha, Bool.and_eq_true, Bool.or_eq_true, decide_eq_true_eq, ne_eq]
    exact ⟨⟨⟨trivial, h.notRoot⟩, trivial⟩, this⟩
  unfold adopt'
  rw [if_neg (by simp [h.right]), if_neg (by simp [ha, hn, hc, h.fr.2.2]), if_neg (by simp [hf]), if_neg (by have := h.path; omega)]
theorem adopt_or (r : Rk) (fr e k c : Int) : CanAdopt r fr e k c \/ (adopt' r fr e k c).2 ≠ 0 := by
  unfold adopt'
  split
  · right; decide
  · rename_i h1
    split
    · right; decide
    · rename_i h2
      split
      · right; decide
      · rename_i h3
        split
        · right; decide
        · rename_i h4
          left
          simp only [ne_eq, Decidable.not_not] at h1
          simp only [Bool.not_eq_false, Bool.and_eq_true, decide_eq_true_eq, advB_t, inR_t, nodeB] at h2
          simp only [Bool.not_eq_false, feasB, Bool.and_eq_true, decide_eq_true_eq, Bool.or_eq_true] at h3
          exact ⟨h1, h3.1.1.2, ⟨h2.1.1.1.1, h2.1.1.1.2, h2.1.1.2⟩, h2.1.2, h2.2, h3.2, by omega⟩
def adopted (r : Rk) (fr e k c : Int) : Rk := { begin' r e with parent := fr, heard := k, rank := k + c }
theorem begin_le {r : Rk} {e : Int} (h : r.epoch <= e) : (begin' r e).epoch = e := by
  unfold begin'; split
  · rfl
  · omega
theorem rk_adopted {r : Rk} {fr e k c : Int} (h : CanAdopt r fr e k c) : rkErr (adopted r fr e k c) = 0 := by
  obtain ⟨h1, h2, h3, h4⟩ := rk_ok h.right
  have hfe := h.feas
  have ha := h.adv
  have hc := h.cost
  have hp := h.path
  have hfr := h.fr
  have hnr := h.notRoot
  have hep : (begin' r e).epoch = e := begin_le (by omega)
  have hnode : (begin' r e).node = r.node := by unfold begin'; split <;> rfl
  have hls : k < (begin' r e).least /\ inR (begin' r e).least 1 65535 = true := by
    unfold begin'
    split
    · exact ⟨by dsimp only; omega, by dsimp only; decide⟩
    · simp only [leastB, Bool.or_eq_true, Bool.and_eq_true, decide_eq_true_eq] at h3
      have : inR r.least 1 65535 = true := h3.resolve_right (fun q => hnr q.1)
      exact ⟨by omega, this⟩
  refine rk_of ?_ ?_ ?_ ?_
  · show nodeB (begin' r e).node = true; rw [hnode]; exact h1
  · show inR (begin' r e).epoch 0 65535 = true; rw [hep, inR_t]; omega
  · simp only [leastB, adopted, hls.2, Bool.true_or]
  · simp only [rightB, adopted, hnode, hep]
    rw [if_neg hnr, if_neg (by omega)]
    simp only [Bool.and_eq_true, decide_eq_true_eq, nodeB, inR_t, ne_eq]
    have := hls.1
    omega
theorem update_cases {r : Rk} {e k c : Int} (hr : rkErr r = 0) (hp : r.parent ≠ -1) (ha : advB e k = true) (hc : inR c 1 1023 = true) : (update' r e k c).2 = 0 /\
    ((e < r.epoch /\ (update' r e k c).1 = r) \/ (r.epoch <= e /\ CanAdopt r r.parent e k c /\ (update' r e k c).1 = adopted r r.parent e k c) \/ (r.epoch <= e /\ (update' r e k c).1 = lose' (begin' r e))) := by
  unfold update'
  rw [if_neg (by simp [hr]), if_neg (by simp [ha, hc]), if_neg hp]
  split
  · exact ⟨rfl, .inl ⟨‹_›, rfl⟩⟩
  · rename_i he
    rcases adopt_or r r.parent e k c with h | h
    · rw [adopt_yes h]
      exact ⟨rfl, .inr (.inl ⟨by omega, h, rfl⟩)⟩
    · rw [if_neg h]
      exact ⟨rfl, .inr (.inr ⟨by omega, rfl⟩)⟩
end Go.Proofs.P
end
section
namespace Go.Proofs.P
open Go Go.Sx
set_option maxRecDepth 4000
attribute [local irreducible] VR VC thenQ blockQ
abbrev updAt (l : List Nb) (s : Rk) (b : Nat) : Rk × Int := update' s (l.getD b default).epoch (l.getD b default).rank (costC (l.getD b default).att (l.getD b default).ack)
abbrev adoAt (l : List Nb) (s : Rk) (b : Nat) : Rk := adopted s (l.getD b default).node (l.getD b default).epoch (l.getD b default).rank (costC (l.getD b default).att (l.getD b default).ack)
abbrev CanAt (l : List Nb) (s : Rk) (b : Nat) : Prop := CanAdopt s (l.getD b default).node (l.getD b default).epoch (l.getD b default).rank (costC (l.getD b default).att (l.getD b default).ack)
theorem begin_node (r : Rk) (e : Int) : (begin' r e).node = r.node := by unfold begin'; split <;> rfl
theorem lose_node (r : Rk) : (lose' r).node = r.node := by unfold lose'; split <;> rfl
structure Steady (l : List Nb) (r a : Rk) (m : Int) : Prop where
  right : rkErr a = 0
  node : a.node = r.node
  stepA : stepA l a = a
  take : takeB l a m = false
end Go.Proofs.P
end
section
namespace Go.Proofs.P
open Go Go.Sx
set_option maxRecDepth 4000
attribute [local irreducible] VR VC thenQ blockQ
abbrev predφ (p : Nb -> Bool) : List DV -> DV -> Prop := fun ds r => ∃ x : Nb, ds = [.agg x.enc] /\ r = .d (.bool (p x))
def fstO (l : List Nb) (p : Nb -> Bool) : Option Nat := (List.range l.length).find? fun i => p (l.getD i default)
def Rk.enc (r : Rk) : List D := [.int .i64 r.node, .int .i64 r.epoch, .int .i64 r.parent, .int .i64 r.heard, .int .i64 r.rank, .int .i64 r.least]
end Go.Proofs.P
end
section
namespace Go.Proofs.P
open Go Go.Sx
set_option maxRecDepth 4000
attribute [local irreducible] VR VC thenQ blockQ retL
theorem clone_spec (l : List Nb) (hl : l.length <= 100000) : FnS Tryz.prog 132 [AD (nbs l)] [] (.c (.row 7 l.length)) [(7, .row 227 6 (rowOf Nb.enc l))] := by
  refine FnS.of_body (enters_of Tryz.func132 (by kernel_rfl) rfl) Tryz.func132 rfl Tryz.ntmps132 Tryz.results132 rfl rfl rfl rfl fun E hS => ?_
  refine vc_retL ?_
  repeat' (first|(refine gR ?_; first|refine x_opF rfl (by first|exact True.intro|omega) ?_)|(refine gO ?_; first|refine vr_nil ?_)|(refine gT ?_; first|refine q_then_n ?_)|(show VC _ (.seq _ _) _ _; (fail_if_success (show VC _ (.seq (.seq (.region 1 _ _) _) _) _ _)); (fail_if_success (show VC _ (.seq (.region 1 _ _) _) _ _)); refine vc_seq ?_)|refine vc_region ?_)
  refine vc_seq ?_
  refine vc_seq ?_
  refine vc_isnil rfl rfl rfl rfl fun b hb => ?_
  repeat' (first|(refine gR ?_; first|refine x_opF rfl (by first|exact True.intro|omega) ?_|(refine gA ?_; first|refine vr_append0 (gk rfl) rfl rfl rfl (by first|rfl|exact rowOf_length.symm|(simp only [rowOf_length, List.length_set, List.length_replicate, List.length_append, List.length_take, List.length_cons, List.length_nil, List.length_map, List.length_drop, List.length_range] <;> omega)) (by first|exact .row rfl (by first|rfl|exact rowOf_length.symm)|exact .rd|exact .nils) rfl rfl rfl (by (try dsimp only); omega) rfl rfl ?_))|(refine gO ?_; first|refine vr_nil ?_)|(refine gT ?_; first|refine q_then_n ?_|refine q_then_r ?_)|refine vc_seq ?_|refine vc_region ?_|(show VC _ (.cond _ _ _) _ _; first|(refine x_cond rfl ?_ ?_ <;> intro h <;> have hq := h <;> (try simp only [decide_eq_true_eq, decide_eq_false_iff_not, Int.not_lt, Int.not_le, ne_eq, Decidable.not_not, Bool.not_eq_true', Bool.not_eq_false'] at hq)))|refine vc_ret ?_|refine vc_skip ?_)
  · have h0 : l = [] := List.eq_nil_of_length_eq_zero (hb (by assumption))
    subst h0
    exact retL_of (le_nil (T := 227) (sz := 6) (nm := 7) (t := 2) rfl rfl) (ret_row isRet_r rfl rfl)
  · refine retL_of (le_gen0 (l := [(2, .c (.row 7 l.length))]) (b := [(7, .row 227 6 (rowOf Nb.enc l))]) (fun n => n) ⟨⟨_, rfl, .c (.row rfl (by simp))⟩, trivial⟩ ⟨⟨_, rfl, .rowD ?_ rowOf_isD⟩, trivial⟩ rfl (by simp only [wfL, List.all_cons, List.all_nil, rowOf_blk]; rfl)) (ret_row isRet_r rfl rfl)
    exact (List.nil_append _).trans (rd_rowOf (enc := Nb.enc) (sz := 6) fun _ => rfl)
end Go.Proofs.P
end
section
namespace Go.Proofs.P
open Go Go.Sx
set_option maxRecDepth 4000
attribute [local irreducible] VR VC thenQ blockQ retL
abbrev oldB (slot age : Int) (x : Nb) : Bool := decide (age <= IntKind.i64.wrap (slot - x.slot))
abbrev kept (l : List Nb) (slot age : Int) : List Nb := l.filter fun x => !oldB slot age x
end Go.Proofs.P
end
section
namespace Go.Proofs.P
open Go Go.Sx
set_option maxRecDepth 4000
attribute [local irreducible] VR VC thenQ blockQ retL
end Go.Proofs.P
end
section
namespace Go.Proofs.P
open Go Go.Sx
set_option maxRecDepth 4000
attribute [local irreducible] VR VC thenQ blockQ retL
instance : Overlaps Tryz.prog 198 :=
  ⟨85, 4, 227, 6, TyOK.slice Tryz.sxty85 rfl, fun w => TyOK.run_size Tryz.sxty227 w, fun args w => run_callFunc_extern Tryz.func198 (by kernel_rfl) (by kernel_rfl) (by kernel_rfl) (by kernel_rfl) args w⟩
abbrev insAt (l : List Nb) (i : Nat) (x : Nb) : List Nb := l.take i ++ x :: l.drop i
abbrev nb1 (x : Nb) : D := .rd 1 6 fun _ j => x.enc.getD j .nils
theorem ins_row (l : List Nb) (i : Nat) (x : Nb) : rowOf Nb.enc (insAt l i x) = List.take i (rowOf Nb.enc l) ++ (Nb.enc x).map C.d :: List.drop i (rowOf Nb.enc l) := by
  rw [insAt, rowOf_append, rowOf_take, rowOf_drop]
  rfl
theorem insert_spec (l : List Nb) (i : Nat) (x : Nb) (hl : l.length <= 100000) (hi : i <= l.length) : FnS Tryz.prog 131 [.c (.row 0 l.length), AI i, AD (nb1 x)] [(0, .row 227 6 (rowOf Nb.enc l))]
    (.c (.row 1 (l.length + 1))) [(1, .row 227 6 (rowOf Nb.enc (insAt l i x)))] := by
  refine FnS.of_bodyM (enters_of Tryz.func131 (by kernel_rfl) rfl) Tryz.func131 rfl Tryz.ntmps131 Tryz.results131 rfl (by first|rfl|(simp only [wfRes, wfL, wfArgs, List.all_cons, List.all_nil, rowOf_blk]; rfl)) rfl fun E => ?_
  refine vc_retL ?_
  repeat' (first|(refine gR ?_; first|refine x_opF rfl (by first|exact True.intro|omega) ?_|(refine gE ?_; first|refine vr_len_row (gk rfl) rfl rfl (by first|rfl|exact rowOf_length.symm|(simp only [rowOf_length, List.length_set, List.length_replicate, List.length_append, List.length_take, List.length_cons, List.length_nil, List.length_map, List.length_drop, List.length_range] <;> omega)) rfl rfl ?_)|(refine gA ?_; first|refine vr_append0 (gk rfl) rfl rfl rfl (by first|rfl|exact rowOf_length.symm|(simp only [rowOf_length, List.length_set, List.length_replicate, List.length_append, List.length_take, List.length_cons, List.length_nil, List.length_map, List.length_drop, List.length_range] <;> omega)) (by first|exact .row rfl (by first|rfl|exact rowOf_length.symm)|exact .rd|exact .nils) rfl rfl rfl (by (try dsimp only); omega) rfl rfl ?_)|(show VR _ _ _ (⟨_, .slice _ _ _ _ _, _, _, _, _⟩ :: _) _ _ _; first|refine vr_slice_sub (gk rfl) rfl rfl (by first|exact .row|exact .full) rfl rfl (by first|exact .no|exact .int rfl rfl|exact .nat rfl (by omega)) (by first|exact .no|exact .int rfl rfl|exact .nat rfl (by omega)) (by first|omega|(simp only [rowOf_length, List.length_set, List.length_append, List.length_take, List.length_drop, List.length_replicate]; omega)) (by first|omega|(simp only [rowOf_length, List.length_set, List.length_append, List.length_take, List.length_drop, List.length_replicate]; omega)) (by first|omega|(simp only [rowOf_length, List.length_set, List.length_append, List.length_take, List.length_drop, List.length_replicate]; omega)) rfl ?_))|(refine gO ?_; first|refine vr_nil ?_)|(refine gT ?_; first|refine q_then_n ?_|refine q_then_r ?_)|(show VC _ (.seq _ _) _ _; (fail_if_success (show VC _ (.seq (.seq (.region 8 _ _) _) _) _ _)); (fail_if_success (show VC _ (.seq (.region 8 _ _) _) _ _)); refine vc_seq ?_)|refine vc_region ?_|(show VC _ (.cond _ _ _) _ _; first|refine vc_cond_f rfl ?_|(refine x_cond rfl ?_ ?_ <;> intro h <;> have hq := h <;> (try simp only [decide_eq_true_eq, decide_eq_false_iff_not, Int.not_lt, Int.not_le, ne_eq, Decidable.not_not, Bool.not_eq_true', Bool.not_eq_false'] at hq)))|refine vc_ret ?_|refine vc_skip ?_)
  · have e : i = l.length := by omega
    subst e
    refine retL_of (le_gen0 (l := [(6, .c (.row 1 (l.length + 1)))]) (b := [(1, .row 227 6 (rowOf Nb.enc (insAt l l.length x)))]) (fun n => if n = 1 then 25 else n) ⟨⟨_, rfl, .c (.row rfl rfl)⟩, trivial⟩
      ⟨⟨_, rfl, .rowD ?_ rowOf_isD⟩, trivial⟩ rfl (by simp only [wfL, List.all_cons, List.all_nil, rowOf_blk]; rfl)) (ret_row isRet_r rfl rfl)
    rw [insAt, List.take_length, List.drop_length, rowOf_append]
    rfl
  · refine vc_open (nm := 0) rfl (rowOf_ne (by omega)) fun cp spare hcp hmax => ?_
    rw [rowOf_length] at hcp
    repeat' (first|(refine gR ?_; first|refine x_opF rfl (by first|exact True.intro|omega) ?_|(refine gC ?_; first|refine vr_overlaps (gk rfl) rfl rfl rfl (by first|exact .row|exact .full) (by omega) rfl rfl rfl ?_)|(refine gA ?_; first|refine vr_append_zerosN (gk rfl) rfl rfl rfl rfl rfl rfl rfl rfl rfl rfl (by omega) (by first|omega|(simp only [rowOf_length, List.length_set, List.length_append, List.length_take, List.length_drop, List.length_replicate]; omega)) (by first|omega|(simp only [rowOf_length, List.length_set, List.length_append, List.length_take, List.length_drop, List.length_replicate]; omega)) (by (try dsimp only); omega) rfl rfl ?_)|(show VR _ _ _ (⟨_, .slice _ _ _ _ _, _, _, _, _⟩ :: _) _ _ _; first|refine vr_slice_head (gk rfl) rfl rfl (by first|exact .row|exact .full) rfl rfl (by first|exact .no|exact .int rfl rfl|exact .nat rfl (by omega)) (by first|omega|(simp only [rowOf_length, List.length_set, List.length_append, List.length_take, List.length_drop, List.length_replicate]; omega)) (by first|omega|(simp only [rowOf_length, List.length_set, List.length_append, List.length_take, List.length_drop, List.length_replicate]; omega)) rfl ?_|refine vr_slice_sub (gk rfl) rfl rfl (by first|exact .row|exact .full) rfl rfl (by first|exact .no|exact .int rfl rfl|exact .nat rfl (by omega)) (by first|exact .no|exact .int rfl rfl|exact .nat rfl (by omega)) (by first|omega|(simp only [rowOf_length, List.length_set, List.length_append, List.length_take, List.length_drop, List.length_replicate]; omega)) (by first|omega|(simp only [rowOf_length, List.length_set, List.length_append, List.length_take, List.length_drop, List.length_replicate]; omega)) (by first|omega|(simp only [rowOf_length, List.length_set, List.length_append, List.length_take, List.length_drop, List.length_replicate]; omega)) rfl ?_)|(show VR _ _ _ (⟨_, .call ⟨.builtin .copy, _, _⟩, _, _, _, _⟩ :: _) _ _ _; first|refine vr_copy (gk rfl) rfl rfl (by first|exact .row|exact .sub) rfl (by first|exact .src .rd|exact .src .nils|exact .src (.row rfl (by first|exact .row|exact .full) (by first|omega|(simp only [rowOf_length, List.length_set, List.length_append, List.length_take, List.length_drop, List.length_replicate]; omega)))|exact .src (.sub rfl (by first|exact .row|exact .full) (by first|omega|(simp only [rowOf_length, List.length_set, List.length_append, List.length_take, List.length_drop, List.length_replicate]; omega)))|exact .tail rfl (by first|omega|(simp only [rowOf_length, List.length_set, List.length_append, List.length_take, List.length_drop, List.length_replicate]; omega)) (by first|omega|(simp only [rowOf_length, List.length_set, List.length_append, List.length_take, List.length_drop, List.length_replicate]; omega))) rfl rfl rfl (by first|omega|(simp only [rowOf_length, List.length_set, List.length_append, List.length_take, List.length_drop, List.length_replicate]; omega)) (by first|omega|(simp only [rowOf_length, List.length_set, List.length_append, List.length_take, List.length_drop, List.length_replicate]; omega)) rfl ?_)|(show VR _ _ _ (⟨_, .call ⟨.builtin .cap, _, _⟩, _, _, _, _⟩ :: _) _ _ _; first|refine vr_cap_full (gk rfl) rfl rfl rfl rfl ?_))|(refine gO ?_; first|refine vr_nil ?_|refine vr_nil_t (by kernel_rfl) ?_)|(refine gT ?_; first|refine q_then_n ?_|refine q_then_r ?_)|(show VC _ (.seq _ _) _ _; (fail_if_success (show VC _ (.seq (.seq (.region 10 _ _) _) _) _ _)); (fail_if_success (show VC _ (.seq (.region 10 _ _) _) _ _)); refine vc_seq ?_)|refine vc_region ?_|refine vc_region_t ?_|(show VC _ (.cond _ _ _) _ _; first|refine vc_cond_t rfl ?_|(refine x_cond rfl ?_ ?_ <;> intro h <;> have hq := h <;> (try simp only [decide_eq_true_eq, decide_eq_false_iff_not, Int.not_lt, Int.not_le, ne_eq, Decidable.not_not, Bool.not_eq_true', Bool.not_eq_false'] at hq)))|refine vc_ret ?_|refine vc_skip ?_)
    · have hq1 : ((l.length : Int) + (1 : Nat) - i).toNat = l.length + 1 - i := by omega
      refine vc_open (nm := 40) rfl (by
        intro e
        have := congrArg List.length e
        rw [List.length_append, List.length_replicate] at this
        change _ + _ = 0 at this
        omega) fun cp2 spare2 hcp2 hmax2 => ?_
      rw [List.length_append, List.length_replicate, List.length_take, rowOf_length] at hcp2
      repeat' (first|(refine gR ?_; first|refine x_opF rfl (by first|exact True.intro|omega) ?_|(show VR _ _ _ (⟨_, .slice _ _ _ _ _, _, _, _, _⟩ :: _) _ _ _; first|refine vr_slice_sub (gk rfl) rfl rfl (by first|exact .row|exact .full) rfl rfl (by first|exact .no|exact .int rfl rfl|exact .nat rfl (by omega)) (by first|exact .no|exact .int rfl rfl|exact .nat rfl (by omega)) (by first|omega|(simp only [rowOf_length, List.length_set, List.length_append, List.length_take, List.length_drop, List.length_replicate]; omega)) (by first|omega|(simp only [rowOf_length, List.length_set, List.length_append, List.length_take, List.length_drop, List.length_replicate]; omega)) (by first|omega|(simp only [rowOf_length, List.length_set, List.length_append, List.length_take, List.length_drop, List.length_replicate]; omega)) rfl ?_)|(show VR _ _ _ (⟨_, .call ⟨.builtin .copy, _, _⟩, _, _, _, _⟩ :: _) _ _ _; first|refine vr_copy (gk rfl) rfl rfl (by first|exact .row|exact .sub) rfl (by first|exact .src .rd|exact .src .nils|exact .src (.row rfl (by first|exact .row|exact .full) (by first|omega|(simp only [rowOf_length, List.length_set, List.length_append, List.length_take, List.length_drop, List.length_replicate]; omega)))|exact .src (.sub rfl (by first|exact .row|exact .full) (by first|omega|(simp only [rowOf_length, List.length_set, List.length_append, List.length_take, List.length_drop, List.length_replicate]; omega)))|exact .tail rfl (by first|omega|(simp only [rowOf_length, List.length_set, List.length_append, List.length_take, List.length_drop, List.length_replicate]; omega)) (by first|omega|(simp only [rowOf_length, List.length_set, List.length_append, List.length_take, List.length_drop, List.length_replicate]; omega))) rfl rfl rfl (by first|omega|(simp only [rowOf_length, List.length_set, List.length_append, List.length_take, List.length_drop, List.length_replicate]; omega)) (by first|omega|(simp only [rowOf_length, List.length_set, List.length_append, List.length_take, List.length_drop, List.length_replicate]; omega)) rfl ?_))|(refine gO ?_; first|refine vr_nil ?_|refine vr_nil_t (by kernel_rfl) ?_)|(refine gT ?_; first|refine q_then_n ?_|refine q_then_r ?_)|refine vc_seq ?_|refine vc_region ?_|refine vc_region_t ?_|refine vc_ret ?_)
      refine retL_of (le_gen0 (l := [(6, .c (.row 1 (l.length + 1)))]) (b := [(1, .row 227 6 (rowOf Nb.enc (insAt l i x)))]) (fun n => if n = 1 then 40 else n) ⟨⟨_, rfl, .c (.row rfl (by omega))⟩, trivial⟩
        ⟨⟨_, rfl, .shutO (l.length + 1) ?_⟩, trivial⟩ rfl (by simp only [wfL, List.all_cons, List.all_nil, rowOf_blk]; rfl)) (ret_row isRet_r rfl rfl)
      rw [hq1, show min 1 (i + (l.length + 1 - i) - i) = 1 by omega, show min (l.length - i) (i + (l.length + 1 - i) - (i + 1)) = l.length - i by omega]
      exact (ins_grow (y := (Nb.enc x).map C.d) (rowOf_length (enc := Nb.enc)) (by omega) rfl).trans (ins_row l i x).symm
    · refine retL_of (le_gen0 (l := [(6, .c (.row 1 (l.length + 1)))]) (b := [(1, .row 227 6 (rowOf Nb.enc (insAt l i x)))]) (fun n => if n = 1 then 0 else n) ⟨⟨_, rfl, .c (.row rfl rfl)⟩, trivial⟩
        ⟨⟨_, rfl, .shutO (l.length + 1) ?_⟩, trivial⟩ rfl (by simp only [wfL, List.all_cons, List.all_nil, rowOf_blk]; rfl)) (ret_row isRet_r rfl rfl)
      rw [show min 1 (l.length + 1 - i) = 1 by omega, show min (l.length + 1 - i) (l.length + 1 - (i + 1)) = l.length - i by omega]
      exact (ins_room (y := (Nb.enc x).map C.d) (rowOf_length (enc := Nb.enc)) (by omega)).trans (ins_row l i x).symm
end Go.Proofs.P
end
section
namespace Go.Proofs.P
open Go Go.Sx
set_option maxRecDepth 4000
attribute [local irreducible] VR VC thenQ blockQ retL
def adOf (x : Nb) (e k s : Int) : Nb := { x with epoch := e, rank := k, slot := s }
def newNb (t : Int) : Nb := ⟨t, 0, 0, 0, 0, 0⟩
def hearX (l : List Nb) (t : Int) : Nb := if foundNb l t = true then l.getD (bsNb l t) default else newNb t
def hearL (l : List Nb) (t e k s : Int) : List Nb := if foundNb l t = true then l.set (bsNb l t) (adOf (l.getD (bsNb l t) default) e k s) else insAt l (bsNb l t) (adOf (newNb t) e k s)
end Go.Proofs.P
end
section
namespace Go.Proofs.P
open Go Go.Sx
set_option maxRecDepth 4000
attribute [local irreducible] VR VC thenQ blockQ retL
abbrev bls (l : List Bool) : D := rdOf (fun b => [.bool b]) 1 l
end Go.Proofs.P
end
section
namespace Go.Proofs.P
open Go Go.Sx
set_option maxRecDepth 4000
attribute [local irreducible] VR VC thenQ blockQ retL
def hearM (l : List Nb) (t e k s : Int) : List Nb × Int := if checkNb l ≠ 0 then ([], 1) else if heardB t e k s = false then ([], 2) else if s < (hearX l t).slot then ([], 15) else (hearL l t e k s, 0)
theorem hear_known2 (l : List Nb) (t e k s : Int) (h : checkNb l = 0) (hr : heardB t e k s = true) (hs : ¬ s < (hearX l t).slot) (hf : foundNb l t = true) : FnS Tryz.prog 51 [AD (nbs l), AI t, AI e, AI k, AI s] [] (.tup [AD (nbs (hearL l t e k s)), AI 0]) [] := by
  have hck := check_spec l
  rw [h] at hck
  have hh := heard_spec t e k s
  rw [hr] at hh
  obtain ⟨hlen, hall⟩ := checkNb_ok h
  have hfd := find_spec l t (by omega)
  rw [hearX, if_pos hf] at hs
  rw [hf] at hfd
  have hi := (found_iff.1 hf).1
  have hn := (found_iff.1 hf).2
  rw [hearL, if_pos hf]
  generalize bsNb l t = i at *
  refine FnS.of_body (enters_of Tryz.func51 (by kernel_rfl) rfl) Tryz.func51 rfl Tryz.ntmps51 Tryz.results51 rfl rfl rfl rfl fun E hS => ?_
  refine vc_retL ?_
  repeat' (first|(refine gR ?_; first|refine x_opF rfl (by first|exact True.intro|omega) ?_|(refine gC ?_; first|refine vr_calldU (hck) (gk rfl) rfl rfl rfl (by first|rfl|(simp only [wfRes, wfL, wfArgs, List.all_cons, List.all_nil, rowOf_blk]; rfl)) rfl (by first|exact newB_O|rfl) rfl ?_|refine vr_calldU (hh) (gk rfl) rfl rfl rfl (by first|rfl|(simp only [wfRes, wfL, wfArgs, List.all_cons, List.all_nil, rowOf_blk]; rfl)) rfl (by first|exact newB_O|rfl) rfl ?_|refine vr_calldU (hfd) (gk rfl) rfl rfl rfl (by first|rfl|(simp only [wfRes, wfL, wfArgs, List.all_cons, List.all_nil, rowOf_blk]; rfl)) rfl (by first|exact newB_O|rfl) rfl ?_|refine vr_calldU (clone_spec l (by omega)) (gk rfl) rfl rfl rfl (by first|rfl|(simp only [wfRes, wfL, wfArgs, List.all_cons, List.all_nil, rowOf_blk]; rfl)) rfl (by first|exact newB_O|rfl) rfl ?_)|(refine gI ?_; first|refine vr_index_rd (gk rfl) rfl rfl rfl rfl rfl (by omega) rfl ?_|refine vr_index_rowO (gk rfl) rfl rfl rfl rfl rfl rfl (by omega) (by omega) rfl ?_)|(refine gS ?_; first|refine vr_store_rowO (gk rfl) rfl rfl rfl (by omega) rfl rfl rfl ?_))|(refine gO ?_; first|refine vr_nil ?_)|(refine gT ?_; first|refine q_then_n ?_|refine q_then_r ?_)|refine vc_seq ?_|refine vc_region ?_|(show VC _ (.cond _ _ _) _ _; first|refine vc_cond_f rfl ?_|(refine x_cond rfl ?_ ?_ <;> intro h <;> have hq := h <;> (try simp only [decide_eq_true_eq, decide_eq_false_iff_not, Int.not_lt, Int.not_le, ne_eq, Decidable.not_not, Bool.not_eq_true', Bool.not_eq_false'] at hq)))|refine vc_ret ?_|refine vc_skip ?_)
  all_goals first
    | (exfalso; omega)
    | skip
  refine retL_le (le_gen0 (l := [(10, .c (.row 7 (l.set i (adOf (l.getD i default) e k s)).length)), (11, AI 0)]) (b := [(7, .row 227 6 (rowOf Nb.enc (l.set i (adOf (l.getD i default) e k s))))]) (fun n => if n = 7 then 58007 else n) ⟨⟨_, rfl, .c (.row rfl (by simp))⟩, ⟨_, rfl, .c .d⟩, trivial⟩
      ⟨⟨_, rfl, .rowD (rowOf_set ?_) rowOf_isD⟩, trivial⟩ rfl (by simp only [wfL, List.all_cons, List.all_nil, rowOf_blk]; rfl)) ?_
  · rw [<- hn]; rfl
  refine retL_of (le_gen (l := [(10, AD (nbs (l.set i (adOf (l.getD i default) e k s)))), (11, AI 0)]) (b := []) (fun n => n) [7] hS ?_ ?_ rfl (by first|rfl|(simp only [wfL, List.all_cons, List.all_nil, rowOf_blk]; rfl))) (ret_d2 isRet_r rfl rfl rfl rfl)
  all_goals repeat' (first|exact trivial|refine ⟨⟨_, rfl, ?_⟩, ?_⟩|exact .c .d|exact .c (.frzOf (by first|(simp; done)|decide) rfl rfl (fun _ => rfl)))
theorem hear_new2 (l : List Nb) (t e k s : Int) (h : checkNb l = 0) (hr : heardB t e k s = true) (hf : foundNb l t = false) : FnS Tryz.prog 51 [AD (nbs l), AI t, AI e, AI k, AI s] [] (.tup [AD (nbs (hearL l t e k s)), AI 0]) [] := by
  have hck := check_spec l
  rw [h] at hck
  have hh := heard_spec t e k s
  rw [hr] at hh
  obtain ⟨hlen, hall⟩ := checkNb_ok h
  have hfd := find_spec l t (by omega)
  rw [hf] at hfd
  have hi := (bsNb_ok h t).1
  rw [hearL, if_neg (by rw [hf]; simp)]
  generalize bsNb l t = i at *
  have hins := insert_spec l i (adOf (newNb t) e k s) (by omega) hi
  have hil : (insAt l i (adOf (newNb t) e k s)).length = l.length + 1 := by simp [insAt]; omega
  refine FnS.of_body (enters_of Tryz.func51 (by kernel_rfl) rfl) Tryz.func51 rfl Tryz.ntmps51 Tryz.results51 rfl rfl rfl rfl fun E hS => ?_
  refine vc_retL ?_
  repeat' (first|(refine gR ?_; first|refine x_opF rfl (by first|exact True.intro|omega) ?_|(refine gC ?_; first|refine vr_calldU (hck) (gk rfl) rfl rfl rfl (by first|rfl|(simp only [wfRes, wfL, wfArgs, List.all_cons, List.all_nil, rowOf_blk]; rfl)) rfl (by first|exact newB_O|rfl) rfl ?_|refine vr_calldU (hh) (gk rfl) rfl rfl rfl (by first|rfl|(simp only [wfRes, wfL, wfArgs, List.all_cons, List.all_nil, rowOf_blk]; rfl)) rfl (by first|exact newB_O|rfl) rfl ?_|refine vr_calldU (hfd) (gk rfl) rfl rfl rfl (by first|rfl|(simp only [wfRes, wfL, wfArgs, List.all_cons, List.all_nil, rowOf_blk]; rfl)) rfl (by first|exact newB_O|rfl) rfl ?_|refine vr_calldU (clone_spec l (by omega)) (gk rfl) rfl rfl rfl (by first|rfl|(simp only [wfRes, wfL, wfArgs, List.all_cons, List.all_nil, rowOf_blk]; rfl)) rfl (by first|exact newB_O|rfl) rfl ?_|refine vr_callMU [42] (hins) (gk rfl) rfl rfl rowOf_isD rfl (by (repeat' (first|exact .nil|refine .cons ?_ ?_|exact .of0 (.c .d)|exact .of0 .ep|exact .clo|exact .of0 (.c .nil)|exact .of0 (.c (cr_rowO (by simp) rfl (by first|rfl|omega) (fun _ => rfl)))|refine .of0 (.agg ?_)|exact .d|exact .nil|exact .of0 (.c (cr_row (by decide) rfl rfl (by repeat' (first|exact trivial|refine ⟨?_, ?_⟩|rfl)))))) <;> fail) rfl (by first|rfl|exact hfl_O (fun _ => rfl)|exact hfl_O2 rfl (fun _ => rfl)) rfl (by first|rfl|(simp only [wfRes, wfL, wfArgs, List.all_cons, List.all_nil, rowOf_blk]; rfl)) rfl (by first|exact newB_O|rfl) rfl ?_))|(refine gO ?_; first|refine vr_nil ?_|refine vr_nil_t (by kernel_rfl) ?_)|(refine gT ?_; first|refine q_then_n ?_|refine q_then_r ?_)|refine vc_seq ?_|refine vc_region ?_|refine vc_region_t ?_|(show VC _ (.cond _ _ _) _ _; first|refine vc_cond_t rfl ?_|refine vc_cond_f rfl ?_)|refine vc_ret ?_|refine vc_skip ?_)
  refine retL_of (le_gen (l := [(10, AD (nbs (insAt l i (adOf (newNb t) e k s)))), (11, AI 0)]) (b := []) (fun n => n) [43001] hS ?_ ?_ rfl (by first|rfl|(simp only [wfL, List.all_cons, List.all_nil, rowOf_blk]; rfl))) (ret_d2 isRet_r rfl rfl rfl rfl)
  all_goals repeat' (first|exact trivial|refine ⟨⟨_, rfl, ?_⟩, ?_⟩|exact .c .d|(refine .c (.frzOf (by first|(simp; done)|decide) rfl ?_ (fun _ => rfl)); ((try dsimp only); first|rfl|omega|(simp only [rowOf_length, List.length_set, List.length_append, List.length_take, List.length_drop, List.length_cons, List.length_nil, List.length_map, List.length_replicate, List.length_range] <;> omega)); done))
theorem hear_bad2 (l : List Nb) (t e k s : Int) (h : checkNb l ≠ 0) : FnS Tryz.prog 51 [AD (nbs l), AI t, AI e, AI k, AI s] [] (.tup [AD (nbs []), AI 1]) [] := by
  have d1 : decide (checkNb l ≠ 0) = true := decide_eq_true h
  refine FnS.of_body (enters_of Tryz.func51 (by kernel_rfl) rfl) Tryz.func51 rfl Tryz.ntmps51 Tryz.results51 rfl rfl rfl rfl fun E hS => ?_
  refine vc_retL ?_
  repeat' (first|(refine gR ?_; first|refine x_opF rfl (by first|exact True.intro|omega) ?_|(refine gC ?_; first|refine vr_calldU (check_spec l) (gk rfl) rfl rfl rfl (by first|rfl|(simp only [wfRes, wfL, wfArgs, List.all_cons, List.all_nil, rowOf_blk]; rfl)) rfl (by first|exact newB_O|rfl) rfl ?_))|(refine gO ?_; first|refine vr_nil ?_)|(refine gT ?_; first|refine q_then_n ?_|refine q_then_r ?_)|refine vc_seq ?_|refine vc_region ?_|(show VC _ (.cond _ _ _) _ _; first|refine vc_cond_t rfl ?_|refine x_know rfl (by assumption) ?_)|refine vc_ret ?_)
  refine retL_of (le_gen0 (l := [(10, AD (nbs [])), (11, AI 1)]) (b := []) (fun n => n) ?_ ?_ rfl (by first|rfl|(simp only [wfL, List.all_cons, List.all_nil, rowOf_blk]; rfl))) (ret_d2 isRet_r rfl rfl rfl rfl)
  all_goals repeat' (first|exact trivial|refine ⟨⟨_, rfl, ?_⟩, ?_⟩|exact .c .d|exact .c .nil)
theorem hear_range2 (l : List Nb) (t e k s : Int) (h : checkNb l = 0) (hr : heardB t e k s = false) : FnS Tryz.prog 51 [AD (nbs l), AI t, AI e, AI k, AI s] [] (.tup [AD (nbs []), AI 2]) [] := by
  have hck := check_spec l
  rw [h] at hck
  have hh := heard_spec t e k s
  rw [hr] at hh
  refine FnS.of_body (enters_of Tryz.func51 (by kernel_rfl) rfl) Tryz.func51 rfl Tryz.ntmps51 Tryz.results51 rfl rfl rfl rfl fun E hS => ?_
  refine vc_retL ?_
  repeat' (first|(refine gR ?_; first|refine x_opF rfl (by first|exact True.intro|omega) ?_|(refine gC ?_; first|refine vr_calldU (hck) (gk rfl) rfl rfl rfl (by first|rfl|(simp only [wfRes, wfL, wfArgs, List.all_cons, List.all_nil, rowOf_blk]; rfl)) rfl (by first|exact newB_O|rfl) rfl ?_|refine vr_calldU (hh) (gk rfl) rfl rfl rfl (by first|rfl|(simp only [wfRes, wfL, wfArgs, List.all_cons, List.all_nil, rowOf_blk]; rfl)) rfl (by first|exact newB_O|rfl) rfl ?_))|(refine gO ?_; first|refine vr_nil ?_)|(refine gT ?_; first|refine q_then_n ?_|refine q_then_r ?_)|refine vc_seq ?_|refine vc_region ?_|(show VC _ (.cond _ _ _) _ _; first|refine vc_cond_t rfl ?_|refine vc_cond_f rfl ?_)|refine vc_ret ?_|refine vc_skip ?_)
  refine retL_of (le_gen0 (l := [(10, AD (nbs [])), (11, AI 2)]) (b := []) (fun n => n) ?_ ?_ rfl (by first|rfl|(simp only [wfL, List.all_cons, List.all_nil, rowOf_blk]; rfl))) (ret_d2 isRet_r rfl rfl rfl rfl)
  all_goals repeat' (first|exact trivial|refine ⟨⟨_, rfl, ?_⟩, ?_⟩|exact .c .d|exact .c .nil)
theorem hear_late2 (l : List Nb) (t e k s : Int) (h : checkNb l = 0) (hr : heardB t e k s = true) (hs : s < (hearX l t).slot) : FnS Tryz.prog 51 [AD (nbs l), AI t, AI e, AI k, AI s] [] (.tup [AD (nbs []), AI 15]) [] := by
  have hck := check_spec l
  rw [h] at hck
  have hh := heard_spec t e k s
  rw [hr] at hh
  obtain ⟨hlen, hall⟩ := checkNb_ok h
  have hfd := find_spec l t (by omega)
  have hf : foundNb l t = true := by
    cases hf : foundNb l t with
    | true => rfl
    | false =>
      rw [hearX, hf] at hs
      simp only [heardB, Bool.and_eq_true, inR_t] at hr
      have : s < 0 := hs
      omega
  rw [hearX, if_pos hf] at hs
  rw [hf] at hfd
  have hi := (found_iff.1 hf).1
  have d9 : decide (s < (l.getD (bsNb l t) default).slot) = true := decide_eq_true hs
  generalize bsNb l t = i at *
  refine FnS.of_body (enters_of Tryz.func51 (by kernel_rfl) rfl) Tryz.func51 rfl Tryz.ntmps51 Tryz.results51 rfl rfl rfl rfl fun E hS => ?_
  refine vc_retL ?_
  repeat' (first|(refine gR ?_; first|refine x_opF rfl (by first|exact True.intro|omega) ?_|(refine gC ?_; first|refine vr_calldU (hck) (gk rfl) rfl rfl rfl (by first|rfl|(simp only [wfRes, wfL, wfArgs, List.all_cons, List.all_nil, rowOf_blk]; rfl)) rfl (by first|exact newB_O|rfl) rfl ?_|refine vr_calldU (hh) (gk rfl) rfl rfl rfl (by first|rfl|(simp only [wfRes, wfL, wfArgs, List.all_cons, List.all_nil, rowOf_blk]; rfl)) rfl (by first|exact newB_O|rfl) rfl ?_|refine vr_calldU (hfd) (gk rfl) rfl rfl rfl (by first|rfl|(simp only [wfRes, wfL, wfArgs, List.all_cons, List.all_nil, rowOf_blk]; rfl)) rfl (by first|exact newB_O|rfl) rfl ?_)|(refine gI ?_; first|refine vr_index_rd (gk rfl) rfl rfl rfl rfl rfl (by omega) rfl ?_))|(refine gO ?_; first|refine vr_nil ?_)|(refine gT ?_; first|refine q_then_n ?_|refine q_then_r ?_)|refine vc_seq ?_|refine vc_region ?_|(show VC _ (.cond _ _ _) _ _; first|refine vc_cond_t rfl ?_|refine vc_cond_f rfl ?_|refine x_know rfl (by assumption) ?_)|refine vc_ret ?_|refine vc_skip ?_)
  refine retL_of (le_gen0 (l := [(10, AD (nbs [])), (11, AI 15)]) (b := []) (fun n => n) ?_ ?_ rfl (by first|rfl|(simp only [wfL, List.all_cons, List.all_nil, rowOf_blk]; rfl))) (ret_d2 isRet_r rfl rfl rfl rfl)
  all_goals repeat' (first|exact trivial|refine ⟨⟨_, rfl, ?_⟩, ?_⟩|exact .c .d|exact .c .nil)
theorem hear_spec (l : List Nb) (t e k s : Int) : FnS Tryz.prog 51 [AD (nbs l), AI t, AI e, AI k, AI s] [] (.tup [AD (nbs (hearM l t e k s).1), AI (hearM l t e k s).2]) [] := by
  unfold hearM
  by_cases h : checkNb l = 0
  · rw [if_neg (by simp [h])]
    cases hr : heardB t e k s with
    | false =>
      rw [if_pos rfl]
      exact hear_range2 l t e k s h hr
    | true =>
      rw [if_neg (by simp)]
      by_cases hs : s < (hearX l t).slot
      · rw [if_pos hs]
        exact hear_late2 l t e k s h hr hs
      · rw [if_neg hs]
        cases hf : foundNb l t with
        | true => exact hear_known2 l t e k s h hr hs hf
        | false => exact hear_new2 l t e k s h hr hf
  · rw [if_pos h]
    exact hear_bad2 l t e k s h
end Go.Proofs.P
end
section
namespace Go.Proofs.P
open Go Go.Sx
set_option maxRecDepth 4000
attribute [local irreducible] VR VC thenQ blockQ retL
end Go.Proofs.P
end
