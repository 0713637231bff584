/-
  What functions of the given program hand back, by walks over its code, and plain laws on that. No condition.
-/
import Derived.Test.YtidijkcalgmadaaGreatSxLibB
import Derived.Test.YtidijkcalgmadaaGreatSxTtop
import Derived.Test.YtidijkcalgmadaaGreatSxLibC
set_option linter.unusedSimpArgs false
set_option linter.unusedVariables false
section
namespace Go.Proofs.P
open Go Go.Sx
set_option maxRecDepth 4000
attribute [local irreducible] VR VC thenQ blockQ
structure Nb where
  node : Int
  epoch : Int
  rank : Int
  slot : Int
  att : Int
  ack : Int
  deriving DecidableEq, Inhabited
def Nb.enc (x : Nb) : List D := [.int .i64 x.node, .int .i64 x.epoch, .int .i64 x.rank, .int .i64 x.slot, .int .i64 x.att, .int .i64 x.ack]
abbrev nbs (l : List Nb) : D := rdOf Nb.enc 6 l
def inR (n lo hi : Int) : Bool := decide (lo <= n /\ n <= hi)
theorem inR_t (n lo hi : Int) : (inR n lo hi = true) = (lo <= n /\ n <= hi) := by simp [inR]
theorem inR_f (n lo hi : Int) : (inR n lo hi = false) = ¬ (lo <= n /\ n <= hi) := by simp [inR]
theorem within_spec (n lo hi : Int) : FnS Tryz.prog 134 [AI n, AI lo, AI hi] [] (AB (inR n lo hi)) [] := by
  refine FnS.of_body (enters_of Tryz.func134 (by kernel_rfl) rfl) Tryz.func134 rfl Tryz.ntmps134 Tryz.results134 rfl rfl rfl rfl fun E hS => ?_
  repeat' (first | (show VR _ _ _ (_ :: _) _ _ _; first | refine x_opF rfl (by first | exact True.intro | omega) ?_ | (refine x_gsplit rfl ?_ ?_ <;> intro h <;> have hq := h <;> (try simp only [decide_eq_true_eq, decide_eq_false_iff_not, Int.not_lt, Int.not_le, ne_eq, Decidable.not_not, Bool.not_eq_true', Bool.not_eq_false'] at hq))) | (show VR _ _ _ [] _ _ _; first | refine vr_nil ?_) | (show thenQ _ _ _ _; first | refine q_then_n ?_) | refine vc_seq ?_ | refine vc_region ?_ | refine vc_ret ?_)
  all_goals refine ret_bool isRet_r rfl ?_
  all_goals simp_all [inR] <;> omega
def heardB (n e r s : Int) : Bool := inR n 0 31 && inR e 1 65535 && inR r 0 65534 && inR s 0 1099511627776
theorem heard_spec (n e r s : Int) : FnS Tryz.prog 129 [AI n, AI e, AI r, AI s] [] (AB (heardB n e r s)) [] := by
  refine FnS.of_body (enters_of Tryz.func129 (by kernel_rfl) rfl) Tryz.func129 rfl Tryz.ntmps129 Tryz.results129 rfl rfl rfl rfl fun E hS => ?_
  repeat' (first | (show VR _ _ _ (_ :: _) _ _ _; first | refine x_opF rfl (by first | exact True.intro | omega) ?_ | (show VR _ _ _ (⟨_, .call ⟨.value _, _, _⟩, _, _, _, _⟩ :: _) _ _ _; first | refine vr_calld (within_spec _ _ _) (gk rfl) rfl rfl rfl rfl rfl rfl ?_) | (refine x_gsplit rfl ?_ ?_ <;> intro h <;> have hq := h <;> (try simp only [decide_eq_true_eq, decide_eq_false_iff_not, Int.not_lt, Int.not_le, ne_eq, Decidable.not_not, Bool.not_eq_true', Bool.not_eq_false'] at hq))) | (show VR _ _ _ [] _ _ _; first | refine vr_nil ?_) | (show thenQ _ _ _ _; first | refine q_then_n ?_) | refine vc_seq ?_ | refine vc_region ?_ | refine vc_ret ?_)
  all_goals refine ret_bool isRet_r rfl ?_
  all_goals simp_all [heardB]
def nbErr (l : List Nb) (i : Nat) : Int :=
  let x := l.getD i default
  if heardB x.node x.epoch x.rank x.slot && inR x.att 0 255 && inR x.ack 0 x.att then
    if 0 < i /\ x.node <= (l.getD (i - 1) default).node then 5 else 0
  else 2
def checkNb (l : List Nb) : Int := if 32 < l.length then 8 else firstErr l.length (nbErr l)
theorem checkNb_hit {l : List Nb} {k : Nat} {e : Int} (h0 : l.length <= 32) (h : k <= l.length /\ ∀ i, i < k -> nbErr l i = 0) (hk : k < l.length) (he : nbErr l k = e) (hne : e ≠ 0) : e = checkNb l := by
  subst he
  rw [checkNb, if_neg (by omega), firstErr_hit h.2 hk hne]
theorem checkNb_none {l : List Nb} {k : Nat} (h0 : l.length <= 32) (h : k <= l.length /\ ∀ i, i < k -> nbErr l i = 0) (hk : l.length <= k) : (0 : Int) = checkNb l := by
  rw [checkNb, if_neg (by omega), firstErr_none fun i hi => h.2 i (by omega)]
theorem check_spec (l : List Nb) : FnS Tryz.prog 128 [AD (nbs l)] [] (AI (checkNb l)) [] := by
  refine FnS.of_body (enters_of Tryz.func128 (by kernel_rfl) rfl) Tryz.func128 rfl Tryz.ntmps128 Tryz.results128 rfl rfl rfl rfl fun E hS => ?_
  refine vc_bound (t := 0) rfl fun hb => ?_
  repeat' (first | (show VR _ _ _ (_ :: _) _ _ _; first | refine x_opF rfl (by first | exact True.intro | omega) ?_) | (show VR _ _ _ [] _ _ _; first | refine vr_nil ?_) | (show thenQ _ _ _ _; first | refine q_then_n ?_ | refine q_then_r ?_) | refine vc_seq ?_ | refine vc_region ?_ | (show VC _ (.cond _ _ _) _ _; first | (refine x_cond rfl ?_ ?_ <;> intro h <;> have hq := h <;> (try simp only [decide_eq_true_eq, decide_eq_false_iff_not, Int.not_lt, Int.not_le, ne_eq, Decidable.not_not, Bool.not_eq_true', Bool.not_eq_false'] at hq))) | refine vc_ret ?_ | refine vc_block ?_ | refine vc_skip ?_)
  · refine ret_int isRet_r rfl ?_
    simp [checkNb]; omega
  · refine vc_loopI (ι := Nat) (fun k => stOf [(0, AD (nbs l)), (8, AD (nbs l)), (9, AI l.length), (10, AI k)] []) (fun k => k <= l.length /\ ∀ i, i < k -> nbErr l i = 0) (fun k => l.length - k) 0 ⟨Nat.zero_le _, fun i hi => absurd hi (Nat.not_lt_zero _)⟩ ?_ ?_
    · exact le_of ⟨rfl, rfl, rfl, rfl, trivial⟩ trivial rfl
    · intro k hk
      repeat' (first | (show VR _ _ _ (_ :: _) _ _ _; first | refine x_opF rfl (by first | exact True.intro | omega) ?_ | (show VR _ _ _ (⟨_, .call ⟨.value _, _, _⟩, _, _, _, _⟩ :: _) _ _ _; first | refine vr_calld (heard_spec _ _ _ _) (gk rfl) rfl rfl rfl rfl rfl rfl ?_ | refine vr_calld (within_spec _ _ _) (gk rfl) rfl rfl rfl rfl rfl rfl ?_) | (show VR _ _ _ (⟨_, .indexAddr _ _ _, _, _, _, _⟩ :: _) _ _ _; first | refine vr_index_rd (gk rfl) rfl rfl rfl rfl rfl (by omega) rfl ?_ | refine vr_index_rdP (gk rfl) rfl rfl rfl rfl rfl (by omega) rfl ?_) | (refine x_gsplit rfl ?_ ?_ <;> intro h <;> have hq := h <;> (try simp only [decide_eq_true_eq, decide_eq_false_iff_not, Int.not_lt, Int.not_le, ne_eq, Decidable.not_not, Bool.not_eq_true', Bool.not_eq_false'] at hq))) | (show VR _ _ _ [] _ _ _; first | refine vr_nil ?_ | refine vr_nil_t (by kernel_rfl) ?_) | (show thenQ _ _ _ _; first | refine q_then_n ?_ | refine q_then_x ?_ | refine q_then_r ?_) | (show blockQ _ _ _ _; first | refine q_blk_n ?_ | refine q_blk_r ?_ | refine q_blk_x ?_) | refine vc_seq ?_ | refine vc_region ?_ | refine vc_region_t ?_ | (show VC _ (.cond _ _ _) _ _; first | refine vc_cond_t rfl ?_ | refine vc_cond_f rfl ?_ | (refine x_cond rfl ?_ ?_ <;> intro h <;> have hq := h <;> (try simp only [decide_eq_true_eq, decide_eq_false_iff_not, Int.not_lt, Int.not_le, ne_eq, Decidable.not_not, Bool.not_eq_true', Bool.not_eq_false'] at hq))) | refine vc_ret ?_ | refine vc_exit ?_ | refine vc_block ?_ | refine vc_skip ?_)
      all_goals first
        | (refine ret_int isRet_r rfl ?_
           first
           | exact (checkNb_none (by omega) hk (by omega)).symm
           | (refine (checkNb_hit (by omega) hk (by omega) ?_ (by decide)).symm; simp_all [nbErr]))
        | (refine ⟨k + 1, ⟨by omega, fun i hi => ?_⟩, by omega, le_of ⟨rfl, rfl, rfl, rfl, trivial⟩ trivial rfl⟩
           by_cases hik : i < k
           · exact hk.2 i hik
           · have : i = k := by omega
             subst this
             simp_all [nbErr])
        | trace_state
end Go.Proofs.P
end
section
namespace Go.Proofs.P
open Go Go.Sx
set_option maxRecDepth 4000
attribute [local irreducible] VR VC thenQ blockQ
structure Rk where
  node : Int
  epoch : Int
  parent : Int
  heard : Int
  rank : Int
  least : Int
  deriving DecidableEq, Inhabited
def Rk.cs (r : Rk) : List C := [.d (.int .i64 r.node), .d (.int .i64 r.epoch), .d (.int .i64 r.parent), .d (.int .i64 r.heard), .d (.int .i64 r.rank), .d (.int .i64 r.least)]
abbrev rkA (r : Rk) : AV := .agg r.cs
theorem rwithin_spec (n lo hi : Int) : FnS Tryz.prog 53 [AI n, AI lo, AI hi] [] (AB (inR n lo hi)) [] := by
  refine FnS.of_body (enters_of Tryz.func53 (by kernel_rfl) rfl) Tryz.func53 rfl Tryz.ntmps53 Tryz.results53 rfl rfl rfl rfl fun E hS => ?_
  repeat' (first | (show VR _ _ _ (_ :: _) _ _ _; first | refine x_opF rfl (by first | exact True.intro | omega) ?_ | (refine x_gsplit rfl ?_ ?_ <;> intro h <;> have hq := h <;> (try simp only [decide_eq_true_eq, decide_eq_false_iff_not, Int.not_lt, Int.not_le, ne_eq, Decidable.not_not, Bool.not_eq_true', Bool.not_eq_false'] at hq))) | (show VR _ _ _ [] _ _ _; first | refine vr_nil ?_) | (show thenQ _ _ _ _; first | refine q_then_n ?_) | refine vc_seq ?_ | refine vc_region ?_ | refine vc_ret ?_)
  all_goals refine ret_bool isRet_r rfl ?_
  all_goals simp_all [inR] <;> omega
def nodeB (n : Int) : Bool := inR n 0 31
theorem rnode_spec (n : Int) : FnS Tryz.prog 69 [AI n] [] (AB (nodeB n)) [] := by
  refine FnS.of_body (enters_of Tryz.func69 (by kernel_rfl) rfl) Tryz.func69 rfl Tryz.ntmps69 Tryz.results69 rfl rfl rfl rfl fun E hS => ?_
  repeat' (first | (show VR _ _ _ (_ :: _) _ _ _; first | refine x_opF rfl (by first | exact True.intro | omega) ?_ | (show VR _ _ _ (⟨_, .call ⟨.value _, _, _⟩, _, _, _, _⟩ :: _) _ _ _; first | refine vr_calld (rwithin_spec _ _ _) (gk rfl) rfl rfl rfl rfl rfl rfl ?_)) | (show VR _ _ _ [] _ _ _; first | refine vr_nil ?_) | (show thenQ _ _ _ _; first | refine q_then_n ?_) | refine vc_seq ?_ | refine vc_region ?_ | refine vc_ret ?_)
  all_goals exact ret_bool isRet_r rfl rfl
def advB (e r : Int) : Bool := inR e 1 65535 && inR r 0 65534
theorem adv_spec (e r : Int) : FnS Tryz.prog 200 [AI e, AI r] [] (AB (advB e r)) [] := by
  refine FnS.of_body (enters_of Tryz.func200 (by kernel_rfl) rfl) Tryz.func200 rfl Tryz.ntmps200 Tryz.results200 rfl rfl rfl rfl fun E hS => ?_
  repeat' (first | (show VR _ _ _ (_ :: _) _ _ _; first | refine x_opF rfl (by first | exact True.intro | omega) ?_ | (show VR _ _ _ (⟨_, .call ⟨.value _, _, _⟩, _, _, _, _⟩ :: _) _ _ _; first | refine vr_calld (rwithin_spec _ _ _) (gk rfl) rfl rfl rfl rfl rfl rfl ?_) | (refine x_gsplit rfl ?_ ?_ <;> intro h <;> have hq := h <;> (try simp only [decide_eq_true_eq, decide_eq_false_iff_not, Int.not_lt, Int.not_le, ne_eq, Decidable.not_not, Bool.not_eq_true', Bool.not_eq_false'] at hq))) | (show VR _ _ _ [] _ _ _; first | refine vr_nil ?_) | (show thenQ _ _ _ _; first | refine q_then_n ?_) | refine vc_seq ?_ | refine vc_region ?_ | refine vc_ret ?_)
  all_goals refine ret_bool isRet_r rfl ?_
  all_goals simp_all [advB]
def leastB (r : Rk) : Bool := inR r.least 1 65535 || (decide (r.node = 0) && decide (r.least = 0))
def rightB (r : Rk) : Bool :=
  if r.node = 0 then decide (1 <= r.epoch) && decide (r.parent = -1) && decide (r.heard = 0) && decide (r.rank = 0) && (decide (r.least = 0) || decide (r.least = 65535))
  else if r.parent = -1 then decide (r.heard = 65535) && decide (r.rank = 65535) && (decide (0 < r.epoch) || decide (r.least = 65535))
  else nodeB r.parent && decide (r.parent ≠ r.node) && decide (1 <= r.epoch) && decide (0 <= r.heard) && decide (r.heard < r.rank) && decide (r.heard < r.least) && decide (r.rank < 65535)
def rkErr (r : Rk) : Int := if nodeB r.node && inR r.epoch 0 65535 && leastB r then (if rightB r then 0 else 1) else 2
theorem rcheck_spec (r : Rk) : FnS Tryz.prog 133 [rkA r] [] (AI (rkErr r)) [] := by
  refine FnS.of_body (enters_of Tryz.func133 (by kernel_rfl) rfl) Tryz.func133 rfl Tryz.ntmps133 Tryz.results133 rfl rfl rfl rfl fun E hS => ?_
  refine vc_cut (stOf [(1, .c (.ptr 1 0)), (2, AI 0)] [(1, .box r.cs)]) ?_ ?_
  · repeat' (first | (show VR _ _ _ (_ :: _) _ _ _; first | refine x_opF rfl (by first | exact True.intro | omega) ?_) | (show VR _ _ _ [] _ _ _; first | refine vr_nil ?_) | (show thenQ _ _ _ _; first | refine q_then_n ?_) | refine vc_region ?_)
    show Le _ _ _
    exact le_of ⟨rfl, rfl, trivial⟩ ⟨rfl, trivial⟩ rfl
  refine vc_cut (stOf [(1, .c (.ptr 1 0)), (2, AI 0), (3, AB (leastB r))] [(1, .box r.cs)]) ?_ ?_
  · repeat' (first | (show VR _ _ _ (_ :: _) _ _ _; first | refine x_opF rfl (by first | exact True.intro | omega) ?_ | (show VR _ _ _ (⟨_, .call ⟨.value _, _, _⟩, _, _, _, _⟩ :: _) _ _ _; first | refine vr_calld (rwithin_spec _ _ _) (gk rfl) rfl rfl rfl rfl rfl rfl ?_) | (refine x_gsplit rfl ?_ ?_ <;> intro h <;> have hq := h <;> (try simp only [decide_eq_true_eq, decide_eq_false_iff_not, Int.not_lt, Int.not_le, ne_eq, Decidable.not_not, Bool.not_eq_true', Bool.not_eq_false'] at hq))) | (show VR _ _ _ [] _ _ _; first | refine vr_nil ?_) | (show thenQ _ _ _ _; first | refine q_then_n ?_) | refine vc_region ?_)
    all_goals show Le _ _ _
    all_goals refine le_of ⟨rfl, rfl, ab_eq ?_ rfl, trivial⟩ ⟨rfl, trivial⟩ rfl
    all_goals simp_all [leastB]
  repeat' (first | (show VR _ _ _ (_ :: _) _ _ _; first | refine x_opF rfl (by first | exact True.intro | omega) ?_ | (show VR _ _ _ (⟨_, .call ⟨.value _, _, _⟩, _, _, _, _⟩ :: _) _ _ _; first | refine vr_calld (rwithin_spec _ _ _) (gk rfl) rfl rfl rfl rfl rfl rfl ?_ | refine vr_calld (rnode_spec _) (gk rfl) rfl rfl rfl rfl rfl rfl ?_) | (refine x_gsplit rfl ?_ ?_ <;> intro h <;> have hq := h <;> (try simp only [decide_eq_true_eq, decide_eq_false_iff_not, Int.not_lt, Int.not_le, ne_eq, Decidable.not_not, Bool.not_eq_true', Bool.not_eq_false'] at hq))) | (show VR _ _ _ [] _ _ _; first | refine vr_nil ?_) | (show thenQ _ _ _ _; first | refine q_then_n ?_ | refine q_then_r ?_) | (show VC _ (.seq (.region _ _ _) _) _ _; refine vc_seq ?_) | (show VC _ (.seq (.seq (.region _ _ _) (.cond _ _ _)) _) _ _; refine vc_seq ?_) | refine vc_region ?_ | (show VC _ (.cond _ _ _) _ _; first | refine vc_cond_t rfl ?_ | (refine x_cond rfl ?_ ?_ <;> intro h <;> have hq := h <;> (try simp only [decide_eq_true_eq, decide_eq_false_iff_not, Int.not_lt, Int.not_le, ne_eq, Decidable.not_not, Bool.not_eq_true', Bool.not_eq_false'] at hq))) | refine vc_ret ?_ | refine vc_skip ?_)
  all_goals first
    | (refine ret_int isRet_r rfl ?_; simp_all [rkErr]) | refine vc_cut (stOf [(1, .c (.ptr 1 0)), (2, AI 0), (4, AB (rightB r))] [(1, .box r.cs)]) ?_ ?_
  · repeat' (first | (show VR _ _ _ (_ :: _) _ _ _; first | refine x_opF rfl (by first | exact True.intro | omega) ?_ | (show VR _ _ _ (⟨_, .call ⟨.value _, _, _⟩, _, _, _, _⟩ :: _) _ _ _; first | refine vr_calld (rnode_spec _) (gk rfl) rfl rfl rfl rfl rfl rfl ?_) | (refine x_gsplit rfl ?_ ?_ <;> intro h <;> have hq := h <;> (try simp only [decide_eq_true_eq, decide_eq_false_iff_not, Int.not_lt, Int.not_le, ne_eq, Decidable.not_not, Bool.not_eq_true', Bool.not_eq_false'] at hq))) | (show VR _ _ _ [] _ _ _; first | refine vr_nil ?_) | (show thenQ _ _ _ _; first | refine q_then_n ?_) | (show blockQ _ _ _ _; first | refine q_blk_n ?_) | refine vc_seq ?_ | refine vc_region ?_ | (show VC _ (.cond _ _ _) _ _; first | (refine x_cond rfl ?_ ?_ <;> intro h <;> have hq := h <;> (try simp only [decide_eq_true_eq, decide_eq_false_iff_not, Int.not_lt, Int.not_le, ne_eq, Decidable.not_not, Bool.not_eq_true', Bool.not_eq_false'] at hq))) | refine vc_block ?_)
    all_goals show Le _ _ _
    all_goals refine le_of ⟨rfl, rfl, ab_eq ?_ rfl, trivial⟩ ⟨rfl, trivial⟩ rfl
    all_goals simp_all [rightB] <;> omega
  · repeat' (first | (show VR _ _ _ (_ :: _) _ _ _; first | refine x_opF rfl (by first | exact True.intro | omega) ?_) | (show VR _ _ _ [] _ _ _; first | refine vr_nil ?_) | (show thenQ _ _ _ _; first | refine q_then_n ?_ | refine q_then_r ?_) | refine vc_seq ?_ | refine vc_region ?_ | (show VC _ (.cond _ _ _) _ _; first | (refine x_cond rfl ?_ ?_ <;> intro h <;> have hq := h <;> (try simp only [decide_eq_true_eq, decide_eq_false_iff_not, Int.not_lt, Int.not_le, ne_eq, Decidable.not_not, Bool.not_eq_true', Bool.not_eq_false'] at hq))) | refine vc_ret ?_ | refine vc_skip ?_)
    all_goals refine ret_int isRet_r rfl ?_
    all_goals simp_all [rkErr]
def feasB (r : Rk) (e k : Int) : Bool := decide (rkErr r = 0) && decide (r.node ≠ 0) && advB e k && (decide (r.epoch < e) || (decide (e = r.epoch) && decide (k < r.least)))
theorem feas_spec (r : Rk) (e k : Int) : FnS Tryz.prog 201 [rkA r, AI e, AI k] [] (AB (feasB r e k)) [] := by
  refine FnS.of_body (enters_of Tryz.func201 (by kernel_rfl) rfl) Tryz.func201 rfl Tryz.ntmps201 Tryz.results201 rfl rfl rfl rfl fun E hS => ?_
  repeat' (first | (show VR _ _ _ (_ :: _) _ _ _; first | refine x_opF rfl (by first | exact True.intro | omega) ?_ | (show VR _ _ _ (⟨_, .call ⟨.value _, _, _⟩, _, _, _, _⟩ :: _) _ _ _; first | refine vr_calld (rcheck_spec r) (gk rfl) rfl rfl rfl rfl rfl rfl ?_ | refine vr_calld (adv_spec _ _) (gk rfl) rfl rfl rfl rfl rfl rfl ?_) | (refine x_gsplit rfl ?_ ?_ <;> intro h <;> have hq := h <;> (try simp only [decide_eq_true_eq, decide_eq_false_iff_not, Int.not_lt, Int.not_le, ne_eq, Decidable.not_not, Bool.not_eq_true', Bool.not_eq_false'] at hq))) | (show VR _ _ _ [] _ _ _; first | refine vr_nil ?_) | (show thenQ _ _ _ _; first | refine q_then_n ?_ | refine q_then_r ?_) | refine vc_seq ?_ | refine vc_region ?_ | (show VC _ (.cond _ _ _) _ _; first | refine vc_cond_t rfl ?_ | (refine x_cond rfl ?_ ?_ <;> intro h <;> have hq := h <;> (try simp only [decide_eq_true_eq, decide_eq_false_iff_not, Int.not_lt, Int.not_le, ne_eq, Decidable.not_not, Bool.not_eq_true', Bool.not_eq_false'] at hq))) | refine vc_ret ?_ | refine vc_skip ?_)
  all_goals try refine ret_bool isRet_r rfl ?_
  all_goals simp_all [feasB]
def begin' (r : Rk) (e : Int) : Rk := if r.epoch < e then { r with epoch := e, least := 65535 } else r
theorem ret_agg1 {P : Program} {σ : St} {t nm : Nat} {T : TypeId} {ti : TyI} {cs cs' : List C} {e : Exit} (he : e = .normal \/ e = .ret) [ht : TyOK P T ti] (hx : σ (.s t) = some (.v (.c (.ptr nm 0)))) (hb : σ (.b nm) = some (.k (.box cs'))) (hagg : ti.isAgg = true)
    (hl : (cs'.take ti.size).length = ti.size) (h : cs = cs'.take ti.size) : retQ P [.cell t T] (.agg cs) [] e σ :=
  ⟨he, [.agg ((cs'.drop 0).take ti.size)], .agg hx hb hagg hl .nil, by rw [h]; rfl, fun p hp => by cases hp⟩
theorem begin_spec (r : Rk) (e : Int) : FnS Tryz.prog 154 [rkA r, AI e] [] (rkA (begin' r e)) [] := by
  refine FnS.of_body (enters_of Tryz.func154 (by kernel_rfl) rfl) Tryz.func154 rfl Tryz.ntmps154 Tryz.results154 rfl rfl rfl rfl fun E hS => ?_
  repeat' (first | (show VR _ _ _ (_ :: _) _ _ _; first | refine x_opF rfl (by first | exact True.intro | omega) ?_) | (show VR _ _ _ [] _ _ _; first | refine vr_nil ?_) | (show thenQ _ _ _ _; first | refine q_then_n ?_) | refine vc_seq ?_ | refine vc_region ?_ | (show VC _ (.cond _ _ _) _ _; first | (refine x_cond rfl ?_ ?_ <;> intro h <;> have hq := h <;> (try simp only [decide_eq_true_eq, decide_eq_false_iff_not, Int.not_lt, Int.not_le, ne_eq, Decidable.not_not, Bool.not_eq_true', Bool.not_eq_false'] at hq))) | refine vc_ret ?_ | refine vc_skip ?_)
  all_goals refine ret_agg1 isRet_r rfl rfl rfl rfl ?_
  all_goals unfold begin'
  all_goals split
  all_goals first | rfl | (exfalso; omega)
def lose' (r : Rk) : Rk := if rkErr r = 0 /\ r.node ≠ 0 then { r with parent := -1, heard := 65535, rank := 65535 } else r
theorem lose_spec (r : Rk) : FnS Tryz.prog 137 [rkA r] [] (rkA (lose' r)) [] := by
  refine FnS.of_body (enters_of Tryz.func137 (by kernel_rfl) rfl) Tryz.func137 rfl Tryz.ntmps137 Tryz.results137 rfl rfl rfl rfl fun E hS => ?_
  repeat' (first | (show VR _ _ _ (_ :: _) _ _ _; first | refine x_opF rfl (by first | exact True.intro | omega) ?_ | (show VR _ _ _ (⟨_, .call ⟨.value _, _, _⟩, _, _, _, _⟩ :: _) _ _ _; first | refine vr_calld (rcheck_spec r) (gk rfl) rfl rfl rfl rfl rfl rfl ?_) | (refine x_gsplit rfl ?_ ?_ <;> intro h <;> have hq := h <;> (try simp only [decide_eq_true_eq, decide_eq_false_iff_not, Int.not_lt, Int.not_le, ne_eq, Decidable.not_not, Bool.not_eq_true', Bool.not_eq_false'] at hq))) | (show VR _ _ _ [] _ _ _; first | refine vr_nil ?_) | (show thenQ _ _ _ _; first | refine q_then_n ?_) | refine vc_seq ?_ | refine vc_region ?_ | (show VC _ (.cond _ _ _) _ _; first | refine vc_cond_f rfl ?_ | (refine x_cond rfl ?_ ?_ <;> intro h <;> have hq := h <;> (try simp only [decide_eq_true_eq, decide_eq_false_iff_not, Int.not_lt, Int.not_le, ne_eq, Decidable.not_not, Bool.not_eq_true', Bool.not_eq_false'] at hq))) | refine vc_ret ?_ | refine vc_skip ?_)
  all_goals refine ret_agg1 isRet_r rfl rfl rfl rfl ?_
  all_goals unfold lose'
  all_goals split
  all_goals first | rfl | (exfalso; simp_all; done)
def rkZ : Rk := ⟨0, 0, 0, 0, 0, 0⟩
theorem ret_agg_d {P : Program} {σ : St} {t u nm : Nat} {T : TypeId} {ti : TyI} {cs cs' : List C} {x x' : D} {e : Exit} (he : e = .normal \/ e = .ret) [ht : TyOK P T ti] (hx : σ (.s t) = some (.v (.c (.ptr nm 0)))) (hb : σ (.b nm) = some (.k (.box cs'))) (hagg : ti.isAgg = true)
    (hl : (cs'.take ti.size).length = ti.size) (hu : σ (.s u) = some (.v (AD x'))) (h : cs = cs'.take ti.size) (h2 : x = x') : retQ P [.cell t T, .tmp u] (.tup [.agg cs, AD x]) [] e σ :=
  ⟨he, [.agg ((cs'.drop 0).take ti.size), AD x'], .agg hx hb hagg hl (.tmp rfl hu .nil), by rw [h, h2]; rfl, fun p hp => by cases hp⟩
def adopt' (r : Rk) (fr e k c : Int) : Rk × Int :=
  if rkErr r ≠ 0 then (rkZ, 1)
  else if (nodeB fr && decide (fr ≠ r.node) && advB e k && inR c 1 1023) = false then (rkZ, 2)
  else if feasB r e k = false then (rkZ, 12)
  else if 65535 <= k + c then (rkZ, 21)
  else ({ begin' r e with parent := fr, heard := k, rank := k + c }, 0)
theorem advB_t (e k : Int) : (advB e k = true) = ((1 <= e /\ e <= 65535) /\ 0 <= k /\ k <= 65534) := by simp [advB, inR]
theorem advB_f (e k : Int) : (advB e k = false) = ¬ ((1 <= e /\ e <= 65535) /\ 0 <= k /\ k <= 65534) := by rw [<- advB_t]; simp
end Go.Proofs.P
end
section
namespace Go.Proofs.P
open Go Go.Sx
set_option maxRecDepth 4000
attribute [local irreducible] VR VC thenQ blockQ
theorem adopt_spec (r : Rk) (fr e k c : Int) : FnS Tryz.prog 140 [rkA r, AI fr, AI e, AI k, AI c] [] (.tup [rkA (adopt' r fr e k c).1, AI (adopt' r fr e k c).2]) [] := by
  refine FnS.of_body (enters_of Tryz.func140 (by kernel_rfl) rfl) Tryz.func140 rfl Tryz.ntmps140 Tryz.results140 rfl rfl rfl rfl fun E hS => ?_
  repeat' (first | (show VR _ _ _ (_ :: _) _ _ _; first | refine x_opF rfl (by first | exact True.intro | omega) ?_ | (show VR _ _ _ (⟨_, .call ⟨.value _, _, _⟩, _, _, _, _⟩ :: _) _ _ _; first | refine vr_calld (rcheck_spec r) (gk rfl) rfl rfl rfl rfl rfl rfl ?_ | refine vr_calld (rnode_spec _) (gk rfl) rfl rfl rfl rfl rfl rfl ?_ | refine vr_calld (adv_spec _ _) (gk rfl) rfl rfl rfl rfl rfl rfl ?_ | refine vr_calld (rwithin_spec _ _ _) (gk rfl) rfl rfl rfl rfl rfl rfl ?_ | refine vr_calld (feas_spec r _ _) (gk rfl) rfl rfl rfl rfl rfl rfl ?_ | refine vr_calld (begin_spec r _) (gk rfl) rfl rfl rfl rfl rfl rfl ?_) | (refine x_gsplit rfl ?_ ?_ <;> intro h <;> have hq := h <;> (try simp only [decide_eq_true_eq, decide_eq_false_iff_not, Int.not_lt, Int.not_le, ne_eq, Decidable.not_not, Bool.not_eq_true', Bool.not_eq_false', inR_t, inR_f, advB_t, advB_f] at hq))) | (show VR _ _ _ [] _ _ _; first | refine vr_nil ?_) | (show thenQ _ _ _ _; first | refine q_then_n ?_ | refine q_then_r ?_) | (show blockQ _ _ _ _; first | refine q_blk_n ?_ | refine q_blk_r ?_) | refine vc_seq ?_ | refine vc_region ?_ | (show VC _ (.cond _ _ _) _ _; first | refine vc_cond_t rfl ?_ | (refine x_cond rfl ?_ ?_ <;> intro h <;> have hq := h <;> (try simp only [decide_eq_true_eq, decide_eq_false_iff_not, Int.not_lt, Int.not_le, ne_eq, Decidable.not_not, Bool.not_eq_true', Bool.not_eq_false', inR_t, inR_f, advB_t, advB_f] at hq))) | refine vc_ret ?_ | refine vc_block ?_ | refine vc_skip ?_)
  all_goals try refine ret_agg_d isRet_r rfl rfl rfl rfl rfl ?_ ?_
  all_goals try refine ret_agg_d isRet_r rfl rfl rfl rfl rfl ?_ ?_
  all_goals unfold adopt'
  all_goals repeat' split
  all_goals first | rfl | (exfalso; simp_all; done) | (exfalso; omega) | trace_state
def update' (r : Rk) (e k c : Int) : Rk × Int :=
  if rkErr r ≠ 0 then (rkZ, 1)
  else if (advB e k && inR c 1 1023) = false then (rkZ, 2)
  else if r.parent = -1 then (rkZ, 12)
  else if e < r.epoch then (r, 0)
  else if (adopt' r r.parent e k c).2 = 0 then ((adopt' r r.parent e k c).1, 0)
  else (lose' (begin' r e), 0)
theorem update_spec (r : Rk) (e k c : Int) : FnS Tryz.prog 135 [rkA r, AI e, AI k, AI c] [] (.tup [rkA (update' r e k c).1, AI (update' r e k c).2]) [] := by
  refine FnS.of_body (enters_of Tryz.func135 (by kernel_rfl) rfl) Tryz.func135 rfl Tryz.ntmps135 Tryz.results135 rfl rfl rfl rfl fun E hS => ?_
  repeat' (first | (show VR _ _ _ (_ :: _) _ _ _; first | refine x_opF rfl (by first | exact True.intro | omega) ?_ | (show VR _ _ _ (⟨_, .call ⟨.value _, _, _⟩, _, _, _, _⟩ :: _) _ _ _; first | refine vr_calld (rcheck_spec r) (gk rfl) rfl rfl rfl rfl rfl rfl ?_ | refine vr_calld (adv_spec _ _) (gk rfl) rfl rfl rfl rfl rfl rfl ?_ | refine vr_calld (rwithin_spec _ _ _) (gk rfl) rfl rfl rfl rfl rfl rfl ?_ | refine vr_calld (adopt_spec r _ _ _ _) (gk rfl) rfl rfl rfl rfl rfl rfl ?_ | refine vr_calld (begin_spec r _) (gk rfl) rfl rfl rfl rfl rfl rfl ?_ | refine vr_calld (lose_spec (begin' r e)) (gk rfl) rfl rfl rfl rfl rfl rfl ?_) | (refine x_gsplit rfl ?_ ?_ <;> intro h <;> have hq := h <;> (try simp only [decide_eq_true_eq, decide_eq_false_iff_not, Int.not_lt, Int.not_le, ne_eq, Decidable.not_not, Bool.not_eq_true', Bool.not_eq_false', inR_t, inR_f, advB_t, advB_f] at hq))) | (show VR _ _ _ [] _ _ _; first | refine vr_nil ?_) | (show thenQ _ _ _ _; first | refine q_then_n ?_ | refine q_then_r ?_) | (show blockQ _ _ _ _; first | refine q_blk_n ?_ | refine q_blk_r ?_) | refine vc_seq ?_ | refine vc_region ?_ | (show VC _ (.cond _ _ _) _ _; first | refine vc_cond_t rfl ?_ | (refine x_cond rfl ?_ ?_ <;> intro h <;> have hq := h <;> (try simp only [decide_eq_true_eq, decide_eq_false_iff_not, Int.not_lt, Int.not_le, ne_eq, Decidable.not_not, Bool.not_eq_true', Bool.not_eq_false', inR_t, inR_f, advB_t, advB_f] at hq))) | refine vc_ret ?_ | refine vc_block ?_ | refine vc_skip ?_)
  all_goals try refine ret_agg_d isRet_r rfl rfl rfl rfl rfl ?_ ?_
  all_goals unfold update'
  all_goals repeat' split
  all_goals first | rfl | (exfalso; simp_all; done) | (exfalso; omega) | trace_state
def costC (a k : Int) : Int :=
  if a < 0 \/ k < 0 \/ a < k then 0 else if a < 4 then 256 else if k = 0 then 1023 else min ((128 * a + k - 1) / k) 1023
theorem cost_spec (a k : Int) (h : a <= 2147483648) : FnS Tryz.prog 136 [.agg [.d (.int .i64 a), .d (.int .i64 k)]] [] (AI (costC a k)) [] := by
  refine FnS.of_body (enters_of Tryz.func136 (by kernel_rfl) rfl) Tryz.func136 rfl Tryz.ntmps136 Tryz.results136 rfl rfl rfl rfl fun E hS => ?_
  repeat' (first | (show VR _ _ _ (_ :: _) _ _ _; first | refine x_opF rfl (by first | exact True.intro | omega) ?_ | (refine x_gsplit rfl ?_ ?_ <;> intro h <;> have hq := h <;> (try simp only [decide_eq_true_eq, decide_eq_false_iff_not, Int.not_lt, Int.not_le, ne_eq, Decidable.not_not, Bool.not_eq_true', Bool.not_eq_false'] at hq))) | (show VR _ _ _ [] _ _ _; first | refine vr_nil ?_) | (show thenQ _ _ _ _; first | refine q_then_n ?_ | refine q_then_r ?_) | (show blockQ _ _ _ _; first | refine q_blk_n ?_ | refine q_blk_r ?_) | refine vc_seq ?_ | refine vc_region ?_ | (show VC _ (.cond _ _ _) _ _; first | refine vc_cond_t rfl ?_ | (refine x_cond rfl ?_ ?_ <;> intro h <;> have hq := h <;> (try simp only [decide_eq_true_eq, decide_eq_false_iff_not, Int.not_lt, Int.not_le, ne_eq, Decidable.not_not, Bool.not_eq_true', Bool.not_eq_false'] at hq))) | refine vc_ret ?_ | refine vc_block ?_ | refine vc_skip ?_)
  all_goals refine ret_int isRet_r rfl ?_
  all_goals unfold costC
  all_goals repeat' split
  all_goals first | rfl | (exfalso; simp_all; done) | (exfalso; omega) | trace_state
def cmpI (a b : Int) : Int := if a < b then -1 else if b < a then 1 else 0
theorem isNaN_spec (a : Int) : FnS Tryz.prog 178 [AI a] [] (AB false) [] := by
  refine FnS.of_body (enters_of Tryz.func178 (by kernel_rfl) rfl) Tryz.func178 rfl Tryz.ntmps178 Tryz.results178 rfl rfl rfl rfl fun E hS => ?_
  repeat' (first | (show VR _ _ _ (_ :: _) _ _ _; first | refine x_opF rfl (by first | exact True.intro | omega) ?_) | (show VR _ _ _ [] _ _ _; first | refine vr_nil ?_) | (show thenQ _ _ _ _; first | refine q_then_n ?_) | refine vc_seq ?_ | refine vc_region ?_ | refine vc_ret ?_)
  all_goals exact ret_bool isRet_r rfl (by simp)
theorem cmp_spec (a b : Int) : FnS Tryz.prog 119 [AI a, AI b] [] (AI (cmpI a b)) [] := by
  refine FnS.of_body (enters_of Tryz.func119 (by kernel_rfl) rfl) Tryz.func119 rfl Tryz.ntmps119 Tryz.results119 rfl rfl rfl rfl fun E hS => ?_
  repeat' (first | (show VR _ _ _ (_ :: _) _ _ _; first | refine x_opF rfl (by first | exact True.intro | omega) ?_ | (show VR _ _ _ (⟨_, .call ⟨.value _, _, _⟩, _, _, _, _⟩ :: _) _ _ _; first | refine vr_calld (isNaN_spec _) (gk rfl) rfl rfl rfl rfl rfl rfl ?_)) | (show VR _ _ _ [] _ _ _; first | refine vr_nil ?_) | (show thenQ _ _ _ _; first | refine q_then_n ?_ | refine q_then_r ?_) | refine vc_seq ?_ | refine vc_region ?_ | (show VC _ (.cond _ _ _) _ _; first | refine vc_cond_f rfl ?_ | (refine x_cond rfl ?_ ?_ <;> intro h <;> have hq := h <;> (try simp only [decide_eq_true_eq, decide_eq_false_iff_not, Int.not_lt, Int.not_le, ne_eq, Decidable.not_not, Bool.not_eq_true', Bool.not_eq_false'] at hq))) | refine vc_ret ?_ | refine vc_skip ?_)
  all_goals refine ret_int isRet_r rfl ?_
  all_goals unfold cmpI
  all_goals repeat' split
  all_goals first | rfl | (exfalso; simp_all; done) | (exfalso; omega) | trace_state
def orI : List Int -> Int
  | [] => 0
  | x :: l => if x ≠ 0 then x else orI l
abbrev ints (l : List Int) : D := rdOf (fun x => [.int .i64 x]) 1 l
theorem orI_at : ∀ (l : List Int) (k : Nat), (∀ i, i < k -> l.getD i 0 = 0) -> k <= l.length -> orI l = orI (l.drop k)
  | l, 0, _, _ => rfl
  | [], k + 1, _, h => absurd h (by simp)
  | x :: l, k + 1, h, hk => by
    have h0 : x = 0 := h 0 (by omega)
    rw [List.drop_succ_cons, <- orI_at l k (fun i hi => h (i + 1) (by omega)) (by simpa using hk)]
    simp [orI, h0]
theorem or_spec (l : List Int) : FnS Tryz.prog 158 [AD (ints l)] [] (AI (orI l)) [] := by
  refine FnS.of_body (enters_of Tryz.func158 (by kernel_rfl) rfl) Tryz.func158 rfl Tryz.ntmps158 Tryz.results158 rfl rfl rfl rfl fun E hS => ?_
  refine vc_bound (t := 0) rfl fun hb => ?_
  repeat' (first | (show VR _ _ _ (_ :: _) _ _ _; first | refine x_opF rfl (by first | exact True.intro | omega) ?_) | (show VR _ _ _ [] _ _ _; first | refine vr_nil ?_) | (show thenQ _ _ _ _; first | refine q_then_n ?_) | refine vc_seq ?_ | refine vc_region ?_ | refine vc_block ?_)
  refine vc_loopI (ι := Nat) (fun k => stOf [(3, AI 0), (6, AD (ints l)), (7, AI l.length), (8, AI k)] []) (fun k => k <= l.length /\ ∀ i, i < k -> l.getD i 0 = 0) (fun k => l.length - k) 0 ⟨Nat.zero_le _, fun i hi => absurd hi (Nat.not_lt_zero _)⟩ ?_ ?_
  · exact le_of ⟨rfl, rfl, rfl, rfl, trivial⟩ trivial rfl
  · intro k hk
    repeat' (first | (show VR _ _ _ (_ :: _) _ _ _; first | refine x_opF rfl (by first | exact True.intro | omega) ?_ | (show VR _ _ _ (⟨_, .indexAddr _ _ _, _, _, _, _⟩ :: _) _ _ _; first | refine vr_index_rd (gk rfl) rfl rfl rfl rfl rfl (by omega) rfl ?_)) | (show VR _ _ _ [] _ _ _; first | refine vr_nil ?_) | (show thenQ _ _ _ _; first | refine q_then_n ?_ | refine q_then_x ?_ | refine q_then_r ?_) | (show blockQ _ _ _ _; first | refine q_blk_n ?_ | refine q_blk_r ?_ | refine q_blk_x ?_) | refine vc_seq ?_ | refine vc_region ?_ | (show VC _ (.cond _ _ _) _ _; first | (refine x_cond rfl ?_ ?_ <;> intro h <;> have hq := h <;> (try simp only [decide_eq_true_eq, decide_eq_false_iff_not, Int.not_lt, Int.not_le, ne_eq, Decidable.not_not, Bool.not_eq_true', Bool.not_eq_false'] at hq))) | refine vc_ret ?_ | refine vc_exit ?_ | refine vc_block ?_ | refine vc_skip ?_)
    · refine ret_int isRet_r rfl ?_
      rw [orI_at l k hk.2 hk.1, List.drop_eq_getElem_cons (by omega), orI, if_pos]
      · simp [List.getD_eq_getElem?_getD]; rw [List.getElem?_eq_getElem (by omega)]; rfl
      · rw [List.getD_eq_getElem?_getD, List.getElem?_eq_getElem (by omega)] at hq; exact hq
    · refine ⟨k + 1, ⟨by omega, fun i hi => ?_⟩, by omega, le_of ⟨rfl, rfl, rfl, rfl, trivial⟩ trivial rfl⟩
      by_cases hik : i < k
      · exact hk.2 i hik
      · have : i = k := by omega
        subst this
        exact hq
    · refine ret_int isRet_r rfl ?_
      rw [orI_at l k hk.2 hk.1, List.drop_of_length_le (by omega)]; rfl
end Go.Proofs.P
end
section
namespace Go.Proofs.P
open Go Go.Sx
set_option maxRecDepth 4000
attribute [local irreducible] VR VC thenQ blockQ
def Nb.cs (x : Nb) : List C := [.d (.int .i64 x.node), .d (.int .i64 x.epoch), .d (.int .i64 x.rank), .d (.int .i64 x.slot), .d (.int .i64 x.att), .d (.int .i64 x.ack)]
abbrev nbA (x : Nb) : AV := .agg x.cs
theorem find1_spec (x : Nb) (t : Int) : FnS Tryz.prog 197 [nbA x, AI t] [] (AI (cmpI x.node t)) [] := by
  refine FnS.of_body (enters_of Tryz.func197 (by kernel_rfl) rfl) Tryz.func197 rfl Tryz.ntmps197 Tryz.results197 rfl rfl rfl rfl fun E hS => ?_
  repeat' (first | (show VR _ _ _ (_ :: _) _ _ _; first | refine x_opF rfl (by first | exact True.intro | omega) ?_ | (show VR _ _ _ (⟨_, .call ⟨.value _, _, _⟩, _, _, _, _⟩ :: _) _ _ _; first | refine vr_calld (cmp_spec _ _) (gk rfl) rfl rfl rfl rfl rfl rfl ?_)) | (show VR _ _ _ [] _ _ _; first | refine vr_nil ?_) | (show thenQ _ _ _ _; first | refine q_then_n ?_) | refine vc_seq ?_ | refine vc_region ?_ | refine vc_ret ?_)
  all_goals exact ret_int isRet_r rfl rfl
def bs (f : Nat -> Bool) (i j : Nat) : Nat := if i < j then (if f ((i + j) / 2) then bs f ((i + j) / 2 + 1) j else bs f i ((i + j) / 2)) else i
termination_by j - i
decreasing_by all_goals omega
def nbCmp (t : Int) (x : Nb) : Int := cmpI x.node t
def bsNb (l : List Nb) (t : Int) : Nat := bs (fun i => decide (nbCmp t (l.getD i default) < 0)) 0 l.length
theorem bs_le (f : Nat -> Bool) (i j : Nat) (h : i <= j) : bs f i j <= j := by
  fun_induction bs f i j with
  | case1 i j hij hf ih => exact ih (by omega)
  | case2 i j hij hf ih => exact Nat.le_trans (ih (by omega)) (by omega)
  | case3 => exact h
def foundNb (l : List Nb) (t : Int) : Bool := decide (bsNb l t < l.length) && decide (nbCmp t (l.getD (bsNb l t) default) = 0)
abbrev findφ : List DV -> DV -> Prop := fun ds r => ∃ (x : Nb) (t : Int), ds = [.agg x.enc, .d (.int .i64 t)] /\ r = .d (.int .i64 (cmpI x.node t))
theorem search_spec (l : List Nb) (t : Int) (hl : l.length <= 1000000) : FnS Tryz.prog 196 [AD (nbs l), AI t, .clo findφ] [] (.tup [AI (bsNb l t), AB (foundNb l t)]) [] := by
  refine FnS.of_body (enters_of Tryz.func196 (by kernel_rfl) rfl) Tryz.func196 rfl Tryz.ntmps196 Tryz.results196 rfl rfl rfl rfl fun E hS => ?_
  repeat' (first | (show VR _ _ _ (_ :: _) _ _ _; first | refine x_opF rfl (by first | exact True.intro | omega) ?_) | (show VR _ _ _ [] _ _ _; first | refine vr_nil ?_) | (show thenQ _ _ _ _; first | refine q_then_n ?_) | refine vc_seq ?_ | refine vc_region ?_ | refine vc_block ?_)
  refine vc_loopI (ι := Nat × Nat) (fun p => stOf [(0, AD (nbs l)), (1, AI t), (2, .clo findφ), (8, AI l.length), (9, AI p.1), (10, AI p.2)] [])
    (fun p => p.1 <= p.2 /\ p.2 <= l.length /\ bs (fun i => decide (nbCmp t (l.getD i default) < 0)) p.1 p.2 = bsNb l t) (fun p => p.2 - p.1) (0, l.length) ⟨Nat.zero_le _, Nat.le_refl _, rfl⟩ ?_ ?_
  · exact le_of ⟨rfl, rfl, rfl, rfl, rfl, rfl, trivial⟩ trivial rfl
  · rintro ⟨i, j⟩ ⟨h1, h2, h3⟩
    dsimp only at h1 h2 h3 ⊢
    repeat' (first | (show VR _ _ _ (_ :: _) _ _ _; first | refine x_opF rfl (by first | exact True.intro | omega) ?_ | (show VR _ _ _ (⟨_, .call ⟨.value _, _, _⟩, _, _, _, _⟩ :: _) _ _ _; first | refine vr_clo (⟨_, _, rfl, rfl⟩) (gk rfl) rfl rfl rfl rfl ?_) | (show VR _ _ _ (⟨_, .indexAddr _ _ _, _, _, _, _⟩ :: _) _ _ _; first | refine vr_index_rd (gk rfl) rfl rfl rfl rfl rfl (by omega) rfl ?_ | refine vr_index_rdN (gk rfl) rfl rfl rfl rfl (by first | omega | decide) rfl ?_) | (show VR _ _ _ (⟨_, .convert _ _ _, _, _, _, _⟩ :: _) _ _ _; first | refine vr_convert_id (gk rfl) rfl ⟨_, rfl⟩ rfl (by first | exact wrap_i64 (by omega) | exact wrap_u64 (by omega) | exact wrap_u16 (by omega) | exact wrap_u8 (by omega) | exact wrap_u32 (by omega)) rfl ?_) | (show VR _ _ _ (⟨_, .binOp _ _ _ _ _, _, _, _, _⟩ :: _) _ _ _; first | refine vr_shr (m := 1) (gk rfl) rfl rfl rfl (by decide) rfl ?_) | (refine x_gsplit rfl ?_ ?_ <;> intro h <;> have hq := h <;> (try simp only [decide_eq_true_eq, decide_eq_false_iff_not, Int.not_lt, Int.not_le, ne_eq, Decidable.not_not, Bool.not_eq_true', Bool.not_eq_false'] at hq))) | (show VR _ _ _ [] _ _ _; first | refine vr_nil ?_) | (show thenQ _ _ _ _; first | refine q_then_n ?_ | refine q_then_x ?_) | (show blockQ _ _ _ _; first | refine q_blk_n ?_ | refine q_blk_x ?_) | refine vc_seq ?_ | refine vc_region ?_ | (show VC _ (.cond _ _ _) _ _; first | (refine x_cond rfl ?_ ?_ <;> intro h <;> have hq := h <;> (try simp only [decide_eq_true_eq, decide_eq_false_iff_not, Int.not_lt, Int.not_le, ne_eq, Decidable.not_not, Bool.not_eq_true', Bool.not_eq_false'] at hq))) | refine vc_ret ?_ | refine vc_exit ?_ | refine vc_block ?_ | refine vc_skip ?_)
    · have e : (((i : Int) + (j : Int)) / 2 ^ 1).toNat = (i + j) / 2 := by omega
      rw [e] at hq
      refine ⟨((i + j) / 2 + 1, j), ⟨by dsimp only; omega, h2, ?_⟩, by dsimp only; omega, le_of ⟨rfl, rfl, rfl, rfl, ad_eq ?_ rfl, rfl, trivial⟩ trivial rfl⟩
      · rw [<- h3]
        conv => rhs; rw [bs, if_pos (by omega)]
        rw [if_pos]
        exact decide_eq_true hq
      · congr 1 <;> omega
    · have e : (((i : Int) + (j : Int)) / 2 ^ 1).toNat = (i + j) / 2 := by omega
      rw [e] at hq
      refine ⟨(i, (i + j) / 2), ⟨by dsimp only; omega, by dsimp only; omega, ?_⟩, by dsimp only; omega, le_of ⟨rfl, rfl, rfl, rfl, rfl, ad_eq ?_ rfl, trivial⟩ trivial rfl⟩
      · rw [<- h3]
        conv => rhs; rw [bs, if_pos (by omega)]
        rw [if_neg]
        rw [decide_eq_true_eq]; exact Int.not_lt.2 hq
      · congr 1 <;> omega
    all_goals (have e0 : bsNb l t = i := by
                 rw [<- h3, bs, if_neg (by omega)])
    all_goals refine ret_d2 isRet_r rfl rfl (by rw [e0]) ?_
    all_goals simp_all [foundNb, nbCmp] <;> omega
theorem find_fnc {σ : St} {L : List Nat} : AR Tryz.prog σ L (.fnc 197 []) (.clo findφ) :=
  .fnc .nil (enters_of Tryz.func197 (by kernel_rfl) rfl) (by rintro _ _ ⟨x, t, rfl, rfl⟩; exact ⟨rfl, find1_spec x t⟩)
theorem find_spec (l : List Nb) (t : Int) (hl : l.length <= 1000000) : FnS Tryz.prog 130 [AD (nbs l), AI t] [] (.tup [AI (bsNb l t), AB (foundNb l t)]) [] := by
  refine FnS.of_body (enters_of Tryz.func130 (by kernel_rfl) rfl) Tryz.func130 rfl Tryz.ntmps130 Tryz.results130 rfl rfl rfl rfl fun E hS => ?_
  repeat' (first | (show VR _ _ _ (_ :: _) _ _ _; first | refine x_opF rfl (by first | exact True.intro | omega) ?_ | (show VR _ _ _ (⟨_, .call ⟨.value _, _, _⟩, _, _, _, _⟩ :: _) _ _ _; first | refine vr_call [] (search_spec l _ hl) (gk rfl) rfl (by (repeat' (first | exact .nil | refine .cons ?_ ?_ | exact .of0 (.c .d) | exact .of0 .ep | exact .clo | exact (find_fnc) | exact .of0 (.c .nil) | refine .of0 (.agg ?_) | exact .d | exact .nil | exact .of0 (.c (cr_row (by decide) rfl rfl (by repeat' (first | exact trivial | refine ⟨?_, ?_⟩ | rfl)))))) <;> fail) rfl rfl rfl rfl rfl ?_)) | (show VR _ _ _ [] _ _ _; first | refine vr_nil ?_) | (show thenQ _ _ _ _; first | refine q_then_n ?_) | refine vc_seq ?_ | refine vc_region ?_ | refine vc_ret ?_)
  all_goals exact ret_d2 isRet_r rfl rfl rfl rfl
structure Lk where
  n : Nb
  idx : Int
  cost : Int
  deriving DecidableEq, Inhabited
def Lk.cs (x : Lk) : List C := [.d (.int .i64 x.n.node), .d (.int .i64 x.n.epoch), .d (.int .i64 x.n.rank), .d (.int .i64 x.n.slot), .d (.int .i64 x.n.att), .d (.int .i64 x.n.ack), .d (.int .i64 x.idx), .d (.int .i64 x.cost)]
def Lk.enc (x : Lk) : List D := [.int .i64 x.n.node, .int .i64 x.n.epoch, .int .i64 x.n.rank, .int .i64 x.n.slot, .int .i64 x.n.att, .int .i64 x.n.ack, .int .i64 x.idx, .int .i64 x.cost]
abbrev lks (l : List Lk) : D := rdOf Lk.enc 8 l
abbrev lkA (x : Lk) : AV := .agg x.cs
def Lk.path (x : Lk) : Int := IntKind.i64.wrap (x.n.rank + x.cost)
theorem path_spec (x : Lk) : FnS Tryz.prog 139 [lkA x] [] (AI x.path) [] := by
  refine FnS.of_body (enters_of Tryz.func139 (by kernel_rfl) rfl) Tryz.func139 rfl Tryz.ntmps139 Tryz.results139 rfl rfl rfl rfl fun E hS => ?_
  repeat' (first | (show VR _ _ _ (_ :: _) _ _ _; first | refine x_opF rfl (by first | exact True.intro | omega) ?_ | (show VR _ _ _ (⟨_, .binOp _ _ _ _ _, _, _, _, _⟩ :: _) _ _ _; first | refine x_ariw rfl rfl rfl rfl rfl ?_)) | (show VR _ _ _ [] _ _ _; first | refine vr_nil ?_) | (show thenQ _ _ _ _; first | refine q_then_n ?_) | refine vc_seq ?_ | refine vc_region ?_ | refine vc_ret ?_)
  all_goals exact ret_int isRet_r rfl rfl
def betterI (a b : Lk) : Int := orI [cmpI b.n.epoch a.n.epoch, cmpI a.path b.path, cmpI a.n.node b.n.node]
theorem better_spec (a b : Lk) : FnS Tryz.prog 203 [lkA a, lkA b] [] (AI (betterI a b)) [] := by
  refine FnS.of_body (enters_of Tryz.func203 (by kernel_rfl) rfl) Tryz.func203 rfl Tryz.ntmps203 Tryz.results203 rfl rfl rfl rfl fun E hS => ?_
  repeat' (first | (show VR _ _ _ (_ :: _) _ _ _; first | refine x_opF rfl (by first | exact True.intro | omega) ?_ | (show VR _ _ _ (⟨_, .call ⟨.value _, _, _⟩, _, _, _, _⟩ :: _) _ _ _; first | refine vr_calld (cmp_spec _ _) (gk rfl) rfl rfl rfl rfl rfl rfl ?_ | refine vr_calld (path_spec a) (gk rfl) rfl rfl rfl rfl rfl rfl ?_ | refine vr_calld (path_spec b) (gk rfl) rfl rfl rfl rfl rfl rfl ?_ | refine vr_call [24] (or_spec [_, _, _]) (gk rfl) rfl (by (repeat' (first | exact .nil | refine .cons ?_ ?_ | exact .of0 (.c .d) | exact .of0 .ep | exact .clo | exact .of0 (.c .nil) | refine .of0 (.agg ?_) | exact .d | exact .nil | exact .of0 (.c (cr_row (by decide) rfl rfl (by repeat' (first | exact trivial | refine ⟨?_, ?_⟩ | rfl)))))) <;> fail) rfl rfl rfl rfl rfl ?_)) | (show VR _ _ _ [] _ _ _; first | refine vr_nil ?_ | refine vr_nil_t (by kernel_rfl) ?_) | (show thenQ _ _ _ _; first | refine q_then_n ?_) | refine vc_seq ?_ | refine vc_region ?_ | refine vc_region_t ?_ | refine vc_ret ?_)
  all_goals exact ret_int isRet_r rfl rfl
end Go.Proofs.P
end
section
namespace Go.Proofs.P
open Go Go.Sx
set_option maxRecDepth 4000
attribute [local irreducible] VR VC thenQ blockQ
def minTo (l : List Lk) : Nat -> Lk
  | 0 => l.getD 0 default
  | k + 1 => if betterI (l.getD (k + 1) default) (minTo l k) < 0 then l.getD (k + 1) default else minTo l k
abbrev betterφ : List DV -> DV -> Prop := fun ds r => ∃ (a b : Lk), ds = [.agg a.enc, .agg b.enc] /\ r = .d (.int .i64 (betterI a b))
abbrev zero8 : List C := [.d (.int .i64 0), .d (.int .i64 0), .d (.int .i64 0), .d (.int .i64 0), .d (.int .i64 0), .d (.int .i64 0), .d (.int .i64 0), .d (.int .i64 0)]
theorem min_spec (l : List Lk) (h0 : 0 < l.length) (hl : l.length <= 1000000) : FnS Tryz.prog 202 [AD (lks l), .clo betterφ] [] (lkA (minTo l (l.length - 1))) [] := by
  refine FnS.of_body (enters_of Tryz.func202 (by kernel_rfl) rfl) Tryz.func202 rfl Tryz.ntmps202 Tryz.results202 rfl rfl rfl rfl fun E hS => ?_
  repeat' (first | (show VR _ _ _ (_ :: _) _ _ _; first | refine x_opF rfl (by first | exact True.intro | omega) ?_ | (show VR _ _ _ (⟨_, .indexAddr _ _ _, _, _, _, _⟩ :: _) _ _ _; first | refine vr_index_rd (gk rfl) rfl rfl rfl rfl rfl (by omega) rfl ?_)) | (show VR _ _ _ [] _ _ _; first | refine vr_nil ?_) | (show thenQ _ _ _ _; first | refine q_then_n ?_) | refine vc_seq ?_ | refine vc_region ?_ | (show VC _ (.cond _ _ _) _ _; first | (refine x_cond rfl ?_ ?_ <;> intro h <;> have hq := h <;> (try simp only [decide_eq_true_eq, decide_eq_false_iff_not, Int.not_lt, Int.not_le, ne_eq, Decidable.not_not, Bool.not_eq_true', Bool.not_eq_false'] at hq))) | refine vc_block ?_ | refine vc_skip ?_)
  · exfalso; omega
  refine vc_loopI (ι := Nat × Lk) (fun p => stOf [(0, AD (lks l)), (1, .clo betterφ), (4, .c (.ptr 4 0)), (5, .c (.ptr 5 0)), (6, AI (p.1 + 1 : Nat))] [(4, .box zero8), (5, .box p.2.cs)])
    (fun p => p.1 + 1 <= l.length /\ p.2 = minTo l p.1) (fun p => l.length - p.1) (0, l.getD 0 default) ⟨by dsimp only; omega, rfl⟩ ?_ ?_
  · exact le_of ⟨rfl, rfl, rfl, rfl, rfl, trivial⟩ ⟨rfl, rfl, trivial⟩ rfl
  · rintro ⟨k, m⟩ ⟨h1, h2⟩
    dsimp only at h1 h2 ⊢
    repeat' (first | (show VR _ _ _ (_ :: _) _ _ _; first | refine x_opF rfl (by first | exact True.intro | omega) ?_ | (show VR _ _ _ (⟨_, .call ⟨.value _, _, _⟩, _, _, _, _⟩ :: _) _ _ _; first | refine vr_clo (⟨_, _, rfl, rfl⟩) (gk rfl) rfl rfl rfl rfl ?_) | (show VR _ _ _ (⟨_, .indexAddr _ _ _, _, _, _, _⟩ :: _) _ _ _; first | refine vr_index_rd (gk rfl) rfl rfl rfl rfl rfl (by omega) rfl ?_)) | (show VR _ _ _ [] _ _ _; first | refine vr_nil ?_ | refine vr_nil_t (by kernel_rfl) ?_) | (show thenQ _ _ _ _; first | refine q_then_n ?_ | refine q_then_x ?_) | (show blockQ _ _ _ _; first | refine q_blk_n ?_ | refine q_blk_x ?_) | refine vc_seq ?_ | refine vc_region ?_ | refine vc_region_t ?_ | (show VC _ (.cond _ _ _) _ _; first | (refine x_cond rfl ?_ ?_ <;> intro h <;> have hq := h <;> (try simp only [decide_eq_true_eq, decide_eq_false_iff_not, Int.not_lt, Int.not_le, ne_eq, Decidable.not_not, Bool.not_eq_true', Bool.not_eq_false'] at hq))) | refine vc_ret ?_ | refine vc_exit ?_ | refine vc_block ?_ | refine vc_skip ?_)
    · have e : ((k + 1 : Nat) : Int).toNat = k + 1 := by omega
      refine ⟨(k + 1, l.getD (k + 1) default), ⟨by dsimp only; omega, ?_⟩, by dsimp only; omega, le_of ⟨rfl, rfl, rfl, rfl, rfl, trivial⟩ ⟨rfl, rfl, trivial⟩ rfl⟩
      rw [minTo, <- h2, if_pos hq]
    · refine ⟨(k + 1, m), ⟨by dsimp only; omega, ?_⟩, by dsimp only; omega, le_of ⟨rfl, rfl, rfl, rfl, rfl, trivial⟩ ⟨rfl, rfl, trivial⟩ rfl⟩
      rw [minTo, <- h2, if_neg (by omega)]
    all_goals have e : l.length - 1 = k := by omega
    all_goals refine ret_agg1 isRet_r rfl rfl rfl rfl ?_
    all_goals rw [e, <- h2]
    all_goals rfl
end Go.Proofs.P
end
section
namespace Go.Proofs.P
open Go Go.Sx
set_option maxRecDepth 4000
attribute [local irreducible] VR VC thenQ blockQ
theorem checkNb_ok {l : List Nb} (h : checkNb l = 0) : l.length <= 32 /\ ∀ i, i < l.length -> nbErr l i = 0 := by
  unfold checkNb at h
  split at h
  · cases h
  · refine ⟨by omega, fun i hi => ?_⟩
    unfold firstErr at h
    cases hf : (List.range l.length).find? (fun i => nbErr l i != 0) with
    | none =>
      have := List.find?_eq_none.1 hf i (List.mem_range.2 hi)
      simpa using this
    | some j =>
      rw [hf] at h
      have := List.find?_some hf
      simp only [bne_iff_ne, ne_eq] at this
      exact absurd h this
theorem nbErr_ok {l : List Nb} {i : Nat} (h : nbErr l i = 0) : heardB (l.getD i default).node (l.getD i default).epoch (l.getD i default).rank (l.getD i default).slot = true /\ (0 <= (l.getD i default).att /\ (l.getD i default).att <= 255) /\
    (0 <= (l.getD i default).ack /\ (l.getD i default).ack <= (l.getD i default).att) := by
  unfold nbErr at h
  simp only at h
  split at h
  · rename_i hh
    simp only [Bool.and_eq_true, inR_t] at hh
    exact ⟨hh.1.1, hh.1.2, hh.2⟩
  · cases h
def mkLk (l : List Nb) (i : Nat) : Lk := ⟨l.getD i default, i, costC (l.getD i default).att (l.getD i default).ack⟩
def okLk (r : Rk) (x : Lk) : Bool := decide (x.n.node ≠ r.node) && feasB r x.n.epoch x.n.rank && decide (x.path < 65535)
def links (l : List Nb) (r : Rk) : Nat -> List Lk
  | 0 => []
  | k + 1 => if okLk r (mkLk l k) = true then links l r k ++ [mkLk l k] else links l r k
theorem links_len (l : List Nb) (r : Rk) : ∀ k, (links l r k).length <= k
  | 0 => Nat.le_refl _
  | k + 1 => by
    have := links_len l r k
    unfold links
    split
    · simp; omega
    · omega
theorem better_fnc {σ : St} {L : List Nat} : AR Tryz.prog σ L (.fnc 203 []) (.clo betterφ) :=
  .fnc .nil (enters_of Tryz.func203 (by kernel_rfl) rfl) (by rintro _ _ ⟨a, b, rfl, rfl⟩; exact ⟨rfl, better_spec a b⟩)
def bestLk (l : List Nb) (r : Rk) : Lk := minTo (links l r l.length) ((links l r l.length).length - 1)
def hasLk (l : List Nb) (r : Rk) : Bool := decide ((links l r l.length).length ≠ 0)
theorem ret_agg_b {P : Program} {σ : St} {t u nm : Nat} {T : TypeId} {ti : TyI} {cs cs' : List C} {x x' : D} {e : Exit} (he : e = .normal \/ e = .ret) [ht : TyOK P T ti] (hx : σ (.s t) = some (.v (.c (.ptr nm 0)))) (hb : σ (.b nm) = some (.k (.box cs'))) (hagg : ti.isAgg = true)
    (hl : (cs'.take ti.size).length = ti.size) (hu : σ (.s u) = some (.v (AD x'))) (h : cs = cs'.take ti.size) (h2 : x = x') : retQ P [.cell t T, .tmp u] (.tup [.agg cs, AD x]) [] e σ :=
  ret_agg_d he hx hb hagg hl hu h h2
theorem best_spec (l : List Nb) (r : Rk) (hc : checkNb l = 0) : FnS Tryz.prog 138 [AD (nbs l), rkA r] [] (.tup [lkA (bestLk l r), AB (hasLk l r)]) [] := by
  obtain ⟨hlen, hall⟩ := checkNb_ok hc
  refine FnS.of_body (enters_of Tryz.func138 (by kernel_rfl) rfl) Tryz.func138 rfl Tryz.ntmps138 Tryz.results138 rfl rfl rfl rfl fun E hS => ?_
  repeat' (first | (show VR _ _ _ (_ :: _) _ _ _; first | refine x_opF rfl (by first | exact True.intro | omega) ?_) | (show VR _ _ _ [] _ _ _; first | refine vr_nil ?_) | (show thenQ _ _ _ _; first | refine q_then_n ?_) | (show VC _ (.seq (.region _ _ _) _) _ _; refine vc_seq ?_) | refine vc_region ?_)
  refine vc_cut (stOf [(3, .c (.ptr 3 0)), (4, .c (.ptr 4 0)), (5, AB false), (6, AD (lks (links l r l.length)))] [(3, .box r.cs), (4, .box zero8)]) ?_ ?_
  · repeat' (first | (show VR _ _ _ (_ :: _) _ _ _; first | refine x_opF rfl (by first | exact True.intro | omega) ?_) | (show VR _ _ _ [] _ _ _; first | refine vr_nil ?_) | (show thenQ _ _ _ _; first | refine q_then_n ?_) | refine vc_seq ?_ | refine vc_region ?_ | refine vc_block ?_)
    refine vc_loopI (ι := Nat × List Lk) (fun p => stOf [(3, .c (.ptr 3 0)), (4, .c (.ptr 4 0)), (5, AB false), (6, .c (.row 44 p.2.length)), (10, AD (nbs l)), (11, AI l.length), (12, AI p.1)] [(3, .box r.cs), (4, .box zero8), (44, .row 235 8 (rowOf Lk.enc p.2))])
      (fun p => p.1 <= l.length /\ p.2 = links l r p.1 /\ p.2.length <= p.1) (fun p => l.length - p.1) (0, []) ⟨Nat.zero_le _, rfl, Nat.zero_le _⟩ ?_ ?_
    · exact (le_nil (t := 6) (nm := 44) (T := 235) (sz := 8) rfl rfl).trans (le_of ⟨rfl, rfl, rfl, rfl, rfl, rfl, rfl, trivial⟩ ⟨rfl, rfl, rfl, trivial⟩ rfl)
    · rintro ⟨k, ls⟩ ⟨h1, h2, h3⟩
      dsimp only at h1 h2 h3 ⊢
      have hatt : k < l.length -> (l.getD k default).att <= 255 := fun h => (nbErr_ok (hall k h)).2.1.2
      have hrl : (rowOf Lk.enc ls).length = ls.length := rowOf_length
      repeat' (first | (show VR _ _ _ (_ :: _) _ _ _; first | refine x_opF rfl (by first | exact True.intro | omega) ?_ | (show VR _ _ _ (⟨_, .call ⟨.value _, _, _⟩, _, _, _, _⟩ :: _) _ _ _; first | refine vr_calld (cost_spec _ _ (by omega)) (gk rfl) rfl rfl rfl rfl rfl rfl ?_ | refine vr_calld (feas_spec r _ _) (gk rfl) rfl rfl rfl rfl rfl rfl ?_ | refine vr_calld (path_spec (mkLk l k)) (gk rfl) rfl rfl rfl rfl rfl rfl ?_) | (show VR _ _ _ (⟨_, .indexAddr _ _ _, _, _, _, _⟩ :: _) _ _ _; first | refine vr_index_rd (gk rfl) rfl rfl rfl rfl rfl (by omega) rfl ?_) | (show VR _ _ _ (⟨_, .call ⟨.builtin .append, _, _⟩, _, _, _, _⟩ :: _) _ _ _; first | refine vr_append1 (gk rfl) rfl rfl rfl (by first | rfl | exact rowOf_length.symm | (simp only [rowOf_length, List.length_set, List.length_replicate, List.length_append, List.length_take, List.length_cons, List.length_nil, List.length_map, List.length_drop, List.length_range] <;> omega)) (by first | exact .row rfl (by first | rfl | exact rowOf_length.symm) | exact .rd | exact .nils) rfl rfl rfl (by (try dsimp only); omega) rfl rfl ?_) | (refine x_gsplit rfl ?_ ?_ <;> intro h <;> have hq := h <;> (try simp only [decide_eq_true_eq, decide_eq_false_iff_not, Int.not_lt, Int.not_le, ne_eq, Decidable.not_not, Bool.not_eq_true', Bool.not_eq_false'] at hq))) | (show VR _ _ _ [] _ _ _; first | refine vr_nil ?_ | refine vr_nil_t (by kernel_rfl) ?_) | (show thenQ _ _ _ _; first | refine q_then_n ?_ | refine q_then_x ?_) | (show blockQ _ _ _ _; first | refine q_blk_n ?_ | refine q_blk_x ?_) | refine vc_seq ?_ | refine vc_region ?_ | refine vc_region_t ?_ | (show VC _ (.cond _ _ _) _ _; first | refine vc_cond_f rfl ?_ | (refine x_cond rfl ?_ ?_ <;> intro h <;> have hq := h <;> (try simp only [decide_eq_true_eq, decide_eq_false_iff_not, Int.not_lt, Int.not_le, ne_eq, Decidable.not_not, Bool.not_eq_true', Bool.not_eq_false'] at hq))) | refine vc_exit ?_ | refine vc_block ?_ | refine vc_skip ?_)
      · refine ⟨(k + 1, ls ++ [mkLk l k]), ⟨by dsimp only; omega, ?_, by simp; omega⟩, by dsimp only; omega, ?_⟩
        · rw [links, if_pos, <- h2]
          simp_all [okLk, mkLk]
        · refine le_gen (fun n => if n = 44 then 100044 else n) [] hS ⟨⟨_, rfl, .c (.ptr rfl)⟩, ⟨_, rfl, .c (.ptr rfl)⟩, ⟨_, rfl, .c .d⟩, ⟨_, rfl, .c (.row rfl (by simp))⟩, ⟨_, rfl, .c .d⟩, ⟨_, rfl, .c .d⟩, ⟨_, rfl, .c .d⟩, trivial⟩
            ⟨⟨_, rfl, .boxD rfl rfl⟩, ⟨_, rfl, .boxD rfl rfl⟩, ⟨_, rfl, .rowD (by rw [rowOf_append]; rfl) rowOf_isD⟩, trivial⟩ rfl (by simp only [wfL, List.all_cons, List.all_nil, rowOf_blk]; rfl)
      all_goals try (refine ⟨(k + 1, ls), ⟨by dsimp only; omega, ?_, by dsimp only; omega⟩, by dsimp only; omega, le_gen (fun n => n) [] hS ⟨⟨_, rfl, .c (.ptr rfl)⟩, ⟨_, rfl, .c (.ptr rfl)⟩, ⟨_, rfl, .c .d⟩, ⟨_, rfl, .c (.row rfl rfl)⟩, ⟨_, rfl, .c .d⟩, ⟨_, rfl, .c .d⟩, ⟨_, rfl, .c .d⟩, trivial⟩
            ⟨⟨_, rfl, .boxD rfl rfl⟩, ⟨_, rfl, .boxD rfl rfl⟩, ⟨_, rfl, .rowD rfl rowOf_isD⟩, trivial⟩ rfl (by simp only [wfL, List.all_cons, List.all_nil, rowOf_blk]; rfl)⟩
                     rw [links, if_neg, <- h2]
                     simp_all [okLk, mkLk])
      · have e : k = l.length := by omega
        subst e
        subst h2
        exact le_gen (fun n => n) [44] hS ⟨⟨_, rfl, .c (.ptr rfl)⟩, ⟨_, rfl, .c (.ptr rfl)⟩, ⟨_, rfl, .c .d⟩, ⟨_, rfl, .c (.frzOf (by simp) rfl rfl (fun _ => rfl))⟩, trivial⟩ ⟨⟨_, rfl, .boxD rfl rfl⟩, ⟨_, rfl, .boxD rfl rfl⟩, trivial⟩ rfl rfl
  · have hll := links_len l r l.length
    have hz : decide (((links l r l.length).length : Int) = 0) = false -> 0 < (links l r l.length).length := fun h => by
      have := of_decide_eq_false h
      omega
    repeat' (first | (show VR _ _ _ (_ :: _) _ _ _; first | refine x_opF rfl (by first | exact True.intro | omega) ?_ | (show VR _ _ _ (⟨_, .call ⟨.value _, _, _⟩, _, _, _, _⟩ :: _) _ _ _; first | refine vr_call [] (min_spec (links l r l.length) (hz (by assumption)) (by omega)) (gk rfl) rfl (by (repeat' (first | exact .nil | refine .cons ?_ ?_ | exact .of0 (.c .d) | exact .of0 .ep | exact .clo | exact (better_fnc) | exact .of0 (.c .nil) | refine .of0 (.agg ?_) | exact .d | exact .nil | exact .of0 (.c (cr_row (by decide) rfl rfl (by repeat' (first | exact trivial | refine ⟨?_, ?_⟩ | rfl)))))) <;> fail) rfl rfl rfl rfl rfl ?_)) | (show VR _ _ _ [] _ _ _; first | refine vr_nil ?_) | (show thenQ _ _ _ _; first | refine q_then_n ?_ | refine q_then_r ?_) | refine vc_seq ?_ | refine vc_region ?_ | (show VC _ (.cond _ _ _) _ _; first | (refine x_cond rfl ?_ ?_ <;> intro h <;> have hq := h <;> (try simp only [decide_eq_true_eq, decide_eq_false_iff_not, Int.not_lt, Int.not_le, ne_eq, Decidable.not_not, Bool.not_eq_true', Bool.not_eq_false'] at hq))) | refine vc_ret ?_ | refine vc_skip ?_)
    · refine ret_agg_b isRet_r rfl rfl rfl rfl rfl ?_ ?_
      · have : links l r l.length = [] := List.eq_nil_of_length_eq_zero (by omega)
        rw [bestLk, this]; rfl
      · rw [hasLk, decide_eq_false (by omega)]
    · refine ret_agg_b isRet_r rfl rfl rfl rfl rfl rfl ?_
      rw [hasLk, decide_eq_true (by omega)]
end Go.Proofs.P
end
section
namespace Go.Proofs.P
open Go Go.Sx
set_option maxRecDepth 4000
attribute [local irreducible] VR VC thenQ blockQ
end Go.Proofs.P
end
section
namespace Go.Proofs.P
open Go Go.Sx
set_option maxRecDepth 4000
attribute [local irreducible] VR VC thenQ blockQ
def stepA (l : List Nb) (r : Rk) : Rk :=
  if 0 <= r.parent then
    (if foundNb l r.parent = true then (update' r (l.getD (bsNb l r.parent) default).epoch (l.getD (bsNb l r.parent) default).rank (costC (l.getD (bsNb l r.parent) default).att (l.getD (bsNb l r.parent) default).ack)).1 else lose' r)
  else r
def takeB (l : List Nb) (r1 : Rk) (m : Int) : Bool :=
  hasLk l r1 && (decide (r1.parent = -1) || decide (r1.epoch < (bestLk l r1).n.epoch) || decide (IntKind.i64.wrap ((bestLk l r1).path + m) < r1.rank))
def stepB (l : List Nb) (r1 : Rk) (m : Int) : Rk :=
  if takeB l r1 m = true then (adopt' r1 (bestLk l r1).n.node (bestLk l r1).n.epoch (bestLk l r1).n.rank (bestLk l r1).cost).1 else r1
def select' (l : List Nb) (r : Rk) (m : Int) : Rk × Bool × Int :=
  if checkNb l ≠ 0 \/ rkErr r ≠ 0 then (rkZ, false, 1)
  else if inR m 0 65535 = false then (rkZ, false, 2)
  else if r.node = 0 then (r, false, 0)
  else (stepB l (stepA l r) m, decide ((stepB l (stepA l r) m).parent ≠ r.parent), 0)
abbrev zero6 : List C := [.d (.int .i64 0), .d (.int .i64 0), .d (.int .i64 0), .d (.int .i64 0), .d (.int .i64 0), .d (.int .i64 0)]
theorem ret_agg_d2 {P : Program} {σ : St} {t u v nm : Nat} {T : TypeId} {ti : TyI} {cs cs' : List C} {x x' y y' : D} {e : Exit} (he : e = .normal \/ e = .ret) [ht : TyOK P T ti] (hx : σ (.s t) = some (.v (.c (.ptr nm 0)))) (hb : σ (.b nm) = some (.k (.box cs'))) (hagg : ti.isAgg = true)
    (hl : (cs'.take ti.size).length = ti.size) (hu : σ (.s u) = some (.v (AD x'))) (hv : σ (.s v) = some (.v (AD y'))) (h : cs = cs'.take ti.size) (h2 : x = x') (h3 : y = y') : retQ P [.cell t T, .tmp u, .tmp v] (.tup [.agg cs, AD x, AD y]) [] e σ :=
  ⟨he, [.agg ((cs'.drop 0).take ti.size), AD x', AD y'], .agg hx hb hagg hl (.tmp rfl hu (.tmp rfl hv .nil)), by rw [h, h2, h3]; rfl, fun p hp => by cases hp⟩
theorem found_t (l : List Nb) (t : Int) : (foundNb l t = true) = (bsNb l t < l.length /\ nbCmp t (l.getD (bsNb l t) default) = 0) := by simp [foundNb]
theorem att_le {l : List Nb} (h : checkNb l = 0) (k : Nat) : (l.getD k default).att <= 255 := by
  by_cases hk : k < l.length
  · exact (nbErr_ok ((checkNb_ok h).2 k hk)).2.1.2
  · rw [List.getD_eq_getElem?_getD, List.getElem?_eq_none (by omega)]; decide
theorem bx_eq {σ : St} {k : Key} {cs cs' : List C} (h : cs = cs') (hx : σ k = some (.k (.box cs))) : σ k = some (.k (.box cs')) := by rw [<- h]; exact hx
set_option maxHeartbeats 2000000 in
theorem select_spec (l : List Nb) (r : Rk) (m : Int) : FnS Tryz.prog 52 [AD (nbs l), rkA r, AI m] [] (.tup [rkA (select' l r m).1, AB (select' l r m).2.1, AI (select' l r m).2.2]) [] := by
  refine FnS.of_body (enters_of Tryz.func52 (by kernel_rfl) rfl) Tryz.func52 rfl Tryz.ntmps52 Tryz.results52 rfl rfl rfl rfl fun E hS => ?_
  repeat' (first | (show VR _ _ _ (_ :: _) _ _ _; first | refine x_opF rfl (by first | exact True.intro | omega) ?_ | (show VR _ _ _ (⟨_, .call ⟨.value _, _, _⟩, _, _, _, _⟩ :: _) _ _ _; first | refine vr_calld (check_spec l) (gk rfl) rfl rfl rfl rfl rfl rfl ?_ | refine vr_calld (rcheck_spec r) (gk rfl) rfl rfl rfl rfl rfl rfl ?_ | refine vr_calld (within_spec _ _ _) (gk rfl) rfl rfl rfl rfl rfl rfl ?_) | (refine x_gsplit rfl ?_ ?_ <;> intro h <;> have hq := h <;> (try simp only [decide_eq_true_eq, decide_eq_false_iff_not, Int.not_lt, Int.not_le, ne_eq, Decidable.not_not, Bool.not_eq_true', Bool.not_eq_false', inR_t, inR_f] at hq))) | (show VR _ _ _ [] _ _ _; first | refine vr_nil ?_) | (show thenQ _ _ _ _; first | refine q_then_n ?_ | refine q_then_r ?_) | (show blockQ _ _ _ _; first | refine q_blk_n ?_ | refine q_blk_r ?_) | (show VC _ (.seq _ _) _ _; (fail_if_success (show VC _ (.seq (.seq (.region 8 _ _) _) _) _ _)); (fail_if_success (show VC _ (.seq (.region 8 _ _) _) _ _)); refine vc_seq ?_) | refine vc_region ?_ | (show VC _ (.cond _ _ _) _ _; first | refine vc_cond_t rfl ?_ | (refine x_cond rfl ?_ ?_ <;> intro h <;> have hq := h <;> (try simp only [decide_eq_true_eq, decide_eq_false_iff_not, Int.not_lt, Int.not_le, ne_eq, Decidable.not_not, Bool.not_eq_true', Bool.not_eq_false', inR_t, inR_f] at hq))) | refine vc_ret ?_ | refine vc_block ?_ | refine vc_skip ?_)
  --A
  all_goals first
    | (refine ret_agg_d2 isRet_r rfl rfl rfl rfl rfl rfl ?_ ?_ ?_
       all_goals unfold select'
       all_goals repeat' split
       all_goals first | rfl | (exfalso; simp_all; done))
    | skip
  --B
  have hc : checkNb l = 0 := by simp_all
  have hr : rkErr r = 0 := by simp_all
  have hm : inR m 0 65535 = true := by simp_all
  have hn : ¬ r.node = 0 := by simp_all
  have hlen := (checkNb_ok hc).1
  have hall := (checkNb_ok hc).2
  --C
  refine vc_cut (stOf [(0, AD (nbs l)), (2, AI m), (4, .c (.ptr 4 0)), (6, .c (.ptr 6 0)), (7, AB false), (8, AI 0), (9, AI r.parent)] [(4, .box (stepA l r).cs), (6, .box zero6)]) ?_ ?_
  · have hatt := att_le hc (bsNb l r.parent)
    repeat' (first | (show VR _ _ _ (_ :: _) _ _ _; first | refine x_opF rfl (by first | exact True.intro | omega) ?_ | (show VR _ _ _ (⟨_, .call ⟨.value _, _, _⟩, _, _, _, _⟩ :: _) _ _ _; first | refine vr_calld (find_spec l _ (by omega)) (gk rfl) rfl rfl rfl rfl rfl rfl ?_ | refine vr_calld (cost_spec _ _ (by omega)) (gk rfl) rfl rfl rfl rfl rfl rfl ?_ | refine vr_calld (update_spec r _ _ _) (gk rfl) rfl rfl rfl rfl rfl rfl ?_ | refine vr_calld (lose_spec r) (gk rfl) rfl rfl rfl rfl rfl rfl ?_) | (show VR _ _ _ (⟨_, .indexAddr _ _ _, _, _, _, _⟩ :: _) _ _ _; first | refine vr_index_rd (gk rfl) rfl rfl rfl rfl rfl (by omega) rfl ?_)) | (show VR _ _ _ [] _ _ _; first | refine vr_nil ?_ | refine vr_nil_t (by kernel_rfl) ?_) | (show thenQ _ _ _ _; first | refine q_then_n ?_) | refine vc_seq ?_ | refine vc_region ?_ | refine vc_region_t ?_ | (show VC _ (.cond _ _ _) _ _; first | (refine x_cond rfl ?_ ?_ <;> intro h <;> have hq := h <;> (try simp only [decide_eq_true_eq, decide_eq_false_iff_not, Int.not_lt, Int.not_le, ne_eq, Decidable.not_not, Bool.not_eq_true', Bool.not_eq_false', found_t] at hq))) | refine vc_skip ?_)
    all_goals refine le_of ⟨rfl, rfl, rfl, rfl, rfl, rfl, rfl, trivial⟩ ⟨bx_eq ?_ rfl, rfl, trivial⟩ rfl
    all_goals unfold stepA
    all_goals repeat' split
    all_goals first | rfl | (exfalso; simp_all; done) | (exfalso; omega)
  refine vc_cut (stOf [(4, .c (.ptr 4 0)), (6, .c (.ptr 6 0)), (7, AB false), (8, AI 0), (9, AI r.parent)] [(4, .box (stepB l (stepA l r) m).cs), (6, .box zero6)]) ?_ ?_
  · repeat' (first | (show VR _ _ _ (_ :: _) _ _ _; first | refine x_opF rfl (by first | exact True.intro | omega) ?_ | (show VR _ _ _ (⟨_, .call ⟨.value _, _, _⟩, _, _, _, _⟩ :: _) _ _ _; first | refine vr_calld (best_spec l (stepA l r) hc) (gk rfl) rfl rfl rfl rfl rfl rfl ?_ | refine vr_calld (adopt_spec (stepA l r) _ _ _ _) (gk rfl) rfl rfl rfl rfl rfl rfl ?_ | refine vr_calld (path_spec (bestLk l (stepA l r))) (gk rfl) rfl rfl rfl rfl rfl rfl ?_) | (show VR _ _ _ (⟨_, .binOp _ _ _ _ _, _, _, _, _⟩ :: _) _ _ _; first | refine x_ariw rfl rfl rfl rfl rfl ?_) | (refine x_gsplit rfl ?_ ?_ <;> intro h <;> have hq := h <;> (try simp only [decide_eq_true_eq, decide_eq_false_iff_not, Int.not_lt, Int.not_le, ne_eq, Decidable.not_not, Bool.not_eq_true', Bool.not_eq_false'] at hq))) | (show VR _ _ _ [] _ _ _; first | refine vr_nil ?_ | refine vr_nil_t (by kernel_rfl) ?_) | (show thenQ _ _ _ _; first | refine q_then_n ?_) | refine vc_seq ?_ | refine vc_region ?_ | refine vc_region_t ?_ | (show VC _ (.cond _ _ _) _ _; first | refine vc_cond_t rfl ?_ | refine vc_cond_f rfl ?_ | (refine x_cond rfl ?_ ?_ <;> intro h <;> have hq := h <;> (try simp only [decide_eq_true_eq, decide_eq_false_iff_not, Int.not_lt, Int.not_le, ne_eq, Decidable.not_not, Bool.not_eq_true', Bool.not_eq_false'] at hq))) | refine vc_skip ?_)
    all_goals refine le_of ⟨rfl, rfl, rfl, rfl, rfl, trivial⟩ ⟨bx_eq ?_ rfl, rfl, trivial⟩ rfl
    all_goals unfold stepB takeB
    all_goals split
    all_goals first | rfl | (exfalso; simp_all; done) | (exfalso; simp_all; omega)
  · repeat' (first | (show VR _ _ _ (_ :: _) _ _ _; first | refine x_opF rfl (by first | exact True.intro | omega) ?_) | (show VR _ _ _ [] _ _ _; first | refine vr_nil_t (by kernel_rfl) ?_) | (show thenQ _ _ _ _; first | refine q_then_n ?_) | refine vc_seq ?_ | refine vc_region_t ?_ | refine vc_ret ?_)
    refine ret_agg_d2 isRet_r rfl rfl rfl rfl rfl rfl ?_ ?_ ?_
    all_goals unfold select'
    all_goals rw [if_neg (by simp [hc, hr]), if_neg (by simp [hm]), if_neg hn]
    all_goals rfl
end Go.Proofs.P
end
section
namespace Go.Proofs.P
open Go Go.Sx
set_option maxRecDepth 4000
attribute [local irreducible] VR VC thenQ blockQ
end Go.Proofs.P
end
section
namespace Go.Proofs.P
open Go Go.Sx
set_option maxRecDepth 4000
attribute [local irreducible] VR VC thenQ blockQ
end Go.Proofs.P
end
section
namespace Go.Proofs.P
open Go Go.Sx
set_option maxRecDepth 4000
attribute [local irreducible] VR VC thenQ blockQ
def pathC (x : Nb) : Int := IntKind.i64.wrap (x.rank + costC x.att x.ack)
theorem rk_ok {r : Rk} (h : rkErr r = 0) : nodeB r.node = true /\ inR r.epoch 0 65535 = true /\ leastB r = true /\ rightB r = true := by
  unfold rkErr at h
  split at h
  · rename_i h1
    simp only [Bool.and_eq_true] at h1
    split at h
    · exact ⟨h1.1.1, h1.1.2, h1.2, ‹_›⟩
    · cases h
  · cases h
theorem rk_of {r : Rk} (h1 : nodeB r.node = true) (h2 : inR r.epoch 0 65535 = true) (h3 : leastB r = true) (h4 : rightB r = true) : rkErr r = 0 := by
  simp [rkErr, h1, h2, h3, h4]
theorem rk_parent {r : Rk} (h : rkErr r = 0) (hp : r.parent ≠ -1) : r.node ≠ 0 /\ nodeB r.parent = true /\ r.parent ≠ r.node /\ 1 <= r.epoch /\ 0 <= r.heard /\ r.heard < r.rank /\ r.heard < r.least /\ r.rank < 65535 := by
  obtain ⟨_, _, _, h4⟩ := rk_ok h
  unfold rightB at h4
  split at h4
  · simp only [Bool.and_eq_true, decide_eq_true_eq] at h4; exact absurd h4.1.1.1.2 hp
  · rename_i hn
    simp only [if_neg hp, Bool.and_eq_true, decide_eq_true_eq, ne_eq] at h4
    exact ⟨hn, h4.1.1.1.1.1.1, h4.1.1.1.1.1.2, h4.1.1.1.1.2, h4.1.1.1.2, h4.1.1.2, h4.1.2, h4.2⟩
theorem rk_begin {r : Rk} {e : Int} (h : rkErr r = 0) (he : 1 <= e /\ e <= 65535) (hp : r.parent ≠ -1) : rkErr (begin' r e) = 0 := by
  unfold begin'
  split
  · obtain ⟨h1, h2, h3, h4⟩ := rk_ok h
    obtain ⟨g1, g2, g3, g4, g5, g6, g7, g8⟩ := rk_parent h hp
    refine rk_of h1 ?_ ?_ ?_
    · simp [inR]; omega
    · simp [leastB, inR]
    · simp [rightB, g1, hp, g2, g3, g5, g6, g8]; omega
  · exact h
end Go.Proofs.P
end
section
namespace Go.Proofs.P
open Go Go.Sx
set_option maxRecDepth 4000
attribute [local irreducible] VR VC thenQ blockQ
def oI : Option Nat -> Int
  | none => -1
  | some i => i
theorem find_hit {n k : Nat} {p : Nat -> Bool} (h : ∀ i, i < k -> p i = false) (hk : k < n) (he : p k = true) : (List.range n).find? p = some k := by
  rw [List.find?_range_eq_some]
  exact ⟨he, List.mem_range.2 hk, fun j hj => by simp [h j hj]⟩
theorem find_none {n : Nat} {p : Nat -> Bool} (h : ∀ i, i < n -> p i = false) : (List.range n).find? p = none := by
  rw [List.find?_range_eq_none]
  exact fun i hi => by simp [h i hi]
def okNb (r : Rk) (x : Nb) : Bool := decide (x.node ≠ r.node) && feasB r x.epoch x.rank && decide (pathC x < 65535)
def beats (x y : Nb) : Bool := decide (y.epoch < x.epoch) || (decide (x.epoch = y.epoch) && decide (pathC x < pathC y))
def refB (l : List Nb) (r : Rk) : Nat -> Option Nat
  | 0 => none
  | k + 1 => if okNb r (l.getD k default) = true then
      (match refB l r k with
       | none => some k
       | some b => if beats (l.getD k default) (l.getD b default) = true then some k else some b)
    else refB l r k
theorem refB_lt {l : List Nb} {r : Rk} : ∀ {k b : Nat}, refB l r k = some b -> b < k
  | 0, b, h => by cases h
  | k + 1, b, h => by
    unfold refB at h
    split at h
    · split at h
      · injection h with h; omega
      · rename_i hb
        have := refB_lt hb
        split at h <;> (injection h with h; omega)
    · have := refB_lt h
      omega
end Go.Proofs.P
end
section
namespace Go.Proofs.P
open Go Go.Sx
theorem nb_lt {l : List Nb} (h : checkNb l = 0) {i : Nat} (h0 : 0 < i) (hi : i < l.length) : (l.getD (i - 1) default).node < (l.getD i default).node := by
  have := (checkNb_ok h).2 i hi
  unfold nbErr at this
  simp only at this
  split at this
  · split at this
    · cases this
    · rename_i hn; omega
  · cases this
theorem nb_mono {l : List Nb} (h : checkNb l = 0) {i j : Nat} (hij : i < j) (hj : j < l.length) : (l.getD i default).node < (l.getD j default).node := by
  induction j with
  | zero => omega
  | succ j ih =>
    have h1 := nb_lt h (i := j + 1) (by omega) hj
    simp only [Nat.add_sub_cancel] at h1
    rcases Nat.lt_or_ge i j with hl | hg
    · have := ih hl (by omega); omega
    · have : i = j := by omega
      subst this; exact h1
theorem bs_below {f : Nat -> Bool} {N : Nat} (hm : ∀ i j, i <= j -> j < N -> f j = true -> f i = true) (i j : Nat) (hj : j <= N) (h1 : ∀ k, k < i -> f k = true) (h2 : ∀ k, j <= k -> k < N -> f k = false) :
    (∀ k, k < bs f i j -> f k = true) /\ (∀ k, bs f i j <= k -> k < N -> f k = false) := by
  fun_induction bs f i j with
  | case1 i j hij hf ih => exact ih hj (fun k hk => hm k _ (by omega) (by omega) hf) h2
  | case2 i j hij hf ih =>
    refine ih (by omega) h1 (fun k hk hkN => ?_)
    cases hfk : f k with
    | false => rfl
    | true => exact absurd (hm _ k hk hkN hfk) (by simpa using hf)
  | case3 i j hij => exact ⟨fun k hk => h1 k hk, fun k hk => h2 k (by omega)⟩
theorem cmpI_lt {a b : Int} : cmpI a b < 0 ↔ a < b := by
  unfold cmpI; split
  · simp [*]
  · split
    · simp; omega
    · simp; omega
theorem cmpI_eq {a b : Int} : cmpI a b = 0 ↔ a = b := by
  unfold cmpI; split
  · simp; omega
  · split
    · simp; omega
    · simp; omega
theorem bsNb_ok {l : List Nb} (h : checkNb l = 0) (t : Int) : bsNb l t <= l.length /\ (∀ k, k < bsNb l t -> (l.getD k default).node < t) /\ (∀ k, bsNb l t <= k -> k < l.length -> t <= (l.getD k default).node) := by
  have := bs_below (f := fun i => decide (nbCmp t (l.getD i default) < 0)) (N := l.length) (by
    intro i j hij hj hf
    simp only [nbCmp, decide_eq_true_eq, cmpI_lt] at hf ⊢
    rcases Nat.lt_or_ge i j with hl | hg
    · have := nb_mono h hl hj; omega
    · have : i = j := by omega
      subst this; exact hf) 0 l.length (Nat.le_refl _) (fun k hk => absurd hk (Nat.not_lt_zero _)) (fun k hk hk2 => by omega)
  refine ⟨bs_le _ _ _ (Nat.zero_le _), fun k hk => ?_, fun k hk hk2 => ?_⟩
  · have := this.1 k hk
    simpa [nbCmp, cmpI_lt] using this
  · have := this.2 k hk hk2
    simpa [nbCmp, cmpI_lt] using this
theorem found_iff {l : List Nb} {t : Int} : foundNb l t = true ↔ bsNb l t < l.length /\ (l.getD (bsNb l t) default).node = t := by
  rw [found_t, nbCmp, cmpI_eq]
theorem okLk_eq (l : List Nb) (r : Rk) (k : Nat) : okLk r (mkLk l k) = okNb r (l.getD k default) := rfl
theorem minTo_app (ls : List Lk) (x : Lk) : ∀ j, j < ls.length -> minTo (ls ++ [x]) j = minTo ls j
  | 0, h => by
    simp only [minTo, List.getD_eq_getElem?_getD]
    rw [List.getElem?_append_left h]
  | j + 1, h => by
    have e : (ls ++ [x]).getD (j + 1) default = ls.getD (j + 1) default := by
      simp only [List.getD_eq_getElem?_getD]
      rw [List.getElem?_append_left h]
    simp only [minTo, minTo_app ls x j (by omega), e]
theorem better_beats {l : List Nb} (h : checkNb l = 0) {b k : Nat} (hb : b < k) (hk : k < l.length) : betterI (mkLk l k) (mkLk l b) < 0 ↔ beats (l.getD k default) (l.getD b default) = true := by
  have hn := nb_mono h hb hk
  have e1 : (mkLk l k).path = pathC (l.getD k default) := rfl
  have e2 : (mkLk l b).path = pathC (l.getD b default) := rfl
  have e3 : (mkLk l k).n = l.getD k default := rfl
  have e4 : (mkLk l b).n = l.getD b default := rfl
  simp only [betterI, beats, e1, e2, e3, e4, orI, Bool.or_eq_true, Bool.and_eq_true, decide_eq_true_eq]
  generalize pathC (l.getD k default) = p at *
  generalize pathC (l.getD b default) = q at *
  generalize (l.getD k default).epoch = ek at *
  generalize (l.getD b default).epoch = eb at *
  generalize (l.getD k default).node = nk at *
  generalize (l.getD b default).node = nb at *
  clear e1 e2 e3 e4
  have h1 := @cmpI_lt eb ek
  have h2 := @cmpI_eq eb ek
  have h3 := @cmpI_lt p q
  have h4 := @cmpI_eq p q
  have h5 := @cmpI_lt nk nb
  repeat' split
  all_goals omega
theorem best_ref {l : List Nb} (h : checkNb l = 0) (r : Rk) : ∀ k, k <= l.length -> match refB l r k with
    | none => links l r k = []
    | some b => links l r k ≠ [] /\ minTo (links l r k) ((links l r k).length - 1) = mkLk l b
  | 0, _ => rfl
  | k + 1, hk => by
    have ih := best_ref h r k (by omega)
    unfold refB links
    rw [okLk_eq]
    by_cases ho : okNb r (l.getD k default) = true
    · simp only [if_pos ho]
      cases hr : refB l r k with
      | none =>
        rw [hr] at ih
        simp only at ih ⊢
        rw [ih]
        exact ⟨by simp, rfl⟩
      | some b =>
        rw [hr] at ih
        simp only at ih ⊢
        obtain ⟨hne, hmin⟩ := ih
        have hlen : 0 < (links l r k).length := List.length_pos_iff.2 hne
        have hb := refB_lt hr
        have e : (links l r k ++ [mkLk l k]).length - 1 = (links l r k).length - 1 + 1 := by simp; omega
        have e2 : (links l r k ++ [mkLk l k]).getD ((links l r k).length - 1 + 1) default = mkLk l k := by
          rw [Nat.sub_add_cancel hlen]
          simp [List.getD_eq_getElem?_getD]
        have key : minTo (links l r k ++ [mkLk l k]) ((links l r k ++ [mkLk l k]).length - 1) = if beats (l.getD k default) (l.getD b default) = true then mkLk l k else mkLk l b := by
          rw [e, minTo, e2, minTo_app _ _ _ (by omega), hmin]
          by_cases hc : betterI (mkLk l k) (mkLk l b) < 0
          · rw [if_pos hc, if_pos ((better_beats h hb (by omega)).1 hc)]
          · rw [if_neg hc, if_neg (fun q => hc ((better_beats h hb (by omega)).2 q))]
        rw [key]
        by_cases hbt : beats (l.getD k default) (l.getD b default) = true
        · simp only [if_pos hbt]; exact ⟨by simp, trivial⟩
        · simp only [if_neg hbt]; exact ⟨by simp, trivial⟩
    · simp only [if_neg ho]
      exact ih
theorem hasLk_ref {l : List Nb} (h : checkNb l = 0) (r : Rk) : hasLk l r = (refB l r l.length).isSome := by
  have := best_ref h r l.length (Nat.le_refl _)
  unfold hasLk
  cases hr : refB l r l.length with
  | none => rw [hr] at this; simp only at this; rw [this]; rfl
  | some b => rw [hr] at this; simp only at this; simp [this.1]
theorem bestLk_ref {l : List Nb} (h : checkNb l = 0) (r : Rk) {b : Nat} (hb : refB l r l.length = some b) : bestLk l r = mkLk l b := by
  have := best_ref h r l.length (Nat.le_refl _)
  rw [hb] at this
  exact this.2
theorem refB_ok {l : List Nb} {r : Rk} : ∀ {k b : Nat}, refB l r k = some b -> okNb r (l.getD b default) = true
  | 0, b, h => by cases h
  | k + 1, b, h => by
    unfold refB at h
    split at h
    · rename_i ho
      split at h
      · injection h with h; subst h; exact ho
      · rename_i hb
        have := refB_ok hb
        split at h <;> (injection h with h; subst h; first | exact ho | exact this)
    · exact refB_ok h
end Go.Proofs.P
end
section
namespace Go.Proofs.P
open Go Go.Sx
set_option maxRecDepth 4000
attribute [local irreducible] VR VC thenQ blockQ
end Go.Proofs.P
end
section
namespace Go.Proofs.P
open Go Go.Sx
set_option maxRecDepth 4000
attribute [local irreducible] VR VC thenQ blockQ
def l0 : List Nb := [⟨2, 1, 128, 0, 10, 8⟩, ⟨3, 1, 256, 0, 5, 5⟩]
end Go.Proofs.P
end
section
namespace Go.Proofs.P
open Go Go.Sx
theorem rk_lose {r : Rk} (h : rkErr r = 0) : rkErr (lose' r) = 0 := by
  unfold lose'
  split
  · rename_i hn
    obtain ⟨h1, h2, h3, h4⟩ := rk_ok h
    refine rk_of h1 h2 ?_ ?_
    · simp only [leastB] at h3 ⊢; exact h3
    · simp only [rightB] at h4 ⊢
      rw [if_neg hn.2] at h4 ⊢
      split at h4
      · simp only [Bool.and_eq_true, decide_eq_true_eq] at h4 ⊢
        simp only [if_true, decide_true, Bool.true_and]
        exact h4.2
      · simp only [Bool.and_eq_true, decide_eq_true_eq] at h4
        simp only [if_true, decide_true, Bool.true_and, Bool.or_eq_true, decide_eq_true_eq]
        left; omega
  · exact h
theorem rk_range {r : Rk} (h : rkErr r = 0) : (0 <= r.node /\ r.node <= 31) /\ 0 <= r.epoch /\ r.epoch <= 65535 := by
  obtain ⟨h1, h2, _, _⟩ := rk_ok h
  simp only [nodeB, inR_t] at h1 h2
  exact ⟨h1, h2⟩
structure CanAdopt (r : Rk) (fr e k c : Int) : Prop where
  right : rkErr r = 0
  notRoot : r.node ≠ 0
  fr : 0 <= fr /\ fr <= 31 /\ fr ≠ r.node
  adv : (1 <= e /\ e <= 65535) /\ 0 <= k /\ k <= 65534
  cost : 1 <= c /\ c <= 1023
  feas : r.epoch < e \/ (e = r.epoch /\ k < r.least)
  path : k + c < 65535
theorem adopt_yes {r : Rk} {fr e k c : Int} (h : CanAdopt r fr e k c) : adopt' r fr e k c = ({ begin' r e with parent := fr, heard := k, rank := k + c }, 0) := by
  have ha : advB e k = true := by rw [advB_t]; exact h.adv
  have hn : nodeB fr = true := by simp only [nodeB, inR_t]; exact ⟨h.fr.1, h.fr.2.1⟩
  have hc : inR c 1 1023 = true := by rw [inR_t]; exact h.cost
  have hf : feasB r e k = true := by
    have := h.feas
    simp only [feasB, h.right, ha, Bool.and_eq_true, Bool.or_eq_true, decide_eq_true_eq, ne_eq]
    exact ⟨⟨⟨trivial, h.notRoot⟩, trivial⟩, this⟩
  unfold adopt'
  rw [if_neg (by simp [h.right]), if_neg (by simp [ha, hn, hc, h.fr.2.2]), if_neg (by simp [hf]), if_neg (by have := h.path; omega)]
theorem adopt_or (r : Rk) (fr e k c : Int) : CanAdopt r fr e k c \/ (adopt' r fr e k c).2 ≠ 0 := by
  unfold adopt'
  split
  · right; decide
  · rename_i h1
    split
    · right; decide
    · rename_i h2
      split
      · right; decide
      · rename_i h3
        split
        · right; decide
        · rename_i h4
          left
          simp only [ne_eq, Decidable.not_not] at h1
          simp only [Bool.not_eq_false, Bool.and_eq_true, decide_eq_true_eq, advB_t, inR_t, nodeB] at h2
          simp only [Bool.not_eq_false, feasB, Bool.and_eq_true, decide_eq_true_eq, Bool.or_eq_true] at h3
          exact ⟨h1, h3.1.1.2, ⟨h2.1.1.1.1, h2.1.1.1.2, h2.1.1.2⟩, h2.1.2, h2.2, h3.2, by omega⟩
def adopted (r : Rk) (fr e k c : Int) : Rk := { begin' r e with parent := fr, heard := k, rank := k + c }
theorem begin_le {r : Rk} {e : Int} (h : r.epoch <= e) : (begin' r e).epoch = e := by
  unfold begin'; split
  · rfl
  · omega
theorem rk_adopted {r : Rk} {fr e k c : Int} (h : CanAdopt r fr e k c) : rkErr (adopted r fr e k c) = 0 := by
  obtain ⟨h1, h2, h3, h4⟩ := rk_ok h.right
  have hfe := h.feas
  have ha := h.adv
  have hc := h.cost
  have hp := h.path
  have hfr := h.fr
  have hnr := h.notRoot
  have hep : (begin' r e).epoch = e := begin_le (by omega)
  have hnode : (begin' r e).node = r.node := by unfold begin'; split <;> rfl
  have hls : k < (begin' r e).least /\ inR (begin' r e).least 1 65535 = true := by
    unfold begin'
    split
    · exact ⟨by dsimp only; omega, by dsimp only; decide⟩
    · simp only [leastB, Bool.or_eq_true, Bool.and_eq_true, decide_eq_true_eq] at h3
      have : inR r.least 1 65535 = true := h3.resolve_right (fun q => hnr q.1)
      exact ⟨by omega, this⟩
  refine rk_of ?_ ?_ ?_ ?_
  · show nodeB (begin' r e).node = true; rw [hnode]; exact h1
  · show inR (begin' r e).epoch 0 65535 = true; rw [hep, inR_t]; omega
  · simp only [leastB, adopted, hls.2, Bool.true_or]
  · simp only [rightB, adopted, hnode, hep]
    rw [if_neg hnr, if_neg (by omega)]
    simp only [Bool.and_eq_true, decide_eq_true_eq, nodeB, inR_t, ne_eq]
    have := hls.1
    omega
theorem can_again {r : Rk} {fr e k c : Int} (h : CanAdopt r fr e k c) : CanAdopt (adopted r fr e k c) fr e k c := by
  have hfe := h.feas
  have hnode : (begin' r e).node = r.node := by unfold begin'; split <;> rfl
  have hep : (begin' r e).epoch = e := begin_le (by omega)
  refine ⟨rk_adopted h, ?_, ?_, h.adv, h.cost, .inr ⟨hep.symm, ?_⟩, h.path⟩
  · show (begin' r e).node ≠ 0; rw [hnode]; exact h.notRoot
  · refine ⟨h.fr.1, h.fr.2.1, ?_⟩
    show fr ≠ (begin' r e).node; rw [hnode]; exact h.fr.2.2
  · show k < (begin' r e).least
    have ha := h.adv
    unfold begin'
    split
    · dsimp only; omega
    · omega
theorem adopted_again {r : Rk} {fr e k c : Int} (h : CanAdopt r fr e k c) : adopted (adopted r fr e k c) fr e k c = adopted r fr e k c := by
  have hfe := h.feas
  have hep : (begin' r e).epoch = e := begin_le (by omega)
  have : begin' (adopted r fr e k c) e = adopted r fr e k c := by
    unfold begin'
    rw [if_neg]
    show ¬ (begin' r e).epoch < e
    omega
  calc adopted (adopted r fr e k c) fr e k c = { begin' (adopted r fr e k c) e with parent := fr, heard := k, rank := k + c } := rfl
    _ = { adopted r fr e k c with parent := fr, heard := k, rank := k + c } := by rw [this]
    _ = adopted r fr e k c := rfl
theorem update_cases {r : Rk} {e k c : Int} (hr : rkErr r = 0) (hp : r.parent ≠ -1) (ha : advB e k = true) (hc : inR c 1 1023 = true) : (update' r e k c).2 = 0 /\
    ((e < r.epoch /\ (update' r e k c).1 = r) \/ (r.epoch <= e /\ CanAdopt r r.parent e k c /\ (update' r e k c).1 = adopted r r.parent e k c) \/ (r.epoch <= e /\ (update' r e k c).1 = lose' (begin' r e))) := by
  unfold update'
  rw [if_neg (by simp [hr]), if_neg (by simp [ha, hc]), if_neg hp]
  split
  · exact ⟨rfl, .inl ⟨‹_›, rfl⟩⟩
  · rename_i he
    rcases adopt_or r r.parent e k c with h | h
    · rw [adopt_yes h]
      exact ⟨rfl, .inr (.inl ⟨by omega, h, rfl⟩)⟩
    · rw [if_neg h]
      exact ⟨rfl, .inr (.inr ⟨by omega, rfl⟩)⟩
theorem lose_parent {r : Rk} (h : rkErr r = 0) : (lose' r).parent = -1 := by
  unfold lose'
  split
  · rfl
  · rename_i hn
    obtain ⟨_, _, _, h4⟩ := rk_ok h
    have h0 : r.node = 0 := by
      by_cases hz : r.node = 0
      · exact hz
      · exact absurd ⟨h, hz⟩ hn
    unfold rightB at h4
    rw [if_pos h0] at h4
    simp only [Bool.and_eq_true, decide_eq_true_eq] at h4
    exact h4.1.1.1.2
theorem cost_range {l : List Nb} (h : checkNb l = 0) {k : Nat} (hk : k < l.length) : inR (costC (l.getD k default).att (l.getD k default).ack) 1 1023 = true := by
  have ⟨_, h1, h2⟩ := nbErr_ok ((checkNb_ok h).2 k hk)
  generalize (l.getD k default).att = a at *
  generalize (l.getD k default).ack = b at *
  rw [inR_t]
  unfold costC
  split
  · omega
  · split
    · omega
    · split
      · omega
      · have hb : 0 < b := by omega
        have h3 : 1 <= (128 * a + b - 1) / b := by
          rw [Int.le_ediv_iff_mul_le hb]; omega
        omega
theorem adv_range {l : List Nb} (h : checkNb l = 0) {k : Nat} (hk : k < l.length) : advB (l.getD k default).epoch (l.getD k default).rank = true /\ 0 <= (l.getD k default).node /\ (l.getD k default).node <= 31 := by
  have ⟨h0, _, _⟩ := nbErr_ok ((checkNb_ok h).2 k hk)
  simp only [heardB, Bool.and_eq_true, inR_t] at h0
  rw [advB_t]
  exact ⟨⟨h0.1.1.2, h0.1.2⟩, h0.1.1.1⟩
theorem find_at {l : List Nb} (h : checkNb l = 0) {b : Nat} (hb : b < l.length) : foundNb l (l.getD b default).node = true /\ bsNb l (l.getD b default).node = b := by
  obtain ⟨h1, h2, h3⟩ := bsNb_ok h (l.getD b default).node
  have hge : bsNb l (l.getD b default).node <= b := by
    rcases Nat.lt_or_ge b (bsNb l (l.getD b default).node) with hl | hg
    · have := h2 b hl; omega
    · exact hg
  have heq : bsNb l (l.getD b default).node = b := by
    rcases Nat.lt_or_ge (bsNb l (l.getD b default).node) b with hl | hg
    · have := nb_mono h hl hb
      have := h3 _ (Nat.le_refl _) (by omega)
      omega
    · omega
  exact ⟨by rw [found_iff, heq]; exact ⟨hb, rfl⟩, heq⟩
theorem refB_best {l : List Nb} {r : Rk} : ∀ {k b : Nat}, refB l r k = some b -> ∀ i, i < k -> okNb r (l.getD i default) = true -> beats (l.getD i default) (l.getD b default) = false
  | 0, b, h, _, _, _ => by cases h
  | k + 1, b, h, i, hi, hok => by
    unfold refB at h
    by_cases ho : okNb r (l.getD k default) = true
    · rw [if_pos ho] at h
      cases hr : refB l r k with
      | none =>
        rw [hr] at h
        injection h with h; subst h
        by_cases hik : i = k
        · subst hik; simp [beats]
        · exfalso
          have : ∀ j, refB l r j = none -> ∀ i, i < j -> okNb r (l.getD i default) = false := by
            intro j
            induction j with
            | zero => intro _ i hi; omega
            | succ j ih =>
              intro hn i hi
              unfold refB at hn
              by_cases hoj : okNb r (l.getD j default) = true
              · rw [if_pos hoj] at hn
                split at hn
                · cases hn
                · split at hn <;> cases hn
              · rw [if_neg hoj] at hn
                by_cases hij : i = j
                · subst hij; simpa using hoj
                · exact ih hn i (by omega)
          rw [this k hr i (by omega)] at hok
          cases hok
      | some b0 =>
        rw [hr] at h
        simp only at h
        split at h
        · rename_i hbt
          injection h with h; subst h
          by_cases hik : i = k
          · subst hik; simp [beats]
          · have h2 := refB_best hr i (by omega) hok
            simp only [beats, Bool.or_eq_true, Bool.and_eq_true, decide_eq_true_eq] at hbt
            simp only [beats, Bool.or_eq_false_iff, Bool.and_eq_false_iff, decide_eq_false_iff_not] at h2 ⊢
            omega
        · rename_i hbt
          injection h with h; subst h
          by_cases hik : i = k
          · subst hik; simpa using hbt
          · exact refB_best hr i (by omega) hok
    · rw [if_neg ho] at h
      by_cases hik : i = k
      · subst hik; exact absurd hok ho
      · exact refB_best h i (by omega) hok
end Go.Proofs.P
end
section
namespace Go.Proofs.P
open Go Go.Sx
set_option maxRecDepth 4000
attribute [local irreducible] VR VC thenQ blockQ
abbrev updAt (l : List Nb) (s : Rk) (b : Nat) : Rk × Int := update' s (l.getD b default).epoch (l.getD b default).rank (costC (l.getD b default).att (l.getD b default).ack)
abbrev adoAt (l : List Nb) (s : Rk) (b : Nat) : Rk := adopted s (l.getD b default).node (l.getD b default).epoch (l.getD b default).rank (costC (l.getD b default).att (l.getD b default).ack)
abbrev CanAt (l : List Nb) (s : Rk) (b : Nat) : Prop := CanAdopt s (l.getD b default).node (l.getD b default).epoch (l.getD b default).rank (costC (l.getD b default).att (l.getD b default).ack)
theorem begin_node (r : Rk) (e : Int) : (begin' r e).node = r.node := by unfold begin'; split <;> rfl
theorem lose_node (r : Rk) : (lose' r).node = r.node := by unfold lose'; split <;> rfl
theorem stepA_low {l : List Nb} {s : Rk} (h : s.parent < 0) : stepA l s = s := by unfold stepA; rw [if_neg (by omega)]
theorem stepA_at {l : List Nb} (hl : checkNb l = 0) {s : Rk} {b : Nat} (hb : b < l.length) (h : s.parent = (l.getD b default).node) : stepA l s = (updAt l s b).1 := by
  obtain ⟨h1, h2⟩ := find_at hl hb
  have := (adv_range hl hb).2.1
  unfold stepA
  rw [if_pos (by omega), h, if_pos h1, h2]
theorem update_adopted {q : Rk} {fr e k c : Int} (h : CanAdopt q fr e k c) : update' (adopted q fr e k c) e k c = (adopted q fr e k c, 0) := by
  have h2 := can_again h
  have hp : (adopted q fr e k c).parent = fr := rfl
  have hfe := h.feas
  have hep : (adopted q fr e k c).epoch = e := begin_le (by omega)
  have ha : advB e k = true := by rw [advB_t]; exact h.adv
  have hc : inR c 1 1023 = true := by rw [inR_t]; exact h.cost
  have hfr := h.fr
  unfold update'
  rw [if_neg (by simp [h2.right]), if_neg (by simp [ha, hc]), if_neg (by rw [hp]; omega), if_neg (by rw [hep]; omega), hp, adopt_yes h2, if_pos rfl]
  exact Prod.ext (adopted_again h) rfl
theorem stepA_adopted {l : List Nb} (hl : checkNb l = 0) {s : Rk} {b : Nat} (hb : b < l.length) (h : CanAt l s b) : stepA l (adoAt l s b) = adoAt l s b := by
  rw [stepA_at hl hb rfl]
  exact congrArg Prod.fst (update_adopted h)
theorem stepA_cases {l : List Nb} (hl : checkNb l = 0) {r : Rk} (hr : rkErr r = 0) (hn : r.node ≠ 0) : rkErr (stepA l r) = 0 /\ (stepA l r).node = r.node /\
    (((stepA l r).parent = -1) \/ stepA l r = r \/ ∃ b, b < l.length /\ r.parent = (l.getD b default).node /\ CanAt l r b /\ stepA l r = adoAt l r b) := by
  by_cases hp : r.parent < 0
  · rw [stepA_low hp]; exact ⟨hr, rfl, .inr (.inl rfl)⟩
  by_cases hf : foundNb l r.parent = true
  · obtain ⟨hb, he⟩ := found_iff.1 hf
    obtain ⟨ha, _⟩ := adv_range hl hb
    rw [stepA_at hl hb he.symm]
    obtain ⟨_, h⟩ := update_cases hr (by omega) ha (cost_range hl hb)
    rcases h with ⟨_, h⟩ | ⟨_, hc, h⟩ | ⟨_, h⟩
    · rw [h]; exact ⟨hr, rfl, .inr (.inl rfl)⟩
    · rw [h]
      have hc' : CanAt l r (bsNb l r.parent) := by unfold CanAt; rw [he]; exact hc
      refine ⟨rk_adopted hc, begin_node _ _, .inr (.inr ⟨_, hb, he.symm, hc', ?_⟩)⟩
      unfold adoAt; rw [he]
    · rw [h]
      rw [advB_t] at ha
      have hb' := rk_begin hr ha.1 (show r.parent ≠ -1 by omega)
      exact ⟨rk_lose hb', by rw [lose_node, begin_node], .inl (lose_parent hb')⟩
  · have e : stepA l r = lose' r := by unfold stepA; rw [if_pos (by omega), if_neg hf]
    rw [e]
    exact ⟨rk_lose hr, lose_node _, .inl (lose_parent hr)⟩
theorem stepA_again {l : List Nb} (hl : checkNb l = 0) {r : Rk} (hr : rkErr r = 0) (hn : r.node ≠ 0) : stepA l (stepA l r) = stepA l r := by
  obtain ⟨_, _, h⟩ := stepA_cases hl hr hn
  rcases h with h | h | ⟨b, hb, _, hc, h⟩
  · exact stepA_low (by omega)
  · rw [h]
    exact h
  · rw [h]; exact stepA_adopted hl hb hc
theorem wrap_small {a : Int} (h : -9223372036854775808 <= a /\ a <= 9223372036854775807) : IntKind.i64.wrap a = a := wrap_i64 h
theorem path_eq {l : List Nb} (hl : checkNb l = 0) {b : Nat} (hb : b < l.length) : pathC (l.getD b default) = (l.getD b default).rank + costC (l.getD b default).att (l.getD b default).ack := by
  have h1 := (adv_range hl hb).1
  have h2 := cost_range hl hb
  rw [advB_t] at h1
  rw [inR_t] at h2
  exact wrap_small (by omega)
theorem can_of_ok {l : List Nb} (hl : checkNb l = 0) {s : Rk} {b : Nat} (hb : b < l.length) (h : okNb s (l.getD b default) = true) : CanAt l s b := by
  have h1 := adv_range hl hb
  have h2 := cost_range hl hb
  have h3 := path_eq hl hb
  rw [advB_t] at h1
  rw [inR_t] at h2
  simp only [okNb, feasB, Bool.and_eq_true, Bool.or_eq_true, decide_eq_true_eq, ne_eq] at h
  exact ⟨h.1.2.1.1.1, h.1.2.1.1.2, ⟨h1.2.1, h1.2.2, h.1.1⟩, h1.1, h2, h.1.2.2, by omega⟩
theorem takeB_some {l : List Nb} (hl : checkNb l = 0) {s : Rk} {m : Int} (h : takeB l s m = true) : ∃ b, refB l s l.length = some b /\ b < l.length /\ okNb s (l.getD b default) = true /\ CanAt l s b /\ stepB l s m = adoAt l s b /\
    (s.parent = -1 \/ s.epoch < (l.getD b default).epoch \/ IntKind.i64.wrap (pathC (l.getD b default) + m) < s.rank) := by
  have h' := h
  unfold takeB at h
  simp only [Bool.and_eq_true, Bool.or_eq_true, decide_eq_true_eq] at h
  rw [hasLk_ref hl] at h
  obtain ⟨b, hb⟩ := Option.isSome_iff_exists.1 h.1
  rw [bestLk_ref hl _ hb] at h
  have hbl := refB_lt hb
  have hok := refB_ok hb
  have hc := can_of_ok hl hbl hok
  refine ⟨b, hb, hbl, hok, hc, ?_, ?_⟩
  · unfold stepB
    rw [if_pos h', bestLk_ref hl _ hb]
    exact congrArg Prod.fst (adopt_yes hc)
  · rcases h.2 with (h2 | h2) | h2
    · exact .inl h2
    · exact .inr (.inl h2)
    · exact .inr (.inr h2)
theorem take_again {l : List Nb} (hl : checkNb l = 0) {s : Rk} {m : Int} (hm : 0 <= m /\ m <= 65535) {b : Nat} (hb : refB l s l.length = some b) : takeB l (adoAt l s b) m = false := by
  have hbl := refB_lt hb
  have hok := refB_ok hb
  have hc := can_of_ok hl hbl hok
  cases ht : takeB l (adoAt l s b) m with
  | false => rfl
  | true =>
    exfalso
    obtain ⟨b', hb', hbl', hok', hc', _, h⟩ := takeB_some hl ht
    have hep : (adoAt l s b).epoch = (l.getD b default).epoch := begin_le (by have := hc.feas; omega)
    have hfe := hc.feas
    have hfe' := hc'.feas
    have hok2 : okNb s (l.getD b' default) = true := by
      simp only [okNb, Bool.and_eq_true, decide_eq_true_eq, ne_eq] at hok' ⊢
      refine ⟨⟨?_, ?_⟩, hok'.2⟩
      · have := hok'.1.1
        rw [show (adoAt l s b).node = s.node from begin_node _ _] at this
        exact this
      · simp only [feasB, Bool.and_eq_true, Bool.or_eq_true, decide_eq_true_eq, ne_eq]
        refine ⟨⟨⟨hc.right, hc.notRoot⟩, (adv_range hl hbl').1⟩, ?_⟩
        by_cases he : s.epoch < (l.getD b default).epoch
        · left; omega
        · have hls : (adoAt l s b).least = s.least := by
            show (begin' s _).least = s.least
            unfold begin'; rw [if_neg he]
          omega
    have hnb := refB_best hb b' hbl' hok2
    simp only [beats, Bool.or_eq_false_iff, Bool.and_eq_false_iff, decide_eq_false_iff_not] at hnb
    have hp : (adoAt l s b).parent = (l.getD b default).node := rfl
    have hrk : (adoAt l s b).rank = pathC (l.getD b default) := (path_eq hl hbl).symm
    have h0 := (adv_range hl hbl).2.1
    have h1 := adv_range hl hbl'
    have h2 := cost_range hl hbl'
    have h3 := path_eq hl hbl'
    rw [advB_t] at h1
    rw [inR_t] at h2
    simp only [okNb, Bool.and_eq_true, decide_eq_true_eq] at hok2
    rw [wrap_small (by omega)] at h
    omega
structure Steady (l : List Nb) (r a : Rk) (m : Int) : Prop where
  right : rkErr a = 0
  node : a.node = r.node
  stepA : stepA l a = a
  take : takeB l a m = false
theorem steady_of {l : List Nb} (hl : checkNb l = 0) {r : Rk} (hr : rkErr r = 0) (hn : r.node ≠ 0) {m : Int} (hm : 0 <= m /\ m <= 65535) : Steady l r (stepB l (stepA l r) m) m := by
  obtain ⟨h1, h2, _⟩ := stepA_cases hl hr hn
  by_cases ht : takeB l (stepA l r) m = true
  · obtain ⟨b, hb, hbl, hok, hc, he, _⟩ := takeB_some hl ht
    rw [he]
    exact ⟨rk_adopted hc, (begin_node _ _).trans h2, stepA_adopted hl hbl hc, take_again hl hm hb⟩
  · have e : stepB l (stepA l r) m = stepA l r := by unfold stepB; rw [if_neg ht]
    rw [e]
    exact ⟨h1, h2, stepA_again hl hr hn, by simpa using ht⟩
end Go.Proofs.P
end
section
namespace Go.Proofs.P
open Go Go.Sx
set_option maxRecDepth 4000
attribute [local irreducible] VR VC thenQ blockQ
abbrev predφ (p : Nb -> Bool) : List DV -> DV -> Prop := fun ds r => ∃ x : Nb, ds = [.agg x.enc] /\ r = .d (.bool (p x))
def fstO (l : List Nb) (p : Nb -> Bool) : Option Nat := (List.range l.length).find? fun i => p (l.getD i default)
theorem idxf_spec (l : List Nb) (p : Nb -> Bool) : FnS Tryz.prog 208 [AD (nbs l), .clo (predφ p)] [] (AI (oI (fstO l p))) [] := by
  refine FnS.of_body (enters_of Tryz.func208 (by kernel_rfl) rfl) Tryz.func208 rfl Tryz.ntmps208 Tryz.results208 rfl rfl rfl rfl fun E hS => ?_
  refine vc_bound (t := 0) rfl fun hb => ?_
  repeat' (first | (show VR _ _ _ (_ :: _) _ _ _; first | refine x_opF rfl (by first | exact True.intro | omega) ?_) | (show VR _ _ _ [] _ _ _; first | refine vr_nil ?_) | (show thenQ _ _ _ _; first | refine q_then_n ?_) | refine vc_seq ?_ | refine vc_region ?_ | refine vc_block ?_)
  refine vc_loopI (ι := Nat) (fun k => stOf [(0, AD (nbs l)), (1, .clo (predφ p)), (7, AI l.length), (8, AI k)] []) (fun k => k <= l.length /\ ∀ i, i < k -> p (l.getD i default) = false) (fun k => l.length - k) 0 ⟨Nat.zero_le _, fun i hi => absurd hi (Nat.not_lt_zero _)⟩ ?_ ?_
  · exact le_of ⟨rfl, rfl, rfl, rfl, trivial⟩ trivial rfl
  · intro k hk
    repeat' (first | (show VR _ _ _ (_ :: _) _ _ _; first | refine x_opF rfl (by first | exact True.intro | omega) ?_ | (show VR _ _ _ (⟨_, .call ⟨.value _, _, _⟩, _, _, _, _⟩ :: _) _ _ _; first | refine vr_clo (⟨_, rfl, rfl⟩) (gk rfl) rfl rfl rfl rfl ?_) | (show VR _ _ _ (⟨_, .indexAddr _ _ _, _, _, _, _⟩ :: _) _ _ _; first | refine vr_index_rd (gk rfl) rfl rfl rfl rfl rfl (by omega) rfl ?_)) | (show VR _ _ _ [] _ _ _; first | refine vr_nil ?_) | (show thenQ _ _ _ _; first | refine q_then_n ?_ | refine q_then_x ?_ | refine q_then_r ?_) | (show blockQ _ _ _ _; first | refine q_blk_n ?_ | refine q_blk_r ?_ | refine q_blk_x ?_) | refine vc_seq ?_ | refine vc_region ?_ | (show VC _ (.cond _ _ _) _ _; first | (refine x_cond rfl ?_ ?_ <;> intro h <;> have hq := h <;> (try simp only [decide_eq_true_eq, decide_eq_false_iff_not, Int.not_lt, Int.not_le, ne_eq, Decidable.not_not, Bool.not_eq_true', Bool.not_eq_false'] at hq))) | refine vc_ret ?_ | refine vc_exit ?_ | refine vc_block ?_ | refine vc_skip ?_)
    · refine ret_int isRet_r rfl ?_
      rw [fstO, find_hit hk.2 (by omega) h]; rfl
    · refine ⟨k + 1, ⟨by omega, fun i hi => ?_⟩, by omega, le_of ⟨rfl, rfl, rfl, rfl, trivial⟩ trivial rfl⟩
      by_cases hik : i < k
      · exact hk.2 i hik
      · have : i = k := by omega
        subst this
        exact h
    · refine ret_int isRet_r rfl ?_
      have : k = l.length := by omega
      subst this
      rw [fstO, find_none hk.2]; rfl
def Rk.enc (r : Rk) : List D := [.int .i64 r.node, .int .i64 r.epoch, .int .i64 r.parent, .int .i64 r.heard, .int .i64 r.rank, .int .i64 r.least]
end Go.Proofs.P
end
section
namespace Go.Proofs.P
open Go Go.Sx
set_option maxRecDepth 4000
attribute [local irreducible] VR VC thenQ blockQ retL
theorem clone_spec (l : List Nb) (hl : l.length <= 100000) : FnS Tryz.prog 132 [AD (nbs l)] [] (.c (.row 7 l.length)) [(7, .row 227 6 (rowOf Nb.enc l))] := by
  refine FnS.of_body (enters_of Tryz.func132 (by kernel_rfl) rfl) Tryz.func132 rfl Tryz.ntmps132 Tryz.results132 rfl rfl rfl rfl fun E hS => ?_
  refine vc_retL ?_
  repeat' (first | (show VR _ _ _ (_ :: _) _ _ _; first | refine x_opF rfl (by first | exact True.intro | omega) ?_) | (show VR _ _ _ [] _ _ _; first | refine vr_nil ?_) | (show thenQ _ _ _ _; first | refine q_then_n ?_) | (show VC _ (.seq _ _) _ _; (fail_if_success (show VC _ (.seq (.seq (.region 1 _ _) _) _) _ _)); (fail_if_success (show VC _ (.seq (.region 1 _ _) _) _ _)); refine vc_seq ?_) | refine vc_region ?_)
  refine vc_seq ?_
  refine vc_seq ?_
  refine vc_isnil rfl rfl rfl rfl fun b hb => ?_
  repeat' (first | (show VR _ _ _ (_ :: _) _ _ _; first | refine x_opF rfl (by first | exact True.intro | omega) ?_ | (show VR _ _ _ (⟨_, .call ⟨.builtin .append, _, _⟩, _, _, _, _⟩ :: _) _ _ _; first | refine vr_append0 (gk rfl) rfl rfl rfl (by first | rfl | exact rowOf_length.symm | (simp only [rowOf_length, List.length_set, List.length_replicate, List.length_append, List.length_take, List.length_cons, List.length_nil, List.length_map, List.length_drop, List.length_range] <;> omega)) (by first | exact .row rfl (by first | rfl | exact rowOf_length.symm) | exact .rd | exact .nils) rfl rfl rfl (by (try dsimp only); omega) rfl rfl ?_)) | (show VR _ _ _ [] _ _ _; first | refine vr_nil ?_) | (show thenQ _ _ _ _; first | refine q_then_n ?_ | refine q_then_r ?_) | refine vc_seq ?_ | refine vc_region ?_ | (show VC _ (.cond _ _ _) _ _; first | (refine x_cond rfl ?_ ?_ <;> intro h <;> have hq := h <;> (try simp only [decide_eq_true_eq, decide_eq_false_iff_not, Int.not_lt, Int.not_le, ne_eq, Decidable.not_not, Bool.not_eq_true', Bool.not_eq_false'] at hq))) | refine vc_ret ?_ | refine vc_skip ?_)
  · have h0 : l = [] := List.eq_nil_of_length_eq_zero (hb (by assumption))
    subst h0
    exact retL_of (le_nil (T := 227) (sz := 6) (nm := 7) (t := 2) rfl rfl) (ret_row isRet_r rfl rfl)
  · refine retL_of (le_gen0 (l := [(2, .c (.row 7 l.length))]) (b := [(7, .row 227 6 (rowOf Nb.enc l))]) (fun n => n) ⟨⟨_, rfl, .c (.row rfl (by simp))⟩, trivial⟩ ⟨⟨_, rfl, .rowD ?_ rowOf_isD⟩, trivial⟩ rfl (by simp only [wfL, List.all_cons, List.all_nil, rowOf_blk]; rfl)) (ret_row isRet_r rfl rfl)
    exact (List.nil_append _).trans (rd_rowOf (enc := Nb.enc) (sz := 6) fun _ => rfl)
theorem fst_none {l : List Nb} {p : Nb -> Bool} (h : fstO l p = none) : ∀ x ∈ l, p x = false := by
  intro x hx
  obtain ⟨i, hi, rfl⟩ := List.getElem_of_mem hx
  have := List.find?_eq_none.1 h i (List.mem_range.2 hi)
  simpa [List.getD_eq_getElem?_getD, List.getElem?_eq_getElem hi] using this
theorem fst_some {l : List Nb} {p : Nb -> Bool} {i : Nat} (h : fstO l p = some i) : i < l.length /\ p (l.getD i default) = true /\ ∀ k, k < i -> p (l.getD k default) = false := by
  refine ⟨List.mem_range.1 (List.mem_of_find?_eq_some h), List.find?_some (p := fun i => p (l.getD i default)) h, fun k hk => ?_⟩
  rw [fstO, List.find?_range_eq_some] at h
  simpa using h.2.2 k hk
theorem filter_none {l : List Nb} {p : Nb -> Bool} (h : ∀ x ∈ l, p x = false) : l.filter (fun x => !p x) = l := by
  rw [List.filter_eq_self]; intro x hx; simp [h x hx]
theorem take_getD {l : List Nb} {i : Nat} (h : i < l.length) : l.take (i + 1) = l.take i ++ [l.getD i default] := by
  rw [List.take_add_one, List.getD_eq_getElem?_getD, List.getElem?_eq_getElem h]; rfl
theorem mem_take_getD {l : List Nb} {i : Nat} {x : Nb} (h : x ∈ l.take i) : ∃ k, k < i /\ k < l.length /\ x = l.getD k default := by
  obtain ⟨k, hk, rfl⟩ := List.getElem_of_mem h
  rw [List.length_take] at hk
  refine ⟨k, by omega, by omega, ?_⟩
  rw [List.getElem_take, List.getD_eq_getElem?_getD, List.getElem?_eq_getElem (by omega)]; rfl
theorem del_start {l : List Nb} {p : Nb -> Bool} {i : Nat} (hi : i < l.length) (hp : p (l.getD i default) = true) (hlt : ∀ k, k < i -> p (l.getD k default) = false) : l.take i = (l.take (i + 1)).filter (fun x => !p x) := by
  rw [take_getD hi, List.filter_append, filter_none (fun x hx => by obtain ⟨k, h1, _, rfl⟩ := mem_take_getD hx; exact hlt k h1)]
  rw [List.filter_cons_of_neg (by simpa using hp)]; simp
theorem drop_getD {l L : List Nb} {k : Nat} (h3 : L.length = l.length) (h5 : L.drop k = l.drop k) (hk : k < l.length) : L.getD k default = l.getD k default /\ L.drop (k + 1) = l.drop (k + 1) := by
  refine ⟨?_, ?_⟩
  · have := congrArg (fun x => x[0]?) h5
    simp only [List.getElem?_drop, Nat.add_zero] at this
    rw [List.getD_eq_getElem?_getD, List.getD_eq_getElem?_getD, this]
  · rw [<- List.drop_drop, <- List.drop_drop, h5]
theorem take_set {L : List Nb} {j : Nat} {x : Nb} (h : j < L.length) : (L.set j x).take (j + 1) = L.take j ++ [x] := by
  rw [List.take_add_one, List.take_set_of_le (Nat.le_refl _)]
  simp [h]
theorem del_spec (l : List Nb) (p : Nb -> Bool) (hl : l.length <= 100000) : FnS Tryz.prog 152 [.c (.row 0 l.length), .clo (predφ p)] [(0, .row 227 6 (rowOf Nb.enc l))]
    (.c (.row 0 (l.filter fun x => !p x).length)) [(0, .row 227 6 (rowOf Nb.enc (l.filter fun x => !p x)))] := by
  refine FnS.of_bodyM (enters_of Tryz.func152 (by kernel_rfl) rfl) Tryz.func152 rfl Tryz.ntmps152 Tryz.results152 rfl (by first | rfl | (simp only [wfRes, wfL, wfArgs, List.all_cons, List.all_nil, rowOf_blk]; rfl)) rfl fun E => ?_
  refine vc_retL ?_
  have hidx := idxf_spec l p
  cases hf : fstO l p with
  | none =>
    rw [hf] at hidx
    have hidx' : FnS Tryz.prog 208 [AD (nbs l), .clo (predφ p)] [] (AI (-1)) [] := hidx
    repeat' (first | (show VR _ _ _ (_ :: _) _ _ _; first | refine x_opF rfl (by first | exact True.intro | omega) ?_ | (show VR _ _ _ (⟨_, .call ⟨.value _, _, _⟩, _, _, _, _⟩ :: _) _ _ _; first | refine vr_callU [0] (hidx') (gk rfl) rfl (by (repeat' (first | exact .nil | refine .cons ?_ ?_ | exact .of0 (.c .d) | exact .of0 .ep | exact .clo | exact (.of0 (.c (cr_rowO (by simp) rfl rfl (fun _ => rfl)))) | exact .of0 (.c .nil) | exact .of0 (.c (cr_rowO (by simp) rfl (by first | rfl | omega) (fun _ => rfl))) | refine .of0 (.agg ?_) | exact .d | exact .nil | exact .of0 (.c (cr_row (by decide) rfl rfl (by repeat' (first | exact trivial | refine ⟨?_, ?_⟩ | rfl)))))) <;> fail) (by first | rfl | exact hfl_O (fun _ => rfl) | exact hfl_O2 rfl (fun _ => rfl)) rfl (by first | rfl | (simp only [wfRes, wfL, wfArgs, List.all_cons, List.all_nil, rowOf_blk]; rfl)) rfl (by first | exact newB_O | rfl) rfl ?_)) | (show VR _ _ _ [] _ _ _; first | refine vr_nil ?_) | (show thenQ _ _ _ _; first | refine q_then_n ?_ | refine q_then_r ?_) | refine vc_seq ?_ | refine vc_region ?_ | (show VC _ (.cond _ _ _) _ _; first | refine vc_cond_t rfl ?_) | refine vc_ret ?_)
    have e : l.filter (fun x => !p x) = l := filter_none (fst_none hf)
    rw [e]
    exact retL_same (ret_row isRet_r rfl rfl)
  | some i =>
    rw [hf] at hidx
    obtain ⟨hi, hpi, hlt⟩ := fst_some hf
    have hidx' : FnS Tryz.prog 208 [AD (nbs l), .clo (predφ p)] [] (AI (i : Nat)) [] := hidx
    repeat' (first | (show VR _ _ _ (_ :: _) _ _ _; first | refine x_opF rfl (by first | exact True.intro | omega) ?_ | (show VR _ _ _ (⟨_, .call ⟨.value _, _, _⟩, _, _, _, _⟩ :: _) _ _ _; first | refine vr_callU [0] (hidx') (gk rfl) rfl (by (repeat' (first | exact .nil | refine .cons ?_ ?_ | exact .of0 (.c .d) | exact .of0 .ep | exact .clo | exact (.of0 (.c (cr_rowO (by simp) rfl rfl (fun _ => rfl)))) | exact .of0 (.c .nil) | exact .of0 (.c (cr_rowO (by simp) rfl (by first | rfl | omega) (fun _ => rfl))) | refine .of0 (.agg ?_) | exact .d | exact .nil | exact .of0 (.c (cr_row (by decide) rfl rfl (by repeat' (first | exact trivial | refine ⟨?_, ?_⟩ | rfl)))))) <;> fail) (by first | rfl | exact hfl_O (fun _ => rfl) | exact hfl_O2 rfl (fun _ => rfl)) rfl (by first | rfl | (simp only [wfRes, wfL, wfArgs, List.all_cons, List.all_nil, rowOf_blk]; rfl)) rfl (by first | exact newB_O | rfl) rfl ?_)) | (show VR _ _ _ [] _ _ _; first | refine vr_nil ?_) | (show thenQ _ _ _ _; first | refine q_then_n ?_) | refine vc_seq ?_ | refine vc_region ?_ | (show VC _ (.cond _ _ _) _ _; first | refine vc_cond_f rfl ?_) | refine vc_block ?_ | refine vc_skip ?_)
    refine vc_loopI (ι := Nat × Nat × List Nb) (fun q => stOf [(0, .c (.row 0 l.length)), (1, .clo (predφ p)), (5, AI q.2.1), (6, AI q.1)] [(0, .row 227 6 (rowOf Nb.enc q.2.2))])
      (fun q => q.1 <= l.length /\ q.2.1 < q.1 /\ q.2.2.length = l.length /\ q.2.2.take q.2.1 = (l.take q.1).filter (fun x => !p x) /\ q.2.2.drop q.1 = l.drop q.1) (fun q => l.length - q.1) (i + 1, i, l) ⟨hi, Nat.lt_succ_self _, rfl, del_start hi hpi hlt, rfl⟩ ?_ ?_
    · exact le_of ⟨rfl, rfl, rfl, rfl, trivial⟩ ⟨rfl, trivial⟩ (by simp only [wfL, List.all_cons, List.all_nil, rowOf_blk]; rfl)
    · rintro ⟨k, j, L⟩ ⟨h1, h2, h3, h4, h5⟩
      dsimp only at h1 h2 h3 h4 h5 ⊢
      repeat' (first | (show VR _ _ _ (_ :: _) _ _ _; first | refine x_opF rfl (by first | exact True.intro | omega) ?_ | (show VR _ _ _ (⟨_, .call ⟨.value _, _, _⟩, _, _, _, _⟩ :: _) _ _ _; first | refine vr_clo (⟨_, rfl, rfl⟩) (gk rfl) rfl rfl rfl rfl ?_) | (show VR _ _ _ (⟨_, .indexAddr _ _ _, _, _, _, _⟩ :: _) _ _ _; first | refine vr_index_rowO (gk rfl) rfl rfl rfl rfl rfl rfl (by omega) (by omega) rfl ?_) | (show VR _ _ _ (⟨_, .call ⟨.builtin .len, _, _⟩, _, _, _, _⟩ :: _) _ _ _; first | refine vr_len_row (gk rfl) rfl rfl (by first | rfl | exact rowOf_length.symm | (simp only [rowOf_length, List.length_set, List.length_replicate, List.length_append, List.length_take, List.length_cons, List.length_nil, List.length_map, List.length_drop, List.length_range] <;> omega)) rfl rfl ?_) | (show VR _ _ _ (⟨_, .load _ _, _, _, _, _⟩ :: _) _ _ _; first | refine vr_load_rowO_agg (gk rfl) rfl rfl (by omega) rfl rfl rfl ?_) | (show VR _ _ _ (⟨_, .store _ _ _, _, _, _, _⟩ :: _) _ _ _; first | refine vr_store_rowO (gk rfl) rfl rfl rfl (by omega) rfl rfl rfl ?_)) | (show VR _ _ _ [] _ _ _; first | refine vr_nil ?_) | (show thenQ _ _ _ _; first | refine q_then_n ?_ | refine q_then_x ?_) | (show blockQ _ _ _ _; first | refine q_blk_n ?_ | refine q_blk_x ?_) | (show VC _ (.seq _ _) _ _; (fail_if_success (show VC _ (.seq (.seq (.region 11 _ _) _) _) _ _)); (fail_if_success (show VC _ (.seq (.region 11 _ _) _) _ _)); refine vc_seq ?_) | refine vc_region ?_ | (show VC _ (.cond _ _ _) _ _; first | (refine x_cond rfl ?_ ?_ <;> intro h <;> have hq := h <;> (try simp only [decide_eq_true_eq, decide_eq_false_iff_not, Int.not_lt, Int.not_le, ne_eq, Decidable.not_not, Bool.not_eq_true', Bool.not_eq_false'] at hq))) | refine vc_exit ?_ | refine vc_block ?_ | refine vc_skip ?_)
      · have hk : k < l.length := by omega
        obtain ⟨hx, hd⟩ := drop_getD h3 h5 hk
        refine ⟨(k + 1, j + 1, L.set j (L.getD k default)), ⟨by dsimp only; omega, by dsimp only; omega, by simp [h3], ?_, ?_⟩, by dsimp only; omega, le_gen0 (fun n => n) ⟨⟨_, rfl, .c (.row rfl rfl)⟩, ⟨_, rfl, .clo⟩, ⟨_, rfl, .c .d⟩, ⟨_, rfl, .c .d⟩, trivial⟩
          ⟨⟨_, rfl, .rowD (rowOf_set rfl) rowOf_isD⟩, trivial⟩ rfl (by simp only [wfL, List.all_cons, List.all_nil, rowOf_blk]; rfl)⟩
        · dsimp only
          rw [take_set (by omega), h4, take_getD hk, List.filter_append, hx, List.filter_cons_of_pos (by rw [<- hx]; exact h)]; rfl
        · dsimp only
          rw [List.drop_set_of_lt (by omega), hd]
      · have hk : k < l.length := by omega
        obtain ⟨hx, hd⟩ := drop_getD h3 h5 hk
        refine ⟨(k + 1, j, L), ⟨by dsimp only; omega, by dsimp only; omega, h3, ?_, hd⟩, by dsimp only; omega, le_gen0 (fun n => n) ⟨⟨_, rfl, .c (.row rfl rfl)⟩, ⟨_, rfl, .clo⟩, ⟨_, rfl, .c .d⟩, ⟨_, rfl, .c .d⟩, trivial⟩
          ⟨⟨_, rfl, .rowD rfl rowOf_isD⟩, trivial⟩ rfl (by simp only [wfL, List.all_cons, List.all_nil, rowOf_blk]; rfl)⟩
        dsimp only
        rw [h4, take_getD hk, List.filter_append, List.filter_cons_of_neg (by rw [<- hx, h]; simp)]; simp
      · have hk : k = l.length := by omega
        subst hk
        refine vc_open (nm := 0) rfl (rowOf_ne (by omega)) fun cp spare hcp hmax => ?_
        rw [rowOf_length] at hcp
        repeat' (first | (show VR _ _ _ (_ :: _) _ _ _; first | refine x_opF rfl (by first | exact True.intro | omega) ?_ | (show VR _ _ _ (⟨_, .slice _ _ _ _ _, _, _, _, _⟩ :: _) _ _ _; first | refine vr_slice_head (gk rfl) rfl rfl (by first | exact .row | exact .full) rfl rfl (by first | exact .no | exact .int rfl rfl | exact .nat rfl (by omega)) (by first | omega | (simp only [rowOf_length, List.length_set, List.length_append, List.length_take, List.length_drop, List.length_replicate]; omega)) (by first | omega | (simp only [rowOf_length, List.length_set, List.length_append, List.length_take, List.length_drop, List.length_replicate]; omega)) rfl ?_ | refine vr_slice_sub (gk rfl) rfl rfl (by first | exact .row | exact .full) rfl rfl (by first | exact .no | exact .int rfl rfl | exact .nat rfl (by omega)) (by first | exact .no | exact .int rfl rfl | exact .nat rfl (by omega)) (by first | omega | (simp only [rowOf_length, List.length_set, List.length_append, List.length_take, List.length_drop, List.length_replicate]; omega)) (by first | omega | (simp only [rowOf_length, List.length_set, List.length_append, List.length_take, List.length_drop, List.length_replicate]; omega)) (by first | omega | (simp only [rowOf_length, List.length_set, List.length_append, List.length_take, List.length_drop, List.length_replicate]; omega)) rfl ?_) | (show VR _ _ _ (⟨_, .call ⟨.builtin .clear, _, _⟩, _, _, _, _⟩ :: _) _ _ _; first | refine vr_clear (gk rfl) rfl (by first | exact .row | exact .sub) rfl rfl rfl rfl rfl (by first | omega | (simp only [rowOf_length, List.length_set, List.length_append, List.length_take, List.length_drop, List.length_replicate]; omega)) ?_)) | (show VR _ _ _ [] _ _ _; first | refine vr_nil ?_) | (show thenQ _ _ _ _; first | refine q_then_n ?_) | refine vc_seq ?_ | refine vc_region ?_ | refine vc_ret ?_)
        rw [List.take_length] at h4
        have hj : (l.filter fun x => !p x).length = j := by rw [<- h4, List.length_take]; omega
        rw [hj, <- h4]
        refine retL_of (le_gen0 (l := [(4, .c (.row 0 j))]) (b := [(0, .row 227 6 (rowOf Nb.enc (L.take j)))]) (fun n => n) ⟨⟨_, rfl, .c (.row rfl rfl)⟩, trivial⟩ ⟨⟨_, rfl, .shutO j ?_⟩, trivial⟩ rfl (by simp only [wfL, List.all_cons, List.all_nil, rowOf_blk]; rfl)) (ret_row isRet_r rfl rfl)
        rw [List.append_assoc, List.take_append_of_le_length (by rw [List.length_take, rowOf_length]; omega), List.take_take, Nat.min_self, rowOf_take]
end Go.Proofs.P
end
section
namespace Go.Proofs.P
open Go Go.Sx
set_option maxRecDepth 4000
attribute [local irreducible] VR VC thenQ blockQ retL
abbrev oldB (slot age : Int) (x : Nb) : Bool := decide (age <= IntKind.i64.wrap (slot - x.slot))
abbrev kept (l : List Nb) (slot age : Int) : List Nb := l.filter fun x => !oldB slot age x
theorem forget1_spec (x : Nb) (slot age : Int) : FnS Tryz.prog 153 [nbA x, .ep (fun _ => .int .i64 slot) 1, .ep (fun _ => .int .i64 age) 1] [] (AB (oldB slot age x)) [] := by
  refine FnS.of_body (enters_of Tryz.func153 (by kernel_rfl) rfl) Tryz.func153 rfl Tryz.ntmps153 Tryz.results153 rfl rfl rfl rfl fun E hS => ?_
  repeat' (first | (show VR _ _ _ (_ :: _) _ _ _; first | refine x_opF rfl (by first | exact True.intro | omega) ?_ | (show VR _ _ _ (⟨_, .binOp _ _ _ _ _, _, _, _, _⟩ :: _) _ _ _; first | refine x_ariw rfl rfl rfl rfl rfl ?_)) | (show VR _ _ _ [] _ _ _; first | refine vr_nil ?_) | (show thenQ _ _ _ _; first | refine q_then_n ?_) | refine vc_seq ?_ | refine vc_region ?_ | refine vc_ret ?_)
  all_goals exact ret_bool isRet_r rfl rfl
theorem forget1_fnc {σ : St} {slot age : Int} {n1 n2 : Nat} (h1 : σ (.b n1) = some (.k (.box [.d (.int .i64 slot)]))) (h2 : σ (.b n2) = some (.k (.box [.d (.int .i64 age)]))) : AR Tryz.prog σ [n1, n2] (.fnc 153 [.ptr n1 0, .ptr n2 0]) (.clo (predφ (oldB slot age))) :=
  .fnc (eps := [.ep (fun _ => .int .i64 slot) 1, .ep (fun _ => .int .i64 age) 1]) (.cons (.ptr (by simp) h1 (fun j hj => by
    have : j = 0 := by omega
    subst this; rfl)) (.cons (.ptr (by simp) h2 (fun j hj => by
    have : j = 0 := by omega
    subst this; rfl)) .nil)) (enters_of Tryz.func153 (by kernel_rfl) rfl)
    (by rintro _ _ ⟨x, rfl, rfl⟩; exact ⟨rfl, forget1_spec x slot age⟩)
theorem forget_bad (l : List Nb) (slot age : Int) (h : checkNb l ≠ 0 \/ slot < 0 \/ age < 0) : FnS Tryz.prog 73 [AD (nbs l), AI slot, AI age] [] (AD (nbs l)) [] := by
  refine FnS.of_body (enters_of Tryz.func73 (by kernel_rfl) rfl) Tryz.func73 rfl Tryz.ntmps73 Tryz.results73 rfl rfl rfl rfl fun E hS => ?_
  repeat' (first | (show VR _ _ _ (_ :: _) _ _ _; first | refine x_opF rfl (by first | exact True.intro | omega) ?_ | (show VR _ _ _ (⟨_, .call ⟨.value _, _, _⟩, _, _, _, _⟩ :: _) _ _ _; first | refine vr_calldU (check_spec l) (gk rfl) rfl rfl rfl (by first | rfl | (simp only [wfRes, wfL, wfArgs, List.all_cons, List.all_nil, rowOf_blk]; rfl)) rfl (by first | exact newB_O | rfl) rfl ?_) | (refine x_gsplit rfl ?_ ?_ <;> intro h <;> have hq := h <;> (try simp only [decide_eq_true_eq, decide_eq_false_iff_not, Int.not_lt, Int.not_le, ne_eq, Decidable.not_not, Bool.not_eq_true', Bool.not_eq_false'] at hq))) | (show VR _ _ _ [] _ _ _; first | refine vr_nil ?_) | (show thenQ _ _ _ _; first | refine q_then_n ?_ | refine q_then_r ?_) | (show VC _ (.seq _ _) _ _; (fail_if_success (show VC _ (.seq (.seq (.region 3 _ _) _) _) _ _)); (fail_if_success (show VC _ (.seq (.region 3 _ _) _) _ _)); refine vc_seq ?_) | refine vc_region ?_ | (show VC _ (.cond _ _ _) _ _; first | refine vc_cond_t rfl ?_ | (refine x_cond rfl ?_ ?_ <;> intro h <;> have hq := h <;> (try simp only [decide_eq_true_eq, decide_eq_false_iff_not, Int.not_lt, Int.not_le, ne_eq, Decidable.not_not, Bool.not_eq_true', Bool.not_eq_false'] at hq))) | refine vc_ret ?_ | refine vc_skip ?_)
  all_goals first
    | exact ret_d isRet_r rfl rfl
    | (exfalso; simp_all; omega)
end Go.Proofs.P
end
section
namespace Go.Proofs.P
open Go Go.Sx
set_option maxRecDepth 4000
attribute [local irreducible] VR VC thenQ blockQ retL
def cnt (x : Nb) (b : Bool) : Nb :=
  { x with att := (if x.att = 255 then x.att / 2 else x.att) + 1, ack := (if x.att = 255 then x.ack / 2 else x.ack) + (if b = true then 1 else 0) }
end Go.Proofs.P
end
section
namespace Go.Proofs.P
open Go Go.Sx
set_option maxRecDepth 4000
attribute [local irreducible] VR VC thenQ blockQ retL
instance : Overlaps Tryz.prog 198 :=
  ⟨85, 4, 227, 6, TyOK.slice Tryz.sxty85 rfl, fun w => TyOK.run_size Tryz.sxty227 w, fun args w => run_callFunc_extern Tryz.func198 (by kernel_rfl) (by kernel_rfl) (by kernel_rfl) (by kernel_rfl) args w⟩
abbrev insAt (l : List Nb) (i : Nat) (x : Nb) : List Nb := l.take i ++ x :: l.drop i
abbrev nb1 (x : Nb) : D := .rd 1 6 fun _ j => x.enc.getD j .nils
theorem ins_row (l : List Nb) (i : Nat) (x : Nb) : rowOf Nb.enc (insAt l i x) = List.take i (rowOf Nb.enc l) ++ (Nb.enc x).map C.d :: List.drop i (rowOf Nb.enc l) := by
  rw [insAt, rowOf_append, rowOf_take, rowOf_drop]
  rfl
theorem insert_spec (l : List Nb) (i : Nat) (x : Nb) (hl : l.length <= 100000) (hi : i <= l.length) : FnS Tryz.prog 131 [.c (.row 0 l.length), AI i, AD (nb1 x)] [(0, .row 227 6 (rowOf Nb.enc l))]
    (.c (.row 1 (l.length + 1))) [(1, .row 227 6 (rowOf Nb.enc (insAt l i x)))] := by
  refine FnS.of_bodyM (enters_of Tryz.func131 (by kernel_rfl) rfl) Tryz.func131 rfl Tryz.ntmps131 Tryz.results131 rfl (by first | rfl | (simp only [wfRes, wfL, wfArgs, List.all_cons, List.all_nil, rowOf_blk]; rfl)) rfl fun E => ?_
  refine vc_retL ?_
  repeat' (first | (show VR _ _ _ (_ :: _) _ _ _; first | refine x_opF rfl (by first | exact True.intro | omega) ?_ | (show VR _ _ _ (⟨_, .call ⟨.builtin .len, _, _⟩, _, _, _, _⟩ :: _) _ _ _; first | refine vr_len_row (gk rfl) rfl rfl (by first | rfl | exact rowOf_length.symm | (simp only [rowOf_length, List.length_set, List.length_replicate, List.length_append, List.length_take, List.length_cons, List.length_nil, List.length_map, List.length_drop, List.length_range] <;> omega)) rfl rfl ?_) | (show VR _ _ _ (⟨_, .call ⟨.builtin .append, _, _⟩, _, _, _, _⟩ :: _) _ _ _; first | refine vr_append0 (gk rfl) rfl rfl rfl (by first | rfl | exact rowOf_length.symm | (simp only [rowOf_length, List.length_set, List.length_replicate, List.length_append, List.length_take, List.length_cons, List.length_nil, List.length_map, List.length_drop, List.length_range] <;> omega)) (by first | exact .row rfl (by first | rfl | exact rowOf_length.symm) | exact .rd | exact .nils) rfl rfl rfl (by (try dsimp only); omega) rfl rfl ?_) | (show VR _ _ _ (⟨_, .slice _ _ _ _ _, _, _, _, _⟩ :: _) _ _ _; first | refine vr_slice_sub (gk rfl) rfl rfl (by first | exact .row | exact .full) rfl rfl (by first | exact .no | exact .int rfl rfl | exact .nat rfl (by omega)) (by first | exact .no | exact .int rfl rfl | exact .nat rfl (by omega)) (by first | omega | (simp only [rowOf_length, List.length_set, List.length_append, List.length_take, List.length_drop, List.length_replicate]; omega)) (by first | omega | (simp only [rowOf_length, List.length_set, List.length_append, List.length_take, List.length_drop, List.length_replicate]; omega)) (by first | omega | (simp only [rowOf_length, List.length_set, List.length_append, List.length_take, List.length_drop, List.length_replicate]; omega)) rfl ?_)) | (show VR _ _ _ [] _ _ _; first | refine vr_nil ?_) | (show thenQ _ _ _ _; first | refine q_then_n ?_ | refine q_then_r ?_) | (show VC _ (.seq _ _) _ _; (fail_if_success (show VC _ (.seq (.seq (.region 8 _ _) _) _) _ _)); (fail_if_success (show VC _ (.seq (.region 8 _ _) _) _ _)); refine vc_seq ?_) | refine vc_region ?_ | (show VC _ (.cond _ _ _) _ _; first | refine vc_cond_f rfl ?_ | (refine x_cond rfl ?_ ?_ <;> intro h <;> have hq := h <;> (try simp only [decide_eq_true_eq, decide_eq_false_iff_not, Int.not_lt, Int.not_le, ne_eq, Decidable.not_not, Bool.not_eq_true', Bool.not_eq_false'] at hq))) | refine vc_ret ?_ | refine vc_skip ?_)
  · have e : i = l.length := by omega
    subst e
    refine retL_of (le_gen0 (l := [(6, .c (.row 1 (l.length + 1)))]) (b := [(1, .row 227 6 (rowOf Nb.enc (insAt l l.length x)))]) (fun n => if n = 1 then 25 else n) ⟨⟨_, rfl, .c (.row rfl rfl)⟩, trivial⟩
      ⟨⟨_, rfl, .rowD ?_ rowOf_isD⟩, trivial⟩ rfl (by simp only [wfL, List.all_cons, List.all_nil, rowOf_blk]; rfl)) (ret_row isRet_r rfl rfl)
    rw [insAt, List.take_length, List.drop_length, rowOf_append]
    rfl
  · refine vc_open (nm := 0) rfl (rowOf_ne (by omega)) fun cp spare hcp hmax => ?_
    rw [rowOf_length] at hcp
    repeat' (first | (show VR _ _ _ (_ :: _) _ _ _; first | refine x_opF rfl (by first | exact True.intro | omega) ?_ | (show VR _ _ _ (⟨_, .call ⟨.value _, _, _⟩, _, _, _, _⟩ :: _) _ _ _; first | refine vr_overlaps (gk rfl) rfl rfl rfl (by first | exact .row | exact .full) (by omega) rfl rfl rfl ?_) | (show VR _ _ _ (⟨_, .call ⟨.builtin .append, _, _⟩, _, _, _, _⟩ :: _) _ _ _; first | refine vr_append_zerosN (gk rfl) rfl rfl rfl rfl rfl rfl rfl rfl rfl rfl (by omega) (by first | omega | (simp only [rowOf_length, List.length_set, List.length_append, List.length_take, List.length_drop, List.length_replicate]; omega)) (by first | omega | (simp only [rowOf_length, List.length_set, List.length_append, List.length_take, List.length_drop, List.length_replicate]; omega)) (by (try dsimp only); omega) rfl rfl ?_) | (show VR _ _ _ (⟨_, .slice _ _ _ _ _, _, _, _, _⟩ :: _) _ _ _; first | refine vr_slice_head (gk rfl) rfl rfl (by first | exact .row | exact .full) rfl rfl (by first | exact .no | exact .int rfl rfl | exact .nat rfl (by omega)) (by first | omega | (simp only [rowOf_length, List.length_set, List.length_append, List.length_take, List.length_drop, List.length_replicate]; omega)) (by first | omega | (simp only [rowOf_length, List.length_set, List.length_append, List.length_take, List.length_drop, List.length_replicate]; omega)) rfl ?_ | refine vr_slice_sub (gk rfl) rfl rfl (by first | exact .row | exact .full) rfl rfl (by first | exact .no | exact .int rfl rfl | exact .nat rfl (by omega)) (by first | exact .no | exact .int rfl rfl | exact .nat rfl (by omega)) (by first | omega | (simp only [rowOf_length, List.length_set, List.length_append, List.length_take, List.length_drop, List.length_replicate]; omega)) (by first | omega | (simp only [rowOf_length, List.length_set, List.length_append, List.length_take, List.length_drop, List.length_replicate]; omega)) (by first | omega | (simp only [rowOf_length, List.length_set, List.length_append, List.length_take, List.length_drop, List.length_replicate]; omega)) rfl ?_) | (show VR _ _ _ (⟨_, .call ⟨.builtin .copy, _, _⟩, _, _, _, _⟩ :: _) _ _ _; first | refine vr_copy (gk rfl) rfl rfl (by first | exact .row | exact .sub) rfl (by first | exact .src .rd | exact .src .nils | exact .src (.row rfl (by first | exact .row | exact .full) (by first | omega | (simp only [rowOf_length, List.length_set, List.length_append, List.length_take, List.length_drop, List.length_replicate]; omega))) | exact .src (.sub rfl (by first | exact .row | exact .full) (by first | omega | (simp only [rowOf_length, List.length_set, List.length_append, List.length_take, List.length_drop, List.length_replicate]; omega))) | exact .tail rfl (by first | omega | (simp only [rowOf_length, List.length_set, List.length_append, List.length_take, List.length_drop, List.length_replicate]; omega)) (by first | omega | (simp only [rowOf_length, List.length_set, List.length_append, List.length_take, List.length_drop, List.length_replicate]; omega))) rfl rfl rfl (by first | omega | (simp only [rowOf_length, List.length_set, List.length_append, List.length_take, List.length_drop, List.length_replicate]; omega)) (by first | omega | (simp only [rowOf_length, List.length_set, List.length_append, List.length_take, List.length_drop, List.length_replicate]; omega)) rfl ?_) | (show VR _ _ _ (⟨_, .call ⟨.builtin .cap, _, _⟩, _, _, _, _⟩ :: _) _ _ _; first | refine vr_cap_full (gk rfl) rfl rfl rfl rfl ?_)) | (show VR _ _ _ [] _ _ _; first | refine vr_nil ?_ | refine vr_nil_t (by kernel_rfl) ?_) | (show thenQ _ _ _ _; first | refine q_then_n ?_ | refine q_then_r ?_) | (show VC _ (.seq _ _) _ _; (fail_if_success (show VC _ (.seq (.seq (.region 10 _ _) _) _) _ _)); (fail_if_success (show VC _ (.seq (.region 10 _ _) _) _ _)); refine vc_seq ?_) | refine vc_region ?_ | refine vc_region_t ?_ | (show VC _ (.cond _ _ _) _ _; first | refine vc_cond_t rfl ?_ | (refine x_cond rfl ?_ ?_ <;> intro h <;> have hq := h <;> (try simp only [decide_eq_true_eq, decide_eq_false_iff_not, Int.not_lt, Int.not_le, ne_eq, Decidable.not_not, Bool.not_eq_true', Bool.not_eq_false'] at hq))) | refine vc_ret ?_ | refine vc_skip ?_)
    · have hq1 : ((l.length : Int) + (1 : Nat) - i).toNat = l.length + 1 - i := by omega
      refine vc_open (nm := 40) rfl (by
        intro e
        have := congrArg List.length e
        rw [List.length_append, List.length_replicate] at this
        change _ + _ = 0 at this
        omega) fun cp2 spare2 hcp2 hmax2 => ?_
      rw [List.length_append, List.length_replicate, List.length_take, rowOf_length] at hcp2
      repeat' (first | (show VR _ _ _ (_ :: _) _ _ _; first | refine x_opF rfl (by first | exact True.intro | omega) ?_ | (show VR _ _ _ (⟨_, .slice _ _ _ _ _, _, _, _, _⟩ :: _) _ _ _; first | refine vr_slice_sub (gk rfl) rfl rfl (by first | exact .row | exact .full) rfl rfl (by first | exact .no | exact .int rfl rfl | exact .nat rfl (by omega)) (by first | exact .no | exact .int rfl rfl | exact .nat rfl (by omega)) (by first | omega | (simp only [rowOf_length, List.length_set, List.length_append, List.length_take, List.length_drop, List.length_replicate]; omega)) (by first | omega | (simp only [rowOf_length, List.length_set, List.length_append, List.length_take, List.length_drop, List.length_replicate]; omega)) (by first | omega | (simp only [rowOf_length, List.length_set, List.length_append, List.length_take, List.length_drop, List.length_replicate]; omega)) rfl ?_) | (show VR _ _ _ (⟨_, .call ⟨.builtin .copy, _, _⟩, _, _, _, _⟩ :: _) _ _ _; first | refine vr_copy (gk rfl) rfl rfl (by first | exact .row | exact .sub) rfl (by first | exact .src .rd | exact .src .nils | exact .src (.row rfl (by first | exact .row | exact .full) (by first | omega | (simp only [rowOf_length, List.length_set, List.length_append, List.length_take, List.length_drop, List.length_replicate]; omega))) | exact .src (.sub rfl (by first | exact .row | exact .full) (by first | omega | (simp only [rowOf_length, List.length_set, List.length_append, List.length_take, List.length_drop, List.length_replicate]; omega))) | exact .tail rfl (by first | omega | (simp only [rowOf_length, List.length_set, List.length_append, List.length_take, List.length_drop, List.length_replicate]; omega)) (by first | omega | (simp only [rowOf_length, List.length_set, List.length_append, List.length_take, List.length_drop, List.length_replicate]; omega))) rfl rfl rfl (by first | omega | (simp only [rowOf_length, List.length_set, List.length_append, List.length_take, List.length_drop, List.length_replicate]; omega)) (by first | omega | (simp only [rowOf_length, List.length_set, List.length_append, List.length_take, List.length_drop, List.length_replicate]; omega)) rfl ?_)) | (show VR _ _ _ [] _ _ _; first | refine vr_nil ?_ | refine vr_nil_t (by kernel_rfl) ?_) | (show thenQ _ _ _ _; first | refine q_then_n ?_ | refine q_then_r ?_) | refine vc_seq ?_ | refine vc_region ?_ | refine vc_region_t ?_ | refine vc_ret ?_)
      refine retL_of (le_gen0 (l := [(6, .c (.row 1 (l.length + 1)))]) (b := [(1, .row 227 6 (rowOf Nb.enc (insAt l i x)))]) (fun n => if n = 1 then 40 else n) ⟨⟨_, rfl, .c (.row rfl (by omega))⟩, trivial⟩
        ⟨⟨_, rfl, .shutO (l.length + 1) ?_⟩, trivial⟩ rfl (by simp only [wfL, List.all_cons, List.all_nil, rowOf_blk]; rfl)) (ret_row isRet_r rfl rfl)
      rw [hq1, show min 1 (i + (l.length + 1 - i) - i) = 1 by omega, show min (l.length - i) (i + (l.length + 1 - i) - (i + 1)) = l.length - i by omega]
      exact (ins_grow (y := (Nb.enc x).map C.d) (rowOf_length (enc := Nb.enc)) (by omega) rfl).trans (ins_row l i x).symm
    · refine retL_of (le_gen0 (l := [(6, .c (.row 1 (l.length + 1)))]) (b := [(1, .row 227 6 (rowOf Nb.enc (insAt l i x)))]) (fun n => if n = 1 then 0 else n) ⟨⟨_, rfl, .c (.row rfl rfl)⟩, trivial⟩
        ⟨⟨_, rfl, .shutO (l.length + 1) ?_⟩, trivial⟩ rfl (by simp only [wfL, List.all_cons, List.all_nil, rowOf_blk]; rfl)) (ret_row isRet_r rfl rfl)
      rw [show min 1 (l.length + 1 - i) = 1 by omega, show min (l.length + 1 - i) (l.length + 1 - (i + 1)) = l.length - i by omega]
      exact (ins_room (y := (Nb.enc x).map C.d) (rowOf_length (enc := Nb.enc)) (by omega)).trans (ins_row l i x).symm
end Go.Proofs.P
end
section
namespace Go.Proofs.P
open Go Go.Sx
set_option maxRecDepth 4000
attribute [local irreducible] VR VC thenQ blockQ retL
def adOf (x : Nb) (e k s : Int) : Nb := { x with epoch := e, rank := k, slot := s }
def newNb (t : Int) : Nb := ⟨t, 0, 0, 0, 0, 0⟩
def hearX (l : List Nb) (t : Int) : Nb := if foundNb l t = true then l.getD (bsNb l t) default else newNb t
def hearL (l : List Nb) (t e k s : Int) : List Nb := if foundNb l t = true then l.set (bsNb l t) (adOf (l.getD (bsNb l t) default) e k s) else insAt l (bsNb l t) (adOf (newNb t) e k s)
end Go.Proofs.P
end
section
namespace Go.Proofs.P
open Go Go.Sx
set_option maxRecDepth 4000
attribute [local irreducible] VR VC thenQ blockQ retL
theorem cnt_range {x : Nb} {b : Bool} (h : (0 <= x.att /\ x.att <= 255) /\ 0 <= x.ack /\ x.ack <= x.att) : (1 <= (cnt x b).att /\ (cnt x b).att <= 255) /\ 0 <= (cnt x b).ack /\ (cnt x b).ack <= (cnt x b).att := by
  unfold cnt
  cases b <;> dsimp only <;> split <;> simp <;> omega
theorem set_getD {l : List Nb} {i j : Nat} {x : Nb} (hi : i < l.length) : (l.set i x).getD j default = if j = i then x else l.getD j default := by
  by_cases h : j = i
  · subst h; simp [List.getD_eq_getElem?_getD, hi]
  · simp [List.getD_eq_getElem?_getD, h, List.getElem?_set_ne (Ne.symm h)]
theorem check_cnt {l : List Nb} {i : Nat} {b : Bool} (h : checkNb l = 0) (hi : i < l.length) : checkNb (l.set i (cnt (l.getD i default) b)) = 0 := by
  obtain ⟨hlen, hall⟩ := checkNb_ok h
  have hx := (nbErr_ok (hall _ hi)).2
  have key : ∀ k, k < (l.set i (cnt (l.getD i default) b)).length -> nbErr (l.set i (cnt (l.getD i default) b)) k = 0 := by
    intro k hk
    rw [List.length_set] at hk
    have h0 := hall k hk
    have hc := @cnt_range _ b hx
    have hnode : ∀ j, ((l.set i (cnt (l.getD i default) b)).getD j default).node = (l.getD j default).node := fun j => by
      rw [set_getD hi]; split
      · rename_i e; rw [e]; rfl
      · rfl
    have hr : heardB ((l.set i (cnt (l.getD i default) b)).getD k default).node ((l.set i (cnt (l.getD i default) b)).getD k default).epoch ((l.set i (cnt (l.getD i default) b)).getD k default).rank ((l.set i (cnt (l.getD i default) b)).getD k default).slot
        = heardB (l.getD k default).node (l.getD k default).epoch (l.getD k default).rank (l.getD k default).slot := by
      rw [set_getD hi]; split
      · rename_i e; rw [e]; rfl
      · rfl
    have ha : inR ((l.set i (cnt (l.getD i default) b)).getD k default).att 0 255 = true := by
      rw [set_getD hi, inR_t]; split
      · omega
      · have := (nbErr_ok h0).2.1; omega
    have hb : inR ((l.set i (cnt (l.getD i default) b)).getD k default).ack 0 ((l.set i (cnt (l.getD i default) b)).getD k default).att = true := by
      rw [set_getD hi, inR_t]; split
      · omega
      · have := (nbErr_ok h0).2.2; omega
    have hh := (nbErr_ok h0).1
    unfold nbErr at h0 ⊢
    dsimp only at h0 ⊢
    rw [hr, ha, hb, hnode, hnode]
    have ha0 : inR (l.getD k default).att 0 255 = true := by rw [inR_t]; have := (nbErr_ok (hall k hk)).2.1; omega
    have hb0 : inR (l.getD k default).ack 0 (l.getD k default).att = true := by rw [inR_t]; have := (nbErr_ok (hall k hk)).2.2; omega
    rw [ha0, hb0] at h0
    exact h0
  unfold checkNb
  rw [List.length_set, if_neg (by omega)]
  exact firstErr_none fun k hk => key k (by rw [List.length_set]; exact hk)
abbrev bls (l : List Bool) : D := rdOf (fun b => [.bool b]) 1 l
end Go.Proofs.P
end
section
namespace Go.Proofs.P
open Go Go.Sx
set_option maxRecDepth 4000
attribute [local irreducible] VR VC thenQ blockQ retL
def hearM (l : List Nb) (t e k s : Int) : List Nb × Int := if checkNb l ≠ 0 then ([], 1) else if heardB t e k s = false then ([], 2) else if s < (hearX l t).slot then ([], 15) else (hearL l t e k s, 0)
theorem hear_known2 (l : List Nb) (t e k s : Int) (h : checkNb l = 0) (hr : heardB t e k s = true) (hs : ¬ s < (hearX l t).slot) (hf : foundNb l t = true) : FnS Tryz.prog 51 [AD (nbs l), AI t, AI e, AI k, AI s] [] (.tup [AD (nbs (hearL l t e k s)), AI 0]) [] := by
  have hck := check_spec l
  rw [h] at hck
  have hh := heard_spec t e k s
  rw [hr] at hh
  obtain ⟨hlen, hall⟩ := checkNb_ok h
  have hfd := find_spec l t (by omega)
  rw [hearX, if_pos hf] at hs
  rw [hf] at hfd
  have hi := (found_iff.1 hf).1
  have hn := (found_iff.1 hf).2
  rw [hearL, if_pos hf]
  generalize bsNb l t = i at *
  refine FnS.of_body (enters_of Tryz.func51 (by kernel_rfl) rfl) Tryz.func51 rfl Tryz.ntmps51 Tryz.results51 rfl rfl rfl rfl fun E hS => ?_
  refine vc_retL ?_
  repeat' (first | (show VR _ _ _ (_ :: _) _ _ _; first | refine x_opF rfl (by first | exact True.intro | omega) ?_ | (show VR _ _ _ (⟨_, .call ⟨.value _, _, _⟩, _, _, _, _⟩ :: _) _ _ _; first | refine vr_calldU (hck) (gk rfl) rfl rfl rfl (by first | rfl | (simp only [wfRes, wfL, wfArgs, List.all_cons, List.all_nil, rowOf_blk]; rfl)) rfl (by first | exact newB_O | rfl) rfl ?_ | refine vr_calldU (hh) (gk rfl) rfl rfl rfl (by first | rfl | (simp only [wfRes, wfL, wfArgs, List.all_cons, List.all_nil, rowOf_blk]; rfl)) rfl (by first | exact newB_O | rfl) rfl ?_ | refine vr_calldU (hfd) (gk rfl) rfl rfl rfl (by first | rfl | (simp only [wfRes, wfL, wfArgs, List.all_cons, List.all_nil, rowOf_blk]; rfl)) rfl (by first | exact newB_O | rfl) rfl ?_ | refine vr_calldU (clone_spec l (by omega)) (gk rfl) rfl rfl rfl (by first | rfl | (simp only [wfRes, wfL, wfArgs, List.all_cons, List.all_nil, rowOf_blk]; rfl)) rfl (by first | exact newB_O | rfl) rfl ?_) | (show VR _ _ _ (⟨_, .indexAddr _ _ _, _, _, _, _⟩ :: _) _ _ _; first | refine vr_index_rd (gk rfl) rfl rfl rfl rfl rfl (by omega) rfl ?_ | refine vr_index_rowO (gk rfl) rfl rfl rfl rfl rfl rfl (by omega) (by omega) rfl ?_) | (show VR _ _ _ (⟨_, .store _ _ _, _, _, _, _⟩ :: _) _ _ _; first | refine vr_store_rowO (gk rfl) rfl rfl rfl (by omega) rfl rfl rfl ?_)) | (show VR _ _ _ [] _ _ _; first | refine vr_nil ?_) | (show thenQ _ _ _ _; first | refine q_then_n ?_ | refine q_then_r ?_) | refine vc_seq ?_ | refine vc_region ?_ | (show VC _ (.cond _ _ _) _ _; first | refine vc_cond_f rfl ?_ | (refine x_cond rfl ?_ ?_ <;> intro h <;> have hq := h <;> (try simp only [decide_eq_true_eq, decide_eq_false_iff_not, Int.not_lt, Int.not_le, ne_eq, Decidable.not_not, Bool.not_eq_true', Bool.not_eq_false'] at hq))) | refine vc_ret ?_ | refine vc_skip ?_)
  all_goals first
    | (exfalso; omega)
    | skip
  refine retL_le (le_gen0 (l := [(10, .c (.row 7 (l.set i (adOf (l.getD i default) e k s)).length)), (11, AI 0)]) (b := [(7, .row 227 6 (rowOf Nb.enc (l.set i (adOf (l.getD i default) e k s))))]) (fun n => if n = 7 then 58007 else n) ⟨⟨_, rfl, .c (.row rfl (by simp))⟩, ⟨_, rfl, .c .d⟩, trivial⟩
      ⟨⟨_, rfl, .rowD (rowOf_set ?_) rowOf_isD⟩, trivial⟩ rfl (by simp only [wfL, List.all_cons, List.all_nil, rowOf_blk]; rfl)) ?_
  · rw [<- hn]; rfl
  refine retL_of (le_gen (l := [(10, AD (nbs (l.set i (adOf (l.getD i default) e k s)))), (11, AI 0)]) (b := []) (fun n => n) [7] hS ?_ ?_ rfl (by first | rfl | (simp only [wfL, List.all_cons, List.all_nil, rowOf_blk]; rfl))) (ret_d2 isRet_r rfl rfl rfl rfl)
  all_goals repeat' (first | exact trivial | refine ⟨⟨_, rfl, ?_⟩, ?_⟩ | exact .c .d | exact .c (.frzOf (by first | (simp; done) | decide) rfl rfl (fun _ => rfl)))
theorem hear_new2 (l : List Nb) (t e k s : Int) (h : checkNb l = 0) (hr : heardB t e k s = true) (hf : foundNb l t = false) : FnS Tryz.prog 51 [AD (nbs l), AI t, AI e, AI k, AI s] [] (.tup [AD (nbs (hearL l t e k s)), AI 0]) [] := by
  have hck := check_spec l
  rw [h] at hck
  have hh := heard_spec t e k s
  rw [hr] at hh
  obtain ⟨hlen, hall⟩ := checkNb_ok h
  have hfd := find_spec l t (by omega)
  rw [hf] at hfd
  have hi := (bsNb_ok h t).1
  rw [hearL, if_neg (by rw [hf]; simp)]
  generalize bsNb l t = i at *
  have hins := insert_spec l i (adOf (newNb t) e k s) (by omega) hi
  have hil : (insAt l i (adOf (newNb t) e k s)).length = l.length + 1 := by simp [insAt]; omega
  refine FnS.of_body (enters_of Tryz.func51 (by kernel_rfl) rfl) Tryz.func51 rfl Tryz.ntmps51 Tryz.results51 rfl rfl rfl rfl fun E hS => ?_
  refine vc_retL ?_
  repeat' (first | (show VR _ _ _ (_ :: _) _ _ _; first | refine x_opF rfl (by first | exact True.intro | omega) ?_ | (show VR _ _ _ (⟨_, .call ⟨.value _, _, _⟩, _, _, _, _⟩ :: _) _ _ _; first | refine vr_calldU (hck) (gk rfl) rfl rfl rfl (by first | rfl | (simp only [wfRes, wfL, wfArgs, List.all_cons, List.all_nil, rowOf_blk]; rfl)) rfl (by first | exact newB_O | rfl) rfl ?_ | refine vr_calldU (hh) (gk rfl) rfl rfl rfl (by first | rfl | (simp only [wfRes, wfL, wfArgs, List.all_cons, List.all_nil, rowOf_blk]; rfl)) rfl (by first | exact newB_O | rfl) rfl ?_ | refine vr_calldU (hfd) (gk rfl) rfl rfl rfl (by first | rfl | (simp only [wfRes, wfL, wfArgs, List.all_cons, List.all_nil, rowOf_blk]; rfl)) rfl (by first | exact newB_O | rfl) rfl ?_ | refine vr_calldU (clone_spec l (by omega)) (gk rfl) rfl rfl rfl (by first | rfl | (simp only [wfRes, wfL, wfArgs, List.all_cons, List.all_nil, rowOf_blk]; rfl)) rfl (by first | exact newB_O | rfl) rfl ?_ | refine vr_callMU [42] (hins) (gk rfl) rfl rfl rowOf_isD rfl (by (repeat' (first | exact .nil | refine .cons ?_ ?_ | exact .of0 (.c .d) | exact .of0 .ep | exact .clo | exact .of0 (.c .nil) | exact .of0 (.c (cr_rowO (by simp) rfl (by first | rfl | omega) (fun _ => rfl))) | refine .of0 (.agg ?_) | exact .d | exact .nil | exact .of0 (.c (cr_row (by decide) rfl rfl (by repeat' (first | exact trivial | refine ⟨?_, ?_⟩ | rfl)))))) <;> fail) rfl (by first | rfl | exact hfl_O (fun _ => rfl) | exact hfl_O2 rfl (fun _ => rfl)) rfl (by first | rfl | (simp only [wfRes, wfL, wfArgs, List.all_cons, List.all_nil, rowOf_blk]; rfl)) rfl (by first | exact newB_O | rfl) rfl ?_)) | (show VR _ _ _ [] _ _ _; first | refine vr_nil ?_ | refine vr_nil_t (by kernel_rfl) ?_) | (show thenQ _ _ _ _; first | refine q_then_n ?_ | refine q_then_r ?_) | refine vc_seq ?_ | refine vc_region ?_ | refine vc_region_t ?_ | (show VC _ (.cond _ _ _) _ _; first | refine vc_cond_t rfl ?_ | refine vc_cond_f rfl ?_) | refine vc_ret ?_ | refine vc_skip ?_)
  refine retL_of (le_gen (l := [(10, AD (nbs (insAt l i (adOf (newNb t) e k s)))), (11, AI 0)]) (b := []) (fun n => n) [43001] hS ?_ ?_ rfl (by first | rfl | (simp only [wfL, List.all_cons, List.all_nil, rowOf_blk]; rfl))) (ret_d2 isRet_r rfl rfl rfl rfl)
  all_goals repeat' (first | exact trivial | refine ⟨⟨_, rfl, ?_⟩, ?_⟩ | exact .c .d | (refine .c (.frzOf (by first | (simp; done) | decide) rfl ?_ (fun _ => rfl)); ((try dsimp only); first | rfl | omega | (simp only [rowOf_length, List.length_set, List.length_append, List.length_take, List.length_drop, List.length_cons, List.length_nil, List.length_map, List.length_replicate, List.length_range] <;> omega)); done))
theorem hear_bad2 (l : List Nb) (t e k s : Int) (h : checkNb l ≠ 0) : FnS Tryz.prog 51 [AD (nbs l), AI t, AI e, AI k, AI s] [] (.tup [AD (nbs []), AI 1]) [] := by
  have d1 : decide (checkNb l ≠ 0) = true := decide_eq_true h
  refine FnS.of_body (enters_of Tryz.func51 (by kernel_rfl) rfl) Tryz.func51 rfl Tryz.ntmps51 Tryz.results51 rfl rfl rfl rfl fun E hS => ?_
  refine vc_retL ?_
  repeat' (first | (show VR _ _ _ (_ :: _) _ _ _; first | refine x_opF rfl (by first | exact True.intro | omega) ?_ | (show VR _ _ _ (⟨_, .call ⟨.value _, _, _⟩, _, _, _, _⟩ :: _) _ _ _; first | refine vr_calldU (check_spec l) (gk rfl) rfl rfl rfl (by first | rfl | (simp only [wfRes, wfL, wfArgs, List.all_cons, List.all_nil, rowOf_blk]; rfl)) rfl (by first | exact newB_O | rfl) rfl ?_)) | (show VR _ _ _ [] _ _ _; first | refine vr_nil ?_) | (show thenQ _ _ _ _; first | refine q_then_n ?_ | refine q_then_r ?_) | refine vc_seq ?_ | refine vc_region ?_ | (show VC _ (.cond _ _ _) _ _; first | refine vc_cond_t rfl ?_ | refine x_know rfl (by assumption) ?_) | refine vc_ret ?_)
  refine retL_of (le_gen0 (l := [(10, AD (nbs [])), (11, AI 1)]) (b := []) (fun n => n) ?_ ?_ rfl (by first | rfl | (simp only [wfL, List.all_cons, List.all_nil, rowOf_blk]; rfl))) (ret_d2 isRet_r rfl rfl rfl rfl)
  all_goals repeat' (first | exact trivial | refine ⟨⟨_, rfl, ?_⟩, ?_⟩ | exact .c .d | exact .c .nil)
theorem hear_range2 (l : List Nb) (t e k s : Int) (h : checkNb l = 0) (hr : heardB t e k s = false) : FnS Tryz.prog 51 [AD (nbs l), AI t, AI e, AI k, AI s] [] (.tup [AD (nbs []), AI 2]) [] := by
  have hck := check_spec l
  rw [h] at hck
  have hh := heard_spec t e k s
  rw [hr] at hh
  refine FnS.of_body (enters_of Tryz.func51 (by kernel_rfl) rfl) Tryz.func51 rfl Tryz.ntmps51 Tryz.results51 rfl rfl rfl rfl fun E hS => ?_
  refine vc_retL ?_
  repeat' (first | (show VR _ _ _ (_ :: _) _ _ _; first | refine x_opF rfl (by first | exact True.intro | omega) ?_ | (show VR _ _ _ (⟨_, .call ⟨.value _, _, _⟩, _, _, _, _⟩ :: _) _ _ _; first | refine vr_calldU (hck) (gk rfl) rfl rfl rfl (by first | rfl | (simp only [wfRes, wfL, wfArgs, List.all_cons, List.all_nil, rowOf_blk]; rfl)) rfl (by first | exact newB_O | rfl) rfl ?_ | refine vr_calldU (hh) (gk rfl) rfl rfl rfl (by first | rfl | (simp only [wfRes, wfL, wfArgs, List.all_cons, List.all_nil, rowOf_blk]; rfl)) rfl (by first | exact newB_O | rfl) rfl ?_)) | (show VR _ _ _ [] _ _ _; first | refine vr_nil ?_) | (show thenQ _ _ _ _; first | refine q_then_n ?_ | refine q_then_r ?_) | refine vc_seq ?_ | refine vc_region ?_ | (show VC _ (.cond _ _ _) _ _; first | refine vc_cond_t rfl ?_ | refine vc_cond_f rfl ?_) | refine vc_ret ?_ | refine vc_skip ?_)
  refine retL_of (le_gen0 (l := [(10, AD (nbs [])), (11, AI 2)]) (b := []) (fun n => n) ?_ ?_ rfl (by first | rfl | (simp only [wfL, List.all_cons, List.all_nil, rowOf_blk]; rfl))) (ret_d2 isRet_r rfl rfl rfl rfl)
  all_goals repeat' (first | exact trivial | refine ⟨⟨_, rfl, ?_⟩, ?_⟩ | exact .c .d | exact .c .nil)
theorem hear_late2 (l : List Nb) (t e k s : Int) (h : checkNb l = 0) (hr : heardB t e k s = true) (hs : s < (hearX l t).slot) : FnS Tryz.prog 51 [AD (nbs l), AI t, AI e, AI k, AI s] [] (.tup [AD (nbs []), AI 15]) [] := by
  have hck := check_spec l
  rw [h] at hck
  have hh := heard_spec t e k s
  rw [hr] at hh
  obtain ⟨hlen, hall⟩ := checkNb_ok h
  have hfd := find_spec l t (by omega)
  have hf : foundNb l t = true := by
    cases hf : foundNb l t with
    | true => rfl
    | false =>
      rw [hearX, hf] at hs
      simp only [heardB, Bool.and_eq_true, inR_t] at hr
      have : s < 0 := hs
      omega
  rw [hearX, if_pos hf] at hs
  rw [hf] at hfd
  have hi := (found_iff.1 hf).1
  have d9 : decide (s < (l.getD (bsNb l t) default).slot) = true := decide_eq_true hs
  generalize bsNb l t = i at *
  refine FnS.of_body (enters_of Tryz.func51 (by kernel_rfl) rfl) Tryz.func51 rfl Tryz.ntmps51 Tryz.results51 rfl rfl rfl rfl fun E hS => ?_
  refine vc_retL ?_
  repeat' (first | (show VR _ _ _ (_ :: _) _ _ _; first | refine x_opF rfl (by first | exact True.intro | omega) ?_ | (show VR _ _ _ (⟨_, .call ⟨.value _, _, _⟩, _, _, _, _⟩ :: _) _ _ _; first | refine vr_calldU (hck) (gk rfl) rfl rfl rfl (by first | rfl | (simp only [wfRes, wfL, wfArgs, List.all_cons, List.all_nil, rowOf_blk]; rfl)) rfl (by first | exact newB_O | rfl) rfl ?_ | refine vr_calldU (hh) (gk rfl) rfl rfl rfl (by first | rfl | (simp only [wfRes, wfL, wfArgs, List.all_cons, List.all_nil, rowOf_blk]; rfl)) rfl (by first | exact newB_O | rfl) rfl ?_ | refine vr_calldU (hfd) (gk rfl) rfl rfl rfl (by first | rfl | (simp only [wfRes, wfL, wfArgs, List.all_cons, List.all_nil, rowOf_blk]; rfl)) rfl (by first | exact newB_O | rfl) rfl ?_) | (show VR _ _ _ (⟨_, .indexAddr _ _ _, _, _, _, _⟩ :: _) _ _ _; first | refine vr_index_rd (gk rfl) rfl rfl rfl rfl rfl (by omega) rfl ?_)) | (show VR _ _ _ [] _ _ _; first | refine vr_nil ?_) | (show thenQ _ _ _ _; first | refine q_then_n ?_ | refine q_then_r ?_) | refine vc_seq ?_ | refine vc_region ?_ | (show VC _ (.cond _ _ _) _ _; first | refine vc_cond_t rfl ?_ | refine vc_cond_f rfl ?_ | refine x_know rfl (by assumption) ?_) | refine vc_ret ?_ | refine vc_skip ?_)
  refine retL_of (le_gen0 (l := [(10, AD (nbs [])), (11, AI 15)]) (b := []) (fun n => n) ?_ ?_ rfl (by first | rfl | (simp only [wfL, List.all_cons, List.all_nil, rowOf_blk]; rfl))) (ret_d2 isRet_r rfl rfl rfl rfl)
  all_goals repeat' (first | exact trivial | refine ⟨⟨_, rfl, ?_⟩, ?_⟩ | exact .c .d | exact .c .nil)
theorem hear_spec (l : List Nb) (t e k s : Int) : FnS Tryz.prog 51 [AD (nbs l), AI t, AI e, AI k, AI s] [] (.tup [AD (nbs (hearM l t e k s).1), AI (hearM l t e k s).2]) [] := by
  unfold hearM
  by_cases h : checkNb l = 0
  · rw [if_neg (by simp [h])]
    cases hr : heardB t e k s with
    | false =>
      rw [if_pos rfl]
      exact hear_range2 l t e k s h hr
    | true =>
      rw [if_neg (by simp)]
      by_cases hs : s < (hearX l t).slot
      · rw [if_pos hs]
        exact hear_late2 l t e k s h hr hs
      · rw [if_neg hs]
        cases hf : foundNb l t with
        | true => exact hear_known2 l t e k s h hr hs hf
        | false => exact hear_new2 l t e k s h hr hf
  · rw [if_pos h]
    exact hear_bad2 l t e k s h
def countM (l : List Nb) (t : Int) (b : Bool) : List Nb × Int := if checkNb l ≠ 0 then ([], 1) else if foundNb l t = false then ([], 7) else (l.set (bsNb l t) (cnt (l.getD (bsNb l t) default) b), 0)
theorem count_ok2 (l : List Nb) (t : Int) (b : Bool) (h : checkNb l = 0) (hf : foundNb l t = true) : FnS Tryz.prog 72 [AD (nbs l), AI t, AB b] [] (.tup [AD (nbs (l.set (bsNb l t) (cnt (l.getD (bsNb l t) default) b))), AI 0]) [] := by
  obtain ⟨hlen, hall⟩ := checkNb_ok h
  have hck := check_spec l
  rw [h] at hck
  have hfd := find_spec l t (by omega)
  rw [hf] at hfd
  have hi : bsNb l t < l.length := by
    simp only [foundNb, Bool.and_eq_true, decide_eq_true_eq] at hf
    exact hf.1
  have hx := (nbErr_ok (hall _ hi)).2
  generalize bsNb l t = i at *
  refine FnS.of_body (enters_of Tryz.func72 (by kernel_rfl) rfl) Tryz.func72 rfl Tryz.ntmps72 Tryz.results72 rfl rfl rfl rfl fun E hS => ?_
  refine vc_retL ?_
  repeat' (first | (show VR _ _ _ (_ :: _) _ _ _; first | refine x_opF rfl (by first | exact True.intro | omega) ?_ | (show VR _ _ _ (⟨_, .call ⟨.value _, _, _⟩, _, _, _, _⟩ :: _) _ _ _; first | refine vr_calldU (hck) (gk rfl) rfl rfl rfl (by first | rfl | (simp only [wfRes, wfL, wfArgs, List.all_cons, List.all_nil, rowOf_blk]; rfl)) rfl (by first | exact newB_O | rfl) rfl ?_ | refine vr_calldU (hfd) (gk rfl) rfl rfl rfl (by first | rfl | (simp only [wfRes, wfL, wfArgs, List.all_cons, List.all_nil, rowOf_blk]; rfl)) rfl (by first | exact newB_O | rfl) rfl ?_ | refine vr_calldU (clone_spec l (by omega)) (gk rfl) rfl rfl rfl (by first | rfl | (simp only [wfRes, wfL, wfArgs, List.all_cons, List.all_nil, rowOf_blk]; rfl)) rfl (by first | exact newB_O | rfl) rfl ?_) | (show VR _ _ _ (⟨_, .indexAddr _ _ _, _, _, _, _⟩ :: _) _ _ _; first | refine vr_index_rowO (gk rfl) rfl rfl rfl rfl rfl rfl (by omega) (by omega) rfl ?_) | (show VR _ _ _ (⟨_, .nilCheck _, _, _, _, _⟩ :: _) _ _ _; first | refine vr_nilCheck_rp (gk rfl) rfl rfl ?_) | (show VR _ _ _ (⟨_, .load _ _, _, _, _, _⟩ :: _) _ _ _; first | refine vr_load_rowO (gk rfl) rfl rfl (by omega) rfl rfl rfl ?_ | refine vr_load_rowS (gk rfl) rfl rfl (by omega) rfl rfl rfl ?_) | (show VR _ _ _ (⟨_, .store _ _ _, _, _, _, _⟩ :: _) _ _ _; first | refine vr_store_rowO (gk rfl) rfl rfl rfl (by omega) rfl rfl rfl ?_ | refine vr_store_rowS (gk rfl) rfl rfl rfl (by omega) rfl rfl rfl ?_)) | (show VR _ _ _ [] _ _ _; first | refine vr_nil ?_) | (show thenQ _ _ _ _; first | refine q_then_n ?_) | refine vc_seq ?_ | refine vc_region ?_ | (show VC _ (.cond _ _ _) _ _; first | refine vc_cond_f rfl ?_ | (refine x_cond rfl ?_ ?_ <;> intro h <;> have hq := h <;> (try simp only [decide_eq_true_eq, decide_eq_false_iff_not, Int.not_lt, Int.not_le, ne_eq, Decidable.not_not, Bool.not_eq_true', Bool.not_eq_false'] at hq))) | refine vc_ret ?_ | refine vc_skip ?_)
  all_goals
    refine retL_le (le_gen0 (l := [(6, .c (.row 24007 (l.set i (cnt (l.getD i default) b)).length)), (7, AI 0)]) (b := [(24007, .row 227 6 (rowOf Nb.enc (l.set i (cnt (l.getD i default) b))))]) (fun n => n) ⟨⟨_, rfl, .c (.row rfl (by simp))⟩, ⟨_, rfl, .c .d⟩, trivial⟩
      ⟨⟨_, rfl, .rowD (rowOf_set ?_) rowOf_isD⟩, trivial⟩ rfl (by simp only [wfL, List.all_cons, List.all_nil, rowOf_blk]; rfl)) ?_
    · generalize l.getD i default = x at *
      simp [cnt, Nb.enc, putC, *]
  · refine retL_of (le_gen (l := [(6, AD (nbs (l.set i (cnt (l.getD i default) b)))), (7, AI 0)]) (b := []) (fun n => n) [24007] hS ?_ ?_ rfl (by first | rfl | (simp only [wfL, List.all_cons, List.all_nil, rowOf_blk]; rfl))) (ret_d2 isRet_r rfl rfl rfl rfl)
    all_goals repeat' (first | exact trivial | refine ⟨⟨_, rfl, ?_⟩, ?_⟩ | exact .c .d | exact .c (.frzOf (by first | (simp; done) | decide) rfl rfl (fun _ => rfl)))
  · refine retL_of (le_gen (l := [(6, AD (nbs (l.set i (cnt (l.getD i default) b)))), (7, AI 0)]) (b := []) (fun n => n) [24007] hS ?_ ?_ rfl (by first | rfl | (simp only [wfL, List.all_cons, List.all_nil, rowOf_blk]; rfl))) (ret_d2 isRet_r rfl rfl rfl rfl)
    all_goals repeat' (first | exact trivial | refine ⟨⟨_, rfl, ?_⟩, ?_⟩ | exact .c .d | exact .c (.frzOf (by first | (simp; done) | decide) rfl rfl (fun _ => rfl)))
  · refine retL_of (le_gen (l := [(6, AD (nbs (l.set i (cnt (l.getD i default) b)))), (7, AI 0)]) (b := []) (fun n => n) [24007] hS ?_ ?_ rfl (by first | rfl | (simp only [wfL, List.all_cons, List.all_nil, rowOf_blk]; rfl))) (ret_d2 isRet_r rfl rfl rfl rfl)
    all_goals repeat' (first | exact trivial | refine ⟨⟨_, rfl, ?_⟩, ?_⟩ | exact .c .d | exact .c (.frzOf (by first | (simp; done) | decide) rfl rfl (fun _ => rfl)))
  · refine retL_of (le_gen (l := [(6, AD (nbs (l.set i (cnt (l.getD i default) b)))), (7, AI 0)]) (b := []) (fun n => n) [24007] hS ?_ ?_ rfl (by first | rfl | (simp only [wfL, List.all_cons, List.all_nil, rowOf_blk]; rfl))) (ret_d2 isRet_r rfl rfl rfl rfl)
    all_goals repeat' (first | exact trivial | refine ⟨⟨_, rfl, ?_⟩, ?_⟩ | exact .c .d | exact .c (.frzOf (by first | (simp; done) | decide) rfl rfl (fun _ => rfl)))
theorem count_bad2 (l : List Nb) (t : Int) (b : Bool) (h : checkNb l ≠ 0) : FnS Tryz.prog 72 [AD (nbs l), AI t, AB b] [] (.tup [AD (nbs []), AI 1]) [] := by
  have d1 : decide (checkNb l ≠ 0) = true := decide_eq_true h
  refine FnS.of_body (enters_of Tryz.func72 (by kernel_rfl) rfl) Tryz.func72 rfl Tryz.ntmps72 Tryz.results72 rfl rfl rfl rfl fun E hS => ?_
  refine vc_retL ?_
  repeat' (first | (show VR _ _ _ (_ :: _) _ _ _; first | refine x_opF rfl (by first | exact True.intro | omega) ?_ | (show VR _ _ _ (⟨_, .call ⟨.value _, _, _⟩, _, _, _, _⟩ :: _) _ _ _; first | refine vr_calldU (check_spec l) (gk rfl) rfl rfl rfl (by first | rfl | (simp only [wfRes, wfL, wfArgs, List.all_cons, List.all_nil, rowOf_blk]; rfl)) rfl (by first | exact newB_O | rfl) rfl ?_)) | (show VR _ _ _ [] _ _ _; first | refine vr_nil ?_) | (show thenQ _ _ _ _; first | refine q_then_n ?_ | refine q_then_r ?_) | refine vc_seq ?_ | refine vc_region ?_ | (show VC _ (.cond _ _ _) _ _; first | refine vc_cond_t rfl ?_ | refine x_know rfl (by assumption) ?_) | refine vc_ret ?_)
  refine retL_of (le_gen0 (l := [(6, AD (nbs [])), (7, AI 1)]) (b := []) (fun n => n) ?_ ?_ rfl (by first | rfl | (simp only [wfL, List.all_cons, List.all_nil, rowOf_blk]; rfl))) (ret_d2 isRet_r rfl rfl rfl rfl)
  all_goals repeat' (first | exact trivial | refine ⟨⟨_, rfl, ?_⟩, ?_⟩ | exact .c .d | exact .c .nil)
theorem count_none2 (l : List Nb) (t : Int) (b : Bool) (h : checkNb l = 0) (hf : foundNb l t = false) : FnS Tryz.prog 72 [AD (nbs l), AI t, AB b] [] (.tup [AD (nbs []), AI 7]) [] := by
  obtain ⟨hlen, _⟩ := checkNb_ok h
  have hck := check_spec l
  rw [h] at hck
  have hfd := find_spec l t (by omega)
  rw [hf] at hfd
  refine FnS.of_body (enters_of Tryz.func72 (by kernel_rfl) rfl) Tryz.func72 rfl Tryz.ntmps72 Tryz.results72 rfl rfl rfl rfl fun E hS => ?_
  refine vc_retL ?_
  repeat' (first | (show VR _ _ _ (_ :: _) _ _ _; first | refine x_opF rfl (by first | exact True.intro | omega) ?_ | (show VR _ _ _ (⟨_, .call ⟨.value _, _, _⟩, _, _, _, _⟩ :: _) _ _ _; first | refine vr_calldU (hck) (gk rfl) rfl rfl rfl (by first | rfl | (simp only [wfRes, wfL, wfArgs, List.all_cons, List.all_nil, rowOf_blk]; rfl)) rfl (by first | exact newB_O | rfl) rfl ?_ | refine vr_calldU (hfd) (gk rfl) rfl rfl rfl (by first | rfl | (simp only [wfRes, wfL, wfArgs, List.all_cons, List.all_nil, rowOf_blk]; rfl)) rfl (by first | exact newB_O | rfl) rfl ?_)) | (show VR _ _ _ [] _ _ _; first | refine vr_nil ?_) | (show thenQ _ _ _ _; first | refine q_then_n ?_ | refine q_then_r ?_) | refine vc_seq ?_ | refine vc_region ?_ | (show VC _ (.cond _ _ _) _ _; first | refine vc_cond_t rfl ?_ | refine vc_cond_f rfl ?_) | refine vc_ret ?_ | refine vc_skip ?_)
  refine retL_of (le_gen0 (l := [(6, AD (nbs [])), (7, AI 7)]) (b := []) (fun n => n) ?_ ?_ rfl (by first | rfl | (simp only [wfL, List.all_cons, List.all_nil, rowOf_blk]; rfl))) (ret_d2 isRet_r rfl rfl rfl rfl)
  all_goals repeat' (first | exact trivial | refine ⟨⟨_, rfl, ?_⟩, ?_⟩ | exact .c .d | exact .c .nil)
theorem count_spec (l : List Nb) (t : Int) (b : Bool) : FnS Tryz.prog 72 [AD (nbs l), AI t, AB b] [] (.tup [AD (nbs (countM l t b).1), AI (countM l t b).2]) [] := by
  unfold countM
  by_cases h : checkNb l = 0
  · rw [if_neg (by simp [h])]
    cases hf : foundNb l t with
    | false =>
      rw [if_pos rfl]
      exact count_none2 l t b h hf
    | true =>
      rw [if_neg (by simp)]
      exact count_ok2 l t b h hf
  · rw [if_pos h]
    exact count_bad2 l t b h
def forgetM (l : List Nb) (slot age : Int) : List Nb := if checkNb l = 0 /\ 0 <= slot /\ 0 <= age then kept l slot age else l
theorem forget_ok2 (l : List Nb) (slot age : Int) (h : checkNb l = 0 /\ 0 <= slot /\ 0 <= age) : FnS Tryz.prog 73 [AD (nbs l), AI slot, AI age] [] (AD (nbs (kept l slot age))) [] := by
  obtain ⟨hlen, _⟩ := checkNb_ok h.1
  have hck := check_spec l
  rw [h.1] at hck
  have h2 := h.2.1
  have h3 := h.2.2
  have d1 : decide (slot < 0) = false := by simp; omega
  have d2 : decide (age < 0) = false := by simp; omega
  refine FnS.of_body (enters_of Tryz.func73 (by kernel_rfl) rfl) Tryz.func73 rfl Tryz.ntmps73 Tryz.results73 rfl rfl rfl rfl fun E hS => ?_
  refine vc_retL ?_
  repeat' (first | (show VR _ _ _ (_ :: _) _ _ _; first | refine x_opF rfl (by first | exact True.intro | omega) ?_ | (show VR _ _ _ (⟨_, .call ⟨.value _, _, _⟩, _, _, _, _⟩ :: _) _ _ _; first | refine vr_calldU (hck) (gk rfl) rfl rfl rfl (by first | rfl | (simp only [wfRes, wfL, wfArgs, List.all_cons, List.all_nil, rowOf_blk]; rfl)) rfl (by first | exact newB_O | rfl) rfl ?_ | refine vr_calldU (clone_spec l (by omega)) (gk rfl) rfl rfl rfl (by first | rfl | (simp only [wfRes, wfL, wfArgs, List.all_cons, List.all_nil, rowOf_blk]; rfl)) rfl (by first | exact newB_O | rfl) rfl ?_ | refine vr_callMU [4, 5] (del_spec l (oldB slot age) (by omega)) (gk rfl) rfl rfl rowOf_isD rfl (by (repeat' (first | exact .nil | refine .cons ?_ ?_ | exact .of0 (.c .d) | exact .of0 .ep | exact .clo | exact (forget1_fnc rfl rfl) | exact .of0 (.c .nil) | exact .of0 (.c (cr_rowO (by simp) rfl (by first | rfl | omega) (fun _ => rfl))) | refine .of0 (.agg ?_) | exact .d | exact .nil | exact .of0 (.c (cr_row (by decide) rfl rfl (by repeat' (first | exact trivial | refine ⟨?_, ?_⟩ | rfl)))))) <;> fail) rfl (by first | rfl | exact hfl_O (fun _ => rfl) | exact hfl_O2 rfl (fun _ => rfl)) rfl (by first | rfl | (simp only [wfRes, wfL, wfArgs, List.all_cons, List.all_nil, rowOf_blk]; rfl)) rfl (by first | exact newB_O | rfl) rfl ?_) | refine x_gknow rfl (by assumption) ?_) | (show VR _ _ _ [] _ _ _; first | refine vr_nil ?_) | (show thenQ _ _ _ _; first | refine q_then_n ?_) | refine vc_seq ?_ | refine vc_region ?_ | (show VC _ (.cond _ _ _) _ _; first | refine vc_cond_f rfl ?_ | refine x_know rfl (by assumption) ?_) | refine vc_ret ?_ | refine vc_skip ?_)
  refine retL_of (le_gen (l := [(6, AD (nbs (kept l slot age)))]) (b := []) (fun n => n) [22000] hS ?_ ?_ rfl (by first | rfl | (simp only [wfL, List.all_cons, List.all_nil, rowOf_blk]; rfl))) (ret_d isRet_r rfl rfl)
  all_goals repeat' (first | exact trivial | refine ⟨⟨_, rfl, ?_⟩, ?_⟩ | exact .c (.frzOf (by first | (simp; done) | decide) rfl rfl (fun _ => rfl)))
theorem forget_spec (l : List Nb) (slot age : Int) : FnS Tryz.prog 73 [AD (nbs l), AI slot, AI age] [] (AD (nbs (forgetM l slot age))) [] := by
  unfold forgetM
  by_cases h : checkNb l = 0 /\ 0 <= slot /\ 0 <= age
  · rw [if_pos h]
    exact forget_ok2 l slot age h
  · rw [if_neg h]
    exact forget_bad l slot age (by
      by_cases h1 : checkNb l = 0
      · exact .inr (by by_cases h2 : 0 <= slot
                       · exact .inr (by by_cases h3 : 0 <= age
                                        · exact absurd ⟨h1, h2, h3⟩ h
                                        · omega)
                       · exact .inl (by omega))
      · exact .inl h1)
end Go.Proofs.P
end
section
namespace Go.Proofs.P
open Go Go.Sx
set_option maxRecDepth 4000
attribute [local irreducible] VR VC thenQ blockQ retL
theorem check_of {l : List Nb} (hlen : l.length <= 32) (hr : ∀ k, k < l.length -> heardB (l.getD k default).node (l.getD k default).epoch (l.getD k default).rank (l.getD k default).slot = true /\ (0 <= (l.getD k default).att /\ (l.getD k default).att <= 255) /\ 0 <= (l.getD k default).ack /\ (l.getD k default).ack <= (l.getD k default).att)
    (hm : ∀ k, 0 < k -> k < l.length -> (l.getD (k - 1) default).node < (l.getD k default).node) : checkNb l = 0 := by
  unfold checkNb
  rw [if_neg (by omega)]
  refine firstErr_none fun k hk => ?_
  obtain ⟨h1, h2, h3⟩ := hr k hk
  unfold nbErr
  dsimp only
  have ha : inR (l.getD k default).att 0 255 = true := by rw [inR_t]; exact h2
  have hb : inR (l.getD k default).ack 0 (l.getD k default).att = true := by rw [inR_t]; exact h3
  rw [h1, ha, hb]
  simp only [Bool.and_self, if_true]
  rw [if_neg]
  rintro ⟨h0, hle⟩
  have := hm k h0 hk
  omega
theorem ins_getD {l : List Nb} {i j : Nat} {y : Nb} (hi : i <= l.length) : (insAt l i y).getD j default = if j < i then l.getD j default else if j = i then y else l.getD (j - 1) default := by
  unfold insAt
  simp only [List.getD_eq_getElem?_getD]
  have hl : (l.take i).length = i := by rw [List.length_take]; omega
  split
  · rw [List.getElem?_append_left (by omega), List.getElem?_take_of_lt (by assumption)]
  · rw [List.getElem?_append_right (by omega), hl]
    split
    · rename_i h; subst h; simp
    · obtain ⟨m, hm⟩ : ∃ m, j - i = m + 1 := ⟨j - i - 1, by omega⟩
      rw [hm, List.getElem?_cons_succ, List.getElem?_drop]
      congr 2
      omega
theorem ins_len {l : List Nb} {i : Nat} {y : Nb} (hi : i <= l.length) : (insAt l i y).length = l.length + 1 := by
  simp only [insAt, List.length_append, List.length_take, List.length_cons, List.length_drop]
  omega
theorem node_ge {l : List Nb} (h : checkNb l = 0) : ∀ k, k < l.length -> (k : Int) <= (l.getD k default).node := by
  intro k
  induction k with
  | zero => intro hk; have := (adv_range h hk).2.1; simpa using this
  | succ k ih =>
    intro hk
    have h1 := ih (by omega)
    have h2 := nb_lt h (i := k + 1) (by omega) hk
    simp only [Nat.add_sub_cancel] at h2
    push_cast
    omega
theorem new_room {l : List Nb} (h : checkNb l = 0) {t : Int} (ht : 0 <= t /\ t <= 31) (hf : foundNb l t = false) : l.length <= 31 := by
  obtain ⟨b1, b2, b3⟩ := bsNb_ok h t
  have hti : (bsNb l t : Int) <= t := by
    rcases Nat.eq_zero_or_pos (bsNb l t) with h0 | h0
    · rw [h0]; simpa using ht.1
    · have h1 := b2 (bsNb l t - 1) (by omega)
      have h2 := node_ge h (bsNb l t - 1) (by omega)
      omega
  by_cases hlt : bsNb l t < l.length
  · have hne : (l.getD (bsNb l t) default).node ≠ t := fun e => by
      have := found_iff.2 ⟨hlt, e⟩
      rw [hf] at this; cases this
    have key : ∀ j, bsNb l t + j < l.length -> t + 1 + j <= (l.getD (bsNb l t + j) default).node := by
      intro j
      induction j with
      | zero => intro hj; have := b3 _ (Nat.le_refl _) hlt; simp only [Nat.add_zero] at *; omega
      | succ j ih =>
        intro hj
        have h1 := ih (by omega)
        have h2 := nb_lt h (i := bsNb l t + (j + 1)) (by omega) hj
        rw [show bsNb l t + (j + 1) - 1 = bsNb l t + j by omega] at h2
        push_cast
        omega
    have h1 := key (l.length - 1 - bsNb l t) (by omega)
    have h2 := (adv_range h (k := bsNb l t + (l.length - 1 - bsNb l t)) (by omega)).2.2
    omega
  · omega
theorem hear_check {l : List Nb} (h : checkNb l = 0) {t e k s : Int} (hr : heardB t e k s = true) : checkNb (hearL l t e k s) = 0 := by
  obtain ⟨hlen, hall⟩ := checkNb_ok h
  obtain ⟨b1, b2, b3⟩ := bsNb_ok h t
  unfold hearL
  cases hf : foundNb l t with
  | true =>
    obtain ⟨hi, hn⟩ := found_iff.1 hf
    simp only [if_true]
    have hnode : ∀ j, ((l.set (bsNb l t) (adOf (l.getD (bsNb l t) default) e k s)).getD j default).node = (l.getD j default).node := fun j => by
      rw [set_getD hi]; split
      · rename_i e; rw [e]; rfl
      · rfl
    refine check_of (by rw [List.length_set]; omega) (fun j hj => ?_) (fun j h0 hj => ?_)
    · rw [List.length_set] at hj
      have hx := nbErr_ok (hall _ hi)
      rw [set_getD hi]; split
      · refine ⟨?_, hx.2⟩
        show heardB (l.getD (bsNb l t) default).node e k s = true
        rw [hn]; exact hr
      · exact nbErr_ok (hall _ hj)
    · rw [List.length_set] at hj
      rw [hnode, hnode]
      exact nb_lt h h0 hj
  | false =>
    simp only [Bool.false_eq_true, if_false]
    have ht : 0 <= t /\ t <= 31 := by simp only [heardB, Bool.and_eq_true, inR_t] at hr; omega
    have hroom := new_room h ht hf
    refine check_of (by rw [ins_len b1]; omega) (fun j hj => ?_) (fun j h0 hj => ?_)
    · rw [ins_len b1] at hj
      rw [ins_getD b1]
      split
      · exact nbErr_ok (hall _ (by omega))
      · split
        · exact ⟨hr, by simp [adOf, newNb], by simp [adOf, newNb]⟩
        · exact nbErr_ok (hall _ (by omega))
    · rw [ins_len b1] at hj
      rw [ins_getD b1, ins_getD b1]
      have hne : bsNb l t < l.length -> (l.getD (bsNb l t) default).node ≠ t := fun hlt e => by
        have := found_iff.2 ⟨hlt, e⟩
        rw [hf] at this; cases this
      by_cases h1 : j < bsNb l t
      · rw [if_pos (by omega), if_pos h1]; exact nb_lt h h0 (by omega)
      · by_cases h2 : j = bsNb l t
        · rw [if_pos (by omega), if_neg h1, if_pos h2]
          exact b2 _ (by omega)
        · rw [if_neg (by omega), if_neg h1, if_neg h2]
          by_cases h3 : j - 1 = bsNb l t
          · rw [if_pos h3]
            have h4 := b3 (j - 1) (by omega) (by omega)
            have h5 := hne (by omega)
            rw [<- h3] at h5
            show t < _
            omega
          · rw [if_neg h3]
            exact nb_lt h (by omega) (by omega)
end Go.Proofs.P
end
