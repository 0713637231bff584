/-
  What functions of the given program hand back, by walks over its code, and plain laws on that. No condition.
-/
import Derived.Test.YtecdajajocafdaaSxLibB
import Derived.Test.YtecdajajocafdaaSxT18p
section
namespace Go.Proofs.T
open Go Go.Sx
set_option maxRecDepth 4000
set_option linter.unusedSimpArgs false
set_option linter.unusedVariables false
attribute [local irreducible] VR VC thenQ blockQ retL
def cmpI (a b : Int) : Int := if a < b then -1 else if b < a then 1 else 0
theorem isNaN_spec (a : Int) : FnS Try.prog 87 [AI a] [] (AB false) [] := by
  refine FnS.of_body (enters_of Try.func87 (by kernel_rfl) rfl) Try.func87 rfl Try.ntmps87 Try.results87 rfl rfl rfl rfl fun E hS => ?_
  repeat' (first
    | (show VR _ _ _ (_ :: _) _ _ _; first | refine x_opF rfl (by first | exact True.intro | omega) ?_)
    | (show VR _ _ _ [] _ _ _; first | refine vr_nil ?_)
    | (show thenQ _ _ _ _; first | refine q_then_n ?_)
    | refine vc_seq ?_
    | refine vc_region ?_
    | refine vc_ret ?_
    | fail)
  all_goals exact ret_bool isRet_r rfl (by simp)
theorem cmp_spec (a b : Int) : FnS Try.prog 60 [AI a, AI b] [] (AI (cmpI a b)) [] := by
  refine FnS.of_body (enters_of Try.func60 (by kernel_rfl) rfl) Try.func60 rfl Try.ntmps60 Try.results60 rfl rfl rfl rfl fun E hS => ?_
  repeat' (first
    | (show VR _ _ _ (_ :: _) _ _ _; first | refine x_opF rfl (by first | exact True.intro | omega) ?_ | (show VR _ _ _ (⟨_, .call ⟨.value _, _, _⟩, _, _, _, _⟩ :: _) _ _ _; first | refine vr_calld (isNaN_spec _) (gk rfl) rfl rfl rfl rfl rfl rfl ?_))
    | (show VR _ _ _ [] _ _ _; first | refine vr_nil ?_)
    | (show thenQ _ _ _ _; first | refine q_then_n ?_ | refine q_then_r ?_)
    | refine vc_seq ?_
    | refine vc_region ?_
    | (show VC _ (.cond _ _ _) _ _; first | refine vc_cond_f rfl ?_ | (refine x_cond rfl ?_ ?_ <;> intro h <;> have hq := h <;> (try simp only [decide_eq_true_eq, decide_eq_false_iff_not, Int.not_lt, Int.not_le, ne_eq, Decidable.not_not, Bool.not_eq_true', Bool.not_eq_false'] at hq)))
    | refine vc_ret ?_ | refine vc_skip ?_
    | fail)
  all_goals refine ret_int isRet_r rfl ?_
  all_goals unfold cmpI
  all_goals repeat' split
  all_goals first | rfl | (exfalso; simp_all; done) | (exfalso; omega) | trace_state
def orI : List Int → Int
  | [] => 0
  | x :: l => if x ≠ 0 then x else orI l
abbrev ints (l : List Int) : D := rdOf (fun x => [.int .i64 x]) 1 l
theorem orI_at : ∀ (l : List Int) (k : Nat), (∀ i, i < k → l.getD i 0 = 0) → k ≤ l.length → orI l = orI (l.drop k)
  | l, 0, _, _ => rfl
  | [], k + 1, _, h => absurd h (by simp)
  | x :: l, k + 1, h, hk => by
    have h0 : x = 0 := h 0 (by omega)
    rw [List.drop_succ_cons, ← orI_at l k (fun i hi => h (i + 1) (by omega)) (by simpa using hk)]
    simp [orI, h0]
theorem or_spec (l : List Int) : FnS Try.prog 90 [AD (ints l)] [] (AI (orI l)) [] := by
  refine FnS.of_body (enters_of Try.func90 (by kernel_rfl) rfl) Try.func90 rfl Try.ntmps90 Try.results90 rfl rfl rfl rfl fun E hS => ?_
  refine vc_bound (t := 0) rfl fun hb => ?_
  repeat' (first
    | (show VR _ _ _ (_ :: _) _ _ _; first | refine x_opF rfl (by first | exact True.intro | omega) ?_)
    | (show VR _ _ _ [] _ _ _; first | refine vr_nil ?_)
    | (show thenQ _ _ _ _; first | refine q_then_n ?_)
    | refine vc_seq ?_
    | refine vc_region ?_
    | refine vc_block ?_
    | fail)
  refine vc_loopI (ι := Nat) (fun k => stOf [(3, AI 0), (6, AD (ints l)), (7, AI l.length), (8, AI k)] []) (fun k => k ≤ l.length ∧ ∀ i, i < k → l.getD i 0 = 0) (fun k => l.length - k) 0 ⟨Nat.zero_le _, fun i hi => absurd hi (Nat.not_lt_zero _)⟩ ?_ ?_
  · exact le_of ⟨rfl, rfl, rfl, rfl, trivial⟩ trivial rfl
  · intro k hk
    repeat' (first
      | (show VR _ _ _ (_ :: _) _ _ _; first | refine x_opF rfl (by first | exact True.intro | omega) ?_ | (show VR _ _ _ (⟨_, .indexAddr _ _ _, _, _, _, _⟩ :: _) _ _ _; first | refine vr_index_rd (gk rfl) rfl rfl rfl rfl rfl (by omega) rfl ?_))
      | (show VR _ _ _ [] _ _ _; first | refine vr_nil ?_)
      | (show thenQ _ _ _ _; first | refine q_then_n ?_ | refine q_then_x ?_ | refine q_then_r ?_)
      | (show blockQ _ _ _ _; first | refine q_blk_n ?_ | refine q_blk_r ?_ | refine q_blk_x ?_)
      | refine vc_seq ?_
      | refine vc_region ?_
      | (show VC _ (.cond _ _ _) _ _; first | (refine x_cond rfl ?_ ?_ <;> intro h <;> have hq := h <;> (try simp only [decide_eq_true_eq, decide_eq_false_iff_not, Int.not_lt, Int.not_le, ne_eq, Decidable.not_not, Bool.not_eq_true', Bool.not_eq_false'] at hq)))
      | refine vc_ret ?_ | refine vc_exit ?_ | refine vc_block ?_ | refine vc_skip ?_
      | fail)
    · refine ret_int isRet_r rfl ?_
      rw [orI_at l k hk.2 hk.1, List.drop_eq_getElem_cons (by omega), orI, if_pos]
      · simp [List.getD_eq_getElem?_getD]; rw [List.getElem?_eq_getElem (by omega)]; rfl
      · rw [List.getD_eq_getElem?_getD, List.getElem?_eq_getElem (by omega)] at hq; exact hq
    · refine ⟨k + 1, ⟨by omega, fun i hi => ?_⟩, by omega, le_of ⟨rfl, rfl, rfl, rfl, trivial⟩ trivial rfl⟩
      by_cases hik : i < k
      · exact hk.2 i hik
      · have : i = k := by omega
        subst this
        exact hq
    · refine ret_int isRet_r rfl ?_
      rw [orI_at l k hk.2 hk.1, List.drop_of_length_le (by omega)]; rfl
structure TC where
  slot : Int
  offset : Int
  kind : Int
  send : Bool
  peer : Int
  flow : Int
  deriving DecidableEq, Inhabited
def TC.enc (x : TC) : List D := [.int .i64 x.slot, .int .i64 x.offset, .int .i64 x.kind, .bool x.send, .int .i64 x.peer, .int .i64 x.flow]
def TC.cs (x : TC) : List C := [.d (.int .i64 x.slot), .d (.int .i64 x.offset), .d (.int .i64 x.kind), .d (.bool x.send), .d (.int .i64 x.peer), .d (.int .i64 x.flow)]
abbrev tcA (x : TC) : AV := .agg x.cs
abbrev tcs (l : List TC) : D := rdOf TC.enc 6 l
def nodeB (n : Int) : Bool := decide (0 ≤ n ∧ n < 32)
theorem node_spec (n : Int) : FnS Try.prog 62 [AI n] [] (AB (nodeB n)) [] := by
  refine FnS.of_body (enters_of Try.func62 (by kernel_rfl) rfl) Try.func62 rfl Try.ntmps62 Try.results62 rfl rfl rfl rfl fun E hS => ?_
  repeat' (first
    | (show VR _ _ _ (_ :: _) _ _ _; first | refine x_opF rfl (by first | exact True.intro | omega) ?_ | (refine x_gsplit rfl ?_ ?_ <;> intro h <;> have hq := h <;> (try simp only [decide_eq_true_eq, decide_eq_false_iff_not, Int.not_lt, Int.not_le, ne_eq, Decidable.not_not, Bool.not_eq_true', Bool.not_eq_false'] at hq)))
    | (show VR _ _ _ [] _ _ _; first | refine vr_nil ?_)
    | (show thenQ _ _ _ _; first | refine q_then_n ?_)
    | refine vc_seq ?_
    | refine vc_region ?_
    | refine vc_ret ?_
    | fail)
  all_goals refine ret_bool isRet_r rfl ?_
  all_goals simp_all [nodeB] <;> omega
def cmpTC (a b : TC) : Int := orI [cmpI a.slot b.slot, cmpI a.kind b.kind]
theorem compare_spec (a b : TC) : FnS Try.prog 64 [tcA a, tcA b] [] (AI (cmpTC a b)) [] := by
  refine FnS.of_body (enters_of Try.func64 (by kernel_rfl) rfl) Try.func64 rfl Try.ntmps64 Try.results64 rfl rfl rfl rfl fun E hS => ?_
  repeat' (first
    | (show VR _ _ _ (_ :: _) _ _ _; first | refine x_opF rfl (by first | exact True.intro | omega) ?_ | (show VR _ _ _ (⟨_, .call ⟨.value _, _, _⟩, _, _, _, _⟩ :: _) _ _ _; first | refine vr_calld (cmp_spec _ _) (gk rfl) rfl rfl rfl rfl rfl rfl ?_ | refine vr_call [15] (or_spec [cmpI a.slot b.slot, cmpI a.kind b.kind]) (gk rfl) rfl (by (repeat' (first | exact .nil | refine .cons ?_ ?_ | exact .of0 (.c .d) | exact .of0 .ep | exact .clo | exact .of0 (.c .nil) | refine .of0 (.agg ?_) | exact .d | exact .nil | exact .of0 (.c (cr_row (by decide) rfl rfl (by repeat' (first | exact trivial | refine ⟨?_, ?_⟩ | rfl)))))) <;> fail) rfl rfl rfl rfl rfl ?_))
    | (show VR _ _ _ [] _ _ _; first | refine vr_nil ?_ | refine vr_nil_t (by kernel_rfl) ?_)
    | (show thenQ _ _ _ _; first | refine q_then_n ?_)
    | refine vc_seq ?_
    | refine vc_region ?_ | refine vc_region_t ?_
    | refine vc_ret ?_
    | fail)
  all_goals exact ret_int isRet_r rfl rfl
def formE (c : TC) (self len : Int) : Int :=
  if c.kind ≠ 3 ∧ c.kind ≠ 1 ∧ c.kind ≠ 2 then 1
  else if (c.kind ≠ 1 ∧ c.flow ≠ -1) ∨ (c.kind = 3 ∧ (c.peer ≠ -1 ∨ c.send = true)) then 1
  else if (c.slot < 0 ∨ len ≤ c.slot) ∨ (c.offset < 0 ∨ 16 ≤ c.offset) ∨ (c.kind ≠ 3 ∧ (nodeB c.peer = false ∨ c.peer = self)) ∨ (c.kind = 1 ∧ c.flow < 0) then 2 else 0
set_option maxHeartbeats 2000000 in
theorem form_spec (c : TC) (self len : Int) : FnS Try.prog 63 [tcA c, AI self, AI len] [] (AI (formE c self len)) [] := by
  have h3 : c.kind = 3 ∨ c.kind = 1 ∨ c.kind = 2 ∨ (c.kind ≠ 3 ∧ c.kind ≠ 1 ∧ c.kind ≠ 2) := by omega
  obtain ⟨slot, off, kind, send, peer, flow⟩ := c
  dsimp only at h3
  refine FnS.of_body (enters_of Try.func63 (by kernel_rfl) rfl) Try.func63 rfl Try.ntmps63 Try.results63 rfl rfl rfl rfl fun E hS => ?_
  rcases h3 with rfl | rfl | rfl | ⟨h, h', h''⟩
  rotate_left 3
  have a1 : (!decide (kind = 3)) = true := by simp [h]
  have a2 : (!decide (kind = 1)) = true := by simp [h']
  have a3 : decide (kind ≠ 2) = true := by simp [h'']
  all_goals
    repeat' (first
      | (show VR _ _ _ (_ :: _) _ _ _; first | refine x_opF rfl (by first | exact True.intro | omega) ?_ | (show VR _ _ _ (⟨_, .call ⟨.value _, _, _⟩, _, _, _, _⟩ :: _) _ _ _; first | refine vr_calld (node_spec _) (gk rfl) rfl rfl rfl rfl rfl rfl ?_) | refine x_gknow rfl (by assumption) ?_ | (refine x_gsplit rfl ?_ ?_ <;> intro h <;> have hq := h <;> (try simp only [decide_eq_true_eq, decide_eq_false_iff_not, Int.not_lt, Int.not_le, ne_eq, Decidable.not_not, Bool.not_eq_true', Bool.not_eq_false'] at hq)))
      | (show VR _ _ _ [] _ _ _; first | refine vr_nil ?_)
      | (show thenQ _ _ _ _; first | refine q_then_n ?_ | refine q_then_r ?_)
      | (show blockQ _ _ _ _; first | refine q_blk_n ?_ | refine q_blk_r ?_)
      | refine vc_seq ?_
      | refine vc_region ?_
      | (show VC _ (.cond _ _ _) _ _; first | refine vc_cond_t rfl ?_ | refine vc_cond_f rfl ?_ | refine x_know rfl (by assumption) ?_ | (refine x_cond rfl ?_ ?_ <;> intro h <;> have hq := h <;> (try simp only [decide_eq_true_eq, decide_eq_false_iff_not, Int.not_lt, Int.not_le, ne_eq, Decidable.not_not, Bool.not_eq_true', Bool.not_eq_false'] at hq)))
      | refine vc_ret ?_ | refine vc_block ?_ | refine vc_skip ?_
      | fail)
    all_goals first
      | (refine ret_int isRet_r rfl ?_; unfold formE; simp_all; done)
      | (refine ret_int isRet_r rfl ?_; unfold formE; simp_all <;> omega)
      | (exfalso; omega)
      | trace_state
end Go.Proofs.T
end
section
-- SXU
namespace Go.Proofs.T
open Go Go.Sx
set_option maxRecDepth 4000
set_option linter.unusedSimpArgs false
set_option linter.unusedVariables false
attribute [local irreducible] VR VC thenQ blockQ retL
/-- A table. -/
structure Tb where
  node : Int
  len : Int
  cells : List TC
  deriving Inhabited
def Tb.cs (t : Tb) : List C := [.d (.int .i64 t.node), .d (.int .i64 t.len), .d (tcs t.cells)]
abbrev tbA (t : Tb) : AV := .agg t.cs
def tcErr (t : Tb) (k : Nat) : Int :=
  if formE (t.cells.getD k default) t.node t.len ≠ 0 then formE (t.cells.getD k default) t.node t.len
  else if 0 < k ∧ 0 ≤ cmpTC (t.cells.getD (k - 1) default) (t.cells.getD k default) then 5 else 0
def checkT (t : Tb) : Int := if nodeB t.node = false ∨ t.len < 1 ∨ 512 < t.len then 2 else if 512 < t.cells.length then 8 else firstErr t.cells.length (tcErr t)
theorem checkT_hit {t : Tb} {k : Nat} {e : Int} (h1 : ¬ (nodeB t.node = false ∨ t.len < 1 ∨ 512 < t.len)) (h0 : t.cells.length ≤ 512) (h : k ≤ t.cells.length ∧ ∀ i, i < k → tcErr t i = 0) (hk : k < t.cells.length) (he : tcErr t k = e) (hne : e ≠ 0) : checkT t = e := by
  subst he
  rw [checkT, if_neg h1, if_neg (by omega), firstErr_hit h.2 hk hne]
theorem checkT_none {t : Tb} {k : Nat} (h1 : ¬ (nodeB t.node = false ∨ t.len < 1 ∨ 512 < t.len)) (h0 : t.cells.length ≤ 512) (h : k ≤ t.cells.length ∧ ∀ i, i < k → tcErr t i = 0) (hk : t.cells.length ≤ k) : checkT t = 0 := by
  rw [checkT, if_neg h1, if_neg (by omega), firstErr_none fun i hi => h.2 i (by omega)]
theorem checkT_spec (t : Tb) : FnS Try.prog 25 [tbA t] [] (AI (checkT t)) [] := by
  refine FnS.of_body (enters_of Try.func25 (by kernel_rfl) rfl) Try.func25 rfl Try.ntmps25 Try.results25 rfl rfl rfl rfl fun E hS => ?_
  repeat' (first
    | (show VR _ _ _ (_ :: _) _ _ _; first | refine x_opF rfl (by first | exact True.intro | omega) ?_ | (show VR _ _ _ (⟨_, .call ⟨.value _, _, _⟩, _, _, _, _⟩ :: _) _ _ _; first | refine vr_calldU (node_spec _) (gk rfl) rfl rfl rfl (by first | rfl | (simp only [wfRes, wfL, wfArgs, List.all_cons, List.all_nil, rowOf_blk]; rfl)) rfl (by first | exact newB_O | rfl) rfl ?_) | (show VR _ _ _ (⟨_, .indexAddr _ _ _, _, _, _, _⟩ :: _) _ _ _; first | refine vr_index_rd (gk rfl) rfl rfl rfl rfl rfl (by omega) rfl ?_ | refine vr_index_rdP (gk rfl) rfl rfl rfl rfl rfl (by omega) rfl ?_ | refine vr_index_rdN (gk rfl) rfl rfl rfl rfl (by first | omega | decide) rfl ?_ | refine vr_index_rowO (gk rfl) rfl rfl rfl rfl rfl rfl (by omega) (by omega) rfl ?_ | refine vr_index_row (gk rfl) rfl rfl rfl rfl rfl rfl (by omega) (by omega) rfl ?_ | refine vr_index_rowN (gk rfl) rfl rfl rfl rfl rfl (by omega) (by first | rfl | exact rowOf_length.symm | (simp only [rowOf_length, List.length_set, List.length_replicate, List.length_append, List.length_take, List.length_cons, List.length_nil, List.length_map, List.length_drop, List.length_range] <;> omega)) rfl ?_) | (show VR _ _ _ (⟨_, .call ⟨.builtin .len, _, _⟩, _, _, _, _⟩ :: _) _ _ _; first | refine vr_len_row (gk rfl) rfl rfl (by first | rfl | exact rowOf_length.symm | (simp only [rowOf_length, List.length_set, List.length_replicate, List.length_append, List.length_take, List.length_cons, List.length_nil, List.length_map, List.length_drop, List.length_range] <;> omega)) rfl rfl ?_ | refine vr_len_sub (gk rfl) rfl rfl rfl ?_ | refine vr_len_full (gk rfl) rfl rfl rfl rfl ?_) | (show VR _ _ _ (⟨_, .nilCheck _, _, _, _, _⟩ :: _) _ _ _; first | refine vr_nilCheck_rp (gk rfl) rfl rfl ?_ | refine vr_nilCheck_ptr (gk rfl) rfl rfl ?_ | refine vr_nilCheck_ep (gk rfl) rfl rfl ?_) | (show VR _ _ _ (⟨_, .load _ _, _, _, _, _⟩ :: _) _ _ _; first | refine vr_load_rowO_agg (gk rfl) rfl rfl (by omega) rfl rfl rfl ?_ | refine vr_load_rowO (gk rfl) rfl rfl (by omega) rfl rfl rfl ?_ | refine vr_load_rowS_agg (gk rfl) rfl rfl (by omega) rfl rfl rfl ?_ | refine vr_load_rowS (gk rfl) rfl rfl (by omega) rfl rfl rfl ?_) | (show VR _ _ _ (⟨_, .store _ _ _, _, _, _, _⟩ :: _) _ _ _; first | refine vr_store_rowO (gk rfl) rfl rfl rfl (by omega) rfl rfl rfl ?_ | refine vr_store_rowS (gk rfl) rfl rfl rfl (by omega) rfl rfl rfl ?_) | (show VR _ _ _ (⟨_, .binOp _ _ _ _ _, _, _, _, _⟩ :: _) _ _ _; first | refine x_ariw rfl rfl rfl rfl rfl ?_) | (show VR _ _ _ (⟨_, .pick _ _ _, _, _, _, _⟩ :: _) _ _ _; first | refine vr_pick_true (gk rfl) rfl (by assumption) rfl rfl ?_ | refine vr_pick_false (gk rfl) rfl (by assumption) rfl rfl ?_) | refine x_gknow rfl (by assumption) ?_ | (refine x_gsplit rfl ?_ ?_ <;> intro h <;> have hq := h <;> (try simp only [decide_eq_true_eq, decide_eq_false_iff_not, Int.not_lt, Int.not_le, ne_eq, Decidable.not_not, Bool.not_eq_true', Bool.not_eq_false'] at hq)))
    | (show VR _ _ _ [] _ _ _; first | refine vr_nil ?_ | refine vr_nil_t (by kernel_rfl) ?_)
    | (show thenQ _ _ _ _; first | refine q_then_n ?_ | refine q_then_x ?_ | refine q_then_r ?_)
    | (show blockQ _ _ _ _; first | refine q_blk_n ?_ | refine q_blk_r ?_ | refine q_blk_x ?_ | refine q_blk_o rfl ?_)
    | refine vc_seq ?_
    | refine vc_region ?_ | refine vc_region_t ?_
    | (show VC _ (.cond _ _ _) _ _; first | refine vc_cond_t rfl ?_ | refine vc_cond_f rfl ?_ | refine x_know rfl (by assumption) ?_ | (refine x_cond rfl ?_ ?_ <;> intro h <;> have hq := h <;> (try simp only [decide_eq_true_eq, decide_eq_false_iff_not, Int.not_lt, Int.not_le, ne_eq, Decidable.not_not, Bool.not_eq_true', Bool.not_eq_false'] at hq)))
    | refine vc_ret ?_ | refine vc_exit ?_ | refine vc_block ?_ | refine vc_skip ?_ | refine vc_label ?_)
  all_goals first
    | (refine ret_int isRet_r rfl ?_; unfold checkT; simp_all; done)
    | (refine ret_int isRet_r rfl ?_; unfold checkT; simp_all; omega)
    | skip
  have h1 : ¬ (nodeB t.node = false ∨ t.len < 1 ∨ 512 < t.len) := by simp_all
  refine vc_loopI (ι := Nat) (fun k => stOf [(1, .c (.ptr 1 0)), (25, AD (tcs t.cells)), (26, AI t.cells.length), (27, AI k)] [(1, .box t.cs)]) (fun k => k ≤ t.cells.length ∧ ∀ i, i < k → tcErr t i = 0) (fun k => t.cells.length - k) 0 ⟨Nat.zero_le _, fun i hi => absurd hi (Nat.not_lt_zero _)⟩ ?_ ?_
  · exact le_of ⟨rfl, rfl, rfl, rfl, trivial⟩ ⟨rfl, trivial⟩ rfl
  · intro k hk
    repeat' (first
      | (show VR _ _ _ (_ :: _) _ _ _; first | refine x_opF rfl (by first | exact True.intro | omega) ?_ | (show VR _ _ _ (⟨_, .call ⟨.value _, _, _⟩, _, _, _, _⟩ :: _) _ _ _; first | refine vr_calldU (form_spec _ _ _) (gk rfl) rfl rfl rfl (by first | rfl | (simp only [wfRes, wfL, wfArgs, List.all_cons, List.all_nil, rowOf_blk]; rfl)) rfl (by first | exact newB_O | rfl) rfl ?_ | refine vr_calldU (compare_spec _ _) (gk rfl) rfl rfl rfl (by first | rfl | (simp only [wfRes, wfL, wfArgs, List.all_cons, List.all_nil, rowOf_blk]; rfl)) rfl (by first | exact newB_O | rfl) rfl ?_) | (show VR _ _ _ (⟨_, .indexAddr _ _ _, _, _, _, _⟩ :: _) _ _ _; first | refine vr_index_rd (gk rfl) rfl rfl rfl rfl rfl (by omega) rfl ?_ | refine vr_index_rdP (gk rfl) rfl rfl rfl rfl rfl (by omega) rfl ?_ | refine vr_index_rdN (gk rfl) rfl rfl rfl rfl (by first | omega | decide) rfl ?_ | refine vr_index_rowO (gk rfl) rfl rfl rfl rfl rfl rfl (by omega) (by omega) rfl ?_ | refine vr_index_row (gk rfl) rfl rfl rfl rfl rfl rfl (by omega) (by omega) rfl ?_ | refine vr_index_rowN (gk rfl) rfl rfl rfl rfl rfl (by omega) (by first | rfl | exact rowOf_length.symm | (simp only [rowOf_length, List.length_set, List.length_replicate, List.length_append, List.length_take, List.length_cons, List.length_nil, List.length_map, List.length_drop, List.length_range] <;> omega)) rfl ?_) | (show VR _ _ _ (⟨_, .call ⟨.builtin .len, _, _⟩, _, _, _, _⟩ :: _) _ _ _; first | refine vr_len_row (gk rfl) rfl rfl (by first | rfl | exact rowOf_length.symm | (simp only [rowOf_length, List.length_set, List.length_replicate, List.length_append, List.length_take, List.length_cons, List.length_nil, List.length_map, List.length_drop, List.length_range] <;> omega)) rfl rfl ?_ | refine vr_len_sub (gk rfl) rfl rfl rfl ?_ | refine vr_len_full (gk rfl) rfl rfl rfl rfl ?_) | (show VR _ _ _ (⟨_, .nilCheck _, _, _, _, _⟩ :: _) _ _ _; first | refine vr_nilCheck_rp (gk rfl) rfl rfl ?_ | refine vr_nilCheck_ptr (gk rfl) rfl rfl ?_ | refine vr_nilCheck_ep (gk rfl) rfl rfl ?_) | (show VR _ _ _ (⟨_, .load _ _, _, _, _, _⟩ :: _) _ _ _; first | refine vr_load_rowO_agg (gk rfl) rfl rfl (by omega) rfl rfl rfl ?_ | refine vr_load_rowO (gk rfl) rfl rfl (by omega) rfl rfl rfl ?_ | refine vr_load_rowS_agg (gk rfl) rfl rfl (by omega) rfl rfl rfl ?_ | refine vr_load_rowS (gk rfl) rfl rfl (by omega) rfl rfl rfl ?_) | (show VR _ _ _ (⟨_, .store _ _ _, _, _, _, _⟩ :: _) _ _ _; first | refine vr_store_rowO (gk rfl) rfl rfl rfl (by omega) rfl rfl rfl ?_ | refine vr_store_rowS (gk rfl) rfl rfl rfl (by omega) rfl rfl rfl ?_) | (show VR _ _ _ (⟨_, .binOp _ _ _ _ _, _, _, _, _⟩ :: _) _ _ _; first | refine x_ariw rfl rfl rfl rfl rfl ?_) | (show VR _ _ _ (⟨_, .pick _ _ _, _, _, _, _⟩ :: _) _ _ _; first | refine vr_pick_true (gk rfl) rfl (by assumption) rfl rfl ?_ | refine vr_pick_false (gk rfl) rfl (by assumption) rfl rfl ?_) | refine x_gknow rfl (by assumption) ?_ | (refine x_gsplit rfl ?_ ?_ <;> intro h <;> have hq := h <;> (try simp only [decide_eq_true_eq, decide_eq_false_iff_not, Int.not_lt, Int.not_le, ne_eq, Decidable.not_not, Bool.not_eq_true', Bool.not_eq_false'] at hq)))
      | (show VR _ _ _ [] _ _ _; first | refine vr_nil ?_ | refine vr_nil_t (by kernel_rfl) ?_)
      | (show thenQ _ _ _ _; first | refine q_then_n ?_ | refine q_then_x ?_ | refine q_then_r ?_)
      | (show blockQ _ _ _ _; first | refine q_blk_n ?_ | refine q_blk_r ?_ | refine q_blk_x ?_ | refine q_blk_o rfl ?_)
      | refine vc_seq ?_
      | refine vc_region ?_ | refine vc_region_t ?_
      | (show VC _ (.cond _ _ _) _ _; first | refine vc_cond_t rfl ?_ | refine vc_cond_f rfl ?_ | refine x_know rfl (by assumption) ?_ | (refine x_cond rfl ?_ ?_ <;> intro h <;> have hq := h <;> (try simp only [decide_eq_true_eq, decide_eq_false_iff_not, Int.not_lt, Int.not_le, ne_eq, Decidable.not_not, Bool.not_eq_true', Bool.not_eq_false'] at hq)))
      | refine vc_ret ?_ | refine vc_exit ?_ | refine vc_block ?_ | refine vc_skip ?_ | refine vc_label ?_)
    all_goals first
      | (refine ret_int isRet_r rfl ?_
         first
         | exact checkT_none h1 (by omega) hk (by omega)
         | (refine checkT_hit h1 (by omega) hk (by omega) ?_ hq; rw [tcErr, if_pos hq]; done)
         | (refine checkT_hit h1 (by omega) hk (by omega) ?_ (by decide); rw [tcErr, if_neg (by omega), if_pos (by omega)]; done))
      | (refine ⟨k + 1, ⟨by omega, fun i hi => ?_⟩, by omega, le_of ⟨rfl, rfl, rfl, rfl, trivial⟩ ⟨rfl, trivial⟩ rfl⟩
         by_cases hik : i < k
         · exact hk.2 i hik
         · have : i = k := by omega
           subst this
           rw [tcErr, if_neg (by omega), if_neg (by omega)])
      | trace_state
end Go.Proofs.T
end
section
-- SXU
namespace Go.Proofs.T
open Go Go.Sx
set_option maxRecDepth 4000
set_option linter.unusedSimpArgs false
set_option linter.unusedVariables false
attribute [local irreducible] VR VC thenQ blockQ retL
def lessB (a b : TC) : Bool := decide (a.slot < b.slot) || (decide (a.slot = b.slot) && decide (a.kind < b.kind))
theorem less_cmp (a b : TC) : 0 ≤ cmpTC a b ↔ lessB a b = false := by
  unfold cmpTC lessB orI orI orI cmpI
  by_cases h1 : a.slot < b.slot
  · simp [h1]
  · by_cases h2 : b.slot < a.slot
    · have : ¬ a.slot = b.slot := by omega
      simp [h1, h2, this]
    · have e : a.slot = b.slot := by omega
      by_cases h3 : a.kind < b.kind
      · simp [e, h3]
      · by_cases h4 : b.kind < a.kind
        · simp [e, h3, h4]
        · simp [e, h3, h4]
end Go.Proofs.T
end
section
-- SXU
namespace Go.Proofs.T
open Go Go.Sx
set_option maxRecDepth 4000
set_option linter.unusedSimpArgs false
set_option linter.unusedVariables false
attribute [local irreducible] VR VC thenQ blockQ retL
end Go.Proofs.T
end
section
-- SXU
namespace Go.Proofs.T
open Go Go.Sx
set_option maxRecDepth 4000
set_option linter.unusedSimpArgs false
set_option linter.unusedVariables false
attribute [local irreducible] VR VC thenQ blockQ retL
theorem checkT_len {t : Tb} (h : checkT t = 0) : t.cells.length ≤ 512 ∧ 1 ≤ t.len ∧ t.len ≤ 512 ∧ nodeB t.node = true := by
  unfold checkT at h
  split at h
  · cases h
  · split at h
    · cases h
    · rename_i h1 h2
      simp only [not_or] at h1
      refine ⟨by omega, by omega, by omega, by simpa using h1.1⟩
end Go.Proofs.T
end
section
-- SXU
namespace Go.Proofs.T
open Go Go.Sx
set_option maxRecDepth 4000
set_option linter.unusedSimpArgs false
set_option linter.unusedVariables false
attribute [local irreducible] VR VC thenQ blockQ retL
def bsSl (l : List TC) (t : Int) : Nat := bs (fun i => decide (cmpI (l.getD i default).slot t < 0)) 0 l.length
def foundSl (l : List TC) (t : Int) : Bool := decide (bsSl l t < l.length) && decide (cmpI (l.getD (bsSl l t) default).slot t = 0)
abbrev findφSl : List DV → DV → Prop := fun ds r => ∃ (x : TC) (t : Int), ds = [.agg x.enc, .d (.int .i64 t)] ∧ r = .d (.int .i64 (cmpI x.slot t))
theorem searchSl_spec (l : List TC) (t : Int) (hl : l.length ≤ 1000000) : FnS Try.prog 73 [AD (tcs l), AI t, .clo findφSl] [] (.tup [AI (bsSl l t), AB (foundSl l t)]) [] := by
  refine FnS.of_body (enters_of Try.func73 (by kernel_rfl) rfl) Try.func73 rfl Try.ntmps73 Try.results73 rfl rfl rfl rfl fun E hS => ?_
  repeat' (first
    | (show VR _ _ _ (_ :: _) _ _ _; first | refine x_opF rfl (by first | exact True.intro | omega) ?_)
    | (show VR _ _ _ [] _ _ _; first | refine vr_nil ?_)
    | (show thenQ _ _ _ _; first | refine q_then_n ?_)
    | refine vc_seq ?_
    | refine vc_region ?_
    | refine vc_block ?_
    | fail)
  refine vc_loopI (ι := Nat × Nat) (fun p => stOf [(0, AD (tcs l)), (1, AI t), (2, .clo findφSl), (8, AI l.length), (9, AI p.1), (10, AI p.2)] [])
    (fun p => p.1 ≤ p.2 ∧ p.2 ≤ l.length ∧ bs (fun i => decide (cmpI (l.getD i default).slot t < 0)) p.1 p.2 = bsSl l t) (fun p => p.2 - p.1) (0, l.length) ⟨Nat.zero_le _, Nat.le_refl _, rfl⟩ ?_ ?_
  · exact le_of ⟨rfl, rfl, rfl, rfl, rfl, rfl, trivial⟩ trivial rfl
  · rintro ⟨i, j⟩ ⟨h1, h2, h3⟩
    dsimp only at h1 h2 h3 ⊢
    repeat' (first
      | (show VR _ _ _ (_ :: _) _ _ _; first | refine x_opF rfl (by first | exact True.intro | omega) ?_ | (show VR _ _ _ (⟨_, .call ⟨.value _, _, _⟩, _, _, _, _⟩ :: _) _ _ _; first | refine vr_clo (⟨_, _, rfl, rfl⟩) (gk rfl) rfl rfl rfl rfl ?_) | (show VR _ _ _ (⟨_, .indexAddr _ _ _, _, _, _, _⟩ :: _) _ _ _; first | refine vr_index_rd (gk rfl) rfl rfl rfl rfl rfl (by omega) rfl ?_ | refine vr_index_rdN (gk rfl) rfl rfl rfl rfl (by first | omega | decide) rfl ?_) | (show VR _ _ _ (⟨_, .convert _ _ _, _, _, _, _⟩ :: _) _ _ _; first | refine vr_convert_id (gk rfl) rfl ⟨_, rfl⟩ rfl (by first | exact wrap_i64 (by omega) | exact wrap_u64 (by omega) | exact wrap_u16 (by omega) | exact wrap_u8 (by omega) | exact wrap_u32 (by omega)) rfl ?_) | (show VR _ _ _ (⟨_, .binOp _ _ _ _ _, _, _, _, _⟩ :: _) _ _ _; first | refine vr_shr (m := 1) (gk rfl) rfl rfl rfl (by decide) rfl ?_) | (refine x_gsplit rfl ?_ ?_ <;> intro h <;> have hq := h <;> (try simp only [decide_eq_true_eq, decide_eq_false_iff_not, Int.not_lt, Int.not_le, ne_eq, Decidable.not_not, Bool.not_eq_true', Bool.not_eq_false'] at hq)))
      | (show VR _ _ _ [] _ _ _; first | refine vr_nil ?_)
      | (show thenQ _ _ _ _; first | refine q_then_n ?_ | refine q_then_x ?_)
      | (show blockQ _ _ _ _; first | refine q_blk_n ?_ | refine q_blk_x ?_)
      | refine vc_seq ?_
      | refine vc_region ?_
      | (show VC _ (.cond _ _ _) _ _; first | (refine x_cond rfl ?_ ?_ <;> intro h <;> have hq := h <;> (try simp only [decide_eq_true_eq, decide_eq_false_iff_not, Int.not_lt, Int.not_le, ne_eq, Decidable.not_not, Bool.not_eq_true', Bool.not_eq_false'] at hq)))
      | refine vc_ret ?_ | refine vc_exit ?_ | refine vc_block ?_ | refine vc_skip ?_
      | fail)
    · have e : (((i : Int) + (j : Int)) / 2 ^ 1).toNat = (i + j) / 2 := by omega
      rw [e] at hq
      refine ⟨((i + j) / 2 + 1, j), ⟨by dsimp only; omega, h2, ?_⟩, by dsimp only; omega, le_of ⟨rfl, rfl, rfl, rfl, ad_eq ?_ rfl, rfl, trivial⟩ trivial rfl⟩
      · rw [← h3]
        conv => rhs; rw [bs, if_pos (by omega)]
        rw [if_pos]
        exact decide_eq_true hq
      · congr 1 <;> omega
    · have e : (((i : Int) + (j : Int)) / 2 ^ 1).toNat = (i + j) / 2 := by omega
      rw [e] at hq
      refine ⟨(i, (i + j) / 2), ⟨by dsimp only; omega, by dsimp only; omega, ?_⟩, by dsimp only; omega, le_of ⟨rfl, rfl, rfl, rfl, rfl, ad_eq ?_ rfl, trivial⟩ trivial rfl⟩
      · rw [← h3]
        conv => rhs; rw [bs, if_pos (by omega)]
        rw [if_neg]
        rw [decide_eq_true_eq]; exact Int.not_lt.2 hq
      · congr 1 <;> omega
    all_goals (have e0 : bsSl l t = i := by
                 rw [← h3, bs, if_neg (by omega)])
    all_goals refine ret_d2 isRet_r rfl rfl (by rw [e0]) ?_
    all_goals simp_all [foundSl] <;> omega
theorem at1_spec (c : TC) (n : Int) : FnS Try.prog 74 [tcA c, AI n] [] (AI (cmpI c.slot n)) [] := by
  refine FnS.of_body (enters_of Try.func74 (by kernel_rfl) rfl) Try.func74 rfl Try.ntmps74 Try.results74 rfl rfl rfl rfl fun E hS => ?_
  repeat' (first
    | (show VR _ _ _ (_ :: _) _ _ _; first | refine x_opF rfl (by first | exact True.intro | omega) ?_ | (show VR _ _ _ (⟨_, .call ⟨.value _, _, _⟩, _, _, _, _⟩ :: _) _ _ _; first | refine vr_calldU (cmp_spec _ _) (gk rfl) rfl rfl rfl (by first | rfl | (simp only [wfRes, wfL, wfArgs, List.all_cons, List.all_nil, rowOf_blk]; rfl)) rfl (by first | exact newB_O | rfl) rfl ?_))
    | (show VR _ _ _ [] _ _ _; first | refine vr_nil ?_)
    | (show thenQ _ _ _ _; first | refine q_then_n ?_)
    | refine vc_seq ?_
    | refine vc_region ?_
    | refine vc_ret ?_
    | fail)
  all_goals exact ret_int isRet_r rfl rfl
theorem at1_fnc {σ : St} {L : List Nat} : AR Try.prog σ L (.fnc 74 []) (.clo findφSl) :=
  .fnc .nil (enters_of Try.func74 (by kernel_rfl) rfl) (by rintro _ _ ⟨x, t, rfl, rfl⟩; exact ⟨rfl, at1_spec x t⟩)
/-! ## Right tables are sorted -/
theorem firstErr_all {n : Nat} {f : Nat → Int} (h : firstErr n f = 0) : ∀ i, i < n → f i = 0 := by
  intro i hi
  unfold firstErr at h
  cases hf : (List.range n).find? (fun i => f i != 0) with
  | none =>
    have := List.find?_eq_none.1 hf i (List.mem_range.2 hi)
    simpa using this
  | some k =>
    rw [hf] at h
    have := List.find?_some hf
    simp only [Option.elim] at h
    rw [h] at this; simp at this
theorem checkT_ok {t : Tb} (h : checkT t = 0) : ∀ i, i < t.cells.length → formE (t.cells.getD i default) t.node t.len = 0 ∧ (0 < i → lessB (t.cells.getD (i - 1) default) (t.cells.getD i default) = true) := by
  have hl := checkT_len h
  unfold checkT at h
  split at h
  · cases h
  · split at h
    · cases h
    · intro i hi
      have := firstErr_all h i hi
      unfold tcErr at this
      split at this
      · omega
      · rename_i h1
        refine ⟨by omega, fun h0 => ?_⟩
        split at this
        · cases this
        · rename_i h2
          have h3 : ¬ 0 ≤ cmpTC (t.cells.getD (i - 1) default) (t.cells.getD i default) := fun hc => h2 ⟨h0, hc⟩
          rw [less_cmp] at h3
          simpa using h3
theorem lessB_iff {a b : TC} : lessB a b = true ↔ a.slot < b.slot ∨ (a.slot = b.slot ∧ a.kind < b.kind) := by
  simp [lessB]
theorem lessB_trans {a b c : TC} (h : lessB a b = true) (k : lessB b c = true) : lessB a c = true := by
  rw [lessB_iff] at *; omega
/-- A list of cells in its order. -/
def Srt (l : List TC) : Prop := ∀ i j, i < j → j < l.length → lessB (l.getD i default) (l.getD j default) = true
theorem srt_of {l : List TC} (h : ∀ i, i < l.length → 0 < i → lessB (l.getD (i - 1) default) (l.getD i default) = true) : Srt l := by
  intro i j hij
  induction j with
  | zero => omega
  | succ j ih =>
    intro hj
    have h1 := h (j + 1) hj (by omega)
    rw [Nat.add_sub_cancel] at h1
    rcases Nat.lt_or_ge i j with h2 | h2
    · exact lessB_trans (ih h2 (by omega)) h1
    · rw [show i = j by omega]; exact h1
theorem checkT_srt {t : Tb} (h : checkT t = 0) : Srt t.cells := srt_of fun i hi h0 => (checkT_ok h i hi).2 h0
theorem cmpI_lt {a b : Int} : cmpI a b < 0 ↔ a < b := by
  unfold cmpI; split <;> (try split) <;> omega
theorem cmpI_eq {a b : Int} : cmpI a b = 0 ↔ a = b := by
  unfold cmpI; split <;> (try split) <;> omega
theorem bsSl_fst {l : List TC} (h : Srt l) (s : Int) : fstO l (fun c => decide (c.slot = s)) = if bsSl l s < l.length ∧ (l.getD (bsSl l s) default).slot = s then some (bsSl l s) else none := by
  have hb := bs_spec (f := fun i => decide (cmpI (l.getD i default).slot s < 0)) (n := l.length) (fun a b hab hb hf => by
    simp only [decide_eq_true_eq, cmpI_lt] at hf ⊢
    have := lessB_iff.1 (h a b hab hb)
    omega)
  change bsSl l s ≤ _ ∧ (∀ a, a < bsSl l s → _) ∧ ∀ a, bsSl l s ≤ a → _ at hb
  obtain ⟨h1, h2, h3⟩ := hb
  simp only [decide_eq_true_eq, decide_eq_false_iff_not, cmpI_lt] at h2 h3
  split
  · rename_i hc
    exact fstO_hit (fun i hi => decide_eq_false (by have := h2 i hi; omega)) hc.1 (decide_eq_true hc.2)
  · rename_i hc
    refine fstO_none fun i hi => ?_
    simp only [decide_eq_false_iff_not]
    intro he
    rcases Nat.lt_or_ge i (bsSl l s) with hlt | hge
    · have := h2 i hlt; omega
    · refine hc ⟨by omega, ?_⟩
      have h5 := h3 (bsSl l s) (Nat.le_refl _) (by omega)
      rcases Nat.lt_or_ge (bsSl l s) i with h6 | h6
      · have := lessB_iff.1 (h _ _ h6 hi); omega
      · rw [show bsSl l s = i by omega]; exact he
def noC : TC := ⟨0, 0, 0, false, 0, 0⟩
def atM (t : Tb) (slot : Int) : TC × Bool := if checkT t ≠ 0 ∨ slot < 0 then (noC, false) else match fstO t.cells (fun c => decide (c.slot = slot % t.len)) with
  | some i => (t.cells.getD i default, true)
  | none => (noC, false)
set_option maxHeartbeats 1000000 in
theorem at_spec (t : Tb) (slot : Int) : FnS Try.prog 43 [tbA t, AI slot] [] (.tup [tcA (atM t slot).1, AB (atM t slot).2]) [] := by
  have hck := checkT_spec t
  refine FnS.of_body (enters_of Try.func43 (by kernel_rfl) rfl) Try.func43 rfl Try.ntmps43 Try.results43 rfl rfl rfl rfl fun E hS => ?_
  by_cases hc : checkT t = 0
  · rw [hc] at hck
    have hl := checkT_len hc
    by_cases hs : slot < 0
    · have e : atM t slot = (noC, false) := by rw [atM, if_pos (.inr hs)]
      rw [e]
      repeat' (first
        | (show VR _ _ _ (_ :: _) _ _ _; first | refine x_opF rfl (by first | exact True.intro | omega) ?_ | (show VR _ _ _ (⟨_, .call ⟨.value _, _, _⟩, _, _, _, _⟩ :: _) _ _ _; first | refine vr_calldU (hck) (gk rfl) rfl rfl rfl (by first | rfl | (simp only [wfRes, wfL, wfArgs, List.all_cons, List.all_nil, rowOf_blk]; rfl)) rfl (by first | exact newB_O | rfl) rfl ?_))
        | (show VR _ _ _ [] _ _ _; first | refine vr_nil ?_)
        | (show thenQ _ _ _ _; first | refine q_then_n ?_ | refine q_then_r ?_)
        | refine vc_seq ?_
        | refine vc_region ?_ | refine vc_region_t ?_
        | (show VC _ (.cond _ _ _) _ _; first | (refine x_cond rfl ?_ ?_ <;> intro h <;> have hq := h <;> (try simp only [decide_eq_true_eq, decide_eq_false_iff_not, Int.not_lt, Int.not_le, ne_eq, Decidable.not_not, Bool.not_eq_true', Bool.not_eq_false'] at hq)))
        | refine vc_ret ?_ | refine vc_skip ?_
        | fail)
      all_goals first
        | (exfalso; omega)
        | exact ret_agg_dL isRet_r rfl rfl rfl rfl rfl rfl rfl
    · have e : atM t slot = match fstO t.cells (fun c => decide (c.slot = slot % t.len)) with
          | some i => (t.cells.getD i default, true)
          | none => (noC, false) := by rw [atM, if_neg (by omega)]
      rw [bsSl_fst (checkT_srt hc)] at e
      repeat' (first
        | (show VR _ _ _ (_ :: _) _ _ _; first | refine x_opF rfl (by first | exact True.intro | omega) ?_ | (show VR _ _ _ (⟨_, .call ⟨.value _, _, _⟩, _, _, _, _⟩ :: _) _ _ _; first | refine vr_calldU (hck) (gk rfl) rfl rfl rfl (by first | rfl | (simp only [wfRes, wfL, wfArgs, List.all_cons, List.all_nil, rowOf_blk]; rfl)) rfl (by first | exact newB_O | rfl) rfl ?_ | refine vr_callU [] (searchSl_spec t.cells _ (by omega)) (gk rfl) rfl (by (repeat' (first | exact .nil | refine .cons ?_ ?_ | exact .of0 (.c .d) | exact .of0 .ep | exact .clo | exact (at1_fnc) | exact .of0 (.c .nil) | exact .of0 (.c (cr_rowO (by simp) rfl (by first | rfl | omega) (fun _ => rfl))) | refine .of0 (.agg ?_) | exact .d | exact .nil | exact .of0 (.c (cr_row (by decide) rfl rfl (by repeat' (first | exact trivial | refine ⟨?_, ?_⟩ | rfl)))))) <;> fail) (by first | rfl | exact hfl_O (fun _ => rfl) | exact hfl_O2 rfl (fun _ => rfl)) rfl (by first | rfl | (simp only [wfRes, wfL, wfArgs, List.all_cons, List.all_nil, rowOf_blk]; rfl)) rfl (by first | exact newB_O | rfl) rfl ?_) | (show VR _ _ _ (⟨_, .indexAddr _ _ _, _, _, _, _⟩ :: _) _ _ _; first | refine vr_index_rd (gk rfl) rfl rfl rfl rfl rfl (by omega) rfl ?_) | (refine x_gsplit rfl ?_ ?_ <;> intro h <;> have hq := h <;> (try simp only [decide_eq_true_eq, decide_eq_false_iff_not, Int.not_lt, Int.not_le, ne_eq, Decidable.not_not, Bool.not_eq_true', Bool.not_eq_false'] at hq)))
        | (show VR _ _ _ [] _ _ _; first | refine vr_nil ?_ | refine vr_nil_t (by kernel_rfl) ?_)
        | (show thenQ _ _ _ _; first | refine q_then_n ?_ | refine q_then_r ?_)
        | refine vc_seq ?_
        | refine vc_region ?_ | refine vc_region_t ?_
        | (show VC _ (.cond _ _ _) _ _; first | refine vc_cond_f rfl ?_ | (refine x_cond rfl ?_ ?_ <;> intro h <;> have hq := h <;> (try simp only [decide_eq_true_eq, decide_eq_false_iff_not, Int.not_lt, Int.not_le, ne_eq, Decidable.not_not, Bool.not_eq_true', Bool.not_eq_false'] at hq)))
        | refine vc_ret ?_ | refine vc_skip ?_
        | fail)
      all_goals first
        | (exfalso; omega)
        | skip
      · rw [if_pos ⟨by omega, hq⟩] at e
        rw [e]
        exact ret_agg_dL isRet_r rfl rfl rfl rfl rfl rfl rfl
      all_goals
        rw [if_neg (by omega)] at e
        rw [e]
        exact ret_agg_dL isRet_r rfl rfl rfl rfl rfl rfl rfl
  · have e : atM t slot = (noC, false) := by rw [atM, if_pos (.inl hc)]
    rw [e]
    repeat' (first
      | (show VR _ _ _ (_ :: _) _ _ _; first | refine x_opF rfl (by first | exact True.intro | omega) ?_ | (show VR _ _ _ (⟨_, .call ⟨.value _, _, _⟩, _, _, _, _⟩ :: _) _ _ _; first | refine vr_calldU (hck) (gk rfl) rfl rfl rfl (by first | rfl | (simp only [wfRes, wfL, wfArgs, List.all_cons, List.all_nil, rowOf_blk]; rfl)) rfl (by first | exact newB_O | rfl) rfl ?_) | (refine x_gsplit rfl ?_ ?_ <;> intro h <;> have hq := h <;> (try simp only [decide_eq_true_eq, decide_eq_false_iff_not, Int.not_lt, Int.not_le, ne_eq, Decidable.not_not, Bool.not_eq_true', Bool.not_eq_false'] at hq)))
      | (show VR _ _ _ [] _ _ _; first | refine vr_nil ?_)
      | (show thenQ _ _ _ _; first | refine q_then_n ?_ | refine q_then_r ?_)
      | refine vc_seq ?_
      | refine vc_region ?_ | refine vc_region_t ?_
      | (show VC _ (.cond _ _ _) _ _; first | refine vc_cond_t rfl ?_ | (refine x_cond rfl ?_ ?_ <;> intro h <;> have hq := h <;> (try simp only [decide_eq_true_eq, decide_eq_false_iff_not, Int.not_lt, Int.not_le, ne_eq, Decidable.not_not, Bool.not_eq_true', Bool.not_eq_false'] at hq)))
      | refine vc_ret ?_ | refine vc_skip ?_
      | fail)
    all_goals first
      | (exfalso; omega)
      | exact ret_agg_dL isRet_r rfl rfl rfl rfl rfl rfl rfl
end Go.Proofs.T
end
