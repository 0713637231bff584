/-
  What functions of the given program hand back, by walks over its code, and plain laws on that. No condition.
-/
import Derived.Test.YtecdajajocafdaaGreatSxLibB
import Derived.Test.YtecdajajocafdaaGreatSxT18
namespace Go.Proofs.T
open Go Go.Sx
set_option maxRecDepth 4000
set_option linter.unusedSimpArgs false
set_option linter.unusedVariables false
attribute [local irreducible] VR VC thenQ blockQ retL
def cmpI (a b : Int) : Int := if a < b then -1 else if b < a then 1 else 0
theorem isNaN_spec (a : Int) : FnS Tryz.prog 131 [AI a] [] (AB false) [] := by
  refine FnS.of_body (enters_of Tryz.func131 (by kernel_rfl) rfl) Tryz.func131 rfl Tryz.ntmps131 Tryz.results131 rfl rfl rfl rfl fun E hS => ?_
  repeat' (first
    | (show VR _ _ _ (_ :: _) _ _ _; first | refine x_opF rfl (by first | exact True.intro | omega) ?_)
    | (show VR _ _ _ [] _ _ _; first | refine vr_nil ?_)
    | (show thenQ _ _ _ _; first | refine q_then_n ?_)
    | refine vc_seq ?_
    | refine vc_region ?_
    | refine vc_ret ?_
    | fail)
  all_goals exact ret_bool isRet_r rfl (by simp)
theorem cmp_spec (a b : Int) : FnS Tryz.prog 77 [AI a, AI b] [] (AI (cmpI a b)) [] := by
  refine FnS.of_body (enters_of Tryz.func77 (by kernel_rfl) rfl) Tryz.func77 rfl Tryz.ntmps77 Tryz.results77 rfl rfl rfl rfl fun E hS => ?_
  repeat' (first
    | (show VR _ _ _ (_ :: _) _ _ _; first | refine x_opF rfl (by first | exact True.intro | omega) ?_ | (show VR _ _ _ (⟨_, .call ⟨.value _, _, _⟩, _, _, _, _⟩ :: _) _ _ _; first | refine vr_calld (isNaN_spec _) (gk rfl) rfl rfl rfl rfl rfl rfl ?_))
    | (show VR _ _ _ [] _ _ _; first | refine vr_nil ?_)
    | (show thenQ _ _ _ _; first | refine q_then_n ?_ | refine q_then_r ?_)
    | refine vc_seq ?_
    | refine vc_region ?_
    | (show VC _ (.cond _ _ _) _ _; first | refine vc_cond_f rfl ?_ | (refine x_cond rfl ?_ ?_ <;> intro h <;> have hq := h <;> (try simp only [decide_eq_true_eq, decide_eq_false_iff_not, Int.not_lt, Int.not_le, ne_eq, Decidable.not_not, Bool.not_eq_true', Bool.not_eq_false'] at hq)))
    | refine vc_ret ?_ | refine vc_skip ?_
    | fail)
  all_goals refine ret_int isRet_r rfl ?_
  all_goals unfold cmpI
  all_goals repeat' split
  all_goals first | rfl | (exfalso; simp_all; done) | (exfalso; omega) | trace_state
def orI : List Int → Int
  | [] => 0
  | x :: l => if x ≠ 0 then x else orI l
abbrev ints (l : List Int) : D := rdOf (fun x => [.int .i64 x]) 1 l
theorem orI_at : ∀ (l : List Int) (k : Nat), (∀ i, i < k → l.getD i 0 = 0) → k ≤ l.length → orI l = orI (l.drop k)
  | l, 0, _, _ => rfl
  | [], k + 1, _, h => absurd h (by simp)
  | x :: l, k + 1, h, hk => by
    have h0 : x = 0 := h 0 (by omega)
    rw [List.drop_succ_cons, ← orI_at l k (fun i hi => h (i + 1) (by omega)) (by simpa using hk)]
    simp [orI, h0]
theorem or_spec (l : List Int) : FnS Tryz.prog 145 [AD (ints l)] [] (AI (orI l)) [] := by
  refine FnS.of_body (enters_of Tryz.func145 (by kernel_rfl) rfl) Tryz.func145 rfl Tryz.ntmps145 Tryz.results145 rfl rfl rfl rfl fun E hS => ?_
  refine vc_bound (t := 0) rfl fun hb => ?_
  repeat' (first
    | (show VR _ _ _ (_ :: _) _ _ _; first | refine x_opF rfl (by first | exact True.intro | omega) ?_)
    | (show VR _ _ _ [] _ _ _; first | refine vr_nil ?_)
    | (show thenQ _ _ _ _; first | refine q_then_n ?_)
    | refine vc_seq ?_
    | refine vc_region ?_
    | refine vc_block ?_
    | fail)
  refine vc_loopI (ι := Nat) (fun k => stOf [(3, AI 0), (6, AD (ints l)), (7, AI l.length), (8, AI k)] []) (fun k => k ≤ l.length ∧ ∀ i, i < k → l.getD i 0 = 0) (fun k => l.length - k) 0 ⟨Nat.zero_le _, fun i hi => absurd hi (Nat.not_lt_zero _)⟩ ?_ ?_
  · exact le_of ⟨rfl, rfl, rfl, rfl, trivial⟩ trivial rfl
  · intro k hk
    repeat' (first
      | (show VR _ _ _ (_ :: _) _ _ _; first | refine x_opF rfl (by first | exact True.intro | omega) ?_ | (show VR _ _ _ (⟨_, .indexAddr _ _ _, _, _, _, _⟩ :: _) _ _ _; first | refine vr_index_rd (gk rfl) rfl rfl rfl rfl rfl (by omega) rfl ?_))
      | (show VR _ _ _ [] _ _ _; first | refine vr_nil ?_)
      | (show thenQ _ _ _ _; first | refine q_then_n ?_ | refine q_then_x ?_ | refine q_then_r ?_)
      | (show blockQ _ _ _ _; first | refine q_blk_n ?_ | refine q_blk_r ?_ | refine q_blk_x ?_)
      | refine vc_seq ?_
      | refine vc_region ?_
      | (show VC _ (.cond _ _ _) _ _; first | (refine x_cond rfl ?_ ?_ <;> intro h <;> have hq := h <;> (try simp only [decide_eq_true_eq, decide_eq_false_iff_not, Int.not_lt, Int.not_le, ne_eq, Decidable.not_not, Bool.not_eq_true', Bool.not_eq_false'] at hq)))
      | refine vc_ret ?_ | refine vc_exit ?_ | refine vc_block ?_ | refine vc_skip ?_
      | fail)
    · refine ret_int isRet_r rfl ?_
      rw [orI_at l k hk.2 hk.1, List.drop_eq_getElem_cons (by omega), orI, if_pos]
      · simp [List.getD_eq_getElem?_getD]; rw [List.getElem?_eq_getElem (by omega)]; rfl
      · rw [List.getD_eq_getElem?_getD, List.getElem?_eq_getElem (by omega)] at hq; exact hq
    · refine ⟨k + 1, ⟨by omega, fun i hi => ?_⟩, by omega, le_of ⟨rfl, rfl, rfl, rfl, trivial⟩ trivial rfl⟩
      by_cases hik : i < k
      · exact hk.2 i hik
      · have : i = k := by omega
        subst this
        exact hq
    · refine ret_int isRet_r rfl ?_
      rw [orI_at l k hk.2 hk.1, List.drop_of_length_le (by omega)]; rfl
structure TC where
  slot : Int
  offset : Int
  kind : Int
  send : Bool
  peer : Int
  flow : Int
  deriving DecidableEq, Inhabited
def TC.enc (x : TC) : List D := [.int .i64 x.slot, .int .i64 x.offset, .int .i64 x.kind, .bool x.send, .int .i64 x.peer, .int .i64 x.flow]
def TC.cs (x : TC) : List C := [.d (.int .i64 x.slot), .d (.int .i64 x.offset), .d (.int .i64 x.kind), .d (.bool x.send), .d (.int .i64 x.peer), .d (.int .i64 x.flow)]
abbrev tcA (x : TC) : AV := .agg x.cs
abbrev tcs (l : List TC) : D := rdOf TC.enc 6 l
theorem tc_sv {x y : TC} (h : [SV.int IntKind.i64 x.flow, SV.int IntKind.i64 x.peer, SV.bool x.send, SV.int IntKind.i64 x.kind, SV.int IntKind.i64 x.offset, SV.int IntKind.i64 x.slot].reverse = [SV.int IntKind.i64 y.flow, SV.int IntKind.i64 y.peer, SV.bool y.send, SV.int IntKind.i64 y.kind, SV.int IntKind.i64 y.offset, SV.int IntKind.i64 y.slot].reverse) : x = y := by
  have h := List.reverse_inj.1 h
  cases x; cases y
  simp only [List.cons.injEq, SV.int.injEq, SV.bool.injEq, SV.str.injEq, true_and, and_true] at h
  obtain ⟨rfl, rfl, rfl, rfl, rfl, rfl⟩ := h
  rfl
def nodeB (n : Int) : Bool := decide (0 ≤ n ∧ n < 32)
theorem node_spec (n : Int) : FnS Tryz.prog 90 [AI n] [] (AB (nodeB n)) [] := by
  refine FnS.of_body (enters_of Tryz.func90 (by kernel_rfl) rfl) Tryz.func90 rfl Tryz.ntmps90 Tryz.results90 rfl rfl rfl rfl fun E hS => ?_
  repeat' (first
    | (show VR _ _ _ (_ :: _) _ _ _; first | refine x_opF rfl (by first | exact True.intro | omega) ?_ | (refine x_gsplit rfl ?_ ?_ <;> intro h <;> have hq := h <;> (try simp only [decide_eq_true_eq, decide_eq_false_iff_not, Int.not_lt, Int.not_le, ne_eq, Decidable.not_not, Bool.not_eq_true', Bool.not_eq_false'] at hq)))
    | (show VR _ _ _ [] _ _ _; first | refine vr_nil ?_)
    | (show thenQ _ _ _ _; first | refine q_then_n ?_)
    | refine vc_seq ?_
    | refine vc_region ?_
    | refine vc_ret ?_
    | fail)
  all_goals refine ret_bool isRet_r rfl ?_
  all_goals simp_all [nodeB] <;> omega
def cmpTC (a b : TC) : Int := orI [cmpI a.slot b.slot, cmpI a.kind b.kind]
theorem compare_spec (a b : TC) : FnS Tryz.prog 92 [tcA a, tcA b] [] (AI (cmpTC a b)) [] := by
  refine FnS.of_body (enters_of Tryz.func92 (by kernel_rfl) rfl) Tryz.func92 rfl Tryz.ntmps92 Tryz.results92 rfl rfl rfl rfl fun E hS => ?_
  repeat' (first
    | (show VR _ _ _ (_ :: _) _ _ _; first | refine x_opF rfl (by first | exact True.intro | omega) ?_ | (show VR _ _ _ (⟨_, .call ⟨.value _, _, _⟩, _, _, _, _⟩ :: _) _ _ _; first | refine vr_calld (cmp_spec _ _) (gk rfl) rfl rfl rfl rfl rfl rfl ?_ | refine vr_call [15] (or_spec [cmpI a.slot b.slot, cmpI a.kind b.kind]) (gk rfl) rfl (by (repeat' (first | exact .nil | refine .cons ?_ ?_ | exact .of0 (.c .d) | exact .of0 .ep | exact .clo | exact .of0 (.c .nil) | refine .of0 (.agg ?_) | exact .d | exact .nil | exact .of0 (.c (cr_row (by decide) rfl rfl (by repeat' (first | exact trivial | refine ⟨?_, ?_⟩ | rfl)))))) <;> fail) rfl rfl rfl rfl rfl ?_))
    | (show VR _ _ _ [] _ _ _; first | refine vr_nil ?_ | refine vr_nil_t (by kernel_rfl) ?_)
    | (show thenQ _ _ _ _; first | refine q_then_n ?_)
    | refine vc_seq ?_
    | refine vc_region ?_ | refine vc_region_t ?_
    | refine vc_ret ?_
    | fail)
  all_goals exact ret_int isRet_r rfl rfl
def formE (c : TC) (self len : Int) : Int :=
  if c.kind ≠ 3 ∧ c.kind ≠ 1 ∧ c.kind ≠ 2 then 1
  else if (c.kind ≠ 1 ∧ c.flow ≠ -1) ∨ (c.kind = 3 ∧ (c.peer ≠ -1 ∨ c.send = true)) then 1
  else if (c.slot < 0 ∨ len ≤ c.slot) ∨ (c.offset < 0 ∨ 16 ≤ c.offset) ∨ (c.kind ≠ 3 ∧ (nodeB c.peer = false ∨ c.peer = self)) ∨ (c.kind = 1 ∧ c.flow < 0) then 2 else 0
set_option maxHeartbeats 2000000 in
theorem form_spec (c : TC) (self len : Int) : FnS Tryz.prog 91 [tcA c, AI self, AI len] [] (AI (formE c self len)) [] := by
  have h3 : c.kind = 3 ∨ c.kind = 1 ∨ c.kind = 2 ∨ (c.kind ≠ 3 ∧ c.kind ≠ 1 ∧ c.kind ≠ 2) := by omega
  obtain ⟨slot, off, kind, send, peer, flow⟩ := c
  dsimp only at h3
  refine FnS.of_body (enters_of Tryz.func91 (by kernel_rfl) rfl) Tryz.func91 rfl Tryz.ntmps91 Tryz.results91 rfl rfl rfl rfl fun E hS => ?_
  rcases h3 with rfl | rfl | rfl | ⟨h, h', h''⟩
  rotate_left 3
  have a1 : (!decide (kind = 3)) = true := by simp [h]
  have a2 : (!decide (kind = 1)) = true := by simp [h']
  have a3 : decide (kind ≠ 2) = true := by simp [h'']
  all_goals
    repeat' (first
      | (show VR _ _ _ (_ :: _) _ _ _; first | refine x_opF rfl (by first | exact True.intro | omega) ?_ | (show VR _ _ _ (⟨_, .call ⟨.value _, _, _⟩, _, _, _, _⟩ :: _) _ _ _; first | refine vr_calld (node_spec _) (gk rfl) rfl rfl rfl rfl rfl rfl ?_) | refine x_gknow rfl (by assumption) ?_ | (refine x_gsplit rfl ?_ ?_ <;> intro h <;> have hq := h <;> (try simp only [decide_eq_true_eq, decide_eq_false_iff_not, Int.not_lt, Int.not_le, ne_eq, Decidable.not_not, Bool.not_eq_true', Bool.not_eq_false'] at hq)))
      | (show VR _ _ _ [] _ _ _; first | refine vr_nil ?_)
      | (show thenQ _ _ _ _; first | refine q_then_n ?_ | refine q_then_r ?_)
      | (show blockQ _ _ _ _; first | refine q_blk_n ?_ | refine q_blk_r ?_)
      | refine vc_seq ?_
      | refine vc_region ?_
      | (show VC _ (.cond _ _ _) _ _; first | refine vc_cond_t rfl ?_ | refine vc_cond_f rfl ?_ | refine x_know rfl (by assumption) ?_ | (refine x_cond rfl ?_ ?_ <;> intro h <;> have hq := h <;> (try simp only [decide_eq_true_eq, decide_eq_false_iff_not, Int.not_lt, Int.not_le, ne_eq, Decidable.not_not, Bool.not_eq_true', Bool.not_eq_false'] at hq)))
      | refine vc_ret ?_ | refine vc_block ?_ | refine vc_skip ?_
      | fail)
    all_goals first
      | (refine ret_int isRet_r rfl ?_; unfold formE; simp_all; done)
      | (refine ret_int isRet_r rfl ?_; unfold formE; simp_all <;> omega)
      | (exfalso; omega)
      | trace_state
end Go.Proofs.T
