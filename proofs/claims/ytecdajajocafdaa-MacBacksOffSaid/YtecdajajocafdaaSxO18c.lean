/-
  What functions of the given program hand back, by walks over its code, and plain laws on that. No condition.
-/
import Derived.Test.YtecdajajocafdaaSxO18m
import Derived.Test.YtecdajajocafdaaSxLibC
-- SXS
-- SXM
-- SXP
namespace Go.Proofs
open Go Go.Sx Go.Proofs.T Go.Proofs.Q
set_option maxRecDepth 4000
set_option linter.unusedSimpArgs false
set_option linter.unusedVariables false
attribute [local irreducible] VR VC thenQ blockQ retL
/-! What is worked on, as it is read. -/
def wenc (s : Sta) (slot : Int) (c : TC) : List D := [.int .i64 s.tb.node, .int .i64 s.tb.len, tcs s.tb.cells, .int .i64 s.qu.limit, pks s.qu.packets, hds s.held, sns s.seen,
  .int .i64 s.list, .int .i64 s.seq, .int .i64 s.trying, .int .i64 s.tries, .int .i64 s.back, .int .i64 s.wait, .int .i64 s.seed, .int .i64 slot,
  .int .i64 c.slot, .int .i64 c.offset, .int .i64 c.kind, .bool c.send, .int .i64 c.peer, .int .i64 c.flow]
abbrev wG (s : Sta) (slot : Int) (c : TC) : Nat → D := fun j => (wenc s slot c).getD j .nils
abbrev wP (s : Sta) (slot : Int) (c : TC) : AV := AD (.pt 21 (wG s slot c))
def wcs (s : Sta) (H S : C) (slot : Int) (c : TC) : List C := [.d (.int .i64 s.tb.node), .d (.int .i64 s.tb.len), .d (tcs s.tb.cells), .d (.int .i64 s.qu.limit), .d (pks s.qu.packets), H, S,
  .d (.int .i64 s.list), .d (.int .i64 s.seq), .d (.int .i64 s.trying), .d (.int .i64 s.tries), .d (.int .i64 s.back), .d (.int .i64 s.wait), .d (.int .i64 s.seed), .d (.int .i64 slot),
  .d (.int .i64 c.slot), .d (.int .i64 c.offset), .d (.int .i64 c.kind), .d (.bool c.send), .d (.int .i64 c.peer), .d (.int .i64 c.flow)]
theorem w_ar {σ : St} {L : List Nat} {nm : Nat} {s : Sta} {H S : C} {slot : Int} {c : TC} (hL : nm ∈ L) (hb : σ (.b nm) = some (.k (.box (wcs s H S slot c)))) (hH : CR σ L H (.d (hds s.held))) (hS : CR σ L S (.d (sns s.seen))) :
    AR Try.prog σ L (.c (.ptr nm 0)) (wP s slot c) := by
  refine .of0 (.c (.ptrR hL hb (cf := fun j => (wcs s H S slot c).getD j (.d .nils)) (fun j hj => ?_) (fun j hj => ?_)))
  · have : j = 0 ∨ j = 1 ∨ j = 2 ∨ j = 3 ∨ j = 4 ∨ j = 5 ∨ j = 6 ∨ j = 7 ∨ j = 8 ∨ j = 9 ∨ j = 10 ∨ j = 11 ∨ j = 12 ∨ j = 13 ∨ j = 14 ∨ j = 15 ∨ j = 16 ∨ j = 17 ∨ j = 18 ∨ j = 19 ∨ j = 20 := by omega
    rcases this with rfl | rfl | rfl | rfl | rfl | rfl | rfl | rfl | rfl | rfl | rfl | rfl | rfl | rfl | rfl | rfl | rfl | rfl | rfl | rfl | rfl <;> rfl
  · have : j = 0 ∨ j = 1 ∨ j = 2 ∨ j = 3 ∨ j = 4 ∨ j = 5 ∨ j = 6 ∨ j = 7 ∨ j = 8 ∨ j = 9 ∨ j = 10 ∨ j = 11 ∨ j = 12 ∨ j = 13 ∨ j = 14 ∨ j = 15 ∨ j = 16 ∨ j = 17 ∨ j = 18 ∨ j = 19 ∨ j = 20 := by omega
    rcases this with rfl | rfl | rfl | rfl | rfl | rfl | rfl | rfl | rfl | rfl | rfl | rfl | rfl | rfl | rfl | rfl | rfl | rfl | rfl | rfl | rfl <;> first | exact .d | exact hH | exact hS
/-! Searching what is held. -/
abbrev predφHd (p : Hd → Bool) : List DV → DV → Prop := fun ds r => ∃ x : Hd, ds = [.agg x.enc] ∧ r = .d (.bool (p x))
theorem idxf_Hd (l : List Hd) (p : Hd → Bool) : FnS Try.prog 47 [AD (hds l), .clo (predφHd p)] [] (AI (oI (fstO l p))) [] := by
  refine FnS.of_body (enters_of Try.func47 (by kernel_rfl) rfl) Try.func47 rfl Try.ntmps47 Try.results47 rfl rfl rfl rfl fun E hS => ?_
  refine vc_bound (t := 0) rfl fun hb => ?_
  repeat' (first
    | (show VR _ _ _ (_ :: _) _ _ _; first | refine x_opF rfl (by first | exact True.intro | omega) ?_)
    | (show VR _ _ _ [] _ _ _; first | refine vr_nil ?_)
    | (show thenQ _ _ _ _; first | refine q_then_n ?_)
    | refine vc_seq ?_
    | refine vc_region ?_
    | refine vc_block ?_
    | fail)
  refine vc_loopI (ι := Nat) (fun k => stOf [(0, AD (hds l)), (1, .clo (predφHd p)), (7, AI l.length), (8, AI k)] []) (fun k => k ≤ l.length ∧ ∀ i, i < k → p (l.getD i default) = false) (fun k => l.length - k) 0 ⟨Nat.zero_le _, fun i hi => absurd hi (Nat.not_lt_zero _)⟩ ?_ ?_
  · exact le_of ⟨rfl, rfl, rfl, rfl, trivial⟩ trivial rfl
  · intro k hk
    repeat' (first
      | (show VR _ _ _ (_ :: _) _ _ _; first | refine x_opF rfl (by first | exact True.intro | omega) ?_ | (show VR _ _ _ (⟨_, .call ⟨.value _, _, _⟩, _, _, _, _⟩ :: _) _ _ _; first | refine vr_clo (⟨_, rfl, rfl⟩) (gk rfl) rfl rfl rfl rfl ?_) | (show VR _ _ _ (⟨_, .indexAddr _ _ _, _, _, _, _⟩ :: _) _ _ _; first | refine vr_index_rd (gk rfl) rfl rfl rfl rfl rfl (by omega) rfl ?_))
      | (show VR _ _ _ [] _ _ _; first | refine vr_nil ?_)
      | (show thenQ _ _ _ _; first | refine q_then_n ?_ | refine q_then_x ?_ | refine q_then_r ?_)
      | (show blockQ _ _ _ _; first | refine q_blk_n ?_ | refine q_blk_r ?_ | refine q_blk_x ?_)
      | refine vc_seq ?_
      | refine vc_region ?_
      | (show VC _ (.cond _ _ _) _ _; first | (refine x_cond rfl ?_ ?_ <;> intro h <;> have hq := h <;> (try simp only [hqs] at hq)))
      | refine vc_ret ?_ | refine vc_exit ?_ | refine vc_block ?_ | refine vc_skip ?_
      | fail)
    · refine ret_int isRet_r rfl ?_
      rw [fstO_hit hk.2 (by omega) h]; rfl
    · refine ⟨k + 1, ⟨by omega, fun i hi => ?_⟩, by omega, le_of ⟨rfl, rfl, rfl, rfl, trivial⟩ trivial rfl⟩
      by_cases hik : i < k
      · exact hk.2 i hik
      · have : i = k := by omega
        subst this
        exact h
    · refine ret_int isRet_r rfl ?_
      have : k = l.length := by omega
      subst this
      rw [fstO_none hk.2]; rfl
theorem holds1_spec (x : Hd) (t : Int) : FnS Try.prog 48 [hdA x, .ep (fun _ => .int .i64 t) 1] [] (AB (decide (x.flow = t))) [] := by
  refine FnS.of_body (enters_of Try.func48 (by kernel_rfl) rfl) Try.func48 rfl Try.ntmps48 Try.results48 rfl rfl rfl rfl fun E hS => ?_
  repeat' (first
    | (show VR _ _ _ (_ :: _) _ _ _; first | refine x_opF rfl (by first | exact True.intro | omega) ?_)
    | (show VR _ _ _ [] _ _ _; first | refine vr_nil ?_)
    | (show thenQ _ _ _ _; first | refine q_then_n ?_)
    | refine vc_seq ?_
    | refine vc_region ?_
    | refine vc_ret ?_
    | fail)
  all_goals exact ret_bool isRet_r rfl rfl
theorem holds1_fnc {σ : St} {t : Int} {n1 : Nat} {L : List Nat} (hL : n1 ∈ L) (h1 : σ (.b n1) = some (.k (.box [.d (.int .i64 t)]))) : AR Try.prog σ L (.fnc 48 [.ptr n1 0]) (.clo (predφHd fun x => decide (x.flow = t))) :=
  .fnc (eps := [.ep (fun _ => .int .i64 t) 1]) (.cons (.ptr hL h1 (fun j hj => by
    have : j = 0 := by omega
    subst this; rfl)) .nil) (enters_of Try.func48 (by kernel_rfl) rfl)
    (by rintro _ _ ⟨x, rfl, rfl⟩; exact ⟨rfl, holds1_spec x t⟩)
theorem holds_spec (s : Sta) (slot : Int) (c : TC) (flow : Int) : FnS Try.prog 20 [wP s slot c, AI flow] [] (AI (oI (heldI s.held flow))) [] := by
  refine FnS.of_body (enters_of Try.func20 (by kernel_rfl) rfl) Try.func20 rfl Try.ntmps20 Try.results20 rfl rfl rfl rfl fun E hS => ?_
  repeat' (first
    | (show VR _ _ _ (_ :: _) _ _ _; first | (show VR _ _ _ (⟨_, .nilCheck _, _, _, _, _⟩ :: _) _ _ _; first | refine vr_nilCheck_pt (gk rfl) rfl rfl ?_) | (show VR _ _ _ (⟨_, .fieldAddr _ _ _, _, _, _, _⟩ :: _) _ _ _; first | refine vr_fieldAddr_pt (gk rfl) rfl rfl rfl rfl rfl ?_) | refine x_opF rfl (by first | exact True.intro | omega) ?_ | (show VR _ _ _ (⟨_, .call ⟨.value _, _, _⟩, _, _, _, _⟩ :: _) _ _ _; first | refine vr_callU [3] (idxf_Hd s.held (fun x => decide (x.flow = flow))) (gk rfl) rfl (by (repeat' (first | exact .nil | refine .cons ?_ ?_ | exact .of0 (.c .d) | exact .of0 .ep | exact .clo | exact (holds1_fnc (by simp) rfl) | exact .of0 (.c .nil) | exact .of0 (.c (cr_rowO (by simp) rfl (by first | rfl | omega) (fun _ => rfl))) | refine .of0 (.agg ?_) | exact .d | exact .nil | exact .of0 (.c (cr_row (by decide) rfl rfl (by repeat' (first | exact trivial | refine ⟨?_, ?_⟩ | rfl)))))) <;> fail) (by first | rfl | exact hfl_O (fun _ => rfl) | exact hfl_O2 rfl (fun _ => rfl)) rfl (by first | rfl | (simp only [wfRes, wfL, wfArgs, wfs, mpO_namesB, mpO_namesI]; rfl)) rfl (by first | exact newB_O | rfl) rfl ?_))
    | (show VR _ _ _ [] _ _ _; first | refine vr_nil ?_)
    | (show thenQ _ _ _ _; first | refine q_then_n ?_)
    | refine vc_seq ?_
    | refine vc_region ?_
    | refine vc_ret ?_
    | fail)
  all_goals exact ret_int isRet_r rfl rfl
/-! The candidate for a shared cell. -/
abbrev predφTC (p : TC → Bool) : List DV → DV → Prop := fun ds r => ∃ x : TC, ds = [.agg x.enc] ∧ r = .d (.bool (p x))
theorem idxf_TC (l : List TC) (p : TC → Bool) : FnS Try.prog 83 [AD (tcs l), .clo (predφTC p)] [] (AI (oI (fstO l p))) [] := by
  refine FnS.of_body (enters_of Try.func83 (by kernel_rfl) rfl) Try.func83 rfl Try.ntmps83 Try.results83 rfl rfl rfl rfl fun E hS => ?_
  refine vc_bound (t := 0) rfl fun hb => ?_
  repeat' (first
    | (show VR _ _ _ (_ :: _) _ _ _; first | refine x_opF rfl (by first | exact True.intro | omega) ?_)
    | (show VR _ _ _ [] _ _ _; first | refine vr_nil ?_)
    | (show thenQ _ _ _ _; first | refine q_then_n ?_)
    | refine vc_seq ?_
    | refine vc_region ?_
    | refine vc_block ?_
    | fail)
  refine vc_loopI (ι := Nat) (fun k => stOf [(0, AD (tcs l)), (1, .clo (predφTC p)), (7, AI l.length), (8, AI k)] []) (fun k => k ≤ l.length ∧ ∀ i, i < k → p (l.getD i default) = false) (fun k => l.length - k) 0 ⟨Nat.zero_le _, fun i hi => absurd hi (Nat.not_lt_zero _)⟩ ?_ ?_
  · exact le_of ⟨rfl, rfl, rfl, rfl, trivial⟩ trivial rfl
  · intro k hk
    repeat' (first
      | (show VR _ _ _ (_ :: _) _ _ _; first | refine x_opF rfl (by first | exact True.intro | omega) ?_ | (show VR _ _ _ (⟨_, .call ⟨.value _, _, _⟩, _, _, _, _⟩ :: _) _ _ _; first | refine vr_clo (⟨_, rfl, rfl⟩) (gk rfl) rfl rfl rfl rfl ?_) | (show VR _ _ _ (⟨_, .indexAddr _ _ _, _, _, _, _⟩ :: _) _ _ _; first | refine vr_index_rd (gk rfl) rfl rfl rfl rfl rfl (by omega) rfl ?_))
      | (show VR _ _ _ [] _ _ _; first | refine vr_nil ?_)
      | (show thenQ _ _ _ _; first | refine q_then_n ?_ | refine q_then_x ?_ | refine q_then_r ?_)
      | (show blockQ _ _ _ _; first | refine q_blk_n ?_ | refine q_blk_r ?_ | refine q_blk_x ?_)
      | refine vc_seq ?_
      | refine vc_region ?_
      | (show VC _ (.cond _ _ _) _ _; first | (refine x_cond rfl ?_ ?_ <;> intro h <;> have hq := h <;> (try simp only [hqs] at hq)))
      | refine vc_ret ?_ | refine vc_exit ?_ | refine vc_block ?_ | refine vc_skip ?_
      | fail)
    · refine ret_int isRet_r rfl ?_
      rw [fstO_hit hk.2 (by omega) h]; rfl
    · refine ⟨k + 1, ⟨by omega, fun i hi => ?_⟩, by omega, le_of ⟨rfl, rfl, rfl, rfl, trivial⟩ trivial rfl⟩
      by_cases hik : i < k
      · exact hk.2 i hik
      · have : i = k := by omega
        subst this
        exact h
    · refine ret_int isRet_r rfl ?_
      have : k = l.length := by omega
      subst this
      rw [fstO_none hk.2]; rfl
theorem containsf_TC (l : List TC) (p : TC → Bool) : FnS Try.prog 54 [AD (tcs l), .clo (predφTC p)] [] (AB (l.any p)) [] := by
  refine FnS.of_body (enters_of Try.func54 (by kernel_rfl) rfl) Try.func54 rfl Try.ntmps54 Try.results54 rfl rfl rfl rfl fun E hS => ?_
  repeat' (first
    | (show VR _ _ _ (_ :: _) _ _ _; first | refine x_opF rfl (by first | exact True.intro | omega) ?_ | (show VR _ _ _ (⟨_, .call ⟨.value _, _, _⟩, _, _, _, _⟩ :: _) _ _ _; first | refine vr_callU [] (idxf_TC l p) (gk rfl) rfl (by (repeat' (first | exact .nil | refine .cons ?_ ?_ | exact .of0 (.c .d) | exact .of0 .ep | exact .clo | exact .of0 (.c .nil) | exact .of0 (.c (cr_rowO (by simp) rfl (by first | rfl | omega) (fun _ => rfl))) | refine .of0 (.agg ?_) | exact .d | exact .nil | exact .of0 (.c (cr_row (by decide) rfl rfl (by repeat' (first | exact trivial | refine ⟨?_, ?_⟩ | rfl)))))) <;> fail) (by first | rfl | exact hfl_O (fun _ => rfl) | exact hfl_O2 rfl (fun _ => rfl)) rfl (by first | rfl | (simp only [wfRes, wfL, wfArgs, wfs, mpO_namesB, mpO_namesI]; rfl)) rfl (by first | exact newB_O | rfl) rfl ?_))
    | (show VR _ _ _ [] _ _ _; first | refine vr_nil ?_)
    | (show thenQ _ _ _ _; first | refine q_then_n ?_)
    | refine vc_seq ?_
    | refine vc_region ?_
    | refine vc_ret ?_
    | fail)
  all_goals exact ret_bool isRet_r rfl (fstO_any _ _).symm
theorem cand11_spec (c : TC) (p : Pk) : FnS Try.prog 55 [tcA c, .ep (fun j => p.enc.getD j .nils) 6] [] (AB (decide (c.kind = 2) && c.send && decide (c.peer = p.to))) [] := by
  refine FnS.of_body (enters_of Try.func55 (by kernel_rfl) rfl) Try.func55 rfl Try.ntmps55 Try.results55 rfl rfl rfl rfl fun E hS => ?_
  repeat' (first
    | (show VR _ _ _ (_ :: _) _ _ _; first | refine x_opF rfl (by first | exact True.intro | omega) ?_ | (refine x_gsplit rfl ?_ ?_ <;> intro h <;> have hq := h <;> (try simp only [hqs] at hq)))
    | (show VR _ _ _ [] _ _ _; first | refine vr_nil ?_)
    | (show thenQ _ _ _ _; first | refine q_then_n ?_)
    | refine vc_seq ?_
    | refine vc_region ?_
    | refine vc_ret ?_
    | fail)
  all_goals (refine ret_bool isRet_r rfl ?_; simp_all)
theorem cand11_fnc {σ : St} {p : Pk} {n1 : Nat} {L : List Nat} (hL : n1 ∈ L) (h1 : σ (.b n1) = some (.k (.box p.cs))) : AR Try.prog σ L (.fnc 55 [.ptr n1 0]) (.clo (predφTC fun c => decide (c.kind = 2) && c.send && decide (c.peer = p.to))) :=
  .fnc (eps := [.ep (fun j => p.enc.getD j .nils) 6]) (.cons (.ptr hL h1 (fun j hj => by
    have : j = 0 ∨ j = 1 ∨ j = 2 ∨ j = 3 ∨ j = 4 ∨ j = 5 := by omega
    rcases this with rfl | rfl | rfl | rfl | rfl | rfl <;> rfl)) .nil) (enters_of Try.func55 (by kernel_rfl) rfl)
    (by rintro _ _ ⟨x, rfl, rfl⟩; exact ⟨rfl, cand11_spec x p⟩)
theorem cand1_spec (p : Pk) (s : Sta) (slot : Int) (c : TC) : FnS Try.prog 53 [pkA p, .ep (fun _ => .pt 21 (wG s slot c)) 1] [] (AB (decide (p.to = -1) || !agrB s.tb p.to)) [] := by
  refine FnS.of_body (enters_of Try.func53 (by kernel_rfl) rfl) Try.func53 rfl Try.ntmps53 Try.results53 rfl rfl rfl rfl fun E hS => ?_
  repeat' (first
    | (show VR _ _ _ (_ :: _) _ _ _; first | (show VR _ _ _ (⟨_, .nilCheck _, _, _, _, _⟩ :: _) _ _ _; first | refine vr_nilCheck_pt (gk rfl) rfl rfl ?_) | (show VR _ _ _ (⟨_, .fieldAddr _ _ _, _, _, _, _⟩ :: _) _ _ _; first | refine vr_fieldAddr_pt (gk rfl) rfl rfl rfl rfl rfl ?_) | refine x_opF rfl (by first | exact True.intro | omega) ?_ | (show VR _ _ _ (⟨_, .call ⟨.value _, _, _⟩, _, _, _, _⟩ :: _) _ _ _; first | refine vr_callU [2] (containsf_TC s.tb.cells (fun c => decide (c.kind = 2) && c.send && decide (c.peer = p.to))) (gk rfl) rfl (by (repeat' (first | exact .nil | refine .cons ?_ ?_ | exact .of0 (.c .d) | exact .of0 .ep | exact .clo | exact (cand11_fnc (by simp) rfl) | exact .of0 (.c .nil) | exact .of0 (.c (cr_rowO (by simp) rfl (by first | rfl | omega) (fun _ => rfl))) | refine .of0 (.agg ?_) | exact .d | exact .nil | exact .of0 (.c (cr_row (by decide) rfl rfl (by repeat' (first | exact trivial | refine ⟨?_, ?_⟩ | rfl)))))) <;> fail) (by first | rfl | exact hfl_O (fun _ => rfl) | exact hfl_O2 rfl (fun _ => rfl)) rfl (by first | rfl | (simp only [wfRes, wfL, wfArgs, wfs, mpO_namesB, mpO_namesI]; rfl)) rfl (by first | exact newB_O | rfl) rfl ?_) | (refine x_gsplit rfl ?_ ?_ <;> intro h <;> have hq := h <;> (try simp only [hqs] at hq)))
    | (show VR _ _ _ [] _ _ _; first | refine vr_nil ?_)
    | (show thenQ _ _ _ _; first | refine q_then_n ?_)
    | refine vc_seq ?_
    | refine vc_region ?_
    | refine vc_ret ?_
    | fail)
  all_goals (refine ret_bool isRet_r rfl ?_; unfold agrB; simp_all)
theorem cand1_fnc {σ : St} {s : Sta} {slot : Int} {c : TC} {n1 : Nat} {L : List Nat} (hL : n1 ∈ L) (h1 : σ (.b n1) = some (.k (.box [.d (.pt 21 (wG s slot c))]))) : AR Try.prog σ L (.fnc 53 [.ptr n1 0]) (.clo (predφPk fun p => decide (p.to = -1) || !agrB s.tb p.to)) :=
  .fnc (eps := [.ep (fun _ => .pt 21 (wG s slot c)) 1]) (.cons (.ptr hL h1 (fun j hj => by
    have : j = 0 := by omega
    subst this; rfl)) .nil) (enters_of Try.func53 (by kernel_rfl) rfl)
    (by rintro _ _ ⟨x, rfl, rfl⟩; exact ⟨rfl, cand1_spec x s slot c⟩)
theorem candidate_spec (s : Sta) (slot : Int) (c : TC) : FnS Try.prog 23 [wP s slot c] [] (.tup [pkA (pkOf s (candI s)), AB (candI s).isSome]) [] := by
  have hix := idxf_Pk s.qu.packets fun p => decide (p.to = -1) || !agrB s.tb p.to
  refine FnS.of_body (enters_of Try.func23 (by kernel_rfl) rfl) Try.func23 rfl Try.ntmps23 Try.results23 rfl rfl rfl rfl fun E hS => ?_
  cases hf : candI s with
  | none =>
    have hf' : fstO s.qu.packets (fun p => decide (p.to = -1) || !agrB s.tb p.to) = none := hf
    rw [hf'] at hix
    have hix' : FnS Try.prog 37 [AD (pks s.qu.packets), .clo (predφPk fun p => decide (p.to = -1) || !agrB s.tb p.to)] [] (AI (-1)) [] := hix
    repeat' (first
      | (show VR _ _ _ (_ :: _) _ _ _; first | (show VR _ _ _ (⟨_, .nilCheck _, _, _, _, _⟩ :: _) _ _ _; first | refine vr_nilCheck_pt (gk rfl) rfl rfl ?_) | (show VR _ _ _ (⟨_, .fieldAddr _ _ _, _, _, _, _⟩ :: _) _ _ _; first | refine vr_fieldAddr_pt (gk rfl) rfl rfl rfl rfl rfl ?_) | refine x_opF rfl (by first | exact True.intro | omega) ?_ | (show VR _ _ _ (⟨_, .call ⟨.value _, _, _⟩, _, _, _, _⟩ :: _) _ _ _; first | refine vr_callU [1] (hix') (gk rfl) rfl (by (repeat' (first | exact .nil | refine .cons ?_ ?_ | exact .of0 (.c .d) | exact .of0 .ep | exact .clo | exact (cand1_fnc (by simp) rfl) | exact .of0 (.c .nil) | exact .of0 (.c (cr_rowO (by simp) rfl (by first | rfl | omega) (fun _ => rfl))) | refine .of0 (.agg ?_) | exact .d | exact .nil | exact .of0 (.c (cr_row (by decide) rfl rfl (by repeat' (first | exact trivial | refine ⟨?_, ?_⟩ | rfl)))))) <;> fail) (by first | rfl | exact hfl_O (fun _ => rfl) | exact hfl_O2 rfl (fun _ => rfl)) rfl (by first | rfl | (simp only [wfRes, wfL, wfArgs, wfs, mpO_namesB, mpO_namesI]; rfl)) rfl (by first | exact newB_O | rfl) rfl ?_))
      | (show VR _ _ _ [] _ _ _; first | refine vr_nil ?_)
      | (show thenQ _ _ _ _; first | refine q_then_n ?_ | refine q_then_r ?_)
      | refine vc_seq ?_
      | refine vc_region ?_
      | (show VC _ (.cond _ _ _) _ _; first | refine vc_cond_t rfl ?_)
      | refine vc_ret ?_
      | fail)
    all_goals exact ret_agg_dL isRet_r rfl rfl rfl rfl rfl rfl rfl
  | some i =>
    have hf' : fstO s.qu.packets (fun p => decide (p.to = -1) || !agrB s.tb p.to) = some i := hf
    rw [hf'] at hix
    have hix' : FnS Try.prog 37 [AD (pks s.qu.packets), .clo (predφPk fun p => decide (p.to = -1) || !agrB s.tb p.to)] [] (AI (i : Nat)) [] := hix
    obtain ⟨hi, _, _⟩ := fstO_some hf'
    repeat' (first
      | (show VR _ _ _ (_ :: _) _ _ _; first | (show VR _ _ _ (⟨_, .nilCheck _, _, _, _, _⟩ :: _) _ _ _; first | refine vr_nilCheck_pt (gk rfl) rfl rfl ?_) | (show VR _ _ _ (⟨_, .fieldAddr _ _ _, _, _, _, _⟩ :: _) _ _ _; first | refine vr_fieldAddr_pt (gk rfl) rfl rfl rfl rfl rfl ?_) | refine x_opF rfl (by first | exact True.intro | omega) ?_ | (show VR _ _ _ (⟨_, .call ⟨.value _, _, _⟩, _, _, _, _⟩ :: _) _ _ _; first | refine vr_callU [1] (hix') (gk rfl) rfl (by (repeat' (first | exact .nil | refine .cons ?_ ?_ | exact .of0 (.c .d) | exact .of0 .ep | exact .clo | exact (cand1_fnc (by simp) rfl) | exact .of0 (.c .nil) | exact .of0 (.c (cr_rowO (by simp) rfl (by first | rfl | omega) (fun _ => rfl))) | refine .of0 (.agg ?_) | exact .d | exact .nil | exact .of0 (.c (cr_row (by decide) rfl rfl (by repeat' (first | exact trivial | refine ⟨?_, ?_⟩ | rfl)))))) <;> fail) (by first | rfl | exact hfl_O (fun _ => rfl) | exact hfl_O2 rfl (fun _ => rfl)) rfl (by first | rfl | (simp only [wfRes, wfL, wfArgs, wfs, mpO_namesB, mpO_namesI]; rfl)) rfl (by first | exact newB_O | rfl) rfl ?_) | (show VR _ _ _ (⟨_, .indexAddr _ _ _, _, _, _, _⟩ :: _) _ _ _; first | refine vr_index_rd (gk rfl) rfl rfl rfl rfl rfl (by omega) rfl ?_))
      | (show VR _ _ _ [] _ _ _; first | refine vr_nil ?_)
      | (show thenQ _ _ _ _; first | refine q_then_n ?_)
      | refine vc_seq ?_
      | refine vc_region ?_
      | (show VC _ (.cond _ _ _) _ _; first | refine vc_cond_f rfl ?_)
      | refine vc_ret ?_ | refine vc_skip ?_
      | fail)
    all_goals first
      | (exfalso; omega)
      | exact ret_agg_dL isRet_r rfl rfl rfl rfl rfl rfl rfl
/-! The frame with a packet. -/
theorem message_spec (s : Sta) (slot : Int) (c : TC) (p : Pk) : FnS Try.prog 77 [wP s slot c, pkA p] [] (acA (msgA s p)) [] := by
  refine FnS.of_body (enters_of Try.func77 (by kernel_rfl) rfl) Try.func77 rfl Try.ntmps77 Try.results77 rfl rfl rfl rfl fun E hS => ?_
  repeat' (first
    | (show VR _ _ _ (_ :: _) _ _ _; first | (show VR _ _ _ (⟨_, .nilCheck _, _, _, _, _⟩ :: _) _ _ _; first | refine vr_nilCheck_pt (gk rfl) rfl rfl ?_) | (show VR _ _ _ (⟨_, .fieldAddr _ _ _, _, _, _, _⟩ :: _) _ _ _; first | refine vr_fieldAddr_pt (gk rfl) rfl rfl rfl rfl rfl ?_) | refine x_opF rfl (by first | exact True.intro | omega) ?_)
    | (show VR _ _ _ [] _ _ _; first | refine vr_nil ?_ | refine vr_nil_t (by kernel_rfl) ?_)
    | (show thenQ _ _ _ _; first | refine q_then_n ?_)
    | refine vc_seq ?_
    | refine vc_region ?_ | refine vc_region_t ?_
    | refine vc_ret ?_
    | fail)
  all_goals exact ret_aggL isRet_r rfl rfl rfl rfl rfl
end Go.Proofs
