/-
  What functions of the given program hand back, by walks over its code, and plain laws on that. No condition.
-/
import Derived.Test.YtecdajajocafdaaGreatSxP18Qc
-- SXS
namespace Go.Proofs.Q
open Go Go.Sx
set_option maxRecDepth 4000
set_option linter.unusedSimpArgs false
set_option linter.unusedVariables false
attribute [local irreducible] VR VC thenQ blockQ retL
/-! Predicates that the program hands on. -/
theorem idx1_spec (x : Pk) (t : Int) : FnS Tryz.prog 167 [pkA x, .ep (fun _ => .int .i64 t) 1] [] (AB (decide (x.id = t))) [] := by
  refine FnS.of_body (enters_of Tryz.func167 (by kernel_rfl) rfl) Tryz.func167 rfl Tryz.ntmps167 Tryz.results167 rfl rfl rfl rfl fun E hS => ?_
  repeat' (first
    | (show VR _ _ _ (_ :: _) _ _ _; first | refine x_opF rfl (by first | exact True.intro | omega) ?_)
    | (show VR _ _ _ [] _ _ _; first | refine vr_nil ?_)
    | (show thenQ _ _ _ _; first | refine q_then_n ?_)
    | refine vc_seq ?_
    | refine vc_region ?_
    | refine vc_ret ?_
    | fail)
  all_goals exact ret_bool isRet_r rfl rfl
theorem idx1_fnc {σ : St} {t : Int} {n1 : Nat} {L : List Nat} (hL : n1 ∈ L) (h1 : σ (.b n1) = some (.k (.box [.d (.int .i64 t)]))) : AR Tryz.prog σ L (.fnc 167 [.ptr n1 0]) (.clo (predφPk fun x => decide (x.id = t))) :=
  .fnc (eps := [.ep (fun _ => .int .i64 t) 1]) (.cons (.ptr hL h1 (fun j hj => by
    have : j = 0 := by omega
    subst this; rfl)) .nil) (enters_of Tryz.func167 (by kernel_rfl) rfl)
    (by rintro _ _ ⟨x, rfl, rfl⟩; exact ⟨rfl, idx1_spec x t⟩)
theorem first1_spec (x : Pk) (t : Int) : FnS Tryz.prog 179 [pkA x, .ep (fun _ => .int .i64 t) 1] [] (AB (decide (x.to = t))) [] := by
  refine FnS.of_body (enters_of Tryz.func179 (by kernel_rfl) rfl) Tryz.func179 rfl Tryz.ntmps179 Tryz.results179 rfl rfl rfl rfl fun E hS => ?_
  repeat' (first
    | (show VR _ _ _ (_ :: _) _ _ _; first | refine x_opF rfl (by first | exact True.intro | omega) ?_)
    | (show VR _ _ _ [] _ _ _; first | refine vr_nil ?_)
    | (show thenQ _ _ _ _; first | refine q_then_n ?_)
    | refine vc_seq ?_
    | refine vc_region ?_
    | refine vc_ret ?_
    | fail)
  all_goals exact ret_bool isRet_r rfl rfl
theorem first1_fnc {σ : St} {t : Int} {n1 : Nat} {L : List Nat} (hL : n1 ∈ L) (h1 : σ (.b n1) = some (.k (.box [.d (.int .i64 t)]))) : AR Tryz.prog σ L (.fnc 179 [.ptr n1 0]) (.clo (predφPk fun x => decide (x.to = t))) :=
  .fnc (eps := [.ep (fun _ => .int .i64 t) 1]) (.cons (.ptr hL h1 (fun j hj => by
    have : j = 0 := by omega
    subst this; rfl)) .nil) (enters_of Tryz.func179 (by kernel_rfl) rfl)
    (by rintro _ _ ⟨x, rfl, rfl⟩; exact ⟨rfl, first1_spec x t⟩)
theorem put1_spec (x p : Pk) : FnS Tryz.prog 139 [pkA x, .ep (fun j => p.enc.getD j .nils) 6] [] (AB (decide (p.prio < x.prio))) [] := by
  refine FnS.of_body (enters_of Tryz.func139 (by kernel_rfl) rfl) Tryz.func139 rfl Tryz.ntmps139 Tryz.results139 rfl rfl rfl rfl fun E hS => ?_
  repeat' (first
    | (show VR _ _ _ (_ :: _) _ _ _; first | refine x_opF rfl (by first | exact True.intro | omega) ?_)
    | (show VR _ _ _ [] _ _ _; first | refine vr_nil ?_)
    | (show thenQ _ _ _ _; first | refine q_then_n ?_)
    | refine vc_seq ?_
    | refine vc_region ?_
    | refine vc_ret ?_
    | fail)
  all_goals exact ret_bool isRet_r rfl rfl
theorem put1_fnc {σ : St} {p : Pk} {n1 : Nat} {L : List Nat} (hL : n1 ∈ L) (h1 : σ (.b n1) = some (.k (.box p.cs))) : AR Tryz.prog σ L (.fnc 139 [.ptr n1 0]) (.clo (predφPk fun x => decide (p.prio < x.prio))) :=
  .fnc (eps := [.ep (fun j => p.enc.getD j .nils) 6]) (.cons (.ptr hL h1 (fun j hj => by
    have : j = 0 ∨ j = 1 ∨ j = 2 ∨ j = 3 ∨ j = 4 ∨ j = 5 := by omega
    rcases this with rfl | rfl | rfl | rfl | rfl | rfl <;> rfl)) .nil) (enters_of Tryz.func139 (by kernel_rfl) rfl)
    (by rintro _ _ ⟨x, rfl, rfl⟩; exact ⟨rfl, put1_spec x p⟩)
def idxId (l : List Pk) (id : Int) : Option Nat := fstO l fun x => decide (x.id = id)
def idxTo (l : List Pk) (to : Int) : Option Nat := fstO l fun x => decide (x.to = to)
theorem qindex_spec (q : Qu) (id : Int) : FnS Tryz.prog 138 [quA q, AI id] [] (AI (oI (idxId q.packets id))) [] := by
  refine FnS.of_body (enters_of Tryz.func138 (by kernel_rfl) rfl) Tryz.func138 rfl Tryz.ntmps138 Tryz.results138 rfl rfl rfl rfl fun E hS => ?_
  repeat' (first
    | (show VR _ _ _ (_ :: _) _ _ _; first | refine x_opF rfl (by first | exact True.intro | omega) ?_ | (show VR _ _ _ (⟨_, .call ⟨.value _, _, _⟩, _, _, _, _⟩ :: _) _ _ _; first | refine vr_callU [3] (idxf_Pk q.packets (fun x => decide (x.id = id))) (gk rfl) rfl (by (repeat' (first | exact .nil | refine .cons ?_ ?_ | exact .of0 (.c .d) | exact .of0 .ep | exact .clo | exact (idx1_fnc (by simp) rfl) | exact .of0 (.c .nil) | exact .of0 (.c (cr_rowO (by simp) rfl (by first | rfl | omega) (fun _ => rfl))) | refine .of0 (.agg ?_) | exact .d | exact .nil | exact .of0 (.c (cr_row (by decide) rfl rfl (by repeat' (first | exact trivial | refine ⟨?_, ?_⟩ | rfl)))))) <;> fail) (by first | rfl | exact hfl_O (fun _ => rfl) | exact hfl_O2 rfl (fun _ => rfl)) rfl (by first | rfl | (simp only [wfRes, wfL, wfArgs, wfs]; rfl)) rfl (by first | exact newB_O | rfl) rfl ?_))
    | (show VR _ _ _ [] _ _ _; first | refine vr_nil ?_)
    | (show thenQ _ _ _ _; first | refine q_then_n ?_)
    | refine vc_seq ?_
    | refine vc_region ?_
    | refine vc_ret ?_
    | fail)
  all_goals exact ret_int isRet_r rfl rfl
theorem first_spec (l : List Pk) (to : Int) : FnS Tryz.prog 171 [AD (pks l), AI to] [] (AI (oI (idxTo l to))) [] := by
  refine FnS.of_body (enters_of Tryz.func171 (by kernel_rfl) rfl) Tryz.func171 rfl Tryz.ntmps171 Tryz.results171 rfl rfl rfl rfl fun E hS => ?_
  repeat' (first
    | (show VR _ _ _ (_ :: _) _ _ _; first | refine x_opF rfl (by first | exact True.intro | omega) ?_ | (show VR _ _ _ (⟨_, .call ⟨.value _, _, _⟩, _, _, _, _⟩ :: _) _ _ _; first | refine vr_callU [3] (idxf_Pk l (fun x => decide (x.to = to))) (gk rfl) rfl (by (repeat' (first | exact .nil | refine .cons ?_ ?_ | exact .of0 (.c .d) | exact .of0 .ep | exact .clo | exact (first1_fnc (by simp) rfl) | exact .of0 (.c .nil) | exact .of0 (.c (cr_rowO (by simp) rfl (by first | rfl | omega) (fun _ => rfl))) | refine .of0 (.agg ?_) | exact .d | exact .nil | exact .of0 (.c (cr_row (by decide) rfl rfl (by repeat' (first | exact trivial | refine ⟨?_, ?_⟩ | rfl)))))) <;> fail) (by first | rfl | exact hfl_O (fun _ => rfl) | exact hfl_O2 rfl (fun _ => rfl)) rfl (by first | rfl | (simp only [wfRes, wfL, wfArgs, wfs]; rfl)) rfl (by first | exact newB_O | rfl) rfl ?_))
    | (show VR _ _ _ [] _ _ _; first | refine vr_nil ?_)
    | (show thenQ _ _ _ _; first | refine q_then_n ?_)
    | refine vc_seq ?_
    | refine vc_region ?_
    | refine vc_ret ?_
    | fail)
  all_goals exact ret_int isRet_r rfl rfl
def staleB (p : Pk) (slot : Int) : Bool := decide (0 ≤ slot) && decide (p.life ≤ IntKind.i64.wrap (slot - p.born))
theorem stale_spec (p : Pk) (slot : Int) : FnS Tryz.prog 142 [pkA p, AI slot] [] (AB (staleB p slot)) [] := by
  refine FnS.of_body (enters_of Tryz.func142 (by kernel_rfl) rfl) Tryz.func142 rfl Tryz.ntmps142 Tryz.results142 rfl rfl rfl rfl fun E hS => ?_
  repeat' (first
    | (show VR _ _ _ (_ :: _) _ _ _; first | refine x_opF rfl (by first | exact True.intro | omega) ?_ | (show VR _ _ _ (⟨_, .binOp _ _ _ _ _, _, _, _, _⟩ :: _) _ _ _; first | refine x_ariw rfl rfl rfl rfl rfl ?_) | (refine x_gsplit rfl ?_ ?_ <;> intro h <;> have hq := h <;> (try simp only [hqs] at hq)))
    | (show VR _ _ _ [] _ _ _; first | refine vr_nil ?_)
    | (show thenQ _ _ _ _; first | refine q_then_n ?_)
    | refine vc_seq ?_
    | refine vc_region ?_
    | refine vc_ret ?_
    | fail)
  all_goals (refine ret_bool isRet_r rfl ?_; unfold staleB; first | (simp_all; done) | (simp_all; intro h; omega))
def atP (l : List Pk) (pr : Int) : Nat := (fstO l fun x => decide (pr < x.prio)).getD l.length
def noQ : Qu := ⟨0, []⟩
def putQ (q : Qu) (p : Pk) : Qu × List Pk × Int :=
  if checkQ q ≠ 0 then (noQ, [], 1) else if formP p ≠ 0 then (noQ, [], formP p) else if (q.packets.any fun x => decide (x.id = p.id)) = true then (noQ, [], 6)
  else if q.packets.length = q.limit then
    if (q.packets.getD (q.packets.length - 1) default).prio ≤ p.prio then (noQ, [], 13)
    else (⟨q.limit, insAt (q.packets.take (q.packets.length - 1)) (atP (q.packets.take (q.packets.length - 1)) p.prio) p⟩, [q.packets.getD (q.packets.length - 1) default], 0)
  else (⟨q.limit, insAt q.packets (atP q.packets p.prio) p⟩, [], 0)
theorem checkQ_len {q : Qu} (h : checkQ q = 0) : 1 ≤ q.limit ∧ q.limit ≤ 64 ∧ (q.packets.length : Int) ≤ q.limit := by
  unfold checkQ at h
  split at h
  · cases h
  · split at h
    · cases h
    · rename_i h1 h2
      simp [inI] at h1
      omega
end Go.Proofs.Q
