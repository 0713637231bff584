/-
  What functions of the given program hand back, by walks over its code, and plain laws on that. No condition.
-/
import Derived.Test.YtecdajajocafdaaGreatSxLibC
import Derived.Test.YtecdajajocafdaaGreatSxT18
-- SXS
-- SXM
namespace Go.Proofs.Q
open Go Go.Sx
set_option maxRecDepth 4000
set_option linter.unusedSimpArgs false
set_option linter.unusedVariables false
attribute [local irreducible] VR VC thenQ blockQ retL
instance Tryz.key3 : KeyTy Tryz.prog 3 1 := keyTy_int (TyOK.int Tryz.sxty3 rfl)
/-- A packet, a queue, a departure. -/
structure Pk where
  id : Int
  to : Int
  prio : Int
  born : Int
  life : Int
  data : ByteArray
  deriving DecidableEq, Inhabited
def Pk.enc (x : Pk) : List D := [.int .i64 x.id, .int .i64 x.to, .int .i64 x.prio, .int .i64 x.born, .int .i64 x.life, .str x.data]
def Pk.cs (x : Pk) : List C := [.d (.int .i64 x.id), .d (.int .i64 x.to), .d (.int .i64 x.prio), .d (.int .i64 x.born), .d (.int .i64 x.life), .d (.str x.data)]
abbrev pkA (x : Pk) : AV := .agg x.cs
abbrev pks (l : List Pk) : D := rdOf Pk.enc 6 l
theorem pk_sv {x y : Pk} (h : [SV.str x.data, SV.int IntKind.i64 x.life, SV.int IntKind.i64 x.born, SV.int IntKind.i64 x.prio, SV.int IntKind.i64 x.to, SV.int IntKind.i64 x.id].reverse = [SV.str y.data, SV.int IntKind.i64 y.life, SV.int IntKind.i64 y.born, SV.int IntKind.i64 y.prio, SV.int IntKind.i64 y.to, SV.int IntKind.i64 y.id].reverse) : x = y := by
  have h := List.reverse_inj.1 h
  cases x; cases y
  simp only [List.cons.injEq, SV.int.injEq, SV.bool.injEq, SV.str.injEq, true_and, and_true] at h
  obtain ⟨rfl, rfl, rfl, rfl, rfl, rfl⟩ := h
  rfl
instance : FlatE Pk.enc := ⟨fun _ => rfl⟩
structure Dp where
  id : Int
  slot : Int
  dropped : Bool
  deriving DecidableEq, Inhabited
def Dp.enc (x : Dp) : List D := [.int .i64 x.id, .int .i64 x.slot, .bool x.dropped]
def Dp.cs (x : Dp) : List C := [.d (.int .i64 x.id), .d (.int .i64 x.slot), .d (.bool x.dropped)]
abbrev dpA (x : Dp) : AV := .agg x.cs
abbrev dps (l : List Dp) : D := rdOf Dp.enc 3 l
instance : FlatE Dp.enc := ⟨fun _ => rfl⟩
structure Qu where
  limit : Int
  packets : List Pk
  deriving DecidableEq, Inhabited
def Qu.cs (q : Qu) : List C := [.d (.int .i64 q.limit), .d (pks q.packets)]
abbrev quA (q : Qu) : AV := .agg q.cs
def inI (n lo hi : Int) : Bool := decide (lo ≤ n ∧ n ≤ hi)
theorem within_spec (n lo hi : Int) : FnS Tryz.prog 146 [AI n, AI lo, AI hi] [] (AB (inI n lo hi)) [] := by
  refine FnS.of_body (enters_of Tryz.func146 (by kernel_rfl) rfl) Tryz.func146 rfl Tryz.ntmps146 Tryz.results146 rfl rfl rfl rfl fun E hS => ?_
  repeat' (first
    | (show VR _ _ _ (_ :: _) _ _ _; first | refine x_opF rfl (by first | exact True.intro | omega) ?_ | (refine x_gsplit rfl ?_ ?_ <;> intro h <;> have hq := h <;> (try simp only [hqs] at hq)))
    | (show VR _ _ _ [] _ _ _; first | refine vr_nil ?_)
    | (show thenQ _ _ _ _; first | refine q_then_n ?_)
    | refine vc_seq ?_
    | refine vc_region ?_
    | refine vc_ret ?_
    | fail)
  all_goals refine ret_bool isRet_r rfl ?_
  all_goals simp_all [inI] <;> omega
def formP (p : Pk) : Int :=
  if p.id < 0 ∨ inI p.to (-1) 31 = false ∨ inI p.prio 0 3 = false ∨ inI p.born 0 1099511627776 = false ∨ inI p.life 1 4096 = false then 2 else if 127 < p.data.size then 8 else 0
theorem form_spec (p : Pk) : FnS Tryz.prog 137 [pkA p] [] (AI (formP p)) [] := by
  refine FnS.of_body (enters_of Tryz.func137 (by kernel_rfl) rfl) Tryz.func137 rfl Tryz.ntmps137 Tryz.results137 rfl rfl rfl rfl fun E hS => ?_
  repeat' (first
    | (show VR _ _ _ (_ :: _) _ _ _; first | refine x_opF rfl (by first | exact True.intro | omega) ?_ | (show VR _ _ _ (⟨_, .call ⟨.value _, _, _⟩, _, _, _, _⟩ :: _) _ _ _; first | refine vr_calldU (within_spec _ _ _) (gk rfl) rfl rfl rfl (by first | rfl | (simp only [wfRes, wfL, wfArgs, wfs, mpO_namesB, mpO_namesI]; rfl)) rfl (by first | exact newB_O | rfl) rfl ?_) | (refine x_gsplit rfl ?_ ?_ <;> intro h <;> have hq := h <;> (try simp only [hqs] at hq)))
    | (show VR _ _ _ [] _ _ _; first | refine vr_nil ?_)
    | (show thenQ _ _ _ _; first | refine q_then_n ?_ | refine q_then_r ?_)
    | refine vc_seq ?_
    | refine vc_region ?_
    | (show VC _ (.cond _ _ _) _ _; first | refine vc_cond_t rfl ?_ | (refine x_cond rfl ?_ ?_ <;> intro h <;> have hq := h <;> (try simp only [hqs] at hq)))
    | refine vc_ret ?_ | refine vc_skip ?_
    | fail)
  all_goals refine ret_int isRet_r rfl ?_
  all_goals unfold formP
  all_goals first
    | (simp_all; done)
    | (simp_all; omega)
    | trace_state
theorem packet_spec (p : Pk) : FnS Tryz.prog 99 [pkA p] [] (AI (formP p)) [] := by
  refine FnS.of_body (enters_of Tryz.func99 (by kernel_rfl) rfl) Tryz.func99 rfl Tryz.ntmps99 Tryz.results99 rfl rfl rfl rfl fun E hS => ?_
  repeat' (first
    | (show VR _ _ _ (_ :: _) _ _ _; first | refine x_opF rfl (by first | exact True.intro | omega) ?_ | (refine x_gsplit rfl ?_ ?_ <;> intro h <;> have hq := h <;> (try simp only [hqs] at hq)))
    | (show VR _ _ _ [] _ _ _; first | refine vr_nil ?_)
    | (show thenQ _ _ _ _; first | refine q_then_n ?_ | refine q_then_r ?_)
    | refine vc_seq ?_
    | refine vc_region ?_
    | (show VC _ (.cond _ _ _) _ _; first | refine vc_cond_t rfl ?_ | (refine x_cond rfl ?_ ?_ <;> intro h <;> have hq := h <;> (try simp only [hqs] at hq)))
    | refine vc_ret ?_ | refine vc_skip ?_
    | fail)
  all_goals refine ret_int isRet_r rfl ?_
  all_goals unfold formP inI
  all_goals first
    | (simp_all; done)
    | (simp_all; omega)
    | trace_state
end Go.Proofs.Q
