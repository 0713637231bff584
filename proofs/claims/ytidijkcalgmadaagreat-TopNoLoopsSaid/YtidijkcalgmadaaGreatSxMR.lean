/-
  What functions of the given program hand back, by walks over its code, and plain laws on that. No condition.
-/
import Derived.Test.YtidijkcalgmadaaGreatSxMP
import Derived.Test.YtidijkcalgmadaaGreatSxMB
import Derived.Test.YtidijkcalgmadaaGreatSxLibC
import Derived.Test.YtidijkcalgmadaaGreatSxMFb
import Derived.Test.YtidijkcalgmadaaGreatSxMD
set_option linter.unusedSimpArgs false
set_option linter.unusedVariables false
section
namespace Go.Proofs.R
open Go Go.Sx Go.Proofs.P
set_option maxRecDepth 4000
attribute [local irreducible] VR VC thenQ blockQ retL
theorem ret_agg_ddd {P : Program} {σ : St} {t u v q nm : Nat} {T : TypeId} {ti : TyI} {cs cs' : List C} {x x' y y' z z' : D} {e : Exit} (he : e = .normal \/ e = .ret) [ht : TyOK P T ti] (hx : σ (.s t) = some (.v (.c (.ptr nm 0)))) (hb : σ (.b nm) = some (.k (.box cs'))) (hagg : ti.isAgg = true)
    (hl : (cs'.take ti.size).length = ti.size) (hu : σ (.s u) = some (.v (AD x'))) (hv : σ (.s v) = some (.v (AD y'))) (hq : σ (.s q) = some (.v (AD z'))) (h : cs = cs'.take ti.size) (h2 : x = x') (h3 : y = y') (h4 : z = z') :
    retQ P [.cell t T, .tmp u, .tmp v, .tmp q] (.tup [.agg cs, AD x, AD y, AD z]) [] e σ :=
  ⟨he, [.agg ((cs'.drop 0).take ti.size), AD x', AD y', AD z'], .agg hx hb hagg hl (.tmp rfl hu (.tmp rfl hv (.tmp rfl hq .nil))), by rw [h, h2, h3, h4]; rfl, fun p hp => by cases hp⟩
def startM (i : Int) : Rk × Int := if nodeB i = false then (rkZ, 2) else if i = 0 then (⟨0, 1, -1, 0, 0, 65535⟩, 0) else (⟨i, 0, -1, 65535, 65535, 65535⟩, 0)
theorem start_spec (i : Int) : FnS Tryz.prog 24 [AI i] [] (.tup [rkA (startM i).1, AI (startM i).2]) [] := by
  have hn := rnode_spec i
  unfold startM
  cases hb : nodeB i with
  | false =>
    rw [hb] at hn
    refine FnS.of_body (enters_of Tryz.func24 (by kernel_rfl) rfl) Tryz.func24 rfl Tryz.ntmps24 Tryz.results24 rfl rfl rfl rfl fun E hS => ?_
    repeat' (first | (show VR _ _ _ (_ :: _) _ _ _; first | refine x_opF rfl (by first | exact True.intro | omega) ?_ | (show VR _ _ _ (⟨_, .call ⟨.value _, _, _⟩, _, _, _, _⟩ :: _) _ _ _; first | refine vr_calldU (hn) (gk rfl) rfl rfl rfl (by first | rfl | (simp only [wfRes, wfL, wfArgs, wfs, mpO_namesB, mpO_namesI]; rfl)) rfl (by first | exact newB_nil | exact newB_O | ((simp only [newB, List.map_cons, List.map_nil, Blk.shift, rowOf_shift]) <;> rfl) | rfl) rfl ?_)) | (show VR _ _ _ [] _ _ _; first | refine vr_nil ?_) | (show thenQ _ _ _ _; first | refine q_then_n ?_ | refine q_then_r ?_) | refine vc_seq ?_ | refine vc_region ?_ | (show VC _ (.cond _ _ _) _ _; first | refine vc_cond_t rfl ?_) | refine vc_ret ?_)
    all_goals first | exact ret_agg_d isRet_r rfl rfl rfl rfl rfl rfl rfl
  | true =>
    rw [hb] at hn
    rw [if_neg (by simp)]
    by_cases h0 : i = 0
    · subst h0
      refine FnS.of_body (enters_of Tryz.func24 (by kernel_rfl) rfl) Tryz.func24 rfl Tryz.ntmps24 Tryz.results24 rfl rfl rfl rfl fun E hS => ?_
      repeat' (first | (show VR _ _ _ (_ :: _) _ _ _; first | refine x_opF rfl (by first | exact True.intro | omega) ?_ | (show VR _ _ _ (⟨_, .call ⟨.value _, _, _⟩, _, _, _, _⟩ :: _) _ _ _; first | refine vr_calldU (hn) (gk rfl) rfl rfl rfl (by first | rfl | (simp only [wfRes, wfL, wfArgs, wfs, mpO_namesB, mpO_namesI]; rfl)) rfl (by first | exact newB_nil | exact newB_O | ((simp only [newB, List.map_cons, List.map_nil, Blk.shift, rowOf_shift]) <;> rfl) | rfl) rfl ?_)) | (show VR _ _ _ [] _ _ _; first | refine vr_nil ?_) | (show thenQ _ _ _ _; first | refine q_then_n ?_ | refine q_then_r ?_) | refine vc_seq ?_ | refine vc_region ?_ | (show VC _ (.cond _ _ _) _ _; first | refine vc_cond_t rfl ?_ | refine vc_cond_f rfl ?_) | refine vc_ret ?_ | refine vc_skip ?_)
      exact ret_agg_d isRet_r rfl rfl rfl rfl rfl rfl rfl
    · rw [if_neg h0]
      have d1 : decide (i = 0) = false := decide_eq_false h0
      refine FnS.of_body (enters_of Tryz.func24 (by kernel_rfl) rfl) Tryz.func24 rfl Tryz.ntmps24 Tryz.results24 rfl rfl rfl rfl fun E hS => ?_
      repeat' (first | (show VR _ _ _ (_ :: _) _ _ _; first | refine x_opF rfl (by first | exact True.intro | omega) ?_ | (show VR _ _ _ (⟨_, .call ⟨.value _, _, _⟩, _, _, _, _⟩ :: _) _ _ _; first | refine vr_calldU (hn) (gk rfl) rfl rfl rfl (by first | rfl | (simp only [wfRes, wfL, wfArgs, wfs, mpO_namesB, mpO_namesI]; rfl)) rfl (by first | exact newB_nil | exact newB_O | ((simp only [newB, List.map_cons, List.map_nil, Blk.shift, rowOf_shift]) <;> rfl) | rfl) rfl ?_)) | (show VR _ _ _ [] _ _ _; first | refine vr_nil ?_) | (show thenQ _ _ _ _; first | refine q_then_n ?_) | refine vc_seq ?_ | refine vc_region ?_ | (show VC _ (.cond _ _ _) _ _; first | refine vc_cond_f rfl ?_ | refine x_know rfl (by assumption) ?_) | refine vc_ret ?_ | refine vc_skip ?_)
      exact ret_agg_d isRet_r rfl rfl rfl rfl rfl rfl rfl
def advM (r : Rk) : Rk × Int × Int × Int := if rkErr r ≠ 0 then (rkZ, 0, 0, 1) else if r.rank = 65535 then (rkZ, 0, 0, 12) else ({ r with least := min r.least r.rank }, r.epoch, r.rank, 0)
theorem advM_spec (r : Rk) : FnS Tryz.prog 70 [rkA r] [] (.tup [rkA (advM r).1, AI (advM r).2.1, AI (advM r).2.2.1, AI (advM r).2.2.2]) [] := by
  refine FnS.of_body (enters_of Tryz.func70 (by kernel_rfl) rfl) Tryz.func70 rfl Tryz.ntmps70 Tryz.results70 rfl rfl rfl rfl fun E hS => ?_
  repeat' (first | (show VR _ _ _ (_ :: _) _ _ _; first | refine x_opF rfl (by first | exact True.intro | omega) ?_ | (show VR _ _ _ (⟨_, .call ⟨.value _, _, _⟩, _, _, _, _⟩ :: _) _ _ _; first | refine vr_calldU (rcheck_spec r) (gk rfl) rfl rfl rfl (by first | rfl | (simp only [wfRes, wfL, wfArgs, wfs, mpO_namesB, mpO_namesI]; rfl)) rfl (by first | exact newB_nil | exact newB_O | ((simp only [newB, List.map_cons, List.map_nil, Blk.shift, rowOf_shift]) <;> rfl) | rfl) rfl ?_)) | (show VR _ _ _ [] _ _ _; first | refine vr_nil ?_ | refine vr_nil_t (by kernel_rfl) ?_) | (show thenQ _ _ _ _; first | refine q_then_n ?_ | refine q_then_r ?_) | refine vc_seq ?_ | refine vc_region ?_ | refine vc_region_t ?_ | (show VC _ (.cond _ _ _) _ _; first | (refine x_cond rfl ?_ ?_ <;> intro h <;> have hq := h <;> (try simp only [hqs] at hq))) | refine vc_ret ?_ | refine vc_skip ?_)
  all_goals refine ret_agg_ddd isRet_r rfl rfl rfl rfl rfl rfl rfl ?_ ?_ ?_ ?_
  all_goals unfold advM
  all_goals repeat' split
  all_goals first | rfl | (exfalso; simp_all; done) | (exfalso; omega) | trace_state
theorem restart_spec (r : Rk) : FnS Tryz.prog 74 [rkA r] [] (rkA (lose' r)) [] := by
  refine FnS.of_body (enters_of Tryz.func74 (by kernel_rfl) rfl) Tryz.func74 rfl Tryz.ntmps74 Tryz.results74 rfl rfl rfl rfl fun E hS => ?_
  repeat' (first | (show VR _ _ _ (_ :: _) _ _ _; first | refine x_opF rfl (by first | exact True.intro | omega) ?_ | (show VR _ _ _ (⟨_, .call ⟨.value _, _, _⟩, _, _, _, _⟩ :: _) _ _ _; first | refine vr_calldU (lose_spec r) (gk rfl) rfl rfl rfl (by first | rfl | (simp only [wfRes, wfL, wfArgs, wfs, mpO_namesB, mpO_namesI]; rfl)) rfl (by first | exact newB_nil | exact newB_O | ((simp only [newB, List.map_cons, List.map_nil, Blk.shift, rowOf_shift]) <;> rfl) | rfl) rfl ?_)) | (show VR _ _ _ [] _ _ _; first | refine vr_nil ?_) | (show thenQ _ _ _ _; first | refine q_then_n ?_) | refine vc_seq ?_ | refine vc_region ?_ | refine vc_ret ?_)
  exact ret_agg1 isRet_r rfl rfl rfl rfl rfl
def renM (r : Rk) : Rk × Int := if rkErr r ≠ 0 then (rkZ, 1) else if r.node ≠ 0 then (rkZ, 12) else if r.epoch = 65535 then (rkZ, 21) else (begin' r (r.epoch + 1), 0)
theorem renM_spec (r : Rk) : FnS Tryz.prog 75 [rkA r] [] (.tup [rkA (renM r).1, AI (renM r).2]) [] := by
  by_cases hr : rkErr r = 0
  · have hb := (rk_range hr).2
    refine FnS.of_body (enters_of Tryz.func75 (by kernel_rfl) rfl) Tryz.func75 rfl Tryz.ntmps75 Tryz.results75 rfl rfl rfl rfl fun E hS => ?_
    repeat' (first | (show VR _ _ _ (_ :: _) _ _ _; first | refine x_opF rfl (by first | exact True.intro | omega) ?_ | (show VR _ _ _ (⟨_, .call ⟨.value _, _, _⟩, _, _, _, _⟩ :: _) _ _ _; first | refine vr_calldU (rcheck_spec r) (gk rfl) rfl rfl rfl (by first | rfl | (simp only [wfRes, wfL, wfArgs, wfs, mpO_namesB, mpO_namesI]; rfl)) rfl (by first | exact newB_nil | exact newB_O | ((simp only [newB, List.map_cons, List.map_nil, Blk.shift, rowOf_shift]) <;> rfl) | rfl) rfl ?_ | refine vr_calldU (begin_spec r _) (gk rfl) rfl rfl rfl (by first | rfl | (simp only [wfRes, wfL, wfArgs, wfs, mpO_namesB, mpO_namesI]; rfl)) rfl (by first | exact newB_nil | exact newB_O | ((simp only [newB, List.map_cons, List.map_nil, Blk.shift, rowOf_shift]) <;> rfl) | rfl) rfl ?_)) | (show VR _ _ _ [] _ _ _; first | refine vr_nil ?_) | (show thenQ _ _ _ _; first | refine q_then_n ?_ | refine q_then_r ?_) | (show blockQ _ _ _ _; first | refine q_blk_n ?_ | refine q_blk_r ?_) | refine vc_seq ?_ | refine vc_region ?_ | (show VC _ (.cond _ _ _) _ _; first | (refine x_cond rfl ?_ ?_ <;> intro h <;> have hq := h <;> (try simp only [hqs] at hq))) | refine vc_ret ?_ | refine vc_block ?_ | refine vc_skip ?_)
    all_goals try refine ret_agg_d isRet_r rfl rfl rfl rfl rfl ?_ ?_
    all_goals unfold renM
    all_goals repeat' split
    all_goals first | rfl | (exfalso; simp_all; done) | (exfalso; omega) | trace_state
  · refine FnS.of_body (enters_of Tryz.func75 (by kernel_rfl) rfl) Tryz.func75 rfl Tryz.ntmps75 Tryz.results75 rfl rfl rfl rfl fun E hS => ?_
    repeat' (first | (show VR _ _ _ (_ :: _) _ _ _; first | refine x_opF rfl (by first | exact True.intro | omega) ?_ | (show VR _ _ _ (⟨_, .call ⟨.value _, _, _⟩, _, _, _, _⟩ :: _) _ _ _; first | refine vr_calldU (rcheck_spec r) (gk rfl) rfl rfl rfl (by first | rfl | (simp only [wfRes, wfL, wfArgs, wfs, mpO_namesB, mpO_namesI]; rfl)) rfl (by first | exact newB_nil | exact newB_O | ((simp only [newB, List.map_cons, List.map_nil, Blk.shift, rowOf_shift]) <;> rfl) | rfl) rfl ?_)) | (show VR _ _ _ [] _ _ _; first | refine vr_nil ?_) | (show thenQ _ _ _ _; first | refine q_then_n ?_ | refine q_then_r ?_) | (show blockQ _ _ _ _; first | refine q_blk_n ?_ | refine q_blk_r ?_) | refine vc_seq ?_ | refine vc_region ?_ | (show VC _ (.cond _ _ _) _ _; first | (refine x_cond rfl ?_ ?_ <;> intro h <;> have hq := h <;> (try simp only [hqs] at hq))) | refine vc_ret ?_ | refine vc_block ?_ | refine vc_skip ?_)
    all_goals first
      | (exfalso; simp_all; done)
      | skip
    all_goals refine ret_agg_d isRet_r rfl rfl rfl rfl rfl ?_ ?_
    all_goals unfold renM
    all_goals rw [if_pos hr]
    all_goals rfl
end Go.Proofs.R
end
section
namespace Go.Proofs.R
open Go Go.Sx Go.Proofs.P
set_option maxRecDepth 4000
attribute [local irreducible] VR VC thenQ blockQ retL
structure Ad where
  src : Int
  ep : Int
  rank : Int
  deriving DecidableEq, Inhabited
def Ad.enc (x : Ad) : List D := [.int .i64 x.src, .int .i64 x.ep, .int .i64 x.rank]
def Ad.cs (x : Ad) : List C := [.d (.int .i64 x.src), .d (.int .i64 x.ep), .d (.int .i64 x.rank)]
abbrev adA (x : Ad) : AV := .agg x.cs
abbrev ads (l : List Ad) : D := rdOf Ad.enc 3 l
instance : FlatE Ad.enc := ⟨fun _ => rfl⟩
structure Ev where
  kind : Int
  node : Int
  which : Int
  cost : Int
  deriving DecidableEq, Inhabited
def Ev.enc (x : Ev) : List D := [.int .i64 x.kind, .int .i64 x.node, .int .i64 x.which, .int .i64 x.cost]
def Ev.cs (x : Ev) : List C := [.d (.int .i64 x.kind), .d (.int .i64 x.node), .d (.int .i64 x.which), .d (.int .i64 x.cost)]
abbrev evA (x : Ev) : AV := .agg x.cs
abbrev evs (l : List Ev) : D := rdOf Ev.enc 4 l
instance : FlatE Ev.enc := ⟨fun _ => rfl⟩
structure Wd where
  st : List Rk
  said : List Ad
end Go.Proofs.R
end
section
namespace Go.Proofs.R
open Go Go.Sx Go.Proofs.P
set_option maxRecDepth 4000
attribute [local irreducible] VR VC thenQ blockQ retL
abbrev evX (k i w c : Int) : AV := .agg [.d (.int .i64 k), .d (.int .i64 i), .d (.int .i64 w), .d (.int .i64 c)]
end Go.Proofs.R
end
section
namespace Go.Proofs.R
open Go Go.Sx Go.Proofs.P
set_option maxRecDepth 4000
attribute [local irreducible] VR VC thenQ blockQ retL
abbrev rks (l : List Rk) : D := rdOf Rk.enc 6 l
def startL (n : Nat) : List Rk := (List.range n).map fun i => (startM (i : Nat)).1
theorem startL_succ (n : Nat) : startL (n + 1) = startL n ++ [(startM (n : Nat)).1] := by simp [startL, List.range_succ]
theorem startL_len (n : Nat) : (startL n).length = n := by simp [startL]
end Go.Proofs.R
end
section
namespace Go.Proofs.R
open Go Go.Sx Go.Proofs.P
set_option maxRecDepth 4000
attribute [local irreducible] VR VC thenQ blockQ retL
set_option maxHeartbeats 2000000 in
theorem make_spec (nd ep rk slot : Nat) (p h le : Int) (h0 : nd <= 31) (h1 : slot <= 109951162) (h2 : rk <= 65534) (h3 : ep <= 65535) :
    FnS Tryz.prog 121 [rkA ⟨nd, ep, p, h, rk, le⟩, AI 0, AI 0, AI slot, ofoA true] [] (.tup [frA (bcn nd slot rk ep (offS true)), AI 0]) [] := by
  have hc := checkF_spec (bcn nd slot rk ep (offS true))
  rw [bcn_ok h0 h1 (by omega) h3] at hc
  have d1 : decide ((65535 : Int) <= (rk : Int)) = false := decide_eq_false (by omega)
  refine FnS.of_body (enters_of Tryz.func121 (by kernel_rfl) rfl) Tryz.func121 rfl Tryz.ntmps121 Tryz.results121 rfl rfl rfl rfl fun E hS => ?_
  repeat' (first | (show VR _ _ _ (_ :: _) _ _ _; first | refine x_opF rfl (by first | exact True.intro | omega) ?_ | (show VR _ _ _ (⟨_, .call ⟨.value _, _, _⟩, _, _, _, _⟩ :: _) _ _ _; first | refine vr_calldU (oenc_spec true) (gk rfl) rfl rfl rfl (by first | rfl | (simp only [wfRes, wfL, wfArgs, wfs, mpO_namesB, mpO_namesI]; rfl)) rfl (by first | exact newB_nil | exact newB_O | ((simp only [newB, List.map_cons, List.map_nil, Blk.shift, rowOf_shift]) <;> rfl) | rfl) rfl ?_ | refine vr_calldU (hc) (gk rfl) rfl rfl rfl (by first | rfl | (simp only [wfRes, wfL, wfArgs, wfs, mpO_namesB, mpO_namesI]; rfl)) rfl (by first | exact newB_nil | exact newB_O | ((simp only [newB, List.map_cons, List.map_nil, Blk.shift, rowOf_shift]) <;> rfl) | rfl) rfl ?_)) | (show VR _ _ _ [] _ _ _; first | refine vr_nil ?_) | (show thenQ _ _ _ _; first | refine q_then_n ?_) | refine vc_seq ?_ | refine vc_region ?_ | (show VC _ (.cond _ _ _) _ _; first | refine vc_cond_f rfl ?_ | refine x_know rfl (by assumption) ?_) | refine vc_ret ?_ | refine vc_skip ?_)
  exact ret_agg_d isRet_r rfl rfl rfl rfl rfl rfl rfl
noncomputable def sayS (nd slot rk ep : Nat) : ByteArray := protP (bcnS nd slot rk ep (offS true))
theorem announced_spec (nd ep rk slot : Nat) (p h le : Int) (h0 : nd <= 31) (h1 : slot <= 109951162) (h2 : rk <= 65534) (h3 : ep <= 65535) :
    FnS Tryz.prog 49 [rkA ⟨nd, ep, p, h, rk, le⟩, AI slot] [] (.tup [AD (.str (sayS nd slot rk ep)), AI 0]) [] := by
  have hm := make_spec nd ep rk slot p h le h0 h1 h2 h3
  have he := fenc_spec nd slot rk ep (offS true) h0 h1 (by omega) h3 (by rw [offS_size]; decide)
  refine FnS.of_body (enters_of Tryz.func49 (by kernel_rfl) rfl) Tryz.func49 rfl Tryz.ntmps49 Tryz.results49 rfl rfl rfl rfl fun E hS => ?_
  repeat' (first | (show VR _ _ _ (_ :: _) _ _ _; first | refine x_opF rfl (by first | exact True.intro | omega) ?_ | (show VR _ _ _ (⟨_, .call ⟨.value _, _, _⟩, _, _, _, _⟩ :: _) _ _ _; first | refine vr_calldU (hm) (gk rfl) rfl rfl rfl (by first | rfl | (simp only [wfRes, wfL, wfArgs, wfs, mpO_namesB, mpO_namesI]; rfl)) rfl (by first | exact newB_nil | exact newB_O | ((simp only [newB, List.map_cons, List.map_nil, Blk.shift, rowOf_shift]) <;> rfl) | rfl) rfl ?_ | refine vr_calldU (he) (gk rfl) rfl rfl rfl (by first | rfl | (simp only [wfRes, wfL, wfArgs, wfs, mpO_namesB, mpO_namesI]; rfl)) rfl (by first | exact newB_nil | exact newB_O | ((simp only [newB, List.map_cons, List.map_nil, Blk.shift, rowOf_shift]) <;> rfl) | rfl) rfl ?_)) | (show VR _ _ _ [] _ _ _; first | refine vr_nil ?_) | (show thenQ _ _ _ _; first | refine q_then_n ?_) | refine vc_seq ?_ | refine vc_region ?_ | (show VC _ (.cond _ _ _) _ _; first | refine vc_cond_f rfl ?_) | refine vc_ret ?_ | refine vc_skip ?_)
  exact ret_d2 isRet_r rfl rfl rfl rfl
theorem said_spec (nd ep rk slot : Nat) (h0 : nd <= 31) (h1 : slot <= 109951162) (h2 : rk <= 65534) (h3 : ep <= 65535) :
    FnS Tryz.prog 50 [AD (.str (sayS nd slot rk ep))] [] (.tup [frA (bcn nd slot rk ep (offS true)), AI 0]) [] :=
  fdec_spec nd slot rk ep (offS true) h0 h1 (by omega) h3 (by rw [offS_size]; decide)
end Go.Proofs.R
end
section
namespace Go.Proofs
open Go Go.Sx Go.Proofs.T Go.Proofs.Q
set_option maxRecDepth 4000
attribute [local irreducible] VR VC thenQ blockQ retL
def wenc (s : Sta) (slot : Int) (c : TC) : List D := [.int .i64 s.tb.node, .int .i64 s.tb.len, tcs s.tb.cells, .int .i64 s.qu.limit, pks s.qu.packets, hds s.held, sns s.seen,
  .int .i64 s.list, .int .i64 s.seq, .int .i64 s.trying, .int .i64 s.tries, .int .i64 s.back, .int .i64 s.wait, .int .i64 s.seed, .int .i64 slot,
  .int .i64 c.slot, .int .i64 c.offset, .int .i64 c.kind, .bool c.send, .int .i64 c.peer, .int .i64 c.flow]
abbrev wG (s : Sta) (slot : Int) (c : TC) : Nat -> D := fun j => (wenc s slot c).getD j .nils
abbrev wP (s : Sta) (slot : Int) (c : TC) : AV := AD (.pt 21 (wG s slot c))
abbrev predφHd (p : Hd -> Bool) : List DV -> DV -> Prop := fun ds r => ∃ x : Hd, ds = [.agg x.enc] /\ r = .d (.bool (p x))
abbrev predφTC (p : TC -> Bool) : List DV -> DV -> Prop := fun ds r => ∃ x : TC, ds = [.agg x.enc] /\ r = .d (.bool (p x))
end Go.Proofs
end
section
namespace Go.Proofs
open Go Go.Sx Go.Proofs.T Go.Proofs.Q
set_option maxRecDepth 4000
attribute [local irreducible] VR VC thenQ blockQ retL
abbrev IntE := Int
abbrev IntE.enc (x : Int) : List D := [.int .i64 x]
end Go.Proofs
end
section
namespace Go.Proofs.R
open Go Go.Sx Go.Proofs.P
set_option maxRecDepth 4000
attribute [local irreducible] VR VC thenQ blockQ retL
theorem ex_start : startM 0 = (⟨0, 1, -1, 0, 0, 65535⟩, 0) /\ startM 2 = (⟨2, 0, -1, 65535, 65535, 65535⟩, 0) := by decide +kernel
theorem ex_hear : hearM [] 0 1 0 3 = ([⟨0, 1, 0, 3, 0, 0⟩], 0) := by decide +kernel
theorem ex_sel : select' [⟨0, 1, 0, 3, 0, 0⟩] ⟨2, 0, -1, 65535, 65535, 65535⟩ 9 = (⟨2, 1, 0, 0, 256, 65535⟩, true, 0) := by decide +kernel
theorem ex_rou : D.rouM [⟨2, 0, 1⟩] 2 = ([0, 2], 0) := by decide +kernel
set_option maxHeartbeats 2000000 in
theorem works_spec : FnS Tryz.prog 16 [] [] (AB true) [] := by
  have h1 := start_spec 0
  have h2 := start_spec 2
  rw [ex_start.1] at h1
  rw [ex_start.2] at h2
  have h3 := announced_spec 0 1 0 0 (-1) 0 65535 (by decide) (by decide) (by decide) (by decide)
  have h4 := said_spec 0 1 0 0 (by decide) (by decide) (by decide) (by decide)
  have h5 := hear_spec [] 0 1 0 3
  rw [ex_hear] at h5
  have h6 := select_spec [⟨0, 1, 0, 3, 0, 0⟩] ⟨2, 0, -1, 65535, 65535, 65535⟩ 9
  rw [ex_sel] at h6
  have h7 := D.routeS_spec [⟨2, 0, 1⟩] 2
  rw [ex_rou] at h7
  have h8 := D.equalI_spec [0, 2] [0, 2]
  generalize sayS 0 0 0 1 = S at *
  refine FnS.of_body (enters_of Tryz.func16 (by kernel_rfl) rfl) Tryz.func16 rfl Tryz.ntmps16 Tryz.results16 rfl rfl rfl rfl fun E hS => ?_
  repeat' (first | (show VR _ _ _ (_ :: _) _ _ _; first | refine x_opF rfl (by first | exact True.intro | omega) ?_ | (show VR _ _ _ (⟨_, .call ⟨.value _, _, _⟩, _, _, _, _⟩ :: _) _ _ _; first | refine vr_calldU (h1) (gk rfl) rfl rfl rfl (by first | rfl | (simp only [wfRes, wfL, wfArgs, wfs, mpO_namesB, mpO_namesI]; rfl)) rfl (by first | exact newB_nil | exact newB_O | ((simp only [newB, List.map_cons, List.map_nil, Blk.shift, rowOf_shift]) <;> rfl) | rfl) rfl ?_ | refine vr_calldU (h2) (gk rfl) rfl rfl rfl (by first | rfl | (simp only [wfRes, wfL, wfArgs, wfs, mpO_namesB, mpO_namesI]; rfl)) rfl (by first | exact newB_nil | exact newB_O | ((simp only [newB, List.map_cons, List.map_nil, Blk.shift, rowOf_shift]) <;> rfl) | rfl) rfl ?_ | refine vr_calldU (h3) (gk rfl) rfl rfl rfl (by first | rfl | (simp only [wfRes, wfL, wfArgs, wfs, mpO_namesB, mpO_namesI]; rfl)) rfl (by first | exact newB_nil | exact newB_O | ((simp only [newB, List.map_cons, List.map_nil, Blk.shift, rowOf_shift]) <;> rfl) | rfl) rfl ?_ | refine vr_calldU (h4) (gk rfl) rfl rfl rfl (by first | rfl | (simp only [wfRes, wfL, wfArgs, wfs, mpO_namesB, mpO_namesI]; rfl)) rfl (by first | exact newB_nil | exact newB_O | ((simp only [newB, List.map_cons, List.map_nil, Blk.shift, rowOf_shift]) <;> rfl) | rfl) rfl ?_ | refine vr_calldU (h6) (gk rfl) rfl rfl rfl (by first | rfl | (simp only [wfRes, wfL, wfArgs, wfs, mpO_namesB, mpO_namesI]; rfl)) rfl (by first | exact newB_nil | exact newB_O | ((simp only [newB, List.map_cons, List.map_nil, Blk.shift, rowOf_shift]) <;> rfl) | rfl) rfl ?_ | refine vr_callU [] (h5) (gk rfl) rfl (by (repeat' (first | exact .nil | refine .cons ?_ ?_ | exact .of0 (.c .d) | exact .of0 .ep | exact .clo | exact .of0 (.c .nil) | exact .of0 (.c (cr_rowO (by simp) rfl (by first | rfl | omega) (fun _ => rfl))) | refine .of0 (.agg ?_) | exact .d | exact .nil | exact .of0 (.c (cr_row (by decide) rfl rfl (by repeat' (first | exact trivial | refine ⟨?_, ?_⟩ | rfl)))))) <;> fail) (by first | rfl | exact hfl_O (fun _ => rfl) | exact hfl_O2 rfl (fun _ => rfl)) rfl (by first | rfl | (simp only [wfRes, wfL, wfArgs, wfs, mpO_namesB, mpO_namesI]; rfl)) rfl (by first | exact newB_nil | exact newB_O | ((simp only [newB, List.map_cons, List.map_nil, Blk.shift, rowOf_shift]) <;> rfl) | rfl) rfl ?_ | refine vr_callU [85] (h8) (gk rfl) rfl (by (repeat' (first | exact .nil | refine .cons ?_ ?_ | exact .of0 (.c .d) | exact .of0 .ep | exact .clo | exact .of0 (.c .nil) | exact .of0 (.c (cr_rowO (by simp) rfl (by first | rfl | omega) (fun _ => rfl))) | refine .of0 (.agg ?_) | exact .d | exact .nil | exact .of0 (.c (cr_row (by decide) rfl rfl (by repeat' (first | exact trivial | refine ⟨?_, ?_⟩ | rfl)))))) <;> fail) (by first | rfl | exact hfl_O (fun _ => rfl) | exact hfl_O2 rfl (fun _ => rfl)) rfl (by first | rfl | (simp only [wfRes, wfL, wfArgs, wfs, mpO_namesB, mpO_namesI]; rfl)) rfl (by first | exact newB_nil | exact newB_O | ((simp only [newB, List.map_cons, List.map_nil, Blk.shift, rowOf_shift]) <;> rfl) | rfl) rfl ?_ | refine vr_callZ (nmL []) [52] [] (FnS.toW (h7)) (gk rfl) rfl rfl (by (repeat' (first | exact .nil | refine .cons ?_ ?_ | exact .w (.c (.ptr rfl)) rfl | exact .w (.c (.row rfl rfl)) rfl | exact .w (.c (.mp rfl)) rfl | exact .w (.c (.fn rfl)) rfl | exact .w (.rp rfl) rfl | (refine .w (.fncC ?_) rfl; repeat' (first | exact .nil | refine .cons ?_ ?_ | exact .d | exact .ptr rfl | exact .row rfl rfl | (refine .row rfl ?_; ((try dsimp only); first | rfl | omega | (simp only [lns] <;> omega)); done) | exact .fn rfl | exact .mp rfl | exact .frzOf (by first | (simp; done) | decide) rfl rfl (fun _ => rfl))) | exact .r (.of0 (.c .d)) | refine .r ?_ | exact .of0 (.c .d) | exact .of0 .ep | exact .clo | exact .of0 (.c .nil) | exact .of0 (.c (cr_rowO (by simp) rfl (by first | rfl | omega) (fun _ => rfl))) | refine .of0 (.agg ?_) | exact .d | exact .nil | exact .of0 (.c (cr_row (by decide) rfl rfl (by repeat' (first | exact trivial | refine ⟨?_, ?_⟩ | rfl)))))) <;> fail) trivial rfl rfl rfl hS rfl (by first | rfl | (simp only [wfRes, wfL, wfArgs, wfs, mpO_namesB, mpO_namesI]; rfl)) rfl rfl rfl rfl (by (simp only [newW, List.map_cons, List.map_nil, Blk.ren, C.ren, rowOf_ren, mpO_renB, mpO_renI, gW, memN, nmL, Nat.reduceBEq, Bool.or_false, Bool.or_true, Bool.false_or, Bool.true_or, cond_true, cond_false, Nat.reduceMul, Nat.reduceAdd]) <;> rfl) (by (simp only [AV.ren, AV.ren0, List.map_cons, List.map_nil, C.ren, gW, memN, nmL, Nat.reduceBEq, Bool.or_false, Bool.or_true, Bool.false_or, Bool.true_or, cond_true, cond_false, Nat.reduceMul, Nat.reduceAdd]) <;> rfl) rfl ?_) | (show VR _ _ _ (⟨_, .binOp _ _ _ _ _, _, _, _, _⟩ :: _) _ _ _; first | refine x_ariw rfl rfl rfl rfl rfl ?_)) | (show VR _ _ _ [] _ _ _; first | refine vr_nil ?_) | (show thenQ _ _ _ _; first | refine q_then_n ?_) | refine vc_seq ?_ | refine vc_region ?_ | refine vc_ret ?_)
  refine ret_bool (t := 0) (b' := decide (([0, 2] : List Int) = [0, 2])) isRet_r ?_ ?_
  · rfl
  · rfl
end Go.Proofs.R
end
