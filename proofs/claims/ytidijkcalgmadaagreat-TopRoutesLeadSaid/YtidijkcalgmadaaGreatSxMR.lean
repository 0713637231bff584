/-
  What functions of the given program hand back, by walks over its code, and plain laws on that. No condition.
-/
import Derived.Test.YtidijkcalgmadaaGreatSxMP
import Derived.Test.YtidijkcalgmadaaGreatSxMB
import Derived.Test.YtidijkcalgmadaaGreatSxLibC
import Derived.Test.YtidijkcalgmadaaGreatSxMFb
import Derived.Test.YtidijkcalgmadaaGreatSxMD
set_option linter.unusedSimpArgs false
set_option linter.unusedVariables false
section
namespace Go.Proofs.R
open Go Go.Sx Go.Proofs.P
set_option maxRecDepth 4000
attribute [local irreducible] VR VC thenQ blockQ retL
theorem ret_agg_ddd {P : Program} {σ : St} {t u v q nm : Nat} {T : TypeId} {ti : TyI} {cs cs' : List C} {x x' y y' z z' : D} {e : Exit} (he : e = .normal \/ e = .ret) [ht : TyOK P T ti] (hx : σ (.s t) = some (.v (.c (.ptr nm 0)))) (hb : σ (.b nm) = some (.k (.box cs'))) (hagg : ti.isAgg = true)
    (hl : (cs'.take ti.size).length = ti.size) (hu : σ (.s u) = some (.v (AD x'))) (hv : σ (.s v) = some (.v (AD y'))) (hq : σ (.s q) = some (.v (AD z'))) (h : cs = cs'.take ti.size) (h2 : x = x') (h3 : y = y') (h4 : z = z') :
    retQ P [.cell t T, .tmp u, .tmp v, .tmp q] (.tup [.agg cs, AD x, AD y, AD z]) [] e σ :=
  ⟨he, [.agg ((cs'.drop 0).take ti.size), AD x', AD y', AD z'], .agg hx hb hagg hl (.tmp rfl hu (.tmp rfl hv (.tmp rfl hq .nil))), by rw [h, h2, h3, h4]; rfl, fun p hp => by cases hp⟩
def startM (i : Int) : Rk × Int := if nodeB i = false then (rkZ, 2) else if i = 0 then (⟨0, 1, -1, 0, 0, 65535⟩, 0) else (⟨i, 0, -1, 65535, 65535, 65535⟩, 0)
theorem start_spec (i : Int) : FnS Tryz.prog 24 [AI i] [] (.tup [rkA (startM i).1, AI (startM i).2]) [] := by
  have hn := rnode_spec i
  unfold startM
  cases hb : nodeB i with
  | false =>
    rw [hb] at hn
    refine FnS.of_body (enters_of Tryz.func24 (by kernel_rfl) rfl) Tryz.func24 rfl Tryz.ntmps24 Tryz.results24 rfl rfl rfl rfl fun E hS => ?_
    repeat' (first|(refine gR ?_; first|refine x_opF rfl (by first|exact True.intro|omega) ?_|(refine gC ?_; first|refine vr_calldU (hn) (gk rfl) rfl rfl rfl (by first|rfl|(simp only [wfRes, wfL, wfArgs, wfs, mpO_namesB, mpO_namesI]; rfl)) rfl (by first|exact newB_nil|exact newB_O|((simp only [newB, List.map_cons, List.map_nil, Blk.shift, rowOf_shift]) <;> rfl)|rfl) rfl ?_))|(refine gO ?_; first|refine vr_nil ?_)|(refine gT ?_; first|refine q_then_n ?_|refine q_then_r ?_)|refine vc_seq ?_|refine vc_region ?_|(show VC _ (.cond _ _ _) _ _; first|refine vc_cond_t rfl ?_)|refine vc_ret ?_)
    all_goals first|exact ret_agg_d isRet_r rfl rfl rfl rfl rfl rfl rfl
  | true =>
    rw [hb] at hn
    rw [if_neg (by simp)]
    by_cases h0 : i = 0
    · subst h0
      refine FnS.of_body (enters_of Tryz.func24 (by kernel_rfl) rfl) Tryz.func24 rfl Tryz.ntmps24 Tryz.results24 rfl rfl rfl rfl fun E hS => ?_
      repeat' (first|(refine gR ?_; first|refine x_opF rfl (by first|exact True.intro|omega) ?_|(refine gC ?_; first|refine vr_calldU (hn) (gk rfl) rfl rfl rfl (by first|rfl|(simp only [wfRes, wfL, wfArgs, wfs, mpO_namesB, mpO_namesI]; rfl)) rfl (by first|exact newB_nil|exact newB_O|((simp only [newB, List.map_cons, List.map_nil, Blk.shift, rowOf_shift]) <;> rfl)|rfl) rfl ?_))|(refine gO ?_; first|refine vr_nil ?_)|(refine gT ?_; first|refine q_then_n ?_|refine q_then_r ?_)|refine vc_seq ?_|refine vc_region ?_|(show VC _ (.cond _ _ _) _ _; first|refine vc_cond_t rfl ?_|refine vc_cond_f rfl ?_)|refine vc_ret ?_|refine vc_skip ?_)
      exact ret_agg_d isRet_r rfl rfl rfl rfl rfl rfl rfl
    · rw [if_neg h0]
      have d1 : decide (i = 0) = false := decide_eq_false h0
      refine FnS.of_body (enters_of Tryz.func24 (by kernel_rfl) rfl) Tryz.func24 rfl Tryz.ntmps24 Tryz.results24 rfl rfl rfl rfl fun E hS => ?_
      repeat' (first|(refine gR ?_; first|refine x_opF rfl (by first|exact True.intro|omega) ?_|(refine gC ?_; first|refine vr_calldU (hn) (gk rfl) rfl rfl rfl (by first|rfl|(simp only [wfRes, wfL, wfArgs, wfs, mpO_namesB, mpO_namesI]; rfl)) rfl (by first|exact newB_nil|exact newB_O|((simp only [newB, List.map_cons, List.map_nil, Blk.shift, rowOf_shift]) <;> rfl)|rfl) rfl ?_))|(refine gO ?_; first|refine vr_nil ?_)|(refine gT ?_; first|refine q_then_n ?_)|refine vc_seq ?_|refine vc_region ?_|(show VC _ (.cond _ _ _) _ _; first|refine vc_cond_f rfl ?_|refine x_know rfl (by assumption) ?_)|refine vc_ret ?_|refine vc_skip ?_)
      exact ret_agg_d isRet_r rfl rfl rfl rfl rfl rfl rfl
def advM (r : Rk) : Rk × Int × Int × Int := if rkErr r ≠ 0 then (rkZ, 0, 0, 1) else if r.rank = 65535 then (rkZ, 0, 0, 12) else ({ r with least := min r.least r.rank }, r.epoch, r.rank, 0)
theorem advM_spec (r : Rk) : FnS Tryz.prog 70 [rkA r] [] (.tup [rkA (advM r).1, AI (advM r).2.1, AI (advM r).2.2.1, AI (advM r).2.2.2]) [] := by
  refine FnS.of_body (enters_of Tryz.func70 (by kernel_rfl) rfl) Tryz.func70 rfl Tryz.ntmps70 Tryz.results70 rfl rfl rfl rfl fun E hS => ?_
  repeat' (first|(refine gR ?_; first|refine x_opF rfl (by first|exact True.intro|omega) ?_|(refine gC ?_; first|refine vr_calldU (rcheck_spec r) (gk rfl) rfl rfl rfl (by first|rfl|(simp only [wfRes, wfL, wfArgs, wfs, mpO_namesB, mpO_namesI]; rfl)) rfl (by first|exact newB_nil|exact newB_O|((simp only [newB, List.map_cons, List.map_nil, Blk.shift, rowOf_shift]) <;> rfl)|rfl) rfl ?_))|(refine gO ?_; first|refine vr_nil ?_|refine vr_nil_t (by kernel_rfl) ?_)|(refine gT ?_; first|refine q_then_n ?_|refine q_then_r ?_)|refine vc_seq ?_|refine vc_region ?_|refine vc_region_t ?_|(show VC _ (.cond _ _ _) _ _; first|(refine x_cond rfl ?_ ?_ <;> intro h <;> have hq := h <;> (try simp only [hqs] at hq)))|refine vc_ret ?_|refine vc_skip ?_)
  all_goals refine ret_agg_ddd isRet_r rfl rfl rfl rfl rfl rfl rfl ?_ ?_ ?_ ?_
  all_goals unfold advM
  all_goals repeat' split
  all_goals first|rfl|(exfalso; simp_all; done)|(exfalso; omega)|trace_state
theorem restart_spec (r : Rk) : FnS Tryz.prog 74 [rkA r] [] (rkA (lose' r)) [] := by
  refine FnS.of_body (enters_of Tryz.func74 (by kernel_rfl) rfl) Tryz.func74 rfl Tryz.ntmps74 Tryz.results74 rfl rfl rfl rfl fun E hS => ?_
  repeat' (first|(refine gR ?_; first|refine x_opF rfl (by first|exact True.intro|omega) ?_|(refine gC ?_; first|refine vr_calldU (lose_spec r) (gk rfl) rfl rfl rfl (by first|rfl|(simp only [wfRes, wfL, wfArgs, wfs, mpO_namesB, mpO_namesI]; rfl)) rfl (by first|exact newB_nil|exact newB_O|((simp only [newB, List.map_cons, List.map_nil, Blk.shift, rowOf_shift]) <;> rfl)|rfl) rfl ?_))|(refine gO ?_; first|refine vr_nil ?_)|(refine gT ?_; first|refine q_then_n ?_)|refine vc_seq ?_|refine vc_region ?_|refine vc_ret ?_)
  exact ret_agg1 isRet_r rfl rfl rfl rfl rfl
def renM (r : Rk) : Rk × Int := if rkErr r ≠ 0 then (rkZ, 1) else if r.node ≠ 0 then (rkZ, 12) else if r.epoch = 65535 then (rkZ, 21) else (begin' r (r.epoch + 1), 0)
theorem renM_spec (r : Rk) : FnS Tryz.prog 75 [rkA r] [] (.tup [rkA (renM r).1, AI (renM r).2]) [] := by
  by_cases hr : rkErr r = 0
  · have hb := (rk_range hr).2
    refine FnS.of_body (enters_of Tryz.func75 (by kernel_rfl) rfl) Tryz.func75 rfl Tryz.ntmps75 Tryz.results75 rfl rfl rfl rfl fun E hS => ?_
    repeat' (first|(refine gR ?_; first|refine x_opF rfl (by first|exact True.intro|omega) ?_|(refine gC ?_; first|refine vr_calldU (rcheck_spec r) (gk rfl) rfl rfl rfl (by first|rfl|(simp only [wfRes, wfL, wfArgs, wfs, mpO_namesB, mpO_namesI]; rfl)) rfl (by first|exact newB_nil|exact newB_O|((simp only [newB, List.map_cons, List.map_nil, Blk.shift, rowOf_shift]) <;> rfl)|rfl) rfl ?_|refine vr_calldU (begin_spec r _) (gk rfl) rfl rfl rfl (by first|rfl|(simp only [wfRes, wfL, wfArgs, wfs, mpO_namesB, mpO_namesI]; rfl)) rfl (by first|exact newB_nil|exact newB_O|((simp only [newB, List.map_cons, List.map_nil, Blk.shift, rowOf_shift]) <;> rfl)|rfl) rfl ?_))|(refine gO ?_; first|refine vr_nil ?_)|(refine gT ?_; first|refine q_then_n ?_|refine q_then_r ?_)|(refine gK ?_; first|refine q_blk_n ?_|refine q_blk_r ?_)|refine vc_seq ?_|refine vc_region ?_|(show VC _ (.cond _ _ _) _ _; first|(refine x_cond rfl ?_ ?_ <;> intro h <;> have hq := h <;> (try simp only [hqs] at hq)))|refine vc_ret ?_|refine vc_block ?_|refine vc_skip ?_)
    all_goals try refine ret_agg_d isRet_r rfl rfl rfl rfl rfl ?_ ?_
    all_goals unfold renM
    all_goals repeat' split
    all_goals first|rfl|(exfalso; simp_all; done)|(exfalso; omega)|trace_state
  · refine FnS.of_body (enters_of Tryz.func75 (by kernel_rfl) rfl) Tryz.func75 rfl Tryz.ntmps75 Tryz.results75 rfl rfl rfl rfl fun E hS => ?_
    repeat' (first|(refine gR ?_; first|refine x_opF rfl (by first|exact True.intro|omega) ?_|(refine gC ?_; first|refine vr_calldU (rcheck_spec r) (gk rfl) rfl rfl rfl (by first|rfl|(simp only [wfRes, wfL, wfArgs, wfs, mpO_namesB, mpO_namesI]; rfl)) rfl (by first|exact newB_nil|exact newB_O|((simp only [newB, List.map_cons, List.map_nil, Blk.shift, rowOf_shift]) <;> rfl)|rfl) rfl ?_))|(refine gO ?_; first|refine vr_nil ?_)|(refine gT ?_; first|refine q_then_n ?_|refine q_then_r ?_)|(refine gK ?_; first|refine q_blk_n ?_|refine q_blk_r ?_)|refine vc_seq ?_|refine vc_region ?_|(show VC _ (.cond _ _ _) _ _; first|(refine x_cond rfl ?_ ?_ <;> intro h <;> have hq := h <;> (try simp only [hqs] at hq)))|refine vc_ret ?_|refine vc_block ?_|refine vc_skip ?_)
    all_goals first
      | (exfalso; simp_all; done)
      | skip
    all_goals refine ret_agg_d isRet_r rfl rfl rfl rfl rfl ?_ ?_
    all_goals unfold renM
    all_goals rw [if_pos hr]
    all_goals rfl
end Go.Proofs.R
end
section
namespace Go.Proofs.R
open Go Go.Sx Go.Proofs.P
set_option maxRecDepth 4000
attribute [local irreducible] VR VC thenQ blockQ retL
structure Ad where
  src : Int
  ep : Int
  rank : Int
  deriving DecidableEq, Inhabited
def Ad.enc (x : Ad) : List D := [.int .i64 x.src, .int .i64 x.ep, .int .i64 x.rank]
def Ad.cs (x : Ad) : List C := [.d (.int .i64 x.src), .d (.int .i64 x.ep), .d (.int .i64 x.rank)]
abbrev adA (x : Ad) : AV := .agg x.cs
abbrev ads (l : List Ad) : D := rdOf Ad.enc 3 l
instance : FlatE Ad.enc := ⟨fun _ => rfl⟩
structure Ev where
  kind : Int
  node : Int
  which : Int
  cost : Int
  deriving DecidableEq, Inhabited
def Ev.enc (x : Ev) : List D := [.int .i64 x.kind, .int .i64 x.node, .int .i64 x.which, .int .i64 x.cost]
def Ev.cs (x : Ev) : List C := [.d (.int .i64 x.kind), .d (.int .i64 x.node), .d (.int .i64 x.which), .d (.int .i64 x.cost)]
abbrev evA (x : Ev) : AV := .agg x.cs
abbrev evs (l : List Ev) : D := rdOf Ev.enc 4 l
instance : FlatE Ev.enc := ⟨fun _ => rfl⟩
structure Wd where
  st : List Rk
  said : List Ad
theorem wlose_spec (st : List Rk) (said : List Ad) (i : Nat) (k w c : Int) (hi : i < st.length) (hl : st.length <= 32) (hs : said.length <= 4096) : FnW Tryz.prog 56 [.c (.ptr 100 0), evA ⟨k, i, w, c⟩] [(100, .box [.row 101 st.length, .row 102 said.length]), (101, .row 68 6 (rowOf Rk.enc st)), (102, .row 241 3 (rowOf Ad.enc said))] [100] (.tup []) [(100, .box [.row 101 (st.set i (lose' (st.getD i default))).length, .row 102 said.length]), (101, .row 68 6 (rowOf Rk.enc (st.set i (lose' (st.getD i default))))), (102, .row 241 3 (rowOf Ad.enc said))] := by
  intro r
  simp only [pinsL, List.map_cons, List.map_nil, List.cons_append, List.nil_append, Nat.reduceAdd]
  refine FnS.of_bodyM (enters_of Tryz.func56 (by kernel_rfl) rfl) Tryz.func56 rfl Tryz.ntmps56 Tryz.results56 rfl (by first|rfl|(simp only [wfRes, wfL, wfArgs, wfs, mpO_namesB, mpO_namesI]; rfl)) rfl fun E => ?_
  refine vc_retL ?_
  repeat' (first|(refine gR ?_; first|refine x_opF rfl (by first|exact True.intro|omega) ?_|(refine gC ?_; first|refine vr_calldU (lose_spec (st.getD i default)) (gk rfl) rfl rfl rfl (by first|rfl|(simp only [wfRes, wfL, wfArgs, wfs, mpO_namesB, mpO_namesI]; rfl)) rfl (by first|exact newB_nil|exact newB_O|((simp only [newB, List.map_cons, List.map_nil, Blk.shift, rowOf_shift]) <;> rfl)|rfl) rfl ?_)|(refine gI ?_; first|refine vr_index_rowO (gk rfl) rfl rfl rfl rfl rfl rfl (by omega) (by omega) rfl ?_)|(refine gN ?_; first|refine vr_nilCheck_ptr (gk rfl) rfl rfl ?_)|(refine gL ?_; first|refine vr_load_rowO_agg (gk rfl) rfl rfl (by omega) rfl rfl rfl ?_)|(refine gS ?_; first|refine vr_store_rowO (gk rfl) rfl rfl rfl (by omega) rfl rfl rfl ?_))|(refine gO ?_; first|refine vr_nil ?_|refine vr_nil_t (by kernel_rfl) ?_)|(refine gT ?_; first|refine q_then_n ?_)|refine vc_seq ?_|refine vc_region ?_|refine vc_region_t ?_)
  refine retL_of (le_gen0 (l := []) (b := [(9100, .pin 100 (r 100)), (100, .box [.row 101 (st.set i (lose' (st.getD i default))).length, .row 102 said.length]), (101, .row 68 6 (rowOf Rk.enc (st.set i (lose' (st.getD i default))))), (102, .row 241 3 (rowOf Ad.enc said))]) (fun n => n) ?_ ?_ rfl (by first|rfl|(simp only [wfL, wfs, mpO_namesB, mpO_namesI]; rfl))) (retW isRet_n .nil rfl (by repeat' (first|exact trivial|refine ⟨rfl, ?_⟩)))
  all_goals repeat' (first|exact trivial|refine ⟨⟨_, rfl, ?_⟩, ?_⟩|exact .pin rfl|exact .rowD rfl rowOf_isD|exact .rowD (rowOf_set rfl) rowOf_isD|refine .box ?_|exact .nil|refine .cons ?_ ?_|exact .row rfl rfl|(refine .row rfl ?_; ((try dsimp only); first|rfl|omega|(simp only [lns] <;> omega)); done)|fail)
theorem wrestart_spec (st : List Rk) (said : List Ad) (i : Nat) (k w c : Int) (hi : i < st.length) (hl : st.length <= 32) (hs : said.length <= 4096) : FnW Tryz.prog 57 [.c (.ptr 100 0), evA ⟨k, i, w, c⟩] [(100, .box [.row 101 st.length, .row 102 said.length]), (101, .row 68 6 (rowOf Rk.enc st)), (102, .row 241 3 (rowOf Ad.enc said))] [100] (.tup []) [(100, .box [.row 101 (st.set i (lose' (st.getD i default))).length, .row 102 said.length]), (101, .row 68 6 (rowOf Rk.enc (st.set i (lose' (st.getD i default))))), (102, .row 241 3 (rowOf Ad.enc said))] := by
  intro r
  simp only [pinsL, List.map_cons, List.map_nil, List.cons_append, List.nil_append, Nat.reduceAdd]
  refine FnS.of_bodyM (enters_of Tryz.func57 (by kernel_rfl) rfl) Tryz.func57 rfl Tryz.ntmps57 Tryz.results57 rfl (by first|rfl|(simp only [wfRes, wfL, wfArgs, wfs, mpO_namesB, mpO_namesI]; rfl)) rfl fun E => ?_
  refine vc_retL ?_
  repeat' (first|(refine gR ?_; first|refine x_opF rfl (by first|exact True.intro|omega) ?_|(refine gC ?_; first|refine vr_calldU (restart_spec (st.getD i default)) (gk rfl) rfl rfl rfl (by first|rfl|(simp only [wfRes, wfL, wfArgs, wfs, mpO_namesB, mpO_namesI]; rfl)) rfl (by first|exact newB_nil|exact newB_O|((simp only [newB, List.map_cons, List.map_nil, Blk.shift, rowOf_shift]) <;> rfl)|rfl) rfl ?_)|(refine gI ?_; first|refine vr_index_rowO (gk rfl) rfl rfl rfl rfl rfl rfl (by omega) (by omega) rfl ?_)|(refine gN ?_; first|refine vr_nilCheck_ptr (gk rfl) rfl rfl ?_)|(refine gL ?_; first|refine vr_load_rowO_agg (gk rfl) rfl rfl (by omega) rfl rfl rfl ?_)|(refine gS ?_; first|refine vr_store_rowO (gk rfl) rfl rfl rfl (by omega) rfl rfl rfl ?_))|(refine gO ?_; first|refine vr_nil ?_|refine vr_nil_t (by kernel_rfl) ?_)|(refine gT ?_; first|refine q_then_n ?_)|refine vc_seq ?_|refine vc_region ?_|refine vc_region_t ?_)
  refine retL_of (le_gen0 (l := []) (b := [(9100, .pin 100 (r 100)), (100, .box [.row 101 (st.set i (lose' (st.getD i default))).length, .row 102 said.length]), (101, .row 68 6 (rowOf Rk.enc (st.set i (lose' (st.getD i default))))), (102, .row 241 3 (rowOf Ad.enc said))]) (fun n => n) ?_ ?_ rfl (by first|rfl|(simp only [wfL, wfs, mpO_namesB, mpO_namesI]; rfl))) (retW isRet_n .nil rfl (by repeat' (first|exact trivial|refine ⟨rfl, ?_⟩)))
  all_goals repeat' (first|exact trivial|refine ⟨⟨_, rfl, ?_⟩, ?_⟩|exact .pin rfl|exact .rowD rfl rowOf_isD|exact .rowD (rowOf_set rfl) rowOf_isD|refine .box ?_|exact .nil|refine .cons ?_ ?_|exact .row rfl rfl|(refine .row rfl ?_; ((try dsimp only); first|rfl|omega|(simp only [lns] <;> omega)); done)|fail)
def renS (st : List Rk) (i : Nat) : List Rk := if (renM (st.getD i default)).2 = 0 then st.set i (renM (st.getD i default)).1 else st
theorem wrenew_spec (st : List Rk) (said : List Ad) (i : Nat) (k w c : Int) (hi : i < st.length) (hl : st.length <= 32) (hs : said.length <= 4096) : FnW Tryz.prog 58 [.c (.ptr 100 0), evA ⟨k, i, w, c⟩] [(100, .box [.row 101 st.length, .row 102 said.length]), (101, .row 68 6 (rowOf Rk.enc st)), (102, .row 241 3 (rowOf Ad.enc said))] [100] (.tup []) [(100, .box [.row 101 (renS st i).length, .row 102 said.length]), (101, .row 68 6 (rowOf Rk.enc (renS st i))), (102, .row 241 3 (rowOf Ad.enc said))] := by
  have hm := renM_spec (st.getD i default)
  by_cases h : (renM (st.getD i default)).2 = 0
  · rw [h] at hm
    have e : renS st i = st.set i (renM (st.getD i default)).1 := if_pos h
    intro r
    simp only [pinsL, List.map_cons, List.map_nil, List.cons_append, List.nil_append, Nat.reduceAdd]
    rw [e]
    refine FnS.of_bodyM (enters_of Tryz.func58 (by kernel_rfl) rfl) Tryz.func58 rfl Tryz.ntmps58 Tryz.results58 rfl (by first|rfl|(simp only [wfRes, wfL, wfArgs, wfs, mpO_namesB, mpO_namesI]; rfl)) rfl fun E => ?_
    refine vc_retL ?_
    repeat' (first|(refine gR ?_; first|refine x_opF rfl (by first|exact True.intro|omega) ?_|(refine gC ?_; first|refine vr_calldU (hm) (gk rfl) rfl rfl rfl (by first|rfl|(simp only [wfRes, wfL, wfArgs, wfs, mpO_namesB, mpO_namesI]; rfl)) rfl (by first|exact newB_nil|exact newB_O|((simp only [newB, List.map_cons, List.map_nil, Blk.shift, rowOf_shift]) <;> rfl)|rfl) rfl ?_)|(refine gI ?_; first|refine vr_index_rowO (gk rfl) rfl rfl rfl rfl rfl rfl (by omega) (by omega) rfl ?_)|(refine gN ?_; first|refine vr_nilCheck_ptr (gk rfl) rfl rfl ?_)|(refine gL ?_; first|refine vr_load_rowO_agg (gk rfl) rfl rfl (by omega) rfl rfl rfl ?_)|(refine gS ?_; first|refine vr_store_rowO (gk rfl) rfl rfl rfl (by omega) rfl rfl rfl ?_))|(refine gO ?_; first|refine vr_nil ?_|refine vr_nil_t (by kernel_rfl) ?_)|(refine gT ?_; first|refine q_then_n ?_)|refine vc_seq ?_|refine vc_region ?_|refine vc_region_t ?_|(show VC _ (.cond _ _ _) _ _; first|refine vc_cond_t rfl ?_))
    refine retL_of (le_gen0 (l := []) (b := [(9100, .pin 100 (r 100)), (100, .box [.row 101 (st.set i (renM (st.getD i default)).1).length, .row 102 said.length]), (101, .row 68 6 (rowOf Rk.enc (st.set i (renM (st.getD i default)).1))), (102, .row 241 3 (rowOf Ad.enc said))]) (fun n => n) ?_ ?_ rfl (by first|rfl|(simp only [wfL, wfs, mpO_namesB, mpO_namesI]; rfl))) (retW isRet_n .nil rfl (by repeat' (first|exact trivial|refine ⟨rfl, ?_⟩)))
    all_goals repeat' (first|exact trivial|refine ⟨⟨_, rfl, ?_⟩, ?_⟩|exact .pin rfl|exact .rowD rfl rowOf_isD|exact .rowD (rowOf_set rfl) rowOf_isD|refine .box ?_|exact .nil|refine .cons ?_ ?_|exact .row rfl rfl|(refine .row rfl ?_; ((try dsimp only); first|rfl|omega|(simp only [lns] <;> omega)); done)|fail)
  · have e : renS st i = st := if_neg h
    have d1 : decide ((renM (st.getD i default)).2 = 0) = false := decide_eq_false h
    intro r
    simp only [pinsL, List.map_cons, List.map_nil, List.cons_append, List.nil_append, Nat.reduceAdd]
    rw [e]
    refine FnS.of_bodyM (enters_of Tryz.func58 (by kernel_rfl) rfl) Tryz.func58 rfl Tryz.ntmps58 Tryz.results58 rfl (by first|rfl|(simp only [wfRes, wfL, wfArgs, wfs, mpO_namesB, mpO_namesI]; rfl)) rfl fun E => ?_
    refine vc_retL ?_
    repeat' (first|(refine gR ?_; first|refine x_opF rfl (by first|exact True.intro|omega) ?_|(refine gC ?_; first|refine vr_calldU (hm) (gk rfl) rfl rfl rfl (by first|rfl|(simp only [wfRes, wfL, wfArgs, wfs, mpO_namesB, mpO_namesI]; rfl)) rfl (by first|exact newB_nil|exact newB_O|((simp only [newB, List.map_cons, List.map_nil, Blk.shift, rowOf_shift]) <;> rfl)|rfl) rfl ?_)|(refine gI ?_; first|refine vr_index_rowO (gk rfl) rfl rfl rfl rfl rfl rfl (by omega) (by omega) rfl ?_)|(refine gN ?_; first|refine vr_nilCheck_ptr (gk rfl) rfl rfl ?_)|(refine gL ?_; first|refine vr_load_rowO_agg (gk rfl) rfl rfl (by omega) rfl rfl rfl ?_))|(refine gO ?_; first|refine vr_nil ?_|refine vr_nil_t (by kernel_rfl) ?_)|(refine gT ?_; first|refine q_then_n ?_)|refine vc_seq ?_|refine vc_region ?_|refine vc_region_t ?_|(show VC _ (.cond _ _ _) _ _; first|refine vc_cond_f rfl ?_|refine x_know rfl (by assumption) ?_)|refine vc_skip ?_)
    refine retL_of (le_gen0 (l := []) (b := [(9100, .pin 100 (r 100)), (100, .box [.row 101 st.length, .row 102 said.length]), (101, .row 68 6 (rowOf Rk.enc st)), (102, .row 241 3 (rowOf Ad.enc said))]) (fun n => n) ?_ ?_ rfl (by first|rfl|(simp only [wfL, wfs, mpO_namesB, mpO_namesI]; rfl))) (retW isRet_n .nil rfl (by repeat' (first|exact trivial|refine ⟨rfl, ?_⟩)))
    all_goals repeat' (first|exact trivial|refine ⟨⟨_, rfl, ?_⟩, ?_⟩|exact .pin rfl|exact .rowD rfl rowOf_isD|refine .box ?_|exact .nil|refine .cons ?_ ?_|exact .row rfl rfl|fail)
def advS (st : List Rk) (i : Nat) : List Rk := if (advM (st.getD i default)).2.2.2 = 0 then st.set i (advM (st.getD i default)).1 else st
def advA (st : List Rk) (said : List Ad) (i : Nat) : List Ad := if (advM (st.getD i default)).2.2.2 = 0 then said ++ [⟨i, (advM (st.getD i default)).2.1, (advM (st.getD i default)).2.2.1⟩] else said
theorem wadv_spec (st : List Rk) (said : List Ad) (i : Nat) (k w c : Int) (hi : i < st.length) (hl : st.length <= 32) (hs : said.length <= 4096) : FnW Tryz.prog 54 [.c (.ptr 100 0), evA ⟨k, i, w, c⟩] [(100, .box [.row 101 st.length, .row 102 said.length]), (101, .row 68 6 (rowOf Rk.enc st)), (102, .row 241 3 (rowOf Ad.enc said))] [100] (.tup []) [(100, .box [.row 101 (advS st i).length, .row 103 (advA st said i).length]), (101, .row 68 6 (rowOf Rk.enc (advS st i))), (103, .row 241 3 (rowOf Ad.enc (advA st said i)))] := by
  have hm := advM_spec (st.getD i default)
  by_cases h : (advM (st.getD i default)).2.2.2 = 0
  · rw [h] at hm
    have e : advS st i = st.set i (advM (st.getD i default)).1 := if_pos h
    have e2 : advA st said i = said ++ [⟨i, (advM (st.getD i default)).2.1, (advM (st.getD i default)).2.2.1⟩] := if_pos h
    intro r
    simp only [pinsL, List.map_cons, List.map_nil, List.cons_append, List.nil_append, Nat.reduceAdd]
    rw [e, e2]
    refine FnS.of_bodyM (enters_of Tryz.func54 (by kernel_rfl) rfl) Tryz.func54 rfl Tryz.ntmps54 Tryz.results54 rfl (by first|rfl|(simp only [wfRes, wfL, wfArgs, wfs, mpO_namesB, mpO_namesI]; rfl)) rfl fun E => ?_
    refine vc_retL ?_
    repeat' (first|(refine gR ?_; first|refine x_opF rfl (by first|exact True.intro|omega) ?_|(refine gC ?_; first|refine vr_calldU (hm) (gk rfl) rfl rfl rfl (by first|rfl|(simp only [wfRes, wfL, wfArgs, wfs, mpO_namesB, mpO_namesI]; rfl)) rfl (by first|exact newB_nil|exact newB_O|((simp only [newB, List.map_cons, List.map_nil, Blk.shift, rowOf_shift]) <;> rfl)|rfl) rfl ?_)|(refine gI ?_; first|refine vr_index_rowO (gk rfl) rfl rfl rfl rfl rfl rfl (by omega) (by omega) rfl ?_)|(refine gA ?_; first|refine vr_append0 (gk rfl) rfl rfl rfl (by first|rfl|exact rowOf_length.symm|(simp only [lns] <;> omega)) (by first|exact .row rfl (by first|rfl|exact rowOf_length.symm)|exact .rd|exact .nils) rfl rfl rfl (by (try dsimp only); omega) rfl rfl ?_)|(refine gN ?_; first|refine vr_nilCheck_ptr (gk rfl) rfl rfl ?_)|(refine gL ?_; first|refine vr_load_rowO_agg (gk rfl) rfl rfl (by omega) rfl rfl rfl ?_)|(refine gS ?_; first|refine vr_store_rowO (gk rfl) rfl rfl rfl (by omega) rfl rfl rfl ?_))|(refine gO ?_; first|refine vr_nil ?_|refine vr_nil_t (by kernel_rfl) ?_)|(refine gT ?_; first|refine q_then_n ?_)|refine vc_seq ?_|refine vc_region ?_|refine vc_region_t ?_|(show VC _ (.cond _ _ _) _ _; first|refine vc_cond_t rfl ?_))
    refine retL_of (le_gen0 (l := []) (b := [(9100, .pin 100 (r 100)), (100, .box [.row 101 (st.set i (advM (st.getD i default)).1).length, .row 103 (said ++ [(⟨i, (advM (st.getD i default)).2.1, (advM (st.getD i default)).2.2.1⟩ : Ad)]).length]), (101, .row 68 6 (rowOf Rk.enc (st.set i (advM (st.getD i default)).1))), (103, .row 241 3 (rowOf Ad.enc (said ++ [(⟨i, (advM (st.getD i default)).2.1, (advM (st.getD i default)).2.2.1⟩ : Ad)])))]) (fun n => if n = 103 then 43 else n) ?_ ?_ rfl (by first|rfl|(simp only [wfL, wfs, mpO_namesB, mpO_namesI]; rfl))) (retW isRet_n .nil rfl (by repeat' (first|exact trivial|refine ⟨rfl, ?_⟩)))
    all_goals repeat' (first|exact trivial|refine ⟨⟨_, rfl, ?_⟩, ?_⟩|exact .pin rfl|exact .rowD (rowOf_set rfl) rowOf_isD|(refine .rowD ?_ rowOf_isD; rw [rowOf_append]; rfl)|refine .box ?_|exact .nil|refine .cons ?_ ?_|(refine .row rfl ?_; ((try dsimp only); first|rfl|omega|(simp only [lns] <;> omega)); done)|fail)
  · have e : advS st i = st := if_neg h
    have e2 : advA st said i = said := if_neg h
    have d1 : decide ((advM (st.getD i default)).2.2.2 = 0) = false := decide_eq_false h
    intro r
    simp only [pinsL, List.map_cons, List.map_nil, List.cons_append, List.nil_append, Nat.reduceAdd]
    rw [e, e2]
    refine FnS.of_bodyM (enters_of Tryz.func54 (by kernel_rfl) rfl) Tryz.func54 rfl Tryz.ntmps54 Tryz.results54 rfl (by first|rfl|(simp only [wfRes, wfL, wfArgs, wfs, mpO_namesB, mpO_namesI]; rfl)) rfl fun E => ?_
    refine vc_retL ?_
    repeat' (first|(refine gR ?_; first|refine x_opF rfl (by first|exact True.intro|omega) ?_|(refine gC ?_; first|refine vr_calldU (hm) (gk rfl) rfl rfl rfl (by first|rfl|(simp only [wfRes, wfL, wfArgs, wfs, mpO_namesB, mpO_namesI]; rfl)) rfl (by first|exact newB_nil|exact newB_O|((simp only [newB, List.map_cons, List.map_nil, Blk.shift, rowOf_shift]) <;> rfl)|rfl) rfl ?_)|(refine gI ?_; first|refine vr_index_rowO (gk rfl) rfl rfl rfl rfl rfl rfl (by omega) (by omega) rfl ?_)|(refine gN ?_; first|refine vr_nilCheck_ptr (gk rfl) rfl rfl ?_)|(refine gL ?_; first|refine vr_load_rowO_agg (gk rfl) rfl rfl (by omega) rfl rfl rfl ?_))|(refine gO ?_; first|refine vr_nil ?_|refine vr_nil_t (by kernel_rfl) ?_)|(refine gT ?_; first|refine q_then_n ?_)|refine vc_seq ?_|refine vc_region ?_|refine vc_region_t ?_|(show VC _ (.cond _ _ _) _ _; first|refine vc_cond_f rfl ?_|refine x_know rfl (by assumption) ?_)|refine vc_skip ?_)
    refine retL_of (le_gen0 (l := []) (b := [(9100, .pin 100 (r 100)), (100, .box [.row 101 st.length, .row 103 said.length]), (101, .row 68 6 (rowOf Rk.enc st)), (103, .row 241 3 (rowOf Ad.enc said))]) (fun n => if n = 103 then 102 else n) ?_ ?_ rfl (by first|rfl|(simp only [wfL, wfs, mpO_namesB, mpO_namesI]; rfl))) (retW isRet_n .nil rfl (by repeat' (first|exact trivial|refine ⟨rfl, ?_⟩)))
    all_goals repeat' (first|exact trivial|refine ⟨⟨_, rfl, ?_⟩, ?_⟩|exact .pin rfl|exact .rowD rfl rowOf_isD|refine .box ?_|exact .nil|refine .cons ?_ ?_|exact .row rfl rfl|fail)
end Go.Proofs.R
end
section
namespace Go.Proofs.R
open Go Go.Sx Go.Proofs.P
set_option maxRecDepth 4000
attribute [local irreducible] VR VC thenQ blockQ retL
def saidAt (said : List Ad) (w : Int) : Ad := said.getD (w % (said.length : Int)).toNat default
def hearS (st : List Rk) (said : List Ad) (i : Nat) (w c : Int) : List Rk :=
  if said = [] then st
  else if (saidAt said w).src = i then st
  else if (saidAt said w).src = (st.getD i default).parent then st.set i (update' (st.getD i default) (saidAt said w).ep (saidAt said w).rank c).1
  else if (adopt' (st.getD i default) (saidAt said w).src (saidAt said w).ep (saidAt said w).rank c).2 = 0 /\ ((st.getD i default).parent = -1 \/ (st.getD i default).epoch < (saidAt said w).ep \/ (saidAt said w).rank + c < (st.getD i default).rank)
    then st.set i (adopt' (st.getD i default) (saidAt said w).src (saidAt said w).ep (saidAt said w).rank c).1 else st
abbrev evX (k i w c : Int) : AV := .agg [.d (.int .i64 k), .d (.int .i64 i), .d (.int .i64 w), .d (.int .i64 c)]
theorem adopt_rng {r : Rk} {fr e k c : Int} (h : (adopt' r fr e k c).2 = 0) : (0 <= k /\ k <= 65534) /\ 1 <= c /\ c <= 1023 := by
  unfold adopt' at h
  split at h
  · cases h
  split at h
  · cases h
  rename_i h2
  simp only [Bool.not_eq_false, Bool.and_eq_true] at h2
  exact ⟨(bounds_adv h2.1.2).2, bounds_inR h2.2⟩
set_option maxHeartbeats 4000000 in
theorem whear_spec (st : List Rk) (said : List Ad) (i : Nat) (k w c : Int) (hw : 0 <= w) (hi : i < st.length) (hl : st.length <= 32) (hs : said.length <= 4096) : FnW Tryz.prog 55 [.c (.ptr 100 0), evX k i w c] [(100, .box [.row 101 st.length, .row 102 said.length]), (101, .row 68 6 (rowOf Rk.enc st)), (102, .row 241 3 (rowOf Ad.enc said))] [100] (.tup []) [(100, .box [.row 101 (hearS st said i w c).length, .row 102 said.length]), (101, .row 68 6 (rowOf Rk.enc (hearS st said i w c))), (102, .row 241 3 (rowOf Ad.enc said))] := by
  have hu := update_spec (st.getD i default) (saidAt said w).ep (saidAt said w).rank c
  have ha := adopt_spec (st.getD i default) (saidAt said w).src (saidAt said w).ep (saidAt said w).rank c
  by_cases h0 : said = []
  · have e : hearS st said i w c = st := if_pos h0
    subst h0
    intro r
    simp only [pinsL, List.map_cons, List.map_nil, List.cons_append, List.nil_append, Nat.reduceAdd]
    rw [e]
    have d1 : decide ((([] : List Ad).length : Int) = 0) = true := rfl
    refine FnS.of_bodyM (enters_of Tryz.func55 (by kernel_rfl) rfl) Tryz.func55 rfl Tryz.ntmps55 Tryz.results55 rfl (by first|rfl|(simp only [wfRes, wfL, wfArgs, wfs, mpO_namesB, mpO_namesI]; rfl)) rfl fun E => ?_
    refine vc_retL ?_
    repeat' (first|(refine gR ?_; first|refine x_opF rfl (by first|exact True.intro|omega) ?_|(refine gE ?_; first|refine vr_len_row (gk rfl) rfl rfl (by first|rfl|exact rowOf_length.symm|(simp only [lns] <;> omega)) rfl rfl ?_)|(refine gN ?_; first|refine vr_nilCheck_ptr (gk rfl) rfl rfl ?_))|(refine gO ?_; first|refine vr_nil ?_)|(refine gT ?_; first|refine q_then_n ?_|refine q_then_r ?_)|refine vc_seq ?_|refine vc_region ?_|(show VC _ (.cond _ _ _) _ _; first|refine vc_cond_t rfl ?_)|refine vc_ret ?_)
    refine retL_of (le_gen0 (l := []) (b := [(9100, .pin 100 (r 100)), (100, .box [.row 101 st.length, .row 102 ([] : List Ad).length]), (101, .row 68 6 (rowOf Rk.enc st)), (102, .row 241 3 (rowOf Ad.enc []))]) (fun n => n) ?_ ?_ rfl (by first|rfl|(simp only [wfL, wfs, mpO_namesB, mpO_namesI]; rfl))) (retW isRet_r .nil rfl (by repeat' (first|exact trivial|refine ⟨rfl, ?_⟩)))
    all_goals repeat' (first|exact trivial|refine ⟨⟨_, rfl, ?_⟩, ?_⟩|exact .pin rfl|exact .rowD rfl rowOf_isD|refine .box ?_|exact .nil|refine .cons ?_ ?_|exact .row rfl rfl|fail)
  have hp : 0 < said.length := by
    rcases said with _ | ⟨a, l⟩
    · exact absurd rfl h0
    · exact Nat.succ_pos _
  have hj0 : 0 <= w % (said.length : Int) := Int.emod_nonneg _ (by omega)
  have hj1 : w % (said.length : Int) < (said.length : Int) := Int.emod_lt_of_pos _ (by omega)
  have d0 : decide ((said.length : Int) = 0) = false := decide_eq_false (by omega)
  by_cases h1 : (saidAt said w).src = i
  · have e : hearS st said i w c = st := by rw [hearS, if_neg h0, if_pos h1]
    have d1 : decide ((saidAt said w).src = (i : Int)) = true := decide_eq_true h1
    unfold saidAt at *
    intro r
    simp only [pinsL, List.map_cons, List.map_nil, List.cons_append, List.nil_append, Nat.reduceAdd]
    rw [e]
    refine FnS.of_bodyM (enters_of Tryz.func55 (by kernel_rfl) rfl) Tryz.func55 rfl Tryz.ntmps55 Tryz.results55 rfl (by first|rfl|(simp only [wfRes, wfL, wfArgs, wfs, mpO_namesB, mpO_namesI]; rfl)) rfl fun E => ?_
    refine vc_retL ?_
    repeat' (first|(refine gR ?_; first|refine x_opF rfl (by first|exact True.intro|omega) ?_|(refine gI ?_; first|refine vr_index_rowO (gk rfl) rfl rfl rfl rfl rfl rfl (by omega) (by omega) rfl ?_|refine vr_index_rowN (gk rfl) rfl rfl rfl rfl rfl (by omega) (by first|rfl|exact rowOf_length.symm|(simp only [lns] <;> omega)) rfl ?_)|(refine gE ?_; first|refine vr_len_row (gk rfl) rfl rfl (by first|rfl|exact rowOf_length.symm|(simp only [lns] <;> omega)) rfl rfl ?_)|(refine gN ?_; first|refine vr_nilCheck_ptr (gk rfl) rfl rfl ?_)|(refine gL ?_; first|refine vr_load_rowO_agg (gk rfl) rfl rfl (by omega) rfl rfl rfl ?_))|(refine gO ?_; first|refine vr_nil ?_|refine vr_nil_t (by kernel_rfl) ?_)|(refine gT ?_; first|refine q_then_n ?_|refine q_then_r ?_)|refine vc_seq ?_|refine vc_region ?_|refine vc_region_t ?_|(show VC _ (.cond _ _ _) _ _; first|refine vc_cond_t rfl ?_|refine vc_cond_f rfl ?_|refine x_know rfl (by assumption) ?_)|refine vc_ret ?_|refine vc_skip ?_)
    refine retL_of (le_gen0 (l := []) (b := [(9100, .pin 100 (r 100)), (100, .box [.row 101 st.length, .row 102 said.length]), (101, .row 68 6 (rowOf Rk.enc st)), (102, .row 241 3 (rowOf Ad.enc said))]) (fun n => n) ?_ ?_ rfl (by first|rfl|(simp only [wfL, wfs, mpO_namesB, mpO_namesI]; rfl))) (retW isRet_r .nil rfl (by repeat' (first|exact trivial|refine ⟨rfl, ?_⟩)))
    all_goals repeat' (first|exact trivial|refine ⟨⟨_, rfl, ?_⟩, ?_⟩|exact .pin rfl|exact .rowD rfl rowOf_isD|refine .box ?_|exact .nil|refine .cons ?_ ?_|exact .row rfl rfl|fail)
  have d1 : decide ((saidAt said w).src = (i : Int)) = false := decide_eq_false h1
  by_cases h2 : (saidAt said w).src = (st.getD i default).parent
  · have e : hearS st said i w c = st.set i (update' (st.getD i default) (saidAt said w).ep (saidAt said w).rank c).1 := by rw [hearS, if_neg h0, if_neg h1, if_pos h2]
    have d2 : decide ((saidAt said w).src = (st.getD i default).parent) = true := decide_eq_true h2
    intro r
    simp only [pinsL, List.map_cons, List.map_nil, List.cons_append, List.nil_append, Nat.reduceAdd]
    rw [e]
    unfold saidAt at *
    refine FnS.of_bodyM (enters_of Tryz.func55 (by kernel_rfl) rfl) Tryz.func55 rfl Tryz.ntmps55 Tryz.results55 rfl (by first|rfl|(simp only [wfRes, wfL, wfArgs, wfs, mpO_namesB, mpO_namesI]; rfl)) rfl fun E => ?_
    refine vc_retL ?_
    repeat' (first|(refine gR ?_; first|refine x_opF rfl (by first|exact True.intro|omega) ?_|(refine gC ?_; first|refine vr_calldU (hu) (gk rfl) rfl rfl rfl (by first|rfl|(simp only [wfRes, wfL, wfArgs, wfs, mpO_namesB, mpO_namesI]; rfl)) rfl (by first|exact newB_nil|exact newB_O|((simp only [newB, List.map_cons, List.map_nil, Blk.shift, rowOf_shift]) <;> rfl)|rfl) rfl ?_)|(refine gI ?_; first|refine vr_index_rowO (gk rfl) rfl rfl rfl rfl rfl rfl (by omega) (by omega) rfl ?_|refine vr_index_rowN (gk rfl) rfl rfl rfl rfl rfl (by omega) (by first|rfl|exact rowOf_length.symm|(simp only [lns] <;> omega)) rfl ?_)|(refine gE ?_; first|refine vr_len_row (gk rfl) rfl rfl (by first|rfl|exact rowOf_length.symm|(simp only [lns] <;> omega)) rfl rfl ?_)|(refine gN ?_; first|refine vr_nilCheck_ptr (gk rfl) rfl rfl ?_)|(refine gL ?_; first|refine vr_load_rowO_agg (gk rfl) rfl rfl (by omega) rfl rfl rfl ?_)|(refine gS ?_; first|refine vr_store_rowO (gk rfl) rfl rfl rfl (by omega) rfl rfl rfl ?_))|(refine gO ?_; first|refine vr_nil ?_|refine vr_nil_t (by kernel_rfl) ?_)|(refine gT ?_; first|refine q_then_n ?_|refine q_then_r ?_)|refine vc_seq ?_|refine vc_region ?_|refine vc_region_t ?_|(show VC _ (.cond _ _ _) _ _; first|refine vc_cond_t rfl ?_|refine vc_cond_f rfl ?_|refine x_know rfl (by assumption) ?_)|refine vc_ret ?_|refine vc_skip ?_)
    refine retL_of (le_gen0 (l := []) (b := [(9100, .pin 100 (r 100)), (100, .box [.row 101 (st.set i (update' (st.getD i default) (saidAt said w).ep (saidAt said w).rank c).1).length, .row 102 said.length]), (101, .row 68 6 (rowOf Rk.enc (st.set i (update' (st.getD i default) (saidAt said w).ep (saidAt said w).rank c).1))), (102, .row 241 3 (rowOf Ad.enc said))]) (fun n => n) ?_ ?_ rfl (by first|rfl|(simp only [wfL, wfs, mpO_namesB, mpO_namesI]; rfl))) (retW isRet_r .nil rfl (by repeat' (first|exact trivial|refine ⟨rfl, ?_⟩)))
    all_goals repeat' (first|exact trivial|refine ⟨⟨_, rfl, ?_⟩, ?_⟩|exact .pin rfl|exact .rowD rfl rowOf_isD|exact .rowD (rowOf_set rfl) rowOf_isD|refine .box ?_|exact .nil|refine .cons ?_ ?_|exact .row rfl rfl|(refine .row rfl ?_; ((try dsimp only); first|rfl|omega|(simp only [lns] <;> omega)); done)|fail)
  have d2 : decide ((saidAt said w).src = (st.getD i default).parent) = false := decide_eq_false h2
  by_cases h3 : (adopt' (st.getD i default) (saidAt said w).src (saidAt said w).ep (saidAt said w).rank c).2 = 0
  · obtain ⟨hk1, hc1⟩ := adopt_rng h3
    rw [h3] at ha
    by_cases h4 : (st.getD i default).parent = -1 \/ (st.getD i default).epoch < (saidAt said w).ep \/ (saidAt said w).rank + c < (st.getD i default).rank
    · have e : hearS st said i w c = st.set i (adopt' (st.getD i default) (saidAt said w).src (saidAt said w).ep (saidAt said w).rank c).1 := by rw [hearS, if_neg h0, if_neg h1, if_neg h2, if_pos ⟨h3, h4⟩]
      intro r
      simp only [pinsL, List.map_cons, List.map_nil, List.cons_append, List.nil_append, Nat.reduceAdd]
      rw [e]
      unfold saidAt at *
      refine FnS.of_bodyM (enters_of Tryz.func55 (by kernel_rfl) rfl) Tryz.func55 rfl Tryz.ntmps55 Tryz.results55 rfl (by first|rfl|(simp only [wfRes, wfL, wfArgs, wfs, mpO_namesB, mpO_namesI]; rfl)) rfl fun E => ?_
      refine vc_retL ?_
      repeat' (first|(refine gR ?_; first|refine x_opF rfl (by first|exact True.intro|omega) ?_|(refine gC ?_; first|refine vr_calldU (ha) (gk rfl) rfl rfl rfl (by first|rfl|(simp only [wfRes, wfL, wfArgs, wfs, mpO_namesB, mpO_namesI]; rfl)) rfl (by first|exact newB_nil|exact newB_O|((simp only [newB, List.map_cons, List.map_nil, Blk.shift, rowOf_shift]) <;> rfl)|rfl) rfl ?_)|(refine gI ?_; first|refine vr_index_rowO (gk rfl) rfl rfl rfl rfl rfl rfl (by omega) (by omega) rfl ?_|refine vr_index_rowN (gk rfl) rfl rfl rfl rfl rfl (by omega) (by first|rfl|exact rowOf_length.symm|(simp only [lns] <;> omega)) rfl ?_)|(refine gE ?_; first|refine vr_len_row (gk rfl) rfl rfl (by first|rfl|exact rowOf_length.symm|(simp only [lns] <;> omega)) rfl rfl ?_)|(refine gN ?_; first|refine vr_nilCheck_ptr (gk rfl) rfl rfl ?_)|(refine gL ?_; first|refine vr_load_rowO_agg (gk rfl) rfl rfl (by omega) rfl rfl rfl ?_)|(refine gS ?_; first|refine vr_store_rowO (gk rfl) rfl rfl rfl (by omega) rfl rfl rfl ?_)|(refine x_gsplit rfl ?_ ?_ <;> intro h <;> have hq := h <;> (try simp only [hqs] at hq)))|(refine gO ?_; first|refine vr_nil ?_|refine vr_nil_t (by kernel_rfl) ?_)|(refine gT ?_; first|refine q_then_n ?_)|refine vc_seq ?_|refine vc_region ?_|refine vc_region_t ?_|(show VC _ (.cond _ _ _) _ _; first|refine vc_cond_t rfl ?_|refine vc_cond_f rfl ?_|refine x_know rfl (by assumption) ?_|(refine x_cond rfl ?_ ?_ <;> intro h <;> have hq := h <;> (try simp only [hqs] at hq)))|refine vc_skip ?_)
      all_goals first
        | (exfalso; omega)
        | skip
      · refine retL_of (le_gen0 (l := []) (b := [(9100, .pin 100 (r 100)), (100, .box [.row 101 (st.set i (adopt' (st.getD i default) (saidAt said w).src (saidAt said w).ep (saidAt said w).rank c).1).length, .row 102 said.length]), (101, .row 68 6 (rowOf Rk.enc (st.set i (adopt' (st.getD i default) (saidAt said w).src (saidAt said w).ep (saidAt said w).rank c).1))), (102, .row 241 3 (rowOf Ad.enc said))]) (fun n => n) ?_ ?_ rfl (by first|rfl|(simp only [wfL, wfs, mpO_namesB, mpO_namesI]; rfl))) (retW isRet_n .nil rfl (by repeat' (first|exact trivial|refine ⟨rfl, ?_⟩)))
        all_goals repeat' (first|exact trivial|refine ⟨⟨_, rfl, ?_⟩, ?_⟩|exact .pin rfl|exact .rowD rfl rowOf_isD|exact .rowD (rowOf_set rfl) rowOf_isD|refine .box ?_|exact .nil|refine .cons ?_ ?_|exact .row rfl rfl|(refine .row rfl ?_; ((try dsimp only); first|rfl|omega|(simp only [lns] <;> omega)); done)|fail)
      · refine retL_of (le_gen0 (l := []) (b := [(9100, .pin 100 (r 100)), (100, .box [.row 101 (st.set i (adopt' (st.getD i default) (saidAt said w).src (saidAt said w).ep (saidAt said w).rank c).1).length, .row 102 said.length]), (101, .row 68 6 (rowOf Rk.enc (st.set i (adopt' (st.getD i default) (saidAt said w).src (saidAt said w).ep (saidAt said w).rank c).1))), (102, .row 241 3 (rowOf Ad.enc said))]) (fun n => n) ?_ ?_ rfl (by first|rfl|(simp only [wfL, wfs, mpO_namesB, mpO_namesI]; rfl))) (retW isRet_n .nil rfl (by repeat' (first|exact trivial|refine ⟨rfl, ?_⟩)))
        all_goals repeat' (first|exact trivial|refine ⟨⟨_, rfl, ?_⟩, ?_⟩|exact .pin rfl|exact .rowD rfl rowOf_isD|exact .rowD (rowOf_set rfl) rowOf_isD|refine .box ?_|exact .nil|refine .cons ?_ ?_|exact .row rfl rfl|(refine .row rfl ?_; ((try dsimp only); first|rfl|omega|(simp only [lns] <;> omega)); done)|fail)
      · refine retL_of (le_gen0 (l := []) (b := [(9100, .pin 100 (r 100)), (100, .box [.row 101 (st.set i (adopt' (st.getD i default) (saidAt said w).src (saidAt said w).ep (saidAt said w).rank c).1).length, .row 102 said.length]), (101, .row 68 6 (rowOf Rk.enc (st.set i (adopt' (st.getD i default) (saidAt said w).src (saidAt said w).ep (saidAt said w).rank c).1))), (102, .row 241 3 (rowOf Ad.enc said))]) (fun n => n) ?_ ?_ rfl (by first|rfl|(simp only [wfL, wfs, mpO_namesB, mpO_namesI]; rfl))) (retW isRet_n .nil rfl (by repeat' (first|exact trivial|refine ⟨rfl, ?_⟩)))
        all_goals repeat' (first|exact trivial|refine ⟨⟨_, rfl, ?_⟩, ?_⟩|exact .pin rfl|exact .rowD rfl rowOf_isD|exact .rowD (rowOf_set rfl) rowOf_isD|refine .box ?_|exact .nil|refine .cons ?_ ?_|exact .row rfl rfl|(refine .row rfl ?_; ((try dsimp only); first|rfl|omega|(simp only [lns] <;> omega)); done)|fail)
    · have e : hearS st said i w c = st := by rw [hearS, if_neg h0, if_neg h1, if_neg h2, if_neg (fun h => h4 h.2)]
      intro r
      simp only [pinsL, List.map_cons, List.map_nil, List.cons_append, List.nil_append, Nat.reduceAdd]
      rw [e]
      unfold saidAt at *
      refine FnS.of_bodyM (enters_of Tryz.func55 (by kernel_rfl) rfl) Tryz.func55 rfl Tryz.ntmps55 Tryz.results55 rfl (by first|rfl|(simp only [wfRes, wfL, wfArgs, wfs, mpO_namesB, mpO_namesI]; rfl)) rfl fun E => ?_
      refine vc_retL ?_
      repeat' (first|(refine gR ?_; first|refine x_opF rfl (by first|exact True.intro|omega) ?_|(refine gC ?_; first|refine vr_calldU (ha) (gk rfl) rfl rfl rfl (by first|rfl|(simp only [wfRes, wfL, wfArgs, wfs, mpO_namesB, mpO_namesI]; rfl)) rfl (by first|exact newB_nil|exact newB_O|((simp only [newB, List.map_cons, List.map_nil, Blk.shift, rowOf_shift]) <;> rfl)|rfl) rfl ?_)|(refine gI ?_; first|refine vr_index_rowO (gk rfl) rfl rfl rfl rfl rfl rfl (by omega) (by omega) rfl ?_|refine vr_index_rowN (gk rfl) rfl rfl rfl rfl rfl (by omega) (by first|rfl|exact rowOf_length.symm|(simp only [lns] <;> omega)) rfl ?_)|(refine gE ?_; first|refine vr_len_row (gk rfl) rfl rfl (by first|rfl|exact rowOf_length.symm|(simp only [lns] <;> omega)) rfl rfl ?_)|(refine gN ?_; first|refine vr_nilCheck_ptr (gk rfl) rfl rfl ?_)|(refine gL ?_; first|refine vr_load_rowO_agg (gk rfl) rfl rfl (by omega) rfl rfl rfl ?_)|(refine gS ?_; first|refine vr_store_rowO (gk rfl) rfl rfl rfl (by omega) rfl rfl rfl ?_)|(refine x_gsplit rfl ?_ ?_ <;> intro h <;> have hq := h <;> (try simp only [hqs] at hq)))|(refine gO ?_; first|refine vr_nil ?_|refine vr_nil_t (by kernel_rfl) ?_)|(refine gT ?_; first|refine q_then_n ?_)|refine vc_seq ?_|refine vc_region ?_|refine vc_region_t ?_|(show VC _ (.cond _ _ _) _ _; first|refine vc_cond_t rfl ?_|refine vc_cond_f rfl ?_|refine x_know rfl (by assumption) ?_|(refine x_cond rfl ?_ ?_ <;> intro h <;> have hq := h <;> (try simp only [hqs] at hq)))|refine vc_skip ?_)
      all_goals first
        | (exfalso; omega)
        | skip
      refine retL_of (le_gen0 (l := []) (b := [(9100, .pin 100 (r 100)), (100, .box [.row 101 st.length, .row 102 said.length]), (101, .row 68 6 (rowOf Rk.enc st)), (102, .row 241 3 (rowOf Ad.enc said))]) (fun n => n) ?_ ?_ rfl (by first|rfl|(simp only [wfL, wfs, mpO_namesB, mpO_namesI]; rfl))) (retW isRet_n .nil rfl (by repeat' (first|exact trivial|refine ⟨rfl, ?_⟩)))
      all_goals repeat' (first|exact trivial|refine ⟨⟨_, rfl, ?_⟩, ?_⟩|exact .pin rfl|exact .rowD rfl rowOf_isD|refine .box ?_|exact .nil|refine .cons ?_ ?_|exact .row rfl rfl|fail)
  · have d3 : decide ((adopt' (st.getD i default) (saidAt said w).src (saidAt said w).ep (saidAt said w).rank c).2 = 0) = false := decide_eq_false h3
    have e : hearS st said i w c = st := by rw [hearS, if_neg h0, if_neg h1, if_neg h2, if_neg (fun h => h3 h.1)]
    intro r
    simp only [pinsL, List.map_cons, List.map_nil, List.cons_append, List.nil_append, Nat.reduceAdd]
    rw [e]
    unfold saidAt at *
    refine FnS.of_bodyM (enters_of Tryz.func55 (by kernel_rfl) rfl) Tryz.func55 rfl Tryz.ntmps55 Tryz.results55 rfl (by first|rfl|(simp only [wfRes, wfL, wfArgs, wfs, mpO_namesB, mpO_namesI]; rfl)) rfl fun E => ?_
    refine vc_retL ?_
    repeat' (first|(refine gR ?_; first|refine x_opF rfl (by first|exact True.intro|omega) ?_|(refine gC ?_; first|refine vr_calldU (ha) (gk rfl) rfl rfl rfl (by first|rfl|(simp only [wfRes, wfL, wfArgs, wfs, mpO_namesB, mpO_namesI]; rfl)) rfl (by first|exact newB_nil|exact newB_O|((simp only [newB, List.map_cons, List.map_nil, Blk.shift, rowOf_shift]) <;> rfl)|rfl) rfl ?_)|(refine gI ?_; first|refine vr_index_rowO (gk rfl) rfl rfl rfl rfl rfl rfl (by omega) (by omega) rfl ?_|refine vr_index_rowN (gk rfl) rfl rfl rfl rfl rfl (by omega) (by first|rfl|exact rowOf_length.symm|(simp only [lns] <;> omega)) rfl ?_)|(refine gE ?_; first|refine vr_len_row (gk rfl) rfl rfl (by first|rfl|exact rowOf_length.symm|(simp only [lns] <;> omega)) rfl rfl ?_)|(refine gN ?_; first|refine vr_nilCheck_ptr (gk rfl) rfl rfl ?_)|(refine gL ?_; first|refine vr_load_rowO_agg (gk rfl) rfl rfl (by omega) rfl rfl rfl ?_)|refine x_gknow rfl (by assumption) ?_)|(refine gO ?_; first|refine vr_nil ?_|refine vr_nil_t (by kernel_rfl) ?_)|(refine gT ?_; first|refine q_then_n ?_)|refine vc_seq ?_|refine vc_region ?_|refine vc_region_t ?_|(show VC _ (.cond _ _ _) _ _; first|refine vc_cond_f rfl ?_|refine x_know rfl (by assumption) ?_)|refine vc_skip ?_)
    refine retL_of (le_gen0 (l := []) (b := [(9100, .pin 100 (r 100)), (100, .box [.row 101 st.length, .row 102 said.length]), (101, .row 68 6 (rowOf Rk.enc st)), (102, .row 241 3 (rowOf Ad.enc said))]) (fun n => n) ?_ ?_ rfl (by first|rfl|(simp only [wfL, wfs, mpO_namesB, mpO_namesI]; rfl))) (retW isRet_n .nil rfl (by repeat' (first|exact trivial|refine ⟨rfl, ?_⟩)))
    all_goals repeat' (first|exact trivial|refine ⟨⟨_, rfl, ?_⟩, ?_⟩|exact .pin rfl|exact .rowD rfl rowOf_isD|refine .box ?_|exact .nil|refine .cons ?_ ?_|exact .row rfl rfl|fail)
end Go.Proofs.R
end
section
namespace Go.Proofs.R
open Go Go.Sx Go.Proofs.P
set_option maxRecDepth 4000
attribute [local irreducible] VR VC thenQ blockQ retL
abbrev rks (l : List Rk) : D := rdOf Rk.enc 6 l
def stepW (w : Wd) (x : Ev) : Wd :=
  if x.kind = 1 then ⟨advS w.st x.node.toNat, advA w.st w.said x.node.toNat⟩
  else if x.kind = 2 then ⟨hearS w.st w.said x.node.toNat x.which x.cost, w.said⟩
  else if x.kind = 5 then ⟨renS w.st x.node.toNat, w.said⟩
  else ⟨w.st.set x.node.toNat (lose' (w.st.getD x.node.toNat default)), w.said⟩
def evErr (n : Nat) (x : Ev) : Int := if ¬ (1 <= x.kind /\ x.kind <= 5) then 1 else if ¬ (0 <= x.node /\ x.node < n) \/ (x.kind = 2 /\ (x.which < 0 \/ ¬ (1 <= x.cost /\ x.cost <= 1023))) then 2 else 0
def startL (n : Nat) : List Rk := (List.range n).map fun i => (startM (i : Nat)).1
theorem startL_succ (n : Nat) : startL (n + 1) = startL n ++ [(startM (n : Nat)).1] := by simp [startL, List.range_succ]
theorem startL_len (n : Nat) : (startL n).length = n := by simp [startL]
def playW (n : Nat) (l : List Ev) : Nat -> Wd
  | 0 => ⟨startL n, []⟩
  | k + 1 => stepW (playW n l k) (l.getD k default)
theorem step_len (w : Wd) (x : Ev) : (stepW w x).st.length = w.st.length /\ (stepW w x).said.length <= w.said.length + 1 := by
  unfold stepW
  split
  · unfold advS advA
    split
    · simp
    · simp
  split
  · refine ⟨?_, by simp⟩
    unfold hearS
    repeat' split
    all_goals simp
  split
  · refine ⟨?_, by simp⟩
    unfold renS
    split <;> simp
  · simp
theorem play_len (n : Nat) (l : List Ev) : ∀ k, (playW n l k).st.length = n /\ (playW n l k).said.length <= k
  | 0 => ⟨startL_len n, Nat.zero_le _⟩
  | k + 1 => by
    have h := play_len n l k
    have h2 := step_len (playW n l k) (l.getD k default)
    exact ⟨h2.1.trans h.1, by have := h2.2; show (stepW _ _).said.length <= _; omega⟩
def playM (n : Nat) (l : List Ev) : List Rk × Int := if firstErr l.length (fun i => evErr n (l.getD i default)) ≠ 0 then ([], firstErr l.length fun i => evErr n (l.getD i default)) else ((playW n l l.length).st, 0)
def mapR (r : RI) : List (List Int × C) := [([1], bndFn 54 r 0), ([2], bndFn 55 r 0), ([3], bndFn 56 r 0), ([4], bndFn 57 r 0), ([5], bndFn 58 r 0)]
theorem mapR_none {r : RI} {k : Int} (h : ¬ (1 <= k /\ k <= 5)) : lookK (mapR r) [k] = none := by
  have e : ∀ j : Int, 1 <= j /\ j <= 5 -> ¬ ([j] = [k]) := fun j hj e => h (by injection e with e; omega)
  unfold mapR
  simp only [lookK]
  rw [if_neg (e 1 (by omega)), if_neg (e 2 (by omega)), if_neg (e 3 (by omega)), if_neg (e 4 (by omega)), if_neg (e 5 (by omega))]
theorem mapR_bw {σ : St} {f : Nat -> Nat} {L : List Nat} {r : RI} : BW σ f L (.map (mapR r)) (.map (mapR r)) :=
  .map (.cons ⟨rfl, .d⟩ (.cons ⟨rfl, .d⟩ (.cons ⟨rfl, .d⟩ (.cons ⟨rfl, .d⟩ (.cons ⟨rfl, .d⟩ .nil)))))
set_option maxHeartbeats 8000000 in
theorem play_spec (n : Nat) (l : List Ev) (hn : 1 <= n /\ n <= 32) (hl : l.length <= 4096) : FnS Tryz.prog 17 [AI n, AD (evs l)] [] (.tup [AD (rks (playM n l).1), AI (playM n l).2]) [] := by
  have hw := rwithin_spec (n : Int) 1 32
  rw [show inR (n : Int) 1 32 = true from decide_eq_true (by omega)] at hw
  have d1 : decide ((4096 : Int) < (l.length : Int)) = false := decide_eq_false (by omega)
  refine FnS.of_body (enters_of Tryz.func17 (by kernel_rfl) rfl) Tryz.func17 rfl Tryz.ntmps17 Tryz.results17 rfl rfl rfl rfl fun E hS => ?_
  refine vc_retL ?_
  repeat' (first|(refine gR ?_; first|refine x_opF rfl (by first|exact True.intro|omega) ?_|(refine gC ?_; first|refine vr_calldU (hw) (gk rfl) rfl rfl rfl (by first|rfl|(simp only [wfRes, wfL, wfArgs, wfs, mpO_namesB, mpO_namesI]; rfl)) rfl (by first|exact newB_nil|exact newB_O|((simp only [newB, List.map_cons, List.map_nil, Blk.shift, rowOf_shift]) <;> rfl)|rfl) rfl ?_))|(refine gO ?_; first|refine vr_nil ?_)|(refine gT ?_; first|refine q_then_n ?_)|(show VC _ (.seq _ _) _ _; (fail_if_success (show VC _ (.seq (.seq (.region 6 _ _) _) _) _ _)); (fail_if_success (show VC _ (.seq (.region 6 _ _) _) _ _)); refine vc_seq ?_)|refine vc_region ?_|(show VC _ (.cond _ _ _) _ _; first|refine vc_cond_f rfl ?_|refine x_know rfl (by assumption) ?_)|refine vc_skip ?_)
  refine VC.le (le_nilB (bx := 20) (nm := 101) (T := 68) (sz := 6) (j := 0) rfl rfl rfl) ?_
  refine VC.le (le_nilB (bx := 20) (nm := 102) (T := 241) (sz := 3) (j := 1) rfl rfl rfl) ?_
  refine VC.le (σ' := stOf [(0, AI n), (1, AD (evs l)), (6, .c (.ptr 100 0))] [(100, .box [.row 101 (startL 0).length, .row 102 0]), (101, .row 68 6 (rowOf Rk.enc (startL 0))), (102, .row 241 3 (rowOf Ad.enc []))]) ?_ ?_
  · refine le_gen0 (fun n => if n = 100 then 20 else n) ?_ ?_ rfl (by first|rfl|(simp only [wfL, wfs, mpO_namesB, mpO_namesI]; rfl))
    all_goals repeat' (first|exact trivial|refine ⟨⟨_, rfl, ?_⟩, ?_⟩|exact .c .d|exact .c (.ptr rfl)|exact .rowD rfl rowOf_isD|refine .box ?_|exact .nil|refine .cons ?_ ?_|exact .row rfl rfl|fail)
  repeat' (first|(refine gR ?_; first|refine x_opF rfl (by first|exact True.intro|omega) ?_)|(refine gO ?_; first|refine vr_nil ?_)|(refine gT ?_; first|refine q_then_n ?_)|refine vc_seq ?_|refine vc_region ?_|refine vc_block ?_)
  refine vc_loopI (ι := Nat) (fun k => stOf [(0, AI n), (1, AD (evs l)), (6, .c (.ptr 100 0)), (21, AI n), (22, AI k)] [(100, .box [.row 101 (startL k).length, .row 102 0]), (101, .row 68 6 (rowOf Rk.enc (startL k))), (102, .row 241 3 (rowOf Ad.enc []))]) (fun k => k <= n) (fun k => n - k) 0 (Nat.zero_le _) ?_ ?_
  · refine le_gen0 (fun n => n) ?_ ?_ rfl (by first|rfl|(simp only [wfL, wfs, mpO_namesB, mpO_namesI]; rfl))
    all_goals repeat' (first|exact trivial|refine ⟨⟨_, rfl, ?_⟩, ?_⟩|exact .c .d|exact .c (.ptr rfl)|exact .rowD rfl rowOf_isD|refine .box ?_|exact .nil|refine .cons ?_ ?_|exact .row rfl rfl|fail)
  · intro k hk
    have hkl := startL_len k
    rcases Nat.lt_or_ge k n with hlt | hge
    · have dlt : decide ((k : Int) < (n : Int)) = true := decide_eq_true (by omega)
      repeat' (first|(refine gR ?_; first|refine x_opF rfl (by first|exact True.intro|omega) ?_|(refine gC ?_; first|refine vr_calldU (start_spec (k : Nat)) (gk rfl) rfl rfl rfl (by first|rfl|(simp only [wfRes, wfL, wfArgs, wfs, mpO_namesB, mpO_namesI]; rfl)) rfl (by first|exact newB_nil|exact newB_O|((simp only [newB, List.map_cons, List.map_nil, Blk.shift, rowOf_shift]) <;> rfl)|rfl) rfl ?_)|(refine gA ?_; first|refine vr_append0 (gk rfl) rfl rfl rfl (by first|rfl|exact rowOf_length.symm|(simp only [lns] <;> omega)) (by first|exact .row rfl (by first|rfl|exact rowOf_length.symm)|exact .rd|exact .nils) rfl rfl rfl (by (try dsimp only); omega) rfl rfl ?_)|(refine gN ?_; first|refine vr_nilCheck_ptr (gk rfl) rfl rfl ?_))|(refine gO ?_; first|refine vr_nil ?_|refine vr_nil_t (by kernel_rfl) ?_)|(refine gT ?_; first|refine q_then_n ?_)|(refine gK ?_; first|refine q_blk_n ?_)|refine vc_seq ?_|refine vc_region ?_|refine vc_region_t ?_|(show VC _ (.cond _ _ _) _ _; first|refine vc_cond_t rfl ?_|refine x_know rfl (by assumption) ?_)|refine vc_block ?_|refine vc_skip ?_)
      refine ⟨k + 1, hlt, by omega, ?_⟩
      rw [startL_succ]
      refine le_gen0 (fun n => if n = 101 then 37 else n) ?_ ?_ rfl (by first|rfl|(simp only [wfL, wfs, mpO_namesB, mpO_namesI]; rfl))
      all_goals repeat' (first|exact trivial|refine ⟨⟨_, rfl, ?_⟩, ?_⟩|exact .c .d|exact .c (.ptr rfl)|exact .rowD rfl rowOf_isD|(refine .rowD ?_ rowOf_isD; rw [rowOf_append]; rfl)|refine .box ?_|exact .nil|refine .cons ?_ ?_|exact .row rfl rfl|(refine .row rfl ?_; ((try dsimp only); first|rfl|omega|(simp only [lns] <;> omega)); done)|fail)
    · have dlt : decide ((k : Int) < (n : Int)) = false := decide_eq_false (by omega)
      have hk' : k = n := by omega
      subst hk'
      repeat' (first|(refine gR ?_; first|refine x_opF rfl (by first|exact True.intro|omega) ?_)|(refine gO ?_; first|refine vr_nil ?_)|(refine gT ?_; first|refine q_then_n ?_|refine q_then_x ?_)|(refine gK ?_; first|refine q_blk_x ?_)|(show VC _ (.seq _ _) _ _; (fail_if_success (show VC _ (.seq (.seq (.region 12 _ _) _) _) _ _)); (fail_if_success (show VC _ (.seq (.region 12 _ _) _) _ _)); refine vc_seq ?_)|refine vc_region ?_|(show VC _ (.cond _ _ _) _ _; first|refine vc_cond_f rfl ?_|refine x_know rfl (by assumption) ?_)|refine vc_exit ?_)
      refine vc_pin (nm := 100) (pn := 9100) (fun h => by cases h) rfl fun r => ?_
      repeat' (first|(refine gR ?_; first|(show VR _ _ _ (⟨_, .makeFunc _ #[_] #[], _, _, _, _⟩ :: _) _ _ _; first|refine vr_makeBound (pn := 9100) (gk rfl) rfl rfl rfl ?_)|(show VR _ _ _ (⟨_, .makeMap _ none, _, _, _, _⟩ :: _) _ _ _; first|refine vr_makeMap (gk rfl) rfl rfl ?_)|(show VR _ _ _ (⟨_, .insert _ _ _ _, _, _, _, _⟩ :: _) _ _ _; first|refine vr_insertF (gk rfl) rfl rfl rfl rfl rfl rfl rfl ?_)|refine x_opF rfl (by first|exact True.intro|omega) ?_)|(refine gO ?_; first|refine vr_nil ?_)|(refine gT ?_; first|refine q_then_n ?_)|(show VC _ (.seq _ _) _ _; (fail_if_success (show VC _ (.seq (.seq (.region 13 _ _) _) _) _ _)); (fail_if_success (show VC _ (.seq (.region 13 _ _) _) _ _)); refine vc_seq ?_)|refine vc_region ?_)
      refine VC.le (σ' := stOf [(0, AI k), (1, AD (evs l)), (6, .c (.ptr 100 0)), (10, .c (.mp 41))] [(9100, .pin 100 r), (100, .box [.row 101 (playW k l 0).st.length, .row 102 (playW k l 0).said.length]), (101, .row 68 6 (rowOf Rk.enc (playW k l 0).st)), (102, .row 241 3 (rowOf Ad.enc (playW k l 0).said)), (41, .map (mapR r))]) ?_ ?_
      · refine le_gen0 (fun n => n) ?_ ?_ rfl (by first|rfl|(simp only [wfL, wfs, mpO_namesB, mpO_namesI]; rfl))
        all_goals repeat' (first|exact trivial|refine ⟨⟨_, rfl, ?_⟩, ?_⟩|exact .c .d|exact .c (.ptr rfl)|exact .c (.mp rfl)|exact .pin rfl|exact .rowD rfl rowOf_isD|refine .box ?_|exact .nil|refine .cons ?_ ?_|exact .row rfl rfl|fail)
        exact mapR_bw
      clear dlt hge hk
      revert hkl hn hw
      generalize k = n
      intro hkl hn hw
      refine vc_bound (t := 1) rfl fun hbd => ?_
      repeat' (first|(refine gR ?_; first|refine x_opF rfl (by first|exact True.intro|omega) ?_)|(refine gO ?_; first|refine vr_nil ?_)|(refine gT ?_; first|refine q_then_n ?_)|refine vc_seq ?_|refine vc_region ?_|refine vc_block ?_)
      refine vc_loopI (ι := Nat) (fun k => stOf [(0, AI n), (6, .c (.ptr 100 0)), (10, .c (.mp 41)), (53, AD (evs l)), (54, AI l.length), (55, AI k)] [(9100, .pin 100 r), (100, .box [.row 101 (playW n l k).st.length, .row 102 (playW n l k).said.length]), (101, .row 68 6 (rowOf Rk.enc (playW n l k).st)), (102, .row 241 3 (rowOf Ad.enc (playW n l k).said)), (41, .map (mapR r))]) (fun k => k <= l.length /\ ∀ i, i < k -> evErr n (l.getD i default) = 0) (fun k => l.length - k) 0 ⟨Nat.zero_le _, fun i hi => absurd hi (Nat.not_lt_zero _)⟩ ?_ ?_
      · refine le_gen0 (fun n => n) ?_ ?_ rfl (by first|rfl|(simp only [wfL, wfs, mpO_namesB, mpO_namesI]; rfl))
        all_goals repeat' (first|exact trivial|refine ⟨⟨_, rfl, ?_⟩, ?_⟩|exact .c .d|exact .c (.ptr rfl)|exact .c (.mp rfl)|exact .pin rfl|exact .rowD rfl rowOf_isD|refine .box ?_|exact .nil|refine .cons ?_ ?_|exact .row rfl rfl|fail)
        exact mapR_bw
      · intro k hk
        have hpl := play_len n l k
        rcases Nat.lt_or_ge k l.length with hlt | hge
        · have dlt : decide ((k : Int) < (l.length : Int)) = true := decide_eq_true (by omega)
          repeat' (first|(refine gR ?_; first|refine x_opF rfl (by first|exact True.intro|omega) ?_|(refine gI ?_; first|refine vr_index_rd (gk rfl) rfl rfl rfl rfl rfl (by omega) rfl ?_))|(refine gO ?_; first|refine vr_nil ?_)|(refine gT ?_; first|refine q_then_n ?_)|(show VC _ (.seq _ _) _ _; (fail_if_success (show VC _ (.seq (.seq (.region 16 _ _) _) _) _ _)); (fail_if_success (show VC _ (.seq (.region 16 _ _) _) _ _)); refine vc_seq ?_)|refine vc_region ?_|(show VC _ (.cond _ _ _) _ _; first|refine vc_cond_t rfl ?_|refine x_know rfl (by assumption) ?_)|refine vc_block ?_|refine vc_skip ?_)
          obtain ⟨x, hx⟩ : ∃ x, x = l.getD k default := ⟨_, rfl⟩
          have hst : playW n l (k + 1) = stepW (playW n l k) x := by rw [playW, hx]
          have her : evErr n x ≠ 0 -> playM n l = ([], evErr n x) := fun h => by
            have h1 := firstErr_hit (f := fun i => evErr n (l.getD i default)) hk.2 hlt (by rw [<- hx]; exact h)
            rw [playM, h1, <- hx, if_pos h]
          have hok : evErr n x = 0 -> ∀ i, i < k + 1 -> evErr n (l.getD i default) = 0 := fun h i hi => by
            rcases Nat.lt_or_ge i k with h2 | h2
            · exact hk.2 i h2
            · have : i = k := by omega
              rw [this, <- hx]; exact h
          have hw2 := play_len n l (k + 1)
          rw [hst] at hw2
          rw [<- hx]
          clear hx
          obtain ⟨kd, nd, wh, co⟩ := x
          generalize playW n l k = W at *
          refine VC.le (σ' := stOf [(0, AI n), (6, .c (.ptr 100 0)), (10, .c (.mp 41)), (53, AD (evs l)), (54, AI l.length), (55, AI k), (12, .c (.ptr 12 0))] [(9100, .pin 100 r), (100, .box [.row 101 W.st.length, .row 102 W.said.length]), (101, .row 68 6 (rowOf Rk.enc W.st)), (102, .row 241 3 (rowOf Ad.enc W.said)), (41, .map (mapR r)), (12, .box [.d (.int .i64 kd), .d (.int .i64 nd), .d (.int .i64 wh), .d (.int .i64 co)])]) ?_ ?_
          · refine le_gen0 (fun n => n) ?_ ?_ rfl (by first|rfl|(simp only [wfL, wfs, mpO_namesB, mpO_namesI]; rfl))
            all_goals repeat' (first|exact trivial|refine ⟨⟨_, rfl, ?_⟩, ?_⟩|exact .c .d|exact .c (.ptr rfl)|exact .c (.mp rfl)|exact .boxD rfl rfl|exact .pin rfl|exact .rowD rfl rowOf_isD|refine .box ?_|exact .nil|refine .cons ?_ ?_|exact .row rfl rfl|fail)
            exact mapR_bw
          by_cases hk1 : 1 <= kd /\ kd <= 5
          · by_cases hk2 : (0 <= nd /\ nd < n) /\ (kd = 2 -> 0 <= wh /\ 1 <= co /\ co <= 1023)
            · have hz : evErr n ⟨kd, nd, wh, co⟩ = 0 := by
                show (if _ then _ else _ : Int) = 0
                rw [if_neg (by simpa using hk1), if_neg (by
                  rintro (h | ⟨h, h2⟩)
                  · exact h hk2.1
                  · have := hk2.2 h
                    dsimp only at h2
                    omega)]
              obtain ⟨⟨hn0, hn1⟩, hk3⟩ := hk2
              obtain ⟨i, rfl⟩ := Int.eq_ofNat_of_zero_le hn0
              have hi : i < W.st.length := by omega
              have hr0 := rwithin_spec (i : Int) 0 ((n : Int) - 1)
              rw [show inR (i : Int) 0 ((n : Int) - 1) = true from decide_eq_true (by omega)] at hr0
              rcases (show kd = 1 \/ kd = 2 \/ kd = 3 \/ kd = 4 \/ kd = 5 by omega) with rfl | rfl | rfl | rfl | rfl
              · have hc := wadv_spec W.st W.said i 1 wh co hi (by omega) (by omega)
                repeat' (first|(refine gR ?_; first|(show VR _ _ _ (⟨_, .call ⟨.value (.tmp _), _, _⟩, _, _, _, _⟩ :: _) _ _ _; refine vr_bound (z := .tmp 6) (pn := 9100) rfl rfl rfl ?_)|(show VR _ _ _ (⟨_, .binOp .eql _ _ (.const .nilFunc) _, _, _, _, _⟩ :: _) _ _ _; first|refine vr_eqlRaw (by kernel_rfl) (gk rfl) rfl rfl ?_)|(show VR _ _ _ (⟨_, .lookup _ _ _ false, _, _, _, _⟩ :: _) _ _ _; first|refine vr_lookupF (gk rfl) rfl rfl rfl rfl rfl rfl rfl rfl ?_)|refine x_opF rfl (by first|exact True.intro|omega) ?_|(refine gC ?_; first|refine vr_calldU (hr0) (gk rfl) rfl rfl rfl (by first|rfl|(simp only [wfRes, wfL, wfArgs, wfs, mpO_namesB, mpO_namesI]; rfl)) rfl (by first|exact newB_nil|exact newB_O|((simp only [newB, List.map_cons, List.map_nil, Blk.shift, rowOf_shift]) <;> rfl)|rfl) rfl ?_|refine vr_callW (nmL []) [] [100] (hc) (gk rfl) rfl rfl (by (repeat' (first|exact .nil|refine .cons ?_ ?_|exact .w (.c (.ptr rfl)) rfl|exact .w (.c (.row rfl rfl)) rfl|exact .w (.c (.mp rfl)) rfl|exact .w (.c (.fn rfl)) rfl|exact .w (.rp rfl) rfl|(refine .w (.fncC ?_) rfl; repeat' (first|exact .nil|refine .cons ?_ ?_|exact .d|exact .ptr rfl|exact .row rfl rfl|(refine .row rfl ?_; ((try dsimp only); first|rfl|omega|(simp only [lns] <;> omega)); done)|exact .fn rfl|exact .mp rfl|exact .frzOf (by first|(simp; done)|decide) rfl rfl (fun _ => rfl)))|exact .r (.of0 (.c .d))|refine .r ?_|exact .of0 (.c .d)|exact .of0 .ep|exact .clo|exact .of0 (.c .nil)|exact .of0 (.c (cr_rowO (by simp) rfl (by first|rfl|omega) (fun _ => rfl)))|refine .of0 (.agg ?_)|exact .d|exact .nil|exact .of0 (.c (cr_row (by decide) rfl rfl (by repeat' (first|exact trivial|refine ⟨?_, ?_⟩|rfl)))))) <;> fail) (by (repeat' (first|exact trivial|refine ⟨⟨_, rfl, ?_⟩, ?_⟩|exact .boxD rfl rfl|exact .rowD rfl rowOf_isD|exact .mapO (fun _ => rfl) rfl|exact .pin rfl|refine .box ?_|exact .nil|refine .cons ?_ ?_|exact .d|exact .ptr rfl|exact .row rfl rfl|(refine .row rfl ?_; ((try dsimp only); first|rfl|omega|(simp only [lns] <;> omega)); done)|exact .fn rfl|exact .mp rfl|exact .frzOf (by first|(simp; done)|decide) rfl rfl (fun _ => rfl))) <;> fail) rfl rfl rfl (by first|rfl|(simp only [List.all_cons, List.all_nil, rowOf_flatB]; rfl)) rfl (by first|rfl|(simp only [wfRes, wfL, wfArgs, wfs, mpO_namesB, mpO_namesI]; rfl)) rfl rfl rfl (by (simp only [newW, List.map_cons, List.map_nil, Blk.ren, C.ren, rowOf_ren, mpO_renB, mpO_renI, gW, memN, nmL, Nat.reduceBEq, Bool.or_false, Bool.or_true, Bool.false_or, Bool.true_or, cond_true, cond_false, Nat.reduceMul, Nat.reduceAdd]) <;> rfl) (by (simp only [AV.ren, AV.ren0, List.map_cons, List.map_nil, C.ren, gW, memN, nmL, Nat.reduceBEq, Bool.or_false, Bool.or_true, Bool.false_or, Bool.true_or, cond_true, cond_false, Nat.reduceMul, Nat.reduceAdd]) <;> rfl) rfl ?_))|(refine gO ?_; first|refine vr_nil ?_)|(refine gT ?_; first|refine q_then_n ?_)|(refine gK ?_; first|refine q_blk_n ?_)|refine vc_seq ?_|refine vc_region ?_|(show VC _ (.cond _ _ _) _ _; first|refine vc_cond_f rfl ?_)|refine vc_skip ?_)
                refine ⟨k + 1, ⟨hlt, hok hz⟩, by omega, ?_⟩
                rw [hst, show stepW W ⟨1, (i : Int), wh, co⟩ = ⟨advS W.st i, advA W.st W.said i⟩ from rfl]
                refine le_gen0 (fun n => if n = 101 then 91101 else if n = 102 then 91103 else n) ?_ ?_ rfl (by first|rfl|(simp only [wfL, wfs, mpO_namesB, mpO_namesI]; rfl))
                all_goals repeat' (first|exact trivial|refine ⟨⟨_, rfl, ?_⟩, ?_⟩|exact .c .d|exact .c (.ptr rfl)|exact .c (.mp rfl)|exact .pin rfl|exact .rowD rfl rowOf_isD|refine .box ?_|exact .nil|refine .cons ?_ ?_|exact .row rfl rfl|fail)
                exact mapR_bw
              · have hc := whear_spec W.st W.said i 2 wh co (hk3 rfl).1 hi (by omega) (by omega)
                have hr1 := rwithin_spec co 1 1023
                rw [show inR co 1 1023 = true from decide_eq_true (hk3 rfl).2] at hr1
                have d2 : decide (wh < 0) = false := decide_eq_false (by have := hk3 rfl; omega)
                repeat' (first|(refine gR ?_; first|(show VR _ _ _ (⟨_, .call ⟨.value (.tmp _), _, _⟩, _, _, _, _⟩ :: _) _ _ _; refine vr_bound (z := .tmp 6) (pn := 9100) rfl rfl rfl ?_)|(show VR _ _ _ (⟨_, .binOp .eql _ _ (.const .nilFunc) _, _, _, _, _⟩ :: _) _ _ _; first|refine vr_eqlRaw (by kernel_rfl) (gk rfl) rfl rfl ?_)|(show VR _ _ _ (⟨_, .lookup _ _ _ false, _, _, _, _⟩ :: _) _ _ _; first|refine vr_lookupF (gk rfl) rfl rfl rfl rfl rfl rfl rfl rfl ?_)|refine x_opF rfl (by first|exact True.intro|omega) ?_|(refine gC ?_; first|refine vr_calldU (hr0) (gk rfl) rfl rfl rfl (by first|rfl|(simp only [wfRes, wfL, wfArgs, wfs, mpO_namesB, mpO_namesI]; rfl)) rfl (by first|exact newB_nil|exact newB_O|((simp only [newB, List.map_cons, List.map_nil, Blk.shift, rowOf_shift]) <;> rfl)|rfl) rfl ?_|refine vr_calldU (hr1) (gk rfl) rfl rfl rfl (by first|rfl|(simp only [wfRes, wfL, wfArgs, wfs, mpO_namesB, mpO_namesI]; rfl)) rfl (by first|exact newB_nil|exact newB_O|((simp only [newB, List.map_cons, List.map_nil, Blk.shift, rowOf_shift]) <;> rfl)|rfl) rfl ?_|refine vr_callW (nmL []) [] [100] (hc) (gk rfl) rfl rfl (by (repeat' (first|exact .nil|refine .cons ?_ ?_|exact .w (.c (.ptr rfl)) rfl|exact .w (.c (.row rfl rfl)) rfl|exact .w (.c (.mp rfl)) rfl|exact .w (.c (.fn rfl)) rfl|exact .w (.rp rfl) rfl|(refine .w (.fncC ?_) rfl; repeat' (first|exact .nil|refine .cons ?_ ?_|exact .d|exact .ptr rfl|exact .row rfl rfl|(refine .row rfl ?_; ((try dsimp only); first|rfl|omega|(simp only [lns] <;> omega)); done)|exact .fn rfl|exact .mp rfl|exact .frzOf (by first|(simp; done)|decide) rfl rfl (fun _ => rfl)))|exact .r (.of0 (.c .d))|refine .r ?_|exact .of0 (.c .d)|exact .of0 .ep|exact .clo|exact .of0 (.c .nil)|exact .of0 (.c (cr_rowO (by simp) rfl (by first|rfl|omega) (fun _ => rfl)))|refine .of0 (.agg ?_)|exact .d|exact .nil|exact .of0 (.c (cr_row (by decide) rfl rfl (by repeat' (first|exact trivial|refine ⟨?_, ?_⟩|rfl)))))) <;> fail) (by (repeat' (first|exact trivial|refine ⟨⟨_, rfl, ?_⟩, ?_⟩|exact .boxD rfl rfl|exact .rowD rfl rowOf_isD|exact .mapO (fun _ => rfl) rfl|exact .pin rfl|refine .box ?_|exact .nil|refine .cons ?_ ?_|exact .d|exact .ptr rfl|exact .row rfl rfl|(refine .row rfl ?_; ((try dsimp only); first|rfl|omega|(simp only [lns] <;> omega)); done)|exact .fn rfl|exact .mp rfl|exact .frzOf (by first|(simp; done)|decide) rfl rfl (fun _ => rfl))) <;> fail) rfl rfl rfl (by first|rfl|(simp only [List.all_cons, List.all_nil, rowOf_flatB]; rfl)) rfl (by first|rfl|(simp only [wfRes, wfL, wfArgs, wfs, mpO_namesB, mpO_namesI]; rfl)) rfl rfl rfl (by (simp only [newW, List.map_cons, List.map_nil, Blk.ren, C.ren, rowOf_ren, mpO_renB, mpO_renI, gW, memN, nmL, Nat.reduceBEq, Bool.or_false, Bool.or_true, Bool.false_or, Bool.true_or, cond_true, cond_false, Nat.reduceMul, Nat.reduceAdd]) <;> rfl) (by (simp only [AV.ren, AV.ren0, List.map_cons, List.map_nil, C.ren, gW, memN, nmL, Nat.reduceBEq, Bool.or_false, Bool.or_true, Bool.false_or, Bool.true_or, cond_true, cond_false, Nat.reduceMul, Nat.reduceAdd]) <;> rfl) rfl ?_)|refine x_gknow rfl (by assumption) ?_)|(refine gO ?_; first|refine vr_nil ?_)|(refine gT ?_; first|refine q_then_n ?_)|(refine gK ?_; first|refine q_blk_n ?_)|refine vc_seq ?_|refine vc_region ?_|(show VC _ (.cond _ _ _) _ _; first|refine vc_cond_f rfl ?_)|refine vc_skip ?_)
                refine ⟨k + 1, ⟨hlt, hok hz⟩, by omega, ?_⟩
                rw [hst, show stepW W ⟨2, (i : Int), wh, co⟩ = ⟨hearS W.st W.said i wh co, W.said⟩ from rfl]
                refine le_gen0 (fun n => if n = 101 then 91101 else if n = 102 then 91102 else n) ?_ ?_ rfl (by first|rfl|(simp only [wfL, wfs, mpO_namesB, mpO_namesI]; rfl))
                all_goals repeat' (first|exact trivial|refine ⟨⟨_, rfl, ?_⟩, ?_⟩|exact .c .d|exact .c (.ptr rfl)|exact .c (.mp rfl)|exact .pin rfl|exact .rowD rfl rowOf_isD|refine .box ?_|exact .nil|refine .cons ?_ ?_|exact .row rfl rfl|fail)
                exact mapR_bw
              · have hc := wlose_spec W.st W.said i 3 wh co hi (by omega) (by omega)
                repeat' (first|(refine gR ?_; first|(show VR _ _ _ (⟨_, .call ⟨.value (.tmp _), _, _⟩, _, _, _, _⟩ :: _) _ _ _; refine vr_bound (z := .tmp 6) (pn := 9100) rfl rfl rfl ?_)|(show VR _ _ _ (⟨_, .binOp .eql _ _ (.const .nilFunc) _, _, _, _, _⟩ :: _) _ _ _; first|refine vr_eqlRaw (by kernel_rfl) (gk rfl) rfl rfl ?_)|(show VR _ _ _ (⟨_, .lookup _ _ _ false, _, _, _, _⟩ :: _) _ _ _; first|refine vr_lookupF (gk rfl) rfl rfl rfl rfl rfl rfl rfl rfl ?_)|refine x_opF rfl (by first|exact True.intro|omega) ?_|(refine gC ?_; first|refine vr_calldU (hr0) (gk rfl) rfl rfl rfl (by first|rfl|(simp only [wfRes, wfL, wfArgs, wfs, mpO_namesB, mpO_namesI]; rfl)) rfl (by first|exact newB_nil|exact newB_O|((simp only [newB, List.map_cons, List.map_nil, Blk.shift, rowOf_shift]) <;> rfl)|rfl) rfl ?_|refine vr_callW (nmL []) [] [100] (hc) (gk rfl) rfl rfl (by (repeat' (first|exact .nil|refine .cons ?_ ?_|exact .w (.c (.ptr rfl)) rfl|exact .w (.c (.row rfl rfl)) rfl|exact .w (.c (.mp rfl)) rfl|exact .w (.c (.fn rfl)) rfl|exact .w (.rp rfl) rfl|(refine .w (.fncC ?_) rfl; repeat' (first|exact .nil|refine .cons ?_ ?_|exact .d|exact .ptr rfl|exact .row rfl rfl|(refine .row rfl ?_; ((try dsimp only); first|rfl|omega|(simp only [lns] <;> omega)); done)|exact .fn rfl|exact .mp rfl|exact .frzOf (by first|(simp; done)|decide) rfl rfl (fun _ => rfl)))|exact .r (.of0 (.c .d))|refine .r ?_|exact .of0 (.c .d)|exact .of0 .ep|exact .clo|exact .of0 (.c .nil)|exact .of0 (.c (cr_rowO (by simp) rfl (by first|rfl|omega) (fun _ => rfl)))|refine .of0 (.agg ?_)|exact .d|exact .nil|exact .of0 (.c (cr_row (by decide) rfl rfl (by repeat' (first|exact trivial|refine ⟨?_, ?_⟩|rfl)))))) <;> fail) (by (repeat' (first|exact trivial|refine ⟨⟨_, rfl, ?_⟩, ?_⟩|exact .boxD rfl rfl|exact .rowD rfl rowOf_isD|exact .mapO (fun _ => rfl) rfl|exact .pin rfl|refine .box ?_|exact .nil|refine .cons ?_ ?_|exact .d|exact .ptr rfl|exact .row rfl rfl|(refine .row rfl ?_; ((try dsimp only); first|rfl|omega|(simp only [lns] <;> omega)); done)|exact .fn rfl|exact .mp rfl|exact .frzOf (by first|(simp; done)|decide) rfl rfl (fun _ => rfl))) <;> fail) rfl rfl rfl (by first|rfl|(simp only [List.all_cons, List.all_nil, rowOf_flatB]; rfl)) rfl (by first|rfl|(simp only [wfRes, wfL, wfArgs, wfs, mpO_namesB, mpO_namesI]; rfl)) rfl rfl rfl (by (simp only [newW, List.map_cons, List.map_nil, Blk.ren, C.ren, rowOf_ren, mpO_renB, mpO_renI, gW, memN, nmL, Nat.reduceBEq, Bool.or_false, Bool.or_true, Bool.false_or, Bool.true_or, cond_true, cond_false, Nat.reduceMul, Nat.reduceAdd]) <;> rfl) (by (simp only [AV.ren, AV.ren0, List.map_cons, List.map_nil, C.ren, gW, memN, nmL, Nat.reduceBEq, Bool.or_false, Bool.or_true, Bool.false_or, Bool.true_or, cond_true, cond_false, Nat.reduceMul, Nat.reduceAdd]) <;> rfl) rfl ?_))|(refine gO ?_; first|refine vr_nil ?_)|(refine gT ?_; first|refine q_then_n ?_)|(refine gK ?_; first|refine q_blk_n ?_)|refine vc_seq ?_|refine vc_region ?_|(show VC _ (.cond _ _ _) _ _; first|refine vc_cond_f rfl ?_)|refine vc_skip ?_)
                refine ⟨k + 1, ⟨hlt, hok hz⟩, by omega, ?_⟩
                rw [hst, show stepW W ⟨3, (i : Int), wh, co⟩ = ⟨W.st.set i (lose' (W.st.getD i default)), W.said⟩ from rfl]
                refine le_gen0 (fun n => if n = 101 then 91101 else if n = 102 then 91102 else n) ?_ ?_ rfl (by first|rfl|(simp only [wfL, wfs, mpO_namesB, mpO_namesI]; rfl))
                all_goals repeat' (first|exact trivial|refine ⟨⟨_, rfl, ?_⟩, ?_⟩|exact .c .d|exact .c (.ptr rfl)|exact .c (.mp rfl)|exact .pin rfl|exact .rowD rfl rowOf_isD|refine .box ?_|exact .nil|refine .cons ?_ ?_|exact .row rfl rfl|fail)
                exact mapR_bw
              · have hc := wrestart_spec W.st W.said i 4 wh co hi (by omega) (by omega)
                repeat' (first|(refine gR ?_; first|(show VR _ _ _ (⟨_, .call ⟨.value (.tmp _), _, _⟩, _, _, _, _⟩ :: _) _ _ _; refine vr_bound (z := .tmp 6) (pn := 9100) rfl rfl rfl ?_)|(show VR _ _ _ (⟨_, .binOp .eql _ _ (.const .nilFunc) _, _, _, _, _⟩ :: _) _ _ _; first|refine vr_eqlRaw (by kernel_rfl) (gk rfl) rfl rfl ?_)|(show VR _ _ _ (⟨_, .lookup _ _ _ false, _, _, _, _⟩ :: _) _ _ _; first|refine vr_lookupF (gk rfl) rfl rfl rfl rfl rfl rfl rfl rfl ?_)|refine x_opF rfl (by first|exact True.intro|omega) ?_|(refine gC ?_; first|refine vr_calldU (hr0) (gk rfl) rfl rfl rfl (by first|rfl|(simp only [wfRes, wfL, wfArgs, wfs, mpO_namesB, mpO_namesI]; rfl)) rfl (by first|exact newB_nil|exact newB_O|((simp only [newB, List.map_cons, List.map_nil, Blk.shift, rowOf_shift]) <;> rfl)|rfl) rfl ?_|refine vr_callW (nmL []) [] [100] (hc) (gk rfl) rfl rfl (by (repeat' (first|exact .nil|refine .cons ?_ ?_|exact .w (.c (.ptr rfl)) rfl|exact .w (.c (.row rfl rfl)) rfl|exact .w (.c (.mp rfl)) rfl|exact .w (.c (.fn rfl)) rfl|exact .w (.rp rfl) rfl|(refine .w (.fncC ?_) rfl; repeat' (first|exact .nil|refine .cons ?_ ?_|exact .d|exact .ptr rfl|exact .row rfl rfl|(refine .row rfl ?_; ((try dsimp only); first|rfl|omega|(simp only [lns] <;> omega)); done)|exact .fn rfl|exact .mp rfl|exact .frzOf (by first|(simp; done)|decide) rfl rfl (fun _ => rfl)))|exact .r (.of0 (.c .d))|refine .r ?_|exact .of0 (.c .d)|exact .of0 .ep|exact .clo|exact .of0 (.c .nil)|exact .of0 (.c (cr_rowO (by simp) rfl (by first|rfl|omega) (fun _ => rfl)))|refine .of0 (.agg ?_)|exact .d|exact .nil|exact .of0 (.c (cr_row (by decide) rfl rfl (by repeat' (first|exact trivial|refine ⟨?_, ?_⟩|rfl)))))) <;> fail) (by (repeat' (first|exact trivial|refine ⟨⟨_, rfl, ?_⟩, ?_⟩|exact .boxD rfl rfl|exact .rowD rfl rowOf_isD|exact .mapO (fun _ => rfl) rfl|exact .pin rfl|refine .box ?_|exact .nil|refine .cons ?_ ?_|exact .d|exact .ptr rfl|exact .row rfl rfl|(refine .row rfl ?_; ((try dsimp only); first|rfl|omega|(simp only [lns] <;> omega)); done)|exact .fn rfl|exact .mp rfl|exact .frzOf (by first|(simp; done)|decide) rfl rfl (fun _ => rfl))) <;> fail) rfl rfl rfl (by first|rfl|(simp only [List.all_cons, List.all_nil, rowOf_flatB]; rfl)) rfl (by first|rfl|(simp only [wfRes, wfL, wfArgs, wfs, mpO_namesB, mpO_namesI]; rfl)) rfl rfl rfl (by (simp only [newW, List.map_cons, List.map_nil, Blk.ren, C.ren, rowOf_ren, mpO_renB, mpO_renI, gW, memN, nmL, Nat.reduceBEq, Bool.or_false, Bool.or_true, Bool.false_or, Bool.true_or, cond_true, cond_false, Nat.reduceMul, Nat.reduceAdd]) <;> rfl) (by (simp only [AV.ren, AV.ren0, List.map_cons, List.map_nil, C.ren, gW, memN, nmL, Nat.reduceBEq, Bool.or_false, Bool.or_true, Bool.false_or, Bool.true_or, cond_true, cond_false, Nat.reduceMul, Nat.reduceAdd]) <;> rfl) rfl ?_))|(refine gO ?_; first|refine vr_nil ?_)|(refine gT ?_; first|refine q_then_n ?_)|(refine gK ?_; first|refine q_blk_n ?_)|refine vc_seq ?_|refine vc_region ?_|(show VC _ (.cond _ _ _) _ _; first|refine vc_cond_f rfl ?_)|refine vc_skip ?_)
                refine ⟨k + 1, ⟨hlt, hok hz⟩, by omega, ?_⟩
                rw [hst, show stepW W ⟨4, (i : Int), wh, co⟩ = ⟨W.st.set i (lose' (W.st.getD i default)), W.said⟩ from rfl]
                refine le_gen0 (fun n => if n = 101 then 91101 else if n = 102 then 91102 else n) ?_ ?_ rfl (by first|rfl|(simp only [wfL, wfs, mpO_namesB, mpO_namesI]; rfl))
                all_goals repeat' (first|exact trivial|refine ⟨⟨_, rfl, ?_⟩, ?_⟩|exact .c .d|exact .c (.ptr rfl)|exact .c (.mp rfl)|exact .pin rfl|exact .rowD rfl rowOf_isD|refine .box ?_|exact .nil|refine .cons ?_ ?_|exact .row rfl rfl|fail)
                exact mapR_bw
              · have hc := wrenew_spec W.st W.said i 5 wh co hi (by omega) (by omega)
                repeat' (first|(refine gR ?_; first|(show VR _ _ _ (⟨_, .call ⟨.value (.tmp _), _, _⟩, _, _, _, _⟩ :: _) _ _ _; refine vr_bound (z := .tmp 6) (pn := 9100) rfl rfl rfl ?_)|(show VR _ _ _ (⟨_, .binOp .eql _ _ (.const .nilFunc) _, _, _, _, _⟩ :: _) _ _ _; first|refine vr_eqlRaw (by kernel_rfl) (gk rfl) rfl rfl ?_)|(show VR _ _ _ (⟨_, .lookup _ _ _ false, _, _, _, _⟩ :: _) _ _ _; first|refine vr_lookupF (gk rfl) rfl rfl rfl rfl rfl rfl rfl rfl ?_)|refine x_opF rfl (by first|exact True.intro|omega) ?_|(refine gC ?_; first|refine vr_calldU (hr0) (gk rfl) rfl rfl rfl (by first|rfl|(simp only [wfRes, wfL, wfArgs, wfs, mpO_namesB, mpO_namesI]; rfl)) rfl (by first|exact newB_nil|exact newB_O|((simp only [newB, List.map_cons, List.map_nil, Blk.shift, rowOf_shift]) <;> rfl)|rfl) rfl ?_|refine vr_callW (nmL []) [] [100] (hc) (gk rfl) rfl rfl (by (repeat' (first|exact .nil|refine .cons ?_ ?_|exact .w (.c (.ptr rfl)) rfl|exact .w (.c (.row rfl rfl)) rfl|exact .w (.c (.mp rfl)) rfl|exact .w (.c (.fn rfl)) rfl|exact .w (.rp rfl) rfl|(refine .w (.fncC ?_) rfl; repeat' (first|exact .nil|refine .cons ?_ ?_|exact .d|exact .ptr rfl|exact .row rfl rfl|(refine .row rfl ?_; ((try dsimp only); first|rfl|omega|(simp only [lns] <;> omega)); done)|exact .fn rfl|exact .mp rfl|exact .frzOf (by first|(simp; done)|decide) rfl rfl (fun _ => rfl)))|exact .r (.of0 (.c .d))|refine .r ?_|exact .of0 (.c .d)|exact .of0 .ep|exact .clo|exact .of0 (.c .nil)|exact .of0 (.c (cr_rowO (by simp) rfl (by first|rfl|omega) (fun _ => rfl)))|refine .of0 (.agg ?_)|exact .d|exact .nil|exact .of0 (.c (cr_row (by decide) rfl rfl (by repeat' (first|exact trivial|refine ⟨?_, ?_⟩|rfl)))))) <;> fail) (by (repeat' (first|exact trivial|refine ⟨⟨_, rfl, ?_⟩, ?_⟩|exact .boxD rfl rfl|exact .rowD rfl rowOf_isD|exact .mapO (fun _ => rfl) rfl|exact .pin rfl|refine .box ?_|exact .nil|refine .cons ?_ ?_|exact .d|exact .ptr rfl|exact .row rfl rfl|(refine .row rfl ?_; ((try dsimp only); first|rfl|omega|(simp only [lns] <;> omega)); done)|exact .fn rfl|exact .mp rfl|exact .frzOf (by first|(simp; done)|decide) rfl rfl (fun _ => rfl))) <;> fail) rfl rfl rfl (by first|rfl|(simp only [List.all_cons, List.all_nil, rowOf_flatB]; rfl)) rfl (by first|rfl|(simp only [wfRes, wfL, wfArgs, wfs, mpO_namesB, mpO_namesI]; rfl)) rfl rfl rfl (by (simp only [newW, List.map_cons, List.map_nil, Blk.ren, C.ren, rowOf_ren, mpO_renB, mpO_renI, gW, memN, nmL, Nat.reduceBEq, Bool.or_false, Bool.or_true, Bool.false_or, Bool.true_or, cond_true, cond_false, Nat.reduceMul, Nat.reduceAdd]) <;> rfl) (by (simp only [AV.ren, AV.ren0, List.map_cons, List.map_nil, C.ren, gW, memN, nmL, Nat.reduceBEq, Bool.or_false, Bool.or_true, Bool.false_or, Bool.true_or, cond_true, cond_false, Nat.reduceMul, Nat.reduceAdd]) <;> rfl) rfl ?_))|(refine gO ?_; first|refine vr_nil ?_)|(refine gT ?_; first|refine q_then_n ?_)|(refine gK ?_; first|refine q_blk_n ?_)|refine vc_seq ?_|refine vc_region ?_|(show VC _ (.cond _ _ _) _ _; first|refine vc_cond_f rfl ?_)|refine vc_skip ?_)
                refine ⟨k + 1, ⟨hlt, hok hz⟩, by omega, ?_⟩
                rw [hst, show stepW W ⟨5, (i : Int), wh, co⟩ = ⟨renS W.st i, W.said⟩ from rfl]
                refine le_gen0 (fun n => if n = 101 then 91101 else if n = 102 then 91102 else n) ?_ ?_ rfl (by first|rfl|(simp only [wfL, wfs, mpO_namesB, mpO_namesI]; rfl))
                all_goals repeat' (first|exact trivial|refine ⟨⟨_, rfl, ?_⟩, ?_⟩|exact .c .d|exact .c (.ptr rfl)|exact .c (.mp rfl)|exact .pin rfl|exact .rowD rfl rowOf_isD|refine .box ?_|exact .nil|refine .cons ?_ ?_|exact .row rfl rfl|fail)
                exact mapR_bw
            · have e1 : playM n l = ([], 2) := by
                have h1 : evErr n ⟨kd, nd, wh, co⟩ = 2 := by
                  show (if _ then _ else _ : Int) = 2
                  rw [if_neg (by simpa using hk1), if_pos (by
                    by_cases h1 : 0 <= nd /\ nd < n
                    · right
                      by_cases h2 : kd = 2
                      · refine ⟨h2, ?_⟩
                        by_cases h3 : wh < 0
                        · exact .inl h3
                        · exact .inr fun h4 => hk2 ⟨h1, fun _ => ⟨by omega, h4⟩⟩
                      · exact absurd ⟨h1, fun h => absurd h h2⟩ hk2
                    · exact .inl h1)]
                rw [her (by rw [h1]; decide), h1]
              rw [e1]
              have hr0 := rwithin_spec nd 0 ((n : Int) - 1)
              by_cases hnd : 0 <= nd /\ nd < n
              · rw [show inR nd 0 ((n : Int) - 1) = true from decide_eq_true (by omega)] at hr0
                have hkd : kd = 2 := by
                  by_cases h2 : kd = 2
                  · exact h2
                  · exact absurd ⟨hnd, fun h => absurd h h2⟩ hk2
                subst hkd
                have hr1 := rwithin_spec co 1 1023
                by_cases hwh : wh < 0
                · have d2 : decide (wh < 0) = true := decide_eq_true hwh
                  repeat' (first|(refine gR ?_; first|(show VR _ _ _ (⟨_, .binOp .eql _ _ (.const .nilFunc) _, _, _, _, _⟩ :: _) _ _ _; first|refine vr_eqlRaw (by kernel_rfl) (gk rfl) rfl rfl ?_)|(show VR _ _ _ (⟨_, .lookup _ _ _ false, _, _, _, _⟩ :: _) _ _ _; first|refine vr_lookupF (gk rfl) rfl rfl rfl rfl rfl rfl rfl rfl ?_)|refine x_opF rfl (by first|exact True.intro|omega) ?_|(refine gC ?_; first|refine vr_calldU (hr0) (gk rfl) rfl rfl rfl (by first|rfl|(simp only [wfRes, wfL, wfArgs, wfs, mpO_namesB, mpO_namesI]; rfl)) rfl (by first|exact newB_nil|exact newB_O|((simp only [newB, List.map_cons, List.map_nil, Blk.shift, rowOf_shift]) <;> rfl)|rfl) rfl ?_)|refine x_gknow rfl (by assumption) ?_)|(refine gO ?_; first|refine vr_nil ?_)|(refine gT ?_; first|refine q_then_n ?_|refine q_then_r ?_)|(refine gK ?_; first|refine q_blk_r ?_)|refine vc_seq ?_|refine vc_region ?_|(show VC _ (.cond _ _ _) _ _; first|refine vc_cond_t rfl ?_|refine vc_cond_f rfl ?_)|refine vc_ret ?_|refine vc_skip ?_)
                  refine retL_of (le_gen0 (l := [(4, AD (rks [])), (5, AI 2)]) (b := []) (fun n => n) ?_ ?_ rfl (by first|rfl|(simp only [wfL, wfs, mpO_namesB, mpO_namesI]; rfl))) (ret_d2 isRet_r rfl rfl rfl rfl)
                  all_goals repeat' (first|exact trivial|refine ⟨⟨_, rfl, ?_⟩, ?_⟩|exact .c .d|exact .c .nil|fail)
                · have d2 : decide (wh < 0) = false := decide_eq_false hwh
                  rw [show inR co 1 1023 = false from decide_eq_false (fun h4 => hk2 ⟨hnd, fun _ => ⟨by omega, h4⟩⟩)] at hr1
                  repeat' (first|(refine gR ?_; first|(show VR _ _ _ (⟨_, .binOp .eql _ _ (.const .nilFunc) _, _, _, _, _⟩ :: _) _ _ _; first|refine vr_eqlRaw (by kernel_rfl) (gk rfl) rfl rfl ?_)|(show VR _ _ _ (⟨_, .lookup _ _ _ false, _, _, _, _⟩ :: _) _ _ _; first|refine vr_lookupF (gk rfl) rfl rfl rfl rfl rfl rfl rfl rfl ?_)|refine x_opF rfl (by first|exact True.intro|omega) ?_|(refine gC ?_; first|refine vr_calldU (hr0) (gk rfl) rfl rfl rfl (by first|rfl|(simp only [wfRes, wfL, wfArgs, wfs, mpO_namesB, mpO_namesI]; rfl)) rfl (by first|exact newB_nil|exact newB_O|((simp only [newB, List.map_cons, List.map_nil, Blk.shift, rowOf_shift]) <;> rfl)|rfl) rfl ?_|refine vr_calldU (hr1) (gk rfl) rfl rfl rfl (by first|rfl|(simp only [wfRes, wfL, wfArgs, wfs, mpO_namesB, mpO_namesI]; rfl)) rfl (by first|exact newB_nil|exact newB_O|((simp only [newB, List.map_cons, List.map_nil, Blk.shift, rowOf_shift]) <;> rfl)|rfl) rfl ?_)|refine x_gknow rfl (by assumption) ?_)|(refine gO ?_; first|refine vr_nil ?_)|(refine gT ?_; first|refine q_then_n ?_|refine q_then_r ?_)|(refine gK ?_; first|refine q_blk_r ?_)|refine vc_seq ?_|refine vc_region ?_|(show VC _ (.cond _ _ _) _ _; first|refine vc_cond_t rfl ?_|refine vc_cond_f rfl ?_)|refine vc_ret ?_|refine vc_skip ?_)
                  refine retL_of (le_gen0 (l := [(4, AD (rks [])), (5, AI 2)]) (b := []) (fun n => n) ?_ ?_ rfl (by first|rfl|(simp only [wfL, wfs, mpO_namesB, mpO_namesI]; rfl))) (ret_d2 isRet_r rfl rfl rfl rfl)
                  all_goals repeat' (first|exact trivial|refine ⟨⟨_, rfl, ?_⟩, ?_⟩|exact .c .d|exact .c .nil|fail)
              · rw [show inR nd 0 ((n : Int) - 1) = false from decide_eq_false (by omega)] at hr0
                rcases (show kd = 1 \/ kd = 2 \/ kd = 3 \/ kd = 4 \/ kd = 5 by omega) with rfl | rfl | rfl | rfl | rfl
                · repeat' (first|(refine gR ?_; first|(show VR _ _ _ (⟨_, .binOp .eql _ _ (.const .nilFunc) _, _, _, _, _⟩ :: _) _ _ _; first|refine vr_eqlRaw (by kernel_rfl) (gk rfl) rfl rfl ?_)|(show VR _ _ _ (⟨_, .lookup _ _ _ false, _, _, _, _⟩ :: _) _ _ _; first|refine vr_lookupF (gk rfl) rfl rfl rfl rfl rfl rfl rfl rfl ?_)|refine x_opF rfl (by first|exact True.intro|omega) ?_|(refine gC ?_; first|refine vr_calldU (hr0) (gk rfl) rfl rfl rfl (by first|rfl|(simp only [wfRes, wfL, wfArgs, wfs, mpO_namesB, mpO_namesI]; rfl)) rfl (by first|exact newB_nil|exact newB_O|((simp only [newB, List.map_cons, List.map_nil, Blk.shift, rowOf_shift]) <;> rfl)|rfl) rfl ?_))|(refine gO ?_; first|refine vr_nil ?_)|(refine gT ?_; first|refine q_then_n ?_|refine q_then_r ?_)|(refine gK ?_; first|refine q_blk_r ?_)|refine vc_seq ?_|refine vc_region ?_|(show VC _ (.cond _ _ _) _ _; first|refine vc_cond_t rfl ?_|refine vc_cond_f rfl ?_)|refine vc_ret ?_|refine vc_skip ?_)
                  refine retL_of (le_gen0 (l := [(4, AD (rks [])), (5, AI 2)]) (b := []) (fun n => n) ?_ ?_ rfl (by first|rfl|(simp only [wfL, wfs, mpO_namesB, mpO_namesI]; rfl))) (ret_d2 isRet_r rfl rfl rfl rfl)
                  all_goals repeat' (first|exact trivial|refine ⟨⟨_, rfl, ?_⟩, ?_⟩|exact .c .d|exact .c .nil|fail)
                · repeat' (first|(refine gR ?_; first|(show VR _ _ _ (⟨_, .binOp .eql _ _ (.const .nilFunc) _, _, _, _, _⟩ :: _) _ _ _; first|refine vr_eqlRaw (by kernel_rfl) (gk rfl) rfl rfl ?_)|(show VR _ _ _ (⟨_, .lookup _ _ _ false, _, _, _, _⟩ :: _) _ _ _; first|refine vr_lookupF (gk rfl) rfl rfl rfl rfl rfl rfl rfl rfl ?_)|refine x_opF rfl (by first|exact True.intro|omega) ?_|(refine gC ?_; first|refine vr_calldU (hr0) (gk rfl) rfl rfl rfl (by first|rfl|(simp only [wfRes, wfL, wfArgs, wfs, mpO_namesB, mpO_namesI]; rfl)) rfl (by first|exact newB_nil|exact newB_O|((simp only [newB, List.map_cons, List.map_nil, Blk.shift, rowOf_shift]) <;> rfl)|rfl) rfl ?_))|(refine gO ?_; first|refine vr_nil ?_)|(refine gT ?_; first|refine q_then_n ?_|refine q_then_r ?_)|(refine gK ?_; first|refine q_blk_r ?_)|refine vc_seq ?_|refine vc_region ?_|(show VC _ (.cond _ _ _) _ _; first|refine vc_cond_t rfl ?_|refine vc_cond_f rfl ?_)|refine vc_ret ?_|refine vc_skip ?_)
                  refine retL_of (le_gen0 (l := [(4, AD (rks [])), (5, AI 2)]) (b := []) (fun n => n) ?_ ?_ rfl (by first|rfl|(simp only [wfL, wfs, mpO_namesB, mpO_namesI]; rfl))) (ret_d2 isRet_r rfl rfl rfl rfl)
                  all_goals repeat' (first|exact trivial|refine ⟨⟨_, rfl, ?_⟩, ?_⟩|exact .c .d|exact .c .nil|fail)
                · repeat' (first|(refine gR ?_; first|(show VR _ _ _ (⟨_, .binOp .eql _ _ (.const .nilFunc) _, _, _, _, _⟩ :: _) _ _ _; first|refine vr_eqlRaw (by kernel_rfl) (gk rfl) rfl rfl ?_)|(show VR _ _ _ (⟨_, .lookup _ _ _ false, _, _, _, _⟩ :: _) _ _ _; first|refine vr_lookupF (gk rfl) rfl rfl rfl rfl rfl rfl rfl rfl ?_)|refine x_opF rfl (by first|exact True.intro|omega) ?_|(refine gC ?_; first|refine vr_calldU (hr0) (gk rfl) rfl rfl rfl (by first|rfl|(simp only [wfRes, wfL, wfArgs, wfs, mpO_namesB, mpO_namesI]; rfl)) rfl (by first|exact newB_nil|exact newB_O|((simp only [newB, List.map_cons, List.map_nil, Blk.shift, rowOf_shift]) <;> rfl)|rfl) rfl ?_))|(refine gO ?_; first|refine vr_nil ?_)|(refine gT ?_; first|refine q_then_n ?_|refine q_then_r ?_)|(refine gK ?_; first|refine q_blk_r ?_)|refine vc_seq ?_|refine vc_region ?_|(show VC _ (.cond _ _ _) _ _; first|refine vc_cond_t rfl ?_|refine vc_cond_f rfl ?_)|refine vc_ret ?_|refine vc_skip ?_)
                  refine retL_of (le_gen0 (l := [(4, AD (rks [])), (5, AI 2)]) (b := []) (fun n => n) ?_ ?_ rfl (by first|rfl|(simp only [wfL, wfs, mpO_namesB, mpO_namesI]; rfl))) (ret_d2 isRet_r rfl rfl rfl rfl)
                  all_goals repeat' (first|exact trivial|refine ⟨⟨_, rfl, ?_⟩, ?_⟩|exact .c .d|exact .c .nil|fail)
                · repeat' (first|(refine gR ?_; first|(show VR _ _ _ (⟨_, .binOp .eql _ _ (.const .nilFunc) _, _, _, _, _⟩ :: _) _ _ _; first|refine vr_eqlRaw (by kernel_rfl) (gk rfl) rfl rfl ?_)|(show VR _ _ _ (⟨_, .lookup _ _ _ false, _, _, _, _⟩ :: _) _ _ _; first|refine vr_lookupF (gk rfl) rfl rfl rfl rfl rfl rfl rfl rfl ?_)|refine x_opF rfl (by first|exact True.intro|omega) ?_|(refine gC ?_; first|refine vr_calldU (hr0) (gk rfl) rfl rfl rfl (by first|rfl|(simp only [wfRes, wfL, wfArgs, wfs, mpO_namesB, mpO_namesI]; rfl)) rfl (by first|exact newB_nil|exact newB_O|((simp only [newB, List.map_cons, List.map_nil, Blk.shift, rowOf_shift]) <;> rfl)|rfl) rfl ?_))|(refine gO ?_; first|refine vr_nil ?_)|(refine gT ?_; first|refine q_then_n ?_|refine q_then_r ?_)|(refine gK ?_; first|refine q_blk_r ?_)|refine vc_seq ?_|refine vc_region ?_|(show VC _ (.cond _ _ _) _ _; first|refine vc_cond_t rfl ?_|refine vc_cond_f rfl ?_)|refine vc_ret ?_|refine vc_skip ?_)
                  refine retL_of (le_gen0 (l := [(4, AD (rks [])), (5, AI 2)]) (b := []) (fun n => n) ?_ ?_ rfl (by first|rfl|(simp only [wfL, wfs, mpO_namesB, mpO_namesI]; rfl))) (ret_d2 isRet_r rfl rfl rfl rfl)
                  all_goals repeat' (first|exact trivial|refine ⟨⟨_, rfl, ?_⟩, ?_⟩|exact .c .d|exact .c .nil|fail)
                · repeat' (first|(refine gR ?_; first|(show VR _ _ _ (⟨_, .binOp .eql _ _ (.const .nilFunc) _, _, _, _, _⟩ :: _) _ _ _; first|refine vr_eqlRaw (by kernel_rfl) (gk rfl) rfl rfl ?_)|(show VR _ _ _ (⟨_, .lookup _ _ _ false, _, _, _, _⟩ :: _) _ _ _; first|refine vr_lookupF (gk rfl) rfl rfl rfl rfl rfl rfl rfl rfl ?_)|refine x_opF rfl (by first|exact True.intro|omega) ?_|(refine gC ?_; first|refine vr_calldU (hr0) (gk rfl) rfl rfl rfl (by first|rfl|(simp only [wfRes, wfL, wfArgs, wfs, mpO_namesB, mpO_namesI]; rfl)) rfl (by first|exact newB_nil|exact newB_O|((simp only [newB, List.map_cons, List.map_nil, Blk.shift, rowOf_shift]) <;> rfl)|rfl) rfl ?_))|(refine gO ?_; first|refine vr_nil ?_)|(refine gT ?_; first|refine q_then_n ?_|refine q_then_r ?_)|(refine gK ?_; first|refine q_blk_r ?_)|refine vc_seq ?_|refine vc_region ?_|(show VC _ (.cond _ _ _) _ _; first|refine vc_cond_t rfl ?_|refine vc_cond_f rfl ?_)|refine vc_ret ?_|refine vc_skip ?_)
                  refine retL_of (le_gen0 (l := [(4, AD (rks [])), (5, AI 2)]) (b := []) (fun n => n) ?_ ?_ rfl (by first|rfl|(simp only [wfL, wfs, mpO_namesB, mpO_namesI]; rfl))) (ret_d2 isRet_r rfl rfl rfl rfl)
                  all_goals repeat' (first|exact trivial|refine ⟨⟨_, rfl, ?_⟩, ?_⟩|exact .c .d|exact .c .nil|fail)
          · repeat' (first|(refine gR ?_; first|(show VR _ _ _ (⟨_, .lookup _ _ _ false, _, _, _, _⟩ :: _) _ _ _; first|refine vr_lookupF (gk rfl) rfl rfl rfl rfl rfl rfl rfl rfl ?_)|refine x_opF rfl (by first|exact True.intro|omega) ?_)|refine vc_seq ?_|refine vc_region ?_)
            show VR _ _ _ (⟨_, .binOp .eql _ _ (.const .nilFunc) _, _, _, _, _⟩ :: _) _ _ _
            refine vr_eqlFn0 (by kernel_rfl) (gk rfl) (by
              show some (AV.c ((lookK (mapR r) [kd]).getD (C.d (.raw .nilFunc)))) = _
              rw [mapR_none hk1]
              rfl) rfl ?_
            have e1 : playM n l = ([], 1) := by
              have h1 : evErr n ⟨kd, nd, wh, co⟩ = 1 := if_pos hk1
              rw [her (by rw [h1]; decide), h1]
            rw [e1]
            repeat' (first|(refine gR ?_; first|refine x_opF rfl (by first|exact True.intro|omega) ?_)|(refine gO ?_; first|refine vr_nil ?_)|(refine gT ?_; first|refine q_then_n ?_|refine q_then_r ?_)|(refine gK ?_; first|refine q_blk_r ?_)|refine vc_seq ?_|refine vc_region ?_|(show VC _ (.cond _ _ _) _ _; first|refine vc_cond_t rfl ?_)|refine vc_ret ?_)
            refine retL_of (le_gen0 (l := [(4, AD (rks [])), (5, AI 1)]) (b := []) (fun n => n) ?_ ?_ rfl (by first|rfl|(simp only [wfL, wfs, mpO_namesB, mpO_namesI]; rfl))) (ret_d2 isRet_r rfl rfl rfl rfl)
            all_goals repeat' (first|exact trivial|refine ⟨⟨_, rfl, ?_⟩, ?_⟩|exact .c .d|exact .c .nil|fail)
        · have dlt : decide ((k : Int) < (l.length : Int)) = false := decide_eq_false (by omega)
          have hk' : k = l.length := by omega
          subst hk'
          have e1 : playM n l = ((playW n l l.length).st, 0) := by
            have h1 := firstErr_none (f := fun i => evErr n (l.getD i default)) hk.2
            rw [playM, h1, if_neg (by simp)]
          rw [e1]
          repeat' (first|(refine gR ?_; first|refine x_opF rfl (by first|exact True.intro|omega) ?_|(refine gN ?_; first|refine vr_nilCheck_ptr (gk rfl) rfl rfl ?_))|(refine gO ?_; first|refine vr_nil ?_)|(refine gT ?_; first|refine q_then_n ?_|refine q_then_x ?_)|(refine gK ?_; first|refine q_blk_x ?_)|refine vc_seq ?_|refine vc_region ?_|(show VC _ (.cond _ _ _) _ _; first|refine vc_cond_f rfl ?_|refine x_know rfl (by assumption) ?_)|refine vc_ret ?_|refine vc_exit ?_)
          refine retL_of (le_gen (l := [(4, AD (rks (playW n l l.length).st)), (5, AI 0)]) (b := []) (fun n => n) [101] hS ?_ ?_ rfl (by first|rfl|(simp only [wfL, wfs, mpO_namesB, mpO_namesI]; rfl))) (ret_d2 isRet_r rfl rfl rfl rfl)
          all_goals repeat' (first|exact trivial|refine ⟨⟨_, rfl, ?_⟩, ?_⟩|exact .c .d|exact .c (.frzOf (by first|(simp; done)|decide) rfl rfl (fun _ => rfl))|fail)
end Go.Proofs.R
end
section
namespace Go.Proofs.R
open Go Go.Sx Go.Proofs.P
set_option maxRecDepth 4000
attribute [local irreducible] VR VC thenQ blockQ retL
set_option maxHeartbeats 2000000 in
theorem make_spec (nd ep rk slot : Nat) (p h le : Int) (h0 : nd <= 31) (h1 : slot <= 109951162) (h2 : rk <= 65534) (h3 : ep <= 65535) :
    FnS Tryz.prog 121 [rkA ⟨nd, ep, p, h, rk, le⟩, AI 0, AI 0, AI slot, ofoA true] [] (.tup [frA (bcn nd slot rk ep (offS true)), AI 0]) [] := by
  have hc := checkF_spec (bcn nd slot rk ep (offS true))
  rw [bcn_ok h0 h1 (by omega) h3] at hc
  have d1 : decide ((65535 : Int) <= (rk : Int)) = false := decide_eq_false (by omega)
  refine FnS.of_body (enters_of Tryz.func121 (by kernel_rfl) rfl) Tryz.func121 rfl Tryz.ntmps121 Tryz.results121 rfl rfl rfl rfl fun E hS => ?_
  repeat' (first|(refine gR ?_; first|refine x_opF rfl (by first|exact True.intro|omega) ?_|(refine gC ?_; first|refine vr_calldU (oenc_spec true) (gk rfl) rfl rfl rfl (by first|rfl|(simp only [wfRes, wfL, wfArgs, wfs, mpO_namesB, mpO_namesI]; rfl)) rfl (by first|exact newB_nil|exact newB_O|((simp only [newB, List.map_cons, List.map_nil, Blk.shift, rowOf_shift]) <;> rfl)|rfl) rfl ?_|refine vr_calldU (hc) (gk rfl) rfl rfl rfl (by first|rfl|(simp only [wfRes, wfL, wfArgs, wfs, mpO_namesB, mpO_namesI]; rfl)) rfl (by first|exact newB_nil|exact newB_O|((simp only [newB, List.map_cons, List.map_nil, Blk.shift, rowOf_shift]) <;> rfl)|rfl) rfl ?_))|(refine gO ?_; first|refine vr_nil ?_)|(refine gT ?_; first|refine q_then_n ?_)|refine vc_seq ?_|refine vc_region ?_|(show VC _ (.cond _ _ _) _ _; first|refine vc_cond_f rfl ?_|refine x_know rfl (by assumption) ?_)|refine vc_ret ?_|refine vc_skip ?_)
  exact ret_agg_d isRet_r rfl rfl rfl rfl rfl rfl rfl
noncomputable def sayS (nd slot rk ep : Nat) : ByteArray := protP (bcnS nd slot rk ep (offS true))
theorem announced_spec (nd ep rk slot : Nat) (p h le : Int) (h0 : nd <= 31) (h1 : slot <= 109951162) (h2 : rk <= 65534) (h3 : ep <= 65535) :
    FnS Tryz.prog 49 [rkA ⟨nd, ep, p, h, rk, le⟩, AI slot] [] (.tup [AD (.str (sayS nd slot rk ep)), AI 0]) [] := by
  have hm := make_spec nd ep rk slot p h le h0 h1 h2 h3
  have he := fenc_spec nd slot rk ep (offS true) h0 h1 (by omega) h3 (by rw [offS_size]; decide)
  refine FnS.of_body (enters_of Tryz.func49 (by kernel_rfl) rfl) Tryz.func49 rfl Tryz.ntmps49 Tryz.results49 rfl rfl rfl rfl fun E hS => ?_
  repeat' (first|(refine gR ?_; first|refine x_opF rfl (by first|exact True.intro|omega) ?_|(refine gC ?_; first|refine vr_calldU (hm) (gk rfl) rfl rfl rfl (by first|rfl|(simp only [wfRes, wfL, wfArgs, wfs, mpO_namesB, mpO_namesI]; rfl)) rfl (by first|exact newB_nil|exact newB_O|((simp only [newB, List.map_cons, List.map_nil, Blk.shift, rowOf_shift]) <;> rfl)|rfl) rfl ?_|refine vr_calldU (he) (gk rfl) rfl rfl rfl (by first|rfl|(simp only [wfRes, wfL, wfArgs, wfs, mpO_namesB, mpO_namesI]; rfl)) rfl (by first|exact newB_nil|exact newB_O|((simp only [newB, List.map_cons, List.map_nil, Blk.shift, rowOf_shift]) <;> rfl)|rfl) rfl ?_))|(refine gO ?_; first|refine vr_nil ?_)|(refine gT ?_; first|refine q_then_n ?_)|refine vc_seq ?_|refine vc_region ?_|(show VC _ (.cond _ _ _) _ _; first|refine vc_cond_f rfl ?_)|refine vc_ret ?_|refine vc_skip ?_)
  exact ret_d2 isRet_r rfl rfl rfl rfl
theorem said_spec (nd ep rk slot : Nat) (h0 : nd <= 31) (h1 : slot <= 109951162) (h2 : rk <= 65534) (h3 : ep <= 65535) :
    FnS Tryz.prog 50 [AD (.str (sayS nd slot rk ep))] [] (.tup [frA (bcn nd slot rk ep (offS true)), AI 0]) [] :=
  fdec_spec nd slot rk ep (offS true) h0 h1 (by omega) h3 (by rw [offS_size]; decide)
end Go.Proofs.R
end
section
namespace Go.Proofs
open Go Go.Sx Go.Proofs.T Go.Proofs.Q
set_option maxRecDepth 4000
attribute [local irreducible] VR VC thenQ blockQ retL
def wenc (s : Sta) (slot : Int) (c : TC) : List D := [.int .i64 s.tb.node, .int .i64 s.tb.len, tcs s.tb.cells, .int .i64 s.qu.limit, pks s.qu.packets, hds s.held, sns s.seen,
  .int .i64 s.list, .int .i64 s.seq, .int .i64 s.trying, .int .i64 s.tries, .int .i64 s.back, .int .i64 s.wait, .int .i64 s.seed, .int .i64 slot,
  .int .i64 c.slot, .int .i64 c.offset, .int .i64 c.kind, .bool c.send, .int .i64 c.peer, .int .i64 c.flow]
abbrev wG (s : Sta) (slot : Int) (c : TC) : Nat -> D := fun j => (wenc s slot c).getD j .nils
abbrev wP (s : Sta) (slot : Int) (c : TC) : AV := AD (.pt 21 (wG s slot c))
abbrev predφHd (p : Hd -> Bool) : List DV -> DV -> Prop := fun ds r => ∃ x : Hd, ds = [.agg x.enc] /\ r = .d (.bool (p x))
abbrev predφTC (p : TC -> Bool) : List DV -> DV -> Prop := fun ds r => ∃ x : TC, ds = [.agg x.enc] /\ r = .d (.bool (p x))
end Go.Proofs
end
section
namespace Go.Proofs
open Go Go.Sx Go.Proofs.T Go.Proofs.Q
set_option maxRecDepth 4000
attribute [local irreducible] VR VC thenQ blockQ retL
abbrev IntE := Int
abbrev IntE.enc (x : Int) : List D := [.int .i64 x]
end Go.Proofs
end
section
namespace Go.Proofs.R
open Go Go.Sx Go.Proofs.P
set_option maxRecDepth 4000
attribute [local irreducible] VR VC thenQ blockQ retL
theorem ex_start : startM 0 = (⟨0, 1, -1, 0, 0, 65535⟩, 0) /\ startM 2 = (⟨2, 0, -1, 65535, 65535, 65535⟩, 0) := by decide +kernel
theorem ex_hear : hearM [] 0 1 0 3 = ([⟨0, 1, 0, 3, 0, 0⟩], 0) := by decide +kernel
theorem ex_sel : select' [⟨0, 1, 0, 3, 0, 0⟩] ⟨2, 0, -1, 65535, 65535, 65535⟩ 9 = (⟨2, 1, 0, 0, 256, 65535⟩, true, 0) := by decide +kernel
theorem ex_rou : D.rouM [⟨2, 0, 1⟩] 2 = ([0, 2], 0) := by decide +kernel
set_option maxHeartbeats 2000000 in
theorem works_spec : FnS Tryz.prog 16 [] [] (AB true) [] := by
  have h1 := start_spec 0
  have h2 := start_spec 2
  rw [ex_start.1] at h1
  rw [ex_start.2] at h2
  have h3 := announced_spec 0 1 0 0 (-1) 0 65535 (by decide) (by decide) (by decide) (by decide)
  have h4 := said_spec 0 1 0 0 (by decide) (by decide) (by decide) (by decide)
  have h5 := hear_spec [] 0 1 0 3
  rw [ex_hear] at h5
  have h6 := select_spec [⟨0, 1, 0, 3, 0, 0⟩] ⟨2, 0, -1, 65535, 65535, 65535⟩ 9
  rw [ex_sel] at h6
  have h7 := D.routeS_spec [⟨2, 0, 1⟩] 2
  rw [ex_rou] at h7
  have h8 := D.equalI_spec [0, 2] [0, 2]
  generalize sayS 0 0 0 1 = S at *
  refine FnS.of_body (enters_of Tryz.func16 (by kernel_rfl) rfl) Tryz.func16 rfl Tryz.ntmps16 Tryz.results16 rfl rfl rfl rfl fun E hS => ?_
  repeat' (first|(refine gR ?_; first|refine x_opF rfl (by first|exact True.intro|omega) ?_|(refine gC ?_; first|refine vr_calldU (h1) (gk rfl) rfl rfl rfl (by first|rfl|(simp only [wfRes, wfL, wfArgs, wfs, mpO_namesB, mpO_namesI]; rfl)) rfl (by first|exact newB_nil|exact newB_O|((simp only [newB, List.map_cons, List.map_nil, Blk.shift, rowOf_shift]) <;> rfl)|rfl) rfl ?_|refine vr_calldU (h2) (gk rfl) rfl rfl rfl (by first|rfl|(simp only [wfRes, wfL, wfArgs, wfs, mpO_namesB, mpO_namesI]; rfl)) rfl (by first|exact newB_nil|exact newB_O|((simp only [newB, List.map_cons, List.map_nil, Blk.shift, rowOf_shift]) <;> rfl)|rfl) rfl ?_|refine vr_calldU (h3) (gk rfl) rfl rfl rfl (by first|rfl|(simp only [wfRes, wfL, wfArgs, wfs, mpO_namesB, mpO_namesI]; rfl)) rfl (by first|exact newB_nil|exact newB_O|((simp only [newB, List.map_cons, List.map_nil, Blk.shift, rowOf_shift]) <;> rfl)|rfl) rfl ?_|refine vr_calldU (h4) (gk rfl) rfl rfl rfl (by first|rfl|(simp only [wfRes, wfL, wfArgs, wfs, mpO_namesB, mpO_namesI]; rfl)) rfl (by first|exact newB_nil|exact newB_O|((simp only [newB, List.map_cons, List.map_nil, Blk.shift, rowOf_shift]) <;> rfl)|rfl) rfl ?_|refine vr_calldU (h6) (gk rfl) rfl rfl rfl (by first|rfl|(simp only [wfRes, wfL, wfArgs, wfs, mpO_namesB, mpO_namesI]; rfl)) rfl (by first|exact newB_nil|exact newB_O|((simp only [newB, List.map_cons, List.map_nil, Blk.shift, rowOf_shift]) <;> rfl)|rfl) rfl ?_|refine vr_callU [] (h5) (gk rfl) rfl (by (repeat' (first|exact .nil|refine .cons ?_ ?_|exact .of0 (.c .d)|exact .of0 .ep|exact .clo|exact .of0 (.c .nil)|exact .of0 (.c (cr_rowO (by simp) rfl (by first|rfl|omega) (fun _ => rfl)))|refine .of0 (.agg ?_)|exact .d|exact .nil|exact .of0 (.c (cr_row (by decide) rfl rfl (by repeat' (first|exact trivial|refine ⟨?_, ?_⟩|rfl)))))) <;> fail) (by first|rfl|exact hfl_O (fun _ => rfl)|exact hfl_O2 rfl (fun _ => rfl)) rfl (by first|rfl|(simp only [wfRes, wfL, wfArgs, wfs, mpO_namesB, mpO_namesI]; rfl)) rfl (by first|exact newB_nil|exact newB_O|((simp only [newB, List.map_cons, List.map_nil, Blk.shift, rowOf_shift]) <;> rfl)|rfl) rfl ?_|refine vr_callU [85] (h8) (gk rfl) rfl (by (repeat' (first|exact .nil|refine .cons ?_ ?_|exact .of0 (.c .d)|exact .of0 .ep|exact .clo|exact .of0 (.c .nil)|exact .of0 (.c (cr_rowO (by simp) rfl (by first|rfl|omega) (fun _ => rfl)))|refine .of0 (.agg ?_)|exact .d|exact .nil|exact .of0 (.c (cr_row (by decide) rfl rfl (by repeat' (first|exact trivial|refine ⟨?_, ?_⟩|rfl)))))) <;> fail) (by first|rfl|exact hfl_O (fun _ => rfl)|exact hfl_O2 rfl (fun _ => rfl)) rfl (by first|rfl|(simp only [wfRes, wfL, wfArgs, wfs, mpO_namesB, mpO_namesI]; rfl)) rfl (by first|exact newB_nil|exact newB_O|((simp only [newB, List.map_cons, List.map_nil, Blk.shift, rowOf_shift]) <;> rfl)|rfl) rfl ?_|refine vr_callZ (nmL []) [52] [] (FnS.toW (h7)) (gk rfl) rfl rfl (by (repeat' (first|exact .nil|refine .cons ?_ ?_|exact .w (.c (.ptr rfl)) rfl|exact .w (.c (.row rfl rfl)) rfl|exact .w (.c (.mp rfl)) rfl|exact .w (.c (.fn rfl)) rfl|exact .w (.rp rfl) rfl|(refine .w (.fncC ?_) rfl; repeat' (first|exact .nil|refine .cons ?_ ?_|exact .d|exact .ptr rfl|exact .row rfl rfl|(refine .row rfl ?_; ((try dsimp only); first|rfl|omega|(simp only [lns] <;> omega)); done)|exact .fn rfl|exact .mp rfl|exact .frzOf (by first|(simp; done)|decide) rfl rfl (fun _ => rfl)))|exact .r (.of0 (.c .d))|refine .r ?_|exact .of0 (.c .d)|exact .of0 .ep|exact .clo|exact .of0 (.c .nil)|exact .of0 (.c (cr_rowO (by simp) rfl (by first|rfl|omega) (fun _ => rfl)))|refine .of0 (.agg ?_)|exact .d|exact .nil|exact .of0 (.c (cr_row (by decide) rfl rfl (by repeat' (first|exact trivial|refine ⟨?_, ?_⟩|rfl)))))) <;> fail) trivial rfl rfl rfl hS rfl (by first|rfl|(simp only [wfRes, wfL, wfArgs, wfs, mpO_namesB, mpO_namesI]; rfl)) rfl rfl rfl rfl (by (simp only [newW, List.map_cons, List.map_nil, Blk.ren, C.ren, rowOf_ren, mpO_renB, mpO_renI, gW, memN, nmL, Nat.reduceBEq, Bool.or_false, Bool.or_true, Bool.false_or, Bool.true_or, cond_true, cond_false, Nat.reduceMul, Nat.reduceAdd]) <;> rfl) (by (simp only [AV.ren, AV.ren0, List.map_cons, List.map_nil, C.ren, gW, memN, nmL, Nat.reduceBEq, Bool.or_false, Bool.or_true, Bool.false_or, Bool.true_or, cond_true, cond_false, Nat.reduceMul, Nat.reduceAdd]) <;> rfl) rfl ?_)|(refine gB ?_; first|refine x_ariw rfl rfl rfl rfl rfl ?_))|(refine gO ?_; first|refine vr_nil ?_)|(refine gT ?_; first|refine q_then_n ?_)|refine vc_seq ?_|refine vc_region ?_|refine vc_ret ?_)
  refine ret_bool (t := 0) (b' := decide (([0, 2] : List Int) = [0, 2])) isRet_r ?_ ?_
  · rfl
  · rfl
end Go.Proofs.R
end
