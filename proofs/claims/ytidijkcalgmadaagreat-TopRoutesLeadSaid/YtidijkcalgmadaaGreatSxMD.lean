/-
  What functions of the given program hand back, by walks over its code, and plain laws on that. No condition.
-/
import Derived.Test.YtidijkcalgmadaaGreatSxLibC
import Derived.Test.YtidijkcalgmadaaGreatSxTtop
import Derived.RangeFuncNested
import Derived.RangeFuncBound
import Derived.RangeFuncCalls
import Derived.RangeFuncLeaves
import Derived.RangeFuncBox
import Derived.Maps.AppendAt
import Derived.Shelf.Abstract
import Derived.Shelf.RegionOpen
import Derived.OwnWalkIn
import Derived.TacticsInMore
import Derived.LoopNIn
import Derived.LoopIn
import Derived.Test.YtidijkcalgmadaaGreatSxLibB
set_option linter.unusedSimpArgs false
set_option linter.unusedVariables false
section
namespace Go.Proofs.D
open Go Go.Sx Go.RowKit Go.Shelf
attribute [local go_sem] Oper.semAt_some
theorem infoI : (Tryz.prog.info? 3).map (fun i => (i.zero, i.size, i.bytes)) = some (some (.int .i64 0), 1, 8) := by kernel_rfl
theorem appendSeq_calls {own : TypeId -> Prop} (h32 : ¬ own 74) (h3 : ¬ own 3) {g : Nat} {lb : Array Value} (eg : ∀ args w, (callFunc g args).run Tryz.prog w = .ok (.enter g args) w) {S : List Int -> Prop} {N : Nat} (hN : N <= 1000000) {w : World}
    (hseq : SeqT own Tryz.prog g lb (fun x : Int => #[.int .i64 x]) S N w) :
    Calls Tryz.prog 205 #[.slice none 0 0, .func (.func g) #[] lb] w fun e w' => ∃ v xs, e = .returned v /\ S xs /\ w'.ownsRow w.heap.size 3 1 v xs.length (xs.map fun x => .int .i64 x) /\ (v = .slice none 0 0 ↔ xs = []) /\ Below w.heap.size w w' := by
  refine (callsIn_wide (n := 3)).1 ?_
  refine callsIn_of_wp_marks Tryz.func205 rfl trivial ?_ rfl
  simp only [Tryz.ntmps205, List.size_toArray, List.length_cons, List.length_nil, Nat.reduceAdd, Nat.reduceSub, Array.replicate_succ, Array.replicate_zero, List.push_toArray, List.append_toArray, List.nil_append, List.cons_append]
  gi_wp2
  have hB := Boxed.new w 74 (.slice none 0 0)
  have ht0 : Below w.heap.size w (w.alloc (.cells #[.slice none 0 0] 74)) := (Below.refl _ w).alloc (Nat.le_refl _) _
  refine wpIn_rangeFunc_T (gf := g) (lb := lb) rfl eg hseq ht0 (fun _ => rfl)
    (fun pre W => (∃ v, Boxed W w.heap.size 74 v /\ W.ownsRow w.heap.size 3 1 v pre.length (pre.map fun x => .int .i64 x) /\ (v = .slice none 0 0 ↔ pre = [])) /\ Below w.heap.size w W)
    ?hI ?h0 (fun x => { tmps := #[.slice none 0 0, .func (.func g) #[] lb, .pointer (some ⟨w.heap.size, 0, none⟩), undef, .slice none 0 0, .int .i64 x, .func (.func g) #[] lb, .int .i64 x, undef, undef, undef, undef, undef], defers := [] }) ?assign ?body ?done
  case hI =>
    rintro s W0 W1 ⟨⟨v, hv, hrow, hnil⟩, hbel⟩ ht
    have hne : ∀ b us T fz, W0.heap[b]? = some (Obj.cells us T fz) -> ¬ own T -> W1.heap[b]? = some (Obj.cells us T fz) := fun b us T fz hb ho => ht.block b _ hb fun h => by
      rcases h.2 with h | ⟨_, _, _, e, h⟩
      · cases h
      · cases e; exact ho h
    refine ⟨⟨v, hne _ _ _ _ hv h32, ⟨hrow.1, ?_⟩, hnil⟩, hbel.trans (ht.below hbel.size fun b o h => by have := h.1; simp at this; omega)⟩
    rcases hrow.2 with h | ⟨g2, cap2, cur2, e0, hgB, hgb, hr⟩
    · exact .inl h
    · exact .inr ⟨g2, cap2, cur2, e0, hgB, hne _ _ _ _ hgb h3, hr⟩
  case h0 => exact ⟨⟨_, hB, World.ownsRow_nil .., by simp⟩, ht0⟩
  case assign =>
    intro l m x W K hK
    gi_wp2
    exact hK
  case body =>
    rintro l m pre x W ⟨⟨v, hv, hrow, hnil⟩, hbel⟩ hlen
    have hu : Tryz.prog.underlying 74 = some (.slice 3) := Tryz.sxty74.slice rfl
    obtain ⟨i0, hi, hz0, hz1, hz2⟩ := info_parts infoI
    have hc := hv.cell
    have hf := hv.frozen
    gi_wp2_with (first
      | (gi_at_builtin; refine wpListIn_append_own _ rfl _ _ 74 rfl w.heap.size 3 i0 (.int .i64 0) 1 8 hu hi hz0 hz1 hz2 rfl (by decide) _ _ _ rfl (hrow.alloc _) ⟨W.heap.size, 0, none⟩ 1 1 [.int .i64 x] rfl rfl (cell_one_new _ _ _) (by simp [Value.oneCell']) (by unfold maxLen at *; omega) (by omega) (by have := hbel.size; simp; omega) ?_; intro v' w1 hown' hgrow _
         obtain ⟨g', cap', rfl⟩ := ownsRow_succ hown'
         obtain ⟨hv1, hv2, hr2, hk2, hb2⟩ := hv.appended (by decide) hrow hbel.size (Nat.le_refl _) hown' hgrow
         have hc1 := hv1.cell
         have hf1 := hv1.frozen)
      | gi_in)
    refine ⟨?_, ⟨_, hv2, by simpa using hr2, by simp⟩, hbel.trans hb2⟩
    refine ((Turn.alloc _ W _).trans (Turn.grown hgrow fun r o e ho => ?_)).trans (Turn.grown (grownBy_setCell' w1 w.heap.size _) fun r o e ho => ?_)
    · rcases (hrow.alloc _).2 with ⟨e0, _⟩ | ⟨g2, cap2, cur2, e0, hgB, hgb, _⟩
      · subst e0; cases e
      · subst e0
        have e2 : some g2 = some r := e
        cases e2
        rw [hgb] at ho; cases ho
        exact ⟨hgB, fun ⟨_, _, _, e3, h4⟩ => by cases e3; exact h3 h4⟩
    · cases e
      rw [show w1.heap[w.heap.size]? = _ from hv1] at ho; cases ho
      exact ⟨Nat.le_refl _, fun ⟨_, _, _, e3, h4⟩ => by cases e3; exact h32 h4⟩
  case done =>
    rintro D xs W hD hS ⟨⟨v, hv, hrow, hnil⟩, hbel⟩ hK
    have hc := hv.cell
    gi_wp2
    refine ⟨by simp, .inl ⟨_, _, rfl, run_takeDeferred hK, ?_⟩⟩
    refine ⟨_, results_tmp rfl _ _ _, v, xs, rfl, hS, ownsRow_putObj hrow _ hK rfl, hnil, ?_⟩
    exact hbel.trans (belowK_b (w := w) (Nat.le_refl _) W D _ _ (by simp at hD; omega) hK rfl rfl)
end Go.Proofs.D
end
section
namespace Go.Proofs.D
open Go Go.Sx
set_option maxRecDepth 4000
attribute [local irreducible] VR VC thenQ blockQ retL
def cmpI (a b : Int) : Int := if a < b then -1 else if b < a then 1 else 0
theorem isnan_spec (a : Int) : FnS Tryz.prog 178 [AI a] [] (AB false) [] := by
  refine FnS.of_body (enters_of Tryz.func178 (by kernel_rfl) rfl) Tryz.func178 rfl Tryz.ntmps178 Tryz.results178 rfl rfl rfl rfl fun E hS => ?_
  repeat' (first|(refine gR ?_; first|refine x_opF rfl (by first|exact True.intro|omega) ?_)|(refine gO ?_; first|refine vr_nil ?_)|(refine gT ?_; first|refine q_then_n ?_)|refine vc_seq ?_|refine vc_region ?_|refine vc_ret ?_)
  all_goals (refine ret_bool isRet_r rfl ?_; simp_all)
theorem cmp_spec (a b : Int) : FnS Tryz.prog 119 [AI a, AI b] [] (AI (cmpI a b)) [] := by
  refine FnS.of_body (enters_of Tryz.func119 (by kernel_rfl) rfl) Tryz.func119 rfl Tryz.ntmps119 Tryz.results119 rfl rfl rfl rfl fun E hS => ?_
  repeat' (first|(refine gR ?_; first|refine x_opF rfl (by first|exact True.intro|omega) ?_|(refine gC ?_; first|refine vr_calldU (isnan_spec _) (gk rfl) rfl rfl rfl (by first|rfl|(simp only [wfRes, wfL, wfArgs, wfs]; rfl)) rfl (by first|exact newB_O|rfl) rfl ?_))|(refine gO ?_; first|refine vr_nil ?_)|(refine gT ?_; first|refine q_then_n ?_|refine q_then_r ?_)|refine vc_seq ?_|refine vc_region ?_|(show VC _ (.cond _ _ _) _ _; first|refine vc_cond_f rfl ?_|(refine x_cond rfl ?_ ?_ <;> intro h <;> have hq := h <;> (try simp only [hqs] at hq)))|refine vc_ret ?_|refine vc_skip ?_)
  all_goals first
    | (refine ret_int isRet_r rfl ?_; unfold cmpI; simp_all; done)
    | (refine ret_int isRet_r rfl ?_; unfold cmpI; simp_all; omega)
    | trace_state
structure RP where
  node : Int
  parent : Int
  number : Int
  deriving DecidableEq, Inhabited
def RP.enc (x : RP) : List D := [.int .i64 x.node, .int .i64 x.parent, .int .i64 x.number]
def RP.cs (x : RP) : List C := [.d (.int .i64 x.node), .d (.int .i64 x.parent), .d (.int .i64 x.number)]
abbrev rpA (x : RP) : AV := .agg x.cs
abbrev rps (l : List RP) : D := rdOf RP.enc 3 l
def nodeB (n : Int) : Bool := decide (0 <= n /\ n < 32)
theorem node_spec (n : Int) : FnS Tryz.prog 65 [AI n] [] (AB (nodeB n)) [] := by
  refine FnS.of_body (enters_of Tryz.func65 (by kernel_rfl) rfl) Tryz.func65 rfl Tryz.ntmps65 Tryz.results65 rfl rfl rfl rfl fun E hS => ?_
  repeat' (first|(refine gR ?_; first|refine x_opF rfl (by first|exact True.intro|omega) ?_|(refine x_gsplit rfl ?_ ?_ <;> intro h <;> have hq := h <;> (try simp only [hqs] at hq)))|(refine gO ?_; first|refine vr_nil ?_)|(refine gT ?_; first|refine q_then_n ?_)|refine vc_seq ?_|refine vc_region ?_|refine vc_ret ?_)
  all_goals refine ret_bool isRet_r rfl ?_
  all_goals simp_all [nodeB] <;> omega
def formR (r : RP) : Int := if nodeB r.node = false \/ r.node = 0 \/ (r.parent ≠ -1 /\ nodeB r.parent = false) \/ r.number < 1 \/ 2147483647 < r.number then 2 else if r.parent = r.node then 1 else 0
theorem form_spec (r : RP) : FnS Tryz.prog 60 [rpA r] [] (AI (formR r)) [] := by
  refine FnS.of_body (enters_of Tryz.func60 (by kernel_rfl) rfl) Tryz.func60 rfl Tryz.ntmps60 Tryz.results60 rfl rfl rfl rfl fun E hS => ?_
  repeat' (first|(refine gR ?_; first|refine x_opF rfl (by first|exact True.intro|omega) ?_|(refine gC ?_; first|refine vr_calldU (node_spec _) (gk rfl) rfl rfl rfl (by first|rfl|(simp only [wfRes, wfL, wfArgs, wfs]; rfl)) rfl (by first|exact newB_O|rfl) rfl ?_)|(refine x_gsplit rfl ?_ ?_ <;> intro h <;> have hq := h <;> (try simp only [hqs] at hq)))|(refine gO ?_; first|refine vr_nil ?_)|(refine gT ?_; first|refine q_then_n ?_|refine q_then_r ?_)|(refine gK ?_; first|refine q_blk_n ?_|refine q_blk_r ?_)|refine vc_seq ?_|refine vc_region ?_|(show VC _ (.cond _ _ _) _ _; first|refine vc_cond_t rfl ?_|(refine x_cond rfl ?_ ?_ <;> intro h <;> have hq := h <;> (try simp only [hqs] at hq)))|refine vc_ret ?_|refine vc_block ?_|refine vc_skip ?_)
  all_goals (refine ret_int isRet_r rfl ?_; unfold formR)
  all_goals first
    | (simp_all; done)
    | (simp_all; omega)
    | (rw [if_pos (by omega)]; done)
    | trace_state
def rpErr (l : List RP) (k : Nat) : Int := if formR (l.getD k default) ≠ 0 then formR (l.getD k default) else if 0 < k /\ (l.getD k default).node <= (l.getD (k - 1) default).node then 5 else 0
def checkR (l : List RP) : Int := firstErr l.length (rpErr l)
theorem checkR_spec (l : List RP) : FnS Tryz.prog 59 [AD (rps l)] [] (AI (checkR l)) [] := by
  refine FnS.of_body (enters_of Tryz.func59 (by kernel_rfl) rfl) Tryz.func59 rfl Tryz.ntmps59 Tryz.results59 rfl rfl rfl rfl fun E hS => ?_
  refine vc_bound (t := 0) rfl fun hb => ?_
  repeat' (first|(refine gR ?_; first|refine x_opF rfl (by first|exact True.intro|omega) ?_)|(refine gO ?_; first|refine vr_nil ?_)|(refine gT ?_; first|refine q_then_n ?_)|refine vc_seq ?_|refine vc_region ?_|refine vc_block ?_)
  refine vc_loopI (ι := Nat) (fun k => stOf [(0, AD (rps l)), (6, AD (rps l)), (7, AI l.length), (8, AI k)] []) (fun k => k <= l.length /\ ∀ i, i < k -> rpErr l i = 0) (fun k => l.length - k) 0 ⟨Nat.zero_le _, fun i hi => absurd hi (Nat.not_lt_zero _)⟩ ?_ ?_
  · refine le_gen0 (fun n => n) ?_ ?_ rfl (by first|rfl|(simp only [wfL, wfs]; rfl))
    all_goals repeat' (first|exact trivial|refine ⟨⟨_, rfl, ?_⟩, ?_⟩|exact .c .d)
  · intro k hk
    repeat' (first|(refine gR ?_; first|refine x_opF rfl (by first|exact True.intro|omega) ?_|(refine gC ?_; first|refine vr_calldU (form_spec _) (gk rfl) rfl rfl rfl (by first|rfl|(simp only [wfRes, wfL, wfArgs, wfs]; rfl)) rfl (by first|exact newB_O|rfl) rfl ?_)|(refine gI ?_; first|refine vr_index_rd (gk rfl) rfl rfl rfl rfl rfl (by omega) rfl ?_|refine vr_index_rdP (gk rfl) rfl rfl rfl rfl rfl (by omega) rfl ?_)|(refine x_gsplit rfl ?_ ?_ <;> intro h <;> have hq := h <;> (try simp only [hqs] at hq)))|(refine gO ?_; first|refine vr_nil ?_|refine vr_nil_t (by kernel_rfl) ?_)|(refine gT ?_; first|refine q_then_n ?_|refine q_then_x ?_|refine q_then_r ?_)|(refine gK ?_; first|refine q_blk_n ?_|refine q_blk_r ?_|refine q_blk_x ?_)|refine vc_seq ?_|refine vc_region ?_|refine vc_region_t ?_|(show VC _ (.cond _ _ _) _ _; first|refine vc_cond_f rfl ?_|(refine x_cond rfl ?_ ?_ <;> intro h <;> have hq := h <;> (try simp only [hqs] at hq)))|refine vc_ret ?_|refine vc_exit ?_|refine vc_block ?_|refine vc_skip ?_)
    all_goals first
      | (refine ret_int isRet_r rfl ?_
         first
         | (rw [checkR, firstErr_none fun i hi => hk.2 i (by omega)]; done)
         | (have he : rpErr l k = formR (l.getD k default) := by rw [rpErr, if_pos hq]
            rw [checkR, firstErr_hit hk.2 (by omega) (by rw [he]; exact hq), he]; done)
         | (have he : rpErr l k = 5 := by rw [rpErr, if_neg (by omega), if_pos (by omega)]
            rw [checkR, firstErr_hit hk.2 (by omega) (by rw [he]; decide), he]; done))
      | (refine ⟨k + 1, ⟨by omega, fun i hi => ?_⟩, by omega, ?_⟩
         · by_cases hik : i < k
           · exact hk.2 i hik
           · have : i = k := by omega
             subst this
             rw [rpErr, if_neg (by omega), if_neg (by omega)]
         · refine le_gen0 (fun n => n) ?_ ?_ rfl (by first|rfl|(simp only [wfL, wfs]; rfl))
           all_goals repeat' (first|exact trivial|refine ⟨⟨_, rfl, ?_⟩, ?_⟩|exact .c .d)
         )
      | trace_state
def bsRp (l : List RP) (t : Int) : Nat := bs (fun i => decide (cmpI (l.getD i default).node t < 0)) 0 l.length
def foundRp (l : List RP) (t : Int) : Bool := decide (bsRp l t < l.length) && decide (cmpI (l.getD (bsRp l t) default).node t = 0)
abbrev findφRp : List DV -> DV -> Prop := fun ds r => ∃ (x : RP) (t : Int), ds = [.agg x.enc, .d (.int .i64 t)] /\ r = .d (.int .i64 (cmpI x.node t))
theorem searchRp_spec (l : List RP) (t : Int) (hl : l.length <= 1000000) : FnS Tryz.prog 141 [AD (rps l), AI t, .clo findφRp] [] (.tup [AI (bsRp l t), AB (foundRp l t)]) [] := by
  refine FnS.of_body (enters_of Tryz.func141 (by kernel_rfl) rfl) Tryz.func141 rfl Tryz.ntmps141 Tryz.results141 rfl rfl rfl rfl fun E hS => ?_
  repeat' (first|(refine gR ?_; first|refine x_opF rfl (by first|exact True.intro|omega) ?_)|(refine gO ?_; first|refine vr_nil ?_)|(refine gT ?_; first|refine q_then_n ?_)|refine vc_seq ?_|refine vc_region ?_|refine vc_block ?_)
  refine vc_loopI (ι := Nat × Nat) (fun p => stOf [(0, AD (rps l)), (1, AI t), (2, .clo findφRp), (8, AI l.length), (9, AI p.1), (10, AI p.2)] [])
    (fun p => p.1 <= p.2 /\ p.2 <= l.length /\ bs (fun i => decide (cmpI (l.getD i default).node t < 0)) p.1 p.2 = bsRp l t) (fun p => p.2 - p.1) (0, l.length) ⟨Nat.zero_le _, Nat.le_refl _, rfl⟩ ?_ ?_
  · exact le_of ⟨rfl, rfl, rfl, rfl, rfl, rfl, trivial⟩ trivial rfl
  · rintro ⟨i, j⟩ ⟨h1, h2, h3⟩
    dsimp only at h1 h2 h3 ⊢
    repeat' (first|(refine gR ?_; first|refine x_opF rfl (by first|exact True.intro|omega) ?_|(refine gC ?_; first|refine vr_clo (⟨_, _, rfl, rfl⟩) (gk rfl) rfl rfl rfl rfl ?_)|(refine gI ?_; first|refine vr_index_rd (gk rfl) rfl rfl rfl rfl rfl (by omega) rfl ?_|refine vr_index_rdN (gk rfl) rfl rfl rfl rfl (by first|omega|decide) rfl ?_)|(refine gV ?_; first|refine vr_convert_id (gk rfl) rfl ⟨_, rfl⟩ rfl (by first|exact wrap_i64 (by omega)|exact wrap_u64 (by omega)|exact wrap_u16 (by omega)|exact wrap_u8 (by omega)|exact wrap_u32 (by omega)) rfl ?_)|(refine gB ?_; first|refine vr_shr (m := 1) (gk rfl) rfl rfl rfl (by decide) rfl ?_)|(refine x_gsplit rfl ?_ ?_ <;> intro h <;> have hq := h <;> (try simp only [hqs] at hq)))|(refine gO ?_; first|refine vr_nil ?_)|(refine gT ?_; first|refine q_then_n ?_|refine q_then_x ?_)|(refine gK ?_; first|refine q_blk_n ?_|refine q_blk_x ?_)|refine vc_seq ?_|refine vc_region ?_|(show VC _ (.cond _ _ _) _ _; first|(refine x_cond rfl ?_ ?_ <;> intro h <;> have hq := h <;> (try simp only [hqs] at hq)))|refine vc_ret ?_|refine vc_exit ?_|refine vc_block ?_|refine vc_skip ?_)
    · have e : (((i : Int) + (j : Int)) / 2 ^ 1).toNat = (i + j) / 2 := by omega
      rw [e] at hq
      refine ⟨((i + j) / 2 + 1, j), ⟨by dsimp only; omega, h2, ?_⟩, by dsimp only; omega, le_of ⟨rfl, rfl, rfl, rfl, ad_eq ?_ rfl, rfl, trivial⟩ trivial rfl⟩
      · rw [<- h3]
        conv => rhs; rw [bs, if_pos (by omega)]
        rw [if_pos]
        exact decide_eq_true hq
      · congr 1 <;> omega
    · have e : (((i : Int) + (j : Int)) / 2 ^ 1).toNat = (i + j) / 2 := by omega
      rw [e] at hq
      refine ⟨(i, (i + j) / 2), ⟨by dsimp only; omega, by dsimp only; omega, ?_⟩, by dsimp only; omega, le_of ⟨rfl, rfl, rfl, rfl, rfl, ad_eq ?_ rfl, trivial⟩ trivial rfl⟩
      · rw [<- h3]
        conv => rhs; rw [bs, if_pos (by omega)]
        rw [if_neg]
        rw [decide_eq_true_eq]; exact Int.not_lt.2 hq
      · congr 1 <;> omega
    all_goals (have e0 : bsRp l t = i := by
                 rw [<- h3, bs, if_neg (by omega)])
    all_goals refine ret_d2 isRet_r rfl rfl (by rw [e0]) ?_
    all_goals simp_all [foundRp] <;> omega
theorem find1_spec (c : RP) (n : Int) : FnS Tryz.prog 142 [rpA c, AI n] [] (AI (cmpI c.node n)) [] := by
  refine FnS.of_body (enters_of Tryz.func142 (by kernel_rfl) rfl) Tryz.func142 rfl Tryz.ntmps142 Tryz.results142 rfl rfl rfl rfl fun E hS => ?_
  repeat' (first|(refine gR ?_; first|refine x_opF rfl (by first|exact True.intro|omega) ?_|(refine gC ?_; first|refine vr_calldU (cmp_spec _ _) (gk rfl) rfl rfl rfl (by first|rfl|(simp only [wfRes, wfL, wfArgs, wfs]; rfl)) rfl (by first|exact newB_O|rfl) rfl ?_))|(refine gO ?_; first|refine vr_nil ?_)|(refine gT ?_; first|refine q_then_n ?_)|refine vc_seq ?_|refine vc_region ?_|refine vc_ret ?_)
  all_goals exact ret_int isRet_r rfl rfl
theorem find1_fnc {σ : St} {L : List Nat} : AR Tryz.prog σ L (.fnc 142 []) (.clo findφRp) :=
  .fnc .nil (enters_of Tryz.func142 (by kernel_rfl) rfl) (by rintro _ _ ⟨x, t, rfl, rfl⟩; exact ⟨rfl, find1_spec x t⟩)
theorem find_spec (l : List RP) (t : Int) (hl : l.length <= 1000000) : FnS Tryz.prog 62 [AD (rps l), AI t] [] (.tup [AI (bsRp l t), AB (foundRp l t)]) [] := by
  refine FnS.of_body (enters_of Tryz.func62 (by kernel_rfl) rfl) Tryz.func62 rfl Tryz.ntmps62 Tryz.results62 rfl rfl rfl rfl fun E hS => ?_
  repeat' (first|(refine gR ?_; first|refine x_opF rfl (by first|exact True.intro|omega) ?_|(refine gC ?_; first|refine vr_callU [] (searchRp_spec l _ hl) (gk rfl) rfl (by (repeat' (first|exact .nil|refine .cons ?_ ?_|exact .of0 (.c .d)|exact .of0 .ep|exact .clo|exact (find1_fnc)|exact .of0 (.c .nil)|exact .of0 (.c (cr_rowO (by simp) rfl (by first|rfl|omega) (fun _ => rfl)))|refine .of0 (.agg ?_)|exact .d|exact .nil|exact .of0 (.c (cr_row (by decide) rfl rfl (by repeat' (first|exact trivial|refine ⟨?_, ?_⟩|rfl)))))) <;> fail) (by first|rfl|exact hfl_O (fun _ => rfl)|exact hfl_O2 rfl (fun _ => rfl)) rfl (by first|rfl|(simp only [wfRes, wfL, wfArgs, wfs]; rfl)) rfl (by first|exact newB_O|rfl) rfl ?_))|(refine gO ?_; first|refine vr_nil ?_)|(refine gT ?_; first|refine q_then_n ?_)|refine vc_seq ?_|refine vc_region ?_|refine vc_ret ?_)
  all_goals exact ret_d2 isRet_r rfl rfl rfl rfl
abbrev predφRP (p : RP -> Bool) : List DV -> DV -> Prop := fun ds r => ∃ x : RP, ds = [.agg x.enc] /\ r = .d (.bool (p x))
theorem clone_RP (l : List RP) (hl : l.length <= 100000) : FnS Tryz.prog 61 [AD (rps l)] [] (.c (.row 7 l.length)) [(7, .row 70 3 (rowOf RP.enc l))] := by
  refine FnS.of_body (enters_of Tryz.func61 (by kernel_rfl) rfl) Tryz.func61 rfl Tryz.ntmps61 Tryz.results61 rfl rfl rfl rfl fun E hS => ?_
  refine vc_retL ?_
  repeat' (first|(refine gR ?_; first|refine x_opF rfl (by first|exact True.intro|omega) ?_)|(refine gO ?_; first|refine vr_nil ?_)|(refine gT ?_; first|refine q_then_n ?_)|(show VC _ (.seq _ _) _ _; (fail_if_success (show VC _ (.seq (.seq (.region 1 _ _) _) _) _ _)); (fail_if_success (show VC _ (.seq (.region 1 _ _) _) _ _)); refine vc_seq ?_)|refine vc_region ?_)
  refine vc_seq ?_
  refine vc_seq ?_
  refine vc_isnil rfl rfl rfl rfl fun b hb => ?_
  repeat' (first|(refine gR ?_; first|refine x_opF rfl (by first|exact True.intro|omega) ?_|(refine gA ?_; first|refine vr_append0 (gk rfl) rfl rfl rfl (by first|rfl|exact rowOf_length.symm|(simp only [lns] <;> omega)) (by first|exact .row rfl (by first|rfl|exact rowOf_length.symm)|exact .rd|exact .nils) rfl rfl rfl (by (try dsimp only); omega) rfl rfl ?_))|(refine gO ?_; first|refine vr_nil ?_)|(refine gT ?_; first|refine q_then_n ?_|refine q_then_r ?_)|refine vc_seq ?_|refine vc_region ?_|(show VC _ (.cond _ _ _) _ _; first|(refine x_cond rfl ?_ ?_ <;> intro h <;> have hq := h <;> (try simp only [hqs] at hq)))|refine vc_ret ?_|refine vc_skip ?_)
  · have h0 : l = [] := List.eq_nil_of_length_eq_zero (hb (by assumption))
    subst h0
    exact retL_of (le_nil (T := 70) (sz := 3) (nm := 7) (t := 2) rfl rfl) (ret_row isRet_r rfl rfl)
  · refine retL_of (le_gen0 (l := [(2, .c (.row 7 l.length))]) (b := [(7, .row 70 3 (rowOf RP.enc l))]) (fun n => n) ⟨⟨_, rfl, .c (.row rfl (by simp))⟩, trivial⟩ ⟨⟨_, rfl, .rowD ?_ rowOf_isD⟩, trivial⟩ rfl (by simp only [wfL, wfs]; rfl)) (ret_row isRet_r rfl rfl)
    exact (List.nil_append _).trans (rd_rowOf (enc := RP.enc) (sz := 3) fun _ => rfl)
instance ovl_RP : Overlaps Tryz.prog 143 :=
  ⟨62, 4, 70, 3, TyOK.slice Tryz.sxty62 rfl, fun w => TyOK.run_size Tryz.sxty70 w, fun args w => run_callFunc_extern Tryz.func143 (by kernel_rfl) (by kernel_rfl) (by kernel_rfl) (by kernel_rfl) args w⟩
abbrev RP1 (x : RP) : D := .rd 1 3 fun _ j => (RP.enc x).getD j .nils
theorem ins_row_RP (l : List RP) (i : Nat) (x : RP) : rowOf RP.enc (insAt l i x) = List.take i (rowOf RP.enc l) ++ (RP.enc x).map C.d :: List.drop i (rowOf RP.enc l) := by
  rw [insAt, rowOf_append, rowOf_take, rowOf_drop]
  rfl
theorem insert_RP (l : List RP) (i : Nat) (x : RP) (hl : l.length <= 100000) (hi : i <= l.length) : FnS Tryz.prog 63 [.c (.row 0 l.length), AI i, AD (RP1 x)] [(0, .row 70 3 (rowOf RP.enc l))]
    (.c (.row 1 (l.length + 1))) [(1, .row 70 3 (rowOf RP.enc (insAt l i x)))] := by
  refine FnS.of_bodyM (enters_of Tryz.func63 (by kernel_rfl) rfl) Tryz.func63 rfl Tryz.ntmps63 Tryz.results63 rfl (by first|rfl|(simp only [wfRes, wfL, wfArgs, wfs]; rfl)) rfl fun E => ?_
  refine vc_retL ?_
  repeat' (first|(refine gR ?_; first|refine x_opF rfl (by first|exact True.intro|omega) ?_|(refine gE ?_; first|refine vr_len_row (gk rfl) rfl rfl (by first|rfl|exact rowOf_length.symm|(simp only [lns] <;> omega)) rfl rfl ?_)|(refine gA ?_; first|refine vr_append0 (gk rfl) rfl rfl rfl (by first|rfl|exact rowOf_length.symm|(simp only [lns] <;> omega)) (by first|exact .row rfl (by first|rfl|exact rowOf_length.symm)|exact .rd|exact .nils) rfl rfl rfl (by (try dsimp only); omega) rfl rfl ?_)|(show VR _ _ _ (⟨_, .slice _ _ _ _ _, _, _, _, _⟩ :: _) _ _ _; first|refine vr_slice_sub (gk rfl) rfl rfl (by first|exact .row|exact .full) rfl rfl (by first|exact .no|exact .int rfl rfl|exact .nat rfl (by omega)) (by first|exact .no|exact .int rfl rfl|exact .nat rfl (by omega)) (by first|omega|(simp only [lns]; omega)) (by first|omega|(simp only [lns]; omega)) (by first|omega|(simp only [lns]; omega)) rfl ?_))|(refine gO ?_; first|refine vr_nil ?_)|(refine gT ?_; first|refine q_then_n ?_|refine q_then_r ?_)|(show VC _ (.seq _ _) _ _; (fail_if_success (show VC _ (.seq (.seq (.region 8 _ _) _) _) _ _)); (fail_if_success (show VC _ (.seq (.region 8 _ _) _) _ _)); refine vc_seq ?_)|refine vc_region ?_|(show VC _ (.cond _ _ _) _ _; first|refine vc_cond_f rfl ?_|(refine x_cond rfl ?_ ?_ <;> intro h <;> have hq := h <;> (try simp only [hqs] at hq)))|refine vc_ret ?_|refine vc_skip ?_)
  · have e : i = l.length := by omega
    subst e
    refine retL_of (le_gen0 (l := [(6, .c (.row 1 (l.length + 1)))]) (b := [(1, .row 70 3 (rowOf RP.enc (insAt l l.length x)))]) (fun n => if n = 1 then 25 else n) ⟨⟨_, rfl, .c (.row rfl rfl)⟩, trivial⟩
      ⟨⟨_, rfl, .rowD ?_ rowOf_isD⟩, trivial⟩ rfl (by simp only [wfL, wfs]; rfl)) (ret_row isRet_r rfl rfl)
    rw [insAt, List.take_length, List.drop_length, rowOf_append]
    rfl
  · refine vc_open (nm := 0) rfl (rowOf_ne (by omega)) fun cp spare hcp hmax => ?_
    rw [rowOf_length] at hcp
    repeat' (first|(refine gR ?_; first|refine x_opF rfl (by first|exact True.intro|omega) ?_|(refine gC ?_; first|refine vr_overlaps (gk rfl) rfl rfl rfl (by first|exact .row|exact .full) (by omega) rfl rfl rfl ?_)|(refine gA ?_; first|refine vr_append_zerosN (gk rfl) rfl rfl rfl rfl rfl rfl rfl rfl rfl rfl (by omega) (by first|omega|(simp only [lns]; omega)) (by first|omega|(simp only [lns]; omega)) (by (try dsimp only); omega) rfl rfl ?_)|(show VR _ _ _ (⟨_, .slice _ _ _ _ _, _, _, _, _⟩ :: _) _ _ _; first|refine vr_slice_head (gk rfl) rfl rfl (by first|exact .row|exact .full) rfl rfl (by first|exact .no|exact .int rfl rfl|exact .nat rfl (by omega)) (by first|omega|(simp only [lns]; omega)) (by first|omega|(simp only [lns]; omega)) rfl ?_|refine vr_slice_sub (gk rfl) rfl rfl (by first|exact .row|exact .full) rfl rfl (by first|exact .no|exact .int rfl rfl|exact .nat rfl (by omega)) (by first|exact .no|exact .int rfl rfl|exact .nat rfl (by omega)) (by first|omega|(simp only [lns]; omega)) (by first|omega|(simp only [lns]; omega)) (by first|omega|(simp only [lns]; omega)) rfl ?_)|(show VR _ _ _ (⟨_, .call ⟨.builtin .copy, _, _⟩, _, _, _, _⟩ :: _) _ _ _; first|refine vr_copy (gk rfl) rfl rfl (by first|exact .row|exact .sub) rfl (by first|exact .src .rd|exact .src .nils|exact .src (.row rfl (by first|exact .row|exact .full) (by first|omega|(simp only [lns]; omega)))|exact .src (.sub rfl (by first|exact .row|exact .full) (by first|omega|(simp only [lns]; omega)))|exact .tail rfl (by first|omega|(simp only [lns]; omega)) (by first|omega|(simp only [lns]; omega))) rfl rfl rfl (by first|omega|(simp only [lns]; omega)) (by first|omega|(simp only [lns]; omega)) rfl ?_)|(show VR _ _ _ (⟨_, .call ⟨.builtin .cap, _, _⟩, _, _, _, _⟩ :: _) _ _ _; first|refine vr_cap_full (gk rfl) rfl rfl rfl rfl ?_))|(refine gO ?_; first|refine vr_nil ?_|refine vr_nil_t (by kernel_rfl) ?_)|(refine gT ?_; first|refine q_then_n ?_|refine q_then_r ?_)|(show VC _ (.seq _ _) _ _; (fail_if_success (show VC _ (.seq (.seq (.region 10 _ _) _) _) _ _)); (fail_if_success (show VC _ (.seq (.region 10 _ _) _) _ _)); refine vc_seq ?_)|refine vc_region ?_|refine vc_region_t ?_|(show VC _ (.cond _ _ _) _ _; first|refine vc_cond_t rfl ?_|(refine x_cond rfl ?_ ?_ <;> intro h <;> have hq := h <;> (try simp only [hqs] at hq)))|refine vc_ret ?_|refine vc_skip ?_)
    · have hq1 : ((l.length : Int) + (1 : Nat) - i).toNat = l.length + 1 - i := by omega
      refine vc_open (nm := 40) rfl (by
        intro e
        have := congrArg List.length e
        rw [List.length_append, List.length_replicate] at this
        change _ + _ = 0 at this
        omega) fun cp2 spare2 hcp2 hmax2 => ?_
      rw [List.length_append, List.length_replicate, List.length_take, rowOf_length] at hcp2
      repeat' (first|(refine gR ?_; first|refine x_opF rfl (by first|exact True.intro|omega) ?_|(show VR _ _ _ (⟨_, .slice _ _ _ _ _, _, _, _, _⟩ :: _) _ _ _; first|refine vr_slice_sub (gk rfl) rfl rfl (by first|exact .row|exact .full) rfl rfl (by first|exact .no|exact .int rfl rfl|exact .nat rfl (by omega)) (by first|exact .no|exact .int rfl rfl|exact .nat rfl (by omega)) (by first|omega|(simp only [lns]; omega)) (by first|omega|(simp only [lns]; omega)) (by first|omega|(simp only [lns]; omega)) rfl ?_)|(show VR _ _ _ (⟨_, .call ⟨.builtin .copy, _, _⟩, _, _, _, _⟩ :: _) _ _ _; first|refine vr_copy (gk rfl) rfl rfl (by first|exact .row|exact .sub) rfl (by first|exact .src .rd|exact .src .nils|exact .src (.row rfl (by first|exact .row|exact .full) (by first|omega|(simp only [lns]; omega)))|exact .src (.sub rfl (by first|exact .row|exact .full) (by first|omega|(simp only [lns]; omega)))|exact .tail rfl (by first|omega|(simp only [lns]; omega)) (by first|omega|(simp only [lns]; omega))) rfl rfl rfl (by first|omega|(simp only [lns]; omega)) (by first|omega|(simp only [lns]; omega)) rfl ?_))|(refine gO ?_; first|refine vr_nil ?_|refine vr_nil_t (by kernel_rfl) ?_)|(refine gT ?_; first|refine q_then_n ?_|refine q_then_r ?_)|refine vc_seq ?_|refine vc_region ?_|refine vc_region_t ?_|refine vc_ret ?_)
      refine retL_of (le_gen0 (l := [(6, .c (.row 1 (l.length + 1)))]) (b := [(1, .row 70 3 (rowOf RP.enc (insAt l i x)))]) (fun n => if n = 1 then 40 else n) ⟨⟨_, rfl, .c (.row rfl (by omega))⟩, trivial⟩
        ⟨⟨_, rfl, .shutO (l.length + 1) ?_⟩, trivial⟩ rfl (by simp only [wfL, wfs]; rfl)) (ret_row isRet_r rfl rfl)
      rw [hq1, show min 1 (i + (l.length + 1 - i) - i) = 1 by omega, show min (l.length - i) (i + (l.length + 1 - i) - (i + 1)) = l.length - i by omega]
      exact (ins_grow (y := (RP.enc x).map C.d) (rowOf_length (enc := RP.enc)) (by omega) rfl).trans (ins_row_RP l i x).symm
    · refine retL_of (le_gen0 (l := [(6, .c (.row 1 (l.length + 1)))]) (b := [(1, .row 70 3 (rowOf RP.enc (insAt l i x)))]) (fun n => if n = 1 then 0 else n) ⟨⟨_, rfl, .c (.row rfl rfl)⟩, trivial⟩
        ⟨⟨_, rfl, .shutO (l.length + 1) ?_⟩, trivial⟩ rfl (by simp only [wfL, wfs]; rfl)) (ret_row isRet_r rfl rfl)
      rw [show min 1 (l.length + 1 - i) = 1 by omega, show min (l.length + 1 - i) (l.length + 1 - (i + 1)) = l.length - i by omega]
      exact (ins_room (y := (RP.enc x).map C.d) (rowOf_length (enc := RP.enc)) (by omega)).trans (ins_row_RP l i x).symm
abbrev ints (l : List Int) : D := rdOf (fun x => [.int .i64 x]) 1 l
abbrev predφI (p : Int -> Bool) : List DV -> DV -> Prop := fun ds r => ∃ x : Int, ds = [.d (.int .i64 x)] /\ r = .d (.bool (p x))
theorem idxf_I (l : List Int) (p : Int -> Bool) : FnS Tryz.prog 207 [AD (ints l), .clo (predφI p)] [] (AI (oI (fstO l p))) [] := by
  refine FnS.of_body (enters_of Tryz.func207 (by kernel_rfl) rfl) Tryz.func207 rfl Tryz.ntmps207 Tryz.results207 rfl rfl rfl rfl fun E hS => ?_
  refine vc_bound (t := 0) rfl fun hb => ?_
  repeat' (first|(refine gR ?_; first|refine x_opF rfl (by first|exact True.intro|omega) ?_)|(refine gO ?_; first|refine vr_nil ?_)|(refine gT ?_; first|refine q_then_n ?_)|refine vc_seq ?_|refine vc_region ?_|refine vc_block ?_)
  refine vc_loopI (ι := Nat) (fun k => stOf [(0, AD (ints l)), (1, .clo (predφI p)), (7, AI l.length), (8, AI k)] []) (fun k => k <= l.length /\ ∀ i, i < k -> p (l.getD i default) = false) (fun k => l.length - k) 0 ⟨Nat.zero_le _, fun i hi => absurd hi (Nat.not_lt_zero _)⟩ ?_ ?_
  · exact le_of ⟨rfl, rfl, rfl, rfl, trivial⟩ trivial rfl
  · intro k hk
    repeat' (first|(refine gR ?_; first|refine x_opF rfl (by first|exact True.intro|omega) ?_|(refine gC ?_; first|refine vr_clo (⟨_, rfl, rfl⟩) (gk rfl) rfl rfl rfl rfl ?_)|(refine gI ?_; first|refine vr_index_rd (gk rfl) rfl rfl rfl rfl rfl (by omega) rfl ?_))|(refine gO ?_; first|refine vr_nil ?_)|(refine gT ?_; first|refine q_then_n ?_|refine q_then_x ?_|refine q_then_r ?_)|(refine gK ?_; first|refine q_blk_n ?_|refine q_blk_r ?_|refine q_blk_x ?_)|refine vc_seq ?_|refine vc_region ?_|(show VC _ (.cond _ _ _) _ _; first|(refine x_cond rfl ?_ ?_ <;> intro h <;> have hq := h <;> (try simp only [hqs] at hq)))|refine vc_ret ?_|refine vc_exit ?_|refine vc_block ?_|refine vc_skip ?_)
    · refine ret_int isRet_r rfl ?_
      rw [fstO_hit hk.2 (by omega) h]; rfl
    · refine ⟨k + 1, ⟨by omega, fun i hi => ?_⟩, by omega, le_of ⟨rfl, rfl, rfl, rfl, trivial⟩ trivial rfl⟩
      by_cases hik : i < k
      · exact hk.2 i hik
      · have : i = k := by omega
        subst this
        exact h
    · refine ret_int isRet_r rfl ?_
      have : k = l.length := by omega
      subst this
      rw [fstO_none hk.2]; rfl
theorem containsf_I (l : List Int) (p : Int -> Bool) : FnS Tryz.prog 148 [AD (ints l), .clo (predφI p)] [] (AB (l.any p)) [] := by
  refine FnS.of_body (enters_of Tryz.func148 (by kernel_rfl) rfl) Tryz.func148 rfl Tryz.ntmps148 Tryz.results148 rfl rfl rfl rfl fun E hS => ?_
  repeat' (first|(refine gR ?_; first|refine x_opF rfl (by first|exact True.intro|omega) ?_|(refine gC ?_; first|refine vr_callU [] (idxf_I l p) (gk rfl) rfl (by (repeat' (first|exact .nil|refine .cons ?_ ?_|exact .of0 (.c .d)|exact .of0 .ep|exact .clo|exact .of0 (.c .nil)|exact .of0 (.c (cr_rowO (by simp) rfl (by first|rfl|omega) (fun _ => rfl)))|refine .of0 (.agg ?_)|exact .d|exact .nil|exact .of0 (.c (cr_row (by decide) rfl rfl (by repeat' (first|exact trivial|refine ⟨?_, ?_⟩|rfl)))))) <;> fail) (by first|rfl|exact hfl_O (fun _ => rfl)|exact hfl_O2 rfl (fun _ => rfl)) rfl (by first|rfl|(simp only [wfRes, wfL, wfArgs, wfs]; rfl)) rfl (by first|exact newB_O|rfl) rfl ?_))|(refine gO ?_; first|refine vr_nil ?_)|(refine gT ?_; first|refine q_then_n ?_)|refine vc_seq ?_|refine vc_region ?_|refine vc_ret ?_)
  all_goals exact ret_bool isRet_r rfl (fstO_any _ _).symm
theorem equalI_spec (a b : List Int) : FnS Tryz.prog 23 [AD (ints a), AD (ints b)] [] (AB (decide (a = b))) [] := by
  refine FnS.of_body (enters_of Tryz.func23 (by kernel_rfl) rfl) Tryz.func23 rfl Tryz.ntmps23 Tryz.results23 rfl rfl rfl rfl fun E hS => ?_
  refine vc_bound (t := 0) rfl fun hb => ?_
  repeat' (first|(refine gR ?_; first|refine x_opF rfl (by first|exact True.intro|omega) ?_)|(refine gO ?_; first|refine vr_nil ?_)|(refine gT ?_; first|refine q_then_n ?_|refine q_then_r ?_)|refine vc_seq ?_|refine vc_region ?_|(show VC _ (.cond _ _ _) _ _; first|(refine x_cond rfl ?_ ?_ <;> intro h <;> have hq := h <;> (try simp only [hqs] at hq)))|refine vc_ret ?_|refine vc_block ?_|refine vc_skip ?_)
  · refine ret_bool isRet_r rfl ?_
    have : a ≠ b := fun e => by subst e; simp_all
    simp [this]
  · refine vc_loopI (ι := Nat) (fun k => stOf [(0, AD (ints a)), (1, AD (ints b)), (12, AI a.length), (13, AI k)] []) (fun k => k <= a.length /\ ∀ i, i < k -> a.getD i default = b.getD i default) (fun k => a.length - k) 0 ⟨Nat.zero_le _, fun i hi => absurd hi (Nat.not_lt_zero _)⟩ ?_ ?_
    · exact le_of ⟨rfl, rfl, rfl, rfl, trivial⟩ trivial rfl
    · rintro k ⟨hk, hall⟩
      repeat' (first|(refine gR ?_; first|refine x_opF rfl (by first|exact True.intro|omega) ?_|(refine gI ?_; first|refine vr_index_rd (gk rfl) rfl rfl rfl rfl rfl (by omega) rfl ?_))|(refine gO ?_; first|refine vr_nil ?_|refine vr_nil_t (by kernel_rfl) ?_)|(refine gT ?_; first|refine q_then_n ?_|refine q_then_x ?_|refine q_then_r ?_)|(refine gK ?_; first|refine q_blk_n ?_|refine q_blk_r ?_|refine q_blk_x ?_)|refine vc_seq ?_|refine vc_region ?_|refine vc_region_t ?_|(show VC _ (.cond _ _ _) _ _; first|(refine x_cond rfl ?_ ?_ <;> intro h <;> have hq := h <;> (try simp only [hqs] at hq)))|refine vc_ret ?_|refine vc_exit ?_|refine vc_block ?_|refine vc_skip ?_)
      · refine ret_bool isRet_r rfl ?_
        have : a ≠ b := fun e => hq (by rw [e])
        simp [this]
      · refine ⟨k + 1, ⟨by omega, fun i hi => ?_⟩, by omega, le_of ⟨rfl, rfl, rfl, rfl, trivial⟩ trivial rfl⟩
        by_cases hik : i < k
        · exact hall i hik
        · have : i = k := by omega
          subst this
          exact hq
      · refine ret_bool isRet_r rfl ?_
        have : a = b := Go.Sx.list_getD (by omega) fun i hi => hall i (by omega)
        simp [this]
end Go.Proofs.D
end
section
namespace Go.Proofs.D
open Go Go.Sx
set_option maxRecDepth 4000
attribute [local irreducible] VR VC thenQ blockQ retL
def visV (S : List Int) : List Bool := (List.range 32).map fun i : Nat => decide ((i : Int) ∈ S)
theorem visV_len (S : List Int) : (visV S).length = 32 := by simp [visV]
theorem visV_get (S : List Int) {m : Nat} (h : m < 32) : (visV S).getD m default = decide ((m : Int) ∈ S) := by
  simp [visV, List.getD, h]
theorem visV_nil : visV [] = List.replicate 32 false := by simp [visV, List.range, List.range.loop, List.replicate]
theorem visV_set (S : List Int) {n : Int} (h : 0 <= n /\ n < 32) : (visV S).set n.toNat true = visV (S ++ [n]) := by
  refine List.ext_getElem (by simp [visV]) fun i h1 h2 => ?_
  have hi : i < 32 := by simpa [visV] using h2
  rw [List.getElem_set]
  by_cases e : n.toNat = i
  · have : (i : Int) = n := by omega
    simp [visV, e, this]
  · have : (i : Int) ≠ n := by omega
    simp [visV, e, this]
theorem visV_eq (S : List Int) {n : Int} (h : 0 <= n /\ n < 32) : decide (visV S = (visV S).set n.toNat true) = decide (n ∈ S) := by
  refine decide_eq_decide.2 ?_
  constructor
  · intro e
    have h1 := congrArg (fun V : List Bool => V.getD n.toNat default) e
    have h1 : (visV S).getD n.toNat default = ((visV S).set n.toNat true).getD n.toNat default := h1
    rw [visV_set S h, visV_get _ (by omega), visV_get _ (by omega)] at h1
    have e2 : ((n.toNat : Nat) : Int) = n := by omega
    rw [e2] at h1
    simpa using h1
  · intro hm
    rw [visV_set S h]
    refine List.map_congr_left fun i hi => ?_
    simp only [List.mem_append, List.mem_singleton]
    refine decide_eq_decide.2 ⟨.inl, ?_⟩
    rintro (h | h)
    · exact h
    · rw [h]; exact hm
def dupB (l : List Int) : Bool := decide (¬ l.Nodup)
theorem nodup_snoc {l : List Int} {k : Nat} (h : k < l.length) (hn : (l.take k).Nodup) : (l.take (k + 1)).Nodup ↔ l.getD k default ∉ l.take k := by
  rw [take_getD h, List.nodup_append]
  simp only [List.nodup_cons, List.not_mem_nil, not_false_eq_true, List.nodup_nil, and_self, List.mem_singleton, forall_eq, ne_eq, true_and]
  constructor
  · rintro ⟨_, h2⟩ h3
    exact h2 _ h3 rfl
  · intro h2
    exact ⟨hn, fun a ha e => h2 (e ▸ ha)⟩
theorem dup_hit {l : List Int} {k : Nat} (h : k < l.length) (hm : l.getD k default ∈ l.take k) : dupB l = true := by
  refine decide_eq_true fun hn => ?_
  have h1 : (l.take (k + 1)).Nodup := hn.sublist (List.take_sublist _ _)
  have h0 : (l.take k).Nodup := hn.sublist (List.take_sublist _ _)
  exact (nodup_snoc h h0).1 h1 hm
theorem twice_spec (l : List Int) (hr : ∀ x ∈ l, 0 <= x /\ x < 32) : FnS Tryz.prog 150 [AD (ints l)] [] (AB (dupB l)) [] := by
  refine FnS.of_body (enters_of Tryz.func150 (by kernel_rfl) rfl) Tryz.func150 rfl Tryz.ntmps150 Tryz.results150 rfl rfl rfl rfl fun E hS => ?_
  refine vc_bound (t := 0) rfl fun hb => ?_
  repeat' (first|(refine gR ?_; first|(show VR _ _ _ (⟨_, .alloc _, _, _, _, _⟩ :: _) _ _ _; first|refine vr_allocArr (gk rfl) rfl rfl (by decide) rfl rfl ?_)|refine x_opF rfl (by first|exact True.intro|omega) ?_)|(refine gO ?_; first|refine vr_nil ?_)|(refine gT ?_; first|refine q_then_n ?_)|refine vc_seq ?_|refine vc_region ?_|refine vc_block ?_)
  refine vc_loopI (ι := Nat) (fun k => stOf [(0, AD (ints l)), (3, .rp 3 1 0 0), (7, AD (ints l)), (8, AI l.length), (9, AI k)] [(3, .row 305 1 (rowOf encB (visV (l.take k))))]) (fun k => k <= l.length /\ (l.take k).Nodup) (fun k => l.length - k) 0 ⟨Nat.zero_le _, by simp⟩ ?_ ?_
  · rw [List.take_zero, visV_nil]
    refine le_gen0 (fun n => n) ?_ ?_ rfl (by first|rfl|(simp only [wfL, wfs]; rfl))
    all_goals repeat' (first|exact trivial|refine ⟨⟨_, rfl, ?_⟩, ?_⟩|exact .c .d|exact .rp rfl|exact .rowD rfl rowOf_isD)
  · intro k hk
    have hV := visV_len (l.take k)
    rcases Nat.lt_or_ge k l.length with hlt | hge
    · have hx := hr _ (getD_mem hlt)
      have hV2 : ((visV (l.take k)).set (l.getD k default).toNat true).length = 32 := by rw [List.length_set]; exact hV
      have hV3 : (List.replicate 32 false).length = 32 := rfl
      repeat' (first|(refine gR ?_; first|(show VR _ _ _ (⟨_, .alloc _, _, _, _, _⟩ :: _) _ _ _; first|refine vr_allocArr (gk rfl) rfl rfl (by decide) rfl rfl ?_)|(refine gL ?_; first|refine vr_loadArr (gk rfl) rfl rfl rfl (by first|assumption|rfl|((try simp only [lns]); first|assumption|omega)) rfl rfl ?_)|(refine gS ?_; first|refine vr_storeB (gk rfl) rfl rfl rfl (by omega) rfl ?_|refine vr_storeArr (gk rfl) rfl rfl rfl (by first|assumption|rfl|((try simp only [lns]); first|assumption|omega)) (by first|assumption|rfl|((try simp only [lns]); first|assumption|omega)) rfl ?_)|(refine gI ?_; first|refine vr_indexArr (gk rfl) rfl rfl rfl rfl (by omega) (by omega) rfl ?_)|(refine gB ?_; first|refine vr_eqlArr (gk rfl) rfl rfl rfl rfl rfl (by first|assumption|rfl|((try simp only [lns]); first|assumption|omega)) (by first|assumption|rfl|((try simp only [lns]); first|assumption|omega)) (by kernel_rfl) rfl ?_)|refine x_opF rfl (by first|exact True.intro|omega) ?_|(refine gI ?_; first|refine vr_index_rd (gk rfl) rfl rfl rfl rfl rfl (by omega) rfl ?_))|(refine gO ?_; first|refine vr_nil ?_)|(refine gT ?_; first|refine q_then_n ?_|refine q_then_x ?_|refine q_then_r ?_)|(refine gK ?_; first|refine q_blk_n ?_|refine q_blk_r ?_|refine q_blk_x ?_)|refine vc_seq ?_|refine vc_region ?_|(show VC _ (.cond _ _ _) _ _; first|(refine x_cond rfl ?_ ?_ <;> intro h <;> have hq := h <;> (try simp only [hqs] at hq)))|refine vc_ret ?_|refine vc_exit ?_|refine vc_block ?_|refine vc_skip ?_)
      all_goals first
        | (exfalso; omega)
        | skip
      · rw [visV_eq _ hx] at h
        exact ret_bool isRet_r rfl (dup_hit hlt (of_decide_eq_true h))
      · rw [visV_eq _ hx] at h
        refine ⟨k + 1, ⟨by omega, (nodup_snoc hlt hk.2).2 (of_decide_eq_false h)⟩, by omega, ?_⟩
        rw [take_getD hlt, <- visV_set _ hx]
        refine le_gen0 (fun n => n) ?_ ?_ rfl (by first|rfl|(simp only [wfL, wfs]; rfl))
        all_goals repeat' (first|exact trivial|refine ⟨⟨_, rfl, ?_⟩, ?_⟩|exact .c .d|exact .rp rfl|exact .rowD rfl rowOf_isD)
    · repeat' (first|(refine gR ?_; first|(show VR _ _ _ (⟨_, .alloc _, _, _, _, _⟩ :: _) _ _ _; first|refine vr_allocArr (gk rfl) rfl rfl (by decide) rfl rfl ?_)|(refine gL ?_; first|refine vr_loadArr (gk rfl) rfl rfl rfl (by first|assumption|rfl|((try simp only [lns]); first|assumption|omega)) rfl rfl ?_)|(refine gS ?_; first|refine vr_storeB (gk rfl) rfl rfl rfl (by omega) rfl ?_|refine vr_storeArr (gk rfl) rfl rfl rfl (by first|assumption|rfl|((try simp only [lns]); first|assumption|omega)) (by first|assumption|rfl|((try simp only [lns]); first|assumption|omega)) rfl ?_)|(refine gI ?_; first|refine vr_indexArr (gk rfl) rfl rfl rfl rfl (by omega) (by omega) rfl ?_)|(refine gB ?_; first|refine vr_eqlArr (gk rfl) rfl rfl rfl rfl rfl (by first|assumption|rfl|((try simp only [lns]); first|assumption|omega)) (by first|assumption|rfl|((try simp only [lns]); first|assumption|omega)) (by kernel_rfl) rfl ?_)|refine x_opF rfl (by first|exact True.intro|omega) ?_|(refine gI ?_; first|refine vr_index_rd (gk rfl) rfl rfl rfl rfl rfl (by omega) rfl ?_))|(refine gO ?_; first|refine vr_nil ?_)|(refine gT ?_; first|refine q_then_n ?_|refine q_then_x ?_|refine q_then_r ?_)|(refine gK ?_; first|refine q_blk_n ?_|refine q_blk_r ?_|refine q_blk_x ?_)|refine vc_seq ?_|refine vc_region ?_|(show VC _ (.cond _ _ _) _ _; first|(refine x_cond rfl ?_ ?_ <;> intro h <;> have hq := h <;> (try simp only [hqs] at hq)))|refine vc_ret ?_|refine vc_exit ?_|refine vc_block ?_|refine vc_skip ?_)
      all_goals first
        | (exfalso; omega)
        | skip
      have hk' : k = l.length := by omega
      refine ret_bool isRet_r rfl (decide_eq_false ?_)
      have := hk.2
      rw [hk', List.take_length] at this
      exact fun h => h this
end Go.Proofs.D
end
section
namespace Go.Proofs.D
open Go Go.Sx
set_option maxRecDepth 4000
attribute [local irreducible] VR VC thenQ blockQ retL
def bytesI (s : ByteArray) : List Int := s.data.toList.map fun b => (b.toNat : Int)
theorem bytesI_len (s : ByteArray) : (bytesI s).length = s.size := by simp [bytesI]
theorem bytesI_get (s : ByteArray) {i : Nat} (h : i < s.size) : bAt s i = (bytesI s).getD i default := by
  have h2 : i < s.data.toList.length := by rw [Array.length_toList]; exact h
  simp [bAt, bytesI, List.getD, List.getElem?_eq_getElem h2]
theorem bytesI_range (s : ByteArray) : ∀ x ∈ bytesI s, 0 <= x /\ x < 256 := by
  intro x hx
  obtain ⟨b, _, rfl⟩ := List.mem_map.1 hx
  have := b.toNat_lt
  omega
theorem bytesI_inj {s t : ByteArray} (h : bytesI s = bytesI t) : s = t := by
  have h2 : s.data.toList = t.data.toList := by
    have : Function.Injective fun b : UInt8 => (b.toNat : Int) := fun a b e => by
      have e : (a.toNat : Int) = b.toNat := e
      exact UInt8.toNat_inj.1 (by omega)
    exact (List.map_inj_right (fun a b e => this e)).1 h
  cases s with | mk x =>
  cases t with | mk y =>
  congr 1
  exact Array.toList_inj.1 h2
theorem bytesI_mkS {L : List Int} (h : ∀ x ∈ L, 0 <= x /\ x < 256) : bytesI (mkS L) = L := by
  have key : ∀ (L : List Int) (s : ByteArray), (∀ x ∈ L, 0 <= x /\ x < 256) -> bytesI (L.foldl (fun r n => r.push (UInt8.ofNat n.toNat)) s) = bytesI s ++ L := by
    intro L
    induction L with
    | nil => intro s _; simp
    | cons a L ih =>
      intro s hL
      rw [List.foldl_cons, ih _ fun x hx => hL x (by simp [hx])]
      have ha := hL a (by simp)
      have : bytesI (s.push (UInt8.ofNat a.toNat)) = bytesI s ++ [a] := by
        simp only [bytesI, ByteArray.push, Array.toList_push, List.map_append, List.map_cons, List.map_nil, List.append_cancel_left_eq, List.cons.injEq, and_true]
        rw [UInt8.toNat_ofNat']
        omega
      rw [this]; simp
  have := key L ByteArray.empty h
  rw [mkS, this]; rfl
theorem bytesI_tail (s : ByteArray) : bytesI (s.extract 1 s.size) = (bytesI s).drop 1 := by
  have : (s.extract 1 s.size).data = s.data.extract 1 s.size := ByteArray.data_extract
  unfold bytesI
  rw [this, Array.toList_extract, List.extract_eq_take_drop, List.map_take, List.map_drop]
  exact List.take_of_length_le (by simp)
theorem bytesI_nil {s : ByteArray} : s = ⟨#[]⟩ ↔ bytesI s = [] :=
  ⟨fun h => by rw [h]; rfl, fun h => bytesI_inj (h.trans rfl)⟩
theorem header1_spec (n : Int) : FnS Tryz.prog 149 [AI n] [] (AB (!nodeB n)) [] := by
  refine FnS.of_body (enters_of Tryz.func149 (by kernel_rfl) rfl) Tryz.func149 rfl Tryz.ntmps149 Tryz.results149 rfl rfl rfl rfl fun E hS => ?_
  repeat' (first|(refine gR ?_; first|refine x_opF rfl (by first|exact True.intro|omega) ?_|(refine gC ?_; first|refine vr_calldU (node_spec n) (gk rfl) rfl rfl rfl (by first|rfl|(simp only [wfRes, wfL, wfArgs, wfs]; rfl)) rfl (by first|exact newB_O|rfl) rfl ?_))|(refine gO ?_; first|refine vr_nil ?_)|(refine gT ?_; first|refine q_then_n ?_)|refine vc_seq ?_|refine vc_region ?_|refine vc_ret ?_)
  all_goals exact ret_bool isRet_r rfl rfl
theorem header1_fnc {σ : St} {L : List Nat} : AR Tryz.prog σ L (.fnc 149 []) (.clo (predφI fun n => !nodeB n)) :=
  .fnc .nil (enters_of Tryz.func149 (by kernel_rfl) rfl) (by rintro _ _ ⟨x, rfl, rfl⟩; exact ⟨rfl, header1_spec x⟩)
abbrev noS : ByteArray := ⟨#[]⟩
def headerM (l : List Int) : ByteArray × Int := if (l.any fun n => !nodeB n) = true then (noS, 2) else if dupB l = true then (noS, 6) else if l.length = 0 then (noS, 9) else if 9 < l.length then (noS, 8) else (mkS (l.drop 1), 0)
theorem any_node {l : List Int} (h : (l.any fun n => !nodeB n) = false) : ∀ x ∈ l, 0 <= x /\ x < 32 := by
  intro x hx
  have := (List.any_eq_false.1 h) x hx
  simpa [nodeB] using this
set_option maxHeartbeats 1000000 in
theorem header_spec (l : List Int) : FnS Tryz.prog 66 [AD (ints l)] [] (.tup [AD (.str (headerM l).1), AI (headerM l).2]) [] := by
  refine FnS.of_body (enters_of Tryz.func66 (by kernel_rfl) rfl) Tryz.func66 rfl Tryz.ntmps66 Tryz.results66 rfl rfl rfl rfl fun E hS => ?_
  refine vc_bound (t := 0) rfl fun hb => ?_
  cases ha : l.any fun n => !nodeB n with
  | true =>
    have e : headerM l = (noS, 2) := by rw [headerM, if_pos ha]
    rw [e]
    have hcf := containsf_I l (fun n => !nodeB n)
    rw [ha] at hcf
    repeat' (first|(refine gR ?_; first|refine x_opF rfl (by first|exact True.intro|omega) ?_|(refine gC ?_; first|refine vr_callU [] (hcf) (gk rfl) rfl (by (repeat' (first|exact .nil|refine .cons ?_ ?_|exact .of0 (.c .d)|exact .of0 .ep|exact .clo|exact (header1_fnc)|exact .of0 (.c .nil)|exact .of0 (.c (cr_rowO (by simp) rfl (by first|rfl|omega) (fun _ => rfl)))|refine .of0 (.agg ?_)|exact .d|exact .nil|exact .of0 (.c (cr_row (by decide) rfl rfl (by repeat' (first|exact trivial|refine ⟨?_, ?_⟩|rfl)))))) <;> fail) (by first|rfl|exact hfl_O (fun _ => rfl)|exact hfl_O2 rfl (fun _ => rfl)) rfl (by first|rfl|(simp only [wfRes, wfL, wfArgs, wfs]; rfl)) rfl (by first|exact newB_O|rfl) rfl ?_))|(refine gO ?_; first|refine vr_nil ?_)|(refine gT ?_; first|refine q_then_n ?_|refine q_then_r ?_)|(refine gK ?_; first|refine q_blk_r ?_)|refine vc_seq ?_|refine vc_region ?_|(show VC _ (.cond _ _ _) _ _; first|refine vc_cond_t rfl ?_)|refine vc_ret ?_|refine vc_block ?_)
    exact ret_d2 isRet_r rfl rfl rfl rfl
  | false =>
    have hr := any_node ha
    have hcf := containsf_I l (fun n => !nodeB n)
    rw [ha] at hcf
    repeat' (first|(refine gR ?_; first|refine x_opF rfl (by first|exact True.intro|omega) ?_|(refine gC ?_; first|refine vr_calldU (twice_spec l hr) (gk rfl) rfl rfl rfl (by first|rfl|(simp only [wfRes, wfL, wfArgs, wfs]; rfl)) rfl (by first|exact newB_O|rfl) rfl ?_|refine vr_callU [] (hcf) (gk rfl) rfl (by (repeat' (first|exact .nil|refine .cons ?_ ?_|exact .of0 (.c .d)|exact .of0 .ep|exact .clo|exact (header1_fnc)|exact .of0 (.c .nil)|exact .of0 (.c (cr_rowO (by simp) rfl (by first|rfl|omega) (fun _ => rfl)))|refine .of0 (.agg ?_)|exact .d|exact .nil|exact .of0 (.c (cr_row (by decide) rfl rfl (by repeat' (first|exact trivial|refine ⟨?_, ?_⟩|rfl)))))) <;> fail) (by first|rfl|exact hfl_O (fun _ => rfl)|exact hfl_O2 rfl (fun _ => rfl)) rfl (by first|rfl|(simp only [wfRes, wfL, wfArgs, wfs]; rfl)) rfl (by first|exact newB_O|rfl) rfl ?_))|(refine gO ?_; first|refine vr_nil ?_)|(refine gT ?_; first|refine q_then_n ?_|refine q_then_r ?_)|(refine gK ?_; first|refine q_blk_n ?_|refine q_blk_r ?_)|(show VC _ (.seq _ _) _ _; (fail_if_success (show VC _ (.seq (.seq (.region 9 _ _) _) _) _ _)); (fail_if_success (show VC _ (.seq (.region 9 _ _) _) _ _)); refine vc_seq ?_)|refine vc_region ?_|(show VC _ (.cond _ _ _) _ _; first|refine vc_cond_f rfl ?_|(refine x_cond rfl ?_ ?_ <;> intro h <;> have hq := h <;> (try simp only [hqs] at hq)))|refine vc_ret ?_|refine vc_block ?_|refine vc_skip ?_)
    · have e : headerM l = (noS, 6) := by rw [headerM, if_neg (by rw [ha]; simp), if_pos hq]
      rw [e]
      exact ret_d2 isRet_r rfl rfl rfl rfl
    · have e : headerM l = (noS, 9) := by rw [headerM, if_neg (by rw [ha]; simp), if_neg (by simp_all), if_pos (by omega)]
      rw [e]
      exact ret_d2 isRet_r rfl rfl rfl rfl
    · have e : headerM l = (noS, 8) := by rw [headerM, if_neg (by rw [ha]; simp), if_neg (by simp_all), if_neg (by omega), if_pos (by omega)]
      rw [e]
      exact ret_d2 isRet_r rfl rfl rfl rfl
    · have e : headerM l = (mkS (l.drop 1), 0) := by rw [headerM, if_neg (by rw [ha]; simp), if_neg (by simp_all), if_neg (by omega), if_neg (by omega)]
      rw [e]
      have hn : ((l.length : Int) - 1).toNat = l.length - 1 := by omega
      repeat' (first|(refine gR ?_; first|refine x_opF rfl (by first|exact True.intro|omega) ?_|(show VR _ _ _ (⟨_, .makeSlice _ _ _, _, _, _, _⟩ :: _) _ _ _; first|refine vr_make8 (gk rfl) rfl rfl rfl rfl rfl (by omega) rfl (by omega) rfl rfl ?_)|(show VR _ _ _ (⟨_, .slice _ _ _ _ _, _, _, _, _⟩ :: _) _ _ _; first|refine vr_slice_rd (gk rfl) rfl rfl rfl (by first|exact .no|exact .int (i := 1) (l := 1) rfl rfl|exact .int rfl rfl|exact .nat rfl (by omega)) (by first|exact .no|exact .int (i := 1) (l := 1) rfl rfl|exact .int rfl rfl|exact .nat rfl (by omega)) (by omega) (by omega) rfl ?_))|(refine gO ?_; first|refine vr_nil ?_)|(refine gT ?_; first|refine q_then_n ?_)|refine vc_seq ?_|refine vc_region ?_|refine vc_block ?_)
      refine vc_loopI (ι := Nat) (fun k => stOf [(4, .c (.row 24 (l.length - 1))), (26, AD (.rd (l.length - 1) 1 fun i j => (encI (l.getD (1 + i) default)).getD j .nils)), (27, AI (l.length - 1 : Nat)), (28, AI k)]
        [(24, .row 5 1 (rowOf enc8 ((l.drop 1).take k ++ List.replicate (l.length - 1 - k) 0)))])
        (fun k => k <= l.length - 1) (fun k => l.length - 1 - k) 0 (Nat.zero_le _) ?_ ?_
      · rw [hn, List.take_zero, List.nil_append, Nat.sub_zero]
        refine le_gen0 (fun n => n) ?_ ?_ rfl (by first|rfl|(simp only [wfL, wfs]; rfl))
        all_goals repeat' (first|exact trivial|refine ⟨⟨_, rfl, ?_⟩, ?_⟩|exact .c .d|exact .c (.row rfl rfl)|exact .rowD rfl rowOf_isD)
      · intro k hk
        have hlen : ((l.drop 1).take k ++ List.replicate (l.length - 1 - k) (0 : Int)).length = l.length - 1 := by
          rw [List.length_append, List.length_take, List.length_drop, List.length_replicate]; omega
        rcases Nat.lt_or_ge k (l.length - 1) with hlt | hge
        · have hx := hr _ (getD_mem (show 1 + k < l.length by omega))
          repeat' (first|(refine gR ?_; first|(refine gV ?_; first|refine vr_convStr (gk rfl) rfl rfl (by first|rfl|exact rowOf_length.symm|(simp only [lns] <;> omega)) rfl rfl rfl rfl ?_)|refine x_opF rfl (by first|exact True.intro|omega) ?_|(refine gI ?_; first|refine vr_index_rd (gk rfl) rfl rfl rfl rfl rfl (by omega) rfl ?_|refine vr_index_rowO (gk rfl) rfl rfl rfl rfl rfl rfl (by omega) (by omega) rfl ?_)|(refine gS ?_; first|refine vr_store_rowO (gk rfl) rfl rfl rfl (by omega) rfl rfl rfl ?_)|(refine gV ?_; first|refine vr_convert_id (gk rfl) rfl ⟨_, rfl⟩ rfl (by first|exact wrap_i64 (by omega)|exact wrap_u64 (by omega)|exact wrap_u16 (by omega)|exact wrap_u8 (by omega)|exact wrap_u32 (by omega)) rfl ?_))|(refine gO ?_; first|refine vr_nil ?_)|(refine gT ?_; first|refine q_then_n ?_|refine q_then_x ?_)|(refine gK ?_; first|refine q_blk_n ?_|refine q_blk_x ?_)|refine vc_seq ?_|refine vc_region ?_|(show VC _ (.cond _ _ _) _ _; first|(refine x_cond rfl ?_ ?_ <;> intro h <;> have hq := h <;> (try simp only [hqs] at hq)))|refine vc_ret ?_|refine vc_exit ?_|refine vc_block ?_|refine vc_skip ?_)
          all_goals first
            | (exfalso; omega)
            | skip
          refine ⟨k + 1, by omega, by omega, ?_⟩
          have es : ((l.drop 1).take k ++ List.replicate (l.length - 1 - k) (0 : Int)).set k (l.getD (1 + k) default) = (l.drop 1).take (k + 1) ++ List.replicate (l.length - 1 - (k + 1)) 0 := by
            have e1 : List.replicate (l.length - 1 - k) (0 : Int) = 0 :: List.replicate (l.length - 1 - (k + 1)) 0 := by
              rw [<- List.replicate_succ]; congr 1; omega
            have e2 : (l.drop 1).getD k default = l.getD (1 + k) default := by simp [List.getD, Nat.add_comm]
            rw [e1, List.set_append_right _ _ (by rw [List.length_take]; omega), take_getD (by rw [List.length_drop]; omega), e2]
            have e3 : k - ((l.drop 1).take k).length = 0 := by rw [List.length_take, List.length_drop]; omega
            rw [e3, List.set_cons_zero, List.append_assoc]; rfl
          rw [<- es]
          refine le_gen0 (fun n => n) ?_ ?_ rfl (by first|rfl|(simp only [wfL, wfs]; rfl))
          all_goals repeat' (first|exact trivial|refine ⟨⟨_, rfl, ?_⟩, ?_⟩|exact .c .d|exact .c (.row rfl rfl)|exact .rowD (rowOf_set rfl) rowOf_isD)
        · repeat' (first|(refine gR ?_; first|(refine gV ?_; first|refine vr_convStr (gk rfl) rfl rfl (by first|rfl|exact rowOf_length.symm|(simp only [lns] <;> omega)) rfl rfl rfl rfl ?_)|refine x_opF rfl (by first|exact True.intro|omega) ?_|(refine gI ?_; first|refine vr_index_rd (gk rfl) rfl rfl rfl rfl rfl (by omega) rfl ?_|refine vr_index_rowO (gk rfl) rfl rfl rfl rfl rfl rfl (by omega) (by omega) rfl ?_)|(refine gS ?_; first|refine vr_store_rowO (gk rfl) rfl rfl rfl (by omega) rfl rfl rfl ?_)|(refine gV ?_; first|refine vr_convert_id (gk rfl) rfl ⟨_, rfl⟩ rfl (by first|exact wrap_i64 (by omega)|exact wrap_u64 (by omega)|exact wrap_u16 (by omega)|exact wrap_u8 (by omega)|exact wrap_u32 (by omega)) rfl ?_))|(refine gO ?_; first|refine vr_nil ?_)|(refine gT ?_; first|refine q_then_n ?_|refine q_then_x ?_)|(refine gK ?_; first|refine q_blk_n ?_|refine q_blk_x ?_)|refine vc_seq ?_|refine vc_region ?_|(show VC _ (.cond _ _ _) _ _; first|(refine x_cond rfl ?_ ?_ <;> intro h <;> have hq := h <;> (try simp only [hqs] at hq)))|refine vc_ret ?_|refine vc_exit ?_|refine vc_block ?_|refine vc_skip ?_)
          all_goals first
            | (exfalso; omega)
            | skip
          have hk' : k = l.length - 1 := by omega
          subst hk'
          have e2 : (l.drop 1).take (l.length - 1) ++ List.replicate (l.length - 1 - (l.length - 1)) (0 : Int) = l.drop 1 := by
            rw [Nat.sub_self, List.replicate_zero, List.append_nil, List.take_of_length_le (by simp)]
          exact ret_d2 isRet_r rfl rfl (by rw [e2]) rfl
def rightB (s : ByteArray) : Bool := decide ((∀ x ∈ bytesI s, x < 32) /\ s.size <= 8 /\ (bytesI s).Nodup)
theorem right_spec (s : ByteArray) (hs : s.size <= 1000000) : FnS Tryz.prog 151 [AD (.str s)] [] (AB (rightB s)) [] := by
  refine FnS.of_body (enters_of Tryz.func151 (by kernel_rfl) rfl) Tryz.func151 rfl Tryz.ntmps151 Tryz.results151 rfl rfl rfl rfl fun E hS => ?_
  repeat' (first|(refine gR ?_; first|refine x_opF rfl (by first|exact True.intro|omega) ?_)|(refine gO ?_; first|refine vr_nil ?_)|(refine gT ?_; first|refine q_then_n ?_)|refine vc_seq ?_|refine vc_region ?_|refine vc_block ?_)
  refine VC.le (le_nil (t := 3) (nm := 45) (T := 3) (sz := 1) rfl rfl) ?_
  refine vc_loopI (ι := Nat) (fun k => stOf [(0, AD (.str s)), (3, .c (.row 45 ((bytesI s).take k).length)), (6, AI s.size), (7, AI k)] [(45, .row 3 1 (rowOf encI ((bytesI s).take k)))])
    (fun k => k <= s.size /\ ∀ x ∈ (bytesI s).take k, x < 32) (fun k => s.size - k) 0 ⟨Nat.zero_le _, by simp⟩ ?_ ?_
  · refine le_gen0 (fun n => n) ?_ ?_ rfl (by first|rfl|(simp only [wfL, wfs]; rfl))
    all_goals repeat' (first|exact trivial|refine ⟨⟨_, rfl, ?_⟩, ?_⟩|exact .c .d|exact .c (.row rfl rfl)|exact .rowD rfl rowOf_isD)
  · rintro k ⟨hk, hall⟩
    have hkl : ((bytesI s).take k).length = k := by rw [List.length_take, bytesI_len]; omega
    rcases Nat.lt_or_ge k s.size with hlt | hge
    · have hb := bytesI_get s hlt
      have hx := bytesI_range s _ (getD_mem (show k < (bytesI s).length by rw [bytesI_len]; exact hlt))
      rw [<- hb] at hx
      have hdd : decide ((k : Int) < (s.size : Int)) = true := decide_eq_true (by omega)
      repeat' (first|(refine gR ?_; first|refine x_opF rfl (by first|exact True.intro|omega) ?_|(refine gC ?_; first|refine vr_calldU (node_spec _) (gk rfl) rfl rfl rfl (by first|rfl|(simp only [wfRes, wfL, wfArgs, wfs]; rfl)) rfl (by first|exact newB_O|rfl) rfl ?_)|(refine gA ?_; first|refine vr_append0 (gk rfl) rfl rfl rfl (by first|rfl|exact rowOf_length.symm|(simp only [lns] <;> omega)) (by first|exact .row rfl (by first|rfl|exact rowOf_length.symm)|exact .rd|exact .nils) rfl rfl rfl (by (try dsimp only); omega) rfl rfl ?_)|(refine gX ?_; first|refine vr_indexStr (gk rfl) rfl rfl rfl (by omega) (by omega) (by first|exact (Int.toNat_natCast _).symm|rfl) rfl ?_)|(refine gV ?_; first|refine vr_convert_id (gk rfl) rfl ⟨_, rfl⟩ rfl (by first|exact wrap_i64 (by omega)|exact wrap_u64 (by omega)|exact wrap_u16 (by omega)|exact wrap_u8 (by omega)|exact wrap_u32 (by omega)) rfl ?_))|(refine gO ?_; first|refine vr_nil ?_)|(refine gT ?_; first|refine q_then_n ?_|refine q_then_r ?_)|(refine gK ?_; first|refine q_blk_n ?_|refine q_blk_r ?_)|refine vc_seq ?_|refine vc_region ?_|(show VC _ (.cond _ _ _) _ _; first|refine vc_cond_t rfl ?_|refine x_know rfl (by assumption) ?_|(refine x_cond rfl ?_ ?_ <;> intro h <;> have hq := h <;> (try simp only [hqs] at hq)))|refine vc_ret ?_|refine vc_block ?_|refine vc_skip ?_)
      · refine ret_bool isRet_r rfl (decide_eq_false ?_)
        rintro ⟨h1, _⟩
        have h2 := h1 _ (getD_mem (show k < (bytesI s).length by rw [bytesI_len]; exact hlt))
        rw [<- hb] at h2
        have hq : nodeB (bAt s k) = false := by simpa using h
        simp only [nodeB, decide_eq_false_iff_not] at hq
        omega
      · have hq : nodeB (bAt s k) = true := by simpa using h
        simp only [nodeB, decide_eq_true_eq] at hq
        have et : (bytesI s).take (k + 1) = (bytesI s).take k ++ [bAt s k] := by rw [take_getD (by rw [bytesI_len]; exact hlt), hb]
        refine ⟨k + 1, ⟨by omega, ?_⟩, by omega, ?_⟩
        · rw [et]
          intro x hx
          rcases List.mem_append.1 hx with hx | hx
          · exact hall x hx
          · rw [List.mem_singleton] at hx; subst hx; exact hq.2
        · rw [et]
          refine le_gen0 (fun n => if n = 45 then 22 else n) ?_ ?_ rfl (by first|rfl|(simp only [wfL, wfs]; rfl))
          all_goals repeat' (first|exact trivial|refine ⟨⟨_, rfl, ?_⟩, ?_⟩|exact .c .d|(refine .c (.row rfl ?_); ((try dsimp only); first|rfl|omega|(simp only [lns] <;> omega)); done)|(refine .rowD ?_ rowOf_isD; rw [rowOf_append]; rfl))
    · have hk' : k = s.size := by omega
      have et : (bytesI s).take k = bytesI s := List.take_of_length_le (by rw [bytesI_len]; omega)
      have hr : ∀ x ∈ bytesI s, 0 <= x /\ x < 32 := fun x hx => ⟨(bytesI_range s x hx).1, hall x (by rw [et]; exact hx)⟩
      have htw := twice_spec (bytesI s) hr
      rw [et]
      have hbl := bytesI_len s
      repeat' (first|(refine gR ?_; first|refine x_opF rfl (by first|exact True.intro|omega) ?_|(refine gC ?_; first|refine vr_callU [45] (htw) (gk rfl) rfl (by (repeat' (first|exact .nil|refine .cons ?_ ?_|exact .of0 (.c .d)|exact .of0 .ep|exact .clo|exact .of0 (.c .nil)|exact .of0 (.c (cr_rowO (by simp) rfl (by first|rfl|omega) (fun _ => rfl)))|refine .of0 (.agg ?_)|exact .d|exact .nil|exact .of0 (.c (cr_row (by decide) rfl rfl (by repeat' (first|exact trivial|refine ⟨?_, ?_⟩|rfl)))))) <;> fail) (by first|rfl|exact hfl_O (fun _ => rfl)|exact hfl_O2 rfl (fun _ => rfl)) rfl (by first|rfl|(simp only [wfRes, wfL, wfArgs, wfs]; rfl)) rfl (by first|exact newB_O|rfl) rfl ?_)|(refine gE ?_; first|refine vr_len_row (gk rfl) rfl rfl (by first|rfl|exact rowOf_length.symm|(simp only [lns] <;> omega)) rfl rfl ?_)|(refine gX ?_; first|refine vr_indexStr (gk rfl) rfl rfl rfl (by omega) (by omega) (by first|exact (Int.toNat_natCast _).symm|rfl) rfl ?_)|(refine gV ?_; first|refine vr_convert_id (gk rfl) rfl ⟨_, rfl⟩ rfl (by first|exact wrap_i64 (by omega)|exact wrap_u64 (by omega)|exact wrap_u16 (by omega)|exact wrap_u8 (by omega)|exact wrap_u32 (by omega)) rfl ?_)|(refine x_gsplit rfl ?_ ?_ <;> intro h <;> have hq := h <;> (try simp only [hqs] at hq)))|(refine gO ?_; first|refine vr_nil ?_)|(refine gT ?_; first|refine q_then_n ?_|refine q_then_x ?_)|(refine gK ?_; first|refine q_blk_x ?_)|refine vc_seq ?_|refine vc_region ?_|(show VC _ (.cond _ _ _) _ _; first|(refine x_cond rfl ?_ ?_ <;> intro h <;> have hq := h <;> (try simp only [hqs] at hq)))|refine vc_ret ?_|refine vc_exit ?_|refine vc_block ?_|refine vc_skip ?_)
      all_goals first
        | (exfalso; omega)
        | skip
      · refine ret_bool isRet_r rfl ?_
        rw [rightB, dupB, <- decide_not]
        refine decide_eq_decide.2 ?_
        simp only [Decidable.not_not]
        exact ⟨fun h => h.2.2, fun h => ⟨fun x hx => (hr x hx).2, by omega, h⟩⟩
      · refine ret_bool isRet_r rfl (decide_eq_false ?_)
        rintro ⟨_, h2, _⟩
        omega
def stepM (s : ByteArray) (self : Int) : Int × ByteArray × Int := if rightB s = false then (0, noS, 10) else if nodeB self = false then (0, noS, 2) else if s = noS then (0, noS, 14) else if bAt s 0 = self then (0, noS, 12) else (bAt s 0, s.extract 1 s.size, 0)
theorem size_pos {s : ByteArray} (h : s ≠ noS) : 1 <= s.size := by
  rcases Nat.eq_zero_or_pos s.size with h0 | h0
  · exfalso
    refine h (bytesI_inj ?_)
    have := bytesI_len s
    rw [h0] at this
    rw [List.length_eq_zero_iff.1 this]; rfl
  · exact h0
theorem bAt_range (s : ByteArray) (i : Nat) : 0 <= bAt s i /\ bAt s i < 256 := by
  unfold bAt
  have := (s.data.toList.getD i 0).toNat_lt
  omega
theorem step_spec (s : ByteArray) (self : Int) (hs : s.size <= 1000000) : FnS Tryz.prog 67 [AD (.str s), AI self] [] (.tup [AI (stepM s self).1, AD (.str (stepM s self).2.1), AI (stepM s self).2.2]) [] := by
  have hbr := bAt_range s 0
  refine FnS.of_body (enters_of Tryz.func67 (by kernel_rfl) rfl) Tryz.func67 rfl Tryz.ntmps67 Tryz.results67 rfl rfl rfl rfl fun E hS => ?_
  by_cases he : s = noS
  · repeat' (first|(refine gR ?_; first|(refine gB ?_; first|refine vr_eqlStr (gk rfl) rfl rfl rfl rfl ?_)|refine x_opF rfl (by first|exact True.intro|omega) ?_|(refine gC ?_; first|refine vr_calldU (right_spec s hs) (gk rfl) rfl rfl rfl (by first|rfl|(simp only [wfRes, wfL, wfArgs, wfs]; rfl)) rfl (by first|exact newB_O|rfl) rfl ?_|refine vr_calldU (node_spec self) (gk rfl) rfl rfl rfl (by first|rfl|(simp only [wfRes, wfL, wfArgs, wfs]; rfl)) rfl (by first|exact newB_O|rfl) rfl ?_))|(refine gO ?_; first|refine vr_nil ?_)|(refine gT ?_; first|refine q_then_n ?_|refine q_then_r ?_)|(refine gK ?_; first|refine q_blk_r ?_)|refine vc_seq ?_|refine vc_region ?_|(show VC _ (.cond _ _ _) _ _; first|(refine x_cond rfl ?_ ?_ <;> intro h <;> have hq := h <;> (try simp only [hqs] at hq)))|refine vc_ret ?_|refine vc_block ?_)
    all_goals first
      | (exfalso; simp_all; done)
      | skip
    · have e : stepM s self = (0, noS, 10) := by rw [stepM, if_pos (by simp_all)]
      rw [e]
      exact ret_d3 isRet_r rfl rfl rfl rfl rfl rfl
    · have e : stepM s self = (0, noS, 2) := by rw [stepM, if_neg (by simp_all), if_pos (by simp_all)]
      rw [e]
      exact ret_d3 isRet_r rfl rfl rfl rfl rfl rfl
    · have e : stepM s self = (0, noS, 14) := by rw [stepM, if_neg (by simp_all), if_neg (by simp_all), if_pos he]
      rw [e]
      exact ret_d3 isRet_r rfl rfl rfl rfl rfl rfl
  · have hp := size_pos he
    repeat' (first|(refine gR ?_; first|(refine gB ?_; first|refine vr_eqlStr (gk rfl) rfl rfl rfl rfl ?_)|(show VR _ _ _ (⟨_, .slice _ _ _ _ _, _, _, _, _⟩ :: _) _ _ _; first|refine vr_tailStr (gk rfl) rfl rfl (by omega) rfl ?_)|refine x_opF rfl (by first|exact True.intro|omega) ?_|(refine gC ?_; first|refine vr_calldU (right_spec s hs) (gk rfl) rfl rfl rfl (by first|rfl|(simp only [wfRes, wfL, wfArgs, wfs]; rfl)) rfl (by first|exact newB_O|rfl) rfl ?_|refine vr_calldU (node_spec self) (gk rfl) rfl rfl rfl (by first|rfl|(simp only [wfRes, wfL, wfArgs, wfs]; rfl)) rfl (by first|exact newB_O|rfl) rfl ?_)|(refine gX ?_; first|refine vr_indexStr (m := 0) (gk rfl) rfl rfl rfl (by decide) (by omega) rfl rfl ?_)|(refine gV ?_; first|refine vr_convert_id (gk rfl) rfl ⟨_, rfl⟩ rfl (by first|exact wrap_i64 (by omega)|exact wrap_u64 (by omega)|exact wrap_u16 (by omega)|exact wrap_u8 (by omega)|exact wrap_u32 (by omega)) rfl ?_))|(refine gO ?_; first|refine vr_nil ?_|refine vr_nil_t (by kernel_rfl) ?_)|(refine gT ?_; first|refine q_then_n ?_|refine q_then_r ?_)|(refine gK ?_; first|refine q_blk_n ?_|refine q_blk_r ?_)|refine vc_seq ?_|refine vc_region ?_|refine vc_region_t ?_|(show VC _ (.cond _ _ _) _ _; first|(refine x_cond rfl ?_ ?_ <;> intro h <;> have hq := h <;> (try simp only [hqs] at hq)))|refine vc_ret ?_|refine vc_block ?_|refine vc_skip ?_)
    all_goals first
      | (exfalso; simp_all; done)
      | skip
    · have e : stepM s self = (0, noS, 10) := by rw [stepM, if_pos (by simp_all)]
      rw [e]
      exact ret_d3 isRet_r rfl rfl rfl rfl rfl rfl
    · have e : stepM s self = (0, noS, 2) := by rw [stepM, if_neg (by simp_all), if_pos (by simp_all)]
      rw [e]
      exact ret_d3 isRet_r rfl rfl rfl rfl rfl rfl
    · have e : stepM s self = (0, noS, 12) := by rw [stepM, if_neg (by simp_all), if_neg (by simp_all), if_neg he, if_pos (by simp_all)]
      rw [e]
      exact ret_d3 isRet_r rfl rfl rfl rfl rfl rfl
    · have e : stepM s self = (bAt s 0, s.extract 1 s.size, 0) := by rw [stepM, if_neg (by simp_all), if_neg (by simp_all), if_neg he, if_neg (by simp_all)]
      rw [e]
      exact ret_d3 isRet_r rfl rfl rfl rfl rfl rfl
end Go.Proofs.D
end
section
namespace Go.Proofs.D
open Go Go.Sx Go.RowKit
set_option maxRecDepth 4000
attribute [local irreducible] VR VC thenQ blockQ retL VX
def parR (l : List RP) (n : Int) : Int := (l.getD (bsRp l n) default).parent
def wayM (l : List RP) : Nat -> List Int -> Int -> List Int
  | 0, S, _ => S
  | f + 1, S, n => if nodeB n = true /\ n ∉ S then (if n = 0 \/ foundRp l n = false then S ++ [n] else wayM l f (S ++ [n]) (parR l n)) else S
def wayL (l : List RP) (n : Int) : List Int := wayM l 33 [] n
theorem len_le : ∀ (N : Nat) (S : List Int), S.Nodup -> (∀ x ∈ S, 0 <= x /\ x < N) -> S.length <= N
  | 0, S, _, h => by
    cases S with
    | nil => simp
    | cons a S => have := h a (by simp); omega
  | N + 1, S, hn, h => by
    have h2 := len_le N (S.erase (N : Int)) (hn.erase _) (fun x hx => by
      have h3 := h x (List.mem_of_mem_erase hx)
      have h4 : x ≠ (N : Int) := fun e => (List.Nodup.not_mem_erase hn) (e ▸ hx)
      omega)
    have h5 := List.length_erase (a := (N : Int)) (l := S)
    split at h5 <;> omega
abbrev yv (l : Nat) : Value := .func (.yield l) #[] #[]
abbrev pv (b : Nat) : Value := .pointer (some ⟨b, 0, none⟩)
abbrev rawA (v : Value) : AV := .c (.d (.raw v))
abbrev stW (y bl : Nat) (S : List Int) (n : Int) : St := stOf [(0, rawA (yv y)), (2, rawA (pv bl)), (4, .rp 4 1 0 0), (5, AI n)] [(4, .row 305 1 (rowOf encB (visV S)))]
abbrev stY (y bl : Nat) (S : List Int) (n : Int) (b : Bool) : St := stOf [(0, rawA (yv y)), (2, rawA (pv bl)), (4, .rp 4 1 0 0), (5, AI n), (17, AB b), (18, rawA (yv y)), (19, AI n)] [(4, .row 305 1 (rowOf encB (visV S)))]
theorem visV_ne (S : List Int) : visV S ≠ [] := fun e => by have := visV_len S; rw [e] at this; simp at this
structure Head (J : List Int -> World -> Prop) (w W : World) (l : List RP) (n : Int) (y bl : Nat) (S : List Int) (at' : Int) (vb : Nat) (a1 : Act) (w1 : World) : Prop where
  nd : S.Nodup
  rg : ∀ x ∈ S, 0 <= x /\ x < 32
  wy : wayM l (33 - S.length) S at' = wayL l n
  vbW : W.heap.size <= vb
  vbc : ∃ us, w1.heap[vb]? = some (.cells us 305 (0, 0))
  j : J S w1
  old : Below w.heap.size w w1
  sz : W.heap.size <= w1.heap.size
  sat : Sat (⟨w1, fun b => b < w.heap.size, fun b => b = vb⟩ : Env Tryz.prog 41) (stW y bl S at') a1 w1
theorem below_of {B : Nat} {w W1 W2 : World} {p : Nat -> Obj -> Prop} (h : Below B w W1) (ht : Turn p W1 W2) (hp : ∀ b o, p b o -> B <= b) (hB : B <= W1.heap.size) : Below B w W2 := h.trans (ht.below hB hp)
theorem find_len {l : List RP} {n : Int} : foundRp l n = true -> bsRp l n < l.length := by
  unfold foundRp
  simp only [Bool.and_eq_true, decide_eq_true_eq]
  exact fun h => h.1
set_option maxHeartbeats 2000000 in
theorem way1_seq {w : World} {l : List RP} {n : Int} {bf bl : Nat} {lv : Value} (hl : l.length <= 1000000)
    (hbf : w.cell? ⟨bf, 0, none⟩ = some (.int .i64 n)) (hbl : w.cell? ⟨bl, 0, none⟩ = some lv) (hf0 : bf < w.heap.size) (hl0 : bl < w.heap.size) (hlv : RepD w (fun b => b < w.heap.size) (rps l) lv) :
    SeqT (fun T => T = 305) Tryz.prog 206 #[pv bf, pv bl] (fun x : Int => #[.int .i64 x]) (fun xs => xs = wayL l n) 32 w := by
  intro y J W hB hJ hy h0
  refine calls_of_wp Tryz.func206 rfl ?_
  have hcell : ∀ (W' : World) (S0 : Nat -> Prop), Below w.heap.size w W' -> w.heap.size <= W'.heap.size -> (∀ b, S0 b -> w.heap.size <= b) -> ∀ b x v, b < w.heap.size -> w.cell? ⟨b, 0, none⟩ = some v -> RepD w (fun b => b < w.heap.size) x v ->
      Cell0 (⟨W', fun b => b < w.heap.size, S0⟩ : Env Tryz.prog 41) b 0 x := by
    intro W' S0 hb' hsz hS b x v hlt hc hr
    refine ⟨⟨v, (World.cell?_of_block (hb'.block b hlt)).trans hc, RepD.keep (fun b' h' => ⟨h', hb'.block b' h'⟩) hr⟩, by show b < W'.heap.size; omega, fun h => by have := hS b h; omega, fun b' h' => ⟨by show b' < W'.heap.size; have h' : b' < w.heap.size := h'; omega, fun h => by have := hS b' h; have h' : b' < w.heap.size := h'; omega⟩⟩
  have hs0 := sat_args (P := Tryz.prog) (N := 41) (w := W) (ρ := fun _ => ⟨0, 0, false⟩) (Im := fun b => b < w.heap.size) (S0 := fun _ => False) (args := [rawA (yv y), rawA (pv bf), rawA (pv bl)]) (vs := [yv y, pv bf, pv bl]) (nt := 41)
    (.cons ⟨rfl, rfl⟩ (.cons ⟨rfl, rfl⟩ (.cons ⟨rfl, rfl⟩ .nil))) rfl (Nat.le_of_ble_eq_true rfl) rfl (fun b hb => by have := hB.size; have hb : b < w.heap.size := hb; omega)
  have hJK : ∀ {S at' vb a2 w2 σ a3 w3}, Head J w W l n y bl S at' vb a2 w2 -> Sat (⟨w2, fun b => b < w.heap.size, fun b => b = vb⟩ : Env Tryz.prog 41) σ a3 w3 -> J S w3 /\ Below w.heap.size w w3 /\ W.heap.size <= w3.heap.size := by
    intro S at' vb a2 w2 σ a3 w3 H hs3
    obtain ⟨ρ, Im, hs3⟩ := hs3
    have hk : Keep w2 (fun b => b = vb) w3 := hs3.keep
    have hks := hk.size
    have hs := H.sz
    have hBs := hB.size
    have ht : Turn (itP W.heap.size fun T => T = 305) w2 w3 := turn_of_keep hk (fun b e => by
      subst e
      obtain ⟨us, hu⟩ := H.vbc
      exact ⟨H.vbW, us, _, _, hu, rfl⟩)
    exact ⟨hJ _ _ _ H.j ht, below_of H.old ht (fun b o h => by have := h.1; omega) (by omega), by omega⟩
  obtain ⟨R, hR⟩ : ∃ R, R = bodyPost Tryz.prog Tryz.f206 (fun e W' => (∃ v, e = .returned v) /\ ∃ xs, xs = wayL l n /\ J xs W') := ⟨_, rfl⟩
  rw [<- hR]
  have hno : ¬ LetsOut R := by
    rintro ⟨a, w, h⟩
    rw [hR] at h
    obtain ⟨⟨v, hv⟩, _⟩ := h
    cases hv
  have hend : ∀ {E : Env Tryz.prog 41} {σ : St} {e : Exit} {a : Act} {w1 : World}, (e = .normal \/ e = .ret) -> Sat E σ a w1 -> J (wayL l n) w1 -> R e a w1 := by
    intro E σ e a w1 he ⟨ρ, Im, hs⟩ hj
    obtain ⟨v, hv, _⟩ := ResOK.results hs (fn := Tryz.f206) (rs := []) rfl .nil
    rw [hR]
    rcases he with rfl | rfl
    · exact ⟨hs.defers, v, hv, ⟨v, rfl⟩, _, rfl, hj⟩
    · exact ⟨hs.defers, v, hv, ⟨v, rfl⟩, _, rfl, hj⟩
  refine VX.run (vx_seq ?_) hs0
  repeat' (first|(refine gR ?_; first|(show VR _ _ _ (⟨_, .alloc _, _, _, _, _⟩ :: _) _ _ _; first|refine vr_allocArr (gk rfl) rfl rfl (by decide) rfl rfl ?_))|(refine gO ?_; first|refine vr_nil ?_)|(refine gT ?_; first|refine q_then_n ?_)|refine vc_region ?_)
  refine vx_seq ?_
  repeat' (first|(refine gR ?_; first|(refine gL ?_; first|refine vr_loadRaw (gk rfl) rfl (hcell W _ hB hB.size (fun b h => h.elim) bf (.int .i64 n) _ hf0 hbf rfl) rfl rfl ?_)|refine x_opF rfl (by first|exact True.intro|omega) ?_)|(refine gO ?_; first|refine vr_nil ?_)|(refine gT ?_; first|refine q_then_n ?_)|refine vc_region ?_)
  refine VX.le (σ' := stW y bl [] n) ?_ ?_
  · show Le _ _ (stOf [(0, rawA (yv y)), (2, rawA (pv bl)), (4, .rp 4 1 0 0), (5, AI n)] [(4, .row 305 1 (rowOf encB (visV [])))])
    rw [visV_nil]
    refine le_gen0 (fun n => n) ?_ ?_ rfl (by first|rfl|(simp only [wfL, wfs]; rfl))
    all_goals repeat' (first|exact trivial|refine ⟨⟨_, rfl, ?_⟩, ?_⟩|exact .c .d|exact .rp rfl|exact .rowD rfl rowOf_isD)
  refine VX.mk fun a1 w1 hs1 => ?_
  have hhead : ∃ vb, Head J w W l n y bl [] n vb a1 w1 := by
    obtain ⟨vb, spare, hh, hloc, hlt, hkeep, hre⟩ := sat_rebase hs1 (visV_ne _) rfl
    have hvb : W.heap.size <= vb := hloc.resolve_left (fun h => h)
    have hBs := hB.size
    have hks := hkeep.size
    have ht : Turn (itP W.heap.size fun T => T = 305) W w1 := turn_of_keep hkeep (fun b h => h.elim)
    refine ⟨vb, by simp, by simp, rfl, hvb, ⟨_, hh⟩, hJ _ _ _ h0 ht, below_of hB ht (fun b o h => by have := h.1; omega) hBs, hks, ?_⟩
    exact hre w1 (fun b => b < w.heap.size) rfl (fun b hb => by have hb : b < w.heap.size := hb; omega)
  clear hs1 hs0 h0
  refine wp_block (wp_loop_ghost (fun k a1 w1 => ∃ S at' vb, k = 33 - S.length /\ Head J w W l n y bl S at' vb a1 w1) 33 ?_ ?_)
  · obtain ⟨vb, h⟩ := hhead
    exact ⟨[], n, vb, rfl, h⟩
  rintro k a2 w2 ⟨S, at', vb, rfl, H⟩
  have hlen := len_le 32 S H.nd H.rg
  have hBsz := hB.size
  have hloopno : ¬ LetsOut (Exit.then (fun a' w' => ∃ n', n' < 33 - S.length /\ ∃ S at' vb, n' = 33 - S.length /\ Head J w W l n y bl S at' vb a' w') (Exit.inBlock 0 R)) := hno
  by_cases hcase : nodeB at' = true /\ at' ∉ S
  · obtain ⟨hnode, hnin⟩ := hcase
    have hr : 0 <= at' /\ at' < 32 := of_decide_eq_true hnode
    have hnd : FnS Tryz.prog 65 [AI at'] [] (AB true) [] := by have := node_spec at'; rwa [hnode] at this
    have hv : (!(visV S).getD at'.toNat default) = true := by
      rw [visV_get _ (by omega), decide_eq_false (by rw [show ((at'.toNat : Nat) : Int) = at' by omega]; exact hnin)]; rfl
    have hvl := visV_len S
    have hnd2 : (S ++ [at']).Nodup := List.nodup_append.2 ⟨H.nd, by simp, fun a ha b hb e => by rw [List.mem_singleton] at hb; subst hb; subst e; exact hnin ha⟩
    have hrg2 : ∀ x ∈ S ++ [at'], 0 <= x /\ x < 32 := fun x hx => by
      rcases List.mem_append.1 hx with h | h
      · exact H.rg x h
      · rw [List.mem_singleton] at h; rw [h]; exact hr
    have hlen2 := len_le 32 _ hnd2 hrg2
    rw [List.length_append, List.length_cons, List.length_nil] at hlen2
    have hwy : wayL l n = if at' = 0 \/ foundRp l at' = false then S ++ [at'] else wayM l (33 - (S ++ [at']).length) (S ++ [at']) (parR l at') := by
      rw [<- H.wy, show 33 - S.length = (32 - S.length) + 1 by omega, wayM, if_pos ⟨hnode, hnin⟩, List.length_append, List.length_cons, List.length_nil, show 33 - (S.length + (0 + 1)) = 32 - S.length by omega]
    refine wp_seq (wp_seq ?_)
    refine wpIn_wide (n := 3).1 (wpIn_region_lit ?_)
    refine list_cut 11 (by simp only [List.take_succ_cons, List.take_zero]; rfl) (by simp only [List.drop_succ_cons, List.drop_zero]; rfl) ?_
    refine list_vr ?hno ?_ _ _ H.sat
    case hno =>
      rintro ⟨a, w, h⟩
      exact hno ⟨a, w, h⟩
    repeat' (first|(refine gR ?_; first|(refine gI ?_; first|refine vr_indexArr (gk rfl) rfl rfl rfl rfl (by omega) (by omega) rfl ?_)|refine x_opF rfl (by first|exact True.intro|omega) ?_|(refine gC ?_; first|refine vr_calldU (hnd) (gk rfl) rfl rfl rfl (by first|rfl|(simp only [wfRes, wfL, wfArgs, wfs]; rfl)) rfl (by first|exact newB_O|rfl) rfl ?_)|(refine gL ?_; first|refine vr_load_rowO (gk rfl) rfl rfl (by omega) rfl rfl rfl ?_)|refine x_gknow rfl (by assumption) ?_)|(refine gO ?_; first|refine vr_nil ?_))
    refine K_le (σ' := stY y bl S at' true) ?_ ?_
    · refine le_gen0 (fun n => n) ?_ ?_ rfl (by first|rfl|(simp only [wfL, wfs]; rfl))
      all_goals repeat' (first|exact trivial|refine ⟨⟨_, rfl, ?_⟩, ?_⟩|exact .c .d|exact .rp rfl|exact .rowD rfl rowOf_isD)
    intro a3 w3 hs3
    obtain ⟨hj3, ho3, hz3⟩ := hJK H hs3
    obtain ⟨vb3, spare, hh, hloc, hlt, hkeep, hre⟩ := sat_rebase hs3 (visV_ne _) rfl
    have hvb3 : W.heap.size <= vb3 := by
      rcases hloc with h | h
      · rw [h]; exact H.vbW
      · have := H.sz; exact Nat.le_trans this h
    have he18 : a3.eval (.tmp 18) = yv y := by
      obtain ⟨ρ, Im, h3⟩ := hs3
      exact (h3.fr 18 (rawA (yv y)) rfl).1
    have he19 : a3.eval (.tmp 19) = .int .i64 at' := by
      obtain ⟨ρ, Im, h3⟩ := hs3
      exact h3.fr 19 (AI at') rfl
    refine yield_in ?hg he18 he19 (hy 2 S at' w3 hj3 (by omega)) ?_
    case hg =>
      obtain ⟨ρ, Im, h3⟩ := hs3
      exact GOK.wanted (N := 41) (σ := stY y bl S at' true) (GOK.some (j := 8) (g := 17) (want := true) (b := true) rfl rfl rfl rfl rfl) h3 (fun p hp => by rw [List.mem_singleton] at hp; subst hp; rfl)
    rintro w4 ⟨hj4, ht4⟩
    have hvb4 : w4.heap[vb3]? = w3.heap[vb3]? := by
      rw [hh]
      exact ht4.block _ _ hh (fun h => h.2 ⟨_, _, _, rfl, rfl⟩)
    have ho4 : Below w.heap.size w w4 := below_of ho3 ht4 (fun b o h => h.1) (by omega)
    have hz4 : W.heap.size <= w4.heap.size := Nat.le_trans hz3 ht4.size
    have hs4 := hre w4 (fun b => b < w.heap.size) hvb4 (fun b hb => by have hb : b < w.heap.size := hb; omega)
    have hc4 := ho4
    have hs5 : Sat (⟨w4, fun b => b < w.heap.size, fun b => b = vb3⟩ : Env Tryz.prog 41) ((stY y bl S at' true).upd (.s 20) (some (.v (AB true)))) (a3.put (some 20) (.bool true)) w4 := by
      obtain ⟨ρ, Im, h4⟩ := hs4
      exact ⟨ρ, Im, h4.put (by decide) rfl (fun nm hn => by cases hn)⟩
    have hJ4 : ∀ {σ : St} {a5 : Act} {w5 : World}, Sat (⟨w4, fun b => b < w.heap.size, fun b => b = vb3⟩ : Env Tryz.prog 41) σ a5 w5 -> J (S ++ [at']) w5 /\ Below w.heap.size w w5 /\ W.heap.size <= w5.heap.size := by
      intro σ a5 w5 h5
      obtain ⟨ρ, Im, h5⟩ := h5
      have hk : Keep w4 (fun b => b = vb3) w5 := h5.keep
      have hks := hk.size
      have ht : Turn (itP W.heap.size fun T => T = 305) w4 w5 := turn_of_keep hk (fun b e => by
        subst e
        exact ⟨hvb3, _, _, _, hvb4.trans hh, rfl⟩)
      exact ⟨hJ _ _ _ hj4 ht, below_of ho4 ht (fun b o h => by have := h.1; omega) (by omega), by omega⟩
    have hcl : Cell0 (⟨w4, fun b => b < w.heap.size, fun b => b = vb3⟩ : Env Tryz.prog 41) bl 0 (rps l) := hcell w4 _ ho4 (by omega) (fun b h => by rw [h]; omega) bl (rps l) lv hl0 hbl hlv
    refine list_cut 1 (by simp only [List.take_succ_cons, List.take_zero]; rfl) (by simp only [List.drop_succ_cons, List.drop_zero]; rfl) ?_
    refine list_vr ?hno2 ?_ _ _ hs5
    case hno2 =>
      rintro ⟨a, w, h⟩
      exact hno ⟨a, w, h⟩
    repeat' (first|(refine gR ?_; first|refine x_opF rfl (by first|exact True.intro|omega) ?_)|(refine gO ?_; first|refine vr_nil ?_))
    refine fun a5 w5 hs6 => ?_
    show Code.wp _ _ _ _ _
    refine VX.run (vx_of ?_) hs6
    repeat' (first|(show VC _ (.cond _ _ _) _ _; first|refine vc_cond_t rfl ?_)|refine vc_skip ?_)
    refine fun a6 w6 hs7 => ?_
    show Code.wp _ _ _ _ _
    refine VX.run (vx_of ?_) hs7
    have hset : (visV S).set at'.toNat true = visV (S ++ [at']) := visV_set S hr
    have hfl : foundRp l at' = true -> bsRp l at' < l.length := find_len
    cases hfo : foundRp l at' with
    | false =>
      have hfd := find_spec l at' hl
      rw [hfo] at hfd
      repeat' (first|(refine gR ?_; first|(refine gL ?_; first|refine vr_loadRaw (gk rfl) rfl (hcl) rfl rfl ?_)|(refine gS ?_; first|refine vr_storeB (gk rfl) rfl rfl rfl (by omega) rfl ?_)|(refine gI ?_; first|refine vr_indexArr (gk rfl) rfl rfl rfl rfl (by omega) (by omega) rfl ?_)|refine x_opF rfl (by first|exact True.intro|omega) ?_|(refine gC ?_; first|refine vr_calldU (hfd) (gk rfl) rfl rfl rfl (by first|rfl|(simp only [wfRes, wfL, wfArgs, wfs]; rfl)) rfl (by first|exact newB_O|rfl) rfl ?_)|(refine x_gsplit rfl ?_ ?_ <;> intro h <;> have hq := h <;> (try simp only [hqs] at hq)))|(refine gO ?_; first|refine vr_nil ?_)|(refine gT ?_; first|refine q_then_n ?_|refine q_then_r ?_)|(refine gK ?_; first|refine q_blk_r ?_)|refine vc_seq ?_|refine vc_region ?_|(show VC _ (.cond _ _ _) _ _; first|refine vc_cond_t rfl ?_)|refine vc_ret ?_|refine vc_block ?_)
      · intro a7 w7 h7
        show R .ret a7 w7
        exact hend (.inr rfl) h7 (by rw [hwy, if_pos (.inl hq)]; exact (hJ4 h7).1)
      · intro a7 w7 h7
        show R .ret a7 w7
        exact hend (.inr rfl) h7 (by rw [hwy, if_pos (.inr hfo)]; exact (hJ4 h7).1)
    | true =>
      have hfd := find_spec l at' hl
      rw [hfo] at hfd
      have hb2 := hfl hfo
      repeat' (first|(refine gR ?_; first|(refine gL ?_; first|refine vr_loadRaw (gk rfl) rfl (hcl) rfl rfl ?_)|(refine gS ?_; first|refine vr_storeB (gk rfl) rfl rfl rfl (by omega) rfl ?_)|(refine gI ?_; first|refine vr_indexArr (gk rfl) rfl rfl rfl rfl (by omega) (by omega) rfl ?_)|refine x_opF rfl (by first|exact True.intro|omega) ?_|(refine gC ?_; first|refine vr_calldU (hfd) (gk rfl) rfl rfl rfl (by first|rfl|(simp only [wfRes, wfL, wfArgs, wfs]; rfl)) rfl (by first|exact newB_O|rfl) rfl ?_)|(refine gI ?_; first|refine vr_index_rd (gk rfl) rfl rfl rfl rfl rfl (by omega) rfl ?_)|(refine x_gsplit rfl ?_ ?_ <;> intro h <;> have hq := h <;> (try simp only [hqs] at hq)))|(refine gO ?_; first|refine vr_nil ?_)|(refine gT ?_; first|refine q_then_n ?_|refine q_then_r ?_)|(refine gK ?_; first|refine q_blk_n ?_|refine q_blk_r ?_)|refine vc_seq ?_|refine vc_region ?_|(show VC _ (.cond _ _ _) _ _; first|refine vc_cond_t rfl ?_|refine vc_cond_f rfl ?_)|refine vc_ret ?_|refine vc_block ?_|refine vc_skip ?_)
      · intro a7 w7 h7
        show R .ret a7 w7
        exact hend (.inr rfl) h7 (by rw [hwy, if_pos (.inl hq)]; exact (hJ4 h7).1)
      · refine K_le (σ' := stW y bl (S ++ [at']) (parR l at')) ?_ ?_
        · show Le _ _ (stOf [(0, rawA (yv y)), (2, rawA (pv bl)), (4, .rp 4 1 0 0), (5, AI (l.getD (bsRp l at') default).parent)] [(4, .row 305 1 (rowOf encB (visV (S ++ [at']))))])
          rw [<- hset]
          refine le_gen0 (fun n => n) ?_ ?_ rfl (by first|rfl|(simp only [wfL, wfs]; rfl))
          all_goals repeat' (first|exact trivial|refine ⟨⟨_, rfl, ?_⟩, ?_⟩|exact .c .d|exact .rp rfl|exact .rowD rfl rowOf_isD)
        intro a7 w7 h7
        obtain ⟨hj7, ho7, hz7⟩ := hJ4 h7
        obtain ⟨vb7, spare7, hh7, hloc7, hlt7, hkeep7, hre7⟩ := sat_rebase h7 (visV_ne _) rfl
        have hvb7 : W.heap.size <= vb7 := by
          rcases hloc7 with h | h
          · rw [h]; exact hvb3
          · exact Nat.le_trans hz4 h
        refine ⟨33 - (S ++ [at']).length, by rw [List.length_append, List.length_cons, List.length_nil]; omega, S ++ [at'], parR l at', vb7, rfl, hnd2, hrg2, ?_, hvb7, ⟨_, hh7⟩, hj7, ho7, hz7, ?_⟩
        · rw [hwy, if_neg (by rw [hfo]; simp [hq])]
        · exact hre7 w7 (fun b => b < w.heap.size) rfl (fun b hb => by have hb : b < w.heap.size := hb; omega)
  · have hw : wayL l n = S := by
      rw [<- H.wy, show 33 - S.length = (32 - S.length) + 1 by omega, wayM, if_neg hcase]
    refine VX.run (vx_of ?_) H.sat
    by_cases hnode : nodeB at' = true
    · have hin : at' ∈ S := Classical.not_not.1 fun h => hcase ⟨hnode, h⟩
      have hr := H.rg _ hin
      have hnd : FnS Tryz.prog 65 [AI at'] [] (AB true) [] := by have := node_spec at'; rwa [hnode] at this
      have hv : (!(visV S).getD at'.toNat default) = false := by
        rw [visV_get _ (by omega), decide_eq_true (by rw [show ((at'.toNat : Nat) : Int) = at' by omega]; exact hin)]; rfl
      have hvl := visV_len S
      repeat' (first|(refine gR ?_; first|(refine gI ?_; first|refine vr_indexArr (gk rfl) rfl rfl rfl rfl (by omega) (by omega) rfl ?_)|refine x_opF rfl (by first|exact True.intro|omega) ?_|(refine gC ?_; first|refine vr_calldU (hnd) (gk rfl) rfl rfl rfl (by first|rfl|(simp only [wfRes, wfL, wfArgs, wfs]; rfl)) rfl (by first|exact newB_O|rfl) rfl ?_)|(refine gL ?_; first|refine vr_load_rowO (gk rfl) rfl rfl (by omega) rfl rfl rfl ?_)|refine x_gknow rfl (by assumption) ?_)|(refine gO ?_; first|refine vr_nil ?_)|(refine gT ?_; first|refine q_then_n ?_|refine q_then_x ?_)|refine vc_seq ?_|refine vc_region ?_|(show VC _ (.cond _ _ _) _ _; first|refine vc_cond_f rfl ?_)|refine vc_exit ?_)
      refine fun a3 w3 hs3 => ?_
      show (if 0 = 0 then R .normal a3 w3 else R (.exit 0) a3 w3)
      rw [if_pos rfl]
      exact hend (.inl rfl) hs3 (by rw [hw]; exact (hJK H hs3).1)
    · have hnd : FnS Tryz.prog 65 [AI at'] [] (AB false) [] := by
        have := node_spec at'
        rw [Bool.not_eq_true] at hnode
        rw [hnode] at this
        exact this
      repeat' (first|(refine gR ?_; first|refine x_opF rfl (by first|exact True.intro|omega) ?_|(refine gC ?_; first|refine vr_calldU (hnd) (gk rfl) rfl rfl rfl (by first|rfl|(simp only [wfRes, wfL, wfArgs, wfs]; rfl)) rfl (by first|exact newB_O|rfl) rfl ?_))|(refine gO ?_; first|refine vr_nil ?_)|(refine gT ?_; first|refine q_then_n ?_|refine q_then_x ?_)|refine vc_seq ?_|refine vc_region ?_|(show VC _ (.cond _ _ _) _ _; first|refine vc_cond_f rfl ?_)|refine vc_exit ?_)
      refine fun a3 w3 hs3 => ?_
      show (if 0 = 0 then R .normal a3 w3 else R (.exit 0) a3 w3)
      rw [if_pos rfl]
      exact hend (.inl rfl) hs3 (by rw [hw]; exact (hJK H hs3).1)
end Go.Proofs.D
end
section
namespace Go.Proofs.D
open Go Go.Sx Go.RowKit
set_option maxRecDepth 4000
attribute [local irreducible] VR VC thenQ blockQ retL VX
theorem way_fn (lv : Value) (n : Int) : FnS Tryz.prog 146 [rawA lv, AI n] [] (.fnc 206 [.ptr 3 0, .ptr 2 0]) [(2, .box [.d (.raw lv)]), (3, .box [.d (.int .i64 n)])] := by
  refine FnS.of_body (enters_of Tryz.func146 (by kernel_rfl) rfl) Tryz.func146 rfl Tryz.ntmps146 Tryz.results146 rfl rfl rfl rfl fun E hS => ?_
  repeat' (first|(refine gR ?_; first|refine x_opF rfl (by first|exact True.intro|omega) ?_)|(refine gO ?_; first|refine vr_nil ?_)|(refine gT ?_; first|refine q_then_n ?_)|refine vc_seq ?_|refine vc_region ?_|refine vc_ret ?_)
  exact ⟨isRet_r, [.fnc 206 [.ptr 3 0, .ptr 2 0]], .tmp rfl rfl .nil, rfl, fun p hp => by
    simp only [List.mem_cons, List.not_mem_nil, or_false] at hp
    rcases hp with rfl | rfl <;> rfl⟩
theorem way_raw (lv : Value) (h1 : lv.oneCell' = true) (n : Int) (w : World) :
    Calls Tryz.prog 146 #[lv, .int .i64 n] w fun e w' => ∃ v, e = .returned v /\ ∃ bf bl, v = .func (.func 206) #[] #[pv bf, pv bl] /\ bf < w'.heap.size /\ bl < w'.heap.size /\ w'.cell? ⟨bf, 0, none⟩ = some (.int .i64 n) /\ w'.cell? ⟨bl, 0, none⟩ = some lv /\ Below w.heap.size w w' := by
  have h := (way_fn lv n).2 w (fun _ => ⟨0, 0, true⟩) (fun _ => False) (fun _ => False) [lv, .int .i64 n] (.cons ⟨rfl, h1⟩ (.cons rfl .nil)) (memAt_empty (fun b hb => hb.elim))
  refine Calls.mono h fun e w' hh => ?_
  obtain ⟨v, ρ, Im, rfl, hm, ⟨us, rfl, hus⟩, _⟩ := hh
  refine ⟨_, rfl, ?_⟩
  cases hus with
  | cons h1 hus =>
    cases hus with
    | cons h2 hus =>
      cases hus
      have e1 := h1
      have e2 := h2
      simp only [RepC] at e1 e2
      subst e1; subst e2
      obtain ⟨hn2, us2, T2, hh2, ha2⟩ := hm.bk 2 _ rfl
      obtain ⟨hn3, us3, T3, hh3, ha3⟩ := hm.bk 3 _ rfl
      obtain ⟨hl2, _⟩ := hm.own 2 _ rfl rfl hn2
      obtain ⟨hl3, _⟩ := hm.own 3 _ rfl rfl hn3
      cases ha2 with
      | cons hv2 ha2 =>
        cases ha2
        cases ha3 with
        | cons hv3 ha3 =>
          cases ha3
          have hv2 := hv2.1
          have hv3 : _ = Value.int .i64 n := hv3
          subst hv2; subst hv3
          exact ⟨_, _, rfl, hl3, hl2, by simp [World.cell?, hh3], by simp [World.cell?, hh2], hm.keep.below (fun b h => h)⟩
theorem collect_raw {own : TypeId -> Prop} (h32 : ¬ own 74) (h3 : ¬ own 3) {g : Nat} {lb : Array Value} (eg : ∀ args w, (callFunc g args).run Tryz.prog w = .ok (.enter g args) w) {S : List Int -> Prop} {N : Nat} (hN : N <= 1000000) {w : World}
    (hseq : SeqT own Tryz.prog g lb (fun x : Int => #[.int .i64 x]) S N w) :
    Calls Tryz.prog 145 #[.func (.func g) #[] lb] w fun e w' => ∃ v, e = .returned v /\ ∃ xs, S xs /\ w'.ownsRow w.heap.size 3 1 v xs.length (xs.map fun x => .int .i64 x) /\ Below w.heap.size w w' := by
  have hc : Calls Tryz.prog 205 #[.slice none 0 0, .func (.func g) #[] lb] w fun e w' => ∃ v, e = .returned v /\ ∃ xs, S xs /\ w'.ownsRow w.heap.size 3 1 v xs.length (xs.map fun x => .int .i64 x) /\ Below w.heap.size w w' :=
    Calls.mono (appendSeq_calls h32 h3 eg hN hseq) fun e w' ⟨v, xs, h1, h2, h3, _, h5⟩ => ⟨v, h1, xs, h2, h3, h5⟩
  refine (callsIn_wide (n := 3)).1 ?_
  refine callsIn_of_wp Tryz.func145 rfl trivial ?_ rfl
  simp only [Tryz.ntmps145, List.size_toArray, List.length_cons, List.length_nil, Nat.reduceAdd, Nat.reduceSub, Array.replicate_succ, Array.replicate_zero, List.push_toArray, List.append_toArray, List.nil_append, List.cons_append]
  gi_wp2
  refine ⟨trivial, callsIn_wide.2 (Calls.mono hc ?_)⟩
  rintro e w' ⟨v, rfl, xs, hS, hrow, hbel⟩
  gi_wp2
  exact ⟨by simp, _, results_tmp rfl _ _ _, v, rfl, xs, hS, hrow, hbel⟩
def revK (l : List Int) (k : Nat) : List Int := (List.range l.length).map fun q => if q < k \/ l.length - k <= q then l.getD (l.length - 1 - q) default else l.getD q default
theorem revK_len (l : List Int) (k : Nat) : (revK l k).length = l.length := by simp [revK]
theorem revK_get (l : List Int) (k : Nat) {q : Nat} (h : q < l.length) : (revK l k).getD q default = if q < k \/ l.length - k <= q then l.getD (l.length - 1 - q) default else l.getD q default := by
  simp [revK, List.getD, h]
theorem revK_zero (l : List Int) : revK l 0 = l := by
  refine list_getD (revK_len l 0) fun i hi => ?_
  rw [revK_len] at hi
  rw [revK_get l 0 hi, if_neg (by omega)]
theorem revK_end {l : List Int} {k : Nat} (h : l.length <= 2 * k + 1) : revK l k = l.reverse := by
  refine list_getD (by rw [revK_len, List.length_reverse]) fun i hi => ?_
  rw [revK_len] at hi
  have e : l.reverse.getD i default = l.getD (l.length - 1 - i) default := by
    rw [List.getD_eq_getElem?_getD, List.getElem?_reverse hi, <- List.getD_eq_getElem?_getD]
  rw [revK_get l k hi, e]
  split
  · rfl
  · have : l.length - 1 - i = i := by omega
    rw [this]
theorem getD_set {l : List Int} {i j : Nat} {x : Int} : (l.set i x).getD j default = if i = j /\ j < l.length then x else l.getD j default := by
  rw [List.getD_eq_getElem?_getD, List.getElem?_set]
  by_cases h : i = j
  · subst h
    by_cases h2 : i < l.length
    · simp [h2]
    · simp [h2, List.getD]
  · simp [h]
theorem revK_step {l : List Int} {k : Nat} (h : 2 * k + 1 < l.length) : ((revK l k).set k ((revK l k).getD (l.length - 1 - k) default)).set (l.length - 1 - k) ((revK l k).getD k default) = revK l (k + 1) := by
  refine list_getD (by simp [revK_len]) fun i hi => ?_
  have hi : i < l.length := by simpa [revK_len] using hi
  rw [getD_set, getD_set, List.length_set, revK_len, revK_get l (k + 1) hi, revK_get l k hi, revK_get l k (show k < l.length by omega), revK_get l k (show l.length - 1 - k < l.length by omega)]
  by_cases h1 : l.length - 1 - k = i
  · subst h1
    rw [if_pos ⟨rfl, hi⟩, if_neg (by omega), if_pos (by omega)]
    all_goals (congr 1; try omega)
  · rw [if_neg (by omega)]
    by_cases h2 : k = i
    · subst h2
      rw [if_pos ⟨rfl, hi⟩, if_neg (by omega), if_pos (by omega)]
      all_goals (congr 1; try omega)
    · rw [if_neg (by omega)]
      by_cases h3 : i < k \/ l.length - k <= i
      · rw [if_pos h3, if_pos (by omega)]
      · rw [if_neg h3, if_neg (by omega)]
set_option maxHeartbeats 1000000 in
theorem rev_spec (l : List Int) (hl : l.length <= 1000000) : FnW Tryz.prog 147 [.c (.row 100 l.length)] [(100, .row 3 1 (rowOf encI l))] [100] (.tup []) [(100, .row 3 1 (rowOf encI l.reverse))] := by
  intro r
  simp only [pinsL, List.map_cons, List.map_nil, List.cons_append, List.nil_append, Nat.reduceAdd]
  refine FnS.of_bodyM (enters_of Tryz.func147 (by kernel_rfl) rfl) Tryz.func147 rfl Tryz.ntmps147 Tryz.results147 rfl (by first|rfl|(simp only [wfRes, wfL, wfArgs, wfs, mpO_namesB, mpO_namesI]; rfl)) rfl fun E => ?_
  refine vc_retL ?_
  repeat' (first|(refine gR ?_; first|refine x_opF rfl (by first|exact True.intro|omega) ?_|(refine gE ?_; first|refine vr_len_row (gk rfl) rfl rfl (by first|rfl|exact rowOf_length.symm|(simp only [lns] <;> omega)) rfl rfl ?_))|(refine gO ?_; first|refine vr_nil ?_)|(refine gT ?_; first|refine q_then_n ?_)|refine vc_seq ?_|refine vc_region ?_|refine vc_block ?_)
  refine vc_loopI (ι := Nat) (fun k => stOf [(0, .c (.row 100 l.length)), (2, AI k), (3, AI ((l.length : Int) - 1 - k))] [(9100, .pin 100 (r 100)), (100, .row 3 1 (rowOf encI (revK l k)))])
    (fun k => 2 * k <= l.length + 1) (fun k => l.length + 1 - k) 0 (by omega) ?_ ?_
  · rw [revK_zero]
    refine le_gen0 (fun n => n) ?_ ?_ rfl (by first|rfl|(simp only [wfL, wfs, mpO_namesB, mpO_namesI]; rfl))
    all_goals repeat' (first|exact trivial|refine ⟨⟨_, rfl, ?_⟩, ?_⟩|exact .c .d|exact .c (.row rfl rfl)|(refine .c (cw_eq ?_); (congr 1; omega); done)|exact .pin rfl|exact .rowD rfl rowOf_isD)
  · intro k hk
    have hkl := revK_len l k
    by_cases hc : 2 * k + 1 < l.length
    · have hdd : decide ((k : Int) < (l.length : Int) - 1 - k) = true := decide_eq_true (by omega)
      have ej : ((l.length : Int) - 1 - k) = ((l.length - 1 - k : Nat) : Int) := by omega
      rw [ej] at hdd ⊢
      repeat' (first|(refine gR ?_; first|(refine gS ?_; first|refine vr_storeI (gk rfl) rfl rfl rfl (by first|omega|((try simp only [lns]); omega)) rfl ?_)|refine x_opF rfl (by first|exact True.intro|omega) ?_|(refine gI ?_; first|refine vr_index_rowO (gk rfl) rfl rfl rfl rfl rfl rfl (by omega) (by omega) rfl ?_|refine vr_index_rowN (gk rfl) rfl rfl rfl rfl rfl (by omega) (by first|rfl|exact rowOf_length.symm|(simp only [lns] <;> omega)) rfl ?_)|(refine gL ?_; first|refine vr_load_rowO (gk rfl) rfl rfl (by omega) rfl rfl rfl ?_))|(refine gO ?_; first|refine vr_nil ?_|refine vr_nil_t (by kernel_rfl) ?_)|(refine gT ?_; first|refine q_then_n ?_)|(refine gK ?_; first|refine q_blk_n ?_)|refine vc_seq ?_|refine vc_region ?_|refine vc_region_t ?_|(show VC _ (.cond _ _ _) _ _; first|refine vc_cond_t rfl ?_|refine x_know rfl (by assumption) ?_)|refine vc_block ?_|refine vc_skip ?_)
      refine ⟨k + 1, by omega, by omega, ?_⟩
      rw [<- revK_step hc]
      have e1 : ((l.length : Int) - 1 - (k + 1 : Nat)) = ((l.length - 1 - k : Nat) : Int) - 1 := by omega
      rw [e1]
      refine le_gen0 (fun n => n) ?_ ?_ rfl (by first|rfl|(simp only [wfL, wfs, mpO_namesB, mpO_namesI]; rfl))
      all_goals repeat' (first|exact trivial|refine ⟨⟨_, rfl, ?_⟩, ?_⟩|exact .c .d|exact .c (.row rfl rfl)|exact .pin rfl|exact .rowD rfl rowOf_isD)
    · have hdd : decide ((k : Int) < (l.length : Int) - 1 - k) = false := decide_eq_false (by omega)
      repeat' (first|(refine gR ?_; first|refine x_opF rfl (by first|exact True.intro|omega) ?_)|(refine gO ?_; first|refine vr_nil ?_)|(refine gT ?_; first|refine q_then_n ?_|refine q_then_x ?_)|(refine gK ?_; first|refine q_blk_x ?_)|refine vc_seq ?_|refine vc_region ?_|(show VC _ (.cond _ _ _) _ _; first|refine vc_cond_f rfl ?_|refine x_know rfl (by assumption) ?_)|refine vc_exit ?_)
      rw [<- revK_end (show l.length <= 2 * k + 1 by omega)]
      refine retL_of (le_gen0 (l := []) (b := [(9100, .pin 100 (r 100)), (100, .row 3 1 (rowOf encI (revK l k)))]) (fun n => n) ?_ ?_ rfl (by first|rfl|(simp only [wfL, wfs, mpO_namesB, mpO_namesI]; rfl))) (retW isRet_n .nil rfl (by repeat' (first|exact trivial|refine ⟨rfl, ?_⟩)))
      all_goals repeat' (first|exact trivial|refine ⟨⟨_, rfl, ?_⟩, ?_⟩|exact .pin rfl|exact .rowD rfl rowOf_isD)
end Go.Proofs.D
end
section
namespace Go.Proofs.D
open Go Go.Sx Go.RowKit
set_option maxRecDepth 4000
attribute [local irreducible] VR VC thenQ blockQ retL VX
def goodL (r : List Int) : Bool := decide (r ≠ [] /\ r.getD 0 default = 0 /\ r.length <= 9)
def routeM (l : List RP) (n : Int) : List Int := if goodL (wayL l n).reverse = true then (wayL l n).reverse else []
theorem wayM_ok (l : List RP) : ∀ (f : Nat) (S : List Int) (n : Int), S.Nodup -> (∀ x ∈ S, 0 <= x /\ x < 32) -> (wayM l f S n).Nodup /\ ∀ x ∈ wayM l f S n, 0 <= x /\ x < 32
  | 0, S, n, h1, h2 => ⟨h1, h2⟩
  | f + 1, S, n, h1, h2 => by
    unfold wayM
    by_cases hc : nodeB n = true /\ n ∉ S
    · rw [if_pos hc]
      have hr : 0 <= n /\ n < 32 := of_decide_eq_true hc.1
      have hnd2 : (S ++ [n]).Nodup := List.nodup_append.2 ⟨h1, by simp, fun a ha b hb e => by rw [List.mem_singleton] at hb; subst hb; subst e; exact hc.2 ha⟩
      have hrg2 : ∀ x ∈ S ++ [n], 0 <= x /\ x < 32 := fun x hx => by
        rcases List.mem_append.1 hx with h | h
        · exact h2 x h
        · rw [List.mem_singleton] at h; rw [h]; exact hr
      split
      · exact ⟨hnd2, hrg2⟩
      · exact wayM_ok l f _ _ hnd2 hrg2
    · rw [if_neg hc]; exact ⟨h1, h2⟩
theorem wayL_ok (l : List RP) (n : Int) : (wayL l n).Nodup /\ ∀ x ∈ wayL l n, 0 <= x /\ x < 32 := wayM_ok l 33 [] n (by simp) (by simp)
theorem wayL_len (l : List RP) (n : Int) : (wayL l n).length <= 32 := len_le 32 _ (wayL_ok l n).1 (wayL_ok l n).2
theorem route_region {E : Env Tryz.prog 27} {l : List RP} {n : Int} (hl : l.length <= 1000000) {y : Code} {rs : List ResultVar} {res : AV} {bo : List (Nat × Blk)} {af1 af2 : Array Edge} {p0 p1 p2 p3 p4 : String} {a0 a1 a4 : Array Edge}
    (h : VC E y (retQ Tryz.prog rs res bo) (stOf [(5, .c (.row 9 (wayL l n).length))] [(9, .row 3 1 (rowOf encI (wayL l n)))])) :
    VC E (.region 1 #[⟨some 6, .move (.tmp 0), 62, p0, a0, none⟩, ⟨some 7, .move (.tmp 1), 3, p1, a1, none⟩, ⟨some 8, .call ⟨.value (.func 146), #[.tmp 6, .tmp 7], #[62, 3]⟩, 248, p2, af1, none⟩,
      ⟨some 9, .call ⟨.value (.func 145), #[.tmp 8], #[248]⟩, 74, p3, af2, none⟩, ⟨some 5, .assign (.tmp 9), 74, p4, a4, none⟩] false) (thenQ (VC E y (retQ Tryz.prog rs res bo)) (retQ Tryz.prog rs res bo)) (stOf [(0, AD (rps l)), (1, AI n)] []) := by
  refine VC.mk fun a w hs => ?_
  have hno : ¬ LetsOut (fun e a' w' => ∃ σ', Sat E σ' a' w' /\ thenQ (VC E y (retQ Tryz.prog rs res bo)) (retQ Tryz.prog rs res bo) e σ') := by
    rintro ⟨a, w, σ', _, h⟩
    rcases (thenQ_out h).1 with h | h <;> cases h
  refine wpIn_wide (n := 3).1 (wpIn_region_lit ?_)
  refine list_cut 2 (by simp only [List.take_succ_cons, List.take_zero]; rfl) (by simp only [List.drop_succ_cons, List.drop_zero]; rfl) ?_
  refine list_vr hno ?_ _ _ hs
  repeat' (first|(refine gR ?_; first|refine x_opF rfl (by first|exact True.intro|omega) ?_)|(refine gO ?_; first|refine vr_nil ?_))
  refine K_le (σ' := stOf [(6, AD (rps l)), (7, AI n)] []) ?_ ?_
  · refine le_gen0 (fun n => n) ?_ ?_ rfl (by first|rfl|(simp only [wfL, wfs, mpO_namesB, mpO_namesI]; rfl))
    all_goals repeat' (first|exact trivial|refine ⟨⟨_, rfl, ?_⟩, ?_⟩|exact .c .d)
  rintro a2 w2 ⟨ρ, Im, hs2⟩
  obtain ⟨lv, hlv⟩ : ∃ lv, lv = a2.tmps.getD 6 undef := ⟨_, rfl⟩
  have hr6 : RepD w2 Im (rps l) lv := by rw [hlv]; exact hs2.fr 6 (AD (rps l)) rfl
  have hr7 : a2.eval (.tmp 7) = .int .i64 n := hs2.fr 7 (AI n) rfl
  have hr6' : a2.eval (.tmp 6) = lv := hlv.symm
  have hrun := call_run (P := Tryz.prog) (w := w2) (a := a2) (d := 8) (g := 146) (xs := [.tmp 6, .tmp 7]) (ats := #[62, 3]) (ty := 248) (pos := p2) (af := af1) (gd := none) (enters_of Tryz.func146 (by kernel_rfl) rfl)
  simp only [List.map_cons, List.map_nil, hr6', hr7] at hrun
  refine call_in hrun (way_raw lv hr6.one n w2) ?_
  rintro v8 w3 ⟨bf, bl, rfl, hbf, hbl, hcf, hcl, hb3⟩
  have hs3 : SatAt E ((stOf [(6, AD (rps l)), (7, AI n)] []).upd (.s 8) (some (.v (rawA (.func (.func 206) #[] #[pv bf, pv bl]))))) (a2.put (some 8) (.func (.func 206) #[] #[pv bf, pv bl])) w3 ρ Im :=
    (hs2.grow hb3).put (by decide) ⟨rfl, rfl⟩ (fun nm hn => by cases hn)
  have hr8 : (a2.put (some 8) (.func (.func 206) #[] #[pv bf, pv bl])).eval (.tmp 8) = .func (.func 206) #[] #[pv bf, pv bl] := (hs3.fr 8 (rawA _) rfl).1
  have hrun := call_run (P := Tryz.prog) (w := w3) (a := a2.put (some 8) (.func (.func 206) #[] #[pv bf, pv bl])) (d := 9) (g := 145) (xs := [.tmp 8]) (ats := #[248]) (ty := 74) (pos := p3) (af := af2) (gd := none) (enters_of Tryz.func145 (by kernel_rfl) rfl)
  simp only [List.map_cons, List.map_nil, hr8] at hrun
  have hlv3 : RepD w3 (fun b => b < w3.heap.size) (rps l) lv := RepD.keep (fun b hI => ⟨Nat.lt_of_lt_of_le (hs2.im b hI).2.1 hb3.size, hb3.block b (hs2.im b hI).2.1⟩) hr6
  refine call_in hrun (collect_raw (own := fun T => T = 305) (by decide) (by decide) (enters_of Tryz.func206 (by kernel_rfl) rfl) (N := 32) (by decide) (way1_seq hl hcf hcl hbf hbl hlv3)) ?_
  rintro v9 w4 ⟨xs, rfl, hrow, hb4⟩
  obtain ⟨r, hv9, hr, _, hbk⟩ := rows_of_owns hrow
  have hs4 := hs3.addB hb4 (nm := 9) rfl r hr (hbk ρ Im 9) (fun m => by
    have := rowOf_blk (enc := encI) (l := wayL l n) (T := 3) (sz := 1)
    cases hm : (Blk.row 3 1 (rowOf encI (wayL l n))).mentions m with
    | false => rfl
    | true => have h2 := Blk.mem_names hm; rw [this] at h2; cases h2)
  have hs5 := hs4.put (d := 9) (by decide) (x := .c (.row 9 (wayL l n).length)) (v := v9) (by
    show v9 = if (setR ρ 9 r 9).isNil then _ else _
    rw [show setR ρ 9 r 9 = r by simp [setR]]
    exact hv9) (fun nm hn => by
      have : 9 = nm := by simpa [AV.mentions, AV.mentions0, C.mentions] using hn
      subst this
      rw [St.upd_same]; simp)
  refine list_cut 1 (by simp only [List.take_succ_cons, List.take_zero]; rfl) (by simp only [List.drop_succ_cons, List.drop_zero]; rfl) ?_
  refine list_vr hno ?_ _ _ ⟨_, _, hs5⟩
  repeat' (first|(refine gR ?_; first|refine x_opF rfl (by first|exact True.intro|omega) ?_)|(refine gO ?_; first|refine vr_nil ?_))
  refine K_le (σ' := stOf [(5, .c (.row 9 (wayL l n).length))] [(9, .row 3 1 (rowOf encI (wayL l n)))]) ?_ ?_
  · refine le_gen0 (fun n => n) ?_ ?_ rfl (by first|rfl|(simp only [wfL, wfs, mpO_namesB, mpO_namesI]; rfl))
    all_goals repeat' (first|exact trivial|refine ⟨⟨_, rfl, ?_⟩, ?_⟩|exact .c (.row rfl rfl)|exact .rowD rfl rowOf_isD)
  intro a6 w6 hs6
  exact ⟨_, hs6, q_then_n h⟩
theorem route_spec_some (l : List RP) (n : Int) (hl : l.length <= 1000000) (h : goodL (wayL l n).reverse = true) : FnS Tryz.prog 64 [AD (rps l), AI n] [] (AD (ints (routeM l n))) [] := by
  have hlen := wayL_len l n
  have hg := of_decide_eq_true h
  have hrl : (wayL l n).reverse.length = (wayL l n).length := List.length_reverse
  have e : routeM l n = (wayL l n).reverse := if_pos h
  have hne : 0 < (wayL l n).length := by
    rcases Nat.eq_zero_or_pos (wayL l n).length with h0 | h0
    · exact absurd (List.length_eq_zero_iff.1 (hrl.trans h0)) hg.1
    · exact h0
  have hrev := rev_spec (wayL l n) (by omega)
  rw [e]
  refine FnS.of_body (enters_of Tryz.func64 (by kernel_rfl) rfl) Tryz.func64 rfl Tryz.ntmps64 Tryz.results64 rfl rfl rfl rfl fun E hS => ?_
  repeat' (first|(refine gR ?_; first|refine x_opF rfl (by first|exact True.intro|omega) ?_)|(refine gO ?_; first|refine vr_nil ?_)|(refine gT ?_; first|refine q_then_n ?_)|(show VC _ (.seq _ _) _ _; (fail_if_success (show VC _ (.seq (.seq (.region 1 _ _) _) _) _ _)); (fail_if_success (show VC _ (.seq (.region 1 _ _) _) _ _)); refine vc_seq ?_)|refine vc_region ?_)
  refine vc_seq ?_
  refine VC.le (σ' := stOf [(0, AD (rps l)), (1, AI n)] []) ?_ ?_
  · refine le_gen0 (fun n => n) ?_ ?_ rfl (by first|rfl|(simp only [wfL, wfs, mpO_namesB, mpO_namesI]; rfl))
    all_goals repeat' (first|exact trivial|refine ⟨⟨_, rfl, ?_⟩, ?_⟩|exact .c .d)
  refine route_region hl ?_
  refine vc_retL ?_
  repeat' (first|(refine gR ?_; first|refine x_opF rfl (by first|exact True.intro|omega) ?_|(refine gC ?_; first|refine vr_callW (nmL [(100, 9)]) [] [100] (hrev) (gk rfl) rfl rfl (by (repeat' (first|exact .nil|refine .cons ?_ ?_|exact .w (.c (.ptr rfl)) rfl|exact .w (.c (.row rfl rfl)) rfl|exact .w (.c (.mp rfl)) rfl|exact .w (.c (.fn rfl)) rfl|exact .w (.rp rfl) rfl|(refine .w (.fncC ?_) rfl; repeat' (first|exact .nil|refine .cons ?_ ?_|exact .d|exact .ptr rfl|exact .row rfl rfl|(refine .row rfl ?_; ((try dsimp only); first|rfl|omega|(simp only [lns] <;> omega)); done)|exact .fn rfl|exact .mp rfl|exact .frzOf (by first|(simp; done)|decide) rfl rfl (fun _ => rfl)))|exact .r (.of0 (.c .d))|refine .r ?_|exact .of0 (.c .d)|exact .of0 .ep|exact .clo|exact .of0 (.c .nil)|exact .of0 (.c (cr_rowO (by simp) rfl (by first|rfl|omega) (fun _ => rfl)))|refine .of0 (.agg ?_)|exact .d|exact .nil|exact .of0 (.c (cr_row (by decide) rfl rfl (by repeat' (first|exact trivial|refine ⟨?_, ?_⟩|rfl)))))) <;> fail) (by (repeat' (first|exact trivial|refine ⟨⟨_, rfl, ?_⟩, ?_⟩|exact .boxD rfl rfl|exact .rowD rfl rowOf_isD|exact .mapO (fun _ => rfl) rfl|exact .pin rfl|refine .box ?_|exact .nil|refine .cons ?_ ?_|exact .d|exact .ptr rfl|exact .row rfl rfl|(refine .row rfl ?_; ((try dsimp only); first|rfl|omega|(simp only [lns] <;> omega)); done)|exact .fn rfl|exact .mp rfl|exact .frzOf (by first|(simp; done)|decide) rfl rfl (fun _ => rfl))) <;> fail) rfl rfl rfl (by first|rfl|(simp only [List.all_cons, List.all_nil, rowOf_flatB]; rfl)) rfl (by first|rfl|(simp only [wfRes, wfL, wfArgs, wfs, mpO_namesB, mpO_namesI]; rfl)) rfl rfl rfl (by (simp only [newW, List.map_cons, List.map_nil, Blk.ren, C.ren, rowOf_ren, mpO_renB, mpO_renI, gW, memN, nmL, Nat.reduceBEq, Bool.or_false, Bool.or_true, Bool.false_or, Bool.true_or, cond_true, cond_false, Nat.reduceMul, Nat.reduceAdd]) <;> rfl) (by (simp only [AV.ren, AV.ren0, List.map_cons, List.map_nil, C.ren, gW, memN, nmL, Nat.reduceBEq, Bool.or_false, Bool.or_true, Bool.false_or, Bool.true_or, cond_true, cond_false, Nat.reduceMul, Nat.reduceAdd]) <;> rfl) rfl ?_))|(refine gO ?_; first|refine vr_nil ?_)|(refine gT ?_; first|refine q_then_n ?_)|(show VC _ (.seq _ _) _ _; (fail_if_success (show VC _ (.seq (.seq (.region 3 _ _) _) _) _ _)); (fail_if_success (show VC _ (.seq (.region 3 _ _) _) _ _)); refine vc_seq ?_)|refine vc_region ?_)
  generalize hL : (wayL l n).reverse = L at h hg hrl e hrev ⊢
  have h0 := hg.2.1
  have h9 := hg.2.2
  refine VC.le (σ' := stOf [(5, .c (.row 9 L.length))] [(9, .row 3 1 (rowOf encI L))]) ?_ ?_
  · refine le_gen0 (fun n => n) ?_ ?_ rfl (by first|rfl|(simp only [wfL, wfs, mpO_namesB, mpO_namesI]; rfl))
    all_goals repeat' (first|exact trivial|refine ⟨⟨_, rfl, ?_⟩, ?_⟩|(refine .c (.row rfl ?_); ((try dsimp only); first|rfl|omega|(simp only [lns] <;> omega)); done)|exact .rowD rfl rowOf_isD)
  repeat' (first|(refine gR ?_; first|refine x_opF rfl (by first|exact True.intro|omega) ?_|(refine gI ?_; first|refine vr_index_rowN (gk rfl) rfl rfl rfl rfl rfl (by omega) (by first|rfl|exact rowOf_length.symm|(simp only [lns] <;> omega)) rfl ?_)|(refine gE ?_; first|refine vr_len_row (gk rfl) rfl rfl (by first|rfl|exact rowOf_length.symm|(simp only [lns] <;> omega)) rfl rfl ?_)|(refine gL ?_; first|refine vr_load_rowO (gk rfl) rfl rfl (by omega) rfl rfl rfl ?_)|(refine x_gsplit rfl ?_ ?_ <;> intro h <;> have hq := h <;> (try simp only [hqs] at hq)))|(refine gO ?_; first|refine vr_nil ?_)|(refine gT ?_; first|refine q_then_n ?_|refine q_then_r ?_)|refine vc_seq ?_|refine vc_region ?_|(show VC _ (.cond _ _ _) _ _; first|refine vc_cond_t rfl ?_|(refine x_cond rfl ?_ ?_ <;> intro h <;> have hq := h <;> (try simp only [hqs] at hq)))|refine vc_ret ?_|refine vc_skip ?_)
  all_goals first
    | (exfalso; omega)
    | exact absurd h0 hq
    | skip
  refine retL_of (le_gen (l := [(4, AD (ints L))]) (b := []) (fun n => n) [9] hS ?_ ?_ rfl (by first|rfl|(simp only [wfL, wfs, mpO_namesB, mpO_namesI]; rfl))) (ret_d isRet_r rfl rfl)
  all_goals repeat' (first|exact trivial|refine ⟨⟨_, rfl, ?_⟩, ?_⟩|exact .c (.frzOf (by first|(simp; done)|decide) rfl rfl (fun _ => rfl)))
theorem route_spec_none (l : List RP) (n : Int) (hl : l.length <= 1000000) (h : goodL (wayL l n).reverse = false) : FnS Tryz.prog 64 [AD (rps l), AI n] [] (AD .nils) [] := by
  have hlen := wayL_len l n
  have hg := of_decide_eq_false h
  have hrl : (wayL l n).reverse.length = (wayL l n).length := List.length_reverse
  have hrev := rev_spec (wayL l n) (by omega)
  refine FnS.of_body (enters_of Tryz.func64 (by kernel_rfl) rfl) Tryz.func64 rfl Tryz.ntmps64 Tryz.results64 rfl rfl rfl rfl fun E hS => ?_
  repeat' (first|(refine gR ?_; first|refine x_opF rfl (by first|exact True.intro|omega) ?_)|(refine gO ?_; first|refine vr_nil ?_)|(refine gT ?_; first|refine q_then_n ?_)|(show VC _ (.seq _ _) _ _; (fail_if_success (show VC _ (.seq (.seq (.region 1 _ _) _) _) _ _)); (fail_if_success (show VC _ (.seq (.region 1 _ _) _) _ _)); refine vc_seq ?_)|refine vc_region ?_)
  refine vc_seq ?_
  refine VC.le (σ' := stOf [(0, AD (rps l)), (1, AI n)] []) ?_ ?_
  · refine le_gen0 (fun n => n) ?_ ?_ rfl (by first|rfl|(simp only [wfL, wfs, mpO_namesB, mpO_namesI]; rfl))
    all_goals repeat' (first|exact trivial|refine ⟨⟨_, rfl, ?_⟩, ?_⟩|exact .c .d)
  refine route_region hl ?_
  refine vc_retL ?_
  repeat' (first|(refine gR ?_; first|refine x_opF rfl (by first|exact True.intro|omega) ?_|(refine gC ?_; first|refine vr_callW (nmL [(100, 9)]) [] [100] (hrev) (gk rfl) rfl rfl (by (repeat' (first|exact .nil|refine .cons ?_ ?_|exact .w (.c (.ptr rfl)) rfl|exact .w (.c (.row rfl rfl)) rfl|exact .w (.c (.mp rfl)) rfl|exact .w (.c (.fn rfl)) rfl|exact .w (.rp rfl) rfl|(refine .w (.fncC ?_) rfl; repeat' (first|exact .nil|refine .cons ?_ ?_|exact .d|exact .ptr rfl|exact .row rfl rfl|(refine .row rfl ?_; ((try dsimp only); first|rfl|omega|(simp only [lns] <;> omega)); done)|exact .fn rfl|exact .mp rfl|exact .frzOf (by first|(simp; done)|decide) rfl rfl (fun _ => rfl)))|exact .r (.of0 (.c .d))|refine .r ?_|exact .of0 (.c .d)|exact .of0 .ep|exact .clo|exact .of0 (.c .nil)|exact .of0 (.c (cr_rowO (by simp) rfl (by first|rfl|omega) (fun _ => rfl)))|refine .of0 (.agg ?_)|exact .d|exact .nil|exact .of0 (.c (cr_row (by decide) rfl rfl (by repeat' (first|exact trivial|refine ⟨?_, ?_⟩|rfl)))))) <;> fail) (by (repeat' (first|exact trivial|refine ⟨⟨_, rfl, ?_⟩, ?_⟩|exact .boxD rfl rfl|exact .rowD rfl rowOf_isD|exact .mapO (fun _ => rfl) rfl|exact .pin rfl|refine .box ?_|exact .nil|refine .cons ?_ ?_|exact .d|exact .ptr rfl|exact .row rfl rfl|(refine .row rfl ?_; ((try dsimp only); first|rfl|omega|(simp only [lns] <;> omega)); done)|exact .fn rfl|exact .mp rfl|exact .frzOf (by first|(simp; done)|decide) rfl rfl (fun _ => rfl))) <;> fail) rfl rfl rfl (by first|rfl|(simp only [List.all_cons, List.all_nil, rowOf_flatB]; rfl)) rfl (by first|rfl|(simp only [wfRes, wfL, wfArgs, wfs, mpO_namesB, mpO_namesI]; rfl)) rfl rfl rfl (by (simp only [newW, List.map_cons, List.map_nil, Blk.ren, C.ren, rowOf_ren, mpO_renB, mpO_renI, gW, memN, nmL, Nat.reduceBEq, Bool.or_false, Bool.or_true, Bool.false_or, Bool.true_or, cond_true, cond_false, Nat.reduceMul, Nat.reduceAdd]) <;> rfl) (by (simp only [AV.ren, AV.ren0, List.map_cons, List.map_nil, C.ren, gW, memN, nmL, Nat.reduceBEq, Bool.or_false, Bool.or_true, Bool.false_or, Bool.true_or, cond_true, cond_false, Nat.reduceMul, Nat.reduceAdd]) <;> rfl) rfl ?_))|(refine gO ?_; first|refine vr_nil ?_)|(refine gT ?_; first|refine q_then_n ?_)|(show VC _ (.seq _ _) _ _; (fail_if_success (show VC _ (.seq (.seq (.region 3 _ _) _) _) _ _)); (fail_if_success (show VC _ (.seq (.region 3 _ _) _) _ _)); refine vc_seq ?_)|refine vc_region ?_)
  generalize hL : (wayL l n).reverse = L at h hg hrl hrev ⊢
  refine VC.le (σ' := stOf [(5, .c (.row 9 L.length))] [(9, .row 3 1 (rowOf encI L))]) ?_ ?_
  · refine le_gen0 (fun n => n) ?_ ?_ rfl (by first|rfl|(simp only [wfL, wfs, mpO_namesB, mpO_namesI]; rfl))
    all_goals repeat' (first|exact trivial|refine ⟨⟨_, rfl, ?_⟩, ?_⟩|(refine .c (.row rfl ?_); ((try dsimp only); first|rfl|omega|(simp only [lns] <;> omega)); done)|exact .rowD rfl rowOf_isD)
  rcases Nat.eq_zero_or_pos L.length with hz | hz
  · have hdd : decide ((L.length : Int) = 0) = true := decide_eq_true (by omega)
    repeat' (first|(refine gR ?_; first|refine x_opF rfl (by first|exact True.intro|omega) ?_|(refine gE ?_; first|refine vr_len_row (gk rfl) rfl rfl (by first|rfl|exact rowOf_length.symm|(simp only [lns] <;> omega)) rfl rfl ?_)|refine x_gknow rfl (by assumption) ?_)|(refine gO ?_; first|refine vr_nil ?_)|(refine gT ?_; first|refine q_then_n ?_|refine q_then_r ?_)|refine vc_seq ?_|refine vc_region ?_|(show VC _ (.cond _ _ _) _ _; first|refine vc_cond_t rfl ?_)|refine vc_ret ?_)
    exact retL_same (ret_d isRet_r rfl rfl)
  · have hdd : decide ((L.length : Int) = 0) = false := decide_eq_false (by omega)
    have hne : L ≠ [] := fun e => by rw [e] at hz; simp at hz
    repeat' (first|(refine gR ?_; first|refine x_opF rfl (by first|exact True.intro|omega) ?_|(refine gI ?_; first|refine vr_index_rowO (gk rfl) rfl rfl rfl rfl rfl rfl (by omega) (by omega) rfl ?_)|(refine gE ?_; first|refine vr_len_row (gk rfl) rfl rfl (by first|rfl|exact rowOf_length.symm|(simp only [lns] <;> omega)) rfl rfl ?_)|(refine gL ?_; first|refine vr_load_rowO (gk rfl) rfl rfl (by omega) rfl rfl rfl ?_)|refine x_gknow rfl (by assumption) ?_|(refine x_gsplit rfl ?_ ?_ <;> intro h <;> have hq := h <;> (try simp only [hqs] at hq)))|(refine gO ?_; first|refine vr_nil ?_)|(refine gT ?_; first|refine q_then_n ?_|refine q_then_r ?_)|refine vc_seq ?_|refine vc_region ?_|(show VC _ (.cond _ _ _) _ _; first|refine vc_cond_t rfl ?_|(refine x_cond rfl ?_ ?_ <;> intro h <;> have hq := h <;> (try simp only [hqs] at hq)))|refine vc_ret ?_|refine vc_skip ?_)
    · exact retL_same (ret_d isRet_r rfl rfl)
    · exact retL_same (ret_d isRet_r rfl rfl)
    · exact absurd ⟨hne, by assumption, by omega⟩ hg
end Go.Proofs.D
end
section
namespace Go.Proofs.D
open Go Go.Sx
set_option maxRecDepth 4000
attribute [local irreducible] VR VC thenQ blockQ retL
theorem firstErr_zero {n : Nat} {f : Nat -> Int} (h : firstErr n f = 0) : ∀ i, i < n -> f i = 0 := by
  intro i hi
  unfold firstErr at h
  cases hf : (List.range n).find? (fun i => f i != 0) with
  | none =>
    have := List.find?_eq_none.1 hf i (List.mem_range.2 hi)
    simpa using this
  | some k =>
    rw [hf] at h
    have := List.find?_some hf
    have h : f k = 0 := h
    rw [h] at this; cases this
structure OkR (l : List RP) : Prop where
  form : ∀ i, i < l.length -> formR (l.getD i default) = 0
  up : ∀ i, i + 1 < l.length -> (l.getD i default).node < (l.getD (i + 1) default).node
theorem okR_of {l : List RP} (h : checkR l = 0) : OkR l := by
  have h0 := firstErr_zero h
  refine ⟨fun i hi => ?_, fun i hi => ?_⟩
  · have := h0 i hi
    unfold rpErr at this
    split at this
    · rename_i h1; exact absurd this h1
    · rename_i h1; exact Classical.not_not.1 h1
  · have := h0 (i + 1) hi
    unfold rpErr at this
    split at this
    · rename_i h1; exact absurd this h1
    · split at this
      · cases this
      · rename_i h2
        rw [Nat.add_sub_cancel] at h2
        omega
theorem okR_check {l : List RP} (h : OkR l) : checkR l = 0 := by
  refine firstErr_none fun i hi => ?_
  rw [rpErr, if_neg (by rw [h.form i hi]; simp), if_neg]
  rintro ⟨h1, h2⟩
  have := h.up (i - 1) (by omega)
  rw [Nat.sub_add_cancel h1] at this
  omega
theorem formR_ok {r : RP} (h : formR r = 0) : 1 <= r.node /\ r.node < 32 /\ (r.parent = -1 \/ (0 <= r.parent /\ r.parent < 32)) /\ 1 <= r.number /\ r.number <= 2147483647 /\ r.parent ≠ r.node := by
  unfold formR nodeB at h
  split at h
  · cases h
  · rename_i h1
    split at h
    · cases h
    · rename_i h2
      simp only [decide_eq_false_iff_not] at h1
      omega
theorem OkR.lt {l : List RP} (h : OkR l) : ∀ (j i : Nat), i < j -> j < l.length -> (l.getD i default).node < (l.getD j default).node
  | 0, i, hij, _ => absurd hij (Nat.not_lt_zero _)
  | j + 1, i, hij, hj => by
    have h1 := h.up j hj
    rcases Nat.lt_or_ge i j with h2 | h2
    · have := h.lt j i h2 (by omega); omega
    · have : i = j := by omega
      subst this; exact h1
theorem OkR.ge {l : List RP} (h : OkR l) : ∀ (i : Nat), i < l.length -> (i : Int) + 1 <= (l.getD i default).node
  | 0, hi => (formR_ok (h.form 0 hi)).1
  | i + 1, hi => by have := h.ge i (by omega); have := h.up i hi; omega
theorem OkR.len {l : List RP} (h : OkR l) : l.length <= 31 := by
  rcases Nat.eq_zero_or_pos l.length with h0 | h0
  · omega
  · have h1 := h.ge (l.length - 1) (by omega)
    have h2 := (formR_ok (h.form (l.length - 1) (by omega))).2.1
    omega
theorem cmpI_lt {a b : Int} : decide (cmpI a b < 0) = decide (a < b) := by
  unfold cmpI
  refine decide_eq_decide.2 ?_
  split
  · omega
  · split <;> omega
theorem cmpI_eq {a b : Int} : cmpI a b = 0 ↔ a = b := by
  unfold cmpI; split
  · constructor
    · intro h; omega
    · intro h; omega
  · split
    · constructor
      · intro h; omega
      · intro h; omega
    · constructor
      · intro _; omega
      · intro _; rfl
theorem OkR.bs {l : List RP} (h : OkR l) (t : Int) : bsRp l t <= l.length /\ (∀ a, a < bsRp l t -> (l.getD a default).node < t) /\ ∀ a, bsRp l t <= a -> a < l.length -> t <= (l.getD a default).node := by
  have hb := bs_spec (f := fun i => decide (cmpI (l.getD i default).node t < 0)) (n := l.length) (by
    intro a b hab hb hf
    rw [cmpI_lt, decide_eq_true_eq] at hf ⊢
    have := h.lt b a hab hb
    omega)
  refine ⟨hb.1, fun a ha => ?_, fun a h1 h2 => ?_⟩
  · have := hb.2.1 a ha
    rw [cmpI_lt, decide_eq_true_eq] at this; exact this
  · have := hb.2.2 a h1 h2
    rw [cmpI_lt, decide_eq_false_iff_not] at this; omega
theorem found_iff {l : List RP} {t : Int} : foundRp l t = true ↔ bsRp l t < l.length /\ (l.getD (bsRp l t) default).node = t := by
  unfold foundRp
  rw [Bool.and_eq_true, decide_eq_true_eq, decide_eq_true_eq, cmpI_eq]
theorem OkR.fst {l : List RP} (h : OkR l) (t : Int) : fstO l (fun y => decide (y.node = t)) = if foundRp l t = true then some (bsRp l t) else none := by
  obtain ⟨h1, h2, h3⟩ := h.bs t
  split
  · rename_i hf
    obtain ⟨h4, h5⟩ := found_iff.1 hf
    exact fstO_hit (l := l) (p := fun y : RP => decide (y.node = t)) (fun i hi => decide_eq_false (by have := h2 i hi; omega)) h4 (decide_eq_true h5)
  · rename_i hf
    refine fstO_none fun i hi => decide_eq_false fun e => hf (found_iff.2 ?_)
    have h6 : bsRp l t <= i := by
      rcases Nat.lt_or_ge i (bsRp l t) with h7 | h7
      · have := h2 i h7; omega
      · exact h7
    rcases Nat.lt_or_ge (bsRp l t) i with h7 | h7
    · have := h.lt i (bsRp l t) h7 hi
      have := h3 _ (Nat.le_refl _) (by omega)
      omega
    · have : i = bsRp l t := by omega
      subst this
      exact ⟨hi, e⟩
theorem OkR.index {l : List RP} (h : OkR l) (t : Int) : oI (fstO l fun y => decide (y.node = t)) = if foundRp l t = true then (bsRp l t : Int) else -1 := by
  rw [h.fst t]; split <;> rfl
def putM (l : List RP) (r : RP) : List RP × Bool × Int := if checkR l ≠ 0 then ([], false, 1) else if formR r ≠ 0 then ([], false, formR r) else
  if foundRp l r.node = true then (if r.number <= (l.getD (bsRp l r.node) default).number then (l, false, 0) else (l.set (bsRp l r.node) r, true, 0)) else (insAt l (bsRp l r.node) r, true, 0)
set_option maxHeartbeats 2000000 in
theorem put_spec (l : List RP) (r : RP) : FnS Tryz.prog 18 [AD (rps l), rpA r] [] (.tup [AD (rps (putM l r).1), AB (putM l r).2.1, AI (putM l r).2.2]) [] := by
  have hck := checkR_spec l
  have hfm := form_spec r
  refine FnS.of_body (enters_of Tryz.func18 (by kernel_rfl) rfl) Tryz.func18 rfl Tryz.ntmps18 Tryz.results18 rfl rfl rfl rfl fun E hS => ?_
  refine vc_retL ?_
  by_cases hc : checkR l = 0
  · have hok := okR_of hc
    have hl := hok.len
    rw [hc] at hck
    by_cases hf : formR r = 0
    · rw [hf] at hfm
      have hfd := find_spec l r.node (by omega)
      obtain ⟨hb1, hb2, hb3⟩ := hok.bs r.node
      cases hfo : foundRp l r.node with
      | true =>
        rw [hfo] at hfd
        obtain ⟨h4, h5⟩ := found_iff.1 hfo
        have e : putM l r = if r.number <= (l.getD (bsRp l r.node) default).number then (l, false, 0) else (l.set (bsRp l r.node) r, true, 0) := by rw [putM, if_neg (by simp [hc]), if_neg (by simp [hf]), if_pos hfo]
        rw [e]
        repeat' (first|(refine gR ?_; first|refine x_opF rfl (by first|exact True.intro|omega) ?_|(refine gC ?_; first|refine vr_calldU (hck) (gk rfl) rfl rfl rfl (by first|rfl|(simp only [wfRes, wfL, wfArgs, wfs, mpO_namesB, mpO_namesI]; rfl)) rfl (by first|exact newB_O|rfl) rfl ?_|refine vr_calldU (hfm) (gk rfl) rfl rfl rfl (by first|rfl|(simp only [wfRes, wfL, wfArgs, wfs, mpO_namesB, mpO_namesI]; rfl)) rfl (by first|exact newB_O|rfl) rfl ?_|refine vr_calldU (clone_RP l (by omega)) (gk rfl) rfl rfl rfl (by first|rfl|(simp only [wfRes, wfL, wfArgs, wfs, mpO_namesB, mpO_namesI]; rfl)) rfl (by first|exact newB_O|rfl) rfl ?_|refine vr_calldU (hfd) (gk rfl) rfl rfl rfl (by first|rfl|(simp only [wfRes, wfL, wfArgs, wfs, mpO_namesB, mpO_namesI]; rfl)) rfl (by first|exact newB_O|rfl) rfl ?_)|(refine gI ?_; first|refine vr_index_rd (gk rfl) rfl rfl rfl rfl rfl (by omega) rfl ?_|refine vr_index_rowO (gk rfl) rfl rfl rfl rfl rfl rfl (by omega) (by omega) rfl ?_)|(refine gS ?_; first|refine vr_store_rowO (gk rfl) rfl rfl rfl (by omega) rfl rfl rfl ?_))|(refine gO ?_; first|refine vr_nil ?_|refine vr_nil_t (by kernel_rfl) ?_)|(refine gT ?_; first|refine q_then_n ?_|refine q_then_r ?_)|(refine gK ?_; first|refine q_blk_n ?_|refine q_blk_r ?_)|refine vc_seq ?_|refine vc_region ?_|refine vc_region_t ?_|(show VC _ (.cond _ _ _) _ _; first|refine vc_cond_f rfl ?_|(refine x_cond rfl ?_ ?_ <;> intro h <;> have hq := h <;> (try simp only [hqs] at hq)))|refine vc_ret ?_|refine vc_block ?_|refine vc_skip ?_)
        · rw [if_pos hq]
          refine retL_of (le_gen (l := [(4, AD (rps l)), (5, AB false), (6, AI 0)]) (b := []) (fun n => n) [20007] hS ?_ ?_ rfl (by first|rfl|(simp only [wfL, wfs, mpO_namesB, mpO_namesI]; rfl))) (ret_d3 isRet_r rfl rfl rfl rfl rfl rfl)
          all_goals repeat' (first|exact trivial|refine ⟨⟨_, rfl, ?_⟩, ?_⟩|exact .c .d|exact .c (.frzOf (by first|(simp; done)|decide) rfl rfl (fun _ => rfl)))
        · rw [if_neg (by omega)]
          refine retL_of (le_gen (l := [(4, AD (rps (l.set (bsRp l r.node) r))), (5, AB true), (6, AI 0)]) (b := []) (fun n => n) [20007] hS ?_ ?_ rfl (by first|rfl|(simp only [wfL, wfs, mpO_namesB, mpO_namesI]; rfl))) (ret_d3 isRet_r rfl rfl rfl rfl rfl rfl)
          all_goals repeat' (first|exact trivial|refine ⟨⟨_, rfl, ?_⟩, ?_⟩|exact .c .d)
          exact .c (.frzEq (by simp) rfl (rowOf_set rfl) (by simp) (fun _ => rfl))
      | false =>
        rw [hfo] at hfd
        have e : putM l r = (insAt l (bsRp l r.node) r, true, 0) := by rw [putM, if_neg (by simp [hc]), if_neg (by simp [hf]), if_neg (by rw [hfo]; simp)]
        rw [e]
        repeat' (first|(refine gR ?_; first|refine x_opF rfl (by first|exact True.intro|omega) ?_|(refine gC ?_; first|refine vr_calldU (hck) (gk rfl) rfl rfl rfl (by first|rfl|(simp only [wfRes, wfL, wfArgs, wfs, mpO_namesB, mpO_namesI]; rfl)) rfl (by first|exact newB_O|rfl) rfl ?_|refine vr_calldU (hfm) (gk rfl) rfl rfl rfl (by first|rfl|(simp only [wfRes, wfL, wfArgs, wfs, mpO_namesB, mpO_namesI]; rfl)) rfl (by first|exact newB_O|rfl) rfl ?_|refine vr_calldU (clone_RP l (by omega)) (gk rfl) rfl rfl rfl (by first|rfl|(simp only [wfRes, wfL, wfArgs, wfs, mpO_namesB, mpO_namesI]; rfl)) rfl (by first|exact newB_O|rfl) rfl ?_|refine vr_calldU (hfd) (gk rfl) rfl rfl rfl (by first|rfl|(simp only [wfRes, wfL, wfArgs, wfs, mpO_namesB, mpO_namesI]; rfl)) rfl (by first|exact newB_O|rfl) rfl ?_|refine vr_callMU [34] (insert_RP l (bsRp l r.node) r (by omega) hb1) (gk rfl) rfl rfl rowOf_isD rfl (by (repeat' (first|exact .nil|refine .cons ?_ ?_|exact .of0 (.c .d)|exact .of0 .ep|exact .clo|exact .of0 (.c .nil)|exact .of0 (.c (cr_rowO (by simp) rfl (by first|rfl|omega) (fun _ => rfl)))|refine .of0 (.agg ?_)|exact .d|exact .nil|exact .of0 (.c (cr_row (by decide) rfl rfl (by repeat' (first|exact trivial|refine ⟨?_, ?_⟩|rfl)))))) <;> fail) rfl (by first|rfl|exact hfl_O (fun _ => rfl)|exact hfl_O2 rfl (fun _ => rfl)) rfl (by first|rfl|(simp only [wfRes, wfL, wfArgs, wfs, mpO_namesB, mpO_namesI]; rfl)) rfl (by first|exact newB_O|rfl) rfl ?_))|(refine gO ?_; first|refine vr_nil ?_)|(refine gT ?_; first|refine q_then_n ?_|refine q_then_r ?_)|(refine gK ?_; first|refine q_blk_r ?_)|refine vc_seq ?_|refine vc_region ?_|(show VC _ (.cond _ _ _) _ _; first|refine vc_cond_t rfl ?_|refine vc_cond_f rfl ?_)|refine vc_ret ?_|refine vc_block ?_|refine vc_skip ?_)
        refine retL_of (le_gen (l := [(4, AD (rps (insAt l (bsRp l r.node) r))), (5, AB true), (6, AI 0)]) (b := []) (fun n => n) [35001] hS ?_ ?_ rfl (by first|rfl|(simp only [wfL, wfs, mpO_namesB, mpO_namesI]; rfl))) (ret_d3 isRet_r rfl rfl rfl rfl rfl rfl)
        all_goals repeat' (first|exact trivial|refine ⟨⟨_, rfl, ?_⟩, ?_⟩|exact .c .d|(refine .c (.frzOf (by first|(simp; done)|decide) rfl ?_ (fun _ => rfl)); ((try dsimp only); first|rfl|omega|(simp only [lns] <;> omega)); done))
        all_goals (simp only [insAt, List.length_append, List.length_cons, List.length_take, List.length_drop]; omega)
    · have e : putM l r = ([], false, formR r) := by rw [putM, if_neg (by simp [hc]), if_pos hf]
      rw [e]
      have hdd : decide (formR r ≠ 0) = true := decide_eq_true hf
      repeat' (first|(refine gR ?_; first|refine x_opF rfl (by first|exact True.intro|omega) ?_|(refine gC ?_; first|refine vr_calldU (hck) (gk rfl) rfl rfl rfl (by first|rfl|(simp only [wfRes, wfL, wfArgs, wfs, mpO_namesB, mpO_namesI]; rfl)) rfl (by first|exact newB_O|rfl) rfl ?_|refine vr_calldU (hfm) (gk rfl) rfl rfl rfl (by first|rfl|(simp only [wfRes, wfL, wfArgs, wfs, mpO_namesB, mpO_namesI]; rfl)) rfl (by first|exact newB_O|rfl) rfl ?_))|(refine gO ?_; first|refine vr_nil ?_)|(refine gT ?_; first|refine q_then_n ?_|refine q_then_r ?_)|refine vc_seq ?_|refine vc_region ?_|(show VC _ (.cond _ _ _) _ _; first|refine vc_cond_t rfl ?_|refine vc_cond_f rfl ?_|refine x_know rfl (by assumption) ?_)|refine vc_ret ?_|refine vc_skip ?_)
      refine retL_of (le_gen0 (l := [(4, AD (rps [])), (5, AB false), (6, AI (formR r))]) (b := []) (fun n => n) ?_ ?_ rfl (by first|rfl|(simp only [wfL, wfs, mpO_namesB, mpO_namesI]; rfl))) (ret_d3 isRet_r rfl rfl rfl rfl rfl rfl)
      all_goals repeat' (first|exact trivial|refine ⟨⟨_, rfl, ?_⟩, ?_⟩|exact .c .d|exact .c .nil)
  · have e : putM l r = ([], false, 1) := by rw [putM, if_pos hc]
    rw [e]
    have hdd : decide (checkR l ≠ 0) = true := decide_eq_true hc
    repeat' (first|(refine gR ?_; first|refine x_opF rfl (by first|exact True.intro|omega) ?_|(refine gC ?_; first|refine vr_calldU (hck) (gk rfl) rfl rfl rfl (by first|rfl|(simp only [wfRes, wfL, wfArgs, wfs, mpO_namesB, mpO_namesI]; rfl)) rfl (by first|exact newB_O|rfl) rfl ?_))|(refine gO ?_; first|refine vr_nil ?_)|(refine gT ?_; first|refine q_then_n ?_|refine q_then_r ?_)|refine vc_seq ?_|refine vc_region ?_|(show VC _ (.cond _ _ _) _ _; first|refine vc_cond_t rfl ?_|refine x_know rfl (by assumption) ?_)|refine vc_ret ?_)
    refine retL_of (le_gen0 (l := [(4, AD (rps [])), (5, AB false), (6, AI 1)]) (b := []) (fun n => n) ?_ ?_ rfl (by first|rfl|(simp only [wfL, wfs, mpO_namesB, mpO_namesI]; rfl))) (ret_d3 isRet_r rfl rfl rfl rfl rfl rfl)
    all_goals repeat' (first|exact trivial|refine ⟨⟨_, rfl, ?_⟩, ?_⟩|exact .c .d|exact .c .nil)
end Go.Proofs.D
end
section
namespace Go.Proofs.D
open Go Go.Sx
set_option maxRecDepth 4000
attribute [local irreducible] VR VC thenQ blockQ retL
def rouM (l : List RP) (n : Int) : List Int × Int := if checkR l ≠ 0 then ([], 1) else if nodeB n = false then ([], 2) else if goodL (wayL l n).reverse = true then ((wayL l n).reverse, 0) else ([], 17)
theorem routeS_spec (l : List RP) (n : Int) : FnS Tryz.prog 20 [AD (rps l), AI n] [] (.tup [AD (ints (rouM l n).1), AI (rouM l n).2]) [] := by
  have hck := checkR_spec l
  have hnd := node_spec n
  refine FnS.of_body (enters_of Tryz.func20 (by kernel_rfl) rfl) Tryz.func20 rfl Tryz.ntmps20 Tryz.results20 rfl rfl rfl rfl fun E hS => ?_
  refine vc_retL ?_
  by_cases hc : checkR l = 0
  · have hok := okR_of hc
    have hl := hok.len
    rw [hc] at hck
    cases hn : nodeB n with
    | true =>
      rw [hn] at hnd
      cases hg : goodL (wayL l n).reverse with
      | true =>
        have e : rouM l n = ((wayL l n).reverse, 0) := by rw [rouM, if_neg (by simp [hc]), if_neg (by simp [hn]), if_pos hg]
        have hr := route_spec_some l n (by omega) hg
        have e2 : routeM l n = (wayL l n).reverse := if_pos hg
        have hne : 0 < (wayL l n).reverse.length := by
          rcases Nat.eq_zero_or_pos (wayL l n).reverse.length with h0 | h0
          · exact absurd (List.length_eq_zero_iff.1 h0) (of_decide_eq_true hg).1
          · exact h0
        rw [e2] at hr
        rw [e]
        repeat' (first|(refine gR ?_; first|(refine gB ?_; first|refine vr_eqlRd (gk rfl) rfl rfl (by omega) rfl ?_)|refine x_opF rfl (by first|exact True.intro|omega) ?_|(refine gC ?_; first|refine vr_calldU (hck) (gk rfl) rfl rfl rfl (by first|rfl|(simp only [wfRes, wfL, wfArgs, wfs, mpO_namesB, mpO_namesI]; rfl)) rfl (by first|exact newB_O|rfl) rfl ?_|refine vr_calldU (hnd) (gk rfl) rfl rfl rfl (by first|rfl|(simp only [wfRes, wfL, wfArgs, wfs, mpO_namesB, mpO_namesI]; rfl)) rfl (by first|exact newB_O|rfl) rfl ?_|refine vr_calldU (hr) (gk rfl) rfl rfl rfl (by first|rfl|(simp only [wfRes, wfL, wfArgs, wfs, mpO_namesB, mpO_namesI]; rfl)) rfl (by first|exact newB_O|rfl) rfl ?_))|(refine gO ?_; first|refine vr_nil ?_)|(refine gT ?_; first|refine q_then_n ?_)|(refine gK ?_; first|refine q_blk_n ?_)|refine vc_seq ?_|refine vc_region ?_|(show VC _ (.cond _ _ _) _ _; first|refine vc_cond_f rfl ?_)|refine vc_ret ?_|refine vc_block ?_|refine vc_skip ?_)
        refine retL_of (le_gen0 (l := [(4, AD (ints (wayL l n).reverse)), (5, AI 0)]) (b := []) (fun n => n) ?_ ?_ rfl (by first|rfl|(simp only [wfL, wfs, mpO_namesB, mpO_namesI]; rfl))) (ret_d2 isRet_r rfl rfl rfl rfl)
        all_goals repeat' (first|exact trivial|refine ⟨⟨_, rfl, ?_⟩, ?_⟩|exact .c .d)
      | false =>
        have e : rouM l n = ([], 17) := by rw [rouM, if_neg (by simp [hc]), if_neg (by simp [hn]), if_neg (by simp [hg])]
        have hr := route_spec_none l n (by omega) hg
        rw [e]
        repeat' (first|(refine gR ?_; first|(refine gB ?_; first|refine vr_eqlNil (gk rfl) rfl rfl rfl ?_)|refine x_opF rfl (by first|exact True.intro|omega) ?_|(refine gC ?_; first|refine vr_calldU (hck) (gk rfl) rfl rfl rfl (by first|rfl|(simp only [wfRes, wfL, wfArgs, wfs, mpO_namesB, mpO_namesI]; rfl)) rfl (by first|exact newB_O|rfl) rfl ?_|refine vr_calldU (hnd) (gk rfl) rfl rfl rfl (by first|rfl|(simp only [wfRes, wfL, wfArgs, wfs, mpO_namesB, mpO_namesI]; rfl)) rfl (by first|exact newB_O|rfl) rfl ?_|refine vr_calldU (hr) (gk rfl) rfl rfl rfl (by first|rfl|(simp only [wfRes, wfL, wfArgs, wfs, mpO_namesB, mpO_namesI]; rfl)) rfl (by first|exact newB_O|rfl) rfl ?_))|(refine gO ?_; first|refine vr_nil ?_)|(refine gT ?_; first|refine q_then_n ?_|refine q_then_r ?_)|(refine gK ?_; first|refine q_blk_n ?_)|refine vc_seq ?_|refine vc_region ?_|(show VC _ (.cond _ _ _) _ _; first|refine vc_cond_t rfl ?_|refine vc_cond_f rfl ?_)|refine vc_ret ?_|refine vc_block ?_|refine vc_skip ?_)
        refine retL_of (le_gen0 (l := [(4, AD (ints [])), (5, AI 17)]) (b := []) (fun n => n) ?_ ?_ rfl (by first|rfl|(simp only [wfL, wfs, mpO_namesB, mpO_namesI]; rfl))) (ret_d2 isRet_r rfl rfl rfl rfl)
        all_goals repeat' (first|exact trivial|refine ⟨⟨_, rfl, ?_⟩, ?_⟩|exact .c .d|exact .c .nil)
    | false =>
      have e : rouM l n = ([], 2) := by rw [rouM, if_neg (by simp [hc]), if_pos hn]
      rw [e]
      rw [hn] at hnd
      repeat' (first|(refine gR ?_; first|refine x_opF rfl (by first|exact True.intro|omega) ?_|(refine gC ?_; first|refine vr_calldU (hck) (gk rfl) rfl rfl rfl (by first|rfl|(simp only [wfRes, wfL, wfArgs, wfs, mpO_namesB, mpO_namesI]; rfl)) rfl (by first|exact newB_O|rfl) rfl ?_|refine vr_calldU (hnd) (gk rfl) rfl rfl rfl (by first|rfl|(simp only [wfRes, wfL, wfArgs, wfs, mpO_namesB, mpO_namesI]; rfl)) rfl (by first|exact newB_O|rfl) rfl ?_))|(refine gO ?_; first|refine vr_nil ?_)|(refine gT ?_; first|refine q_then_n ?_|refine q_then_r ?_)|(refine gK ?_; first|refine q_blk_r ?_)|refine vc_seq ?_|refine vc_region ?_|(show VC _ (.cond _ _ _) _ _; first|refine vc_cond_t rfl ?_|refine vc_cond_f rfl ?_)|refine vc_ret ?_|refine vc_block ?_)
      refine retL_of (le_gen0 (l := [(4, AD (ints [])), (5, AI 2)]) (b := []) (fun n => n) ?_ ?_ rfl (by first|rfl|(simp only [wfL, wfs, mpO_namesB, mpO_namesI]; rfl))) (ret_d2 isRet_r rfl rfl rfl rfl)
      all_goals repeat' (first|exact trivial|refine ⟨⟨_, rfl, ?_⟩, ?_⟩|exact .c .d|exact .c .nil)
  · have e : rouM l n = ([], 1) := by rw [rouM, if_pos hc]
    rw [e]
    have hdd : decide (checkR l ≠ 0) = true := decide_eq_true hc
    repeat' (first|(refine gR ?_; first|refine x_opF rfl (by first|exact True.intro|omega) ?_|(refine gC ?_; first|refine vr_calldU (hck) (gk rfl) rfl rfl rfl (by first|rfl|(simp only [wfRes, wfL, wfArgs, wfs, mpO_namesB, mpO_namesI]; rfl)) rfl (by first|exact newB_O|rfl) rfl ?_))|(refine gO ?_; first|refine vr_nil ?_)|(refine gT ?_; first|refine q_then_n ?_|refine q_then_r ?_)|(refine gK ?_; first|refine q_blk_r ?_)|refine vc_seq ?_|refine vc_region ?_|(show VC _ (.cond _ _ _) _ _; first|refine vc_cond_t rfl ?_|refine x_know rfl (by assumption) ?_)|refine vc_ret ?_|refine vc_block ?_)
    refine retL_of (le_gen0 (l := [(4, AD (ints [])), (5, AI 1)]) (b := []) (fun n => n) ?_ ?_ rfl (by first|rfl|(simp only [wfL, wfs, mpO_namesB, mpO_namesI]; rfl))) (ret_d2 isRet_r rfl rfl rfl rfl)
    all_goals repeat' (first|exact trivial|refine ⟨⟨_, rfl, ?_⟩, ?_⟩|exact .c .d|exact .c .nil)
structure RInv (l : List RP) (n : Int) (S : List Int) (a : Int) : Prop where
  nd : S.Nodup
  rg : ∀ x ∈ S, 0 <= x /\ x < 32
  na : 0 <= a /\ a < 32
  ni : a ∉ S
  wy : wayM l (33 - S.length) S a = wayL l n
  len : S.length <= 8
theorem RInv.step {l : List RP} {n : Int} {S : List Int} {a : Int} (h : RInv l n S a) : wayL l n = if a = 0 \/ foundRp l a = false then S ++ [a] else wayM l (33 - (S ++ [a]).length) (S ++ [a]) (parR l a) := by
  have := h.len
  rw [<- h.wy, show 33 - S.length = (32 - S.length) + 1 by omega, wayM, if_pos ⟨decide_eq_true h.na, h.ni⟩, List.length_append, List.length_cons, List.length_nil, show 33 - (S.length + (0 + 1)) = 32 - S.length by omega]
end Go.Proofs.D
end
section
namespace Go.Proofs.D
open Go Go.Sx
set_option maxRecDepth 4000
attribute [local irreducible] VR VC thenQ blockQ retL
structure GoodR (r : List Int) : Prop where
  nd : r.Nodup
  rg : ∀ x ∈ r, 0 <= x /\ x < 32
  h0 : r.getD 0 default = 0
  pos : 0 < r.length
  len : r.length <= 9
theorem goodR_of {l : List RP} {n : Int} (h : goodL (wayL l n).reverse = true) : GoodR (wayL l n).reverse := by
  obtain ⟨h1, h2, h3⟩ := of_decide_eq_true h
  obtain ⟨h4, h5⟩ := wayL_ok l n
  refine ⟨List.pairwise_reverse.2 (h4.imp fun h => h.symm), fun x hx => h5 x (List.mem_reverse.1 hx), h2, ?_, h3⟩
  rcases Nat.eq_zero_or_pos (wayL l n).reverse.length with h0 | h0
  · exact absurd (List.length_eq_zero_iff.1 h0) h1
  · exact h0
theorem headerM_good {r : List Int} (h1 : r.Nodup) (h2 : ∀ x ∈ r, 0 <= x /\ x < 32) (h3 : 0 < r.length) (h4 : r.length <= 9) : headerM r = (mkS (r.drop 1), 0) := by
  have ha : (r.any fun n => !nodeB n) = false := by
    rw [List.any_eq_false]
    intro x hx
    simp only [nodeB, decide_eq_true (h2 x hx)]; simp
  have hd : dupB r = false := decide_eq_false fun h => h h1
  rw [headerM, if_neg (by rw [ha]; simp), if_neg (by rw [hd]; simp), if_neg (by omega), if_neg (by omega)]
theorem GoodR.header {r : List Int} (h : GoodR r) : headerM r = (mkS (r.drop 1), 0) := headerM_good h.nd h.rg h.pos h.len
theorem mkS_size {L : List Int} (h : ∀ x ∈ L, 0 <= x /\ x < 32) : (mkS L).size = L.length := by
  rw [<- bytesI_len, bytesI_mkS fun x hx => by have := h x hx; omega]
theorem mkS_tail {L : List Int} (h : ∀ x ∈ L, 0 <= x /\ x < 32) : (mkS L).extract 1 (mkS L).size = mkS (L.drop 1) := by
  refine bytesI_inj ?_
  rw [bytesI_tail, bytesI_mkS fun x hx => by have := h x hx; omega, bytesI_mkS fun x hx => by have := h x (List.mem_of_mem_drop hx); omega]
theorem stepM_good {L : List Int} {a : Int} (h1 : L.Nodup) (h2 : ∀ x ∈ L, 0 <= x /\ x < 32) (h3 : 0 < L.length) (h4 : L.length <= 8) (ha : 0 <= a /\ a < 32) (hne : L.getD 0 default ≠ a) : stepM (mkS L) a = (L.getD 0 default, mkS (L.drop 1), 0) := by
  have hb : bytesI (mkS L) = L := bytesI_mkS fun x hx => by have := h2 x hx; omega
  have hs := mkS_size h2
  have hr : rightB (mkS L) = true := decide_eq_true ⟨by rw [hb]; exact fun x hx => (h2 x hx).2, by omega, by rw [hb]; exact h1⟩
  have hne0 : mkS L ≠ noS := fun e => by rw [e] at hs; rw [<- hs] at h3; cases h3
  have hb0 : bAt (mkS L) 0 = L.getD 0 default := by rw [bytesI_get _ (by omega), hb]
  rw [stepM, if_neg (by rw [hr]; simp), if_neg (by rw [nodeB, decide_eq_true ha]; simp), if_neg hne0, if_neg (by rw [hb0]; exact hne), hb0, mkS_tail h2]
theorem mkS_nil {L : List Int} (h : ∀ x ∈ L, 0 <= x /\ x < 32) : mkS L = noS ↔ L = [] := by
  rw [bytesI_nil, bytesI_mkS fun x hx => by have := h x hx; omega]
theorem nodup_get {r : List Int} (h : r.Nodup) {i j : Nat} (hi : i < r.length) (hj : j < r.length) (hne : i ≠ j) : r.getD i default ≠ r.getD j default := by
  simp only [List.getD, List.getElem?_eq_getElem hi, List.getElem?_eq_getElem hj, Option.getD_some]
  intro e
  have hp := List.pairwise_iff_getElem.1 h
  rcases Nat.lt_trichotomy i j with h1 | h1 | h1
  · exact hp i j hi hj h1 e
  · exact hne h1
  · exact hp j i hj hi h1 e.symm
set_option maxHeartbeats 1000000 in
theorem walk_spec (l : List RP) (n : Int) : FnS Tryz.prog 21 [AD (rps l), AI n] [] (.tup [AD (ints (rouM l n).1), AI (rouM l n).2]) [] := by
  have hro := routeS_spec l n
  refine FnS.of_body (enters_of Tryz.func21 (by kernel_rfl) rfl) Tryz.func21 rfl Tryz.ntmps21 Tryz.results21 rfl rfl rfl rfl fun E hS => ?_
  refine vc_retL ?_
  by_cases hok : checkR l = 0 /\ nodeB n = true /\ goodL (wayL l n).reverse = true
  · obtain ⟨hc, hn, hg⟩ := hok
    have e : rouM l n = ((wayL l n).reverse, 0) := by rw [rouM, if_neg (by simp [hc]), if_neg (by simp [hn]), if_pos hg]
    rw [e] at hro ⊢
    have G := goodR_of hg
    generalize (wayL l n).reverse = r at hro G ⊢
    clear hg e
    have hhd := header_spec r
    rw [G.header] at hhd
    dsimp only at hro hhd ⊢
    have hpos := G.pos
    have hlen := G.len
    repeat' (first|(refine gR ?_; first|refine x_opF rfl (by first|exact True.intro|omega) ?_|(refine gC ?_; first|refine vr_calldU (hro) (gk rfl) rfl rfl rfl (by first|rfl|(simp only [wfRes, wfL, wfArgs, wfs, mpO_namesB, mpO_namesI]; rfl)) rfl (by first|exact newB_O|rfl) rfl ?_|refine vr_calldU (hhd) (gk rfl) rfl rfl rfl (by first|rfl|(simp only [wfRes, wfL, wfArgs, wfs, mpO_namesB, mpO_namesI]; rfl)) rfl (by first|exact newB_O|rfl) rfl ?_))|(refine gO ?_; first|refine vr_nil ?_)|(refine gT ?_; first|refine q_then_n ?_)|refine vc_seq ?_|refine vc_region ?_|(show VC _ (.cond _ _ _) _ _; first|refine vc_cond_f rfl ?_)|refine vc_block ?_|refine vc_skip ?_)
    refine vc_loopI (ι := Nat) (fun k => stOf [(8, AD (.str (mkS (r.drop (k + 1))))), (10, .c (.row 44 (r.take (k + 1)).length))] [(44, .row 3 1 (rowOf encI (r.take (k + 1))))]) (fun k => k + 1 <= r.length) (fun k => r.length - k) 0 hpos ?_ ?_
    · have e1 : r.take (0 + 1) = [0] := by
        rw [take_getD hpos, G.h0]; rfl
      rw [e1]
      refine le_gen0 (fun n => if n = 44 then 28 else n) ?_ ?_ rfl (by first|rfl|(simp only [wfL, wfs, mpO_namesB, mpO_namesI]; rfl))
      all_goals repeat' (first|exact trivial|refine ⟨⟨_, rfl, ?_⟩, ?_⟩|exact .c .d|exact .c (.row rfl rfl)|exact .rowD rfl rowOf_isD)
    · intro k hk
      have hkl : (r.take (k + 1)).length = k + 1 := by rw [List.length_take]; omega
      have hrd : ∀ x ∈ r.drop (k + 1), 0 <= x /\ x < 32 := fun x hx => G.rg x (List.mem_of_mem_drop hx)
      rcases Nat.lt_or_ge (k + 1) r.length with hlt | hge
      · have hne : mkS (r.drop (k + 1)) ≠ noS := fun e => by
          have := (mkS_nil hrd).1 e
          have := congrArg List.length this
          rw [List.length_drop] at this
          simp at this; omega
        have hd1 : decide (mkS (r.drop (k + 1)) ≠ noS) = true := decide_eq_true hne
        have hlast : (r.take (k + 1)).getD (((r.take (k + 1)).length : Int) - 1).toNat default = r.getD k default := by
          rw [show (((r.take (k + 1)).length : Int) - 1).toNat = k by omega, List.getD_eq_getElem?_getD, List.getElem?_take, if_pos (by omega), <- List.getD_eq_getElem?_getD]
        have hfst : (r.drop (k + 1)).getD 0 default = r.getD (k + 1) default := by
          rw [List.getD_eq_getElem?_getD, List.getElem?_drop, Nat.add_zero, <- List.getD_eq_getElem?_getD]
        have hst := step_spec (mkS (r.drop (k + 1))) ((r.take (k + 1)).getD (((r.take (k + 1)).length : Int) - 1).toNat default) (by rw [mkS_size hrd, List.length_drop]; omega)
        rw [stepM_good (G.nd.sublist (List.drop_sublist _ _)) hrd (by rw [List.length_drop]; omega) (by rw [List.length_drop]; omega) (by rw [hlast]; exact G.rg _ (getD_mem (by omega))) (by rw [hlast, hfst]; exact nodup_get G.nd (by omega) (by omega) (by omega)), hfst, List.drop_drop] at hst
        repeat' (first|(refine gR ?_; first|(refine gB ?_; first|refine vr_neqStr (gk rfl) rfl rfl rfl rfl ?_)|refine x_opF rfl (by first|exact True.intro|omega) ?_|(refine gC ?_; first|refine vr_calldU (hst) (gk rfl) rfl rfl rfl (by first|rfl|(simp only [wfRes, wfL, wfArgs, wfs, mpO_namesB, mpO_namesI]; rfl)) rfl (by first|exact newB_O|rfl) rfl ?_)|(refine gI ?_; first|refine vr_index_rowN (gk rfl) rfl rfl rfl rfl rfl (by omega) (by first|rfl|exact rowOf_length.symm|(simp only [lns] <;> omega)) rfl ?_)|(refine gE ?_; first|refine vr_len_row (gk rfl) rfl rfl (by first|rfl|exact rowOf_length.symm|(simp only [lns] <;> omega)) rfl rfl ?_)|(refine gA ?_; first|refine vr_append0 (gk rfl) rfl rfl rfl (by first|rfl|exact rowOf_length.symm|(simp only [lns] <;> omega)) (by first|exact .row rfl (by first|rfl|exact rowOf_length.symm)|exact .rd|exact .nils) rfl rfl rfl (by (try dsimp only); omega) rfl rfl ?_)|(refine gL ?_; first|refine vr_load_rowO (gk rfl) rfl rfl (by omega) rfl rfl rfl ?_))|(refine gO ?_; first|refine vr_nil ?_)|(refine gT ?_; first|refine q_then_n ?_)|(refine gK ?_; first|refine q_blk_n ?_)|refine vc_seq ?_|refine vc_region ?_|(show VC _ (.cond _ _ _) _ _; first|refine vc_cond_t rfl ?_|refine vc_cond_f rfl ?_|refine x_know rfl (by assumption) ?_)|refine vc_block ?_|refine vc_skip ?_)
        refine ⟨k + 1, hlt, by omega, ?_⟩
        rw [take_getD hlt]
        refine le_gen0 (fun n => if n = 44 then 49 else n) ?_ ?_ rfl (by first|rfl|(simp only [wfL, wfs, mpO_namesB, mpO_namesI]; rfl))
        all_goals repeat' (first|exact trivial|refine ⟨⟨_, rfl, ?_⟩, ?_⟩|exact .c .d|(refine .c (.row rfl ?_); ((try dsimp only); first|rfl|omega|(simp only [lns] <;> omega)); done)|(refine .rowD ?_ rowOf_isD; rw [rowOf_append]; rfl))
      · have hd : r.drop (k + 1) = [] := List.drop_eq_nil_of_le hge
        have ht : r.take (k + 1) = r := List.take_of_length_le hge
        have hd1 : decide (mkS (r.drop (k + 1)) ≠ noS) = false := decide_eq_false fun h => h ((mkS_nil hrd).2 hd)
        repeat' (first|(refine gR ?_; first|(refine gB ?_; first|refine vr_neqStr (gk rfl) rfl rfl rfl rfl ?_)|refine x_opF rfl (by first|exact True.intro|omega) ?_)|(refine gO ?_; first|refine vr_nil ?_)|(refine gT ?_; first|refine q_then_n ?_|refine q_then_x ?_)|(refine gK ?_; first|refine q_blk_x ?_)|refine vc_seq ?_|refine vc_region ?_|(show VC _ (.cond _ _ _) _ _; first|refine vc_cond_f rfl ?_|refine x_know rfl (by assumption) ?_)|refine vc_ret ?_|refine vc_exit ?_)
        rw [ht]
        refine retL_of (le_gen (l := [(4, AD (ints r)), (5, AI 0)]) (b := []) (fun n => n) [44] hS ?_ ?_ rfl (by first|rfl|(simp only [wfL, wfs, mpO_namesB, mpO_namesI]; rfl))) (ret_d2 isRet_r rfl rfl rfl rfl)
        all_goals repeat' (first|exact trivial|refine ⟨⟨_, rfl, ?_⟩, ?_⟩|exact .c .d|exact .c (.frzOf (by first|(simp; done)|decide) rfl rfl (fun _ => rfl)))
  · obtain ⟨c, e, hc⟩ : ∃ c, rouM l n = ([], c) /\ c ≠ 0 := by
      unfold rouM
      split
      · exact ⟨1, rfl, by decide⟩
      · split
        · exact ⟨2, rfl, by decide⟩
        · split
          · rename_i h1 h2 h3
            exact absurd ⟨Classical.not_not.1 h1, by simpa using h2, h3⟩ hok
          · exact ⟨17, rfl, by decide⟩
    rw [e] at hro ⊢
    dsimp only at hro ⊢
    have hd1 : decide (c ≠ 0) = true := decide_eq_true hc
    repeat' (first|(refine gR ?_; first|refine x_opF rfl (by first|exact True.intro|omega) ?_|(refine gC ?_; first|refine vr_calldU (hro) (gk rfl) rfl rfl rfl (by first|rfl|(simp only [wfRes, wfL, wfArgs, wfs, mpO_namesB, mpO_namesI]; rfl)) rfl (by first|exact newB_O|rfl) rfl ?_))|(refine gO ?_; first|refine vr_nil ?_)|(refine gT ?_; first|refine q_then_n ?_|refine q_then_r ?_)|refine vc_seq ?_|refine vc_region ?_|(show VC _ (.cond _ _ _) _ _; first|refine vc_cond_t rfl ?_|refine x_know rfl (by assumption) ?_)|refine vc_ret ?_)
    refine retL_of (le_gen0 (l := [(4, AD (ints [])), (5, AI c)]) (b := []) (fun n => n) ?_ ?_ rfl (by first|rfl|(simp only [wfL, wfs, mpO_namesB, mpO_namesI]; rfl))) (ret_d2 isRet_r rfl rfl rfl rfl)
    all_goals repeat' (first|exact trivial|refine ⟨⟨_, rfl, ?_⟩, ?_⟩|exact .c .d|exact .c .nil)
end Go.Proofs.D
end
section
namespace Go.Proofs.D
open Go Go.Sx
set_option maxRecDepth 4000
attribute [local irreducible] VR VC thenQ blockQ retL
abbrev xL : List RP := [⟨1, 0, 1⟩, ⟨2, 4, 1⟩, ⟨4, 1, 1⟩]
abbrev xK : List RP := [⟨1, 2, 2⟩, ⟨2, 4, 1⟩, ⟨4, 1, 1⟩]
end Go.Proofs.D
end
section
namespace Go.Proofs.D
open Go Go.Sx
theorem getD_setR {l : List RP} {i j : Nat} {x : RP} : (l.set i x).getD j default = if i = j /\ j < l.length then x else l.getD j default := by
  rw [List.getD_eq_getElem?_getD, List.getElem?_set]
  by_cases h : i = j
  · subst h
    by_cases h2 : i < l.length
    · simp [h2]
    · simp [h2, List.getD]
  · simp [h]
theorem insAt_len {l : List RP} {i : Nat} {x : RP} (h : i <= l.length) : (insAt l i x).length = l.length + 1 := by
  simp only [insAt, List.length_append, List.length_cons, List.length_take, List.length_drop]; omega
theorem insAt_get {l : List RP} {i j : Nat} {x : RP} (h : i <= l.length) : (insAt l i x).getD j default = if j < i then l.getD j default else if j = i then x else l.getD (j - 1) default := by
  have hl : (l.take i).length = i := by rw [List.length_take]; omega
  rw [insAt, List.getD_eq_getElem?_getD]
  split
  · rename_i h1
    rw [List.getElem?_append_left (by omega), List.getElem?_take, if_pos h1, <- List.getD_eq_getElem?_getD]
  · rename_i h1
    rw [List.getElem?_append_right (by omega), hl]
    split
    · rename_i h2
      subst h2
      simp
    · rename_i h2
      obtain ⟨m, rfl⟩ : ∃ m, j = i + 1 + m := ⟨j - i - 1, by omega⟩
      rw [show i + 1 + m - i = m + 1 by omega, List.getElem?_cons_succ, List.getElem?_drop, show i + 1 + m - 1 = i + m by omega, <- List.getD_eq_getElem?_getD]
theorem mem_insAt {l : List RP} {i : Nat} {x y : RP} (h : i <= l.length) : y ∈ insAt l i x ↔ y = x \/ y ∈ l := by
  rw [insAt, List.mem_append, List.mem_cons]
  have : y ∈ l ↔ y ∈ l.take i \/ y ∈ l.drop i := by rw [<- List.mem_append, List.take_append_drop]
  rw [this]
  constructor
  · rintro (h | h | h)
    · exact .inr (.inl h)
    · exact .inl h
    · exact .inr (.inr h)
  · rintro (h | h | h)
    · exact .inr (.inl h)
    · exact .inl h
    · exact .inr (.inr h)
theorem OkR.set {l : List RP} {r : RP} {i : Nat} (h : OkR l) (hi : i < l.length) (hn : (l.getD i default).node = r.node) (hf : formR r = 0) : OkR (l.set i r) := by
  have hnode : ∀ j, j < l.length -> ((l.set i r).getD j default).node = (l.getD j default).node := by
    intro j hj
    rw [getD_setR]
    split
    · rename_i h1; rw [<- h1.1, hn]
    · rfl
  refine ⟨fun j hj => ?_, fun j hj => ?_⟩
  · rw [List.length_set] at hj
    rw [getD_setR]
    split
    · exact hf
    · exact h.form j hj
  · rw [List.length_set] at hj
    rw [hnode j (by omega), hnode (j + 1) hj]
    exact h.up j hj
theorem OkR.ins {l : List RP} {r : RP} (h : OkR l) (hf : formR r = 0) (hn : foundRp l r.node = false) : OkR (insAt l (bsRp l r.node) r) := by
  obtain ⟨h1, h2, h3⟩ := h.bs r.node
  have h4 : ∀ a, bsRp l r.node <= a -> a < l.length -> r.node < (l.getD a default).node := by
    intro a ha hl
    have h5 := h3 a ha hl
    have h6 : (l.getD (bsRp l r.node) default).node ≠ r.node := fun e => by
      have := found_iff.2 ⟨by omega, e⟩
      rw [hn] at this; cases this
    rcases Nat.lt_or_ge (bsRp l r.node) a with h7 | h7
    · have := h.lt a _ h7 hl
      have := h3 _ (Nat.le_refl _) (by omega)
      omega
    · have : a = bsRp l r.node := by omega
      subst this; omega
  refine ⟨fun j hj => ?_, fun j hj => ?_⟩
  · rw [insAt_len h1] at hj
    rw [insAt_get h1]
    split
    · exact h.form j (by omega)
    · split
      · exact hf
      · exact h.form _ (by omega)
  · rw [insAt_len h1] at hj
    rw [insAt_get h1, insAt_get h1]
    rcases Nat.lt_trichotomy (j + 1) (bsRp l r.node) with h5 | h5 | h5
    · rw [if_pos (by omega), if_pos h5]; exact h.up j (by omega)
    · rw [if_pos (by omega), if_neg (by omega), if_pos h5]
      exact h2 j (by omega)
    · rcases Nat.lt_or_ge (bsRp l r.node) j with h6 | h6
      · rw [if_neg (by omega), if_neg (by omega), if_neg (by omega), if_neg (by omega)]
        have := h.up (j - 1) (by omega)
        rwa [show j - 1 + 1 = j + 1 - 1 by omega] at this
      · have : j = bsRp l r.node := by omega
        rw [if_neg (by omega), if_pos this, if_neg (by omega), if_neg (by omega), show j + 1 - 1 = j by omega]
        exact h4 j (by omega) (by omega)
structure InvT (P out : List RP) : Prop where
  ok : OkR out
  sub : ∀ e ∈ out, e ∈ P
  top : ∀ r ∈ P, formR r = 0 -> ∃ e ∈ out, e.node = r.node /\ r.number <= e.number
theorem formR_cases (r : RP) : formR r = 0 \/ formR r = 1 \/ formR r = 2 := by
  unfold formR
  split
  · exact .inr (.inr rfl)
  · split
    · exact .inr (.inl rfl)
    · exact .inl rfl
theorem InvT.step {P out : List RP} (h : InvT P out) (r : RP) : ((putM out r).2.2 = 0 /\ InvT (P ++ [r]) (putM out r).1) \/ (((putM out r).2.2 = 2 \/ (putM out r).2.2 = 1) /\ InvT (P ++ [r]) out) := by
  have hc := okR_check h.ok
  by_cases hf : formR r = 0
  · left
    obtain ⟨hb1, hb2, hb3⟩ := h.ok.bs r.node
    cases hfo : foundRp out r.node with
    | true =>
      obtain ⟨h4, h5⟩ := found_iff.1 hfo
      have hme := getD_mem h4
      by_cases hle : r.number <= (out.getD (bsRp out r.node) default).number
      · have e : putM out r = (out, false, 0) := by rw [putM, if_neg (by simp [hc]), if_neg (by simp [hf]), if_pos hfo, if_pos hle]
        rw [e]
        refine ⟨rfl, h.ok, fun e he => List.mem_append_left _ (h.sub e he), fun x hx hfx => ?_⟩
        rcases List.mem_append.1 hx with hx | hx
        · exact h.top x hx hfx
        · rw [List.mem_singleton] at hx; subst hx
          exact ⟨_, hme, h5, hle⟩
      · have e : putM out r = (out.set (bsRp out r.node) r, true, 0) := by rw [putM, if_neg (by simp [hc]), if_neg (by simp [hf]), if_pos hfo, if_neg hle]
        rw [e]
        have hmem : r ∈ out.set (bsRp out r.node) r := List.mem_iff_getElem.2 ⟨bsRp out r.node, by simpa using h4, by simp⟩
        refine ⟨rfl, h.ok.set h4 h5 hf, fun e he => ?_, fun x hx hfx => ?_⟩
        · rcases List.mem_or_eq_of_mem_set he with he | he
          · exact List.mem_append_left _ (h.sub e he)
          · subst he; simp
        · rcases List.mem_append.1 hx with hx | hx
          · obtain ⟨e, he, h6, h7⟩ := h.top x hx hfx
            by_cases hen : e.node = r.node
            · refine ⟨r, hmem, by rw [<- h6, hen], ?_⟩
              obtain ⟨i, hi, rfl⟩ := mem_getD he
              have : i = bsRp out r.node := by
                rcases Nat.lt_trichotomy i (bsRp out r.node) with h8 | h8 | h8
                · have := hb2 i h8; omega
                · exact h8
                · have := h.ok.lt i _ h8 hi; omega
              subst this
              omega
            · obtain ⟨i, hi, rfl⟩ := mem_getD he
              refine ⟨out.getD i default, ?_, h6, h7⟩
              have hne : bsRp out r.node ≠ i := fun e => hen (by rw [<- e]; exact h5)
              have := getD_mem (l := out.set (bsRp out r.node) r) (i := i) (by rw [List.length_set]; exact hi)
              rwa [getD_setR, if_neg (fun h => hne h.1)] at this
          · rw [List.mem_singleton] at hx; subst hx
            exact ⟨_, hmem, rfl, Int.le_refl _⟩
    | false =>
      have e : putM out r = (insAt out (bsRp out r.node) r, true, 0) := by rw [putM, if_neg (by simp [hc]), if_neg (by simp [hf]), if_neg (by rw [hfo]; simp)]
      rw [e]
      refine ⟨rfl, h.ok.ins hf hfo, fun e he => ?_, fun x hx hfx => ?_⟩
      · rcases (mem_insAt hb1).1 he with he | he
        · subst he; simp
        · exact List.mem_append_left _ (h.sub e he)
      · rcases List.mem_append.1 hx with hx | hx
        · obtain ⟨e, he, h6, h7⟩ := h.top x hx hfx
          exact ⟨e, (mem_insAt hb1).2 (.inr he), h6, h7⟩
        · rw [List.mem_singleton] at hx; subst hx
          exact ⟨_, (mem_insAt hb1).2 (.inl rfl), rfl, Int.le_refl _⟩
  · right
    have e : putM out r = ([], false, formR r) := by rw [putM, if_neg (by simp [hc]), if_pos hf]
    rw [e]
    refine ⟨?_, h.ok, fun e he => List.mem_append_left _ (h.sub e he), fun x hx hfx => ?_⟩
    · have := formR_cases r
      dsimp only
      omega
    · rcases List.mem_append.1 hx with hx | hx
      · exact h.top x hx hfx
      · rw [List.mem_singleton] at hx; subst hx
        exact absurd hfx hf
theorem invT_nil : InvT [] [] := ⟨⟨fun i hi => absurd hi (Nat.not_lt_zero _), fun i hi => absurd hi (Nat.not_lt_zero _)⟩, fun e he => (by cases he), fun r hr => (by cases hr)⟩
end Go.Proofs.D
end
section
namespace Go.Proofs.D
open Go Go.Sx
theorem mem_found {l : List RP} (h : OkR l) {e : RP} (he : e ∈ l) : foundRp l e.node = true /\ bsRp l e.node < l.length /\ l.getD (bsRp l e.node) default = e := by
  obtain ⟨i, hi, rfl⟩ := mem_getD he
  obtain ⟨h1, h2, h3⟩ := h.bs (l.getD i default).node
  have : i = bsRp l (l.getD i default).node := by
    rcases Nat.lt_trichotomy i (bsRp l (l.getD i default).node) with h4 | h4 | h4
    · have := h2 i h4; omega
    · exact h4
    · have := h.lt i _ h4 hi
      have := h3 _ (Nat.le_refl _) (by omega); omega
  rw [<- this]
  exact ⟨found_iff.2 ⟨by rw [<- this]; exact hi, by rw [<- this]⟩, hi, rfl⟩
theorem found_mem {l : List RP} {x : Int} (h : foundRp l x = true) : ∃ e ∈ l, e.node = x /\ parR l x = e.parent := by
  obtain ⟨h1, h2⟩ := found_iff.1 h
  exact ⟨_, getD_mem h1, h2, rfl⟩
theorem found_par {l : List RP} (h : OkR l) {e : RP} (he : e ∈ l) : parR l e.node = e.parent := by
  unfold parR
  rw [(mem_found h he).2.2]
theorem rouM_ok {l : List RP} {n : Int} (h : OkR l) (hn : 0 <= n /\ n < 32) : rouM l n = if goodL (wayL l n).reverse = true then ((wayL l n).reverse, 0) else ([], 17) := by
  rw [rouM, if_neg (by simp [okR_check h]), if_neg (by rw [nodeB, decide_eq_true hn]; simp)]
structure Way (l : List RP) (w : List Int) : Prop where
  nd : w.Nodup
  rg : ∀ x ∈ w, 0 <= x /\ x < 32
  st : ∀ i, i + 1 < w.length -> w.getD i default ≠ 0 /\ foundRp l (w.getD i default) = true /\ parR l (w.getD i default) = w.getD (i + 1) default
  pos : 0 < w.length
  last : w.getD (w.length - 1) default = 0
theorem wayM_pre (l : List RP) : ∀ (f : Nat) (S : List Int) (n : Int), ∃ T, wayM l f S n = S ++ T
  | 0, S, n => ⟨[], by simp [wayM]⟩
  | f + 1, S, n => by
    unfold wayM
    split
    · split
      · exact ⟨[n], rfl⟩
      · obtain ⟨T, hT⟩ := wayM_pre l f (S ++ [n]) (parR l n)
        exact ⟨n :: T, by rw [hT]; simp⟩
    · exact ⟨[], by simp⟩
theorem way_of (l : List RP) : ∀ (f : Nat) (S : List Int) (n : Int) (T : List Int), wayM l f S n = S ++ T -> T ≠ [] -> (S ++ T).getD ((S ++ T).length - 1) default = 0 -> (∀ x ∈ S, x ≠ 0) ->
    T.getD 0 default = n /\ T.getD (T.length - 1) default = 0 /\ ∀ i, i + 1 < T.length -> T.getD i default ≠ 0 /\ foundRp l (T.getD i default) = true /\ parR l (T.getD i default) = T.getD (i + 1) default
  | 0, S, n, T, h, hne, _, _ => by
    have : T = [] := by
      have := congrArg List.length h
      simp [wayM] at this
      exact this
    exact absurd this hne
  | f + 1, S, n, T, h, hne, hl, hS => by
    unfold wayM at h
    split at h
    · rename_i hc
      split at h
      · have hT : T = [n] := (List.append_cancel_left h).symm
        subst hT
        refine ⟨rfl, ?_, fun i hi => absurd hi (by simp)⟩
        have e : (S ++ [n]).getD ((S ++ [n]).length - 1) default = n := by
          rw [List.length_append, List.length_cons, List.length_nil, Nat.add_sub_cancel, List.getD_eq_getElem?_getD, List.getElem?_append_right (Nat.le_refl _)]
          simp
        rw [e] at hl
        exact hl
      · rename_i h0
        obtain ⟨T', hT'⟩ := wayM_pre l f (S ++ [n]) (parR l n)
        have hT : T = n :: T' := by
          rw [hT', List.append_assoc] at h
          exact (List.append_cancel_left h).symm
        subst hT
        have hn0 : n ≠ 0 := fun e => h0 (.inl e)
        have hfo : foundRp l n = true := by
          cases hq : foundRp l n with
          | true => rfl
          | false => exact absurd (.inr hq) h0
        have hne' : T' ≠ [] := by
          intro e
          subst e
          have e : (S ++ [n]).getD ((S ++ [n]).length - 1) default = n := by
            rw [List.length_append, List.length_cons, List.length_nil, Nat.add_sub_cancel, List.getD_eq_getElem?_getD, List.getElem?_append_right (Nat.le_refl _)]
            simp
          rw [e] at hl
          exact hn0 hl
        have heq : S ++ n :: T' = (S ++ [n]) ++ T' := by simp
        obtain ⟨h1, h2, h3⟩ := way_of l f (S ++ [n]) (parR l n) T' hT' hne' (by rw [<- heq]; exact hl) (fun x hx => by
          rcases List.mem_append.1 hx with hx | hx
          · exact hS x hx
          · rw [List.mem_singleton] at hx; rw [hx]; exact hn0)
        have hpos : 0 < T'.length := by cases T' with
          | nil => exact absurd rfl hne'
          | cons a T' => simp
        refine ⟨rfl, ?_, fun i hi => ?_⟩
        · rw [List.length_cons, show T'.length + 1 - 1 = (T'.length - 1) + 1 by omega]
          exact h2
        · cases i with
          | zero => exact ⟨hn0, hfo, by rw [show (n :: T').getD 0 default = n from rfl, show (n :: T').getD (0 + 1) default = T'.getD 0 default from rfl, h1]⟩
          | succ i =>
            have := h3 i (by simpa using hi)
            exact this
    · have : T = [] := by
        have := congrArg List.length h
        simp at this
        exact this
      exact absurd this hne
theorem way_good {l : List RP} {n : Int} (h : goodL (wayL l n).reverse = true) : Way l (wayL l n) /\ (wayL l n).getD 0 default = n := by
  obtain ⟨h1, h2, h3⟩ := of_decide_eq_true h
  have hpos : 0 < (wayL l n).length := by
    rcases Nat.eq_zero_or_pos (wayL l n).length with h0 | h0
    · exact absurd (by rw [List.length_eq_zero_iff.1 h0]; rfl) h1
    · exact h0
  have hlast : (wayL l n).getD ((wayL l n).length - 1) default = 0 := by
    rw [List.getD_eq_getElem?_getD, List.getElem?_reverse hpos, <- List.getD_eq_getElem?_getD] at h2
    rw [<- h2]; rfl
  obtain ⟨k1, k2, k3⟩ := way_of l 33 [] n (wayL l n) rfl (fun e => by rw [e] at hpos; cases hpos) hlast (fun x hx => by cases hx)
  obtain ⟨m1, m2⟩ := wayL_ok l n
  exact ⟨⟨m1, m2, k3, hpos, hlast⟩, k1⟩
theorem Way.tail {l : List RP} {w : List Int} (h : Way l w) {i : Nat} (hi : i < w.length) : Way l (w.drop i) := by
  have hg : ∀ j, (w.drop i).getD j default = w.getD (i + j) default := fun j => by
    rw [List.getD_eq_getElem?_getD, List.getElem?_drop, <- List.getD_eq_getElem?_getD]
  refine ⟨h.nd.sublist (List.drop_sublist _ _), fun x hx => h.rg x (List.mem_of_mem_drop hx), fun j hj => ?_, by rw [List.length_drop]; omega, ?_⟩
  · rw [List.length_drop] at hj
    rw [hg, hg, show i + (j + 1) = i + j + 1 by omega]
    exact h.st (i + j) (by omega)
  · rw [List.length_drop, hg, show i + (w.length - i - 1) = w.length - 1 by omega]
    exact h.last
theorem Way.walk {l : List RP} : ∀ (w : List Int) (f : Nat) (S : List Int), Way l w -> w.length <= f -> (∀ x ∈ S, x ∉ w) -> wayM l f S (w.getD 0 default) = S ++ w
  | [], f, S, h, _, _ => by have := h.pos; cases this
  | a :: w, 0, S, h, hf, _ => by simp at hf
  | a :: w, f + 1, S, h, hf, hS => by
    have ha : 0 <= a /\ a < 32 := h.rg a (by simp)
    have hc : nodeB a = true /\ a ∉ S := ⟨decide_eq_true ha, fun hx => hS a hx (by simp)⟩
    show wayM l (f + 1) S a = S ++ a :: w
    unfold wayM
    rw [if_pos hc]
    cases w with
    | nil =>
      have h0 : a = 0 := h.last
      rw [if_pos (.inl h0)]
    | cons b w =>
      obtain ⟨h1, h2, h3⟩ := h.st 0 (by simp)
      have h1 : a ≠ 0 := h1
      have h2 : foundRp l a = true := h2
      have h3 : parR l a = b := h3
      rw [if_neg (by simp [h1, h2]), h3]
      have := Way.walk (b :: w) f (S ++ [a]) (h.tail (i := 1) (by simp)) (by simpa using hf) (fun x hx hm => by
        rcases List.mem_append.1 hx with hx | hx
        · exact hS x hx (by simp only [List.mem_cons] at hm ⊢; exact .inr hm)
        · rw [List.mem_singleton] at hx
          subst hx
          exact (List.nodup_cons.1 h.nd).1 hm)
      rw [show (b :: w).getD 0 default = b from rfl] at this
      rw [this]; simp
theorem Way.len {l : List RP} {w : List Int} (h : Way l w) : w.length <= 32 := len_le 32 w h.nd h.rg
theorem Way.good {l : List RP} {w : List Int} (h : Way l w) (h9 : w.length <= 9) : goodL (wayL l (w.getD 0 default)).reverse = true := by
  have : wayL l (w.getD 0 default) = w := by
    have h1 := Way.walk w 33 [] h (by omega) (fun x hx => by cases hx)
    rw [List.nil_append] at h1
    exact h1
  rw [this]
  refine decide_eq_true ⟨fun e => ?_, ?_, by rw [List.length_reverse]; exact h9⟩
  · have := congrArg List.length e
    rw [List.length_reverse] at this
    have := h.pos
    simp_all
  · rw [List.getD_eq_getElem?_getD, List.getElem?_reverse h.pos, <- List.getD_eq_getElem?_getD]
    exact h.last
end Go.Proofs.D
end
section
namespace Go.Proofs.D
open Go Go.Sx
set_option maxRecDepth 4000
attribute [local irreducible] VR VC thenQ blockQ retL
abbrev nods (k : Nat) : List Int := (List.range k).map fun i : Nat => (i : Int)
def reachK (l : List RP) (k : Nat) : List Int := (nods k).filter fun n => goodL (wayL l n).reverse
def reachM (l : List RP) : List Int := if checkR l ≠ 0 then [] else reachK l 32
theorem reachK_succ (l : List RP) (k : Nat) : reachK l (k + 1) = reachK l k ++ (if goodL (wayL l k).reverse = true then [(k : Int)] else []) := by
  unfold reachK nods
  rw [List.range_succ, List.map_append, List.filter_append]
  congr 1
  cases h : goodL (wayL l k).reverse <;> simp [h]
theorem reachK_len (l : List RP) (k : Nat) : (reachK l k).length <= k := by
  have := List.length_filter_le (fun n => goodL (wayL l n).reverse) (nods k)
  simpa [nods, reachK] using this
set_option maxHeartbeats 1000000 in
theorem reach_spec (l : List RP) : FnS Tryz.prog 19 [AD (rps l)] [] (AD (ints (reachM l))) [] := by
  have hck := checkR_spec l
  refine FnS.of_body (enters_of Tryz.func19 (by kernel_rfl) rfl) Tryz.func19 rfl Tryz.ntmps19 Tryz.results19 rfl rfl rfl rfl fun E hS => ?_
  refine vc_retL ?_
  by_cases hc : checkR l = 0
  · have hl := (okR_of hc).len
    rw [hc] at hck
    have e : reachM l = reachK l 32 := if_neg (by simp [hc])
    rw [e]
    repeat' (first|(refine gR ?_; first|refine x_opF rfl (by first|exact True.intro|omega) ?_|(refine gC ?_; first|refine vr_calldU (hck) (gk rfl) rfl rfl rfl (by first|rfl|(simp only [wfRes, wfL, wfArgs, wfs, mpO_namesB, mpO_namesI]; rfl)) rfl (by first|exact newB_O|rfl) rfl ?_))|(refine gO ?_; first|refine vr_nil ?_)|(refine gT ?_; first|refine q_then_n ?_)|refine vc_seq ?_|refine vc_region ?_|(show VC _ (.cond _ _ _) _ _; first|refine vc_cond_f rfl ?_)|refine vc_block ?_|refine vc_skip ?_)
    refine VC.le (le_nil (t := 3) (nm := 45) (T := 3) (sz := 1) rfl rfl) ?_
    refine vc_loopI (ι := Nat) (fun k => stOf [(0, AD (rps l)), (3, .c (.row 45 (reachK l k).length)), (8, AI k)] [(45, .row 3 1 (rowOf encI (reachK l k)))]) (fun k => k <= 32) (fun k => 32 - k) 0 (Nat.zero_le _) ?_ ?_
    · refine le_gen0 (fun n => n) ?_ ?_ rfl (by first|rfl|(simp only [wfL, wfs, mpO_namesB, mpO_namesI]; rfl))
      all_goals repeat' (first|exact trivial|refine ⟨⟨_, rfl, ?_⟩, ?_⟩|exact .c .d|exact .c (.row rfl rfl)|exact .rowD rfl rowOf_isD)
    · intro k hk
      have hkl := reachK_len l k
      rcases Nat.lt_or_ge k 32 with hlt | hge
      · have hdd : decide ((k : Int) < 32) = true := decide_eq_true (by omega)
        have hs := reachK_succ l k
        cases hg : goodL (wayL l k).reverse with
        | true =>
          rw [hg, if_pos rfl] at hs
          have hr := route_spec_some l k (by omega) hg
          have e2 : routeM l k = (wayL l k).reverse := if_pos hg
          have hne : 0 < (wayL l k).reverse.length := by
            rcases Nat.eq_zero_or_pos (wayL l k).reverse.length with h0 | h0
            · exact absurd (List.length_eq_zero_iff.1 h0) (of_decide_eq_true hg).1
            · exact h0
          rw [e2] at hr
          repeat' (first|(refine gR ?_; first|(refine gB ?_; first|refine vr_neqRd (gk rfl) rfl rfl (by omega) rfl ?_)|refine x_opF rfl (by first|exact True.intro|omega) ?_|(refine gC ?_; first|refine vr_calldU (hr) (gk rfl) rfl rfl rfl (by first|rfl|(simp only [wfRes, wfL, wfArgs, wfs, mpO_namesB, mpO_namesI]; rfl)) rfl (by first|exact newB_O|rfl) rfl ?_)|(refine gA ?_; first|refine vr_append0 (gk rfl) rfl rfl rfl (by first|rfl|exact rowOf_length.symm|(simp only [lns] <;> omega)) (by first|exact .row rfl (by first|rfl|exact rowOf_length.symm)|exact .rd|exact .nils) rfl rfl rfl (by (try dsimp only); omega) rfl rfl ?_))|(refine gO ?_; first|refine vr_nil ?_)|(refine gT ?_; first|refine q_then_n ?_)|(refine gK ?_; first|refine q_blk_n ?_)|refine vc_seq ?_|refine vc_region ?_|(show VC _ (.cond _ _ _) _ _; first|refine vc_cond_t rfl ?_|refine x_know rfl (by assumption) ?_)|refine vc_block ?_|refine vc_skip ?_)
          refine ⟨k + 1, hlt, by omega, ?_⟩
          rw [hs]
          refine le_gen0 (fun n => if n = 45 then 18 else n) ?_ ?_ rfl (by first|rfl|(simp only [wfL, wfs, mpO_namesB, mpO_namesI]; rfl))
          all_goals repeat' (first|exact trivial|refine ⟨⟨_, rfl, ?_⟩, ?_⟩|exact .c .d|(refine .c (.row rfl ?_); ((try dsimp only); first|rfl|omega|(simp only [lns] <;> omega)); done)|(refine .rowD ?_ rowOf_isD; rw [rowOf_append]; rfl))
        | false =>
          rw [hg, if_neg (by simp), List.append_nil] at hs
          have hr := route_spec_none l k (by omega) hg
          repeat' (first|(refine gR ?_; first|(refine gB ?_; first|refine vr_neqNil (gk rfl) rfl rfl rfl ?_)|refine x_opF rfl (by first|exact True.intro|omega) ?_|(refine gC ?_; first|refine vr_calldU (hr) (gk rfl) rfl rfl rfl (by first|rfl|(simp only [wfRes, wfL, wfArgs, wfs, mpO_namesB, mpO_namesI]; rfl)) rfl (by first|exact newB_O|rfl) rfl ?_))|(refine gO ?_; first|refine vr_nil ?_)|(refine gT ?_; first|refine q_then_n ?_)|(refine gK ?_; first|refine q_blk_n ?_)|refine vc_seq ?_|refine vc_region ?_|(show VC _ (.cond _ _ _) _ _; first|refine vc_cond_t rfl ?_|refine vc_cond_f rfl ?_|refine x_know rfl (by assumption) ?_)|refine vc_block ?_|refine vc_skip ?_)
          refine ⟨k + 1, hlt, by omega, ?_⟩
          rw [hs]
          refine le_gen0 (fun n => n) ?_ ?_ rfl (by first|rfl|(simp only [wfL, wfs, mpO_namesB, mpO_namesI]; rfl))
          all_goals repeat' (first|exact trivial|refine ⟨⟨_, rfl, ?_⟩, ?_⟩|exact .c .d|exact .c (.row rfl rfl)|exact .rowD rfl rowOf_isD)
      · have hdd : decide ((k : Int) < 32) = false := decide_eq_false (by omega)
        have hk' : k = 32 := by omega
        subst hk'
        repeat' (first|(refine gR ?_; first|refine x_opF rfl (by first|exact True.intro|omega) ?_)|(refine gO ?_; first|refine vr_nil ?_)|(refine gT ?_; first|refine q_then_n ?_|refine q_then_x ?_)|(refine gK ?_; first|refine q_blk_x ?_)|refine vc_seq ?_|refine vc_region ?_|(show VC _ (.cond _ _ _) _ _; first|refine vc_cond_f rfl ?_)|refine vc_ret ?_|refine vc_exit ?_)
        refine retL_of (le_gen (l := [(2, AD (ints (reachK l 32)))]) (b := []) (fun n => n) [45] hS ?_ ?_ rfl (by first|rfl|(simp only [wfL, wfs, mpO_namesB, mpO_namesI]; rfl))) (ret_d isRet_r rfl rfl)
        all_goals repeat' (first|exact trivial|refine ⟨⟨_, rfl, ?_⟩, ?_⟩|exact .c (.frzOf (by first|(simp; done)|decide) rfl rfl (fun _ => rfl)))
  · have e : reachM l = [] := if_pos hc
    rw [e]
    have hdd : decide (checkR l ≠ 0) = true := decide_eq_true hc
    repeat' (first|(refine gR ?_; first|refine x_opF rfl (by first|exact True.intro|omega) ?_|(refine gC ?_; first|refine vr_calldU (hck) (gk rfl) rfl rfl rfl (by first|rfl|(simp only [wfRes, wfL, wfArgs, wfs, mpO_namesB, mpO_namesI]; rfl)) rfl (by first|exact newB_O|rfl) rfl ?_))|(refine gO ?_; first|refine vr_nil ?_)|(refine gT ?_; first|refine q_then_n ?_|refine q_then_r ?_)|refine vc_seq ?_|refine vc_region ?_|(show VC _ (.cond _ _ _) _ _; first|refine vc_cond_t rfl ?_|refine x_know rfl (by assumption) ?_)|refine vc_ret ?_)
    refine retL_of (le_gen0 (l := [(2, AD (ints []))]) (b := []) (fun n => n) ?_ ?_ rfl (by first|rfl|(simp only [wfL, wfs, mpO_namesB, mpO_namesI]; rfl))) (ret_d isRet_r rfl rfl)
    all_goals repeat' (first|exact trivial|refine ⟨⟨_, rfl, ?_⟩, ?_⟩|exact .c .nil)
end Go.Proofs.D
end
