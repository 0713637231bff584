/-
  What functions of the given program hand back, by walks over its code, and plain laws on that. No condition.
-/
import Derived.Test.YtidijkcalgmadaaGreatSxVyc
-- SXS
-- SXM
-- SXN
namespace Go.Proofs
open Go Go.Sx Go.Proofs.T Go.Proofs.Q
set_option maxRecDepth 4000
set_option linter.unusedSimpArgs false
set_option linter.unusedVariables false
attribute [local irreducible] VR VC thenQ blockQ retL

structure Du where
  id : Int
  til : Int
  life : Int
  deriving DecidableEq, Inhabited
def Du.enc (x : Du) : List D := [.int .i64 x.id, .int .i64 x.til, .int .i64 x.life]
def Du.cs (x : Du) : List C := [.d (.int .i64 x.id), .d (.int .i64 x.til), .d (.int .i64 x.life)]
abbrev duA (x : Du) : AV := .agg x.cs
abbrev dus (l : List Du) : D := rdOf Du.enc 3 l
instance : FlatE Du.enc := ⟨fun _ => rfl⟩
theorem due1_spec (x : Pk) (d : Du) : FnS Tryz.prog 15 [pkA x, .ep (fun j => d.enc.getD j .nils) 3] [] (AB (decide (x.id = d.id))) [] := by
  refine FnS.of_body (enters_of Tryz.func15 (by kernel_rfl) rfl) Tryz.func15 rfl Tryz.ntmps15 Tryz.results15 rfl rfl rfl rfl fun E hS => ?_
  repeat' (first
    | (show VR _ _ _ (_ :: _) _ _ _; first | refine x_opF rfl (by first | exact True.intro | omega) ?_)
    | (show VR _ _ _ [] _ _ _; first | refine vr_nil ?_)
    | (show thenQ _ _ _ _; first | refine q_then_n ?_)
    | refine vc_seq ?_
    | refine vc_region ?_
    | refine vc_ret ?_
    | fail)
  all_goals exact ret_bool isRet_r rfl rfl
theorem due1_fnc {σ : St} {d : Du} {n1 : Nat} {L : List Nat} (hL : n1 ∈ L) (h1 : σ (.b n1) = some (.k (.box d.cs))) : AR Tryz.prog σ L (.fnc 15 [.ptr n1 0]) (.clo (predφPk fun x => decide (x.id = d.id))) :=
  .fnc (eps := [.ep (fun j => d.enc.getD j .nils) 3]) (.cons (.ptr hL h1 (fun j hj => by
    have : j = 0 ∨ j = 1 ∨ j = 2 := by omega
    rcases this with rfl | rfl | rfl <;> rfl)) .nil) (enters_of Tryz.func15 (by kernel_rfl) rfl)
    (by rintro _ _ ⟨x, rfl, rfl⟩; exact ⟨rfl, due1_spec x d⟩)
def dueV (s : Sta) (gap first : Int) (i : Nat) : Du := ⟨(s.qu.packets.getD i default).id, tilV s gap first i, (s.qu.packets.getD i default).born + (s.qu.packets.getD i default).life⟩
def dueL (s : Sta) (gap first : Int) (k : Nat) : List Du := (List.range k).map (dueV s gap first)
theorem dueL_len (s : Sta) (gap first : Int) (k : Nat) : (dueL s gap first k).length = k := by simp [dueL]
theorem dueL_succ (s : Sta) (gap first : Int) (k : Nat) : dueL s gap first (k + 1) = dueL s gap first k ++ [dueV s gap first k] := by simp [dueL, List.range_succ]
theorem dueL_get {s : Sta} {gap first : Int} {k i : Nat} (h : i < k) : (dueL s gap first k).getD i default = dueV s gap first i := by
  rw [List.getD_eq_getElem?_getD, dueL, List.getElem?_map, List.getElem?_range h]; rfl
theorem bound_at {s : Sta} (hck : checkS s = 0) {i : Nat} (hi : i < s.qu.packets.length) {gap : Int} (hg : 1 ≤ gap ∧ gap ≤ 4096) : boundQ s.qu (s.qu.packets.getD i default).id gap = (gap * ((aheadN s.qu.packets i : Int) + 1), 0) := by
  have h2 := (checkS_of hck).2.1
  have hf := idxId_at (okQ_of h2) hi
  unfold boundQ
  rw [aheadQ_some h2 hf, if_neg (by simp), if_neg (by simp [inI]; omega)]
def s0W (len : Int) (ss : List Int) : Sta := ⟨wT len ss, ⟨12, []⟩, [], [], 0, 0, -1, 0, 0, 0, 0⟩
set_option maxHeartbeats 8000000 in
theorem lawResidence_spec (length : Int) (slots : List Int) (l : List Pk) (from' : Int) (hlen : 0 ≤ length ∧ length < 256) (hsl : ∀ x ∈ slots, 0 ≤ x ∧ x < 256) (hfr : 0 ≤ from' ∧ from' < 256) :
    FnS Tryz.prog 3 [AD (.int .u8 length), AD (rdOf enc8' 1 slots), AD (pks l), AD (.int .u8 from')] [] (AB true) [] := by
  refine FnS.of_body (enters_of Tryz.func3 (by kernel_rfl) rfl) Tryz.func3 rfl Tryz.ntmps3 Tryz.results3 rfl rfl rfl rfl fun E hS => ?_
  by_cases hs12 : 12 < slots.length
  · have d1 : decide ((12 : Int) < (slots.length : Int)) = true := decide_eq_true (by omega)
    repeat' (first
      | (show VR _ _ _ (_ :: _) _ _ _; first | refine x_opF rfl (by first | exact True.intro | omega) ?_ | (show VR _ _ _ (⟨_, .call ⟨.value _, _, _⟩, _, _, _, _⟩ :: _) _ _ _; first | refine vr_calldU (works_spec) (gk rfl) rfl rfl rfl (by first | rfl | (simp only [wfRes, wfL, wfArgs, wfs, mpO_namesB, mpO_namesI]; rfl)) rfl (by first | exact newB_nil | exact newB_O | ((simp only [newB, List.map_cons, List.map_nil, Blk.shift, rowOf_shift]) <;> rfl) | rfl) rfl ?_) | refine x_gknow rfl (by assumption) ?_)
      | (show VR _ _ _ [] _ _ _; first | refine vr_nil ?_)
      | (show thenQ _ _ _ _; first | refine q_then_n ?_ | refine q_then_r ?_)
      | refine vc_seq ?_
      | refine vc_region ?_
      | (show VC _ (.cond _ _ _) _ _; first | refine vc_cond_t rfl ?_ | refine vc_cond_f rfl ?_)
      | refine vc_ret ?_ | refine vc_skip ?_
      | fail)
    all_goals exact ret_bool isRet_r rfl rfl
  have d1 : decide ((12 : Int) < (slots.length : Int)) = false := decide_eq_false (by omega)
  by_cases hl12 : 12 < l.length
  · have d2 : decide ((12 : Int) < (l.length : Int)) = true := decide_eq_true (by omega)
    repeat' (first
      | (show VR _ _ _ (_ :: _) _ _ _; first | refine x_opF rfl (by first | exact True.intro | omega) ?_ | (show VR _ _ _ (⟨_, .call ⟨.value _, _, _⟩, _, _, _, _⟩ :: _) _ _ _; first | refine vr_calldU (works_spec) (gk rfl) rfl rfl rfl (by first | rfl | (simp only [wfRes, wfL, wfArgs, wfs, mpO_namesB, mpO_namesI]; rfl)) rfl (by first | exact newB_nil | exact newB_O | ((simp only [newB, List.map_cons, List.map_nil, Blk.shift, rowOf_shift]) <;> rfl) | rfl) rfl ?_) | refine x_gknow rfl (by assumption) ?_)
      | (show VR _ _ _ [] _ _ _; first | refine vr_nil ?_)
      | (show thenQ _ _ _ _; first | refine q_then_n ?_ | refine q_then_r ?_)
      | refine vc_seq ?_
      | refine vc_region ?_
      | (show VC _ (.cond _ _ _) _ _; first | refine vc_cond_t rfl ?_ | refine vc_cond_f rfl ?_ | refine x_know rfl (by assumption) ?_)
      | refine vc_ret ?_ | refine vc_skip ?_
      | fail)
    all_goals exact ret_bool isRet_r rfl rfl
  have d2 : decide ((12 : Int) < (l.length : Int)) = false := decide_eq_false (by omega)
  have hm : 0 ≤ length % 12 ∧ length % 12 < 12 := by omega
  have hW := (wS_ok (len := 1 + length % 12) (l := slots) (by omega) (by omega) (by omega) slots.length (Nat.le_refl _)).1
  have hwt := waits_spec (1 + length % 12) slots (by omega) (by omega) (by omega) hsl
  have hg := gapT_rng hW (wS (1 + length % 12) slots slots.length).length (Nat.le_refl _)
  rw [show gapT ((wS (1 + length % 12) slots slots.length).map wc) (1 + length % 12) (wS (1 + length % 12) slots slots.length).length = gapW (1 + length % 12) slots from rfl] at hg
  have hres := fun {s : Sta} => residence hW (s := s) (first := from')
  rw [show gapT ((wS (1 + length % 12) slots slots.length).map wc) (1 + length % 12) (wS (1 + length % 12) slots slots.length).length = gapW (1 + length % 12) slots from rfl] at hres
  have hnew := new_spec (wT (1 + length % 12) (wS (1 + length % 12) slots slots.length)) 12 0
  have enew : newS (wT (1 + length % 12) (wS (1 + length % 12) slots slots.length)) 12 0 = (s0W (1 + length % 12) (wS (1 + length % 12) slots slots.length), 0) := by
    rw [newS, if_neg (by rw [wT_check hW]; simp), if_neg (by decide)]; rfl
  rw [enew] at hnew
  have hinv0 : Inv (wT (1 + length % 12) (wS (1 + length % 12) slots slots.length)) (s0W (1 + length % 12) (wS (1 + length % 12) slots slots.length)) :=
    ⟨checkS_good (wT_check hW) (by unfold packetsB; rfl) (by rfl) (by rfl) (by rfl) (by rfl), rfl, rfl⟩
  generalize hgap : gapW (1 + length % 12) slots = gap at *
  generalize hss : wS (1 + length % 12) slots slots.length = ss at *
  repeat' (first
    | (show VR _ _ _ (_ :: _) _ _ _; first | refine x_opF rfl (by first | exact True.intro | omega) ?_ | (show VR _ _ _ (⟨_, .call ⟨.value _, _, _⟩, _, _, _, _⟩ :: _) _ _ _; first | refine vr_calldU (works_spec) (gk rfl) rfl rfl rfl (by first | rfl | (simp only [wfRes, wfL, wfArgs, wfs, mpO_namesB, mpO_namesI]; rfl)) rfl (by first | exact newB_nil | exact newB_O | ((simp only [newB, List.map_cons, List.map_nil, Blk.shift, rowOf_shift]) <;> rfl) | rfl) rfl ?_ | refine vr_calldU (hwt) (gk rfl) rfl rfl rfl (by first | rfl | (simp only [wfRes, wfL, wfArgs, wfs, mpO_namesB, mpO_namesI]; rfl)) rfl (by first | exact newB_nil | exact newB_O | ((simp only [newB, List.map_cons, List.map_nil, Blk.shift, rowOf_shift]) <;> rfl) | rfl) rfl ?_) | (show VR _ _ _ (⟨_, .convert _ _ _, _, _, _, _⟩ :: _) _ _ _; first | refine vr_convert_id (gk rfl) rfl ⟨_, rfl⟩ rfl (by first | exact wrap_i64 (by omega) | exact wrap_u64 (by omega) | exact wrap_u16 (by omega) | exact wrap_u8 (by omega) | exact wrap_u32 (by omega)) rfl ?_) | refine x_gknow rfl (by assumption) ?_)
    | (show VR _ _ _ [] _ _ _; first | refine vr_nil ?_)
    | (show thenQ _ _ _ _; first | refine q_then_n ?_)
    | (show VC _ (.seq _ _) _ _; (fail_if_success (show VC _ (.seq (.seq (.region 6 _ _) _) _) _ _)); (fail_if_success (show VC _ (.seq (.region 6 _ _) _) _ _)); refine vc_seq ?_)
    | refine vc_region ?_
    | (show VC _ (.cond _ _ _) _ _; first | refine vc_cond_f rfl ?_ | refine x_know rfl (by assumption) ?_)
    | refine vc_skip ?_
    | fail)
  generalize hln : 1 + length % 12 = len at *
  refine VC.le (σ' := stOf [(2, AD (pks l)), (3, AD (.int .u8 from')), (8, AB false), (9, .c (.ptr 9 0)), (10, AI gap)] [(9, .box (wT len ss).cs)]) ?_ ?_
  · refine le_gen0 (fun n => n) ?_ ?_ rfl (by first | rfl | (simp only [wfL, wfs, mpO_namesB, mpO_namesI]; rfl))
    all_goals repeat' (first | exact trivial | refine ⟨⟨_, rfl, ?_⟩, ?_⟩ | exact .c .d | exact .c (.ptr rfl) | exact .boxD rfl rfl | fail)
  repeat' (first
    | (show VR _ _ _ (_ :: _) _ _ _; first | refine x_opF rfl (by first | exact True.intro | omega) ?_ | (show VR _ _ _ (⟨_, .call ⟨.value _, _, _⟩, _, _, _, _⟩ :: _) _ _ _; first | refine vr_calldU (hnew) (gk rfl) rfl rfl rfl (by first | rfl | (simp only [wfRes, wfL, wfArgs, wfs, mpO_namesB, mpO_namesI]; rfl)) rfl (by first | exact newB_nil | exact newB_O | ((simp only [newB, List.map_cons, List.map_nil, Blk.shift, rowOf_shift]) <;> rfl) | rfl) rfl ?_) | (show VR _ _ _ (⟨_, .convert _ _ _, _, _, _, _⟩ :: _) _ _ _; first | refine vr_convert_id (gk rfl) rfl ⟨_, rfl⟩ rfl (by first | exact wrap_i64 (by omega) | exact wrap_u64 (by omega) | exact wrap_u16 (by omega) | exact wrap_u8 (by omega) | exact wrap_u32 (by omega)) rfl ?_))
    | (show VR _ _ _ [] _ _ _; first | refine vr_nil ?_)
    | (show thenQ _ _ _ _; first | refine q_then_n ?_)
    | (show VC _ (.seq _ _) _ _; (fail_if_success (show VC _ (.seq (.seq (.region 10 _ _) _) _) _ _)); (fail_if_success (show VC _ (.seq (.region 10 _ _) _) _ _)); refine vc_seq ?_)
    | refine vc_region ?_
    | (show VC _ (.cond _ _ _) _ _; first | refine vc_cond_f rfl ?_)
    | refine vc_skip ?_
    | fail)
  refine VC.le (σ' := stOf [(2, AD (pks l)), (8, AB false), (10, AI gap), (11, .c (.ptr 11 0)), (13, AI from')] [(11, .box (s0W len ss).cs)]) ?_ ?_
  · refine le_gen0 (fun n => n) ?_ ?_ rfl (by first | rfl | (simp only [wfL, wfs, mpO_namesB, mpO_namesI]; rfl))
    all_goals repeat' (first | exact trivial | refine ⟨⟨_, rfl, ?_⟩, ?_⟩ | exact .c .d | exact .c (.ptr rfl) | exact .boxD rfl rfl | fail)
  clear hnew enew hwt hgap hss hsl d1 hs12
  repeat' (first
    | (show VR _ _ _ (_ :: _) _ _ _; first | refine x_opF rfl (by first | exact True.intro | omega) ?_)
    | (show VR _ _ _ [] _ _ _; first | refine vr_nil ?_)
    | (show thenQ _ _ _ _; first | refine q_then_n ?_)
    | refine vc_seq ?_
    | refine vc_region ?_
    | refine vc_block ?_
    | fail)
  refine vc_loopI (ι := Nat × Sta) (fun x => stOf [(8, AB false), (10, AI gap), (11, .c (.ptr 11 0)), (13, AI from'), (63, AD (pks l)), (64, AI l.length), (65, AI x.1)] [(11, .box x.2.cs)]) (fun x => x.1 ≤ l.length ∧ Inv (wT len ss) x.2) (fun x => l.length - x.1) (0, s0W len ss) ⟨Nat.zero_le _, hinv0⟩ ?_ ?_
  · refine le_gen0 (fun n => n) ?_ ?_ rfl (by first | rfl | (simp only [wfL, wfs, mpO_namesB, mpO_namesI]; rfl))
    all_goals repeat' (first | exact trivial | refine ⟨⟨_, rfl, ?_⟩, ?_⟩ | exact .c .d | exact .c (.ptr rfl) | exact .boxD rfl rfl | fail)
  rintro ⟨k, s⟩ ⟨hk, hi⟩
  dsimp only at hk hi ⊢
  rcases Nat.lt_or_ge k l.length with hlt | hge
  · have dlt : decide ((k : Int) < (l.length : Int)) = true := decide_eq_true (by omega)
    have hnext : ∃ y : Nat × Sta, y = (k + 1, s) := ⟨_, rfl⟩
    by_cases c1 : formP (l.getD k default) = 0
    · have e1 : decide (formP (l.getD k default) ≠ 0) = false := decide_eq_false (by omega)
      by_cases c2 : (l.getD k default).to = 1
      · have e2 : decide ((l.getD k default).to = 1) = true := decide_eq_true c2
        repeat' (first
          | (show VR _ _ _ (_ :: _) _ _ _; first | refine x_opF rfl (by first | exact True.intro | omega) ?_ | (show VR _ _ _ (⟨_, .call ⟨.value _, _, _⟩, _, _, _, _⟩ :: _) _ _ _; first | refine vr_calldU (packet_spec (l.getD k default)) (gk rfl) rfl rfl rfl (by first | rfl | (simp only [wfRes, wfL, wfArgs, wfs, mpO_namesB, mpO_namesI]; rfl)) rfl (by first | exact newB_nil | exact newB_O | ((simp only [newB, List.map_cons, List.map_nil, Blk.shift, rowOf_shift]) <;> rfl) | rfl) rfl ?_) | (show VR _ _ _ (⟨_, .indexAddr _ _ _, _, _, _, _⟩ :: _) _ _ _; first | refine vr_index_rd (gk rfl) rfl rfl rfl rfl rfl (by omega) rfl ?_) | refine x_gknow rfl (by assumption) ?_)
          | (show VR _ _ _ [] _ _ _; first | refine vr_nil ?_)
          | (show thenQ _ _ _ _; first | refine q_then_n ?_ | refine q_then_x ?_)
          | (show blockQ _ _ _ _; first | refine q_blk_x ?_)
          | refine vc_seq ?_
          | refine vc_region ?_
          | (show VC _ (.cond _ _ _) _ _; first | refine vc_cond_t rfl ?_ | refine x_know rfl (by assumption) ?_)
          | refine vc_exit ?_ | refine vc_block ?_ | refine vc_skip ?_
          | fail)
        refine ⟨(k + 1, s), ⟨by dsimp only; omega, hi⟩, by dsimp only; omega, ?_⟩
        dsimp only
        refine le_gen0 (fun n => n) ?_ ?_ rfl (by first | rfl | (simp only [wfL, wfs, mpO_namesB, mpO_namesI]; rfl))
        all_goals repeat' (first | exact trivial | refine ⟨⟨_, rfl, ?_⟩, ?_⟩ | exact .c .d | exact .c (.ptr rfl) | exact .boxD rfl rfl | fail)
      have e2 : decide ((l.getD k default).to = 1) = false := decide_eq_false c2
      by_cases c3 : 100 < (l.getD k default).data.size
      · have e3 : decide (100 < ((l.getD k default).data.size : Int)) = true := decide_eq_true (by omega)
        repeat' (first
          | (show VR _ _ _ (_ :: _) _ _ _; first | refine x_opF rfl (by first | exact True.intro | omega) ?_ | (show VR _ _ _ (⟨_, .call ⟨.value _, _, _⟩, _, _, _, _⟩ :: _) _ _ _; first | refine vr_calldU (packet_spec (l.getD k default)) (gk rfl) rfl rfl rfl (by first | rfl | (simp only [wfRes, wfL, wfArgs, wfs, mpO_namesB, mpO_namesI]; rfl)) rfl (by first | exact newB_nil | exact newB_O | ((simp only [newB, List.map_cons, List.map_nil, Blk.shift, rowOf_shift]) <;> rfl) | rfl) rfl ?_) | (show VR _ _ _ (⟨_, .indexAddr _ _ _, _, _, _, _⟩ :: _) _ _ _; first | refine vr_index_rd (gk rfl) rfl rfl rfl rfl rfl (by omega) rfl ?_) | refine x_gknow rfl (by assumption) ?_)
          | (show VR _ _ _ [] _ _ _; first | refine vr_nil ?_)
          | (show thenQ _ _ _ _; first | refine q_then_n ?_ | refine q_then_x ?_)
          | (show blockQ _ _ _ _; first | refine q_blk_x ?_)
          | refine vc_seq ?_
          | refine vc_region ?_
          | (show VC _ (.cond _ _ _) _ _; first | refine vc_cond_t rfl ?_ | refine x_know rfl (by assumption) ?_)
          | refine vc_exit ?_ | refine vc_block ?_ | refine vc_skip ?_
          | fail)
        refine ⟨(k + 1, s), ⟨by dsimp only; omega, hi⟩, by dsimp only; omega, ?_⟩
        dsimp only
        refine le_gen0 (fun n => n) ?_ ?_ rfl (by first | rfl | (simp only [wfL, wfs, mpO_namesB, mpO_namesI]; rfl))
        all_goals repeat' (first | exact trivial | refine ⟨⟨_, rfl, ?_⟩, ?_⟩ | exact .c .d | exact .c (.ptr rfl) | exact .boxD rfl rfl | fail)
      have e3 : decide (100 < ((l.getD k default).data.size : Int)) = false := decide_eq_false (by omega)
      by_cases c4 : from' < (l.getD k default).born
      · have e4 : decide (from' < (l.getD k default).born) = true := decide_eq_true c4
        repeat' (first
          | (show VR _ _ _ (_ :: _) _ _ _; first | refine x_opF rfl (by first | exact True.intro | omega) ?_ | (show VR _ _ _ (⟨_, .call ⟨.value _, _, _⟩, _, _, _, _⟩ :: _) _ _ _; first | refine vr_calldU (packet_spec (l.getD k default)) (gk rfl) rfl rfl rfl (by first | rfl | (simp only [wfRes, wfL, wfArgs, wfs, mpO_namesB, mpO_namesI]; rfl)) rfl (by first | exact newB_nil | exact newB_O | ((simp only [newB, List.map_cons, List.map_nil, Blk.shift, rowOf_shift]) <;> rfl) | rfl) rfl ?_) | (show VR _ _ _ (⟨_, .indexAddr _ _ _, _, _, _, _⟩ :: _) _ _ _; first | refine vr_index_rd (gk rfl) rfl rfl rfl rfl rfl (by omega) rfl ?_) | refine x_gknow rfl (by assumption) ?_)
          | (show VR _ _ _ [] _ _ _; first | refine vr_nil ?_)
          | (show thenQ _ _ _ _; first | refine q_then_n ?_ | refine q_then_x ?_)
          | (show blockQ _ _ _ _; first | refine q_blk_x ?_)
          | refine vc_seq ?_
          | refine vc_region ?_
          | (show VC _ (.cond _ _ _) _ _; first | refine vc_cond_t rfl ?_ | refine x_know rfl (by assumption) ?_)
          | refine vc_exit ?_ | refine vc_block ?_ | refine vc_skip ?_
          | fail)
        refine ⟨(k + 1, s), ⟨by dsimp only; omega, hi⟩, by dsimp only; omega, ?_⟩
        dsimp only
        refine le_gen0 (fun n => n) ?_ ?_ rfl (by first | rfl | (simp only [wfL, wfs, mpO_namesB, mpO_namesI]; rfl))
        all_goals repeat' (first | exact trivial | refine ⟨⟨_, rfl, ?_⟩, ?_⟩ | exact .c .d | exact .c (.ptr rfl) | exact .boxD rfl rfl | fail)
      have e4 : decide (from' < (l.getD k default).born) = false := decide_eq_false c4
      by_cases c5 : (putS s (l.getD k default)).2.2 = 0
      · have e5 : decide ((putS s (l.getD k default)).2.2 = 0) = true := decide_eq_true c5
        have hp := put_ok hi.ck c5
        repeat' (first
          | (show VR _ _ _ (_ :: _) _ _ _; first | refine x_opF rfl (by first | exact True.intro | omega) ?_ | (show VR _ _ _ (⟨_, .call ⟨.value _, _, _⟩, _, _, _, _⟩ :: _) _ _ _; first | refine vr_calldU (packet_spec (l.getD k default)) (gk rfl) rfl rfl rfl (by first | rfl | (simp only [wfRes, wfL, wfArgs, wfs, mpO_namesB, mpO_namesI]; rfl)) rfl (by first | exact newB_nil | exact newB_O | ((simp only [newB, List.map_cons, List.map_nil, Blk.shift, rowOf_shift]) <;> rfl) | rfl) rfl ?_ | refine vr_calldU (mput_spec s (l.getD k default)) (gk rfl) rfl rfl rfl (by first | rfl | (simp only [wfRes, wfL, wfArgs, wfs, mpO_namesB, mpO_namesI]; rfl)) rfl (by first | exact newB_nil | exact newB_O | ((simp only [newB, List.map_cons, List.map_nil, Blk.shift, rowOf_shift]) <;> rfl) | rfl) rfl ?_) | (show VR _ _ _ (⟨_, .indexAddr _ _ _, _, _, _, _⟩ :: _) _ _ _; first | refine vr_index_rd (gk rfl) rfl rfl rfl rfl rfl (by omega) rfl ?_) | refine x_gknow rfl (by assumption) ?_)
          | (show VR _ _ _ [] _ _ _; first | refine vr_nil ?_)
          | (show thenQ _ _ _ _; first | refine q_then_n ?_)
          | (show blockQ _ _ _ _; first | refine q_blk_n ?_)
          | refine vc_seq ?_
          | refine vc_region ?_
          | (show VC _ (.cond _ _ _) _ _; first | refine vc_cond_t rfl ?_ | refine vc_cond_f rfl ?_ | refine x_know rfl (by assumption) ?_)
          | refine vc_block ?_ | refine vc_skip ?_
          | fail)
        refine ⟨(k + 1, (putS s (l.getD k default)).1), ⟨by dsimp only; omega, ⟨hp.1, hp.2.1.trans hi.tb, hp.2.2.trans hi.hd⟩⟩, by dsimp only; omega, ?_⟩
        dsimp only
        refine le_gen0 (fun n => n) ?_ ?_ rfl (by first | rfl | (simp only [wfL, wfs, mpO_namesB, mpO_namesI]; rfl))
        all_goals repeat' (first | exact trivial | refine ⟨⟨_, rfl, ?_⟩, ?_⟩ | exact .c .d | exact .c (.ptr rfl) | exact .boxD rfl rfl | fail)
      · have e5 : decide ((putS s (l.getD k default)).2.2 = 0) = false := decide_eq_false c5
        repeat' (first
          | (show VR _ _ _ (_ :: _) _ _ _; first | refine x_opF rfl (by first | exact True.intro | omega) ?_ | (show VR _ _ _ (⟨_, .call ⟨.value _, _, _⟩, _, _, _, _⟩ :: _) _ _ _; first | refine vr_calldU (packet_spec (l.getD k default)) (gk rfl) rfl rfl rfl (by first | rfl | (simp only [wfRes, wfL, wfArgs, wfs, mpO_namesB, mpO_namesI]; rfl)) rfl (by first | exact newB_nil | exact newB_O | ((simp only [newB, List.map_cons, List.map_nil, Blk.shift, rowOf_shift]) <;> rfl) | rfl) rfl ?_ | refine vr_calldU (mput_spec s (l.getD k default)) (gk rfl) rfl rfl rfl (by first | rfl | (simp only [wfRes, wfL, wfArgs, wfs, mpO_namesB, mpO_namesI]; rfl)) rfl (by first | exact newB_nil | exact newB_O | ((simp only [newB, List.map_cons, List.map_nil, Blk.shift, rowOf_shift]) <;> rfl) | rfl) rfl ?_) | (show VR _ _ _ (⟨_, .indexAddr _ _ _, _, _, _, _⟩ :: _) _ _ _; first | refine vr_index_rd (gk rfl) rfl rfl rfl rfl rfl (by omega) rfl ?_) | refine x_gknow rfl (by assumption) ?_)
          | (show VR _ _ _ [] _ _ _; first | refine vr_nil ?_)
          | (show thenQ _ _ _ _; first | refine q_then_n ?_)
          | (show blockQ _ _ _ _; first | refine q_blk_n ?_)
          | refine vc_seq ?_
          | refine vc_region ?_
          | (show VC _ (.cond _ _ _) _ _; first | refine vc_cond_t rfl ?_ | refine vc_cond_f rfl ?_ | refine x_know rfl (by assumption) ?_)
          | refine vc_block ?_ | refine vc_skip ?_
          | fail)
        refine ⟨(k + 1, s), ⟨by dsimp only; omega, hi⟩, by dsimp only; omega, ?_⟩
        dsimp only
        refine le_gen0 (fun n => n) ?_ ?_ rfl (by first | rfl | (simp only [wfL, wfs, mpO_namesB, mpO_namesI]; rfl))
        all_goals repeat' (first | exact trivial | refine ⟨⟨_, rfl, ?_⟩, ?_⟩ | exact .c .d | exact .c (.ptr rfl) | exact .boxD rfl rfl | fail)
    · have e1 : decide (formP (l.getD k default) ≠ 0) = true := decide_eq_true (by omega)
      repeat' (first
        | (show VR _ _ _ (_ :: _) _ _ _; first | refine x_opF rfl (by first | exact True.intro | omega) ?_ | (show VR _ _ _ (⟨_, .call ⟨.value _, _, _⟩, _, _, _, _⟩ :: _) _ _ _; first | refine vr_calldU (packet_spec (l.getD k default)) (gk rfl) rfl rfl rfl (by first | rfl | (simp only [wfRes, wfL, wfArgs, wfs, mpO_namesB, mpO_namesI]; rfl)) rfl (by first | exact newB_nil | exact newB_O | ((simp only [newB, List.map_cons, List.map_nil, Blk.shift, rowOf_shift]) <;> rfl) | rfl) rfl ?_) | (show VR _ _ _ (⟨_, .indexAddr _ _ _, _, _, _, _⟩ :: _) _ _ _; first | refine vr_index_rd (gk rfl) rfl rfl rfl rfl rfl (by omega) rfl ?_) | refine x_gknow rfl (by assumption) ?_)
        | (show VR _ _ _ [] _ _ _; first | refine vr_nil ?_)
        | (show thenQ _ _ _ _; first | refine q_then_n ?_ | refine q_then_x ?_)
        | (show blockQ _ _ _ _; first | refine q_blk_x ?_)
        | refine vc_seq ?_
        | refine vc_region ?_
        | (show VC _ (.cond _ _ _) _ _; first | refine vc_cond_t rfl ?_ | refine x_know rfl (by assumption) ?_)
        | refine vc_exit ?_ | refine vc_block ?_ | refine vc_skip ?_
        | fail)
      refine ⟨(k + 1, s), ⟨by dsimp only; omega, hi⟩, by dsimp only; omega, ?_⟩
      dsimp only
      refine le_gen0 (fun n => n) ?_ ?_ rfl (by first | rfl | (simp only [wfL, wfs, mpO_namesB, mpO_namesI]; rfl))
      all_goals repeat' (first | exact trivial | refine ⟨⟨_, rfl, ?_⟩, ?_⟩ | exact .c .d | exact .c (.ptr rfl) | exact .boxD rfl rfl | fail)
  have dlt : decide ((k : Int) < (l.length : Int)) = false := decide_eq_false (by omega)
  have hql := checkQ_len (checkS_of hi.ck).2.1
  repeat' (first
    | (show VR _ _ _ (_ :: _) _ _ _; first | refine x_opF rfl (by first | exact True.intro | omega) ?_)
    | (show VR _ _ _ [] _ _ _; first | refine vr_nil ?_)
    | (show thenQ _ _ _ _; first | refine q_then_n ?_ | refine q_then_x ?_)
    | (show blockQ _ _ _ _; first | refine q_blk_x ?_)
    | refine vc_seq ?_
    | refine vc_region ?_
    | (show VC _ (.cond _ _ _) _ _; first | refine vc_cond_f rfl ?_ | refine x_know rfl (by assumption) ?_)
    | refine vc_exit ?_ | refine vc_block ?_
    | fail)
  clear dlt hge hk hl12 d2 hinv0
  refine VC.le (le_nil (t := 19) (nm := 90) (T := 48) (sz := 3) rfl rfl) ?_
  refine vc_loopI (ι := Nat) (fun k => stOf [(8, AB false), (10, AI gap), (11, .c (.ptr 11 0)), (13, AI from'), (19, .c (.row 90 (dueL s gap from' k).length)), (102, AD (pks s.qu.packets)), (103, AI s.qu.packets.length), (104, AI k)] [(11, .box s.cs), (90, .row 48 3 (rowOf Du.enc (dueL s gap from' k)))]) (fun k => k ≤ s.qu.packets.length) (fun k => s.qu.packets.length - k) 0 (Nat.zero_le _) ?_ ?_
  · refine le_gen0 (fun n => n) ?_ ?_ rfl (by first | rfl | (simp only [wfL, wfs, mpO_namesB, mpO_namesI]; rfl))
    all_goals repeat' (first | exact trivial | refine ⟨⟨_, rfl, ?_⟩, ?_⟩ | exact .c .d | exact .c (.ptr rfl) | exact .c (.row rfl rfl) | exact .boxD rfl rfl | exact .rowD rfl rowOf_isD | fail)
  · intro k hk
    have hdl := dueL_len s gap from' k
    have hdl1 := dueL_len s gap from' (k + 1)
    rcases Nat.lt_or_ge k s.qu.packets.length with hlt | hge
    · have dlt : decide ((k : Int) < (s.qu.packets.length : Int)) = true := decide_eq_true (by omega)
      have hfo := (checkQ_at (checkS_of hi.ck).2.1 hlt).1
      have hbl : (0 ≤ (s.qu.packets.getD k default).born ∧ (s.qu.packets.getD k default).born ≤ 1099511627776) ∧ 1 ≤ (s.qu.packets.getD k default).life ∧ (s.qu.packets.getD k default).life ≤ 4096 := by
        unfold formP at hfo
        split at hfo
        · cases hfo
        · rename_i hn
          simp only [inI, not_or, decide_eq_false_iff_not, Decidable.not_not] at hn
          exact ⟨hn.2.2.2.1, hn.2.2.2.2⟩
      by_cases c1 : (s.qu.packets.getD k default).to = 2
      · have e1 : decide ((s.qu.packets.getD k default).to = 2) = true := decide_eq_true c1
        by_cases c2 : 0 < gap
        · have e2 : decide (0 < gap) = true := decide_eq_true c2
          have hb := bound_spec s.qu (s.qu.packets.getD k default).id gap
          rw [bound_at hi.ck hlt (by omega)] at hb
          have ed : dueV s gap from' k = ⟨(s.qu.packets.getD k default).id, from' + gap * ((aheadN s.qu.packets k : Int) + 1), (s.qu.packets.getD k default).born + (s.qu.packets.getD k default).life⟩ := by
            unfold dueV tilV
            rw [if_pos ⟨c1, c2⟩]
          have hah : aheadN s.qu.packets k ≤ k := cnt_le
          have hX : 0 ≤ gap * ((aheadN s.qu.packets k : Int) + 1) ∧ gap * ((aheadN s.qu.packets k : Int) + 1) ≤ 24 * 65 :=
            ⟨Int.mul_nonneg (by omega) (by omega), Int.mul_le_mul (by omega) (by omega) (by omega) (by omega)⟩
          generalize gap * ((aheadN s.qu.packets k : Int) + 1) = X at hb ed hX
          repeat' (first
            | (show VR _ _ _ (_ :: _) _ _ _; first | refine x_opF rfl (by first | exact True.intro | omega) ?_ | (show VR _ _ _ (⟨_, .call ⟨.value _, _, _⟩, _, _, _, _⟩ :: _) _ _ _; first | refine vr_calldU (hb) (gk rfl) rfl rfl rfl (by first | rfl | (simp only [wfRes, wfL, wfArgs, wfs, mpO_namesB, mpO_namesI]; rfl)) rfl (by first | exact newB_nil | exact newB_O | ((simp only [newB, List.map_cons, List.map_nil, Blk.shift, rowOf_shift]) <;> rfl) | rfl) rfl ?_) | (show VR _ _ _ (⟨_, .indexAddr _ _ _, _, _, _, _⟩ :: _) _ _ _; first | refine vr_index_rd (gk rfl) rfl rfl rfl rfl rfl (by omega) rfl ?_) | (show VR _ _ _ (⟨_, .call ⟨.builtin .append, _, _⟩, _, _, _, _⟩ :: _) _ _ _; first | refine vr_append0 (gk rfl) rfl rfl rfl (by first | rfl | exact rowOf_length.symm | (simp only [lns] <;> omega)) (by first | exact .row rfl (by first | rfl | exact rowOf_length.symm) | exact .rd | exact .nils) rfl rfl rfl (by (try dsimp only); omega) rfl rfl ?_) | refine x_gknow rfl (by assumption) ?_)
            | (show VR _ _ _ [] _ _ _; first | refine vr_nil ?_)
            | (show thenQ _ _ _ _; first | refine q_then_n ?_)
            | (show blockQ _ _ _ _; first | refine q_blk_n ?_)
            | refine vc_seq ?_
            | refine vc_region ?_
            | (show VC _ (.cond _ _ _) _ _; first | refine vc_cond_t rfl ?_ | refine vc_cond_f rfl ?_ | refine x_know rfl (by assumption) ?_)
            | refine vc_block ?_ | refine vc_skip ?_
            | fail)
          refine ⟨k + 1, by omega, by omega, ?_⟩
          rw [dueL_succ, ed]
          refine le_gen0 (fun n => if n = 90 then 140 else n) ?_ ?_ rfl (by first | rfl | (simp only [wfL, wfs, mpO_namesB, mpO_namesI]; rfl))
          all_goals repeat' (first | exact trivial | refine ⟨⟨_, rfl, ?_⟩, ?_⟩ | exact .c .d | exact .c (.ptr rfl) | (refine .c (.row rfl ?_); ((try dsimp only); first | rfl | omega | (simp only [lns] <;> omega)); done) | exact .boxD rfl rfl | (refine .rowD ?_ rowOf_isD; rw [rowOf_append]; rfl) | fail)
        · have e2 : decide (0 < gap) = false := decide_eq_false c2
          have ed : dueV s gap from' k = ⟨(s.qu.packets.getD k default).id, 1099511627776, (s.qu.packets.getD k default).born + (s.qu.packets.getD k default).life⟩ := by
            unfold dueV tilV
            rw [if_neg (fun h => c2 h.2)]
          repeat' (first
            | (show VR _ _ _ (_ :: _) _ _ _; first | refine x_opF rfl (by first | exact True.intro | omega) ?_ | (show VR _ _ _ (⟨_, .indexAddr _ _ _, _, _, _, _⟩ :: _) _ _ _; first | refine vr_index_rd (gk rfl) rfl rfl rfl rfl rfl (by omega) rfl ?_) | (show VR _ _ _ (⟨_, .call ⟨.builtin .append, _, _⟩, _, _, _, _⟩ :: _) _ _ _; first | refine vr_append0 (gk rfl) rfl rfl rfl (by first | rfl | exact rowOf_length.symm | (simp only [lns] <;> omega)) (by first | exact .row rfl (by first | rfl | exact rowOf_length.symm) | exact .rd | exact .nils) rfl rfl rfl (by (try dsimp only); omega) rfl rfl ?_) | refine x_gknow rfl (by assumption) ?_)
            | (show VR _ _ _ [] _ _ _; first | refine vr_nil ?_)
            | (show thenQ _ _ _ _; first | refine q_then_n ?_)
            | (show blockQ _ _ _ _; first | refine q_blk_n ?_)
            | refine vc_seq ?_
            | refine vc_region ?_
            | (show VC _ (.cond _ _ _) _ _; first | refine vc_cond_t rfl ?_ | refine vc_cond_f rfl ?_ | refine x_know rfl (by assumption) ?_)
            | refine vc_block ?_ | refine vc_skip ?_
            | fail)
          refine ⟨k + 1, by omega, by omega, ?_⟩
          rw [dueL_succ, ed]
          refine le_gen0 (fun n => if n = 90 then 140 else n) ?_ ?_ rfl (by first | rfl | (simp only [wfL, wfs, mpO_namesB, mpO_namesI]; rfl))
          all_goals repeat' (first | exact trivial | refine ⟨⟨_, rfl, ?_⟩, ?_⟩ | exact .c .d | exact .c (.ptr rfl) | (refine .c (.row rfl ?_); ((try dsimp only); first | rfl | omega | (simp only [lns] <;> omega)); done) | exact .boxD rfl rfl | (refine .rowD ?_ rowOf_isD; rw [rowOf_append]; rfl) | fail)
      · have e1 : decide ((s.qu.packets.getD k default).to = 2) = false := decide_eq_false c1
        have ed : dueV s gap from' k = ⟨(s.qu.packets.getD k default).id, 1099511627776, (s.qu.packets.getD k default).born + (s.qu.packets.getD k default).life⟩ := by
          unfold dueV tilV
          rw [if_neg (fun h => c1 h.1)]
        repeat' (first
          | (show VR _ _ _ (_ :: _) _ _ _; first | refine x_opF rfl (by first | exact True.intro | omega) ?_ | (show VR _ _ _ (⟨_, .indexAddr _ _ _, _, _, _, _⟩ :: _) _ _ _; first | refine vr_index_rd (gk rfl) rfl rfl rfl rfl rfl (by omega) rfl ?_) | (show VR _ _ _ (⟨_, .call ⟨.builtin .append, _, _⟩, _, _, _, _⟩ :: _) _ _ _; first | refine vr_append0 (gk rfl) rfl rfl rfl (by first | rfl | exact rowOf_length.symm | (simp only [lns] <;> omega)) (by first | exact .row rfl (by first | rfl | exact rowOf_length.symm) | exact .rd | exact .nils) rfl rfl rfl (by (try dsimp only); omega) rfl rfl ?_) | refine x_gknow rfl (by assumption) ?_)
          | (show VR _ _ _ [] _ _ _; first | refine vr_nil ?_)
          | (show thenQ _ _ _ _; first | refine q_then_n ?_)
          | (show blockQ _ _ _ _; first | refine q_blk_n ?_)
          | refine vc_seq ?_
          | refine vc_region ?_
          | (show VC _ (.cond _ _ _) _ _; first | refine vc_cond_t rfl ?_ | refine vc_cond_f rfl ?_ | refine x_know rfl (by assumption) ?_)
          | refine vc_block ?_ | refine vc_skip ?_
          | fail)
        refine ⟨k + 1, by omega, by omega, ?_⟩
        rw [dueL_succ, ed]
        refine le_gen0 (fun n => if n = 90 then 140 else n) ?_ ?_ rfl (by first | rfl | (simp only [wfL, wfs, mpO_namesB, mpO_namesI]; rfl))
        all_goals repeat' (first | exact trivial | refine ⟨⟨_, rfl, ?_⟩, ?_⟩ | exact .c .d | exact .c (.ptr rfl) | (refine .c (.row rfl ?_); ((try dsimp only); first | rfl | omega | (simp only [lns] <;> omega)); done) | exact .boxD rfl rfl | (refine .rowD ?_ rowOf_isD; rw [rowOf_append]; rfl) | fail)
    have dlt : decide ((k : Int) < (s.qu.packets.length : Int)) = false := decide_eq_false (by omega)
    have hk' : k = s.qu.packets.length := by omega
    subst hk'
    repeat' (first
      | (show VR _ _ _ (_ :: _) _ _ _; first | refine x_opF rfl (by first | exact True.intro | omega) ?_)
      | (show VR _ _ _ [] _ _ _; first | refine vr_nil ?_)
      | (show thenQ _ _ _ _; first | refine q_then_n ?_ | refine q_then_x ?_)
      | (show blockQ _ _ _ _; first | refine q_blk_x ?_)
      | (show VC _ (.seq _ _) _ _; (fail_if_success (show VC _ (.seq (.seq (.region 30 _ _) _) _) _ _)); (fail_if_success (show VC _ (.seq (.region 30 _ _) _) _ _)); refine vc_seq ?_)
      | refine vc_region ?_
      | (show VC _ (.cond _ _ _) _ _; first | refine vc_cond_f rfl ?_ | refine x_know rfl (by assumption) ?_)
      | refine vc_exit ?_
      | fail)
    refine VC.le (σ' := stOf [(8, AB false), (11, .c (.ptr 11 0)), (13, AI from'), (19, AD (dus (dueL s gap from' s.qu.packets.length)))] [(11, .box s.cs)]) ?_ ?_
    · refine le_gen (fun n => n) [90] hS ?_ ?_ rfl (by first | rfl | (simp only [wfL, wfs, mpO_namesB, mpO_namesI]; rfl))
      all_goals repeat' (first | exact trivial | refine ⟨⟨_, rfl, ?_⟩, ?_⟩ | exact .c .d | exact .c (.ptr rfl) | exact .c (.frzOf (by first | (simp; done) | decide) rfl rfl (fun _ => rfl)) | exact .boxD rfl rfl | fail)
    have hD : ∀ j, j < s.qu.packets.length → (dueL s gap from' s.qu.packets.length).getD j default = dueV s gap from' j := fun j hj => dueL_get hj
    generalize dueL s gap from' s.qu.packets.length = D at hdl hD ⊢
    clear hdl1 hge dlt hk
    repeat' (first
      | (show VR _ _ _ (_ :: _) _ _ _; first | refine x_opF rfl (by first | exact True.intro | omega) ?_)
      | (show VR _ _ _ [] _ _ _; first | refine vr_nil ?_)
      | (show thenQ _ _ _ _; first | refine q_then_n ?_)
      | refine vc_seq ?_
      | refine vc_region ?_
      | refine vc_block ?_
      | fail)
    refine vc_loopI (ι := Nat) (fun k => stOf [(8, AB false), (11, .c (.ptr 11 0)), (13, AI from'), (19, AD (dus D)), (25, AI (from' + (k : Int)))] [(11, .box (runSt s from' k).cs)]) (fun k => k ≤ 200) (fun k => 200 - k) 0 (Nat.zero_le _) ?_ ?_
    · rw [show from' + ((0 : Nat) : Int) = from' by omega]
      refine le_gen0 (fun n => n) ?_ ?_ rfl (by first | rfl | (simp only [wfL, wfs, mpO_namesB, mpO_namesI]; rfl))
      all_goals repeat' (first | exact trivial | refine ⟨⟨_, rfl, ?_⟩, ?_⟩ | exact .c .d | exact .c (.ptr rfl) | exact .boxD rfl rfl | fail)
    · intro k hk
      rcases Nat.lt_or_ge k 200 with hlt | hge
      · have dlt : decide (from' + (k : Int) < from' + 200) = true := decide_eq_true (by omega)
        have hrk := (run_ok hW hi (first := from') (by omega) k (by omega)).1
        obtain ⟨g1, g2, _, _⟩ := step_ok hW hrk (slot := from' + k) (by omega)
        have hex := mexpire_spec (runSt s from' k) (from' + k)
        rw [g1] at hex
        have hd := done_spec (expireS (runSt s from' k) (from' + k)).1 (from' + k) rAck
        rw [g2] at hd
        have hany := fun j (hj : j < s.qu.packets.length) => hres hi (by omega) (k := k) (i := j) hlt hj
        rw [show runSt s from' (k + 1) = stepSt (runSt s from' k) (from' + k) from rfl] at hany
        generalize (doneM (expireS (runSt s from' k) (from' + k)).1 (from' + k) (atM (expireS (runSt s from' k) (from' + k)).1.tb (from' + k)).1 rAck).2 = u at hd
        repeat' (first
          | (show VR _ _ _ (_ :: _) _ _ _; first | refine x_opF rfl (by first | exact True.intro | omega) ?_ | (show VR _ _ _ (⟨_, .call ⟨.value _, _, _⟩, _, _, _, _⟩ :: _) _ _ _; first | refine vr_calldU (hex) (gk rfl) rfl rfl rfl (by first | rfl | (simp only [wfRes, wfL, wfArgs, wfs, mpO_namesB, mpO_namesI]; rfl)) rfl (by first | exact newB_nil | exact newB_O | ((simp only [newB, List.map_cons, List.map_nil, Blk.shift, rowOf_shift]) <;> rfl) | rfl) rfl ?_ | refine vr_calldU (hd) (gk rfl) rfl rfl rfl (by first | rfl | (simp only [wfRes, wfL, wfArgs, wfs, mpO_namesB, mpO_namesI]; rfl)) rfl (by first | exact newB_nil | exact newB_O | ((simp only [newB, List.map_cons, List.map_nil, Blk.shift, rowOf_shift]) <;> rfl) | rfl) rfl ?_))
          | (show VR _ _ _ [] _ _ _; first | refine vr_nil ?_)
          | (show thenQ _ _ _ _; first | refine q_then_n ?_)
          | (show VC _ (.seq _ _) _ _; (fail_if_success (show VC _ (.seq (.seq (.region 37 _ _) _) _) _ _)); (fail_if_success (show VC _ (.seq (.region 37 _ _) _) _ _)); refine vc_seq ?_)
          | refine vc_region ?_
          | (show VC _ (.cond _ _ _) _ _; first | refine vc_cond_t rfl ?_ | refine vc_cond_f rfl ?_ | refine x_know rfl (by assumption) ?_)
          | refine vc_block ?_ | refine vc_skip ?_
          | fail)
        refine VC.le (σ' := stOf [(8, AB false), (11, .c (.ptr 11 0)), (13, AI from'), (19, AD (dus D)), (25, AI (from' + (k : Int))), (29, .c (.ptr 29 0))] [(11, .box (runSt s from' k).cs), (29, .box (stepSt (runSt s from' k) (from' + k)).cs)]) ?_ ?_
        · refine le_gen0 (fun n => n) ?_ ?_ rfl (by first | rfl | (simp only [wfL, wfs, mpO_namesB, mpO_namesI]; rfl))
          all_goals repeat' (first | exact trivial | refine ⟨⟨_, rfl, ?_⟩, ?_⟩ | exact .c .d | exact .c (.ptr rfl) | exact .boxD rfl rfl | fail)
        repeat' (first
          | (show VR _ _ _ (_ :: _) _ _ _; first | refine x_opF rfl (by first | exact True.intro | omega) ?_)
          | (show VR _ _ _ [] _ _ _; first | refine vr_nil ?_)
          | (show thenQ _ _ _ _; first | refine q_then_n ?_)
          | refine vc_seq ?_
          | refine vc_region ?_
          | refine vc_block ?_
          | fail)
        refine vc_loopI (ι := Nat) (fun j => stOf [(8, AB false), (11, .c (.ptr 11 0)), (13, AI from'), (19, AD (dus D)), (25, AI (from' + (k : Int))), (171, AD (dus D)), (172, AI D.length), (173, AI j)] [(11, .box (stepSt (runSt s from' k) (from' + k)).cs)]) (fun j => j ≤ D.length) (fun j => D.length - j) 0 (Nat.zero_le _) ?_ ?_
        · refine le_gen0 (fun n => n) ?_ ?_ rfl (by first | rfl | (simp only [wfL, wfs, mpO_namesB, mpO_namesI]; rfl))
          all_goals repeat' (first | exact trivial | refine ⟨⟨_, rfl, ?_⟩, ?_⟩ | exact .c .d | exact .c (.ptr rfl) | exact .boxD rfl rfl | fail)
        · intro j hj
          rcases Nat.lt_or_ge j D.length with hjl | hjg
          · have dlj : decide ((j : Int) < (D.length : Int)) = true := decide_eq_true (by omega)
            have hDj := hD j (by omega)
            have hc := containsf_Pk (stepSt (runSt s from' k) (from' + k)).qu.packets (fun x => decide (x.id = (D.getD j default).id))
            cases hh : (stepSt (runSt s from' k) (from' + k)).qu.packets.any (fun x => decide (x.id = (D.getD j default).id)) with
            | false =>
              rw [hh] at hc
              repeat' (first
                | (show VR _ _ _ (_ :: _) _ _ _; first | refine x_opF rfl (by first | exact True.intro | omega) ?_ | (show VR _ _ _ (⟨_, .call ⟨.value _, _, _⟩, _, _, _, _⟩ :: _) _ _ _; first | refine vr_callU [33] (hc) (gk rfl) rfl (by (repeat' (first | exact .nil | refine .cons ?_ ?_ | exact .of0 (.c .d) | exact .of0 .ep | exact .clo | exact (due1_fnc (by simp) rfl) | exact .of0 (.c .nil) | exact .of0 (.c (cr_rowO (by simp) rfl (by first | rfl | omega) (fun _ => rfl))) | refine .of0 (.agg ?_) | exact .d | exact .nil | exact .of0 (.c (cr_row (by decide) rfl rfl (by repeat' (first | exact trivial | refine ⟨?_, ?_⟩ | rfl)))))) <;> fail) (by first | rfl | exact hfl_O (fun _ => rfl) | exact hfl_O2 rfl (fun _ => rfl)) rfl (by first | rfl | (simp only [wfRes, wfL, wfArgs, wfs, mpO_namesB, mpO_namesI]; rfl)) rfl (by first | exact newB_nil | exact newB_O | ((simp only [newB, List.map_cons, List.map_nil, Blk.shift, rowOf_shift]) <;> rfl) | rfl) rfl ?_) | (show VR _ _ _ (⟨_, .indexAddr _ _ _, _, _, _, _⟩ :: _) _ _ _; first | refine vr_index_rd (gk rfl) rfl rfl rfl rfl rfl (by omega) rfl ?_))
                | (show VR _ _ _ [] _ _ _; first | refine vr_nil ?_)
                | (show thenQ _ _ _ _; first | refine q_then_n ?_)
                | (show blockQ _ _ _ _; first | refine q_blk_n ?_)
                | refine vc_seq ?_
                | refine vc_region ?_
                | (show VC _ (.cond _ _ _) _ _; first | refine vc_cond_t rfl ?_ | refine vc_cond_f rfl ?_ | refine x_know rfl (by assumption) ?_)
                | refine vc_block ?_ | refine vc_skip ?_
                | fail)
              refine ⟨j + 1, by omega, by omega, ?_⟩
              refine le_gen0 (fun n => n) ?_ ?_ rfl (by first | rfl | (simp only [wfL, wfs, mpO_namesB, mpO_namesI]; rfl))
              all_goals repeat' (first | exact trivial | refine ⟨⟨_, rfl, ?_⟩, ?_⟩ | exact .c .d | exact .c (.ptr rfl) | exact .boxD rfl rfl | fail)
            | true =>
              have hf := hany j (by omega) (by rw [hDj] at hh; exact hh)
              have f1 : decide ((D.getD j default).til ≤ from' + (k : Int) + 1) = false := decide_eq_false (by rw [hDj]; show ¬ tilV s gap from' j ≤ _; omega)
              have f2 : decide ((D.getD j default).life ≤ from' + (k : Int)) = false := decide_eq_false (by rw [hDj]; show ¬ (s.qu.packets.getD j default).born + (s.qu.packets.getD j default).life ≤ _; omega)
              rw [hh] at hc
              repeat' (first
                | (show VR _ _ _ (_ :: _) _ _ _; first | refine x_opF rfl (by first | exact True.intro | omega) ?_ | (show VR _ _ _ (⟨_, .call ⟨.value _, _, _⟩, _, _, _, _⟩ :: _) _ _ _; first | refine vr_callU [33] (hc) (gk rfl) rfl (by (repeat' (first | exact .nil | refine .cons ?_ ?_ | exact .of0 (.c .d) | exact .of0 .ep | exact .clo | exact (due1_fnc (by simp) rfl) | exact .of0 (.c .nil) | exact .of0 (.c (cr_rowO (by simp) rfl (by first | rfl | omega) (fun _ => rfl))) | refine .of0 (.agg ?_) | exact .d | exact .nil | exact .of0 (.c (cr_row (by decide) rfl rfl (by repeat' (first | exact trivial | refine ⟨?_, ?_⟩ | rfl)))))) <;> fail) (by first | rfl | exact hfl_O (fun _ => rfl) | exact hfl_O2 rfl (fun _ => rfl)) rfl (by first | rfl | (simp only [wfRes, wfL, wfArgs, wfs, mpO_namesB, mpO_namesI]; rfl)) rfl (by first | exact newB_nil | exact newB_O | ((simp only [newB, List.map_cons, List.map_nil, Blk.shift, rowOf_shift]) <;> rfl) | rfl) rfl ?_) | (show VR _ _ _ (⟨_, .indexAddr _ _ _, _, _, _, _⟩ :: _) _ _ _; first | refine vr_index_rd (gk rfl) rfl rfl rfl rfl rfl (by omega) rfl ?_) | refine x_gknow rfl (by assumption) ?_)
                | (show VR _ _ _ [] _ _ _; first | refine vr_nil ?_)
                | (show thenQ _ _ _ _; first | refine q_then_n ?_)
                | (show blockQ _ _ _ _; first | refine q_blk_n ?_)
                | refine vc_seq ?_
                | refine vc_region ?_
                | (show VC _ (.cond _ _ _) _ _; first | refine vc_cond_t rfl ?_ | refine vc_cond_f rfl ?_ | refine x_know rfl (by assumption) ?_)
                | refine vc_block ?_ | refine vc_skip ?_
                | fail)
              refine ⟨j + 1, by omega, by omega, ?_⟩
              refine le_gen0 (fun n => n) ?_ ?_ rfl (by first | rfl | (simp only [wfL, wfs, mpO_namesB, mpO_namesI]; rfl))
              all_goals repeat' (first | exact trivial | refine ⟨⟨_, rfl, ?_⟩, ?_⟩ | exact .c .d | exact .c (.ptr rfl) | exact .boxD rfl rfl | fail)
          · have dlj : decide ((j : Int) < (D.length : Int)) = false := decide_eq_false (by omega)
            repeat' (first
              | (show VR _ _ _ (_ :: _) _ _ _; first | refine x_opF rfl (by first | exact True.intro | omega) ?_)
              | (show VR _ _ _ [] _ _ _; first | refine vr_nil ?_)
              | (show thenQ _ _ _ _; first | refine q_then_n ?_ | refine q_then_x ?_)
              | (show blockQ _ _ _ _; first | refine q_blk_n ?_ | refine q_blk_x ?_)
              | refine vc_seq ?_
              | refine vc_region ?_
              | (show VC _ (.cond _ _ _) _ _; first | refine vc_cond_f rfl ?_ | refine x_know rfl (by assumption) ?_)
              | refine vc_exit ?_
              | fail)
            refine ⟨k + 1, by omega, by omega, ?_⟩
            rw [show from' + ((k + 1 : Nat) : Int) = from' + (k : Int) + 1 by omega, show runSt s from' (k + 1) = stepSt (runSt s from' k) (from' + k) from rfl]
            refine le_gen0 (fun n => n) ?_ ?_ rfl (by first | rfl | (simp only [wfL, wfs, mpO_namesB, mpO_namesI]; rfl))
            all_goals repeat' (first | exact trivial | refine ⟨⟨_, rfl, ?_⟩, ?_⟩ | exact .c .d | exact .c (.ptr rfl) | exact .boxD rfl rfl | fail)
      · have dlt : decide (from' + (k : Int) < from' + 200) = false := decide_eq_false (by omega)
        repeat' (first
          | (show VR _ _ _ (_ :: _) _ _ _; first | refine x_opF rfl (by first | exact True.intro | omega) ?_)
          | (show VR _ _ _ [] _ _ _; first | refine vr_nil ?_)
          | (show thenQ _ _ _ _; first | refine q_then_n ?_ | refine q_then_x ?_)
          | (show blockQ _ _ _ _; first | refine q_blk_x ?_)
          | refine vc_seq ?_
          | refine vc_region ?_
          | (show VC _ (.cond _ _ _) _ _; first | refine vc_cond_f rfl ?_ | refine x_know rfl (by assumption) ?_)
          | refine vc_ret ?_ | refine vc_exit ?_
          | fail)
        exact ret_bool isRet_r rfl rfl
end Go.Proofs


