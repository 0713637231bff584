/-
  What functions of the given program hand back, by walks over its code, and plain laws on that. No condition.
-/
import Derived.Test.YtecdajajocafdaaSxLibC
import Derived.Test.YtecdajajocafdaaSxT18p
import Derived.Test.YtecdajajocafdaaSxLibB
section
-- SXS
-- SXM
namespace Go.Proofs.Q
open Go Go.Sx
set_option maxRecDepth 4000
set_option linter.unusedSimpArgs false
set_option linter.unusedVariables false
attribute [local irreducible] VR VC thenQ blockQ retL
instance Try.key3 : KeyTy Try.prog 3 1 := keyTy_int (TyOK.int Try.sxty3 rfl)
/-- A packet, a queue, a departure. -/
structure Pk where
  id : Int
  to : Int
  prio : Int
  born : Int
  life : Int
  data : ByteArray
  deriving DecidableEq, Inhabited
def Pk.enc (x : Pk) : List D := [.int .i64 x.id, .int .i64 x.to, .int .i64 x.prio, .int .i64 x.born, .int .i64 x.life, .str x.data]
def Pk.cs (x : Pk) : List C := [.d (.int .i64 x.id), .d (.int .i64 x.to), .d (.int .i64 x.prio), .d (.int .i64 x.born), .d (.int .i64 x.life), .d (.str x.data)]
abbrev pkA (x : Pk) : AV := .agg x.cs
abbrev pks (l : List Pk) : D := rdOf Pk.enc 6 l
instance : FlatE Pk.enc := ⟨fun _ => rfl⟩
structure Dp where
  id : Int
  slot : Int
  dropped : Bool
  deriving DecidableEq, Inhabited
def Dp.enc (x : Dp) : List D := [.int .i64 x.id, .int .i64 x.slot, .bool x.dropped]
def Dp.cs (x : Dp) : List C := [.d (.int .i64 x.id), .d (.int .i64 x.slot), .d (.bool x.dropped)]
abbrev dpA (x : Dp) : AV := .agg x.cs
abbrev dps (l : List Dp) : D := rdOf Dp.enc 3 l
instance : FlatE Dp.enc := ⟨fun _ => rfl⟩
structure Qu where
  limit : Int
  packets : List Pk
  deriving DecidableEq, Inhabited
def Qu.cs (q : Qu) : List C := [.d (.int .i64 q.limit), .d (pks q.packets)]
abbrev quA (q : Qu) : AV := .agg q.cs
def inI (n lo hi : Int) : Bool := decide (lo ≤ n ∧ n ≤ hi)
theorem within_spec (n lo hi : Int) : FnS Try.prog 69 [AI n, AI lo, AI hi] [] (AB (inI n lo hi)) [] := by
  refine FnS.of_body (enters_of Try.func69 (by kernel_rfl) rfl) Try.func69 rfl Try.ntmps69 Try.results69 rfl rfl rfl rfl fun E hS => ?_
  repeat' (first
    | (show VR _ _ _ (_ :: _) _ _ _; first | refine x_opF rfl (by first | exact True.intro | omega) ?_ | (show VR _ _ _ (⟨_, .nilCheck _, _, _, _, _⟩ :: _) _ _ _; first | refine vr_nilCheck_rp (gk rfl) rfl rfl ?_ | refine vr_nilCheck_ptr (gk rfl) rfl rfl ?_ | refine vr_nilCheck_ep (gk rfl) rfl rfl ?_) | (show VR _ _ _ (⟨_, .pick _ _ _, _, _, _, _⟩ :: _) _ _ _; first | refine vr_pick_true (gk rfl) rfl (by assumption) rfl rfl ?_ | refine vr_pick_false (gk rfl) rfl (by assumption) rfl rfl ?_) | refine x_gknow rfl (by assumption) ?_ | (refine x_gsplit rfl ?_ ?_ <;> intro h <;> have hq := h <;> (try simp only [hqs] at hq)))
    | (show VR _ _ _ [] _ _ _; first | refine vr_nil ?_ | refine vr_nil_t (by kernel_rfl) ?_)
    | (show thenQ _ _ _ _; first | refine q_then_n ?_ | refine q_then_x ?_ | refine q_then_r ?_)
    | (show blockQ _ _ _ _; first | refine q_blk_n ?_ | refine q_blk_r ?_ | refine q_blk_x ?_ | refine q_blk_o rfl ?_)
    | refine vc_seq ?_
    | refine vc_region ?_ | refine vc_region_t ?_
    | (show VC _ (.cond _ _ _) _ _; first | refine vc_cond_t rfl ?_ | refine vc_cond_f rfl ?_ | refine x_know rfl (by assumption) ?_ | (refine x_cond rfl ?_ ?_ <;> intro h <;> have hq := h <;> (try simp only [hqs] at hq)))
    | refine vc_ret ?_ | refine vc_exit ?_ | refine vc_block ?_ | refine vc_skip ?_ | refine vc_label ?_)
  all_goals refine ret_bool isRet_r rfl ?_
  all_goals simp_all [inI] <;> omega
def formP (p : Pk) : Int :=
  if p.id < 0 ∨ inI p.to (-1) 31 = false ∨ inI p.prio 0 3 = false ∨ inI p.born 0 1099511627776 = false ∨ inI p.life 1 4096 = false then 2 else if 127 < p.data.size then 8 else 0
theorem form_spec (p : Pk) : FnS Try.prog 34 [pkA p] [] (AI (formP p)) [] := by
  refine FnS.of_body (enters_of Try.func34 (by kernel_rfl) rfl) Try.func34 rfl Try.ntmps34 Try.results34 rfl rfl rfl rfl fun E hS => ?_
  repeat' (first
    | (show VR _ _ _ (_ :: _) _ _ _; first | refine x_opF rfl (by first | exact True.intro | omega) ?_ | (show VR _ _ _ (⟨_, .call ⟨.value _, _, _⟩, _, _, _, _⟩ :: _) _ _ _; first | refine vr_calldU (within_spec _ _ _) (gk rfl) rfl rfl rfl (by first | rfl | (simp only [wfRes, wfL, wfArgs, wfs, mpO_namesB, mpO_namesI]; rfl)) rfl (by first | exact newB_O | rfl) rfl ?_) | (show VR _ _ _ (⟨_, .nilCheck _, _, _, _, _⟩ :: _) _ _ _; first | refine vr_nilCheck_rp (gk rfl) rfl rfl ?_ | refine vr_nilCheck_ptr (gk rfl) rfl rfl ?_ | refine vr_nilCheck_ep (gk rfl) rfl rfl ?_) | (show VR _ _ _ (⟨_, .pick _ _ _, _, _, _, _⟩ :: _) _ _ _; first | refine vr_pick_true (gk rfl) rfl (by assumption) rfl rfl ?_ | refine vr_pick_false (gk rfl) rfl (by assumption) rfl rfl ?_) | refine x_gknow rfl (by assumption) ?_ | (refine x_gsplit rfl ?_ ?_ <;> intro h <;> have hq := h <;> (try simp only [hqs] at hq)))
    | (show VR _ _ _ [] _ _ _; first | refine vr_nil ?_ | refine vr_nil_t (by kernel_rfl) ?_)
    | (show thenQ _ _ _ _; first | refine q_then_n ?_ | refine q_then_x ?_ | refine q_then_r ?_)
    | (show blockQ _ _ _ _; first | refine q_blk_n ?_ | refine q_blk_r ?_ | refine q_blk_x ?_ | refine q_blk_o rfl ?_)
    | refine vc_seq ?_
    | refine vc_region ?_ | refine vc_region_t ?_
    | (show VC _ (.cond _ _ _) _ _; first | refine vc_cond_t rfl ?_ | refine vc_cond_f rfl ?_ | refine x_know rfl (by assumption) ?_ | (refine x_cond rfl ?_ ?_ <;> intro h <;> have hq := h <;> (try simp only [hqs] at hq)))
    | refine vc_ret ?_ | refine vc_exit ?_ | refine vc_block ?_ | refine vc_skip ?_ | refine vc_label ?_)
  all_goals refine ret_int isRet_r rfl ?_
  all_goals unfold formP
  all_goals first
    | (simp_all; done)
    | (simp_all; omega)
    | trace_state
end Go.Proofs.Q
end
section
-- SXS
-- SXM
namespace Go.Proofs.Q
open Go Go.Sx
set_option maxRecDepth 4000
set_option linter.unusedSimpArgs false
set_option linter.unusedVariables false
attribute [local irreducible] VR VC thenQ blockQ retL
def pkErr (l : List Pk) (k : Nat) : Int :=
  if formP (l.getD k default) ≠ 0 then formP (l.getD k default)
  else if ((l.take k).any fun x => decide (x.id = (l.getD k default).id)) = true then 6
  else if 0 < k ∧ (l.getD k default).prio < (l.getD (k - 1) default).prio then 5 else 0
def checkQ (q : Qu) : Int := if inI q.limit 1 64 = false then 2 else if q.limit < q.packets.length then 8 else firstErr q.packets.length (pkErr q.packets)
theorem checkQ_hit {q : Qu} {k : Nat} {e : Int} (h1 : inI q.limit 1 64 = true) (h0 : (q.packets.length : Int) ≤ q.limit) (h : k ≤ q.packets.length ∧ ∀ i, i < k → pkErr q.packets i = 0) (hk : k < q.packets.length) (he : pkErr q.packets k = e) (hne : e ≠ 0) : e = checkQ q := by
  subst he
  rw [checkQ, if_neg (by simp [h1]), if_neg (by omega), firstErr_hit h.2 hk hne]
theorem checkQ_none {q : Qu} {k : Nat} (h1 : inI q.limit 1 64 = true) (h0 : (q.packets.length : Int) ≤ q.limit) (h : k ≤ q.packets.length ∧ ∀ i, i < k → pkErr q.packets i = 0) (hk : q.packets.length ≤ k) : 0 = checkQ q := by
  rw [checkQ, if_neg (by simp [h1]), if_neg (by omega), firstErr_none fun i hi => h.2 i (by omega)]
set_option maxRecDepth 4000 in
set_option maxHeartbeats 200000 in
theorem checkQ_spec (q : Qu) : FnS Try.prog 33 [quA q] [] (AI (checkQ q)) [] := by
  refine FnS.of_body (enters_of Try.func33 (by kernel_rfl) rfl) Try.func33 rfl Try.ntmps33 Try.results33 rfl rfl rfl rfl fun E hS => ?_
  repeat' (first
    | (show VR _ _ _ (_ :: _) _ _ _; first | refine x_opF rfl (by first | exact True.intro | omega) ?_ | (show VR _ _ _ (⟨_, .call ⟨.value _, _, _⟩, _, _, _, _⟩ :: _) _ _ _; first | refine vr_calldU (within_spec _ _ _) (gk rfl) rfl rfl rfl (by first | rfl | (simp only [wfRes, wfL, wfArgs, wfs, mpO_namesB, mpO_namesI]; rfl)) rfl (by first | exact newB_O | rfl) rfl ?_) | (show VR _ _ _ (⟨_, .makeMap _ none, _, _, _, _⟩ :: _) _ _ _; first | refine vr_makeMapB (gk rfl) rfl rfl rfl rfl ?_))
    | (show VR _ _ _ [] _ _ _; first | refine vr_nil ?_)
    | (show thenQ _ _ _ _; first | refine q_then_n ?_ | refine q_then_r ?_)
    | refine vc_seq ?_
    | refine vc_region ?_
    | (show VC _ (.cond _ _ _) _ _; first | (refine x_cond rfl ?_ ?_ <;> intro h <;> have hq := h <;> (try simp only [hqs] at hq)))
    | refine vc_ret ?_ | refine vc_block ?_ | refine vc_skip ?_
    | fail)
  · refine ret_int isRet_r rfl ?_
    rw [checkQ, if_pos hq]
  · refine ret_int isRet_r rfl ?_
    rw [checkQ, if_neg (by simp_all), if_pos (by omega)]
  · have h1 : inI q.limit 1 64 = true := by simp_all
    have h2 : q.limit ≤ 64 := by simp [inI] at h1; omega
    refine vc_loopI (ι := Nat) (fun k => stOf [(1, .c (.ptr 1 0)), (3, .c (.mp 17)), (19, AD (pks q.packets)), (20, AI q.packets.length), (21, AI k)] [(1, .box q.cs), (17, .map (mpO k1 cfB (setO Pk.id (q.packets.take k))))]) (fun k => k ≤ q.packets.length ∧ ∀ i, i < k → pkErr q.packets i = 0) (fun k => q.packets.length - k) 0 ⟨Nat.zero_le _, fun i hi => absurd hi (Nat.not_lt_zero _)⟩ ?_ ?_
    · refine le_gen0 (fun n => n) ?_ ?_ rfl (by first | rfl | (simp only [wfL, wfs, mpO_namesB, mpO_namesI]; rfl))
      all_goals repeat' (first | exact trivial | refine ⟨⟨_, rfl, ?_⟩, ?_⟩ | exact .c .d | exact .c (.ptr rfl) | exact .c (.mp rfl) | exact .boxD rfl rfl | exact .mapO (fun _ => rfl) rfl | fail)
    · intro k hk
      repeat' (first
        | (show VR _ _ _ (_ :: _) _ _ _; first | refine x_opF rfl (by first | exact True.intro | omega) ?_ | (show VR _ _ _ (⟨_, .call ⟨.value _, _, _⟩, _, _, _, _⟩ :: _) _ _ _; first | refine vr_calldU (form_spec _) (gk rfl) rfl rfl rfl (by first | rfl | (simp only [wfRes, wfL, wfArgs, wfs, mpO_namesB, mpO_namesI]; rfl)) rfl (by first | exact newB_O | rfl) rfl ?_) | (show VR _ _ _ (⟨_, .indexAddr _ _ _, _, _, _, _⟩ :: _) _ _ _; first | refine vr_index_rd (gk rfl) rfl rfl rfl rfl rfl (by omega) rfl ?_) | (show VR _ _ _ (⟨_, .lookup _ _ _ _, _, _, _, _⟩ :: _) _ _ _; first | refine vr_lookupB (gk rfl) rfl rfl rfl rfl rfl rfl ?_))
        | (show VR _ _ _ [] _ _ _; first | refine vr_nil ?_)
        | (show thenQ _ _ _ _; first | refine q_then_n ?_ | refine q_then_x ?_ | refine q_then_r ?_)
        | (show blockQ _ _ _ _; first | refine q_blk_r ?_ | refine q_blk_x ?_)
        | (show VC _ (.seq _ _) _ _; (fail_if_success (show VC _ (.seq (.seq (.region 14 _ _) _) _) _ _)); (fail_if_success (show VC _ (.seq (.region 14 _ _) _) _ _)); refine vc_seq ?_)
        | refine vc_region ?_
        | (show VC _ (.cond _ _ _) _ _; first | (refine x_cond rfl ?_ ?_ <;> intro h <;> have hq := h <;> (try simp only [hqs] at hq)))
        | refine vc_ret ?_ | refine vc_exit ?_ | refine vc_block ?_ | refine vc_skip ?_
        | fail)
      · refine ret_int isRet_r rfl ?_
        refine (checkQ_hit (e := formP (q.packets.getD k default)) h1 (by omega) hk (by omega) ?_ hq).symm
        rw [pkErr, if_pos hq]
      · rw [setO_asc] at hq
        refine ret_int isRet_r rfl ?_
        refine (checkQ_hit (e := 6) h1 (by omega) hk (by omega) ?_ (by decide)).symm
        rw [pkErr, if_neg (by omega), if_pos hq]
      · clear h
        rw [setO_asc] at hq
        have ha := hq
        clear hq
        repeat' (first
          | (show VR _ _ _ (_ :: _) _ _ _; first | refine x_opF rfl (by first | exact True.intro | omega) ?_ | (show VR _ _ _ (⟨_, .indexAddr _ _ _, _, _, _, _⟩ :: _) _ _ _; first | refine vr_index_rdP (gk rfl) rfl rfl rfl rfl rfl (by omega) rfl ?_) | (show VR _ _ _ (⟨_, .mapUpdate _ _ _ _, _, _, _, _⟩ :: _) _ _ _; first | refine vr_mapUpdateB (gk rfl) rfl rfl rfl rfl rfl ?_) | (refine x_gsplit rfl ?_ ?_ <;> intro h <;> have hq := h <;> (try simp only [hqs] at hq)))
          | (show VR _ _ _ [] _ _ _; first | refine vr_nil ?_ | refine vr_nil_t (by kernel_rfl) ?_)
          | (show thenQ _ _ _ _; first | refine q_then_n ?_ | refine q_then_r ?_)
          | (show blockQ _ _ _ _; first | refine q_blk_n ?_ | refine q_blk_r ?_)
          | refine vc_seq ?_
          | refine vc_region ?_ | refine vc_region_t ?_
          | (show VC _ (.cond _ _ _) _ _; first | refine vc_cond_f rfl ?_ | (refine x_cond rfl ?_ ?_ <;> intro h <;> have hq := h <;> (try simp only [hqs] at hq)))
          | refine vc_ret ?_ | refine vc_skip ?_
          | fail)
        · refine ret_int isRet_r rfl ?_
          refine (checkQ_hit (e := 5) h1 (by omega) hk (by omega) ?_ (by decide)).symm
          rw [pkErr, if_neg (by omega), if_neg (by rw [ha]; decide), if_pos (by omega)]
        all_goals
          refine ⟨k + 1, ⟨by omega, fun i hi => ?_⟩, by omega, ?_⟩
          · by_cases hik : i < k
            · exact hk.2 i hik
            · have : i = k := by omega
              subst this
              rw [pkErr, if_neg (by omega), if_neg (by rw [ha]; decide), if_neg (by omega)]
          · have e : putA (setO Pk.id (q.packets.take k)) (q.packets.getD k default).id true = setO Pk.id (q.packets.take (k + 1)) := by
              rw [take_getD (by omega)]; exact setO_put ha
            rw [← e]
            refine le_gen0 (fun n => n) ?_ ?_ rfl (by first | rfl | (simp only [wfL, wfs, mpO_namesB, mpO_namesI]; rfl))
            all_goals repeat' (first | exact trivial | refine ⟨⟨_, rfl, ?_⟩, ?_⟩ | exact .c .d | exact .c (.ptr rfl) | exact .c (.mp rfl) | exact .boxD rfl rfl | exact .mapO (fun _ => rfl) rfl | fail)
      · refine ret_int isRet_r rfl ?_
        exact (checkQ_none h1 (by omega) hk (by omega)).symm
end Go.Proofs.Q
end
section
-- SXS
namespace Go.Proofs.Q
open Go Go.Sx
set_option maxRecDepth 4000
set_option linter.unusedSimpArgs false
set_option linter.unusedVariables false
attribute [local irreducible] VR VC thenQ blockQ retL
abbrev predφPk (p : Pk → Bool) : List DV → DV → Prop := fun ds r => ∃ x : Pk, ds = [.agg x.enc] ∧ r = .d (.bool (p x))
theorem idxf_Pk (l : List Pk) (p : Pk → Bool) : FnS Try.prog 37 [AD (pks l), .clo (predφPk p)] [] (AI (oI (fstO l p))) [] := by
  refine FnS.of_body (enters_of Try.func37 (by kernel_rfl) rfl) Try.func37 rfl Try.ntmps37 Try.results37 rfl rfl rfl rfl fun E hS => ?_
  refine vc_bound (t := 0) rfl fun hb => ?_
  repeat' (first
    | (show VR _ _ _ (_ :: _) _ _ _; first | refine x_opF rfl (by first | exact True.intro | omega) ?_)
    | (show VR _ _ _ [] _ _ _; first | refine vr_nil ?_)
    | (show thenQ _ _ _ _; first | refine q_then_n ?_)
    | refine vc_seq ?_
    | refine vc_region ?_
    | refine vc_block ?_
    | fail)
  refine vc_loopI (ι := Nat) (fun k => stOf [(0, AD (pks l)), (1, .clo (predφPk p)), (7, AI l.length), (8, AI k)] []) (fun k => k ≤ l.length ∧ ∀ i, i < k → p (l.getD i default) = false) (fun k => l.length - k) 0 ⟨Nat.zero_le _, fun i hi => absurd hi (Nat.not_lt_zero _)⟩ ?_ ?_
  · exact le_of ⟨rfl, rfl, rfl, rfl, trivial⟩ trivial rfl
  · intro k hk
    repeat' (first
      | (show VR _ _ _ (_ :: _) _ _ _; first | refine x_opF rfl (by first | exact True.intro | omega) ?_ | (show VR _ _ _ (⟨_, .call ⟨.value _, _, _⟩, _, _, _, _⟩ :: _) _ _ _; first | refine vr_clo (⟨_, rfl, rfl⟩) (gk rfl) rfl rfl rfl rfl ?_) | (show VR _ _ _ (⟨_, .indexAddr _ _ _, _, _, _, _⟩ :: _) _ _ _; first | refine vr_index_rd (gk rfl) rfl rfl rfl rfl rfl (by omega) rfl ?_))
      | (show VR _ _ _ [] _ _ _; first | refine vr_nil ?_)
      | (show thenQ _ _ _ _; first | refine q_then_n ?_ | refine q_then_x ?_ | refine q_then_r ?_)
      | (show blockQ _ _ _ _; first | refine q_blk_n ?_ | refine q_blk_r ?_ | refine q_blk_x ?_)
      | refine vc_seq ?_
      | refine vc_region ?_
      | (show VC _ (.cond _ _ _) _ _; first | (refine x_cond rfl ?_ ?_ <;> intro h <;> have hq := h <;> (try simp only [hqs] at hq)))
      | refine vc_ret ?_ | refine vc_exit ?_ | refine vc_block ?_ | refine vc_skip ?_
      | fail)
    · refine ret_int isRet_r rfl ?_
      rw [fstO_hit hk.2 (by omega) h]; rfl
    · refine ⟨k + 1, ⟨by omega, fun i hi => ?_⟩, by omega, le_of ⟨rfl, rfl, rfl, rfl, trivial⟩ trivial rfl⟩
      by_cases hik : i < k
      · exact hk.2 i hik
      · have : i = k := by omega
        subst this
        exact h
    · refine ret_int isRet_r rfl ?_
      have : k = l.length := by omega
      subst this
      rw [fstO_none hk.2]; rfl
theorem containsf_Pk (l : List Pk) (p : Pk → Bool) : FnS Try.prog 65 [AD (pks l), .clo (predφPk p)] [] (AB (l.any p)) [] := by
  refine FnS.of_body (enters_of Try.func65 (by kernel_rfl) rfl) Try.func65 rfl Try.ntmps65 Try.results65 rfl rfl rfl rfl fun E hS => ?_
  repeat' (first
    | (show VR _ _ _ (_ :: _) _ _ _; first | refine x_opF rfl (by first | exact True.intro | omega) ?_ | (show VR _ _ _ (⟨_, .call ⟨.value _, _, _⟩, _, _, _, _⟩ :: _) _ _ _; first | refine vr_callU [] (idxf_Pk l p) (gk rfl) rfl (by (repeat' (first | exact .nil | refine .cons ?_ ?_ | exact .of0 (.c .d) | exact .of0 .ep | exact .clo | exact .of0 (.c .nil) | exact .of0 (.c (cr_rowO (by simp) rfl (by first | rfl | omega) (fun _ => rfl))) | refine .of0 (.agg ?_) | exact .d | exact .nil | exact .of0 (.c (cr_row (by decide) rfl rfl (by repeat' (first | exact trivial | refine ⟨?_, ?_⟩ | rfl)))))) <;> fail) (by first | rfl | exact hfl_O (fun _ => rfl) | exact hfl_O2 rfl (fun _ => rfl)) rfl (by first | rfl | (simp only [wfRes, wfL, wfArgs, wfs]; rfl)) rfl (by first | exact newB_O | rfl) rfl ?_))
    | (show VR _ _ _ [] _ _ _; first | refine vr_nil ?_)
    | (show thenQ _ _ _ _; first | refine q_then_n ?_)
    | refine vc_seq ?_
    | refine vc_region ?_
    | refine vc_ret ?_
    | fail)
  all_goals exact ret_bool isRet_r rfl (fstO_any _ _).symm
theorem clone_Pk (l : List Pk) (hl : l.length ≤ 100000) : FnS Try.prog 36 [AD (pks l)] [] (.c (.row 7 l.length)) [(7, .row 42 6 (rowOf Pk.enc l))] := by
  refine FnS.of_body (enters_of Try.func36 (by kernel_rfl) rfl) Try.func36 rfl Try.ntmps36 Try.results36 rfl rfl rfl rfl fun E hS => ?_
  refine vc_retL ?_
  repeat' (first
    | (show VR _ _ _ (_ :: _) _ _ _; first | refine x_opF rfl (by first | exact True.intro | omega) ?_)
    | (show VR _ _ _ [] _ _ _; first | refine vr_nil ?_)
    | (show thenQ _ _ _ _; first | refine q_then_n ?_)
    | (show VC _ (.seq _ _) _ _; (fail_if_success (show VC _ (.seq (.seq (.region 1 _ _) _) _) _ _)); (fail_if_success (show VC _ (.seq (.region 1 _ _) _) _ _)); refine vc_seq ?_)
    | refine vc_region ?_
    | fail)
  refine vc_seq ?_
  refine vc_seq ?_
  refine vc_isnil rfl rfl rfl rfl fun b hb => ?_
  repeat' (first
    | (show VR _ _ _ (_ :: _) _ _ _; first | refine x_opF rfl (by first | exact True.intro | omega) ?_ | (show VR _ _ _ (⟨_, .call ⟨.builtin .append, _, _⟩, _, _, _, _⟩ :: _) _ _ _; first | refine vr_append0 (gk rfl) rfl rfl rfl (by first | rfl | exact rowOf_length.symm | (simp only [lns] <;> omega)) (by first | exact .row rfl (by first | rfl | exact rowOf_length.symm) | exact .rd | exact .nils) rfl rfl rfl (by (try dsimp only); omega) rfl rfl ?_))
    | (show VR _ _ _ [] _ _ _; first | refine vr_nil ?_)
    | (show thenQ _ _ _ _; first | refine q_then_n ?_ | refine q_then_r ?_)
    | refine vc_seq ?_
    | refine vc_region ?_
    | (show VC _ (.cond _ _ _) _ _; first | (refine x_cond rfl ?_ ?_ <;> intro h <;> have hq := h <;> (try simp only [hqs] at hq)))
    | refine vc_ret ?_ | refine vc_skip ?_
    | fail)
  · have h0 : l = [] := List.eq_nil_of_length_eq_zero (hb (by assumption))
    subst h0
    exact retL_of (le_nil (T := 42) (sz := 6) (nm := 7) (t := 2) rfl rfl) (ret_row isRet_r rfl rfl)
  · refine retL_of (le_gen0 (l := [(2, .c (.row 7 l.length))]) (b := [(7, .row 42 6 (rowOf Pk.enc l))]) (fun n => n) ⟨⟨_, rfl, .c (.row rfl (by simp))⟩, trivial⟩ ⟨⟨_, rfl, .rowD ?_ rowOf_isD⟩, trivial⟩ rfl (by simp only [wfL, wfs]; rfl)) (ret_row isRet_r rfl rfl)
    exact (List.nil_append _).trans (rd_rowOf (enc := Pk.enc) (sz := 6) fun _ => rfl)
instance ovl_Pk : Overlaps Try.prog 71 :=
  ⟨29, 4, 42, 6, TyOK.slice Try.sxty29 rfl, fun w => TyOK.run_size Try.sxty42 w, fun args w => run_callFunc_extern Try.func71 (by kernel_rfl) (by kernel_rfl) (by kernel_rfl) (by kernel_rfl) args w⟩
abbrev Pk1 (x : Pk) : D := .rd 1 6 fun _ j => (Pk.enc x).getD j .nils
theorem ins_row_Pk (l : List Pk) (i : Nat) (x : Pk) : rowOf Pk.enc (insAt l i x) = List.take i (rowOf Pk.enc l) ++ (Pk.enc x).map C.d :: List.drop i (rowOf Pk.enc l) := by
  rw [insAt, rowOf_append, rowOf_take, rowOf_drop]
  rfl
theorem insert_Pk (l : List Pk) (i : Nat) (x : Pk) (hl : l.length ≤ 100000) (hi : i ≤ l.length) : FnS Try.prog 39 [.c (.row 0 l.length), AI i, AD (Pk1 x)] [(0, .row 42 6 (rowOf Pk.enc l))]
    (.c (.row 1 (l.length + 1))) [(1, .row 42 6 (rowOf Pk.enc (insAt l i x)))] := by
  refine FnS.of_bodyM (enters_of Try.func39 (by kernel_rfl) rfl) Try.func39 rfl Try.ntmps39 Try.results39 rfl (by first | rfl | (simp only [wfRes, wfL, wfArgs, wfs]; rfl)) rfl fun E => ?_
  refine vc_retL ?_
  repeat' (first
    | (show VR _ _ _ (_ :: _) _ _ _; first | refine x_opF rfl (by first | exact True.intro | omega) ?_ | (show VR _ _ _ (⟨_, .call ⟨.builtin .len, _, _⟩, _, _, _, _⟩ :: _) _ _ _; first | refine vr_len_row (gk rfl) rfl rfl (by first | rfl | exact rowOf_length.symm | (simp only [lns] <;> omega)) rfl rfl ?_) | (show VR _ _ _ (⟨_, .call ⟨.builtin .append, _, _⟩, _, _, _, _⟩ :: _) _ _ _; first | refine vr_append0 (gk rfl) rfl rfl rfl (by first | rfl | exact rowOf_length.symm | (simp only [lns] <;> omega)) (by first | exact .row rfl (by first | rfl | exact rowOf_length.symm) | exact .rd | exact .nils) rfl rfl rfl (by (try dsimp only); omega) rfl rfl ?_) | (show VR _ _ _ (⟨_, .slice _ _ _ _ _, _, _, _, _⟩ :: _) _ _ _; first | refine vr_slice_sub (gk rfl) rfl rfl (by first | exact .row | exact .full) rfl rfl (by first | exact .no | exact .int rfl rfl | exact .nat rfl (by omega)) (by first | exact .no | exact .int rfl rfl | exact .nat rfl (by omega)) (by first | omega | (simp only [lns]; omega)) (by first | omega | (simp only [lns]; omega)) (by first | omega | (simp only [lns]; omega)) rfl ?_))
    | (show VR _ _ _ [] _ _ _; first | refine vr_nil ?_)
    | (show thenQ _ _ _ _; first | refine q_then_n ?_ | refine q_then_r ?_)
    | (show VC _ (.seq _ _) _ _; (fail_if_success (show VC _ (.seq (.seq (.region 8 _ _) _) _) _ _)); (fail_if_success (show VC _ (.seq (.region 8 _ _) _) _ _)); refine vc_seq ?_)
    | refine vc_region ?_
    | (show VC _ (.cond _ _ _) _ _; first | refine vc_cond_f rfl ?_ | (refine x_cond rfl ?_ ?_ <;> intro h <;> have hq := h <;> (try simp only [hqs] at hq)))
    | refine vc_ret ?_ | refine vc_skip ?_
    | fail)
  · have e : i = l.length := by omega
    subst e
    refine retL_of (le_gen0 (l := [(6, .c (.row 1 (l.length + 1)))]) (b := [(1, .row 42 6 (rowOf Pk.enc (insAt l l.length x)))]) (fun n => if n = 1 then 25 else n) ⟨⟨_, rfl, .c (.row rfl rfl)⟩, trivial⟩
      ⟨⟨_, rfl, .rowD ?_ rowOf_isD⟩, trivial⟩ rfl (by simp only [wfL, wfs]; rfl)) (ret_row isRet_r rfl rfl)
    rw [insAt, List.take_length, List.drop_length, rowOf_append]
    rfl
  · refine vc_open (nm := 0) rfl (rowOf_ne (by omega)) fun cp spare hcp hmax => ?_
    rw [rowOf_length] at hcp
    repeat' (first
      | (show VR _ _ _ (_ :: _) _ _ _; first | refine x_opF rfl (by first | exact True.intro | omega) ?_ | (show VR _ _ _ (⟨_, .call ⟨.value _, _, _⟩, _, _, _, _⟩ :: _) _ _ _; first | refine vr_overlaps (gk rfl) rfl rfl rfl (by first | exact .row | exact .full) (by omega) rfl rfl rfl ?_) | (show VR _ _ _ (⟨_, .call ⟨.builtin .append, _, _⟩, _, _, _, _⟩ :: _) _ _ _; first | refine vr_append_zerosN (gk rfl) rfl rfl rfl rfl rfl rfl rfl rfl rfl rfl (by omega) (by first | omega | (simp only [lns]; omega)) (by first | omega | (simp only [lns]; omega)) (by (try dsimp only); omega) rfl rfl ?_) | (show VR _ _ _ (⟨_, .slice _ _ _ _ _, _, _, _, _⟩ :: _) _ _ _; first | refine vr_slice_head (gk rfl) rfl rfl (by first | exact .row | exact .full) rfl rfl (by first | exact .no | exact .int rfl rfl | exact .nat rfl (by omega)) (by first | omega | (simp only [lns]; omega)) (by first | omega | (simp only [lns]; omega)) rfl ?_ | refine vr_slice_sub (gk rfl) rfl rfl (by first | exact .row | exact .full) rfl rfl (by first | exact .no | exact .int rfl rfl | exact .nat rfl (by omega)) (by first | exact .no | exact .int rfl rfl | exact .nat rfl (by omega)) (by first | omega | (simp only [lns]; omega)) (by first | omega | (simp only [lns]; omega)) (by first | omega | (simp only [lns]; omega)) rfl ?_) | (show VR _ _ _ (⟨_, .call ⟨.builtin .copy, _, _⟩, _, _, _, _⟩ :: _) _ _ _; first | refine vr_copy (gk rfl) rfl rfl (by first | exact .row | exact .sub) rfl (by first | exact .src .rd | exact .src .nils | exact .src (.row rfl (by first | exact .row | exact .full) (by first | omega | (simp only [lns]; omega))) | exact .src (.sub rfl (by first | exact .row | exact .full) (by first | omega | (simp only [lns]; omega))) | exact .tail rfl (by first | omega | (simp only [lns]; omega)) (by first | omega | (simp only [lns]; omega))) rfl rfl rfl (by first | omega | (simp only [lns]; omega)) (by first | omega | (simp only [lns]; omega)) rfl ?_) | (show VR _ _ _ (⟨_, .call ⟨.builtin .cap, _, _⟩, _, _, _, _⟩ :: _) _ _ _; first | refine vr_cap_full (gk rfl) rfl rfl rfl rfl ?_))
      | (show VR _ _ _ [] _ _ _; first | refine vr_nil ?_ | refine vr_nil_t (by kernel_rfl) ?_)
      | (show thenQ _ _ _ _; first | refine q_then_n ?_ | refine q_then_r ?_)
      | (show VC _ (.seq _ _) _ _; (fail_if_success (show VC _ (.seq (.seq (.region 10 _ _) _) _) _ _)); (fail_if_success (show VC _ (.seq (.region 10 _ _) _) _ _)); refine vc_seq ?_)
      | refine vc_region ?_ | refine vc_region_t ?_
      | (show VC _ (.cond _ _ _) _ _; first | refine vc_cond_t rfl ?_ | (refine x_cond rfl ?_ ?_ <;> intro h <;> have hq := h <;> (try simp only [hqs] at hq)))
      | refine vc_ret ?_ | refine vc_skip ?_
      | fail)
    · have hq1 : ((l.length : Int) + (1 : Nat) - i).toNat = l.length + 1 - i := by omega
      refine vc_open (nm := 40) rfl (by
        intro e
        have := congrArg List.length e
        rw [List.length_append, List.length_replicate] at this
        change _ + _ = 0 at this
        omega) fun cp2 spare2 hcp2 hmax2 => ?_
      rw [List.length_append, List.length_replicate, List.length_take, rowOf_length] at hcp2
      repeat' (first
        | (show VR _ _ _ (_ :: _) _ _ _; first | refine x_opF rfl (by first | exact True.intro | omega) ?_ | (show VR _ _ _ (⟨_, .slice _ _ _ _ _, _, _, _, _⟩ :: _) _ _ _; first | refine vr_slice_sub (gk rfl) rfl rfl (by first | exact .row | exact .full) rfl rfl (by first | exact .no | exact .int rfl rfl | exact .nat rfl (by omega)) (by first | exact .no | exact .int rfl rfl | exact .nat rfl (by omega)) (by first | omega | (simp only [lns]; omega)) (by first | omega | (simp only [lns]; omega)) (by first | omega | (simp only [lns]; omega)) rfl ?_) | (show VR _ _ _ (⟨_, .call ⟨.builtin .copy, _, _⟩, _, _, _, _⟩ :: _) _ _ _; first | refine vr_copy (gk rfl) rfl rfl (by first | exact .row | exact .sub) rfl (by first | exact .src .rd | exact .src .nils | exact .src (.row rfl (by first | exact .row | exact .full) (by first | omega | (simp only [lns]; omega))) | exact .src (.sub rfl (by first | exact .row | exact .full) (by first | omega | (simp only [lns]; omega))) | exact .tail rfl (by first | omega | (simp only [lns]; omega)) (by first | omega | (simp only [lns]; omega))) rfl rfl rfl (by first | omega | (simp only [lns]; omega)) (by first | omega | (simp only [lns]; omega)) rfl ?_))
        | (show VR _ _ _ [] _ _ _; first | refine vr_nil ?_ | refine vr_nil_t (by kernel_rfl) ?_)
        | (show thenQ _ _ _ _; first | refine q_then_n ?_ | refine q_then_r ?_)
        | refine vc_seq ?_
        | refine vc_region ?_ | refine vc_region_t ?_
        | refine vc_ret ?_
        | fail)
      refine retL_of (le_gen0 (l := [(6, .c (.row 1 (l.length + 1)))]) (b := [(1, .row 42 6 (rowOf Pk.enc (insAt l i x)))]) (fun n => if n = 1 then 40 else n) ⟨⟨_, rfl, .c (.row rfl (by omega))⟩, trivial⟩
        ⟨⟨_, rfl, .shutO (l.length + 1) ?_⟩, trivial⟩ rfl (by simp only [wfL, wfs]; rfl)) (ret_row isRet_r rfl rfl)
      rw [hq1, show min 1 (i + (l.length + 1 - i) - i) = 1 by omega, show min (l.length - i) (i + (l.length + 1 - i) - (i + 1)) = l.length - i by omega]
      exact (ins_grow (y := (Pk.enc x).map C.d) (rowOf_length (enc := Pk.enc)) (by omega) rfl).trans (ins_row_Pk l i x).symm
    · refine retL_of (le_gen0 (l := [(6, .c (.row 1 (l.length + 1)))]) (b := [(1, .row 42 6 (rowOf Pk.enc (insAt l i x)))]) (fun n => if n = 1 then 0 else n) ⟨⟨_, rfl, .c (.row rfl rfl)⟩, trivial⟩
        ⟨⟨_, rfl, .shutO (l.length + 1) ?_⟩, trivial⟩ rfl (by simp only [wfL, wfs]; rfl)) (ret_row isRet_r rfl rfl)
      rw [show min 1 (l.length + 1 - i) = 1 by omega, show min (l.length + 1 - i) (l.length + 1 - (i + 1)) = l.length - i by omega]
      exact (ins_room (y := (Pk.enc x).map C.d) (rowOf_length (enc := Pk.enc)) (by omega)).trans (ins_row_Pk l i x).symm
theorem delete_Pk (l : List Pk) (i : Nat) (hi : i < l.length) (hl : l.length ≤ 100000) : FnS Try.prog 96 [.c (.row 0 l.length), AI i, AI (i + 1 : Int)] [(0, .row 42 6 (rowOf Pk.enc l))]
    (.c (.row 0 (l.length - 1))) [(0, .row 42 6 (rowOf Pk.enc (l.eraseIdx i)))] := by
  refine FnS.of_bodyM (enters_of Try.func96 (by kernel_rfl) rfl) Try.func96 rfl Try.ntmps96 Try.results96 rfl (by first | rfl | (simp only [wfRes, wfL, wfArgs, wfs]; rfl)) rfl fun E => ?_
  refine vc_retL ?_
  refine vc_open (nm := 0) rfl (rowOf_ne (by omega)) fun cp spare hcp hmax => ?_
  rw [rowOf_length] at hcp
  repeat' (first
    | (show VR _ _ _ (_ :: _) _ _ _; first | refine x_opF rfl (by first | exact True.intro | omega) ?_ | (show VR _ _ _ (⟨_, .call ⟨.builtin .len, _, _⟩, _, _, _, _⟩ :: _) _ _ _; first | refine vr_len_full (gk rfl) rfl rfl rfl rfl ?_) | (show VR _ _ _ (⟨_, .call ⟨.builtin .append, _, _⟩, _, _, _, _⟩ :: _) _ _ _; first | refine vr_append_full (gk rfl) rfl rfl rfl (by first | exact .rd | exact .nils | exact .row rfl (by first | exact .row | exact .full) (by first | omega | (simp only [lns]; omega)) | exact .sub rfl (by first | exact .row | exact .full) (by first | omega | (simp only [lns]; omega))) rfl rfl (by first | omega | (simp only [lns]; omega)) (by first | omega | (simp only [lns]; omega)) rfl ?_) | (show VR _ _ _ (⟨_, .slice _ _ _ _ (some _), _, _, _, _⟩ :: _) _ _ _; first | refine vr_slice_max (gk rfl) rfl rfl rfl rfl (by first | exact .no | exact .int rfl rfl | exact .nat rfl (by omega)) (by first | exact .no | exact .int rfl rfl | exact .nat rfl (by omega)) (by first | exact .no | exact .int rfl rfl | exact .nat rfl (by omega)) (by first | omega | (simp only [lns]; omega)) (by first | omega | (simp only [lns]; omega)) (by first | omega | (simp only [lns]; omega)) rfl ?_) | (show VR _ _ _ (⟨_, .slice _ _ _ _ _, _, _, _, _⟩ :: _) _ _ _; first | refine vr_slice_head (gk rfl) rfl rfl (by first | exact .row | exact .full) rfl rfl (by first | exact .no | exact .int rfl rfl | exact .nat rfl (by omega)) (by first | omega | (simp only [lns]; omega)) (by first | omega | (simp only [lns]; omega)) rfl ?_ | refine vr_slice_sub (gk rfl) rfl rfl (by first | exact .row | exact .full) rfl rfl (by first | exact .no | exact .int rfl rfl | exact .nat rfl (by omega)) (by first | exact .no | exact .int rfl rfl | exact .nat rfl (by omega)) (by first | omega | (simp only [lns]; omega)) (by first | omega | (simp only [lns]; omega)) (by first | omega | (simp only [lns]; omega)) rfl ?_) | (show VR _ _ _ (⟨_, .call ⟨.builtin .clear, _, _⟩, _, _, _, _⟩ :: _) _ _ _; first | refine vr_clear (gk rfl) rfl (by first | exact .row | exact .sub) rfl rfl rfl rfl rfl (by first | omega | (simp only [lns]; omega)) ?_))
    | (show VR _ _ _ [] _ _ _; first | refine vr_nil ?_ | refine vr_nil_t (by kernel_rfl) ?_)
    | (show thenQ _ _ _ _; first | refine q_then_n ?_ | refine q_then_r ?_)
    | refine vc_seq ?_
    | refine vc_region ?_ | refine vc_region_t ?_
    | (show VC _ (.cond _ _ _) _ _; first | (refine x_cond rfl ?_ ?_ <;> intro h <;> have hq := h <;> (try simp only [hqs] at hq)))
    | refine vc_ret ?_ | refine vc_skip ?_
    | fail)
  · exfalso; omega
  · have e1 : i + (l.length - (i + 1)) = l.length - 1 := by omega
    have e2 : (l.eraseIdx i).length = l.length - 1 := List.length_eraseIdx_of_lt hi
    refine retL_of (le_gen0 (l := [(6, .c (.row 0 (l.length - 1)))]) (b := [(0, .row 42 6 (rowOf Pk.enc (l.eraseIdx i)))]) (fun n => n) ⟨⟨_, rfl, .c (.row rfl e1)⟩, trivial⟩ ⟨⟨_, rfl, .shutO (l.length - 1) ?_⟩, trivial⟩ rfl (by simp only [wfL, wfs]; rfl)) (ret_row isRet_r rfl rfl)
    rw [e1]
    exact del_row (rowOf_length (enc := Pk.enc)) hi
abbrev predφDp (p : Dp → Bool) : List DV → DV → Prop := fun ds r => ∃ x : Dp, ds = [.agg x.enc] ∧ r = .d (.bool (p x))
end Go.Proofs.Q
end
section
-- SXS
namespace Go.Proofs.Q
open Go Go.Sx
set_option maxRecDepth 4000
set_option linter.unusedSimpArgs false
set_option linter.unusedVariables false
attribute [local irreducible] VR VC thenQ blockQ retL
/-! Predicates that the program hands on. -/
theorem idx1_spec (x : Pk) (t : Int) : FnS Try.prog 70 [pkA x, .ep (fun _ => .int .i64 t) 1] [] (AB (decide (x.id = t))) [] := by
  refine FnS.of_body (enters_of Try.func70 (by kernel_rfl) rfl) Try.func70 rfl Try.ntmps70 Try.results70 rfl rfl rfl rfl fun E hS => ?_
  repeat' (first
    | (show VR _ _ _ (_ :: _) _ _ _; first | refine x_opF rfl (by first | exact True.intro | omega) ?_ | (show VR _ _ _ (⟨_, .nilCheck _, _, _, _, _⟩ :: _) _ _ _; first | refine vr_nilCheck_rp (gk rfl) rfl rfl ?_ | refine vr_nilCheck_ptr (gk rfl) rfl rfl ?_ | refine vr_nilCheck_ep (gk rfl) rfl rfl ?_) | refine x_gknow rfl (by assumption) ?_ | (refine x_gsplit rfl ?_ ?_ <;> intro h <;> have hq := h <;> (try simp only [hqs] at hq)))
    | (show VR _ _ _ [] _ _ _; first | refine vr_nil ?_ | refine vr_nil_t (by kernel_rfl) ?_)
    | (show thenQ _ _ _ _; first | refine q_then_n ?_ | refine q_then_x ?_ | refine q_then_r ?_)
    | (show blockQ _ _ _ _; first | refine q_blk_n ?_ | refine q_blk_r ?_ | refine q_blk_x ?_ | refine q_blk_o rfl ?_)
    | refine vc_seq ?_
    | refine vc_region ?_ | refine vc_region_t ?_
    | (show VC _ (.cond _ _ _) _ _; first | refine vc_cond_t rfl ?_ | refine vc_cond_f rfl ?_ | refine x_know rfl (by assumption) ?_ | (refine x_cond rfl ?_ ?_ <;> intro h <;> have hq := h <;> (try simp only [hqs] at hq)))
    | refine vc_ret ?_ | refine vc_exit ?_ | refine vc_block ?_ | refine vc_skip ?_ | refine vc_label ?_)
  all_goals exact ret_bool isRet_r rfl rfl
theorem idx1_fnc {σ : St} {t : Int} {n1 : Nat} {L : List Nat} (hL : n1 ∈ L) (h1 : σ (.b n1) = some (.k (.box [.d (.int .i64 t)]))) : AR Try.prog σ L (.fnc 70 [.ptr n1 0]) (.clo (predφPk fun x => decide (x.id = t))) :=
  .fnc (eps := [.ep (fun _ => .int .i64 t) 1]) (.cons (.ptr hL h1 (fun j hj => by
    have : j = 0 := by omega
    subst this; rfl)) .nil) (enters_of Try.func70 (by kernel_rfl) rfl)
    (by rintro _ _ ⟨x, rfl, rfl⟩; exact ⟨rfl, idx1_spec x t⟩)
theorem first1_spec (x : Pk) (t : Int) : FnS Try.prog 100 [pkA x, .ep (fun _ => .int .i64 t) 1] [] (AB (decide (x.to = t))) [] := by
  refine FnS.of_body (enters_of Try.func100 (by kernel_rfl) rfl) Try.func100 rfl Try.ntmps100 Try.results100 rfl rfl rfl rfl fun E hS => ?_
  repeat' (first
    | (show VR _ _ _ (_ :: _) _ _ _; first | refine x_opF rfl (by first | exact True.intro | omega) ?_ | (show VR _ _ _ (⟨_, .nilCheck _, _, _, _, _⟩ :: _) _ _ _; first | refine vr_nilCheck_rp (gk rfl) rfl rfl ?_ | refine vr_nilCheck_ptr (gk rfl) rfl rfl ?_ | refine vr_nilCheck_ep (gk rfl) rfl rfl ?_) | refine x_gknow rfl (by assumption) ?_ | (refine x_gsplit rfl ?_ ?_ <;> intro h <;> have hq := h <;> (try simp only [hqs] at hq)))
    | (show VR _ _ _ [] _ _ _; first | refine vr_nil ?_ | refine vr_nil_t (by kernel_rfl) ?_)
    | (show thenQ _ _ _ _; first | refine q_then_n ?_ | refine q_then_x ?_ | refine q_then_r ?_)
    | (show blockQ _ _ _ _; first | refine q_blk_n ?_ | refine q_blk_r ?_ | refine q_blk_x ?_ | refine q_blk_o rfl ?_)
    | refine vc_seq ?_
    | refine vc_region ?_ | refine vc_region_t ?_
    | (show VC _ (.cond _ _ _) _ _; first | refine vc_cond_t rfl ?_ | refine vc_cond_f rfl ?_ | refine x_know rfl (by assumption) ?_ | (refine x_cond rfl ?_ ?_ <;> intro h <;> have hq := h <;> (try simp only [hqs] at hq)))
    | refine vc_ret ?_ | refine vc_exit ?_ | refine vc_block ?_ | refine vc_skip ?_ | refine vc_label ?_)
  all_goals exact ret_bool isRet_r rfl rfl
theorem first1_fnc {σ : St} {t : Int} {n1 : Nat} {L : List Nat} (hL : n1 ∈ L) (h1 : σ (.b n1) = some (.k (.box [.d (.int .i64 t)]))) : AR Try.prog σ L (.fnc 100 [.ptr n1 0]) (.clo (predφPk fun x => decide (x.to = t))) :=
  .fnc (eps := [.ep (fun _ => .int .i64 t) 1]) (.cons (.ptr hL h1 (fun j hj => by
    have : j = 0 := by omega
    subst this; rfl)) .nil) (enters_of Try.func100 (by kernel_rfl) rfl)
    (by rintro _ _ ⟨x, rfl, rfl⟩; exact ⟨rfl, first1_spec x t⟩)
theorem put1_spec (x p : Pk) : FnS Try.prog 38 [pkA x, .ep (fun j => p.enc.getD j .nils) 6] [] (AB (decide (p.prio < x.prio))) [] := by
  refine FnS.of_body (enters_of Try.func38 (by kernel_rfl) rfl) Try.func38 rfl Try.ntmps38 Try.results38 rfl rfl rfl rfl fun E hS => ?_
  repeat' (first
    | (show VR _ _ _ (_ :: _) _ _ _; first | refine x_opF rfl (by first | exact True.intro | omega) ?_ | (show VR _ _ _ (⟨_, .nilCheck _, _, _, _, _⟩ :: _) _ _ _; first | refine vr_nilCheck_rp (gk rfl) rfl rfl ?_ | refine vr_nilCheck_ptr (gk rfl) rfl rfl ?_ | refine vr_nilCheck_ep (gk rfl) rfl rfl ?_) | refine x_gknow rfl (by assumption) ?_ | (refine x_gsplit rfl ?_ ?_ <;> intro h <;> have hq := h <;> (try simp only [hqs] at hq)))
    | (show VR _ _ _ [] _ _ _; first | refine vr_nil ?_ | refine vr_nil_t (by kernel_rfl) ?_)
    | (show thenQ _ _ _ _; first | refine q_then_n ?_ | refine q_then_x ?_ | refine q_then_r ?_)
    | (show blockQ _ _ _ _; first | refine q_blk_n ?_ | refine q_blk_r ?_ | refine q_blk_x ?_ | refine q_blk_o rfl ?_)
    | refine vc_seq ?_
    | refine vc_region ?_ | refine vc_region_t ?_
    | (show VC _ (.cond _ _ _) _ _; first | refine vc_cond_t rfl ?_ | refine vc_cond_f rfl ?_ | refine x_know rfl (by assumption) ?_ | (refine x_cond rfl ?_ ?_ <;> intro h <;> have hq := h <;> (try simp only [hqs] at hq)))
    | refine vc_ret ?_ | refine vc_exit ?_ | refine vc_block ?_ | refine vc_skip ?_ | refine vc_label ?_)
  all_goals exact ret_bool isRet_r rfl rfl
theorem put1_fnc {σ : St} {p : Pk} {n1 : Nat} {L : List Nat} (hL : n1 ∈ L) (h1 : σ (.b n1) = some (.k (.box p.cs))) : AR Try.prog σ L (.fnc 38 [.ptr n1 0]) (.clo (predφPk fun x => decide (p.prio < x.prio))) :=
  .fnc (eps := [.ep (fun j => p.enc.getD j .nils) 6]) (.cons (.ptr hL h1 (fun j hj => by
    have : j = 0 ∨ j = 1 ∨ j = 2 ∨ j = 3 ∨ j = 4 ∨ j = 5 := by omega
    rcases this with rfl | rfl | rfl | rfl | rfl | rfl <;> rfl)) .nil) (enters_of Try.func38 (by kernel_rfl) rfl)
    (by rintro _ _ ⟨x, rfl, rfl⟩; exact ⟨rfl, put1_spec x p⟩)
def idxId (l : List Pk) (id : Int) : Option Nat := fstO l fun x => decide (x.id = id)
def idxTo (l : List Pk) (to : Int) : Option Nat := fstO l fun x => decide (x.to = to)
theorem qindex_spec (q : Qu) (id : Int) : FnS Try.prog 35 [quA q, AI id] [] (AI (oI (idxId q.packets id))) [] := by
  refine FnS.of_body (enters_of Try.func35 (by kernel_rfl) rfl) Try.func35 rfl Try.ntmps35 Try.results35 rfl rfl rfl rfl fun E hS => ?_
  repeat' (first
    | (show VR _ _ _ (_ :: _) _ _ _; first | refine x_opF rfl (by first | exact True.intro | omega) ?_ | (show VR _ _ _ (⟨_, .call ⟨.value _, _, _⟩, _, _, _, _⟩ :: _) _ _ _; first | refine vr_callU [3] (idxf_Pk q.packets (fun x => decide (x.id = id))) (gk rfl) rfl (by (repeat' (first | exact .nil | refine .cons ?_ ?_ | exact .of0 (.c .d) | exact .of0 .ep | exact .clo | exact (idx1_fnc (by simp) rfl) | exact .of0 (.c .nil) | exact .of0 (.c (cr_rowO (by simp) rfl (by first | rfl | omega) (fun _ => rfl))) | refine .of0 (.agg ?_) | exact .d | exact .nil | exact .of0 (.c (cr_row (by decide) rfl rfl (by repeat' (first | exact trivial | refine ⟨?_, ?_⟩ | rfl)))))) <;> fail) (by first | rfl | exact hfl_O (fun _ => rfl) | exact hfl_O2 rfl (fun _ => rfl)) rfl (by first | rfl | (simp only [wfRes, wfL, wfArgs, wfs]; rfl)) rfl (by first | exact newB_O | rfl) rfl ?_) | (show VR _ _ _ (⟨_, .nilCheck _, _, _, _, _⟩ :: _) _ _ _; first | refine vr_nilCheck_rp (gk rfl) rfl rfl ?_ | refine vr_nilCheck_ptr (gk rfl) rfl rfl ?_ | refine vr_nilCheck_ep (gk rfl) rfl rfl ?_) | refine x_gknow rfl (by assumption) ?_ | (refine x_gsplit rfl ?_ ?_ <;> intro h <;> have hq := h <;> (try simp only [hqs] at hq)))
    | (show VR _ _ _ [] _ _ _; first | refine vr_nil ?_ | refine vr_nil_t (by kernel_rfl) ?_)
    | (show thenQ _ _ _ _; first | refine q_then_n ?_ | refine q_then_x ?_ | refine q_then_r ?_)
    | (show blockQ _ _ _ _; first | refine q_blk_n ?_ | refine q_blk_r ?_ | refine q_blk_x ?_ | refine q_blk_o rfl ?_)
    | refine vc_seq ?_
    | refine vc_region ?_ | refine vc_region_t ?_
    | (show VC _ (.cond _ _ _) _ _; first | refine vc_cond_t rfl ?_ | refine vc_cond_f rfl ?_ | refine x_know rfl (by assumption) ?_ | (refine x_cond rfl ?_ ?_ <;> intro h <;> have hq := h <;> (try simp only [hqs] at hq)))
    | refine vc_ret ?_ | refine vc_exit ?_ | refine vc_block ?_ | refine vc_skip ?_ | refine vc_label ?_)
  all_goals exact ret_int isRet_r rfl rfl
theorem first_spec (l : List Pk) (to : Int) : FnS Try.prog 94 [AD (pks l), AI to] [] (AI (oI (idxTo l to))) [] := by
  refine FnS.of_body (enters_of Try.func94 (by kernel_rfl) rfl) Try.func94 rfl Try.ntmps94 Try.results94 rfl rfl rfl rfl fun E hS => ?_
  repeat' (first
    | (show VR _ _ _ (_ :: _) _ _ _; first | refine x_opF rfl (by first | exact True.intro | omega) ?_ | (show VR _ _ _ (⟨_, .call ⟨.value _, _, _⟩, _, _, _, _⟩ :: _) _ _ _; first | refine vr_callU [3] (idxf_Pk l (fun x => decide (x.to = to))) (gk rfl) rfl (by (repeat' (first | exact .nil | refine .cons ?_ ?_ | exact .of0 (.c .d) | exact .of0 .ep | exact .clo | exact (first1_fnc (by simp) rfl) | exact .of0 (.c .nil) | exact .of0 (.c (cr_rowO (by simp) rfl (by first | rfl | omega) (fun _ => rfl))) | refine .of0 (.agg ?_) | exact .d | exact .nil | exact .of0 (.c (cr_row (by decide) rfl rfl (by repeat' (first | exact trivial | refine ⟨?_, ?_⟩ | rfl)))))) <;> fail) (by first | rfl | exact hfl_O (fun _ => rfl) | exact hfl_O2 rfl (fun _ => rfl)) rfl (by first | rfl | (simp only [wfRes, wfL, wfArgs, wfs]; rfl)) rfl (by first | exact newB_O | rfl) rfl ?_) | (show VR _ _ _ (⟨_, .nilCheck _, _, _, _, _⟩ :: _) _ _ _; first | refine vr_nilCheck_rp (gk rfl) rfl rfl ?_ | refine vr_nilCheck_ptr (gk rfl) rfl rfl ?_ | refine vr_nilCheck_ep (gk rfl) rfl rfl ?_) | refine x_gknow rfl (by assumption) ?_ | (refine x_gsplit rfl ?_ ?_ <;> intro h <;> have hq := h <;> (try simp only [hqs] at hq)))
    | (show VR _ _ _ [] _ _ _; first | refine vr_nil ?_ | refine vr_nil_t (by kernel_rfl) ?_)
    | (show thenQ _ _ _ _; first | refine q_then_n ?_ | refine q_then_x ?_ | refine q_then_r ?_)
    | (show blockQ _ _ _ _; first | refine q_blk_n ?_ | refine q_blk_r ?_ | refine q_blk_x ?_ | refine q_blk_o rfl ?_)
    | refine vc_seq ?_
    | refine vc_region ?_ | refine vc_region_t ?_
    | (show VC _ (.cond _ _ _) _ _; first | refine vc_cond_t rfl ?_ | refine vc_cond_f rfl ?_ | refine x_know rfl (by assumption) ?_ | (refine x_cond rfl ?_ ?_ <;> intro h <;> have hq := h <;> (try simp only [hqs] at hq)))
    | refine vc_ret ?_ | refine vc_exit ?_ | refine vc_block ?_ | refine vc_skip ?_ | refine vc_label ?_)
  all_goals exact ret_int isRet_r rfl rfl
def atP (l : List Pk) (pr : Int) : Nat := (fstO l fun x => decide (pr < x.prio)).getD l.length
def noQ : Qu := ⟨0, []⟩
def putQ (q : Qu) (p : Pk) : Qu × List Pk × Int :=
  if checkQ q ≠ 0 then (noQ, [], 1) else if formP p ≠ 0 then (noQ, [], formP p) else if (q.packets.any fun x => decide (x.id = p.id)) = true then (noQ, [], 6)
  else if q.packets.length = q.limit then
    if (q.packets.getD (q.packets.length - 1) default).prio ≤ p.prio then (noQ, [], 13)
    else (⟨q.limit, insAt (q.packets.take (q.packets.length - 1)) (atP (q.packets.take (q.packets.length - 1)) p.prio) p⟩, [q.packets.getD (q.packets.length - 1) default], 0)
  else (⟨q.limit, insAt q.packets (atP q.packets p.prio) p⟩, [], 0)
theorem checkQ_len {q : Qu} (h : checkQ q = 0) : 1 ≤ q.limit ∧ q.limit ≤ 64 ∧ (q.packets.length : Int) ≤ q.limit := by
  unfold checkQ at h
  split at h
  · cases h
  · split at h
    · cases h
    · rename_i h1 h2
      simp [inI] at h1
      omega
end Go.Proofs.Q
end
section
-- SXS
namespace Go.Proofs.Q
open Go Go.Sx
set_option maxRecDepth 4000
set_option linter.unusedSimpArgs false
set_option linter.unusedVariables false
attribute [local irreducible] VR VC thenQ blockQ retL
theorem qindex_any {q : Qu} {id : Int} : decide (0 ≤ oI (idxId q.packets id)) = q.packets.any fun x => decide (x.id = id) := fstO_any _ _
set_option maxHeartbeats 2000000 in
theorem put_spec (q : Qu) (p : Pk) : FnS Try.prog 15 [quA q, pkA p] [] (.tup [quA (putQ q p).1, AD (pks (putQ q p).2.1), AI (putQ q p).2.2]) [] := by
  have hck := checkQ_spec q
  have hfm := form_spec p
  refine FnS.of_body (enters_of Try.func15 (by kernel_rfl) rfl) Try.func15 rfl Try.ntmps15 Try.results15 rfl rfl rfl rfl fun E hS => ?_
  refine vc_retL ?_
  by_cases hc : checkQ q = 0
  · rw [hc] at hck
    obtain ⟨hl1, hl2, hl3⟩ := checkQ_len hc
    by_cases hf : formP p = 0
    · rw [hf] at hfm
      have hat := idxf_Pk q.packets (fun x => decide (p.prio < x.prio))
      have hat2 := idxf_Pk (q.packets.take (q.packets.length - 1)) (fun x => decide (p.prio < x.prio))
      have e : putQ q p = if (q.packets.any fun x => decide (x.id = p.id)) = true then (noQ, [], 6)
          else if q.packets.length = q.limit then
            if (q.packets.getD (q.packets.length - 1) default).prio ≤ p.prio then (noQ, [], 13)
            else (⟨q.limit, insAt (q.packets.take (q.packets.length - 1)) (atP (q.packets.take (q.packets.length - 1)) p.prio) p⟩, [q.packets.getD (q.packets.length - 1) default], 0)
          else (⟨q.limit, insAt q.packets (atP q.packets p.prio) p⟩, [], 0) := by rw [putQ, if_neg (by omega), if_neg (by omega)]
      repeat' (first
        | (show VR _ _ _ (_ :: _) _ _ _; first | refine x_opF rfl (by first | exact True.intro | omega) ?_ | (show VR _ _ _ (⟨_, .call ⟨.value _, _, _⟩, _, _, _, _⟩ :: _) _ _ _; first | refine vr_calldU (hck) (gk rfl) rfl rfl rfl (by first | rfl | (simp only [wfRes, wfL, wfArgs, wfs]; rfl)) rfl (by first | exact newB_O | rfl) rfl ?_ | refine vr_calldU (hfm) (gk rfl) rfl rfl rfl (by first | rfl | (simp only [wfRes, wfL, wfArgs, wfs]; rfl)) rfl (by first | exact newB_O | rfl) rfl ?_ | refine vr_calldU (qindex_spec q p.id) (gk rfl) rfl rfl rfl (by first | rfl | (simp only [wfRes, wfL, wfArgs, wfs]; rfl)) rfl (by first | exact newB_O | rfl) rfl ?_ | refine vr_calldU (clone_Pk q.packets (by omega)) (gk rfl) rfl rfl rfl (by first | rfl | (simp only [wfRes, wfL, wfArgs, wfs]; rfl)) rfl (by first | exact newB_O | rfl) rfl ?_) | (show VR _ _ _ (⟨_, .indexAddr _ _ _, _, _, _, _⟩ :: _) _ _ _; first | refine vr_index_rowN (gk rfl) rfl rfl rfl rfl rfl (by omega) (by first | rfl | exact rowOf_length.symm | (simp only [lns] <;> omega)) rfl ?_) | (show VR _ _ _ (⟨_, .call ⟨.builtin .len, _, _⟩, _, _, _, _⟩ :: _) _ _ _; first | refine vr_len_row (gk rfl) rfl rfl (by first | rfl | exact rowOf_length.symm | (simp only [lns] <;> omega)) rfl rfl ?_) | (show VR _ _ _ (⟨_, .call ⟨.builtin .append, _, _⟩, _, _, _, _⟩ :: _) _ _ _; first | refine vr_append_nils0 (gk rfl) rfl rfl (by first | exact .row rfl (by first | rfl | exact rowOf_length.symm) | exact .rd | exact .nils) rfl rfl rfl (by (try dsimp only); omega) rfl rfl ?_) | (show VR _ _ _ (⟨_, .slice _ _ _ _ _, _, _, _, _⟩ :: _) _ _ _; first | refine vr_slice_head (gk rfl) rfl rfl (by first | exact .row | exact .full) rfl rfl (by first | exact .no | exact .int rfl rfl | exact .nat rfl (by omega)) (by first | omega | (simp only [lns]; omega)) (by first | omega | (simp only [lns]; omega)) rfl ?_) | (show VR _ _ _ (⟨_, .load _ _, _, _, _, _⟩ :: _) _ _ _; first | refine vr_load_rowO_agg (gk rfl) rfl rfl (by omega) rfl rfl rfl ?_ | refine vr_load_rowO (gk rfl) rfl rfl (by omega) rfl rfl rfl ?_))
        | (show VR _ _ _ [] _ _ _; first | refine vr_nil ?_ | refine vr_nil_t (by kernel_rfl) ?_)
        | (show thenQ _ _ _ _; first | refine q_then_n ?_ | refine q_then_r ?_)
        | (show VC _ (.seq _ _) _ _; (fail_if_success (show VC _ (.seq (.seq (.region 15 _ _) _) _) _ _)); (fail_if_success (show VC _ (.seq (.region 15 _ _) _) _ _)); refine vc_seq ?_)
        | refine vc_region ?_ | refine vc_region_t ?_
        | (show VC _ (.cond _ _ _) _ _; first | refine vc_cond_f rfl ?_ | (refine x_cond rfl ?_ ?_ <;> intro h <;> have hq := h <;> (try simp only [hqs] at hq)))
        | refine vc_ret ?_ | refine vc_skip ?_
        | fail)
      · rw [if_pos (by rw [← qindex_any]; exact h)] at e
        rw [e]
        refine retL_of (le_gen0 (l := [(4, .c (.ptr 4 0)), (5, AD (pks [])), (6, AI 6)]) (b := [(4, .box noQ.cs)]) (fun n => n) ?_ ?_ rfl (by first | rfl | (simp only [wfL, wfs]; rfl))) (ret_agg_ddL isRet_r rfl rfl rfl rfl rfl rfl rfl rfl rfl)
        all_goals repeat' (first | exact trivial | refine ⟨⟨_, rfl, ?_⟩, ?_⟩ | exact .c .d | exact .c (.ptr rfl) | exact .c .nil | refine .box ?_ | exact .nil | refine .cons ?_ ?_ | exact .d | fail)
      · have hn : ((q.packets.length : Int) - 1).toNat = q.packets.length - 1 := by omega
        rw [hn] at hq
        rw [if_neg (by rw [← qindex_any]; simp; omega), if_pos (by omega), if_pos hq] at e
        rw [e]
        refine retL_of (le_gen0 (l := [(4, .c (.ptr 4 0)), (5, AD (pks [])), (6, AI 13)]) (b := [(4, .box noQ.cs)]) (fun n => n) ?_ ?_ rfl (by first | rfl | (simp only [wfL, wfs]; rfl))) (ret_agg_ddL isRet_r rfl rfl rfl rfl rfl rfl rfl rfl rfl)
        all_goals repeat' (first | exact trivial | refine ⟨⟨_, rfl, ?_⟩, ?_⟩ | exact .c .d | exact .c (.ptr rfl) | exact .c .nil | refine .box ?_ | exact .nil | refine .cons ?_ ?_ | exact .d | fail)
      · have hn : ((q.packets.length : Int) - 1).toNat = q.packets.length - 1 := by omega
        rw [hn] at hq h
        have hlt : (q.packets.take (q.packets.length - 1)).length = q.packets.length - 1 := by rw [List.length_take]; omega
        rw [if_neg (by rw [← qindex_any]; simp; omega), if_pos (by omega), if_neg (by omega)] at e
        rw [e]
        refine VC.le (σ' := stOf [(2, .c (.ptr 2 0)), (3, .c (.ptr 3 0)), (4, .c (.ptr 4 0)), (8, .c (.row 8 (q.packets.take (q.packets.length - 1)).length)), (9, AD (pks [q.packets.getD (q.packets.length - 1) default]))]
          [(2, .box q.cs), (3, .box p.cs), (4, .box noQ.cs), (8, .row 42 6 (rowOf Pk.enc (q.packets.take (q.packets.length - 1))))]) ?_ ?_
        · rw [hn]
          refine le_gen (fun n => if n = 8 then 30007 else n) [54] hS ?_ ?_ rfl (by first | rfl | (simp only [wfL, wfs]; rfl))
          all_goals repeat' (first | exact trivial | refine ⟨⟨_, rfl, ?_⟩, ?_⟩ | exact .c (.ptr rfl) | (refine .c (.row rfl ?_); ((try dsimp only); first | rfl | omega | (simp only [lns] <;> omega)); done) | exact .c (.frzOf (by first | (simp; done) | decide) rfl rfl (fun _ => rfl)) | exact .boxD rfl rfl | refine .box ?_ | exact .nil | refine .cons ?_ ?_ | exact .d | fail)
          exact .truncO (q.packets.length - 1) rowOf_take
        · cases ht : fstO (q.packets.take (q.packets.length - 1)) (fun x => decide (p.prio < x.prio)) with
          | none =>
            rw [ht] at hat2
            have h' : FnS Try.prog 37 [AD (pks (q.packets.take (q.packets.length - 1))), .clo (predφPk fun x => decide (p.prio < x.prio))] [] (AI (-1)) [] := hat2
            have ha : atP (q.packets.take (q.packets.length - 1)) p.prio = ((q.packets.take (q.packets.length - 1))).length := by rw [atP, ht]; rfl
            repeat' (first
              | (show VR _ _ _ (_ :: _) _ _ _; first | refine x_opF rfl (by first | exact True.intro | omega) ?_ | (show VR _ _ _ (⟨_, .call ⟨.value _, _, _⟩, _, _, _, _⟩ :: _) _ _ _; first | refine vr_callU [3, 8] (h') (gk rfl) rfl (by (repeat' (first | exact .nil | refine .cons ?_ ?_ | exact .of0 (.c .d) | exact .of0 .ep | exact .clo | exact (put1_fnc (by simp) rfl) | exact (.of0 (.c (cr_rowO (by simp) rfl rfl (fun _ => rfl)))) | exact .of0 (.c .nil) | exact .of0 (.c (cr_rowO (by simp) rfl (by first | rfl | omega) (fun _ => rfl))) | refine .of0 (.agg ?_) | exact .d | exact .nil | exact .of0 (.c (cr_row (by decide) rfl rfl (by repeat' (first | exact trivial | refine ⟨?_, ?_⟩ | rfl)))))) <;> fail) (by first | rfl | exact hfl_O (fun _ => rfl) | exact hfl_O2 rfl (fun _ => rfl)) rfl (by first | rfl | (simp only [wfRes, wfL, wfArgs, wfs]; rfl)) rfl (by first | exact newB_O | rfl) rfl ?_ | refine vr_callMU [70] (insert_Pk (q.packets.take (q.packets.length - 1)) ((q.packets.take (q.packets.length - 1))).length p (by omega) (Nat.le_refl _)) (gk rfl) rfl rfl rowOf_isD rfl (by (repeat' (first | exact .nil | refine .cons ?_ ?_ | exact .of0 (.c .d) | exact .of0 .ep | exact .clo | exact (put1_fnc (by simp) rfl) | exact (.of0 (.c (cr_rowO (by simp) rfl rfl (fun _ => rfl)))) | exact .of0 (.c .nil) | exact .of0 (.c (cr_rowO (by simp) rfl (by first | rfl | omega) (fun _ => rfl))) | refine .of0 (.agg ?_) | exact .d | exact .nil | exact .of0 (.c (cr_row (by decide) rfl rfl (by repeat' (first | exact trivial | refine ⟨?_, ?_⟩ | rfl)))))) <;> fail) rfl (by first | rfl | exact hfl_O (fun _ => rfl) | exact hfl_O2 rfl (fun _ => rfl)) rfl (by first | rfl | (simp only [wfRes, wfL, wfArgs, wfs]; rfl)) rfl (by first | exact newB_O | rfl) rfl ?_) | (show VR _ _ _ (⟨_, .call ⟨.builtin .len, _, _⟩, _, _, _, _⟩ :: _) _ _ _; first | refine vr_len_row (gk rfl) rfl rfl (by first | rfl | exact rowOf_length.symm | (simp only [lns] <;> omega)) rfl rfl ?_))
              | (show VR _ _ _ [] _ _ _; first | refine vr_nil ?_ | refine vr_nil_t (by kernel_rfl) ?_)
              | (show thenQ _ _ _ _; first | refine q_then_n ?_)
              | refine vc_seq ?_
              | refine vc_region ?_ | refine vc_region_t ?_
              | (show VC _ (.cond _ _ _) _ _; first | refine vc_cond_t rfl ?_)
              | refine vc_ret ?_
              | fail)
            rw [ha]
            refine retL_of (le_gen (l := [(4, .c (.ptr 4 0)), (5, AD (pks [q.packets.getD (q.packets.length - 1) default])), (6, AI 0)]) (b := [(4, .box (Qu.cs ⟨q.limit, insAt (q.packets.take (q.packets.length - 1)) ((q.packets.take (q.packets.length - 1))).length p⟩))]) (fun n => n) [71001] hS ?_ ?_ rfl (by first | rfl | (simp only [wfL, wfs]; rfl))) (ret_agg_ddL isRet_r rfl rfl rfl rfl rfl rfl rfl rfl rfl)
            all_goals repeat' (first | exact trivial | refine ⟨⟨_, rfl, ?_⟩, ?_⟩ | exact .c .d | exact .c (.ptr rfl) | refine .box ?_ | exact .nil | refine .cons ?_ ?_ | exact .d | (refine .frzOf (by first | (simp; done) | decide) rfl ?_ (fun _ => rfl); ((try dsimp only); first | rfl | omega | (simp only [lns] <;> omega)); done) | fail)
            all_goals (simp [insAt])
          | some i =>
            rw [ht] at hat2
            have h' : FnS Try.prog 37 [AD (pks (q.packets.take (q.packets.length - 1))), .clo (predφPk fun x => decide (p.prio < x.prio))] [] (AI (i : Nat)) [] := hat2
            have ha : atP (q.packets.take (q.packets.length - 1)) p.prio = i := by rw [atP, ht]; rfl
            obtain ⟨hi, _, _⟩ := fstO_some ht
            repeat' (first
              | (show VR _ _ _ (_ :: _) _ _ _; first | refine x_opF rfl (by first | exact True.intro | omega) ?_ | (show VR _ _ _ (⟨_, .call ⟨.value _, _, _⟩, _, _, _, _⟩ :: _) _ _ _; first | refine vr_callU [3, 8] (h') (gk rfl) rfl (by (repeat' (first | exact .nil | refine .cons ?_ ?_ | exact .of0 (.c .d) | exact .of0 .ep | exact .clo | exact (put1_fnc (by simp) rfl) | exact (.of0 (.c (cr_rowO (by simp) rfl rfl (fun _ => rfl)))) | exact .of0 (.c .nil) | exact .of0 (.c (cr_rowO (by simp) rfl (by first | rfl | omega) (fun _ => rfl))) | refine .of0 (.agg ?_) | exact .d | exact .nil | exact .of0 (.c (cr_row (by decide) rfl rfl (by repeat' (first | exact trivial | refine ⟨?_, ?_⟩ | rfl)))))) <;> fail) (by first | rfl | exact hfl_O (fun _ => rfl) | exact hfl_O2 rfl (fun _ => rfl)) rfl (by first | rfl | (simp only [wfRes, wfL, wfArgs, wfs]; rfl)) rfl (by first | exact newB_O | rfl) rfl ?_ | refine vr_callMU [70] (insert_Pk (q.packets.take (q.packets.length - 1)) i p (by omega) (Nat.le_of_lt hi)) (gk rfl) rfl rfl rowOf_isD rfl (by (repeat' (first | exact .nil | refine .cons ?_ ?_ | exact .of0 (.c .d) | exact .of0 .ep | exact .clo | exact (put1_fnc (by simp) rfl) | exact (.of0 (.c (cr_rowO (by simp) rfl rfl (fun _ => rfl)))) | exact .of0 (.c .nil) | exact .of0 (.c (cr_rowO (by simp) rfl (by first | rfl | omega) (fun _ => rfl))) | refine .of0 (.agg ?_) | exact .d | exact .nil | exact .of0 (.c (cr_row (by decide) rfl rfl (by repeat' (first | exact trivial | refine ⟨?_, ?_⟩ | rfl)))))) <;> fail) rfl (by first | rfl | exact hfl_O (fun _ => rfl) | exact hfl_O2 rfl (fun _ => rfl)) rfl (by first | rfl | (simp only [wfRes, wfL, wfArgs, wfs]; rfl)) rfl (by first | exact newB_O | rfl) rfl ?_))
              | (show VR _ _ _ [] _ _ _; first | refine vr_nil ?_ | refine vr_nil_t (by kernel_rfl) ?_)
              | (show thenQ _ _ _ _; first | refine q_then_n ?_)
              | refine vc_seq ?_
              | refine vc_region ?_ | refine vc_region_t ?_
              | (show VC _ (.cond _ _ _) _ _; first | refine vc_cond_f rfl ?_)
              | refine vc_ret ?_ | refine vc_skip ?_
              | fail)
            rw [ha]
            refine retL_of (le_gen (l := [(4, .c (.ptr 4 0)), (5, AD (pks [q.packets.getD (q.packets.length - 1) default])), (6, AI 0)]) (b := [(4, .box (Qu.cs ⟨q.limit, insAt (q.packets.take (q.packets.length - 1)) i p⟩))]) (fun n => n) [71001] hS ?_ ?_ rfl (by first | rfl | (simp only [wfL, wfs]; rfl))) (ret_agg_ddL isRet_r rfl rfl rfl rfl rfl rfl rfl rfl rfl)
            all_goals repeat' (first | exact trivial | refine ⟨⟨_, rfl, ?_⟩, ?_⟩ | exact .c .d | exact .c (.ptr rfl) | refine .box ?_ | exact .nil | refine .cons ?_ ?_ | exact .d | (refine .frzOf (by first | (simp; done) | decide) rfl ?_ (fun _ => rfl); ((try dsimp only); first | rfl | omega | (simp only [lns] <;> omega)); done) | fail)
            all_goals (simp only [insAt, List.length_append, List.length_cons, List.length_take, List.length_drop]; simp only [List.length_take] at hi; omega)
      · rw [if_neg (by rw [← qindex_any]; simp; omega), if_neg (by omega)] at e
        rw [e]
        refine VC.le (σ' := stOf [(2, .c (.ptr 2 0)), (3, .c (.ptr 3 0)), (4, .c (.ptr 4 0)), (8, .c (.row 8 q.packets.length)), (9, AD (pks []))] [(2, .box q.cs), (3, .box p.cs), (4, .box noQ.cs), (8, .row 42 6 (rowOf Pk.enc q.packets))]) ?_ ?_
        · refine le_gen0 (fun n => if n = 8 then 30007 else n) ?_ ?_ rfl (by first | rfl | (simp only [wfL, wfs]; rfl))
          all_goals repeat' (first | exact trivial | refine ⟨⟨_, rfl, ?_⟩, ?_⟩ | exact .c (.ptr rfl) | exact .c (.row rfl rfl) | exact .c .nil | exact .boxD rfl rfl | exact .rowD rfl rowOf_isD | refine .box ?_ | exact .nil | refine .cons ?_ ?_ | exact .d | fail)
        · cases ht : fstO q.packets (fun x => decide (p.prio < x.prio)) with
          | none =>
            rw [ht] at hat
            have h' : FnS Try.prog 37 [AD (pks q.packets), .clo (predφPk fun x => decide (p.prio < x.prio))] [] (AI (-1)) [] := hat
            have ha : atP q.packets p.prio = (q.packets).length := by rw [atP, ht]; rfl
            repeat' (first
              | (show VR _ _ _ (_ :: _) _ _ _; first | refine x_opF rfl (by first | exact True.intro | omega) ?_ | (show VR _ _ _ (⟨_, .call ⟨.value _, _, _⟩, _, _, _, _⟩ :: _) _ _ _; first | refine vr_callU [3, 8] (h') (gk rfl) rfl (by (repeat' (first | exact .nil | refine .cons ?_ ?_ | exact .of0 (.c .d) | exact .of0 .ep | exact .clo | exact (put1_fnc (by simp) rfl) | exact (.of0 (.c (cr_rowO (by simp) rfl rfl (fun _ => rfl)))) | exact .of0 (.c .nil) | exact .of0 (.c (cr_rowO (by simp) rfl (by first | rfl | omega) (fun _ => rfl))) | refine .of0 (.agg ?_) | exact .d | exact .nil | exact .of0 (.c (cr_row (by decide) rfl rfl (by repeat' (first | exact trivial | refine ⟨?_, ?_⟩ | rfl)))))) <;> fail) (by first | rfl | exact hfl_O (fun _ => rfl) | exact hfl_O2 rfl (fun _ => rfl)) rfl (by first | rfl | (simp only [wfRes, wfL, wfArgs, wfs]; rfl)) rfl (by first | exact newB_O | rfl) rfl ?_ | refine vr_callMU [70] (insert_Pk q.packets (q.packets).length p (by omega) (Nat.le_refl _)) (gk rfl) rfl rfl rowOf_isD rfl (by (repeat' (first | exact .nil | refine .cons ?_ ?_ | exact .of0 (.c .d) | exact .of0 .ep | exact .clo | exact (put1_fnc (by simp) rfl) | exact (.of0 (.c (cr_rowO (by simp) rfl rfl (fun _ => rfl)))) | exact .of0 (.c .nil) | exact .of0 (.c (cr_rowO (by simp) rfl (by first | rfl | omega) (fun _ => rfl))) | refine .of0 (.agg ?_) | exact .d | exact .nil | exact .of0 (.c (cr_row (by decide) rfl rfl (by repeat' (first | exact trivial | refine ⟨?_, ?_⟩ | rfl)))))) <;> fail) rfl (by first | rfl | exact hfl_O (fun _ => rfl) | exact hfl_O2 rfl (fun _ => rfl)) rfl (by first | rfl | (simp only [wfRes, wfL, wfArgs, wfs]; rfl)) rfl (by first | exact newB_O | rfl) rfl ?_) | (show VR _ _ _ (⟨_, .call ⟨.builtin .len, _, _⟩, _, _, _, _⟩ :: _) _ _ _; first | refine vr_len_row (gk rfl) rfl rfl (by first | rfl | exact rowOf_length.symm | (simp only [lns] <;> omega)) rfl rfl ?_))
              | (show VR _ _ _ [] _ _ _; first | refine vr_nil ?_ | refine vr_nil_t (by kernel_rfl) ?_)
              | (show thenQ _ _ _ _; first | refine q_then_n ?_)
              | refine vc_seq ?_
              | refine vc_region ?_ | refine vc_region_t ?_
              | (show VC _ (.cond _ _ _) _ _; first | refine vc_cond_t rfl ?_)
              | refine vc_ret ?_
              | fail)
            rw [ha]
            refine retL_of (le_gen (l := [(4, .c (.ptr 4 0)), (5, AD (pks [])), (6, AI 0)]) (b := [(4, .box (Qu.cs ⟨q.limit, insAt q.packets (q.packets).length p⟩))]) (fun n => n) [71001] hS ?_ ?_ rfl (by first | rfl | (simp only [wfL, wfs]; rfl))) (ret_agg_ddL isRet_r rfl rfl rfl rfl rfl rfl rfl rfl rfl)
            all_goals repeat' (first | exact trivial | refine ⟨⟨_, rfl, ?_⟩, ?_⟩ | exact .c .d | exact .c (.ptr rfl) | refine .box ?_ | exact .nil | refine .cons ?_ ?_ | exact .d | (refine .frzOf (by first | (simp; done) | decide) rfl ?_ (fun _ => rfl); ((try dsimp only); first | rfl | omega | (simp only [lns] <;> omega)); done) | fail)
            all_goals (simp [insAt])
          | some i =>
            rw [ht] at hat
            have h' : FnS Try.prog 37 [AD (pks q.packets), .clo (predφPk fun x => decide (p.prio < x.prio))] [] (AI (i : Nat)) [] := hat
            have ha : atP q.packets p.prio = i := by rw [atP, ht]; rfl
            obtain ⟨hi, _, _⟩ := fstO_some ht
            repeat' (first
              | (show VR _ _ _ (_ :: _) _ _ _; first | refine x_opF rfl (by first | exact True.intro | omega) ?_ | (show VR _ _ _ (⟨_, .call ⟨.value _, _, _⟩, _, _, _, _⟩ :: _) _ _ _; first | refine vr_callU [3, 8] (h') (gk rfl) rfl (by (repeat' (first | exact .nil | refine .cons ?_ ?_ | exact .of0 (.c .d) | exact .of0 .ep | exact .clo | exact (put1_fnc (by simp) rfl) | exact (.of0 (.c (cr_rowO (by simp) rfl rfl (fun _ => rfl)))) | exact .of0 (.c .nil) | exact .of0 (.c (cr_rowO (by simp) rfl (by first | rfl | omega) (fun _ => rfl))) | refine .of0 (.agg ?_) | exact .d | exact .nil | exact .of0 (.c (cr_row (by decide) rfl rfl (by repeat' (first | exact trivial | refine ⟨?_, ?_⟩ | rfl)))))) <;> fail) (by first | rfl | exact hfl_O (fun _ => rfl) | exact hfl_O2 rfl (fun _ => rfl)) rfl (by first | rfl | (simp only [wfRes, wfL, wfArgs, wfs]; rfl)) rfl (by first | exact newB_O | rfl) rfl ?_ | refine vr_callMU [70] (insert_Pk q.packets i p (by omega) (Nat.le_of_lt hi)) (gk rfl) rfl rfl rowOf_isD rfl (by (repeat' (first | exact .nil | refine .cons ?_ ?_ | exact .of0 (.c .d) | exact .of0 .ep | exact .clo | exact (put1_fnc (by simp) rfl) | exact (.of0 (.c (cr_rowO (by simp) rfl rfl (fun _ => rfl)))) | exact .of0 (.c .nil) | exact .of0 (.c (cr_rowO (by simp) rfl (by first | rfl | omega) (fun _ => rfl))) | refine .of0 (.agg ?_) | exact .d | exact .nil | exact .of0 (.c (cr_row (by decide) rfl rfl (by repeat' (first | exact trivial | refine ⟨?_, ?_⟩ | rfl)))))) <;> fail) rfl (by first | rfl | exact hfl_O (fun _ => rfl) | exact hfl_O2 rfl (fun _ => rfl)) rfl (by first | rfl | (simp only [wfRes, wfL, wfArgs, wfs]; rfl)) rfl (by first | exact newB_O | rfl) rfl ?_))
              | (show VR _ _ _ [] _ _ _; first | refine vr_nil ?_ | refine vr_nil_t (by kernel_rfl) ?_)
              | (show thenQ _ _ _ _; first | refine q_then_n ?_)
              | refine vc_seq ?_
              | refine vc_region ?_ | refine vc_region_t ?_
              | (show VC _ (.cond _ _ _) _ _; first | refine vc_cond_f rfl ?_)
              | refine vc_ret ?_ | refine vc_skip ?_
              | fail)
            rw [ha]
            refine retL_of (le_gen (l := [(4, .c (.ptr 4 0)), (5, AD (pks [])), (6, AI 0)]) (b := [(4, .box (Qu.cs ⟨q.limit, insAt q.packets i p⟩))]) (fun n => n) [71001] hS ?_ ?_ rfl (by first | rfl | (simp only [wfL, wfs]; rfl))) (ret_agg_ddL isRet_r rfl rfl rfl rfl rfl rfl rfl rfl rfl)
            all_goals repeat' (first | exact trivial | refine ⟨⟨_, rfl, ?_⟩, ?_⟩ | exact .c .d | exact .c (.ptr rfl) | refine .box ?_ | exact .nil | refine .cons ?_ ?_ | exact .d | (refine .frzOf (by first | (simp; done) | decide) rfl ?_ (fun _ => rfl); ((try dsimp only); first | rfl | omega | (simp only [lns] <;> omega)); done) | fail)
            all_goals (simp only [insAt, List.length_append, List.length_cons, List.length_take, List.length_drop]; simp only [List.length_take] at hi; omega)
    · have e : putQ q p = (noQ, [], formP p) := by rw [putQ, if_neg (by omega), if_pos hf]
      have hd : decide (formP p ≠ 0) = true := by simp [hf]
      rw [e]
      repeat' (first
        | (show VR _ _ _ (_ :: _) _ _ _; first | refine x_opF rfl (by first | exact True.intro | omega) ?_ | (show VR _ _ _ (⟨_, .call ⟨.value _, _, _⟩, _, _, _, _⟩ :: _) _ _ _; first | refine vr_calldU (hck) (gk rfl) rfl rfl rfl (by first | rfl | (simp only [wfRes, wfL, wfArgs, wfs]; rfl)) rfl (by first | exact newB_O | rfl) rfl ?_ | refine vr_calldU (hfm) (gk rfl) rfl rfl rfl (by first | rfl | (simp only [wfRes, wfL, wfArgs, wfs]; rfl)) rfl (by first | exact newB_O | rfl) rfl ?_))
        | (show VR _ _ _ [] _ _ _; first | refine vr_nil ?_)
        | (show thenQ _ _ _ _; first | refine q_then_n ?_ | refine q_then_r ?_)
        | refine vc_seq ?_
        | refine vc_region ?_
        | (show VC _ (.cond _ _ _) _ _; first | refine vc_cond_t rfl ?_ | refine vc_cond_f rfl ?_ | refine x_know rfl (by assumption) ?_)
        | refine vc_ret ?_ | refine vc_skip ?_
        | fail)
      refine retL_of (le_gen0 (l := [(4, .c (.ptr 4 0)), (5, AD (pks [])), (6, AI (formP p))]) (b := [(4, .box noQ.cs)]) (fun n => n) ?_ ?_ rfl (by first | rfl | (simp only [wfL, wfs]; rfl))) (ret_agg_ddL isRet_r rfl rfl rfl rfl rfl rfl rfl rfl rfl)
      all_goals repeat' (first | exact trivial | refine ⟨⟨_, rfl, ?_⟩, ?_⟩ | exact .c .d | exact .c (.ptr rfl) | exact .c .nil | refine .box ?_ | exact .nil | refine .cons ?_ ?_ | exact .d | fail)
  · have e : putQ q p = (noQ, [], 1) := by rw [putQ, if_pos hc]
    have hd : decide (checkQ q ≠ 0) = true := by simp [hc]
    rw [e]
    repeat' (first
      | (show VR _ _ _ (_ :: _) _ _ _; first | refine x_opF rfl (by first | exact True.intro | omega) ?_ | (show VR _ _ _ (⟨_, .call ⟨.value _, _, _⟩, _, _, _, _⟩ :: _) _ _ _; first | refine vr_calldU (hck) (gk rfl) rfl rfl rfl (by first | rfl | (simp only [wfRes, wfL, wfArgs, wfs]; rfl)) rfl (by first | exact newB_O | rfl) rfl ?_))
      | (show VR _ _ _ [] _ _ _; first | refine vr_nil ?_)
      | (show thenQ _ _ _ _; first | refine q_then_n ?_ | refine q_then_r ?_)
      | refine vc_seq ?_
      | refine vc_region ?_
      | (show VC _ (.cond _ _ _) _ _; first | refine vc_cond_t rfl ?_ | refine x_know rfl (by assumption) ?_)
      | refine vc_ret ?_
      | fail)
    refine retL_of (le_gen0 (l := [(4, .c (.ptr 4 0)), (5, AD (pks [])), (6, AI 1)]) (b := [(4, .box noQ.cs)]) (fun n => n) ?_ ?_ rfl (by first | rfl | (simp only [wfL, wfs]; rfl))) (ret_agg_ddL isRet_r rfl rfl rfl rfl rfl rfl rfl rfl rfl)
    all_goals repeat' (first | exact trivial | refine ⟨⟨_, rfl, ?_⟩, ?_⟩ | exact .c .d | exact .c (.ptr rfl) | exact .c .nil | refine .box ?_ | exact .nil | refine .cons ?_ ?_ | exact .d | fail)
end Go.Proofs.Q
end
section
-- SXS
namespace Go.Proofs.Q
open Go Go.Sx
set_option maxRecDepth 4000
set_option linter.unusedSimpArgs false
set_option linter.unusedVariables false
attribute [local irreducible] VR VC thenQ blockQ retL
end Go.Proofs.Q
end
section
-- SXS
namespace Go.Proofs.Q
open Go Go.Sx
set_option maxRecDepth 4000
set_option linter.unusedSimpArgs false
set_option linter.unusedVariables false
attribute [local irreducible] VR VC thenQ blockQ retL
def noP : Pk := ⟨0, 0, 0, 0, 0, ⟨#[]⟩⟩
def firstQ (q : Qu) (to : Int) : Pk × Bool := if checkQ q ≠ 0 then (noP, false) else match idxTo q.packets to with
  | none => (noP, false)
  | some i => (q.packets.getD i default, true)
theorem firstQ_bad {q : Qu} {to : Int} (h : ¬ checkQ q = 0) : firstQ q to = (noP, false) := by rw [firstQ, if_pos h]
theorem firstQ_none {q : Qu} {to : Int} (h : checkQ q = 0) (hf : idxTo q.packets to = none) : firstQ q to = (noP, false) := by rw [firstQ, if_neg (by omega), hf]
theorem firstQ_some {q : Qu} {to : Int} {i : Nat} (h : checkQ q = 0) (hf : idxTo q.packets to = some i) : firstQ q to = (q.packets.getD i default, true) := by rw [firstQ, if_neg (by omega), hf]
set_option maxHeartbeats 1000000 in
theorem First_spec (q : Qu) (to : Int) : FnS Try.prog 76 [quA q, AI to] [] (.tup [pkA (firstQ q to).1, AB (firstQ q to).2]) [] := by
  have hck := checkQ_spec q
  have hfi := first_spec q.packets to
  refine FnS.of_body (enters_of Try.func76 (by kernel_rfl) rfl) Try.func76 rfl Try.ntmps76 Try.results76 rfl rfl rfl rfl fun E hS => ?_
  refine vc_retL ?_
  by_cases hc : checkQ q = 0
  · rw [hc] at hck
    have hl := checkQ_len hc
    cases hf : idxTo q.packets to with
    | none =>
      rw [hf] at hfi
      have hfi' : FnS Try.prog 94 [AD (pks q.packets), AI to] [] (AI (-1)) [] := hfi
      rw [firstQ_none hc hf]
      repeat' (first
        | (show VR _ _ _ (_ :: _) _ _ _; first | refine x_opF rfl (by first | exact True.intro | omega) ?_ | (show VR _ _ _ (⟨_, .call ⟨.value _, _, _⟩, _, _, _, _⟩ :: _) _ _ _; first | refine vr_calldU (hck) (gk rfl) rfl rfl rfl (by first | rfl | (simp only [wfRes, wfL, wfArgs, wfs]; rfl)) rfl (by first | exact newB_O | rfl) rfl ?_ | refine vr_calldU (hfi') (gk rfl) rfl rfl rfl (by first | rfl | (simp only [wfRes, wfL, wfArgs, wfs]; rfl)) rfl (by first | exact newB_O | rfl) rfl ?_))
        | (show VR _ _ _ [] _ _ _; first | refine vr_nil ?_)
        | (show thenQ _ _ _ _; first | refine q_then_n ?_)
        | refine vc_seq ?_
        | refine vc_region ?_
        | (show VC _ (.cond _ _ _) _ _; first | refine vc_cond_f rfl ?_)
        | refine vc_ret ?_ | refine vc_skip ?_
        | fail)
      refine retL_of (le_gen0 (l := [(4, .c (.ptr 4 0)), (5, AB false)]) (b := [(4, .box noP.cs)]) (fun n => n) ?_ ?_ rfl (by first | rfl | (simp only [wfL, wfs]; rfl))) (ret_agg_dL isRet_r rfl rfl rfl rfl rfl rfl rfl)
      all_goals repeat' (first | exact trivial | refine ⟨⟨_, rfl, ?_⟩, ?_⟩ | exact .c .d | exact .c (.ptr rfl) | exact .boxD rfl rfl | fail)
    | some i =>
      rw [hf] at hfi
      have hfi' : FnS Try.prog 94 [AD (pks q.packets), AI to] [] (AI (i : Nat)) [] := hfi
      obtain ⟨hi, _, _⟩ := fstO_some hf
      rw [firstQ_some hc hf]
      repeat' (first
        | (show VR _ _ _ (_ :: _) _ _ _; first | refine x_opF rfl (by first | exact True.intro | omega) ?_ | (show VR _ _ _ (⟨_, .call ⟨.value _, _, _⟩, _, _, _, _⟩ :: _) _ _ _; first | refine vr_calldU (hck) (gk rfl) rfl rfl rfl (by first | rfl | (simp only [wfRes, wfL, wfArgs, wfs]; rfl)) rfl (by first | exact newB_O | rfl) rfl ?_ | refine vr_calldU (hfi') (gk rfl) rfl rfl rfl (by first | rfl | (simp only [wfRes, wfL, wfArgs, wfs]; rfl)) rfl (by first | exact newB_O | rfl) rfl ?_) | (show VR _ _ _ (⟨_, .indexAddr _ _ _, _, _, _, _⟩ :: _) _ _ _; first | refine vr_index_rd (gk rfl) rfl rfl rfl rfl rfl (by omega) rfl ?_))
        | (show VR _ _ _ [] _ _ _; first | refine vr_nil ?_)
        | (show thenQ _ _ _ _; first | refine q_then_n ?_ | refine q_then_r ?_)
        | refine vc_seq ?_
        | refine vc_region ?_
        | (show VC _ (.cond _ _ _) _ _; first | refine vc_cond_t rfl ?_ | refine vc_cond_f rfl ?_)
        | refine vc_ret ?_ | refine vc_skip ?_
        | fail)
      all_goals first
        | (exfalso; omega)
        | skip
      refine retL_of (le_gen0 (l := [(4, .c (.ptr 4 0)), (5, AB true)]) (b := [(4, .box (q.packets.getD i default).cs)]) (fun n => n) ?_ ?_ rfl (by first | rfl | (simp only [wfL, wfs]; rfl))) (ret_agg_dL isRet_r rfl rfl rfl rfl rfl rfl rfl)
      all_goals repeat' (first | exact trivial | refine ⟨⟨_, rfl, ?_⟩, ?_⟩ | exact .c .d | exact .c (.ptr rfl) | exact .boxD rfl rfl | fail)
  · rw [firstQ_bad hc]
    have hd : decide (checkQ q ≠ 0) = true := by simp [hc]
    repeat' (first
      | (show VR _ _ _ (_ :: _) _ _ _; first | refine x_opF rfl (by first | exact True.intro | omega) ?_ | (show VR _ _ _ (⟨_, .call ⟨.value _, _, _⟩, _, _, _, _⟩ :: _) _ _ _; first | refine vr_calldU (hck) (gk rfl) rfl rfl rfl (by first | rfl | (simp only [wfRes, wfL, wfArgs, wfs]; rfl)) rfl (by first | exact newB_O | rfl) rfl ?_))
      | (show VR _ _ _ [] _ _ _; first | refine vr_nil ?_)
      | (show thenQ _ _ _ _; first | refine q_then_n ?_ | refine q_then_r ?_)
      | refine vc_seq ?_
      | refine vc_region ?_
      | (show VC _ (.cond _ _ _) _ _; first | refine vc_cond_t rfl ?_ | refine x_know rfl (by assumption) ?_)
      | refine vc_ret ?_
      | fail)
    refine retL_of (le_gen0 (l := [(4, .c (.ptr 4 0)), (5, AB false)]) (b := [(4, .box noP.cs)]) (fun n => n) ?_ ?_ rfl (by first | rfl | (simp only [wfL, wfs]; rfl))) (ret_agg_dL isRet_r rfl rfl rfl rfl rfl rfl rfl)
    all_goals repeat' (first | exact trivial | refine ⟨⟨_, rfl, ?_⟩, ?_⟩ | exact .c .d | exact .c (.ptr rfl) | exact .boxD rfl rfl | fail)
def takeQ (q : Qu) (id : Int) : Qu × Pk × Int := if checkQ q ≠ 0 then (noQ, noP, 1) else match idxId q.packets id with
  | none => (noQ, noP, 7)
  | some i => (⟨q.limit, q.packets.eraseIdx i⟩, q.packets.getD i default, 0)
theorem takeQ_bad {q : Qu} {to : Int} (h : ¬ checkQ q = 0) : takeQ q to = (noQ, noP, 1) := by rw [takeQ, if_pos h]
theorem takeQ_none {q : Qu} {to : Int} (h : checkQ q = 0) (hf : idxId q.packets to = none) : takeQ q to = (noQ, noP, 7) := by rw [takeQ, if_neg (by omega), hf]
theorem takeQ_some {q : Qu} {to : Int} {i : Nat} (h : checkQ q = 0) (hf : idxId q.packets to = some i) : takeQ q to = (⟨q.limit, q.packets.eraseIdx i⟩, q.packets.getD i default, 0) := by rw [takeQ, if_neg (by omega), hf]
set_option maxHeartbeats 1000000 in
theorem take_spec (q : Qu) (id : Int) : FnS Try.prog 82 [quA q, AI id] [] (.tup [quA (takeQ q id).1, pkA (takeQ q id).2.1, AI (takeQ q id).2.2]) [] := by
  have hck := checkQ_spec q
  have hix := qindex_spec q id
  refine FnS.of_body (enters_of Try.func82 (by kernel_rfl) rfl) Try.func82 rfl Try.ntmps82 Try.results82 rfl rfl rfl rfl fun E hS => ?_
  refine vc_retL ?_
  by_cases hc : checkQ q = 0
  · rw [hc] at hck
    have hl := checkQ_len hc
    cases hf : idxId q.packets id with
    | none =>
      rw [hf] at hix
      have hix' : FnS Try.prog 35 [quA q, AI id] [] (AI (-1)) [] := hix
      rw [takeQ_none hc hf]
      repeat' (first
        | (show VR _ _ _ (_ :: _) _ _ _; first | refine x_opF rfl (by first | exact True.intro | omega) ?_ | (show VR _ _ _ (⟨_, .call ⟨.value _, _, _⟩, _, _, _, _⟩ :: _) _ _ _; first | refine vr_calldU (hck) (gk rfl) rfl rfl rfl (by first | rfl | (simp only [wfRes, wfL, wfArgs, wfs]; rfl)) rfl (by first | exact newB_O | rfl) rfl ?_ | refine vr_calldU (hix') (gk rfl) rfl rfl rfl (by first | rfl | (simp only [wfRes, wfL, wfArgs, wfs]; rfl)) rfl (by first | exact newB_O | rfl) rfl ?_))
        | (show VR _ _ _ [] _ _ _; first | refine vr_nil ?_)
        | (show thenQ _ _ _ _; first | refine q_then_n ?_ | refine q_then_r ?_)
        | refine vc_seq ?_
        | refine vc_region ?_
        | (show VC _ (.cond _ _ _) _ _; first | refine vc_cond_t rfl ?_ | refine vc_cond_f rfl ?_)
        | refine vc_ret ?_ | refine vc_skip ?_
        | fail)
      refine retL_of (le_gen0 (l := [(4, .c (.ptr 4 0)), (5, .c (.ptr 5 0)), (6, AI 7)]) (b := [(4, .box noQ.cs), (5, .box noP.cs)]) (fun n => n) ?_ ?_ rfl (by first | rfl | (simp only [wfL, wfs]; rfl))) (ret_agg_agg_dL isRet_r rfl rfl rfl rfl rfl rfl rfl rfl rfl rfl rfl rfl)
      all_goals repeat' (first | exact trivial | refine ⟨⟨_, rfl, ?_⟩, ?_⟩ | exact .c .d | exact .c (.ptr rfl) | exact .boxD rfl rfl | refine .box ?_ | exact .nil | refine .cons ?_ ?_ | exact .d | fail)
    | some i =>
      rw [hf] at hix
      have hix' : FnS Try.prog 35 [quA q, AI id] [] (AI (i : Nat)) [] := hix
      obtain ⟨hi, _, _⟩ := fstO_some hf
      rw [takeQ_some hc hf]
      repeat' (first
        | (show VR _ _ _ (_ :: _) _ _ _; first | refine x_opF rfl (by first | exact True.intro | omega) ?_ | (show VR _ _ _ (⟨_, .call ⟨.value _, _, _⟩, _, _, _, _⟩ :: _) _ _ _; first | refine vr_calldU (hck) (gk rfl) rfl rfl rfl (by first | rfl | (simp only [wfRes, wfL, wfArgs, wfs]; rfl)) rfl (by first | exact newB_O | rfl) rfl ?_ | refine vr_calldU (hix') (gk rfl) rfl rfl rfl (by first | rfl | (simp only [wfRes, wfL, wfArgs, wfs]; rfl)) rfl (by first | exact newB_O | rfl) rfl ?_ | refine vr_calldU (clone_Pk q.packets (by omega)) (gk rfl) rfl rfl rfl (by first | rfl | (simp only [wfRes, wfL, wfArgs, wfs]; rfl)) rfl (by first | exact newB_O | rfl) rfl ?_ | refine vr_callMU [] (delete_Pk q.packets i hi (by omega)) (gk rfl) rfl rfl rowOf_isD rfl (by (repeat' (first | exact .nil | refine .cons ?_ ?_ | exact .of0 (.c .d) | exact .of0 .ep | exact .clo | exact .of0 (.c .nil) | exact .of0 (.c (cr_rowO (by simp) rfl (by first | rfl | omega) (fun _ => rfl))) | refine .of0 (.agg ?_) | exact .d | exact .nil | exact .of0 (.c (cr_row (by decide) rfl rfl (by repeat' (first | exact trivial | refine ⟨?_, ?_⟩ | rfl)))))) <;> fail) rfl (by first | rfl | exact hfl_O (fun _ => rfl) | exact hfl_O2 rfl (fun _ => rfl)) rfl (by first | rfl | (simp only [wfRes, wfL, wfArgs, wfs]; rfl)) rfl (by first | exact newB_O | rfl) rfl ?_) | (show VR _ _ _ (⟨_, .indexAddr _ _ _, _, _, _, _⟩ :: _) _ _ _; first | refine vr_index_rd (gk rfl) rfl rfl rfl rfl rfl (by omega) rfl ?_))
        | (show VR _ _ _ [] _ _ _; first | refine vr_nil ?_ | refine vr_nil_t (by kernel_rfl) ?_)
        | (show thenQ _ _ _ _; first | refine q_then_n ?_)
        | refine vc_seq ?_
        | refine vc_region ?_ | refine vc_region_t ?_
        | (show VC _ (.cond _ _ _) _ _; first | refine vc_cond_f rfl ?_)
        | refine vc_ret ?_ | refine vc_skip ?_
        | fail)
      all_goals first
        | (exfalso; omega)
        | skip
      refine retL_of (le_gen (l := [(4, .c (.ptr 4 0)), (5, .c (.ptr 5 0)), (6, AI 0)]) (b := [(4, .box (Qu.cs ⟨q.limit, q.packets.eraseIdx i⟩)), (5, .box (q.packets.getD i default).cs)]) (fun n => n) [28000] hS ?_ ?_ rfl (by first | rfl | (simp only [wfL, wfs]; rfl))) (ret_agg_agg_dL isRet_r rfl rfl rfl rfl rfl rfl rfl rfl rfl rfl rfl rfl)
      all_goals repeat' (first | exact trivial | refine ⟨⟨_, rfl, ?_⟩, ?_⟩ | exact .c .d | exact .c (.ptr rfl) | exact .boxD rfl rfl | refine .box ?_ | exact .nil | refine .cons ?_ ?_ | exact .d | fail)
      exact .frzOf (by simp) rfl (List.length_eraseIdx_of_lt hi).symm (fun _ => rfl)
  · rw [takeQ_bad hc]
    have hd : decide (checkQ q ≠ 0) = true := by simp [hc]
    repeat' (first
      | (show VR _ _ _ (_ :: _) _ _ _; first | refine x_opF rfl (by first | exact True.intro | omega) ?_ | (show VR _ _ _ (⟨_, .call ⟨.value _, _, _⟩, _, _, _, _⟩ :: _) _ _ _; first | refine vr_calldU (hck) (gk rfl) rfl rfl rfl (by first | rfl | (simp only [wfRes, wfL, wfArgs, wfs]; rfl)) rfl (by first | exact newB_O | rfl) rfl ?_))
      | (show VR _ _ _ [] _ _ _; first | refine vr_nil ?_)
      | (show thenQ _ _ _ _; first | refine q_then_n ?_ | refine q_then_r ?_)
      | refine vc_seq ?_
      | refine vc_region ?_
      | (show VC _ (.cond _ _ _) _ _; first | refine vc_cond_t rfl ?_ | refine x_know rfl (by assumption) ?_)
      | refine vc_ret ?_
      | fail)
    refine retL_of (le_gen0 (l := [(4, .c (.ptr 4 0)), (5, .c (.ptr 5 0)), (6, AI 1)]) (b := [(4, .box noQ.cs), (5, .box noP.cs)]) (fun n => n) ?_ ?_ rfl (by first | rfl | (simp only [wfL, wfs]; rfl))) (ret_agg_agg_dL isRet_r rfl rfl rfl rfl rfl rfl rfl rfl rfl rfl rfl rfl)
    all_goals repeat' (first | exact trivial | refine ⟨⟨_, rfl, ?_⟩, ?_⟩ | exact .c .d | exact .c (.ptr rfl) | exact .boxD rfl rfl | refine .box ?_ | exact .nil | refine .cons ?_ ?_ | exact .d | fail)
end Go.Proofs.Q
end
section
-- SXS
namespace Go.Proofs.Q
open Go Go.Sx
set_option maxRecDepth 4000
set_option linter.unusedSimpArgs false
set_option linter.unusedVariables false
attribute [local irreducible] VR VC thenQ blockQ retL
end Go.Proofs.Q
end
section
-- SXS
namespace Go.Proofs.Q
open Go Go.Sx
set_option maxRecDepth 4000
set_option linter.unusedSimpArgs false
set_option linter.unusedVariables false
attribute [local irreducible] VR VC thenQ blockQ retL
end Go.Proofs.Q
end
