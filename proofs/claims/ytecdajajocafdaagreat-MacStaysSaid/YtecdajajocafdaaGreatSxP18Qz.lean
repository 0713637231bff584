/-
  What functions of the given program hand back, by walks over its code, and plain laws on that. No condition.
-/
import Derived.Test.YtecdajajocafdaaGreatSxLibC
import Derived.Test.YtecdajajocafdaaGreatSxT18
import Derived.Test.YtecdajajocafdaaGreatSxLibB
section
-- SXS
-- SXM
namespace Go.Proofs.Q
open Go Go.Sx
set_option maxRecDepth 4000
set_option linter.unusedSimpArgs false
set_option linter.unusedVariables false
attribute [local irreducible] VR VC thenQ blockQ retL
instance Tryz.key3 : KeyTy Tryz.prog 3 1 := keyTy_int (TyOK.int Tryz.sxty3 rfl)
/-- A packet, a queue, a departure. -/
structure Pk where
  id : Int
  to : Int
  prio : Int
  born : Int
  life : Int
  data : ByteArray
  deriving DecidableEq, Inhabited
def Pk.enc (x : Pk) : List D := [.int .i64 x.id, .int .i64 x.to, .int .i64 x.prio, .int .i64 x.born, .int .i64 x.life, .str x.data]
def Pk.cs (x : Pk) : List C := [.d (.int .i64 x.id), .d (.int .i64 x.to), .d (.int .i64 x.prio), .d (.int .i64 x.born), .d (.int .i64 x.life), .d (.str x.data)]
abbrev pkA (x : Pk) : AV := .agg x.cs
abbrev pks (l : List Pk) : D := rdOf Pk.enc 6 l
theorem pk_sv {x y : Pk} (h : [SV.str x.data, SV.int IntKind.i64 x.life, SV.int IntKind.i64 x.born, SV.int IntKind.i64 x.prio, SV.int IntKind.i64 x.to, SV.int IntKind.i64 x.id].reverse = [SV.str y.data, SV.int IntKind.i64 y.life, SV.int IntKind.i64 y.born, SV.int IntKind.i64 y.prio, SV.int IntKind.i64 y.to, SV.int IntKind.i64 y.id].reverse) : x = y := by
  have h := List.reverse_inj.1 h
  cases x; cases y
  simp only [List.cons.injEq, SV.int.injEq, SV.bool.injEq, SV.str.injEq, true_and, and_true] at h
  obtain ⟨rfl, rfl, rfl, rfl, rfl, rfl⟩ := h
  rfl
instance : FlatE Pk.enc := ⟨fun _ => rfl⟩
structure Dp where
  id : Int
  slot : Int
  dropped : Bool
  deriving DecidableEq, Inhabited
def Dp.enc (x : Dp) : List D := [.int .i64 x.id, .int .i64 x.slot, .bool x.dropped]
def Dp.cs (x : Dp) : List C := [.d (.int .i64 x.id), .d (.int .i64 x.slot), .d (.bool x.dropped)]
abbrev dpA (x : Dp) : AV := .agg x.cs
abbrev dps (l : List Dp) : D := rdOf Dp.enc 3 l
instance : FlatE Dp.enc := ⟨fun _ => rfl⟩
structure Qu where
  limit : Int
  packets : List Pk
  deriving DecidableEq, Inhabited
def Qu.cs (q : Qu) : List C := [.d (.int .i64 q.limit), .d (pks q.packets)]
abbrev quA (q : Qu) : AV := .agg q.cs
def inI (n lo hi : Int) : Bool := decide (lo ≤ n ∧ n ≤ hi)
theorem within_spec (n lo hi : Int) : FnS Tryz.prog 146 [AI n, AI lo, AI hi] [] (AB (inI n lo hi)) [] := by
  refine FnS.of_body (enters_of Tryz.func146 (by kernel_rfl) rfl) Tryz.func146 rfl Tryz.ntmps146 Tryz.results146 rfl rfl rfl rfl fun E hS => ?_
  repeat' (first
    | (show VR _ _ _ (_ :: _) _ _ _; first | refine x_opF rfl (by first | exact True.intro | omega) ?_ | (refine x_gsplit rfl ?_ ?_ <;> intro h <;> have hq := h <;> (try simp only [hqs] at hq)))
    | (show VR _ _ _ [] _ _ _; first | refine vr_nil ?_)
    | (show thenQ _ _ _ _; first | refine q_then_n ?_)
    | refine vc_seq ?_
    | refine vc_region ?_
    | refine vc_ret ?_
    | fail)
  all_goals refine ret_bool isRet_r rfl ?_
  all_goals simp_all [inI] <;> omega
def formP (p : Pk) : Int :=
  if p.id < 0 ∨ inI p.to (-1) 31 = false ∨ inI p.prio 0 3 = false ∨ inI p.born 0 1099511627776 = false ∨ inI p.life 1 4096 = false then 2 else if 127 < p.data.size then 8 else 0
theorem form_spec (p : Pk) : FnS Tryz.prog 137 [pkA p] [] (AI (formP p)) [] := by
  refine FnS.of_body (enters_of Tryz.func137 (by kernel_rfl) rfl) Tryz.func137 rfl Tryz.ntmps137 Tryz.results137 rfl rfl rfl rfl fun E hS => ?_
  repeat' (first
    | (show VR _ _ _ (_ :: _) _ _ _; first | refine x_opF rfl (by first | exact True.intro | omega) ?_ | (show VR _ _ _ (⟨_, .call ⟨.value _, _, _⟩, _, _, _, _⟩ :: _) _ _ _; first | refine vr_calldU (within_spec _ _ _) (gk rfl) rfl rfl rfl (by first | rfl | (simp only [wfRes, wfL, wfArgs, wfs, mpO_namesB, mpO_namesI]; rfl)) rfl (by first | exact newB_O | rfl) rfl ?_) | (refine x_gsplit rfl ?_ ?_ <;> intro h <;> have hq := h <;> (try simp only [hqs] at hq)))
    | (show VR _ _ _ [] _ _ _; first | refine vr_nil ?_)
    | (show thenQ _ _ _ _; first | refine q_then_n ?_ | refine q_then_r ?_)
    | refine vc_seq ?_
    | refine vc_region ?_
    | (show VC _ (.cond _ _ _) _ _; first | refine vc_cond_t rfl ?_ | (refine x_cond rfl ?_ ?_ <;> intro h <;> have hq := h <;> (try simp only [hqs] at hq)))
    | refine vc_ret ?_ | refine vc_skip ?_
    | fail)
  all_goals refine ret_int isRet_r rfl ?_
  all_goals unfold formP
  all_goals first
    | (simp_all; done)
    | (simp_all; omega)
    | trace_state
theorem packet_spec (p : Pk) : FnS Tryz.prog 99 [pkA p] [] (AI (formP p)) [] := by
  refine FnS.of_body (enters_of Tryz.func99 (by kernel_rfl) rfl) Tryz.func99 rfl Tryz.ntmps99 Tryz.results99 rfl rfl rfl rfl fun E hS => ?_
  repeat' (first
    | (show VR _ _ _ (_ :: _) _ _ _; first | refine x_opF rfl (by first | exact True.intro | omega) ?_ | (refine x_gsplit rfl ?_ ?_ <;> intro h <;> have hq := h <;> (try simp only [hqs] at hq)))
    | (show VR _ _ _ [] _ _ _; first | refine vr_nil ?_)
    | (show thenQ _ _ _ _; first | refine q_then_n ?_ | refine q_then_r ?_)
    | refine vc_seq ?_
    | refine vc_region ?_
    | (show VC _ (.cond _ _ _) _ _; first | refine vc_cond_t rfl ?_ | (refine x_cond rfl ?_ ?_ <;> intro h <;> have hq := h <;> (try simp only [hqs] at hq)))
    | refine vc_ret ?_ | refine vc_skip ?_
    | fail)
  all_goals refine ret_int isRet_r rfl ?_
  all_goals unfold formP inI
  all_goals first
    | (simp_all; done)
    | (simp_all; omega)
    | trace_state
end Go.Proofs.Q
end
section
-- SXS
-- SXM
namespace Go.Proofs.Q
open Go Go.Sx
set_option maxRecDepth 4000
set_option linter.unusedSimpArgs false
set_option linter.unusedVariables false
attribute [local irreducible] VR VC thenQ blockQ retL
def pkErr (l : List Pk) (k : Nat) : Int :=
  if formP (l.getD k default) ≠ 0 then formP (l.getD k default)
  else if ((l.take k).any fun x => decide (x.id = (l.getD k default).id)) = true then 6
  else if 0 < k ∧ (l.getD k default).prio < (l.getD (k - 1) default).prio then 5 else 0
def checkQ (q : Qu) : Int := if inI q.limit 1 64 = false then 2 else if q.limit < q.packets.length then 8 else firstErr q.packets.length (pkErr q.packets)
theorem checkQ_hit {q : Qu} {k : Nat} {e : Int} (h1 : inI q.limit 1 64 = true) (h0 : (q.packets.length : Int) ≤ q.limit) (h : k ≤ q.packets.length ∧ ∀ i, i < k → pkErr q.packets i = 0) (hk : k < q.packets.length) (he : pkErr q.packets k = e) (hne : e ≠ 0) : e = checkQ q := by
  subst he
  rw [checkQ, if_neg (by simp [h1]), if_neg (by omega), firstErr_hit h.2 hk hne]
theorem checkQ_none {q : Qu} {k : Nat} (h1 : inI q.limit 1 64 = true) (h0 : (q.packets.length : Int) ≤ q.limit) (h : k ≤ q.packets.length ∧ ∀ i, i < k → pkErr q.packets i = 0) (hk : q.packets.length ≤ k) : 0 = checkQ q := by
  rw [checkQ, if_neg (by simp [h1]), if_neg (by omega), firstErr_none fun i hi => h.2 i (by omega)]
set_option maxRecDepth 4000 in
set_option maxHeartbeats 200000 in
theorem checkQ_spec (q : Qu) : FnS Tryz.prog 97 [quA q] [] (AI (checkQ q)) [] := by
  refine FnS.of_body (enters_of Tryz.func97 (by kernel_rfl) rfl) Tryz.func97 rfl Tryz.ntmps97 Tryz.results97 rfl rfl rfl rfl fun E hS => ?_
  repeat' (first
    | (show VR _ _ _ (_ :: _) _ _ _; first | refine x_opF rfl (by first | exact True.intro | omega) ?_ | (show VR _ _ _ (⟨_, .call ⟨.value _, _, _⟩, _, _, _, _⟩ :: _) _ _ _; first | refine vr_calldU (within_spec _ _ _) (gk rfl) rfl rfl rfl (by first | rfl | (simp only [wfRes, wfL, wfArgs, wfs, mpO_namesB, mpO_namesI]; rfl)) rfl (by first | exact newB_O | rfl) rfl ?_) | (show VR _ _ _ (⟨_, .makeMap _ none, _, _, _, _⟩ :: _) _ _ _; first | refine vr_makeMapB (gk rfl) rfl rfl rfl rfl ?_))
    | (show VR _ _ _ [] _ _ _; first | refine vr_nil ?_)
    | (show thenQ _ _ _ _; first | refine q_then_n ?_ | refine q_then_r ?_)
    | refine vc_seq ?_
    | refine vc_region ?_
    | (show VC _ (.cond _ _ _) _ _; first | (refine x_cond rfl ?_ ?_ <;> intro h <;> have hq := h <;> (try simp only [hqs] at hq)))
    | refine vc_ret ?_ | refine vc_block ?_ | refine vc_skip ?_
    | fail)
  · refine ret_int isRet_r rfl ?_
    rw [checkQ, if_pos hq]
  · refine ret_int isRet_r rfl ?_
    rw [checkQ, if_neg (by simp_all), if_pos (by omega)]
  · have h1 : inI q.limit 1 64 = true := by simp_all
    have h2 : q.limit ≤ 64 := by simp [inI] at h1; omega
    refine vc_loopI (ι := Nat) (fun k => stOf [(1, .c (.ptr 1 0)), (3, .c (.mp 17)), (19, AD (pks q.packets)), (20, AI q.packets.length), (21, AI k)] [(1, .box q.cs), (17, .map (mpO k1 cfB (setO Pk.id (q.packets.take k))))]) (fun k => k ≤ q.packets.length ∧ ∀ i, i < k → pkErr q.packets i = 0) (fun k => q.packets.length - k) 0 ⟨Nat.zero_le _, fun i hi => absurd hi (Nat.not_lt_zero _)⟩ ?_ ?_
    · refine le_gen0 (fun n => n) ?_ ?_ rfl (by first | rfl | (simp only [wfL, wfs, mpO_namesB, mpO_namesI]; rfl))
      all_goals repeat' (first | exact trivial | refine ⟨⟨_, rfl, ?_⟩, ?_⟩ | exact .c .d | exact .c (.ptr rfl) | exact .c (.mp rfl) | exact .boxD rfl rfl | exact .mapO (fun _ => rfl) rfl | fail)
    · intro k hk
      repeat' (first
        | (show VR _ _ _ (_ :: _) _ _ _; first | refine x_opF rfl (by first | exact True.intro | omega) ?_ | (show VR _ _ _ (⟨_, .call ⟨.value _, _, _⟩, _, _, _, _⟩ :: _) _ _ _; first | refine vr_calldU (form_spec _) (gk rfl) rfl rfl rfl (by first | rfl | (simp only [wfRes, wfL, wfArgs, wfs, mpO_namesB, mpO_namesI]; rfl)) rfl (by first | exact newB_O | rfl) rfl ?_) | (show VR _ _ _ (⟨_, .indexAddr _ _ _, _, _, _, _⟩ :: _) _ _ _; first | refine vr_index_rd (gk rfl) rfl rfl rfl rfl rfl (by omega) rfl ?_) | (show VR _ _ _ (⟨_, .lookup _ _ _ _, _, _, _, _⟩ :: _) _ _ _; first | refine vr_lookupB (gk rfl) rfl rfl rfl rfl rfl rfl ?_))
        | (show VR _ _ _ [] _ _ _; first | refine vr_nil ?_)
        | (show thenQ _ _ _ _; first | refine q_then_n ?_ | refine q_then_x ?_ | refine q_then_r ?_)
        | (show blockQ _ _ _ _; first | refine q_blk_r ?_ | refine q_blk_x ?_)
        | (show VC _ (.seq _ _) _ _; (fail_if_success (show VC _ (.seq (.seq (.region 14 _ _) _) _) _ _)); (fail_if_success (show VC _ (.seq (.region 14 _ _) _) _ _)); refine vc_seq ?_)
        | refine vc_region ?_
        | (show VC _ (.cond _ _ _) _ _; first | (refine x_cond rfl ?_ ?_ <;> intro h <;> have hq := h <;> (try simp only [hqs] at hq)))
        | refine vc_ret ?_ | refine vc_exit ?_ | refine vc_block ?_ | refine vc_skip ?_
        | fail)
      · refine ret_int isRet_r rfl ?_
        refine (checkQ_hit (e := formP (q.packets.getD k default)) h1 (by omega) hk (by omega) ?_ hq).symm
        rw [pkErr, if_pos hq]
      · rw [setO_asc] at hq
        refine ret_int isRet_r rfl ?_
        refine (checkQ_hit (e := 6) h1 (by omega) hk (by omega) ?_ (by decide)).symm
        rw [pkErr, if_neg (by omega), if_pos hq]
      · clear h
        rw [setO_asc] at hq
        have ha := hq
        clear hq
        repeat' (first
          | (show VR _ _ _ (_ :: _) _ _ _; first | refine x_opF rfl (by first | exact True.intro | omega) ?_ | (show VR _ _ _ (⟨_, .indexAddr _ _ _, _, _, _, _⟩ :: _) _ _ _; first | refine vr_index_rdP (gk rfl) rfl rfl rfl rfl rfl (by omega) rfl ?_) | (show VR _ _ _ (⟨_, .mapUpdate _ _ _ _, _, _, _, _⟩ :: _) _ _ _; first | refine vr_mapUpdateB (gk rfl) rfl rfl rfl rfl rfl ?_) | (refine x_gsplit rfl ?_ ?_ <;> intro h <;> have hq := h <;> (try simp only [hqs] at hq)))
          | (show VR _ _ _ [] _ _ _; first | refine vr_nil ?_ | refine vr_nil_t (by kernel_rfl) ?_)
          | (show thenQ _ _ _ _; first | refine q_then_n ?_ | refine q_then_r ?_)
          | (show blockQ _ _ _ _; first | refine q_blk_n ?_ | refine q_blk_r ?_)
          | refine vc_seq ?_
          | refine vc_region ?_ | refine vc_region_t ?_
          | (show VC _ (.cond _ _ _) _ _; first | refine vc_cond_f rfl ?_ | (refine x_cond rfl ?_ ?_ <;> intro h <;> have hq := h <;> (try simp only [hqs] at hq)))
          | refine vc_ret ?_ | refine vc_skip ?_
          | fail)
        · refine ret_int isRet_r rfl ?_
          refine (checkQ_hit (e := 5) h1 (by omega) hk (by omega) ?_ (by decide)).symm
          rw [pkErr, if_neg (by omega), if_neg (by rw [ha]; decide), if_pos (by omega)]
        all_goals
          refine ⟨k + 1, ⟨by omega, fun i hi => ?_⟩, by omega, ?_⟩
          · by_cases hik : i < k
            · exact hk.2 i hik
            · have : i = k := by omega
              subst this
              rw [pkErr, if_neg (by omega), if_neg (by rw [ha]; decide), if_neg (by omega)]
          · have e : putA (setO Pk.id (q.packets.take k)) (q.packets.getD k default).id true = setO Pk.id (q.packets.take (k + 1)) := by
              rw [take_getD (by omega)]; exact setO_put ha
            rw [← e]
            refine le_gen0 (fun n => n) ?_ ?_ rfl (by first | rfl | (simp only [wfL, wfs, mpO_namesB, mpO_namesI]; rfl))
            all_goals repeat' (first | exact trivial | refine ⟨⟨_, rfl, ?_⟩, ?_⟩ | exact .c .d | exact .c (.ptr rfl) | exact .c (.mp rfl) | exact .boxD rfl rfl | exact .mapO (fun _ => rfl) rfl | fail)
      · refine ret_int isRet_r rfl ?_
        exact (checkQ_none h1 (by omega) hk (by omega)).symm
theorem fst_lt {α : Type} [Inhabited α] {l : List α} {p : α → Bool} {k : Nat} (hk : k < l.length) (hp : p (l.getD k default) = true) : decide (oI (fstO l p) < (k : Int)) = (l.take k).any p := by
  cases hf : fstO l p with
  | none =>
    have := fstO_notmem hf _ (getD_mem hk)
    rw [hp] at this; cases this
  | some i =>
    obtain ⟨hi, hpi, hlt⟩ := fstO_some hf
    by_cases h : i < k
    · have h1 : decide (oI (some i) < (k : Int)) = true := by simp [oI]; omega
      rw [h1]
      symm
      rw [List.any_eq_true]
      refine ⟨l.getD i default, ?_, hpi⟩
      rw [List.getD_eq_getElem?_getD, List.getElem?_eq_getElem hi]
      exact List.mem_take_iff_getElem.2 ⟨i, by omega, rfl⟩
    · have h1 : decide (oI (some i) < (k : Int)) = false := by simp [oI]; omega
      rw [h1]
      symm
      rw [List.any_eq_false]
      intro x hx
      obtain ⟨j, hj, _, rfl⟩ := mem_take_getD hx
      rw [hlt j (by omega)]; simp
/-- The first of a list's elements with an ID. -/
theorem index_spec (l : List Pk) (id : Int) : FnS Tryz.prog 48 [AD (pks l), AI id] [] (AI (oI (fstO l fun x => decide (x.id = id)))) [] := by
  refine FnS.of_body (enters_of Tryz.func48 (by kernel_rfl) rfl) Tryz.func48 rfl Tryz.ntmps48 Tryz.results48 rfl rfl rfl rfl fun E hS => ?_
  refine vc_bound (t := 0) rfl fun hb => ?_
  repeat' (first
    | (show VR _ _ _ (_ :: _) _ _ _; first | refine x_opF rfl (by first | exact True.intro | omega) ?_)
    | (show VR _ _ _ [] _ _ _; first | refine vr_nil ?_)
    | (show thenQ _ _ _ _; first | refine q_then_n ?_)
    | refine vc_seq ?_
    | refine vc_region ?_
    | refine vc_block ?_
    | fail)
  refine vc_loopI (ι := Nat) (fun k => stOf [(0, AD (pks l)), (1, AI id), (5, AI k)] []) (fun k => k ≤ l.length ∧ ∀ i, i < k → decide ((l.getD i default).id = id) = false) (fun k => l.length - k) 0 ⟨Nat.zero_le _, fun i hi => absurd hi (Nat.not_lt_zero _)⟩ ?_ ?_
  · refine le_gen0 (fun n => n) ?_ ?_ rfl (by first | rfl | (simp only [wfL, wfs, mpO_namesB, mpO_namesI]; rfl))
    all_goals repeat' (first | exact trivial | refine ⟨⟨_, rfl, ?_⟩, ?_⟩ | exact .c .d | fail)
  · intro k hk
    repeat' (first
      | (show VR _ _ _ (_ :: _) _ _ _; first | refine x_opF rfl (by first | exact True.intro | omega) ?_ | (show VR _ _ _ (⟨_, .indexAddr _ _ _, _, _, _, _⟩ :: _) _ _ _; first | refine vr_index_rd (gk rfl) rfl rfl rfl rfl rfl (by omega) rfl ?_))
      | (show VR _ _ _ [] _ _ _; first | refine vr_nil ?_)
      | (show thenQ _ _ _ _; first | refine q_then_n ?_ | refine q_then_x ?_ | refine q_then_r ?_)
      | (show blockQ _ _ _ _; first | refine q_blk_n ?_ | refine q_blk_r ?_ | refine q_blk_x ?_)
      | refine vc_seq ?_
      | refine vc_region ?_
      | (show VC _ (.cond _ _ _) _ _; first | (refine x_cond rfl ?_ ?_ <;> intro h <;> have hq := h <;> (try simp only [hqs] at hq)))
      | refine vc_ret ?_ | refine vc_exit ?_ | refine vc_block ?_ | refine vc_skip ?_
      | fail)
    · refine ret_int isRet_r rfl ?_
      rw [fstO_hit hk.2 (by omega) (by simpa using hq)]; rfl
    · refine ⟨k + 1, ⟨by omega, fun i hi => ?_⟩, by omega, ?_⟩
      · by_cases hik : i < k
        · exact hk.2 i hik
        · have : i = k := by omega
          subst this
          simpa using hq
      · refine le_gen0 (fun n => n) ?_ ?_ rfl (by first | rfl | (simp only [wfL, wfs, mpO_namesB, mpO_namesI]; rfl))
        all_goals repeat' (first | exact trivial | refine ⟨⟨_, rfl, ?_⟩, ?_⟩ | exact .c .d | fail)
    · refine ret_int isRet_r rfl ?_
      have : k = l.length := by omega
      subst this
      rw [fstO_none hk.2]; rfl
set_option maxHeartbeats 1000000 in
theorem r_checkQ_spec (q : Qu) : FnS Tryz.prog 43 [quA q] [] (AI (checkQ q)) [] := by
  refine FnS.of_body (enters_of Tryz.func43 (by kernel_rfl) rfl) Tryz.func43 rfl Tryz.ntmps43 Tryz.results43 rfl rfl rfl rfl fun E hS => ?_
  repeat' (first
    | (show VR _ _ _ (_ :: _) _ _ _; first | refine x_opF rfl (by first | exact True.intro | omega) ?_ | (refine x_gsplit rfl ?_ ?_ <;> intro h <;> have hq := h <;> (try simp only [hqs] at hq)))
    | (show VR _ _ _ [] _ _ _; first | refine vr_nil ?_)
    | (show thenQ _ _ _ _; first | refine q_then_n ?_ | refine q_then_r ?_)
    | refine vc_seq ?_
    | refine vc_region ?_
    | (show VC _ (.cond _ _ _) _ _; first | refine vc_cond_t rfl ?_ | (refine x_cond rfl ?_ ?_ <;> intro h <;> have hq := h <;> (try simp only [hqs] at hq)))
    | refine vc_ret ?_ | refine vc_block ?_ | refine vc_skip ?_
    | fail)
  all_goals first
    | (refine ret_int isRet_r rfl ?_
       first
       | (rw [checkQ, if_pos (by simp [inI]; omega)]; done)
       | (rw [checkQ, if_neg (by simp [inI]; omega), if_pos (by omega)]; done))
    | skip
  · have h1 : inI q.limit 1 64 = true := by simp [inI]; omega
    refine vc_loopI (ι := Nat) (fun k => stOf [(1, .c (.ptr 1 0)), (3, AI k)] [(1, .box q.cs)]) (fun k => k ≤ q.packets.length ∧ ∀ i, i < k → pkErr q.packets i = 0) (fun k => q.packets.length - k) 0 ⟨Nat.zero_le _, fun i hi => absurd hi (Nat.not_lt_zero _)⟩ ?_ ?_
    · refine le_gen0 (fun n => n) ?_ ?_ rfl (by first | rfl | (simp only [wfL, wfs, mpO_namesB, mpO_namesI]; rfl))
      all_goals repeat' (first | exact trivial | refine ⟨⟨_, rfl, ?_⟩, ?_⟩ | exact .c .d | exact .c (.ptr rfl) | exact .boxD rfl rfl | fail)
    · intro k hk
      have hx := fst_lt (l := q.packets) (k := k) (p := fun x => decide (x.id = (q.packets.getD k default).id))
      repeat' (first
        | (show VR _ _ _ (_ :: _) _ _ _; first | refine x_opF rfl (by first | exact True.intro | omega) ?_ | (show VR _ _ _ (⟨_, .call ⟨.value _, _, _⟩, _, _, _, _⟩ :: _) _ _ _; first | refine vr_calldU (packet_spec _) (gk rfl) rfl rfl rfl (by first | rfl | (simp only [wfRes, wfL, wfArgs, wfs, mpO_namesB, mpO_namesI]; rfl)) rfl (by first | exact newB_O | rfl) rfl ?_ | refine vr_calldU (index_spec _ _) (gk rfl) rfl rfl rfl (by first | rfl | (simp only [wfRes, wfL, wfArgs, wfs, mpO_namesB, mpO_namesI]; rfl)) rfl (by first | exact newB_O | rfl) rfl ?_) | (show VR _ _ _ (⟨_, .indexAddr _ _ _, _, _, _, _⟩ :: _) _ _ _; first | refine vr_index_rd (gk rfl) rfl rfl rfl rfl rfl (by omega) rfl ?_))
        | (show VR _ _ _ [] _ _ _; first | refine vr_nil ?_)
        | (show thenQ _ _ _ _; first | refine q_then_n ?_ | refine q_then_x ?_ | refine q_then_r ?_)
        | (show blockQ _ _ _ _; first | refine q_blk_r ?_ | refine q_blk_x ?_)
        | (show VC _ (.seq _ _) _ _; (fail_if_success (show VC _ (.seq (.seq (.region 14 _ _) _) _) _ _)); (fail_if_success (show VC _ (.seq (.region 14 _ _) _) _ _)); refine vc_seq ?_)
        | refine vc_region ?_
        | (show VC _ (.cond _ _ _) _ _; first | (refine x_cond rfl ?_ ?_ <;> intro h <;> have hq := h <;> (try simp only [hqs] at hq)))
        | refine vc_ret ?_ | refine vc_exit ?_ | refine vc_block ?_ | refine vc_skip ?_
        | fail)
      · refine ret_int isRet_r rfl ?_
        refine (checkQ_hit (e := formP (q.packets.getD k default)) h1 (by omega) hk (by omega) ?_ hq).symm
        rw [pkErr, if_pos hq]
      · refine ret_int isRet_r rfl ?_
        refine (checkQ_hit (e := 6) h1 (by omega) hk (by omega) ?_ (by decide)).symm
        rw [pkErr, if_neg (by omega), if_pos (by rw [← hx (by omega) (by simp)]; exact h)]
      · have ha := (hx (by omega) (by simp)).symm.trans h
        clear h hq hx
        repeat' (first
          | (show VR _ _ _ (_ :: _) _ _ _; first | refine x_opF rfl (by first | exact True.intro | omega) ?_ | (show VR _ _ _ (⟨_, .indexAddr _ _ _, _, _, _, _⟩ :: _) _ _ _; first | refine vr_index_rdP (gk rfl) rfl rfl rfl rfl rfl (by omega) rfl ?_) | (refine x_gsplit rfl ?_ ?_ <;> intro h <;> have hq := h <;> (try simp only [hqs] at hq)))
          | (show VR _ _ _ [] _ _ _; first | refine vr_nil ?_ | refine vr_nil_t (by kernel_rfl) ?_)
          | (show thenQ _ _ _ _; first | refine q_then_n ?_ | refine q_then_r ?_)
          | (show blockQ _ _ _ _; first | refine q_blk_n ?_ | refine q_blk_r ?_)
          | refine vc_seq ?_
          | refine vc_region ?_ | refine vc_region_t ?_
          | (show VC _ (.cond _ _ _) _ _; first | refine vc_cond_f rfl ?_ | (refine x_cond rfl ?_ ?_ <;> intro h <;> have hq := h <;> (try simp only [hqs] at hq)))
          | refine vc_ret ?_ | refine vc_skip ?_
          | fail)
        · refine ret_int isRet_r rfl ?_
          refine (checkQ_hit (e := 5) h1 (by omega) hk (by omega) ?_ (by decide)).symm
          rw [pkErr, if_neg (by omega), if_neg (by rw [ha]; decide), if_pos (by omega)]
        all_goals
          refine ⟨k + 1, ⟨by omega, fun i hi => ?_⟩, by omega, ?_⟩
          · by_cases hik : i < k
            · exact hk.2 i hik
            · have : i = k := by omega
              subst this
              rw [pkErr, if_neg (by omega), if_neg (by rw [ha]; decide), if_neg (by omega)]
          · refine le_gen0 (fun n => n) ?_ ?_ rfl (by first | rfl | (simp only [wfL, wfs, mpO_namesB, mpO_namesI]; rfl))
            all_goals repeat' (first | exact trivial | refine ⟨⟨_, rfl, ?_⟩, ?_⟩ | exact .c .d | exact .c (.ptr rfl) | exact .boxD rfl rfl | fail)
      · refine ret_int isRet_r rfl ?_
        exact (checkQ_none h1 (by omega) hk (by omega)).symm
end Go.Proofs.Q
end
section
-- SXS
namespace Go.Proofs.Q
open Go Go.Sx
set_option maxRecDepth 4000
set_option linter.unusedSimpArgs false
set_option linter.unusedVariables false
attribute [local irreducible] VR VC thenQ blockQ retL
abbrev predφPk (p : Pk → Bool) : List DV → DV → Prop := fun ds r => ∃ x : Pk, ds = [.agg x.enc] ∧ r = .d (.bool (p x))
theorem idxf_Pk (l : List Pk) (p : Pk → Bool) : FnS Tryz.prog 115 [AD (pks l), .clo (predφPk p)] [] (AI (oI (fstO l p))) [] := by
  refine FnS.of_body (enters_of Tryz.func115 (by kernel_rfl) rfl) Tryz.func115 rfl Tryz.ntmps115 Tryz.results115 rfl rfl rfl rfl fun E hS => ?_
  refine vc_bound (t := 0) rfl fun hb => ?_
  repeat' (first
    | (show VR _ _ _ (_ :: _) _ _ _; first | refine x_opF rfl (by first | exact True.intro | omega) ?_)
    | (show VR _ _ _ [] _ _ _; first | refine vr_nil ?_)
    | (show thenQ _ _ _ _; first | refine q_then_n ?_)
    | refine vc_seq ?_
    | refine vc_region ?_
    | refine vc_block ?_
    | fail)
  refine vc_loopI (ι := Nat) (fun k => stOf [(0, AD (pks l)), (1, .clo (predφPk p)), (7, AI l.length), (8, AI k)] []) (fun k => k ≤ l.length ∧ ∀ i, i < k → p (l.getD i default) = false) (fun k => l.length - k) 0 ⟨Nat.zero_le _, fun i hi => absurd hi (Nat.not_lt_zero _)⟩ ?_ ?_
  · exact le_of ⟨rfl, rfl, rfl, rfl, trivial⟩ trivial rfl
  · intro k hk
    repeat' (first
      | (show VR _ _ _ (_ :: _) _ _ _; first | refine x_opF rfl (by first | exact True.intro | omega) ?_ | (show VR _ _ _ (⟨_, .call ⟨.value _, _, _⟩, _, _, _, _⟩ :: _) _ _ _; first | refine vr_clo (⟨_, rfl, rfl⟩) (gk rfl) rfl rfl rfl rfl ?_) | (show VR _ _ _ (⟨_, .indexAddr _ _ _, _, _, _, _⟩ :: _) _ _ _; first | refine vr_index_rd (gk rfl) rfl rfl rfl rfl rfl (by omega) rfl ?_))
      | (show VR _ _ _ [] _ _ _; first | refine vr_nil ?_)
      | (show thenQ _ _ _ _; first | refine q_then_n ?_ | refine q_then_x ?_ | refine q_then_r ?_)
      | (show blockQ _ _ _ _; first | refine q_blk_n ?_ | refine q_blk_r ?_ | refine q_blk_x ?_)
      | refine vc_seq ?_
      | refine vc_region ?_
      | (show VC _ (.cond _ _ _) _ _; first | (refine x_cond rfl ?_ ?_ <;> intro h <;> have hq := h <;> (try simp only [hqs] at hq)))
      | refine vc_ret ?_ | refine vc_exit ?_ | refine vc_block ?_ | refine vc_skip ?_
      | fail)
    · refine ret_int isRet_r rfl ?_
      rw [fstO_hit hk.2 (by omega) h]; rfl
    · refine ⟨k + 1, ⟨by omega, fun i hi => ?_⟩, by omega, le_of ⟨rfl, rfl, rfl, rfl, trivial⟩ trivial rfl⟩
      by_cases hik : i < k
      · exact hk.2 i hik
      · have : i = k := by omega
        subst this
        exact h
    · refine ret_int isRet_r rfl ?_
      have : k = l.length := by omega
      subst this
      rw [fstO_none hk.2]; rfl
theorem containsf_Pk (l : List Pk) (p : Pk → Bool) : FnS Tryz.prog 95 [AD (pks l), .clo (predφPk p)] [] (AB (l.any p)) [] := by
  refine FnS.of_body (enters_of Tryz.func95 (by kernel_rfl) rfl) Tryz.func95 rfl Tryz.ntmps95 Tryz.results95 rfl rfl rfl rfl fun E hS => ?_
  repeat' (first
    | (show VR _ _ _ (_ :: _) _ _ _; first | refine x_opF rfl (by first | exact True.intro | omega) ?_ | (show VR _ _ _ (⟨_, .call ⟨.value _, _, _⟩, _, _, _, _⟩ :: _) _ _ _; first | refine vr_callU [] (idxf_Pk l p) (gk rfl) rfl (by (repeat' (first | exact .nil | refine .cons ?_ ?_ | exact .of0 (.c .d) | exact .of0 .ep | exact .clo | exact .of0 (.c .nil) | exact .of0 (.c (cr_rowO (by simp) rfl (by first | rfl | omega) (fun _ => rfl))) | refine .of0 (.agg ?_) | exact .d | exact .nil | exact .of0 (.c (cr_row (by decide) rfl rfl (by repeat' (first | exact trivial | refine ⟨?_, ?_⟩ | rfl)))))) <;> fail) (by first | rfl | exact hfl_O (fun _ => rfl) | exact hfl_O2 rfl (fun _ => rfl)) rfl (by first | rfl | (simp only [wfRes, wfL, wfArgs, wfs]; rfl)) rfl (by first | exact newB_O | rfl) rfl ?_))
    | (show VR _ _ _ [] _ _ _; first | refine vr_nil ?_)
    | (show thenQ _ _ _ _; first | refine q_then_n ?_)
    | refine vc_seq ?_
    | refine vc_region ?_
    | refine vc_ret ?_
    | fail)
  all_goals exact ret_bool isRet_r rfl (fstO_any _ _).symm
theorem clone_Pk (l : List Pk) (hl : l.length ≤ 100000) : FnS Tryz.prog 132 [AD (pks l)] [] (.c (.row 7 l.length)) [(7, .row 71 6 (rowOf Pk.enc l))] := by
  refine FnS.of_body (enters_of Tryz.func132 (by kernel_rfl) rfl) Tryz.func132 rfl Tryz.ntmps132 Tryz.results132 rfl rfl rfl rfl fun E hS => ?_
  refine vc_retL ?_
  repeat' (first
    | (show VR _ _ _ (_ :: _) _ _ _; first | refine x_opF rfl (by first | exact True.intro | omega) ?_)
    | (show VR _ _ _ [] _ _ _; first | refine vr_nil ?_)
    | (show thenQ _ _ _ _; first | refine q_then_n ?_)
    | (show VC _ (.seq _ _) _ _; (fail_if_success (show VC _ (.seq (.seq (.region 1 _ _) _) _) _ _)); (fail_if_success (show VC _ (.seq (.region 1 _ _) _) _ _)); refine vc_seq ?_)
    | refine vc_region ?_
    | fail)
  refine vc_seq ?_
  refine vc_seq ?_
  refine vc_isnil rfl rfl rfl rfl fun b hb => ?_
  repeat' (first
    | (show VR _ _ _ (_ :: _) _ _ _; first | refine x_opF rfl (by first | exact True.intro | omega) ?_ | (show VR _ _ _ (⟨_, .call ⟨.builtin .append, _, _⟩, _, _, _, _⟩ :: _) _ _ _; first | refine vr_append0 (gk rfl) rfl rfl rfl (by first | rfl | exact rowOf_length.symm | (simp only [lns] <;> omega)) (by first | exact .row rfl (by first | rfl | exact rowOf_length.symm) | exact .rd | exact .nils) rfl rfl rfl (by (try dsimp only); omega) rfl rfl ?_))
    | (show VR _ _ _ [] _ _ _; first | refine vr_nil ?_)
    | (show thenQ _ _ _ _; first | refine q_then_n ?_ | refine q_then_r ?_)
    | refine vc_seq ?_
    | refine vc_region ?_
    | (show VC _ (.cond _ _ _) _ _; first | (refine x_cond rfl ?_ ?_ <;> intro h <;> have hq := h <;> (try simp only [hqs] at hq)))
    | refine vc_ret ?_ | refine vc_skip ?_
    | fail)
  · have h0 : l = [] := List.eq_nil_of_length_eq_zero (hb (by assumption))
    subst h0
    exact retL_of (le_nil (T := 71) (sz := 6) (nm := 7) (t := 2) rfl rfl) (ret_row isRet_r rfl rfl)
  · refine retL_of (le_gen0 (l := [(2, .c (.row 7 l.length))]) (b := [(7, .row 71 6 (rowOf Pk.enc l))]) (fun n => n) ⟨⟨_, rfl, .c (.row rfl (by simp))⟩, trivial⟩ ⟨⟨_, rfl, .rowD ?_ rowOf_isD⟩, trivial⟩ rfl (by simp only [wfL, wfs]; rfl)) (ret_row isRet_r rfl rfl)
    exact (List.nil_append _).trans (rd_rowOf (enc := Pk.enc) (sz := 6) fun _ => rfl)
instance : Overlaps Tryz.prog 168 :=
  ⟨25, 4, 71, 6, TyOK.slice Tryz.sxty25 rfl, fun w => TyOK.run_size Tryz.sxty71 w, fun args w => run_callFunc_extern Tryz.func168 (by kernel_rfl) (by kernel_rfl) (by kernel_rfl) (by kernel_rfl) args w⟩
abbrev Pk1 (x : Pk) : D := .rd 1 6 fun _ j => x.enc.getD j .nils
instance ovl_Pk : Overlaps Tryz.prog 168 :=
  ⟨25, 4, 71, 6, TyOK.slice Tryz.sxty25 rfl, fun w => TyOK.run_size Tryz.sxty71 w, fun args w => run_callFunc_extern Tryz.func168 (by kernel_rfl) (by kernel_rfl) (by kernel_rfl) (by kernel_rfl) args w⟩
theorem ins_row_Pk (l : List Pk) (i : Nat) (x : Pk) : rowOf Pk.enc (insAt l i x) = List.take i (rowOf Pk.enc l) ++ (Pk.enc x).map C.d :: List.drop i (rowOf Pk.enc l) := by
  rw [insAt, rowOf_append, rowOf_take, rowOf_drop]
  rfl
theorem insert_Pk (l : List Pk) (i : Nat) (x : Pk) (hl : l.length ≤ 100000) (hi : i ≤ l.length) : FnS Tryz.prog 140 [.c (.row 0 l.length), AI i, AD (Pk1 x)] [(0, .row 71 6 (rowOf Pk.enc l))]
    (.c (.row 1 (l.length + 1))) [(1, .row 71 6 (rowOf Pk.enc (insAt l i x)))] := by
  refine FnS.of_bodyM (enters_of Tryz.func140 (by kernel_rfl) rfl) Tryz.func140 rfl Tryz.ntmps140 Tryz.results140 rfl (by first | rfl | (simp only [wfRes, wfL, wfArgs, wfs]; rfl)) rfl fun E => ?_
  refine vc_retL ?_
  repeat' (first
    | (show VR _ _ _ (_ :: _) _ _ _; first | refine x_opF rfl (by first | exact True.intro | omega) ?_ | (show VR _ _ _ (⟨_, .call ⟨.builtin .len, _, _⟩, _, _, _, _⟩ :: _) _ _ _; first | refine vr_len_row (gk rfl) rfl rfl (by first | rfl | exact rowOf_length.symm | (simp only [lns] <;> omega)) rfl rfl ?_) | (show VR _ _ _ (⟨_, .call ⟨.builtin .append, _, _⟩, _, _, _, _⟩ :: _) _ _ _; first | refine vr_append0 (gk rfl) rfl rfl rfl (by first | rfl | exact rowOf_length.symm | (simp only [lns] <;> omega)) (by first | exact .row rfl (by first | rfl | exact rowOf_length.symm) | exact .rd | exact .nils) rfl rfl rfl (by (try dsimp only); omega) rfl rfl ?_) | (show VR _ _ _ (⟨_, .slice _ _ _ _ _, _, _, _, _⟩ :: _) _ _ _; first | refine vr_slice_sub (gk rfl) rfl rfl (by first | exact .row | exact .full) rfl rfl (by first | exact .no | exact .int rfl rfl | exact .nat rfl (by omega)) (by first | exact .no | exact .int rfl rfl | exact .nat rfl (by omega)) (by first | omega | (simp only [lns]; omega)) (by first | omega | (simp only [lns]; omega)) (by first | omega | (simp only [lns]; omega)) rfl ?_))
    | (show VR _ _ _ [] _ _ _; first | refine vr_nil ?_)
    | (show thenQ _ _ _ _; first | refine q_then_n ?_ | refine q_then_r ?_)
    | (show VC _ (.seq _ _) _ _; (fail_if_success (show VC _ (.seq (.seq (.region 8 _ _) _) _) _ _)); (fail_if_success (show VC _ (.seq (.region 8 _ _) _) _ _)); refine vc_seq ?_)
    | refine vc_region ?_
    | (show VC _ (.cond _ _ _) _ _; first | refine vc_cond_f rfl ?_ | (refine x_cond rfl ?_ ?_ <;> intro h <;> have hq := h <;> (try simp only [hqs] at hq)))
    | refine vc_ret ?_ | refine vc_skip ?_
    | fail)
  · have e : i = l.length := by omega
    subst e
    refine retL_of (le_gen0 (l := [(6, .c (.row 1 (l.length + 1)))]) (b := [(1, .row 71 6 (rowOf Pk.enc (insAt l l.length x)))]) (fun n => if n = 1 then 25 else n) ⟨⟨_, rfl, .c (.row rfl rfl)⟩, trivial⟩
      ⟨⟨_, rfl, .rowD ?_ rowOf_isD⟩, trivial⟩ rfl (by simp only [wfL, wfs]; rfl)) (ret_row isRet_r rfl rfl)
    rw [insAt, List.take_length, List.drop_length, rowOf_append]
    rfl
  · refine vc_open (nm := 0) rfl (rowOf_ne (by omega)) fun cp spare hcp hmax => ?_
    rw [rowOf_length] at hcp
    repeat' (first
      | (show VR _ _ _ (_ :: _) _ _ _; first | refine x_opF rfl (by first | exact True.intro | omega) ?_ | (show VR _ _ _ (⟨_, .call ⟨.value _, _, _⟩, _, _, _, _⟩ :: _) _ _ _; first | refine vr_overlaps (gk rfl) rfl rfl rfl (by first | exact .row | exact .full) (by omega) rfl rfl rfl ?_) | (show VR _ _ _ (⟨_, .call ⟨.builtin .append, _, _⟩, _, _, _, _⟩ :: _) _ _ _; first | refine vr_append_zerosN (gk rfl) rfl rfl rfl rfl rfl rfl rfl rfl rfl rfl (by omega) (by first | omega | (simp only [lns]; omega)) (by first | omega | (simp only [lns]; omega)) (by (try dsimp only); omega) rfl rfl ?_) | (show VR _ _ _ (⟨_, .slice _ _ _ _ _, _, _, _, _⟩ :: _) _ _ _; first | refine vr_slice_head (gk rfl) rfl rfl (by first | exact .row | exact .full) rfl rfl (by first | exact .no | exact .int rfl rfl | exact .nat rfl (by omega)) (by first | omega | (simp only [lns]; omega)) (by first | omega | (simp only [lns]; omega)) rfl ?_ | refine vr_slice_sub (gk rfl) rfl rfl (by first | exact .row | exact .full) rfl rfl (by first | exact .no | exact .int rfl rfl | exact .nat rfl (by omega)) (by first | exact .no | exact .int rfl rfl | exact .nat rfl (by omega)) (by first | omega | (simp only [lns]; omega)) (by first | omega | (simp only [lns]; omega)) (by first | omega | (simp only [lns]; omega)) rfl ?_) | (show VR _ _ _ (⟨_, .call ⟨.builtin .copy, _, _⟩, _, _, _, _⟩ :: _) _ _ _; first | refine vr_copy (gk rfl) rfl rfl (by first | exact .row | exact .sub) rfl (by first | exact .src .rd | exact .src .nils | exact .src (.row rfl (by first | exact .row | exact .full) (by first | omega | (simp only [lns]; omega))) | exact .src (.sub rfl (by first | exact .row | exact .full) (by first | omega | (simp only [lns]; omega))) | exact .tail rfl (by first | omega | (simp only [lns]; omega)) (by first | omega | (simp only [lns]; omega))) rfl rfl rfl (by first | omega | (simp only [lns]; omega)) (by first | omega | (simp only [lns]; omega)) rfl ?_) | (show VR _ _ _ (⟨_, .call ⟨.builtin .cap, _, _⟩, _, _, _, _⟩ :: _) _ _ _; first | refine vr_cap_full (gk rfl) rfl rfl rfl rfl ?_))
      | (show VR _ _ _ [] _ _ _; first | refine vr_nil ?_ | refine vr_nil_t (by kernel_rfl) ?_)
      | (show thenQ _ _ _ _; first | refine q_then_n ?_ | refine q_then_r ?_)
      | (show VC _ (.seq _ _) _ _; (fail_if_success (show VC _ (.seq (.seq (.region 10 _ _) _) _) _ _)); (fail_if_success (show VC _ (.seq (.region 10 _ _) _) _ _)); refine vc_seq ?_)
      | refine vc_region ?_ | refine vc_region_t ?_
      | (show VC _ (.cond _ _ _) _ _; first | refine vc_cond_t rfl ?_ | (refine x_cond rfl ?_ ?_ <;> intro h <;> have hq := h <;> (try simp only [hqs] at hq)))
      | refine vc_ret ?_ | refine vc_skip ?_
      | fail)
    · have hq1 : ((l.length : Int) + (1 : Nat) - i).toNat = l.length + 1 - i := by omega
      refine vc_open (nm := 40) rfl (by
        intro e
        have := congrArg List.length e
        rw [List.length_append, List.length_replicate] at this
        change _ + _ = 0 at this
        omega) fun cp2 spare2 hcp2 hmax2 => ?_
      rw [List.length_append, List.length_replicate, List.length_take, rowOf_length] at hcp2
      repeat' (first
        | (show VR _ _ _ (_ :: _) _ _ _; first | refine x_opF rfl (by first | exact True.intro | omega) ?_ | (show VR _ _ _ (⟨_, .slice _ _ _ _ _, _, _, _, _⟩ :: _) _ _ _; first | refine vr_slice_sub (gk rfl) rfl rfl (by first | exact .row | exact .full) rfl rfl (by first | exact .no | exact .int rfl rfl | exact .nat rfl (by omega)) (by first | exact .no | exact .int rfl rfl | exact .nat rfl (by omega)) (by first | omega | (simp only [lns]; omega)) (by first | omega | (simp only [lns]; omega)) (by first | omega | (simp only [lns]; omega)) rfl ?_) | (show VR _ _ _ (⟨_, .call ⟨.builtin .copy, _, _⟩, _, _, _, _⟩ :: _) _ _ _; first | refine vr_copy (gk rfl) rfl rfl (by first | exact .row | exact .sub) rfl (by first | exact .src .rd | exact .src .nils | exact .src (.row rfl (by first | exact .row | exact .full) (by first | omega | (simp only [lns]; omega))) | exact .src (.sub rfl (by first | exact .row | exact .full) (by first | omega | (simp only [lns]; omega))) | exact .tail rfl (by first | omega | (simp only [lns]; omega)) (by first | omega | (simp only [lns]; omega))) rfl rfl rfl (by first | omega | (simp only [lns]; omega)) (by first | omega | (simp only [lns]; omega)) rfl ?_))
        | (show VR _ _ _ [] _ _ _; first | refine vr_nil ?_ | refine vr_nil_t (by kernel_rfl) ?_)
        | (show thenQ _ _ _ _; first | refine q_then_n ?_ | refine q_then_r ?_)
        | refine vc_seq ?_
        | refine vc_region ?_ | refine vc_region_t ?_
        | refine vc_ret ?_
        | fail)
      refine retL_of (le_gen0 (l := [(6, .c (.row 1 (l.length + 1)))]) (b := [(1, .row 71 6 (rowOf Pk.enc (insAt l i x)))]) (fun n => if n = 1 then 40 else n) ⟨⟨_, rfl, .c (.row rfl (by omega))⟩, trivial⟩
        ⟨⟨_, rfl, .shutO (l.length + 1) ?_⟩, trivial⟩ rfl (by simp only [wfL, wfs]; rfl)) (ret_row isRet_r rfl rfl)
      rw [hq1, show min 1 (i + (l.length + 1 - i) - i) = 1 by omega, show min (l.length - i) (i + (l.length + 1 - i) - (i + 1)) = l.length - i by omega]
      exact (ins_grow (y := (Pk.enc x).map C.d) (rowOf_length (enc := Pk.enc)) (by omega) rfl).trans (ins_row_Pk l i x).symm
    · refine retL_of (le_gen0 (l := [(6, .c (.row 1 (l.length + 1)))]) (b := [(1, .row 71 6 (rowOf Pk.enc (insAt l i x)))]) (fun n => if n = 1 then 0 else n) ⟨⟨_, rfl, .c (.row rfl rfl)⟩, trivial⟩
        ⟨⟨_, rfl, .shutO (l.length + 1) ?_⟩, trivial⟩ rfl (by simp only [wfL, wfs]; rfl)) (ret_row isRet_r rfl rfl)
      rw [show min 1 (l.length + 1 - i) = 1 by omega, show min (l.length + 1 - i) (l.length + 1 - (i + 1)) = l.length - i by omega]
      exact (ins_room (y := (Pk.enc x).map C.d) (rowOf_length (enc := Pk.enc)) (by omega)).trans (ins_row_Pk l i x).symm
theorem delete_Pk (l : List Pk) (i : Nat) (hi : i < l.length) (hl : l.length ≤ 100000) : FnS Tryz.prog 173 [.c (.row 0 l.length), AI i, AI (i + 1 : Int)] [(0, .row 71 6 (rowOf Pk.enc l))]
    (.c (.row 0 (l.length - 1))) [(0, .row 71 6 (rowOf Pk.enc (l.eraseIdx i)))] := by
  refine FnS.of_bodyM (enters_of Tryz.func173 (by kernel_rfl) rfl) Tryz.func173 rfl Tryz.ntmps173 Tryz.results173 rfl (by first | rfl | (simp only [wfRes, wfL, wfArgs, wfs]; rfl)) rfl fun E => ?_
  refine vc_retL ?_
  refine vc_open (nm := 0) rfl (rowOf_ne (by omega)) fun cp spare hcp hmax => ?_
  rw [rowOf_length] at hcp
  repeat' (first
    | (show VR _ _ _ (_ :: _) _ _ _; first | refine x_opF rfl (by first | exact True.intro | omega) ?_ | (show VR _ _ _ (⟨_, .call ⟨.builtin .len, _, _⟩, _, _, _, _⟩ :: _) _ _ _; first | refine vr_len_full (gk rfl) rfl rfl rfl rfl ?_) | (show VR _ _ _ (⟨_, .call ⟨.builtin .append, _, _⟩, _, _, _, _⟩ :: _) _ _ _; first | refine vr_append_full (gk rfl) rfl rfl rfl (by first | exact .rd | exact .nils | exact .row rfl (by first | exact .row | exact .full) (by first | omega | (simp only [lns]; omega)) | exact .sub rfl (by first | exact .row | exact .full) (by first | omega | (simp only [lns]; omega))) rfl rfl (by first | omega | (simp only [lns]; omega)) (by first | omega | (simp only [lns]; omega)) rfl ?_) | (show VR _ _ _ (⟨_, .slice _ _ _ _ (some _), _, _, _, _⟩ :: _) _ _ _; first | refine vr_slice_max (gk rfl) rfl rfl rfl rfl (by first | exact .no | exact .int rfl rfl | exact .nat rfl (by omega)) (by first | exact .no | exact .int rfl rfl | exact .nat rfl (by omega)) (by first | exact .no | exact .int rfl rfl | exact .nat rfl (by omega)) (by first | omega | (simp only [lns]; omega)) (by first | omega | (simp only [lns]; omega)) (by first | omega | (simp only [lns]; omega)) rfl ?_) | (show VR _ _ _ (⟨_, .slice _ _ _ _ _, _, _, _, _⟩ :: _) _ _ _; first | refine vr_slice_head (gk rfl) rfl rfl (by first | exact .row | exact .full) rfl rfl (by first | exact .no | exact .int rfl rfl | exact .nat rfl (by omega)) (by first | omega | (simp only [lns]; omega)) (by first | omega | (simp only [lns]; omega)) rfl ?_ | refine vr_slice_sub (gk rfl) rfl rfl (by first | exact .row | exact .full) rfl rfl (by first | exact .no | exact .int rfl rfl | exact .nat rfl (by omega)) (by first | exact .no | exact .int rfl rfl | exact .nat rfl (by omega)) (by first | omega | (simp only [lns]; omega)) (by first | omega | (simp only [lns]; omega)) (by first | omega | (simp only [lns]; omega)) rfl ?_) | (show VR _ _ _ (⟨_, .call ⟨.builtin .clear, _, _⟩, _, _, _, _⟩ :: _) _ _ _; first | refine vr_clear (gk rfl) rfl (by first | exact .row | exact .sub) rfl rfl rfl rfl rfl (by first | omega | (simp only [lns]; omega)) ?_))
    | (show VR _ _ _ [] _ _ _; first | refine vr_nil ?_ | refine vr_nil_t (by kernel_rfl) ?_)
    | (show thenQ _ _ _ _; first | refine q_then_n ?_ | refine q_then_r ?_)
    | refine vc_seq ?_
    | refine vc_region ?_ | refine vc_region_t ?_
    | (show VC _ (.cond _ _ _) _ _; first | (refine x_cond rfl ?_ ?_ <;> intro h <;> have hq := h <;> (try simp only [hqs] at hq)))
    | refine vc_ret ?_ | refine vc_skip ?_
    | fail)
  · exfalso; omega
  · have e1 : i + (l.length - (i + 1)) = l.length - 1 := by omega
    have e2 : (l.eraseIdx i).length = l.length - 1 := List.length_eraseIdx_of_lt hi
    refine retL_of (le_gen0 (l := [(6, .c (.row 0 (l.length - 1)))]) (b := [(0, .row 71 6 (rowOf Pk.enc (l.eraseIdx i)))]) (fun n => n) ⟨⟨_, rfl, .c (.row rfl e1)⟩, trivial⟩ ⟨⟨_, rfl, .shutO (l.length - 1) ?_⟩, trivial⟩ rfl (by simp only [wfL, wfs]; rfl)) (ret_row isRet_r rfl rfl)
    rw [e1]
    exact del_row (rowOf_length (enc := Pk.enc)) hi
abbrev predφDp (p : Dp → Bool) : List DV → DV → Prop := fun ds r => ∃ x : Dp, ds = [.agg x.enc] ∧ r = .d (.bool (p x))
theorem samePks_spec (a b : List Pk) : FnS Tryz.prog 29 [AD (pks a), AD (pks b)] [] (AB (decide (a = b))) [] := by
  refine FnS.of_body (enters_of Tryz.func29 (by kernel_rfl) rfl) Tryz.func29 rfl Tryz.ntmps29 Tryz.results29 rfl rfl rfl rfl fun E hS => ?_
  refine vc_bound (t := 0) rfl fun hb => ?_
  repeat' (first
    | (show VR _ _ _ (_ :: _) _ _ _; first | refine x_opF rfl (by first | exact True.intro | omega) ?_)
    | (show VR _ _ _ [] _ _ _; first | refine vr_nil ?_)
    | (show thenQ _ _ _ _; first | refine q_then_n ?_ | refine q_then_r ?_)
    | refine vc_seq ?_
    | refine vc_region ?_
    | (show VC _ (.cond _ _ _) _ _; first | (refine x_cond rfl ?_ ?_ <;> intro h <;> have hq := h <;> (try simp only [hqs] at hq)))
    | refine vc_ret ?_ | refine vc_block ?_ | refine vc_skip ?_
    | fail)
  · refine ret_bool isRet_r rfl ?_
    have : a ≠ b := fun e => by subst e; simp_all
    simp [this]
  · refine vc_loopI (ι := Nat) (fun k => stOf [(0, AD (pks a)), (1, AD (pks b)), (5, AI k)] []) (fun k => k ≤ a.length ∧ ∀ i, i < k → a.getD i default = b.getD i default) (fun k => a.length - k) 0 ⟨Nat.zero_le _, fun i hi => absurd hi (Nat.not_lt_zero _)⟩ ?_ ?_
    · exact le_of ⟨rfl, rfl, rfl, trivial⟩ trivial rfl
    · rintro k ⟨hk, hall⟩
      repeat' (first
        | (show VR _ _ _ (_ :: _) _ _ _; first | refine x_opF rfl (by first | exact True.intro | omega) ?_ | (show VR _ _ _ (⟨_, .indexAddr _ _ _, _, _, _, _⟩ :: _) _ _ _; first | refine vr_index_rd (gk rfl) rfl rfl rfl rfl rfl (by omega) rfl ?_) | (show VR _ _ _ (⟨_, .binOp _ _ _ _ _, _, _, _, _⟩ :: _) _ _ _; first | refine vr_neqA (gk rfl) rfl rfl rfl rfl rfl rfl rfl ?_))
        | (show VR _ _ _ [] _ _ _; first | refine vr_nil ?_ | refine vr_nil_t (by kernel_rfl) ?_)
        | (show thenQ _ _ _ _; first | refine q_then_n ?_ | refine q_then_x ?_ | refine q_then_r ?_)
        | (show blockQ _ _ _ _; first | refine q_blk_n ?_ | refine q_blk_r ?_ | refine q_blk_x ?_)
        | refine vc_seq ?_
        | refine vc_region ?_ | refine vc_region_t ?_
        | (show VC _ (.cond _ _ _) _ _; first | (refine x_cond rfl ?_ ?_ <;> intro h <;> have hq := h <;> (try simp only [hqs] at hq)))
        | refine vc_ret ?_ | refine vc_exit ?_ | refine vc_block ?_ | refine vc_skip ?_
        | fail)
      · refine ret_bool isRet_r rfl ?_
        have : a ≠ b := fun e => hq (by rw [e])
        simp [this]
      · refine ⟨k + 1, ⟨by omega, fun i hi => ?_⟩, by omega, le_of ⟨rfl, rfl, rfl, trivial⟩ trivial rfl⟩
        by_cases hik : i < k
        · exact hall i hik
        · have : i = k := by omega
          subst this
          exact pk_sv hq
      · refine ret_bool isRet_r rfl ?_
        have : a = b := Go.Sx.list_getD (by omega) fun i hi => hall i (by omega)
        simp [this]
end Go.Proofs.Q
end
section
-- SXS
namespace Go.Proofs.Q
open Go Go.Sx
set_option maxRecDepth 4000
set_option linter.unusedSimpArgs false
set_option linter.unusedVariables false
attribute [local irreducible] VR VC thenQ blockQ retL
/-! Predicates that the program hands on. -/
theorem idx1_spec (x : Pk) (t : Int) : FnS Tryz.prog 167 [pkA x, .ep (fun _ => .int .i64 t) 1] [] (AB (decide (x.id = t))) [] := by
  refine FnS.of_body (enters_of Tryz.func167 (by kernel_rfl) rfl) Tryz.func167 rfl Tryz.ntmps167 Tryz.results167 rfl rfl rfl rfl fun E hS => ?_
  repeat' (first
    | (show VR _ _ _ (_ :: _) _ _ _; first | refine x_opF rfl (by first | exact True.intro | omega) ?_)
    | (show VR _ _ _ [] _ _ _; first | refine vr_nil ?_)
    | (show thenQ _ _ _ _; first | refine q_then_n ?_)
    | refine vc_seq ?_
    | refine vc_region ?_
    | refine vc_ret ?_
    | fail)
  all_goals exact ret_bool isRet_r rfl rfl
theorem idx1_fnc {σ : St} {t : Int} {n1 : Nat} {L : List Nat} (hL : n1 ∈ L) (h1 : σ (.b n1) = some (.k (.box [.d (.int .i64 t)]))) : AR Tryz.prog σ L (.fnc 167 [.ptr n1 0]) (.clo (predφPk fun x => decide (x.id = t))) :=
  .fnc (eps := [.ep (fun _ => .int .i64 t) 1]) (.cons (.ptr hL h1 (fun j hj => by
    have : j = 0 := by omega
    subst this; rfl)) .nil) (enters_of Tryz.func167 (by kernel_rfl) rfl)
    (by rintro _ _ ⟨x, rfl, rfl⟩; exact ⟨rfl, idx1_spec x t⟩)
theorem first1_spec (x : Pk) (t : Int) : FnS Tryz.prog 179 [pkA x, .ep (fun _ => .int .i64 t) 1] [] (AB (decide (x.to = t))) [] := by
  refine FnS.of_body (enters_of Tryz.func179 (by kernel_rfl) rfl) Tryz.func179 rfl Tryz.ntmps179 Tryz.results179 rfl rfl rfl rfl fun E hS => ?_
  repeat' (first
    | (show VR _ _ _ (_ :: _) _ _ _; first | refine x_opF rfl (by first | exact True.intro | omega) ?_)
    | (show VR _ _ _ [] _ _ _; first | refine vr_nil ?_)
    | (show thenQ _ _ _ _; first | refine q_then_n ?_)
    | refine vc_seq ?_
    | refine vc_region ?_
    | refine vc_ret ?_
    | fail)
  all_goals exact ret_bool isRet_r rfl rfl
theorem first1_fnc {σ : St} {t : Int} {n1 : Nat} {L : List Nat} (hL : n1 ∈ L) (h1 : σ (.b n1) = some (.k (.box [.d (.int .i64 t)]))) : AR Tryz.prog σ L (.fnc 179 [.ptr n1 0]) (.clo (predφPk fun x => decide (x.to = t))) :=
  .fnc (eps := [.ep (fun _ => .int .i64 t) 1]) (.cons (.ptr hL h1 (fun j hj => by
    have : j = 0 := by omega
    subst this; rfl)) .nil) (enters_of Tryz.func179 (by kernel_rfl) rfl)
    (by rintro _ _ ⟨x, rfl, rfl⟩; exact ⟨rfl, first1_spec x t⟩)
theorem put1_spec (x p : Pk) : FnS Tryz.prog 139 [pkA x, .ep (fun j => p.enc.getD j .nils) 6] [] (AB (decide (p.prio < x.prio))) [] := by
  refine FnS.of_body (enters_of Tryz.func139 (by kernel_rfl) rfl) Tryz.func139 rfl Tryz.ntmps139 Tryz.results139 rfl rfl rfl rfl fun E hS => ?_
  repeat' (first
    | (show VR _ _ _ (_ :: _) _ _ _; first | refine x_opF rfl (by first | exact True.intro | omega) ?_)
    | (show VR _ _ _ [] _ _ _; first | refine vr_nil ?_)
    | (show thenQ _ _ _ _; first | refine q_then_n ?_)
    | refine vc_seq ?_
    | refine vc_region ?_
    | refine vc_ret ?_
    | fail)
  all_goals exact ret_bool isRet_r rfl rfl
theorem put1_fnc {σ : St} {p : Pk} {n1 : Nat} {L : List Nat} (hL : n1 ∈ L) (h1 : σ (.b n1) = some (.k (.box p.cs))) : AR Tryz.prog σ L (.fnc 139 [.ptr n1 0]) (.clo (predφPk fun x => decide (p.prio < x.prio))) :=
  .fnc (eps := [.ep (fun j => p.enc.getD j .nils) 6]) (.cons (.ptr hL h1 (fun j hj => by
    have : j = 0 ∨ j = 1 ∨ j = 2 ∨ j = 3 ∨ j = 4 ∨ j = 5 := by omega
    rcases this with rfl | rfl | rfl | rfl | rfl | rfl <;> rfl)) .nil) (enters_of Tryz.func139 (by kernel_rfl) rfl)
    (by rintro _ _ ⟨x, rfl, rfl⟩; exact ⟨rfl, put1_spec x p⟩)
def idxId (l : List Pk) (id : Int) : Option Nat := fstO l fun x => decide (x.id = id)
def idxTo (l : List Pk) (to : Int) : Option Nat := fstO l fun x => decide (x.to = to)
theorem qindex_spec (q : Qu) (id : Int) : FnS Tryz.prog 138 [quA q, AI id] [] (AI (oI (idxId q.packets id))) [] := by
  refine FnS.of_body (enters_of Tryz.func138 (by kernel_rfl) rfl) Tryz.func138 rfl Tryz.ntmps138 Tryz.results138 rfl rfl rfl rfl fun E hS => ?_
  repeat' (first
    | (show VR _ _ _ (_ :: _) _ _ _; first | refine x_opF rfl (by first | exact True.intro | omega) ?_ | (show VR _ _ _ (⟨_, .call ⟨.value _, _, _⟩, _, _, _, _⟩ :: _) _ _ _; first | refine vr_callU [3] (idxf_Pk q.packets (fun x => decide (x.id = id))) (gk rfl) rfl (by (repeat' (first | exact .nil | refine .cons ?_ ?_ | exact .of0 (.c .d) | exact .of0 .ep | exact .clo | exact (idx1_fnc (by simp) rfl) | exact .of0 (.c .nil) | exact .of0 (.c (cr_rowO (by simp) rfl (by first | rfl | omega) (fun _ => rfl))) | refine .of0 (.agg ?_) | exact .d | exact .nil | exact .of0 (.c (cr_row (by decide) rfl rfl (by repeat' (first | exact trivial | refine ⟨?_, ?_⟩ | rfl)))))) <;> fail) (by first | rfl | exact hfl_O (fun _ => rfl) | exact hfl_O2 rfl (fun _ => rfl)) rfl (by first | rfl | (simp only [wfRes, wfL, wfArgs, wfs]; rfl)) rfl (by first | exact newB_O | rfl) rfl ?_))
    | (show VR _ _ _ [] _ _ _; first | refine vr_nil ?_)
    | (show thenQ _ _ _ _; first | refine q_then_n ?_)
    | refine vc_seq ?_
    | refine vc_region ?_
    | refine vc_ret ?_
    | fail)
  all_goals exact ret_int isRet_r rfl rfl
theorem first_spec (l : List Pk) (to : Int) : FnS Tryz.prog 171 [AD (pks l), AI to] [] (AI (oI (idxTo l to))) [] := by
  refine FnS.of_body (enters_of Tryz.func171 (by kernel_rfl) rfl) Tryz.func171 rfl Tryz.ntmps171 Tryz.results171 rfl rfl rfl rfl fun E hS => ?_
  repeat' (first
    | (show VR _ _ _ (_ :: _) _ _ _; first | refine x_opF rfl (by first | exact True.intro | omega) ?_ | (show VR _ _ _ (⟨_, .call ⟨.value _, _, _⟩, _, _, _, _⟩ :: _) _ _ _; first | refine vr_callU [3] (idxf_Pk l (fun x => decide (x.to = to))) (gk rfl) rfl (by (repeat' (first | exact .nil | refine .cons ?_ ?_ | exact .of0 (.c .d) | exact .of0 .ep | exact .clo | exact (first1_fnc (by simp) rfl) | exact .of0 (.c .nil) | exact .of0 (.c (cr_rowO (by simp) rfl (by first | rfl | omega) (fun _ => rfl))) | refine .of0 (.agg ?_) | exact .d | exact .nil | exact .of0 (.c (cr_row (by decide) rfl rfl (by repeat' (first | exact trivial | refine ⟨?_, ?_⟩ | rfl)))))) <;> fail) (by first | rfl | exact hfl_O (fun _ => rfl) | exact hfl_O2 rfl (fun _ => rfl)) rfl (by first | rfl | (simp only [wfRes, wfL, wfArgs, wfs]; rfl)) rfl (by first | exact newB_O | rfl) rfl ?_))
    | (show VR _ _ _ [] _ _ _; first | refine vr_nil ?_)
    | (show thenQ _ _ _ _; first | refine q_then_n ?_)
    | refine vc_seq ?_
    | refine vc_region ?_
    | refine vc_ret ?_
    | fail)
  all_goals exact ret_int isRet_r rfl rfl
def atP (l : List Pk) (pr : Int) : Nat := (fstO l fun x => decide (pr < x.prio)).getD l.length
def noQ : Qu := ⟨0, []⟩
def putQ (q : Qu) (p : Pk) : Qu × List Pk × Int :=
  if checkQ q ≠ 0 then (noQ, [], 1) else if formP p ≠ 0 then (noQ, [], formP p) else if (q.packets.any fun x => decide (x.id = p.id)) = true then (noQ, [], 6)
  else if q.packets.length = q.limit then
    if (q.packets.getD (q.packets.length - 1) default).prio ≤ p.prio then (noQ, [], 13)
    else (⟨q.limit, insAt (q.packets.take (q.packets.length - 1)) (atP (q.packets.take (q.packets.length - 1)) p.prio) p⟩, [q.packets.getD (q.packets.length - 1) default], 0)
  else (⟨q.limit, insAt q.packets (atP q.packets p.prio) p⟩, [], 0)
theorem checkQ_len {q : Qu} (h : checkQ q = 0) : 1 ≤ q.limit ∧ q.limit ≤ 64 ∧ (q.packets.length : Int) ≤ q.limit := by
  unfold checkQ at h
  split at h
  · cases h
  · split at h
    · cases h
    · rename_i h1 h2
      simp [inI] at h1
      omega
end Go.Proofs.Q
end
section
-- SXS
namespace Go.Proofs.Q
open Go Go.Sx
set_option maxRecDepth 4000
set_option linter.unusedSimpArgs false
set_option linter.unusedVariables false
attribute [local irreducible] VR VC thenQ blockQ retL
theorem qindex_any {q : Qu} {id : Int} : decide (0 ≤ oI (idxId q.packets id)) = q.packets.any fun x => decide (x.id = id) := fstO_any _ _
set_option maxHeartbeats 2000000 in
theorem put_spec (q : Qu) (p : Pk) : FnS Tryz.prog 81 [quA q, pkA p] [] (.tup [quA (putQ q p).1, AD (pks (putQ q p).2.1), AI (putQ q p).2.2]) [] := by
  have hck := checkQ_spec q
  have hfm := form_spec p
  refine FnS.of_body (enters_of Tryz.func81 (by kernel_rfl) rfl) Tryz.func81 rfl Tryz.ntmps81 Tryz.results81 rfl rfl rfl rfl fun E hS => ?_
  refine vc_retL ?_
  by_cases hc : checkQ q = 0
  · rw [hc] at hck
    obtain ⟨hl1, hl2, hl3⟩ := checkQ_len hc
    by_cases hf : formP p = 0
    · rw [hf] at hfm
      have hat := idxf_Pk q.packets (fun x => decide (p.prio < x.prio))
      have hat2 := idxf_Pk (q.packets.take (q.packets.length - 1)) (fun x => decide (p.prio < x.prio))
      have e : putQ q p = if (q.packets.any fun x => decide (x.id = p.id)) = true then (noQ, [], 6)
          else if q.packets.length = q.limit then
            if (q.packets.getD (q.packets.length - 1) default).prio ≤ p.prio then (noQ, [], 13)
            else (⟨q.limit, insAt (q.packets.take (q.packets.length - 1)) (atP (q.packets.take (q.packets.length - 1)) p.prio) p⟩, [q.packets.getD (q.packets.length - 1) default], 0)
          else (⟨q.limit, insAt q.packets (atP q.packets p.prio) p⟩, [], 0) := by rw [putQ, if_neg (by omega), if_neg (by omega)]
      repeat' (first
        | (show VR _ _ _ (_ :: _) _ _ _; first | refine x_opF rfl (by first | exact True.intro | omega) ?_ | (show VR _ _ _ (⟨_, .call ⟨.value _, _, _⟩, _, _, _, _⟩ :: _) _ _ _; first | refine vr_calldU (hck) (gk rfl) rfl rfl rfl (by first | rfl | (simp only [wfRes, wfL, wfArgs, wfs]; rfl)) rfl (by first | exact newB_O | rfl) rfl ?_ | refine vr_calldU (hfm) (gk rfl) rfl rfl rfl (by first | rfl | (simp only [wfRes, wfL, wfArgs, wfs]; rfl)) rfl (by first | exact newB_O | rfl) rfl ?_ | refine vr_calldU (qindex_spec q p.id) (gk rfl) rfl rfl rfl (by first | rfl | (simp only [wfRes, wfL, wfArgs, wfs]; rfl)) rfl (by first | exact newB_O | rfl) rfl ?_ | refine vr_calldU (clone_Pk q.packets (by omega)) (gk rfl) rfl rfl rfl (by first | rfl | (simp only [wfRes, wfL, wfArgs, wfs]; rfl)) rfl (by first | exact newB_O | rfl) rfl ?_) | (show VR _ _ _ (⟨_, .indexAddr _ _ _, _, _, _, _⟩ :: _) _ _ _; first | refine vr_index_rowN (gk rfl) rfl rfl rfl rfl rfl (by omega) (by first | rfl | exact rowOf_length.symm | (simp only [lns] <;> omega)) rfl ?_) | (show VR _ _ _ (⟨_, .call ⟨.builtin .len, _, _⟩, _, _, _, _⟩ :: _) _ _ _; first | refine vr_len_row (gk rfl) rfl rfl (by first | rfl | exact rowOf_length.symm | (simp only [lns] <;> omega)) rfl rfl ?_) | (show VR _ _ _ (⟨_, .call ⟨.builtin .append, _, _⟩, _, _, _, _⟩ :: _) _ _ _; first | refine vr_append_nils0 (gk rfl) rfl rfl (by first | exact .row rfl (by first | rfl | exact rowOf_length.symm) | exact .rd | exact .nils) rfl rfl rfl (by (try dsimp only); omega) rfl rfl ?_) | (show VR _ _ _ (⟨_, .slice _ _ _ _ _, _, _, _, _⟩ :: _) _ _ _; first | refine vr_slice_head (gk rfl) rfl rfl (by first | exact .row | exact .full) rfl rfl (by first | exact .no | exact .int rfl rfl | exact .nat rfl (by omega)) (by first | omega | (simp only [lns]; omega)) (by first | omega | (simp only [lns]; omega)) rfl ?_) | (show VR _ _ _ (⟨_, .load _ _, _, _, _, _⟩ :: _) _ _ _; first | refine vr_load_rowO_agg (gk rfl) rfl rfl (by omega) rfl rfl rfl ?_ | refine vr_load_rowO (gk rfl) rfl rfl (by omega) rfl rfl rfl ?_))
        | (show VR _ _ _ [] _ _ _; first | refine vr_nil ?_ | refine vr_nil_t (by kernel_rfl) ?_)
        | (show thenQ _ _ _ _; first | refine q_then_n ?_ | refine q_then_r ?_)
        | (show VC _ (.seq _ _) _ _; (fail_if_success (show VC _ (.seq (.seq (.region 15 _ _) _) _) _ _)); (fail_if_success (show VC _ (.seq (.region 15 _ _) _) _ _)); refine vc_seq ?_)
        | refine vc_region ?_ | refine vc_region_t ?_
        | (show VC _ (.cond _ _ _) _ _; first | refine vc_cond_f rfl ?_ | (refine x_cond rfl ?_ ?_ <;> intro h <;> have hq := h <;> (try simp only [hqs] at hq)))
        | refine vc_ret ?_ | refine vc_skip ?_
        | fail)
      · rw [if_pos (by rw [← qindex_any]; exact h)] at e
        rw [e]
        refine retL_of (le_gen0 (l := [(4, .c (.ptr 4 0)), (5, AD (pks [])), (6, AI 6)]) (b := [(4, .box noQ.cs)]) (fun n => n) ?_ ?_ rfl (by first | rfl | (simp only [wfL, wfs]; rfl))) (ret_agg_ddL isRet_r rfl rfl rfl rfl rfl rfl rfl rfl rfl)
        all_goals repeat' (first | exact trivial | refine ⟨⟨_, rfl, ?_⟩, ?_⟩ | exact .c .d | exact .c (.ptr rfl) | exact .c .nil | refine .box ?_ | exact .nil | refine .cons ?_ ?_ | exact .d | fail)
      · have hn : ((q.packets.length : Int) - 1).toNat = q.packets.length - 1 := by omega
        rw [hn] at hq
        rw [if_neg (by rw [← qindex_any]; simp; omega), if_pos (by omega), if_pos hq] at e
        rw [e]
        refine retL_of (le_gen0 (l := [(4, .c (.ptr 4 0)), (5, AD (pks [])), (6, AI 13)]) (b := [(4, .box noQ.cs)]) (fun n => n) ?_ ?_ rfl (by first | rfl | (simp only [wfL, wfs]; rfl))) (ret_agg_ddL isRet_r rfl rfl rfl rfl rfl rfl rfl rfl rfl)
        all_goals repeat' (first | exact trivial | refine ⟨⟨_, rfl, ?_⟩, ?_⟩ | exact .c .d | exact .c (.ptr rfl) | exact .c .nil | refine .box ?_ | exact .nil | refine .cons ?_ ?_ | exact .d | fail)
      · have hn : ((q.packets.length : Int) - 1).toNat = q.packets.length - 1 := by omega
        rw [hn] at hq h
        have hlt : (q.packets.take (q.packets.length - 1)).length = q.packets.length - 1 := by rw [List.length_take]; omega
        rw [if_neg (by rw [← qindex_any]; simp; omega), if_pos (by omega), if_neg (by omega)] at e
        rw [e]
        refine VC.le (σ' := stOf [(2, .c (.ptr 2 0)), (3, .c (.ptr 3 0)), (4, .c (.ptr 4 0)), (8, .c (.row 8 (q.packets.take (q.packets.length - 1)).length)), (9, AD (pks [q.packets.getD (q.packets.length - 1) default]))]
          [(2, .box q.cs), (3, .box p.cs), (4, .box noQ.cs), (8, .row 71 6 (rowOf Pk.enc (q.packets.take (q.packets.length - 1))))]) ?_ ?_
        · rw [hn]
          refine le_gen (fun n => if n = 8 then 30007 else n) [54] hS ?_ ?_ rfl (by first | rfl | (simp only [wfL, wfs]; rfl))
          all_goals repeat' (first | exact trivial | refine ⟨⟨_, rfl, ?_⟩, ?_⟩ | exact .c (.ptr rfl) | (refine .c (.row rfl ?_); ((try dsimp only); first | rfl | omega | (simp only [lns] <;> omega)); done) | exact .c (.frzOf (by first | (simp; done) | decide) rfl rfl (fun _ => rfl)) | exact .boxD rfl rfl | refine .box ?_ | exact .nil | refine .cons ?_ ?_ | exact .d | fail)
          exact .truncO (q.packets.length - 1) rowOf_take
        · cases ht : fstO (q.packets.take (q.packets.length - 1)) (fun x => decide (p.prio < x.prio)) with
          | none =>
            rw [ht] at hat2
            have h' : FnS Tryz.prog 115 [AD (pks (q.packets.take (q.packets.length - 1))), .clo (predφPk fun x => decide (p.prio < x.prio))] [] (AI (-1)) [] := hat2
            have ha : atP (q.packets.take (q.packets.length - 1)) p.prio = ((q.packets.take (q.packets.length - 1))).length := by rw [atP, ht]; rfl
            repeat' (first
              | (show VR _ _ _ (_ :: _) _ _ _; first | refine x_opF rfl (by first | exact True.intro | omega) ?_ | (show VR _ _ _ (⟨_, .call ⟨.value _, _, _⟩, _, _, _, _⟩ :: _) _ _ _; first | refine vr_callU [3, 8] (h') (gk rfl) rfl (by (repeat' (first | exact .nil | refine .cons ?_ ?_ | exact .of0 (.c .d) | exact .of0 .ep | exact .clo | exact (put1_fnc (by simp) rfl) | exact (.of0 (.c (cr_rowO (by simp) rfl rfl (fun _ => rfl)))) | exact .of0 (.c .nil) | exact .of0 (.c (cr_rowO (by simp) rfl (by first | rfl | omega) (fun _ => rfl))) | refine .of0 (.agg ?_) | exact .d | exact .nil | exact .of0 (.c (cr_row (by decide) rfl rfl (by repeat' (first | exact trivial | refine ⟨?_, ?_⟩ | rfl)))))) <;> fail) (by first | rfl | exact hfl_O (fun _ => rfl) | exact hfl_O2 rfl (fun _ => rfl)) rfl (by first | rfl | (simp only [wfRes, wfL, wfArgs, wfs]; rfl)) rfl (by first | exact newB_O | rfl) rfl ?_ | refine vr_callMU [70] (insert_Pk (q.packets.take (q.packets.length - 1)) ((q.packets.take (q.packets.length - 1))).length p (by omega) (Nat.le_refl _)) (gk rfl) rfl rfl rowOf_isD rfl (by (repeat' (first | exact .nil | refine .cons ?_ ?_ | exact .of0 (.c .d) | exact .of0 .ep | exact .clo | exact (put1_fnc (by simp) rfl) | exact (.of0 (.c (cr_rowO (by simp) rfl rfl (fun _ => rfl)))) | exact .of0 (.c .nil) | exact .of0 (.c (cr_rowO (by simp) rfl (by first | rfl | omega) (fun _ => rfl))) | refine .of0 (.agg ?_) | exact .d | exact .nil | exact .of0 (.c (cr_row (by decide) rfl rfl (by repeat' (first | exact trivial | refine ⟨?_, ?_⟩ | rfl)))))) <;> fail) rfl (by first | rfl | exact hfl_O (fun _ => rfl) | exact hfl_O2 rfl (fun _ => rfl)) rfl (by first | rfl | (simp only [wfRes, wfL, wfArgs, wfs]; rfl)) rfl (by first | exact newB_O | rfl) rfl ?_) | (show VR _ _ _ (⟨_, .call ⟨.builtin .len, _, _⟩, _, _, _, _⟩ :: _) _ _ _; first | refine vr_len_row (gk rfl) rfl rfl (by first | rfl | exact rowOf_length.symm | (simp only [lns] <;> omega)) rfl rfl ?_))
              | (show VR _ _ _ [] _ _ _; first | refine vr_nil ?_ | refine vr_nil_t (by kernel_rfl) ?_)
              | (show thenQ _ _ _ _; first | refine q_then_n ?_)
              | refine vc_seq ?_
              | refine vc_region ?_ | refine vc_region_t ?_
              | (show VC _ (.cond _ _ _) _ _; first | refine vc_cond_t rfl ?_)
              | refine vc_ret ?_
              | fail)
            rw [ha]
            refine retL_of (le_gen (l := [(4, .c (.ptr 4 0)), (5, AD (pks [q.packets.getD (q.packets.length - 1) default])), (6, AI 0)]) (b := [(4, .box (Qu.cs ⟨q.limit, insAt (q.packets.take (q.packets.length - 1)) ((q.packets.take (q.packets.length - 1))).length p⟩))]) (fun n => n) [71001] hS ?_ ?_ rfl (by first | rfl | (simp only [wfL, wfs]; rfl))) (ret_agg_ddL isRet_r rfl rfl rfl rfl rfl rfl rfl rfl rfl)
            all_goals repeat' (first | exact trivial | refine ⟨⟨_, rfl, ?_⟩, ?_⟩ | exact .c .d | exact .c (.ptr rfl) | refine .box ?_ | exact .nil | refine .cons ?_ ?_ | exact .d | (refine .frzOf (by first | (simp; done) | decide) rfl ?_ (fun _ => rfl); ((try dsimp only); first | rfl | omega | (simp only [lns] <;> omega)); done) | fail)
            all_goals (simp [insAt])
          | some i =>
            rw [ht] at hat2
            have h' : FnS Tryz.prog 115 [AD (pks (q.packets.take (q.packets.length - 1))), .clo (predφPk fun x => decide (p.prio < x.prio))] [] (AI (i : Nat)) [] := hat2
            have ha : atP (q.packets.take (q.packets.length - 1)) p.prio = i := by rw [atP, ht]; rfl
            obtain ⟨hi, _, _⟩ := fstO_some ht
            repeat' (first
              | (show VR _ _ _ (_ :: _) _ _ _; first | refine x_opF rfl (by first | exact True.intro | omega) ?_ | (show VR _ _ _ (⟨_, .call ⟨.value _, _, _⟩, _, _, _, _⟩ :: _) _ _ _; first | refine vr_callU [3, 8] (h') (gk rfl) rfl (by (repeat' (first | exact .nil | refine .cons ?_ ?_ | exact .of0 (.c .d) | exact .of0 .ep | exact .clo | exact (put1_fnc (by simp) rfl) | exact (.of0 (.c (cr_rowO (by simp) rfl rfl (fun _ => rfl)))) | exact .of0 (.c .nil) | exact .of0 (.c (cr_rowO (by simp) rfl (by first | rfl | omega) (fun _ => rfl))) | refine .of0 (.agg ?_) | exact .d | exact .nil | exact .of0 (.c (cr_row (by decide) rfl rfl (by repeat' (first | exact trivial | refine ⟨?_, ?_⟩ | rfl)))))) <;> fail) (by first | rfl | exact hfl_O (fun _ => rfl) | exact hfl_O2 rfl (fun _ => rfl)) rfl (by first | rfl | (simp only [wfRes, wfL, wfArgs, wfs]; rfl)) rfl (by first | exact newB_O | rfl) rfl ?_ | refine vr_callMU [70] (insert_Pk (q.packets.take (q.packets.length - 1)) i p (by omega) (Nat.le_of_lt hi)) (gk rfl) rfl rfl rowOf_isD rfl (by (repeat' (first | exact .nil | refine .cons ?_ ?_ | exact .of0 (.c .d) | exact .of0 .ep | exact .clo | exact (put1_fnc (by simp) rfl) | exact (.of0 (.c (cr_rowO (by simp) rfl rfl (fun _ => rfl)))) | exact .of0 (.c .nil) | exact .of0 (.c (cr_rowO (by simp) rfl (by first | rfl | omega) (fun _ => rfl))) | refine .of0 (.agg ?_) | exact .d | exact .nil | exact .of0 (.c (cr_row (by decide) rfl rfl (by repeat' (first | exact trivial | refine ⟨?_, ?_⟩ | rfl)))))) <;> fail) rfl (by first | rfl | exact hfl_O (fun _ => rfl) | exact hfl_O2 rfl (fun _ => rfl)) rfl (by first | rfl | (simp only [wfRes, wfL, wfArgs, wfs]; rfl)) rfl (by first | exact newB_O | rfl) rfl ?_))
              | (show VR _ _ _ [] _ _ _; first | refine vr_nil ?_ | refine vr_nil_t (by kernel_rfl) ?_)
              | (show thenQ _ _ _ _; first | refine q_then_n ?_)
              | refine vc_seq ?_
              | refine vc_region ?_ | refine vc_region_t ?_
              | (show VC _ (.cond _ _ _) _ _; first | refine vc_cond_f rfl ?_)
              | refine vc_ret ?_ | refine vc_skip ?_
              | fail)
            rw [ha]
            refine retL_of (le_gen (l := [(4, .c (.ptr 4 0)), (5, AD (pks [q.packets.getD (q.packets.length - 1) default])), (6, AI 0)]) (b := [(4, .box (Qu.cs ⟨q.limit, insAt (q.packets.take (q.packets.length - 1)) i p⟩))]) (fun n => n) [71001] hS ?_ ?_ rfl (by first | rfl | (simp only [wfL, wfs]; rfl))) (ret_agg_ddL isRet_r rfl rfl rfl rfl rfl rfl rfl rfl rfl)
            all_goals repeat' (first | exact trivial | refine ⟨⟨_, rfl, ?_⟩, ?_⟩ | exact .c .d | exact .c (.ptr rfl) | refine .box ?_ | exact .nil | refine .cons ?_ ?_ | exact .d | (refine .frzOf (by first | (simp; done) | decide) rfl ?_ (fun _ => rfl); ((try dsimp only); first | rfl | omega | (simp only [lns] <;> omega)); done) | fail)
            all_goals (simp only [insAt, List.length_append, List.length_cons, List.length_take, List.length_drop]; simp only [List.length_take] at hi; omega)
      · rw [if_neg (by rw [← qindex_any]; simp; omega), if_neg (by omega)] at e
        rw [e]
        refine VC.le (σ' := stOf [(2, .c (.ptr 2 0)), (3, .c (.ptr 3 0)), (4, .c (.ptr 4 0)), (8, .c (.row 8 q.packets.length)), (9, AD (pks []))] [(2, .box q.cs), (3, .box p.cs), (4, .box noQ.cs), (8, .row 71 6 (rowOf Pk.enc q.packets))]) ?_ ?_
        · refine le_gen0 (fun n => if n = 8 then 30007 else n) ?_ ?_ rfl (by first | rfl | (simp only [wfL, wfs]; rfl))
          all_goals repeat' (first | exact trivial | refine ⟨⟨_, rfl, ?_⟩, ?_⟩ | exact .c (.ptr rfl) | exact .c (.row rfl rfl) | exact .c .nil | exact .boxD rfl rfl | exact .rowD rfl rowOf_isD | refine .box ?_ | exact .nil | refine .cons ?_ ?_ | exact .d | fail)
        · cases ht : fstO q.packets (fun x => decide (p.prio < x.prio)) with
          | none =>
            rw [ht] at hat
            have h' : FnS Tryz.prog 115 [AD (pks q.packets), .clo (predφPk fun x => decide (p.prio < x.prio))] [] (AI (-1)) [] := hat
            have ha : atP q.packets p.prio = (q.packets).length := by rw [atP, ht]; rfl
            repeat' (first
              | (show VR _ _ _ (_ :: _) _ _ _; first | refine x_opF rfl (by first | exact True.intro | omega) ?_ | (show VR _ _ _ (⟨_, .call ⟨.value _, _, _⟩, _, _, _, _⟩ :: _) _ _ _; first | refine vr_callU [3, 8] (h') (gk rfl) rfl (by (repeat' (first | exact .nil | refine .cons ?_ ?_ | exact .of0 (.c .d) | exact .of0 .ep | exact .clo | exact (put1_fnc (by simp) rfl) | exact (.of0 (.c (cr_rowO (by simp) rfl rfl (fun _ => rfl)))) | exact .of0 (.c .nil) | exact .of0 (.c (cr_rowO (by simp) rfl (by first | rfl | omega) (fun _ => rfl))) | refine .of0 (.agg ?_) | exact .d | exact .nil | exact .of0 (.c (cr_row (by decide) rfl rfl (by repeat' (first | exact trivial | refine ⟨?_, ?_⟩ | rfl)))))) <;> fail) (by first | rfl | exact hfl_O (fun _ => rfl) | exact hfl_O2 rfl (fun _ => rfl)) rfl (by first | rfl | (simp only [wfRes, wfL, wfArgs, wfs]; rfl)) rfl (by first | exact newB_O | rfl) rfl ?_ | refine vr_callMU [70] (insert_Pk q.packets (q.packets).length p (by omega) (Nat.le_refl _)) (gk rfl) rfl rfl rowOf_isD rfl (by (repeat' (first | exact .nil | refine .cons ?_ ?_ | exact .of0 (.c .d) | exact .of0 .ep | exact .clo | exact (put1_fnc (by simp) rfl) | exact (.of0 (.c (cr_rowO (by simp) rfl rfl (fun _ => rfl)))) | exact .of0 (.c .nil) | exact .of0 (.c (cr_rowO (by simp) rfl (by first | rfl | omega) (fun _ => rfl))) | refine .of0 (.agg ?_) | exact .d | exact .nil | exact .of0 (.c (cr_row (by decide) rfl rfl (by repeat' (first | exact trivial | refine ⟨?_, ?_⟩ | rfl)))))) <;> fail) rfl (by first | rfl | exact hfl_O (fun _ => rfl) | exact hfl_O2 rfl (fun _ => rfl)) rfl (by first | rfl | (simp only [wfRes, wfL, wfArgs, wfs]; rfl)) rfl (by first | exact newB_O | rfl) rfl ?_) | (show VR _ _ _ (⟨_, .call ⟨.builtin .len, _, _⟩, _, _, _, _⟩ :: _) _ _ _; first | refine vr_len_row (gk rfl) rfl rfl (by first | rfl | exact rowOf_length.symm | (simp only [lns] <;> omega)) rfl rfl ?_))
              | (show VR _ _ _ [] _ _ _; first | refine vr_nil ?_ | refine vr_nil_t (by kernel_rfl) ?_)
              | (show thenQ _ _ _ _; first | refine q_then_n ?_)
              | refine vc_seq ?_
              | refine vc_region ?_ | refine vc_region_t ?_
              | (show VC _ (.cond _ _ _) _ _; first | refine vc_cond_t rfl ?_)
              | refine vc_ret ?_
              | fail)
            rw [ha]
            refine retL_of (le_gen (l := [(4, .c (.ptr 4 0)), (5, AD (pks [])), (6, AI 0)]) (b := [(4, .box (Qu.cs ⟨q.limit, insAt q.packets (q.packets).length p⟩))]) (fun n => n) [71001] hS ?_ ?_ rfl (by first | rfl | (simp only [wfL, wfs]; rfl))) (ret_agg_ddL isRet_r rfl rfl rfl rfl rfl rfl rfl rfl rfl)
            all_goals repeat' (first | exact trivial | refine ⟨⟨_, rfl, ?_⟩, ?_⟩ | exact .c .d | exact .c (.ptr rfl) | refine .box ?_ | exact .nil | refine .cons ?_ ?_ | exact .d | (refine .frzOf (by first | (simp; done) | decide) rfl ?_ (fun _ => rfl); ((try dsimp only); first | rfl | omega | (simp only [lns] <;> omega)); done) | fail)
            all_goals (simp [insAt])
          | some i =>
            rw [ht] at hat
            have h' : FnS Tryz.prog 115 [AD (pks q.packets), .clo (predφPk fun x => decide (p.prio < x.prio))] [] (AI (i : Nat)) [] := hat
            have ha : atP q.packets p.prio = i := by rw [atP, ht]; rfl
            obtain ⟨hi, _, _⟩ := fstO_some ht
            repeat' (first
              | (show VR _ _ _ (_ :: _) _ _ _; first | refine x_opF rfl (by first | exact True.intro | omega) ?_ | (show VR _ _ _ (⟨_, .call ⟨.value _, _, _⟩, _, _, _, _⟩ :: _) _ _ _; first | refine vr_callU [3, 8] (h') (gk rfl) rfl (by (repeat' (first | exact .nil | refine .cons ?_ ?_ | exact .of0 (.c .d) | exact .of0 .ep | exact .clo | exact (put1_fnc (by simp) rfl) | exact (.of0 (.c (cr_rowO (by simp) rfl rfl (fun _ => rfl)))) | exact .of0 (.c .nil) | exact .of0 (.c (cr_rowO (by simp) rfl (by first | rfl | omega) (fun _ => rfl))) | refine .of0 (.agg ?_) | exact .d | exact .nil | exact .of0 (.c (cr_row (by decide) rfl rfl (by repeat' (first | exact trivial | refine ⟨?_, ?_⟩ | rfl)))))) <;> fail) (by first | rfl | exact hfl_O (fun _ => rfl) | exact hfl_O2 rfl (fun _ => rfl)) rfl (by first | rfl | (simp only [wfRes, wfL, wfArgs, wfs]; rfl)) rfl (by first | exact newB_O | rfl) rfl ?_ | refine vr_callMU [70] (insert_Pk q.packets i p (by omega) (Nat.le_of_lt hi)) (gk rfl) rfl rfl rowOf_isD rfl (by (repeat' (first | exact .nil | refine .cons ?_ ?_ | exact .of0 (.c .d) | exact .of0 .ep | exact .clo | exact (put1_fnc (by simp) rfl) | exact (.of0 (.c (cr_rowO (by simp) rfl rfl (fun _ => rfl)))) | exact .of0 (.c .nil) | exact .of0 (.c (cr_rowO (by simp) rfl (by first | rfl | omega) (fun _ => rfl))) | refine .of0 (.agg ?_) | exact .d | exact .nil | exact .of0 (.c (cr_row (by decide) rfl rfl (by repeat' (first | exact trivial | refine ⟨?_, ?_⟩ | rfl)))))) <;> fail) rfl (by first | rfl | exact hfl_O (fun _ => rfl) | exact hfl_O2 rfl (fun _ => rfl)) rfl (by first | rfl | (simp only [wfRes, wfL, wfArgs, wfs]; rfl)) rfl (by first | exact newB_O | rfl) rfl ?_))
              | (show VR _ _ _ [] _ _ _; first | refine vr_nil ?_ | refine vr_nil_t (by kernel_rfl) ?_)
              | (show thenQ _ _ _ _; first | refine q_then_n ?_)
              | refine vc_seq ?_
              | refine vc_region ?_ | refine vc_region_t ?_
              | (show VC _ (.cond _ _ _) _ _; first | refine vc_cond_f rfl ?_)
              | refine vc_ret ?_ | refine vc_skip ?_
              | fail)
            rw [ha]
            refine retL_of (le_gen (l := [(4, .c (.ptr 4 0)), (5, AD (pks [])), (6, AI 0)]) (b := [(4, .box (Qu.cs ⟨q.limit, insAt q.packets i p⟩))]) (fun n => n) [71001] hS ?_ ?_ rfl (by first | rfl | (simp only [wfL, wfs]; rfl))) (ret_agg_ddL isRet_r rfl rfl rfl rfl rfl rfl rfl rfl rfl)
            all_goals repeat' (first | exact trivial | refine ⟨⟨_, rfl, ?_⟩, ?_⟩ | exact .c .d | exact .c (.ptr rfl) | refine .box ?_ | exact .nil | refine .cons ?_ ?_ | exact .d | (refine .frzOf (by first | (simp; done) | decide) rfl ?_ (fun _ => rfl); ((try dsimp only); first | rfl | omega | (simp only [lns] <;> omega)); done) | fail)
            all_goals (simp only [insAt, List.length_append, List.length_cons, List.length_take, List.length_drop]; simp only [List.length_take] at hi; omega)
    · have e : putQ q p = (noQ, [], formP p) := by rw [putQ, if_neg (by omega), if_pos hf]
      have hd : decide (formP p ≠ 0) = true := by simp [hf]
      rw [e]
      repeat' (first
        | (show VR _ _ _ (_ :: _) _ _ _; first | refine x_opF rfl (by first | exact True.intro | omega) ?_ | (show VR _ _ _ (⟨_, .call ⟨.value _, _, _⟩, _, _, _, _⟩ :: _) _ _ _; first | refine vr_calldU (hck) (gk rfl) rfl rfl rfl (by first | rfl | (simp only [wfRes, wfL, wfArgs, wfs]; rfl)) rfl (by first | exact newB_O | rfl) rfl ?_ | refine vr_calldU (hfm) (gk rfl) rfl rfl rfl (by first | rfl | (simp only [wfRes, wfL, wfArgs, wfs]; rfl)) rfl (by first | exact newB_O | rfl) rfl ?_))
        | (show VR _ _ _ [] _ _ _; first | refine vr_nil ?_)
        | (show thenQ _ _ _ _; first | refine q_then_n ?_ | refine q_then_r ?_)
        | refine vc_seq ?_
        | refine vc_region ?_
        | (show VC _ (.cond _ _ _) _ _; first | refine vc_cond_t rfl ?_ | refine vc_cond_f rfl ?_ | refine x_know rfl (by assumption) ?_)
        | refine vc_ret ?_ | refine vc_skip ?_
        | fail)
      refine retL_of (le_gen0 (l := [(4, .c (.ptr 4 0)), (5, AD (pks [])), (6, AI (formP p))]) (b := [(4, .box noQ.cs)]) (fun n => n) ?_ ?_ rfl (by first | rfl | (simp only [wfL, wfs]; rfl))) (ret_agg_ddL isRet_r rfl rfl rfl rfl rfl rfl rfl rfl rfl)
      all_goals repeat' (first | exact trivial | refine ⟨⟨_, rfl, ?_⟩, ?_⟩ | exact .c .d | exact .c (.ptr rfl) | exact .c .nil | refine .box ?_ | exact .nil | refine .cons ?_ ?_ | exact .d | fail)
  · have e : putQ q p = (noQ, [], 1) := by rw [putQ, if_pos hc]
    have hd : decide (checkQ q ≠ 0) = true := by simp [hc]
    rw [e]
    repeat' (first
      | (show VR _ _ _ (_ :: _) _ _ _; first | refine x_opF rfl (by first | exact True.intro | omega) ?_ | (show VR _ _ _ (⟨_, .call ⟨.value _, _, _⟩, _, _, _, _⟩ :: _) _ _ _; first | refine vr_calldU (hck) (gk rfl) rfl rfl rfl (by first | rfl | (simp only [wfRes, wfL, wfArgs, wfs]; rfl)) rfl (by first | exact newB_O | rfl) rfl ?_))
      | (show VR _ _ _ [] _ _ _; first | refine vr_nil ?_)
      | (show thenQ _ _ _ _; first | refine q_then_n ?_ | refine q_then_r ?_)
      | refine vc_seq ?_
      | refine vc_region ?_
      | (show VC _ (.cond _ _ _) _ _; first | refine vc_cond_t rfl ?_ | refine x_know rfl (by assumption) ?_)
      | refine vc_ret ?_
      | fail)
    refine retL_of (le_gen0 (l := [(4, .c (.ptr 4 0)), (5, AD (pks [])), (6, AI 1)]) (b := [(4, .box noQ.cs)]) (fun n => n) ?_ ?_ rfl (by first | rfl | (simp only [wfL, wfs]; rfl))) (ret_agg_ddL isRet_r rfl rfl rfl rfl rfl rfl rfl rfl rfl)
    all_goals repeat' (first | exact trivial | refine ⟨⟨_, rfl, ?_⟩, ?_⟩ | exact .c .d | exact .c (.ptr rfl) | exact .c .nil | refine .box ?_ | exact .nil | refine .cons ?_ ?_ | exact .d | fail)
end Go.Proofs.Q
end
section
-- SXS
namespace Go.Proofs.Q
open Go Go.Sx
set_option maxRecDepth 4000
set_option linter.unusedSimpArgs false
set_option linter.unusedVariables false
attribute [local irreducible] VR VC thenQ blockQ retL
def noI (id : Int) (l : List Pk) (k : Nat) : List Pk := (l.take k).filter fun x => decide (x.id ≠ id)
theorem noI_len (id : Int) (l : List Pk) (k : Nat) : (noI id l k).length ≤ k := by
  have := List.length_filter_le (fun x : Pk => decide (x.id ≠ id)) (l.take k)
  rw [List.length_take] at this
  unfold noI; omega
def withoutQ (q : Qu) (id : Int) : Qu := ⟨q.limit, q.packets.filter fun x => decide (x.id ≠ id)⟩
theorem without_spec (q : Qu) (id : Int) (hl : q.packets.length ≤ 100000) : FnS Tryz.prog 164 [quA q, AI id] [] (quA (withoutQ q id)) [] := by
  refine FnS.of_body (enters_of Tryz.func164 (by kernel_rfl) rfl) Tryz.func164 rfl Tryz.ntmps164 Tryz.results164 rfl rfl rfl rfl fun E hS => ?_
  refine vc_retL ?_
  repeat' (first
    | (show VR _ _ _ (_ :: _) _ _ _; first | refine x_opF rfl (by first | exact True.intro | omega) ?_)
    | (show VR _ _ _ [] _ _ _; first | refine vr_nil ?_)
    | (show thenQ _ _ _ _; first | refine q_then_n ?_)
    | refine vc_seq ?_
    | refine vc_region ?_
    | refine vc_block ?_
    | fail)
  refine VC.le (le_nilB (bx := 5) (nm := 44) (T := 71) (sz := 6) (j := 1) rfl rfl rfl) ?_
  refine vc_loopI (ι := Nat) (fun k => stOf [(1, AI id), (2, .c (.ptr 2 0)), (4, .c (.ptr 4 0)), (5, .c (.ptr 5 0)), (6, AI k)] [(2, .box q.cs), (4, .box noQ.cs), (5, .box [.d (.int .i64 q.limit), .row 44 (noI id q.packets k).length]), (44, .row 71 6 (rowOf Pk.enc (noI id q.packets k)))])
    (fun k => k ≤ q.packets.length) (fun k => q.packets.length - k) 0 (Nat.zero_le _) ?_ ?_
  · refine le_gen0 (fun n => n) ?_ ?_ rfl (by first | rfl | (simp only [wfL, wfs]; rfl))
    all_goals repeat' (first | exact trivial | refine ⟨⟨_, rfl, ?_⟩, ?_⟩ | exact .c .d | exact .c (.ptr rfl) | exact .boxD rfl rfl | exact .rowD rfl rowOf_isD | refine .box ?_ | exact .nil | refine .cons ?_ ?_ | exact .d | exact .row rfl rfl | fail)
  · intro k hk
    have hnl := noI_len id q.packets k
    repeat' (first
      | (show VR _ _ _ (_ :: _) _ _ _; first | refine x_opF rfl (by first | exact True.intro | omega) ?_ | (show VR _ _ _ (⟨_, .indexAddr _ _ _, _, _, _, _⟩ :: _) _ _ _; first | refine vr_index_rd (gk rfl) rfl rfl rfl rfl rfl (by omega) rfl ?_) | (show VR _ _ _ (⟨_, .call ⟨.builtin .append, _, _⟩, _, _, _, _⟩ :: _) _ _ _; first | refine vr_append0 (gk rfl) rfl rfl rfl (by first | rfl | exact rowOf_length.symm | (simp only [lns] <;> omega)) (by first | exact .row rfl (by first | rfl | exact rowOf_length.symm) | exact .rd | exact .nils) rfl rfl rfl (by (try dsimp only); omega) rfl rfl ?_))
      | (show VR _ _ _ [] _ _ _; first | refine vr_nil ?_ | refine vr_nil_t (by kernel_rfl) ?_)
      | (show thenQ _ _ _ _; first | refine q_then_n ?_ | refine q_then_x ?_)
      | (show blockQ _ _ _ _; first | refine q_blk_n ?_ | refine q_blk_x ?_)
      | refine vc_seq ?_
      | refine vc_region ?_ | refine vc_region_t ?_
      | (show VC _ (.cond _ _ _) _ _; first | (refine x_cond rfl ?_ ?_ <;> intro h <;> have hq := h <;> (try simp only [hqs] at hq)))
      | refine vc_ret ?_ | refine vc_exit ?_ | refine vc_block ?_ | refine vc_skip ?_
      | fail)
    · have hs : noI id q.packets (k + 1) = noI id q.packets k ++ [q.packets.getD k default] := by
        unfold noI; rw [filter_take (by omega), if_pos (by simpa using hq)]
      refine ⟨k + 1, by omega, by omega, ?_⟩
      rw [hs]
      refine le_gen0 (fun n => if n = 44 then 33 else n) ?_ ?_ rfl (by first | rfl | (simp only [wfL, wfs]; rfl))
      all_goals repeat' (first | exact trivial | refine ⟨⟨_, rfl, ?_⟩, ?_⟩ | exact .c .d | exact .c (.ptr rfl) | exact .boxD rfl rfl | (refine .rowD ?_ rowOf_isD; rw [rowOf_append]; rfl) | refine .box ?_ | exact .nil | refine .cons ?_ ?_ | exact .d | (refine .row rfl ?_; ((try dsimp only); first | rfl | omega | (simp only [lns] <;> omega)); done) | fail)
    · have hs : noI id q.packets (k + 1) = noI id q.packets k := by
        unfold noI; rw [filter_take (by omega), if_neg (by simpa using hq), List.append_nil]
      refine ⟨k + 1, by omega, by omega, ?_⟩
      rw [hs]
      refine le_gen0 (fun n => n) ?_ ?_ rfl (by first | rfl | (simp only [wfL, wfs]; rfl))
      all_goals repeat' (first | exact trivial | refine ⟨⟨_, rfl, ?_⟩, ?_⟩ | exact .c .d | exact .c (.ptr rfl) | exact .boxD rfl rfl | exact .rowD rfl rowOf_isD | refine .box ?_ | exact .nil | refine .cons ?_ ?_ | exact .d | exact .row rfl rfl | fail)
    · have hk' : k = q.packets.length := by omega
      subst hk'
      have hn : noI id q.packets q.packets.length = q.packets.filter fun x => decide (x.id ≠ id) := by unfold noI; rw [List.take_length]
      rw [hn]
      refine retL_of (le_gen (l := [(4, .c (.ptr 4 0))]) (b := [(4, .box (withoutQ q id).cs)]) (fun n => n) [44] hS ?_ ?_ rfl (by first | rfl | (simp only [wfL, wfs]; rfl))) (ret_aggL isRet_r rfl rfl rfl rfl rfl)
      all_goals repeat' (first | exact trivial | refine ⟨⟨_, rfl, ?_⟩, ?_⟩ | exact .c (.ptr rfl) | refine .box ?_ | exact .nil | refine .cons ?_ ?_ | exact .d | exact .frzOf (by first | (simp; done) | decide) rfl rfl (fun _ => rfl) | fail)
end Go.Proofs.Q
end
section
-- SXS
namespace Go.Proofs.Q
open Go Go.Sx
set_option maxRecDepth 4000
set_option linter.unusedSimpArgs false
set_option linter.unusedVariables false
attribute [local irreducible] VR VC thenQ blockQ retL
def noP : Pk := ⟨0, 0, 0, 0, 0, ⟨#[]⟩⟩
def firstQ (q : Qu) (to : Int) : Pk × Bool := if checkQ q ≠ 0 then (noP, false) else match idxTo q.packets to with
  | none => (noP, false)
  | some i => (q.packets.getD i default, true)
theorem firstQ_bad {q : Qu} {to : Int} (h : ¬ checkQ q = 0) : firstQ q to = (noP, false) := by rw [firstQ, if_pos h]
theorem firstQ_none {q : Qu} {to : Int} (h : checkQ q = 0) (hf : idxTo q.packets to = none) : firstQ q to = (noP, false) := by rw [firstQ, if_neg (by omega), hf]
theorem firstQ_some {q : Qu} {to : Int} {i : Nat} (h : checkQ q = 0) (hf : idxTo q.packets to = some i) : firstQ q to = (q.packets.getD i default, true) := by rw [firstQ, if_neg (by omega), hf]
set_option maxHeartbeats 1000000 in
theorem First_spec (q : Qu) (to : Int) : FnS Tryz.prog 150 [quA q, AI to] [] (.tup [pkA (firstQ q to).1, AB (firstQ q to).2]) [] := by
  have hck := checkQ_spec q
  have hfi := first_spec q.packets to
  refine FnS.of_body (enters_of Tryz.func150 (by kernel_rfl) rfl) Tryz.func150 rfl Tryz.ntmps150 Tryz.results150 rfl rfl rfl rfl fun E hS => ?_
  refine vc_retL ?_
  by_cases hc : checkQ q = 0
  · rw [hc] at hck
    have hl := checkQ_len hc
    cases hf : idxTo q.packets to with
    | none =>
      rw [hf] at hfi
      have hfi' : FnS Tryz.prog 171 [AD (pks q.packets), AI to] [] (AI (-1)) [] := hfi
      rw [firstQ_none hc hf]
      repeat' (first
        | (show VR _ _ _ (_ :: _) _ _ _; first | refine x_opF rfl (by first | exact True.intro | omega) ?_ | (show VR _ _ _ (⟨_, .call ⟨.value _, _, _⟩, _, _, _, _⟩ :: _) _ _ _; first | refine vr_calldU (hck) (gk rfl) rfl rfl rfl (by first | rfl | (simp only [wfRes, wfL, wfArgs, wfs]; rfl)) rfl (by first | exact newB_O | rfl) rfl ?_ | refine vr_calldU (hfi') (gk rfl) rfl rfl rfl (by first | rfl | (simp only [wfRes, wfL, wfArgs, wfs]; rfl)) rfl (by first | exact newB_O | rfl) rfl ?_))
        | (show VR _ _ _ [] _ _ _; first | refine vr_nil ?_)
        | (show thenQ _ _ _ _; first | refine q_then_n ?_)
        | refine vc_seq ?_
        | refine vc_region ?_
        | (show VC _ (.cond _ _ _) _ _; first | refine vc_cond_f rfl ?_)
        | refine vc_ret ?_ | refine vc_skip ?_
        | fail)
      refine retL_of (le_gen0 (l := [(4, .c (.ptr 4 0)), (5, AB false)]) (b := [(4, .box noP.cs)]) (fun n => n) ?_ ?_ rfl (by first | rfl | (simp only [wfL, wfs]; rfl))) (ret_agg_dL isRet_r rfl rfl rfl rfl rfl rfl rfl)
      all_goals repeat' (first | exact trivial | refine ⟨⟨_, rfl, ?_⟩, ?_⟩ | exact .c .d | exact .c (.ptr rfl) | exact .boxD rfl rfl | fail)
    | some i =>
      rw [hf] at hfi
      have hfi' : FnS Tryz.prog 171 [AD (pks q.packets), AI to] [] (AI (i : Nat)) [] := hfi
      obtain ⟨hi, _, _⟩ := fstO_some hf
      rw [firstQ_some hc hf]
      repeat' (first
        | (show VR _ _ _ (_ :: _) _ _ _; first | refine x_opF rfl (by first | exact True.intro | omega) ?_ | (show VR _ _ _ (⟨_, .call ⟨.value _, _, _⟩, _, _, _, _⟩ :: _) _ _ _; first | refine vr_calldU (hck) (gk rfl) rfl rfl rfl (by first | rfl | (simp only [wfRes, wfL, wfArgs, wfs]; rfl)) rfl (by first | exact newB_O | rfl) rfl ?_ | refine vr_calldU (hfi') (gk rfl) rfl rfl rfl (by first | rfl | (simp only [wfRes, wfL, wfArgs, wfs]; rfl)) rfl (by first | exact newB_O | rfl) rfl ?_) | (show VR _ _ _ (⟨_, .indexAddr _ _ _, _, _, _, _⟩ :: _) _ _ _; first | refine vr_index_rd (gk rfl) rfl rfl rfl rfl rfl (by omega) rfl ?_))
        | (show VR _ _ _ [] _ _ _; first | refine vr_nil ?_)
        | (show thenQ _ _ _ _; first | refine q_then_n ?_ | refine q_then_r ?_)
        | refine vc_seq ?_
        | refine vc_region ?_
        | (show VC _ (.cond _ _ _) _ _; first | refine vc_cond_t rfl ?_ | refine vc_cond_f rfl ?_)
        | refine vc_ret ?_ | refine vc_skip ?_
        | fail)
      all_goals first
        | (exfalso; omega)
        | skip
      refine retL_of (le_gen0 (l := [(4, .c (.ptr 4 0)), (5, AB true)]) (b := [(4, .box (q.packets.getD i default).cs)]) (fun n => n) ?_ ?_ rfl (by first | rfl | (simp only [wfL, wfs]; rfl))) (ret_agg_dL isRet_r rfl rfl rfl rfl rfl rfl rfl)
      all_goals repeat' (first | exact trivial | refine ⟨⟨_, rfl, ?_⟩, ?_⟩ | exact .c .d | exact .c (.ptr rfl) | exact .boxD rfl rfl | fail)
  · rw [firstQ_bad hc]
    have hd : decide (checkQ q ≠ 0) = true := by simp [hc]
    repeat' (first
      | (show VR _ _ _ (_ :: _) _ _ _; first | refine x_opF rfl (by first | exact True.intro | omega) ?_ | (show VR _ _ _ (⟨_, .call ⟨.value _, _, _⟩, _, _, _, _⟩ :: _) _ _ _; first | refine vr_calldU (hck) (gk rfl) rfl rfl rfl (by first | rfl | (simp only [wfRes, wfL, wfArgs, wfs]; rfl)) rfl (by first | exact newB_O | rfl) rfl ?_))
      | (show VR _ _ _ [] _ _ _; first | refine vr_nil ?_)
      | (show thenQ _ _ _ _; first | refine q_then_n ?_ | refine q_then_r ?_)
      | refine vc_seq ?_
      | refine vc_region ?_
      | (show VC _ (.cond _ _ _) _ _; first | refine vc_cond_t rfl ?_ | refine x_know rfl (by assumption) ?_)
      | refine vc_ret ?_
      | fail)
    refine retL_of (le_gen0 (l := [(4, .c (.ptr 4 0)), (5, AB false)]) (b := [(4, .box noP.cs)]) (fun n => n) ?_ ?_ rfl (by first | rfl | (simp only [wfL, wfs]; rfl))) (ret_agg_dL isRet_r rfl rfl rfl rfl rfl rfl rfl)
    all_goals repeat' (first | exact trivial | refine ⟨⟨_, rfl, ?_⟩, ?_⟩ | exact .c .d | exact .c (.ptr rfl) | exact .boxD rfl rfl | fail)
set_option maxHeartbeats 1000000 in
theorem r_First_spec (q : Qu) (to : Int) : FnS Tryz.prog 105 [quA q, AI to] [] (.tup [pkA (firstQ q to).1, AB (firstQ q to).2]) [] := by
  have hck := r_checkQ_spec q
  refine FnS.of_body (enters_of Tryz.func105 (by kernel_rfl) rfl) Tryz.func105 rfl Tryz.ntmps105 Tryz.results105 rfl rfl rfl rfl fun E hS => ?_
  refine vc_retL ?_
  by_cases hc : checkQ q = 0
  · rw [hc] at hck
    have hl := checkQ_len hc
    repeat' (first
      | (show VR _ _ _ (_ :: _) _ _ _; first | refine x_opF rfl (by first | exact True.intro | omega) ?_ | (show VR _ _ _ (⟨_, .call ⟨.value _, _, _⟩, _, _, _, _⟩ :: _) _ _ _; first | refine vr_calldU (hck) (gk rfl) rfl rfl rfl (by first | rfl | (simp only [wfRes, wfL, wfArgs, wfs]; rfl)) rfl (by first | exact newB_O | rfl) rfl ?_))
      | (show VR _ _ _ [] _ _ _; first | refine vr_nil ?_)
      | (show thenQ _ _ _ _; first | refine q_then_n ?_)
      | refine vc_seq ?_
      | refine vc_region ?_
      | (show VC _ (.cond _ _ _) _ _; first | refine vc_cond_f rfl ?_)
      | refine vc_block ?_ | refine vc_skip ?_
      | fail)
    refine vc_loopI (ι := Nat) (fun k => stOf [(1, AI to), (2, .c (.ptr 2 0)), (4, .c (.ptr 4 0)), (6, AI k)] [(2, .box q.cs), (4, .box noP.cs)]) (fun k => k ≤ q.packets.length ∧ ∀ i, i < k → decide ((q.packets.getD i default).to = to) = false) (fun k => q.packets.length - k) 0 ⟨Nat.zero_le _, fun i hi => absurd hi (Nat.not_lt_zero _)⟩ ?_ ?_
    · refine le_gen0 (fun n => n) ?_ ?_ rfl (by first | rfl | (simp only [wfL, wfs]; rfl))
      all_goals repeat' (first | exact trivial | refine ⟨⟨_, rfl, ?_⟩, ?_⟩ | exact .c .d | exact .c (.ptr rfl) | exact .boxD rfl rfl | fail)
    · intro k hk
      repeat' (first
        | (show VR _ _ _ (_ :: _) _ _ _; first | refine x_opF rfl (by first | exact True.intro | omega) ?_ | (show VR _ _ _ (⟨_, .indexAddr _ _ _, _, _, _, _⟩ :: _) _ _ _; first | refine vr_index_rd (gk rfl) rfl rfl rfl rfl rfl (by omega) rfl ?_))
        | (show VR _ _ _ [] _ _ _; first | refine vr_nil ?_)
        | (show thenQ _ _ _ _; first | refine q_then_n ?_ | refine q_then_x ?_ | refine q_then_r ?_)
        | (show blockQ _ _ _ _; first | refine q_blk_n ?_ | refine q_blk_r ?_ | refine q_blk_x ?_)
        | refine vc_seq ?_
        | refine vc_region ?_
        | (show VC _ (.cond _ _ _) _ _; first | (refine x_cond rfl ?_ ?_ <;> intro h <;> have hq := h <;> (try simp only [hqs] at hq)))
        | refine vc_ret ?_ | refine vc_exit ?_ | refine vc_block ?_ | refine vc_skip ?_
        | fail)
      · rw [firstQ_some hc (i := k) (fstO_hit hk.2 (by omega) (decide_eq_true hq))]
        refine retL_of (le_gen0 (l := [(4, .c (.ptr 4 0)), (5, AB true)]) (b := [(4, .box (q.packets.getD k default).cs)]) (fun n => n) ?_ ?_ rfl (by first | rfl | (simp only [wfL, wfs]; rfl))) (ret_agg_dL isRet_r rfl rfl rfl rfl rfl rfl rfl)
        all_goals repeat' (first | exact trivial | refine ⟨⟨_, rfl, ?_⟩, ?_⟩ | exact .c .d | exact .c (.ptr rfl) | exact .boxD rfl rfl | fail)
      · refine ⟨k + 1, ⟨by omega, fun i hi => ?_⟩, by omega, ?_⟩
        · by_cases hik : i < k
          · exact hk.2 i hik
          · have : i = k := by omega
            subst this
            exact decide_eq_false hq
        · refine le_gen0 (fun n => n) ?_ ?_ rfl (by first | rfl | (simp only [wfL, wfs]; rfl))
          all_goals repeat' (first | exact trivial | refine ⟨⟨_, rfl, ?_⟩, ?_⟩ | exact .c .d | exact .c (.ptr rfl) | exact .boxD rfl rfl | fail)
      · have : k = q.packets.length := by omega
        subst this
        rw [firstQ_none hc (fstO_none hk.2)]
        refine retL_of (le_gen0 (l := [(4, .c (.ptr 4 0)), (5, AB false)]) (b := [(4, .box noP.cs)]) (fun n => n) ?_ ?_ rfl (by first | rfl | (simp only [wfL, wfs]; rfl))) (ret_agg_dL isRet_r rfl rfl rfl rfl rfl rfl rfl)
        all_goals repeat' (first | exact trivial | refine ⟨⟨_, rfl, ?_⟩, ?_⟩ | exact .c .d | exact .c (.ptr rfl) | exact .boxD rfl rfl | fail)
  · rw [firstQ_bad hc]
    have hd : decide (checkQ q ≠ 0) = true := by simp [hc]
    repeat' (first
      | (show VR _ _ _ (_ :: _) _ _ _; first | refine x_opF rfl (by first | exact True.intro | omega) ?_ | (show VR _ _ _ (⟨_, .call ⟨.value _, _, _⟩, _, _, _, _⟩ :: _) _ _ _; first | refine vr_calldU (hck) (gk rfl) rfl rfl rfl (by first | rfl | (simp only [wfRes, wfL, wfArgs, wfs]; rfl)) rfl (by first | exact newB_O | rfl) rfl ?_))
      | (show VR _ _ _ [] _ _ _; first | refine vr_nil ?_)
      | (show thenQ _ _ _ _; first | refine q_then_n ?_ | refine q_then_r ?_)
      | refine vc_seq ?_
      | refine vc_region ?_
      | (show VC _ (.cond _ _ _) _ _; first | refine vc_cond_t rfl ?_ | refine x_know rfl (by assumption) ?_)
      | refine vc_ret ?_
      | fail)
    refine retL_of (le_gen0 (l := [(4, .c (.ptr 4 0)), (5, AB false)]) (b := [(4, .box noP.cs)]) (fun n => n) ?_ ?_ rfl (by first | rfl | (simp only [wfL, wfs]; rfl))) (ret_agg_dL isRet_r rfl rfl rfl rfl rfl rfl rfl)
    all_goals repeat' (first | exact trivial | refine ⟨⟨_, rfl, ?_⟩, ?_⟩ | exact .c .d | exact .c (.ptr rfl) | exact .boxD rfl rfl | fail)
/-! IDs of a right queue differ. -/
theorem firstErr_zero {n : Nat} {f : Nat → Int} (h : firstErr n f = 0) {i : Nat} (hi : i < n) : f i = 0 := by
  unfold firstErr at h
  cases hf : (List.range n).find? (fun i => f i != 0) with
  | none => have := List.find?_eq_none.1 hf i (List.mem_range.2 hi); simpa using this
  | some k =>
    rw [hf] at h
    have := List.find?_some hf
    simp at this
    exact absurd h this
theorem checkQ_err {q : Qu} (h : checkQ q = 0) {k : Nat} (hk : k < q.packets.length) : pkErr q.packets k = 0 := by
  obtain ⟨h1, h2, h3⟩ := checkQ_len h
  unfold checkQ at h
  rw [if_neg (by simp [inI]; omega), if_neg (by omega)] at h
  exact firstErr_zero h hk
theorem checkQ_at {q : Qu} (h : checkQ q = 0) {k : Nat} (hk : k < q.packets.length) :
    formP (q.packets.getD k default) = 0 ∧ (∀ i, i < k → (q.packets.getD i default).id ≠ (q.packets.getD k default).id) ∧ (0 < k → (q.packets.getD (k - 1) default).prio ≤ (q.packets.getD k default).prio) := by
  have := checkQ_err h hk
  unfold pkErr at this
  split at this
  · rename_i h1; exact absurd this h1
  · rename_i h1
    split at this
    · cases this
    · rename_i h2
      split at this
      · cases this
      · rename_i h3
        refine ⟨by omega, fun i hi e => h2 ?_, fun h0 => by omega⟩
        rw [List.any_eq_true]
        refine ⟨q.packets.getD i default, ?_, decide_eq_true e⟩
        rw [List.getD_eq_getElem?_getD, List.getElem?_eq_getElem (by omega)]
        exact List.mem_take_iff_getElem.2 ⟨i, by omega, rfl⟩
theorem checkQ_ne {q : Qu} (h : checkQ q = 0) {i j : Nat} (hi : i < q.packets.length) (hj : j < q.packets.length) (hij : i ≠ j) : (q.packets.getD i default).id ≠ (q.packets.getD j default).id := by
  rcases Nat.lt_or_gt_of_ne hij with hlt | hlt
  · exact (checkQ_at h hj).2.1 i hlt
  · exact fun e => (checkQ_at h hi).2.1 j hlt e.symm
theorem filter_eraseI {q : Qu} (h : checkQ q = 0) {a : Int} {i : Nat} (hf : idxId q.packets a = some i) : q.packets.filter (fun x => decide (x.id ≠ a)) = q.packets.eraseIdx i := by
  obtain ⟨hi, hc, hlt⟩ := fstO_some hf
  have hc := of_decide_eq_true hc
  have e1 : (q.packets.take i).filter (fun x => decide (x.id ≠ a)) = q.packets.take i := by
    rw [List.filter_eq_self]
    intro x hx
    obtain ⟨k, hk, _, rfl⟩ := mem_take_getD hx
    exact decide_eq_true (of_decide_eq_false (hlt k hk))
  have e2 : (q.packets.drop (i + 1)).filter (fun x => decide (x.id ≠ a)) = q.packets.drop (i + 1) := by
    rw [List.filter_eq_self]
    intro x hx
    obtain ⟨k, hk, rfl⟩ := List.getElem_of_mem hx
    rw [List.length_drop] at hk
    rw [List.getElem_drop]
    refine decide_eq_true fun e => ?_
    have := checkQ_ne h (i := i) (j := i + 1 + k) hi (by omega) (by omega)
    rw [hc, List.getD_eq_getElem?_getD, List.getElem?_eq_getElem (by omega)] at this
    exact this e.symm
  conv => lhs; rw [← List.take_append_drop i q.packets, drop_cons hi, List.filter_append]
  rw [e1, List.filter_cons_of_neg (by rw [hc]; simp), e2, List.eraseIdx_eq_take_drop_succ]
def takeQ (q : Qu) (id : Int) : Qu × Pk × Int := if checkQ q ≠ 0 then (noQ, noP, 1) else match idxId q.packets id with
  | none => (noQ, noP, 7)
  | some i => (⟨q.limit, q.packets.eraseIdx i⟩, q.packets.getD i default, 0)
theorem takeQ_bad {q : Qu} {to : Int} (h : ¬ checkQ q = 0) : takeQ q to = (noQ, noP, 1) := by rw [takeQ, if_pos h]
theorem takeQ_none {q : Qu} {to : Int} (h : checkQ q = 0) (hf : idxId q.packets to = none) : takeQ q to = (noQ, noP, 7) := by rw [takeQ, if_neg (by omega), hf]
theorem takeQ_some {q : Qu} {to : Int} {i : Nat} (h : checkQ q = 0) (hf : idxId q.packets to = some i) : takeQ q to = (⟨q.limit, q.packets.eraseIdx i⟩, q.packets.getD i default, 0) := by rw [takeQ, if_neg (by omega), hf]
set_option maxHeartbeats 1000000 in
theorem take_spec (q : Qu) (id : Int) : FnS Tryz.prog 157 [quA q, AI id] [] (.tup [quA (takeQ q id).1, pkA (takeQ q id).2.1, AI (takeQ q id).2.2]) [] := by
  have hck := checkQ_spec q
  have hix := qindex_spec q id
  refine FnS.of_body (enters_of Tryz.func157 (by kernel_rfl) rfl) Tryz.func157 rfl Tryz.ntmps157 Tryz.results157 rfl rfl rfl rfl fun E hS => ?_
  refine vc_retL ?_
  by_cases hc : checkQ q = 0
  · rw [hc] at hck
    have hl := checkQ_len hc
    cases hf : idxId q.packets id with
    | none =>
      rw [hf] at hix
      have hix' : FnS Tryz.prog 138 [quA q, AI id] [] (AI (-1)) [] := hix
      rw [takeQ_none hc hf]
      repeat' (first
        | (show VR _ _ _ (_ :: _) _ _ _; first | refine x_opF rfl (by first | exact True.intro | omega) ?_ | (show VR _ _ _ (⟨_, .call ⟨.value _, _, _⟩, _, _, _, _⟩ :: _) _ _ _; first | refine vr_calldU (hck) (gk rfl) rfl rfl rfl (by first | rfl | (simp only [wfRes, wfL, wfArgs, wfs]; rfl)) rfl (by first | exact newB_O | rfl) rfl ?_ | refine vr_calldU (hix') (gk rfl) rfl rfl rfl (by first | rfl | (simp only [wfRes, wfL, wfArgs, wfs]; rfl)) rfl (by first | exact newB_O | rfl) rfl ?_))
        | (show VR _ _ _ [] _ _ _; first | refine vr_nil ?_)
        | (show thenQ _ _ _ _; first | refine q_then_n ?_ | refine q_then_r ?_)
        | refine vc_seq ?_
        | refine vc_region ?_
        | (show VC _ (.cond _ _ _) _ _; first | refine vc_cond_t rfl ?_ | refine vc_cond_f rfl ?_)
        | refine vc_ret ?_ | refine vc_skip ?_
        | fail)
      refine retL_of (le_gen0 (l := [(4, .c (.ptr 4 0)), (5, .c (.ptr 5 0)), (6, AI 7)]) (b := [(4, .box noQ.cs), (5, .box noP.cs)]) (fun n => n) ?_ ?_ rfl (by first | rfl | (simp only [wfL, wfs]; rfl))) (ret_agg_agg_dL isRet_r rfl rfl rfl rfl rfl rfl rfl rfl rfl rfl rfl rfl)
      all_goals repeat' (first | exact trivial | refine ⟨⟨_, rfl, ?_⟩, ?_⟩ | exact .c .d | exact .c (.ptr rfl) | exact .boxD rfl rfl | refine .box ?_ | exact .nil | refine .cons ?_ ?_ | exact .d | fail)
    | some i =>
      rw [hf] at hix
      have hix' : FnS Tryz.prog 138 [quA q, AI id] [] (AI (i : Nat)) [] := hix
      obtain ⟨hi, _, _⟩ := fstO_some hf
      rw [takeQ_some hc hf]
      repeat' (first
        | (show VR _ _ _ (_ :: _) _ _ _; first | refine x_opF rfl (by first | exact True.intro | omega) ?_ | (show VR _ _ _ (⟨_, .call ⟨.value _, _, _⟩, _, _, _, _⟩ :: _) _ _ _; first | refine vr_calldU (hck) (gk rfl) rfl rfl rfl (by first | rfl | (simp only [wfRes, wfL, wfArgs, wfs]; rfl)) rfl (by first | exact newB_O | rfl) rfl ?_ | refine vr_calldU (hix') (gk rfl) rfl rfl rfl (by first | rfl | (simp only [wfRes, wfL, wfArgs, wfs]; rfl)) rfl (by first | exact newB_O | rfl) rfl ?_ | refine vr_calldU (clone_Pk q.packets (by omega)) (gk rfl) rfl rfl rfl (by first | rfl | (simp only [wfRes, wfL, wfArgs, wfs]; rfl)) rfl (by first | exact newB_O | rfl) rfl ?_ | refine vr_callMU [] (delete_Pk q.packets i hi (by omega)) (gk rfl) rfl rfl rowOf_isD rfl (by (repeat' (first | exact .nil | refine .cons ?_ ?_ | exact .of0 (.c .d) | exact .of0 .ep | exact .clo | exact .of0 (.c .nil) | exact .of0 (.c (cr_rowO (by simp) rfl (by first | rfl | omega) (fun _ => rfl))) | refine .of0 (.agg ?_) | exact .d | exact .nil | exact .of0 (.c (cr_row (by decide) rfl rfl (by repeat' (first | exact trivial | refine ⟨?_, ?_⟩ | rfl)))))) <;> fail) rfl (by first | rfl | exact hfl_O (fun _ => rfl) | exact hfl_O2 rfl (fun _ => rfl)) rfl (by first | rfl | (simp only [wfRes, wfL, wfArgs, wfs]; rfl)) rfl (by first | exact newB_O | rfl) rfl ?_) | (show VR _ _ _ (⟨_, .indexAddr _ _ _, _, _, _, _⟩ :: _) _ _ _; first | refine vr_index_rd (gk rfl) rfl rfl rfl rfl rfl (by omega) rfl ?_))
        | (show VR _ _ _ [] _ _ _; first | refine vr_nil ?_ | refine vr_nil_t (by kernel_rfl) ?_)
        | (show thenQ _ _ _ _; first | refine q_then_n ?_)
        | refine vc_seq ?_
        | refine vc_region ?_ | refine vc_region_t ?_
        | (show VC _ (.cond _ _ _) _ _; first | refine vc_cond_f rfl ?_)
        | refine vc_ret ?_ | refine vc_skip ?_
        | fail)
      all_goals first
        | (exfalso; omega)
        | skip
      refine retL_of (le_gen (l := [(4, .c (.ptr 4 0)), (5, .c (.ptr 5 0)), (6, AI 0)]) (b := [(4, .box (Qu.cs ⟨q.limit, q.packets.eraseIdx i⟩)), (5, .box (q.packets.getD i default).cs)]) (fun n => n) [28000] hS ?_ ?_ rfl (by first | rfl | (simp only [wfL, wfs]; rfl))) (ret_agg_agg_dL isRet_r rfl rfl rfl rfl rfl rfl rfl rfl rfl rfl rfl rfl)
      all_goals repeat' (first | exact trivial | refine ⟨⟨_, rfl, ?_⟩, ?_⟩ | exact .c .d | exact .c (.ptr rfl) | exact .boxD rfl rfl | refine .box ?_ | exact .nil | refine .cons ?_ ?_ | exact .d | fail)
      exact .frzOf (by simp) rfl (List.length_eraseIdx_of_lt hi).symm (fun _ => rfl)
  · rw [takeQ_bad hc]
    have hd : decide (checkQ q ≠ 0) = true := by simp [hc]
    repeat' (first
      | (show VR _ _ _ (_ :: _) _ _ _; first | refine x_opF rfl (by first | exact True.intro | omega) ?_ | (show VR _ _ _ (⟨_, .call ⟨.value _, _, _⟩, _, _, _, _⟩ :: _) _ _ _; first | refine vr_calldU (hck) (gk rfl) rfl rfl rfl (by first | rfl | (simp only [wfRes, wfL, wfArgs, wfs]; rfl)) rfl (by first | exact newB_O | rfl) rfl ?_))
      | (show VR _ _ _ [] _ _ _; first | refine vr_nil ?_)
      | (show thenQ _ _ _ _; first | refine q_then_n ?_ | refine q_then_r ?_)
      | refine vc_seq ?_
      | refine vc_region ?_
      | (show VC _ (.cond _ _ _) _ _; first | refine vc_cond_t rfl ?_ | refine x_know rfl (by assumption) ?_)
      | refine vc_ret ?_
      | fail)
    refine retL_of (le_gen0 (l := [(4, .c (.ptr 4 0)), (5, .c (.ptr 5 0)), (6, AI 1)]) (b := [(4, .box noQ.cs), (5, .box noP.cs)]) (fun n => n) ?_ ?_ rfl (by first | rfl | (simp only [wfL, wfs]; rfl))) (ret_agg_agg_dL isRet_r rfl rfl rfl rfl rfl rfl rfl rfl rfl rfl rfl rfl)
    all_goals repeat' (first | exact trivial | refine ⟨⟨_, rfl, ?_⟩, ?_⟩ | exact .c .d | exact .c (.ptr rfl) | exact .boxD rfl rfl | refine .box ?_ | exact .nil | refine .cons ?_ ?_ | exact .d | fail)
end Go.Proofs.Q
end
section
-- SXS
namespace Go.Proofs.Q
open Go Go.Sx
set_option maxRecDepth 4000
set_option linter.unusedSimpArgs false
set_option linter.unusedVariables false
attribute [local irreducible] VR VC thenQ blockQ retL
end Go.Proofs.Q
end
section
-- SXS
namespace Go.Proofs.Q
open Go Go.Sx
set_option maxRecDepth 4000
set_option linter.unusedSimpArgs false
set_option linter.unusedVariables false
attribute [local irreducible] VR VC thenQ blockQ retL
def sameQ (a b : Qu) : Bool := decide (a.limit = b.limit ∧ a.packets = b.packets)
theorem same_spec (a b : Qu) : FnS Tryz.prog 49 [quA a, quA b] [] (AB (sameQ a b)) [] := by
  refine FnS.of_body (enters_of Tryz.func49 (by kernel_rfl) rfl) Tryz.func49 rfl Tryz.ntmps49 Tryz.results49 rfl rfl rfl rfl fun E hS => ?_
  repeat' (first
    | (show VR _ _ _ (_ :: _) _ _ _; first | refine x_opF rfl (by first | exact True.intro | omega) ?_ | (show VR _ _ _ (⟨_, .call ⟨.value _, _, _⟩, _, _, _, _⟩ :: _) _ _ _; first | refine vr_calldU (samePks_spec _ _) (gk rfl) rfl rfl rfl (by first | rfl | (simp only [wfRes, wfL, wfArgs, wfs]; rfl)) rfl (by first | exact newB_O | rfl) rfl ?_) | (refine x_gsplit rfl ?_ ?_ <;> intro h <;> have hq := h <;> (try simp only [hqs] at hq)))
    | (show VR _ _ _ [] _ _ _; first | refine vr_nil ?_)
    | (show thenQ _ _ _ _; first | refine q_then_n ?_)
    | refine vc_seq ?_
    | refine vc_region ?_
    | refine vc_ret ?_
    | fail)
  all_goals (refine ret_bool isRet_r rfl ?_; unfold sameQ; simp_all)
def fewQ (q : Qu) : Bool := decide (q.packets.length ≤ 70) && q.packets.all fun x => decide (x.data.size ≤ 200)
theorem few_spec (q : Qu) : FnS Tryz.prog 34 [quA q] [] (AB (fewQ q)) [] := by
  refine FnS.of_body (enters_of Tryz.func34 (by kernel_rfl) rfl) Tryz.func34 rfl Tryz.ntmps34 Tryz.results34 rfl rfl rfl rfl fun E hS => ?_
  repeat' (first
    | (show VR _ _ _ (_ :: _) _ _ _; first | refine x_opF rfl (by first | exact True.intro | omega) ?_)
    | (show VR _ _ _ [] _ _ _; first | refine vr_nil ?_)
    | (show thenQ _ _ _ _; first | refine q_then_n ?_ | refine q_then_r ?_)
    | refine vc_seq ?_
    | refine vc_region ?_
    | (show VC _ (.cond _ _ _) _ _; first | (refine x_cond rfl ?_ ?_ <;> intro h <;> have hq := h <;> (try simp only [hqs] at hq)))
    | refine vc_ret ?_ | refine vc_block ?_ | refine vc_skip ?_
    | fail)
  · refine ret_bool isRet_r rfl ?_
    rw [fewQ, decide_eq_false (by omega)]; rfl
  · refine vc_loopI (ι := Nat) (fun k => stOf [(1, .c (.ptr 1 0)), (3, AI k)] [(1, .box q.cs)]) (fun k => k ≤ q.packets.length ∧ ∀ i, i < k → (q.packets.getD i default).data.size ≤ 200) (fun k => q.packets.length - k) 0 ⟨Nat.zero_le _, fun i hi => absurd hi (Nat.not_lt_zero _)⟩ ?_ ?_
    · refine le_gen0 (fun n => n) ?_ ?_ rfl (by first | rfl | (simp only [wfL, wfs]; rfl))
      all_goals repeat' (first | exact trivial | refine ⟨⟨_, rfl, ?_⟩, ?_⟩ | exact .c .d | exact .c (.ptr rfl) | exact .boxD rfl rfl | fail)
    · intro k hk
      repeat' (first
        | (show VR _ _ _ (_ :: _) _ _ _; first | refine x_opF rfl (by first | exact True.intro | omega) ?_ | (show VR _ _ _ (⟨_, .indexAddr _ _ _, _, _, _, _⟩ :: _) _ _ _; first | refine vr_index_rd (gk rfl) rfl rfl rfl rfl rfl (by omega) rfl ?_))
        | (show VR _ _ _ [] _ _ _; first | refine vr_nil ?_)
        | (show thenQ _ _ _ _; first | refine q_then_n ?_ | refine q_then_x ?_ | refine q_then_r ?_)
        | (show blockQ _ _ _ _; first | refine q_blk_n ?_ | refine q_blk_r ?_ | refine q_blk_x ?_)
        | refine vc_seq ?_
        | refine vc_region ?_
        | (show VC _ (.cond _ _ _) _ _; first | (refine x_cond rfl ?_ ?_ <;> intro h <;> have hq := h <;> (try simp only [hqs] at hq)))
        | refine vc_ret ?_ | refine vc_exit ?_ | refine vc_block ?_ | refine vc_skip ?_
        | fail)
      · refine ret_bool isRet_r rfl ?_
        have : (q.packets.all fun x => decide (x.data.size ≤ 200)) = false := by
          rw [List.all_eq_false]
          exact ⟨_, getD_mem (l := q.packets) (i := k) (by omega), by rw [decide_eq_true_eq]; omega⟩
        rw [fewQ, this, Bool.and_false]
      · refine ⟨k + 1, ⟨by omega, fun i hi => ?_⟩, by omega, ?_⟩
        · by_cases hik : i < k
          · exact hk.2 i hik
          · have : i = k := by omega
            subst this
            omega
        · refine le_gen0 (fun n => n) ?_ ?_ rfl (by first | rfl | (simp only [wfL, wfs]; rfl))
          all_goals repeat' (first | exact trivial | refine ⟨⟨_, rfl, ?_⟩, ?_⟩ | exact .c .d | exact .c (.ptr rfl) | exact .boxD rfl rfl | fail)
      · refine ret_bool isRet_r rfl ?_
        have : (q.packets.all fun x => decide (x.data.size ≤ 200)) = true := by
          rw [List.all_eq_true]
          intro x hx
          obtain ⟨i, hi, rfl⟩ := mem_getD hx
          exact decide_eq_true (hk.2 i (by omega))
        rw [fewQ, this, decide_eq_true (by omega)]; rfl
end Go.Proofs.Q
end
