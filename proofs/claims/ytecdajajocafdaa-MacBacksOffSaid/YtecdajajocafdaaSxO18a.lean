/-
  What functions of the given program hand back, by walks over its code, and plain laws on that. No condition.
-/
import Derived.Test.YtecdajajocafdaaSxO18Qz
import Derived.Test.YtecdajajocafdaaSxO18Tz
-- SXS
-- SXM
namespace Go.Proofs
open Go Go.Sx Go.Proofs.T Go.Proofs.Q
set_option maxRecDepth 4000
set_option linter.unusedSimpArgs false
set_option linter.unusedVariables false
attribute [local irreducible] VR VC thenQ blockQ retL
/-! What a station is made of. -/
structure Hd where
  flow : Int
  frame : Int
  til : Int
  data : ByteArray
  acked : List Int
  deriving DecidableEq, Inhabited
def Hd.enc (x : Hd) : List D := [.int .i64 x.flow, .int .i64 x.frame, .int .i64 x.til, .str x.data, ints x.acked]
def Hd.cs (x : Hd) : List C := [.d (.int .i64 x.flow), .d (.int .i64 x.frame), .d (.int .i64 x.til), .d (.str x.data), .d (ints x.acked)]
abbrev hdA (x : Hd) : AV := .agg x.cs
abbrev hds (l : List Hd) : D := rdOf Hd.enc 5 l
structure Sn where
  node : Int
  seq : Int
  deriving DecidableEq, Inhabited
def Sn.enc (x : Sn) : List D := [.int .i64 x.node, .int .i64 x.seq]
def Sn.cs (x : Sn) : List C := [.d (.int .i64 x.node), .d (.int .i64 x.seq)]
abbrev snA (x : Sn) : AV := .agg x.cs
abbrev sns (l : List Sn) : D := rdOf Sn.enc 2 l
theorem sn_sv {x y : Sn} (h : [SV.int IntKind.i64 x.seq, SV.int IntKind.i64 x.node].reverse = [SV.int IntKind.i64 y.seq, SV.int IntKind.i64 y.node].reverse) : x = y := by
  have h := List.reverse_inj.1 h
  cases x; cases y
  simp only [List.cons.injEq, SV.int.injEq, SV.bool.injEq, SV.str.injEq, true_and, and_true] at h
  obtain ⟨rfl, rfl⟩ := h
  rfl
theorem sn_vs {x y : Sn} (h : x = y) : [SV.int IntKind.i64 x.seq, SV.int IntKind.i64 x.node].reverse = [SV.int IntKind.i64 y.seq, SV.int IntKind.i64 y.node].reverse := by rw [h]
instance : FlatE Sn.enc := ⟨fun _ => rfl⟩
structure Fr where
  kind : Int
  source : Int
  target : Int
  list : Int
  seq : Int
  flow : Int
  number : Int
  err : Int
  slot : Int
  rank : Int
  epoch : Int
  data : ByteArray
  deriving DecidableEq, Inhabited
def Fr.enc (x : Fr) : List D := [.int .i64 x.kind, .int .i64 x.source, .int .i64 x.target, .int .i64 x.list, .int .i64 x.seq, .int .i64 x.flow, .int .i64 x.number, .int .i64 x.err, .int .i64 x.slot, .int .i64 x.rank, .int .i64 x.epoch, .str x.data]
def Fr.cs (x : Fr) : List C := [.d (.int .i64 x.kind), .d (.int .i64 x.source), .d (.int .i64 x.target), .d (.int .i64 x.list), .d (.int .i64 x.seq), .d (.int .i64 x.flow), .d (.int .i64 x.number), .d (.int .i64 x.err), .d (.int .i64 x.slot), .d (.int .i64 x.rank), .d (.int .i64 x.epoch), .d (.str x.data)]
abbrev frA (x : Fr) : AV := .agg x.cs
abbrev frs (l : List Fr) : D := rdOf Fr.enc 12 l
theorem fr_sv {x y : Fr} (h : [SV.str x.data, SV.int IntKind.i64 x.epoch, SV.int IntKind.i64 x.rank, SV.int IntKind.i64 x.slot, SV.int IntKind.i64 x.err, SV.int IntKind.i64 x.number, SV.int IntKind.i64 x.flow, SV.int IntKind.i64 x.seq, SV.int IntKind.i64 x.list, SV.int IntKind.i64 x.target, SV.int IntKind.i64 x.source, SV.int IntKind.i64 x.kind].reverse = [SV.str y.data, SV.int IntKind.i64 y.epoch, SV.int IntKind.i64 y.rank, SV.int IntKind.i64 y.slot, SV.int IntKind.i64 y.err, SV.int IntKind.i64 y.number, SV.int IntKind.i64 y.flow, SV.int IntKind.i64 y.seq, SV.int IntKind.i64 y.list, SV.int IntKind.i64 y.target, SV.int IntKind.i64 y.source, SV.int IntKind.i64 y.kind].reverse) : x = y := by
  have h := List.reverse_inj.1 h
  cases x; cases y
  simp only [List.cons.injEq, SV.int.injEq, SV.bool.injEq, SV.str.injEq, true_and, and_true] at h
  obtain ⟨rfl, rfl, rfl, rfl, rfl, rfl, rfl, rfl, rfl, rfl, rfl, rfl⟩ := h
  rfl
theorem fr_vs {x y : Fr} (h : x = y) : [SV.str x.data, SV.int IntKind.i64 x.epoch, SV.int IntKind.i64 x.rank, SV.int IntKind.i64 x.slot, SV.int IntKind.i64 x.err, SV.int IntKind.i64 x.number, SV.int IntKind.i64 x.flow, SV.int IntKind.i64 x.seq, SV.int IntKind.i64 x.list, SV.int IntKind.i64 x.target, SV.int IntKind.i64 x.source, SV.int IntKind.i64 x.kind].reverse = [SV.str y.data, SV.int IntKind.i64 y.epoch, SV.int IntKind.i64 y.rank, SV.int IntKind.i64 y.slot, SV.int IntKind.i64 y.err, SV.int IntKind.i64 y.number, SV.int IntKind.i64 y.flow, SV.int IntKind.i64 y.seq, SV.int IntKind.i64 y.list, SV.int IntKind.i64 y.target, SV.int IntKind.i64 y.source, SV.int IntKind.i64 y.kind].reverse := by rw [h]
instance : FlatE Fr.enc := ⟨fun _ => rfl⟩
structure Ac where
  kind : Int
  offset : Int
  fkind : Int
  source : Int
  target : Int
  list : Int
  seq : Int
  flow : Int
  number : Int
  err : Int
  slot : Int
  rank : Int
  epoch : Int
  data : ByteArray
  deriving DecidableEq, Inhabited
def Ac.enc (x : Ac) : List D := [.int .i64 x.kind, .int .i64 x.offset, .int .i64 x.fkind, .int .i64 x.source, .int .i64 x.target, .int .i64 x.list, .int .i64 x.seq, .int .i64 x.flow, .int .i64 x.number, .int .i64 x.err, .int .i64 x.slot, .int .i64 x.rank, .int .i64 x.epoch, .str x.data]
def Ac.cs (x : Ac) : List C := [.d (.int .i64 x.kind), .d (.int .i64 x.offset), .d (.int .i64 x.fkind), .d (.int .i64 x.source), .d (.int .i64 x.target), .d (.int .i64 x.list), .d (.int .i64 x.seq), .d (.int .i64 x.flow), .d (.int .i64 x.number), .d (.int .i64 x.err), .d (.int .i64 x.slot), .d (.int .i64 x.rank), .d (.int .i64 x.epoch), .d (.str x.data)]
abbrev acA (x : Ac) : AV := .agg x.cs
abbrev acs (l : List Ac) : D := rdOf Ac.enc 14 l
instance : FlatE Ac.enc := ⟨fun _ => rfl⟩
structure Up where
  some : Bool
  new : Bool
  fkind : Int
  source : Int
  target : Int
  list : Int
  seq : Int
  flow : Int
  number : Int
  err : Int
  slot : Int
  rank : Int
  epoch : Int
  data : ByteArray
  deriving DecidableEq, Inhabited
def Up.enc (x : Up) : List D := [.bool x.some, .bool x.new, .int .i64 x.fkind, .int .i64 x.source, .int .i64 x.target, .int .i64 x.list, .int .i64 x.seq, .int .i64 x.flow, .int .i64 x.number, .int .i64 x.err, .int .i64 x.slot, .int .i64 x.rank, .int .i64 x.epoch, .str x.data]
def Up.cs (x : Up) : List C := [.d (.bool x.some), .d (.bool x.new), .d (.int .i64 x.fkind), .d (.int .i64 x.source), .d (.int .i64 x.target), .d (.int .i64 x.list), .d (.int .i64 x.seq), .d (.int .i64 x.flow), .d (.int .i64 x.number), .d (.int .i64 x.err), .d (.int .i64 x.slot), .d (.int .i64 x.rank), .d (.int .i64 x.epoch), .d (.str x.data)]
abbrev upA (x : Up) : AV := .agg x.cs
abbrev ups (l : List Up) : D := rdOf Up.enc 14 l
instance : FlatE Up.enc := ⟨fun _ => rfl⟩
structure Rs where
  acked : Bool
  heard : Bool
  fkind : Int
  source : Int
  target : Int
  list : Int
  seq : Int
  flow : Int
  number : Int
  err : Int
  slot : Int
  rank : Int
  epoch : Int
  data : ByteArray
  error : Int
  deriving DecidableEq, Inhabited
def Rs.enc (x : Rs) : List D := [.bool x.acked, .bool x.heard, .int .i64 x.fkind, .int .i64 x.source, .int .i64 x.target, .int .i64 x.list, .int .i64 x.seq, .int .i64 x.flow, .int .i64 x.number, .int .i64 x.err, .int .i64 x.slot, .int .i64 x.rank, .int .i64 x.epoch, .str x.data, .int .i64 x.error]
def Rs.cs (x : Rs) : List C := [.d (.bool x.acked), .d (.bool x.heard), .d (.int .i64 x.fkind), .d (.int .i64 x.source), .d (.int .i64 x.target), .d (.int .i64 x.list), .d (.int .i64 x.seq), .d (.int .i64 x.flow), .d (.int .i64 x.number), .d (.int .i64 x.err), .d (.int .i64 x.slot), .d (.int .i64 x.rank), .d (.int .i64 x.epoch), .d (.str x.data), .d (.int .i64 x.error)]
abbrev rsA (x : Rs) : AV := .agg x.cs
abbrev rss (l : List Rs) : D := rdOf Rs.enc 15 l
instance : FlatE Rs.enc := ⟨fun _ => rfl⟩
structure Sta where
  tb : Tb
  qu : Qu
  held : List Hd
  seen : List Sn
  list : Int
  seq : Int
  trying : Int
  tries : Int
  back : Int
  wait : Int
  seed : Int
  deriving Inhabited
def Sta.cs (s : Sta) : List C := [.d (.int .i64 s.tb.node), .d (.int .i64 s.tb.len), .d (tcs s.tb.cells), .d (.int .i64 s.qu.limit), .d (pks s.qu.packets), .d (hds s.held), .d (sns s.seen),
  .d (.int .i64 s.list), .d (.int .i64 s.seq), .d (.int .i64 s.trying), .d (.int .i64 s.tries), .d (.int .i64 s.back), .d (.int .i64 s.wait), .d (.int .i64 s.seed)]
def Sta.enc (s : Sta) : List D := [.int .i64 s.tb.node, .int .i64 s.tb.len, tcs s.tb.cells, .int .i64 s.qu.limit, pks s.qu.packets, hds s.held, sns s.seen,
  .int .i64 s.list, .int .i64 s.seq, .int .i64 s.trying, .int .i64 s.tries, .int .i64 s.back, .int .i64 s.wait, .int .i64 s.seed]
abbrev stA (s : Sta) : AV := .agg s.cs
/-! Checks. -/
theorem mwithin_spec (n m : Int) : FnS Try.prog 26 [AI n, AI m] [] (AB (decide (0 ≤ n ∧ n ≤ m))) [] := by
  refine FnS.of_body (enters_of Try.func26 (by kernel_rfl) rfl) Try.func26 rfl Try.ntmps26 Try.results26 rfl rfl rfl rfl fun E hS => ?_
  repeat' (first
    | (show VR _ _ _ (_ :: _) _ _ _; first | refine x_opF rfl (by first | exact True.intro | omega) ?_ | (refine x_gsplit rfl ?_ ?_ <;> intro h <;> have hq := h <;> (try simp only [hqs] at hq)))
    | (show VR _ _ _ [] _ _ _; first | refine vr_nil ?_)
    | (show thenQ _ _ _ _; first | refine q_then_n ?_)
    | refine vc_seq ?_
    | refine vc_region ?_
    | refine vc_ret ?_
    | fail)
  · refine ret_bool isRet_r rfl ?_
    exact decide_eq_decide.2 (by omega)
  · refine ret_bool isRet_r rfl ?_
    exact decide_eq_false (by omega)
def badR (l : List Int) (i : Nat) : Bool := decide (l.getD i default < 0 ∨ 31 < l.getD i default ∨ (0 < i ∧ l.getD i default ≤ l.getD (i - 1) default))
def risingB (l : List Int) : Bool := !((List.range l.length).any (badR l))
theorem rising_spec (l : List Int) : FnS Try.prog 91 [AD (ints l)] [] (AB (risingB l)) [] := by
  refine FnS.of_body (enters_of Try.func91 (by kernel_rfl) rfl) Try.func91 rfl Try.ntmps91 Try.results91 rfl rfl rfl rfl fun E hS => ?_
  refine vc_bound (t := 0) rfl fun hb => ?_
  repeat' (first
    | (show VR _ _ _ (_ :: _) _ _ _; first | refine x_opF rfl (by first | exact True.intro | omega) ?_)
    | (show VR _ _ _ [] _ _ _; first | refine vr_nil ?_)
    | (show thenQ _ _ _ _; first | refine q_then_n ?_)
    | refine vc_seq ?_
    | refine vc_region ?_
    | refine vc_block ?_
    | fail)
  refine vc_loopI (ι := Nat) (fun k => stOf [(0, AD (ints l)), (5, AD (ints l)), (6, AI l.length), (7, AI k)] []) (fun k => k ≤ l.length ∧ ∀ i, i < k → (badR l) i = false) (fun k => l.length - k) 0 ⟨Nat.zero_le _, fun i hi => absurd hi (Nat.not_lt_zero _)⟩ ?_ ?_
  · refine le_gen0 (fun n => n) ?_ ?_ rfl (by first | rfl | (simp only [wfL, wfs, mpO_namesB, mpO_namesI]; rfl))
    all_goals repeat' (first | exact trivial | refine ⟨⟨_, rfl, ?_⟩, ?_⟩ | exact .c .d | fail)
  · intro k hk
    repeat' (first
      | (show VR _ _ _ (_ :: _) _ _ _; first | refine x_opF rfl (by first | exact True.intro | omega) ?_ | (show VR _ _ _ (⟨_, .call ⟨.value _, _, _⟩, _, _, _, _⟩ :: _) _ _ _; first | refine vr_calldU (mwithin_spec _ _) (gk rfl) rfl rfl rfl (by first | rfl | (simp only [wfRes, wfL, wfArgs, wfs, mpO_namesB, mpO_namesI]; rfl)) rfl (by first | exact newB_O | rfl) rfl ?_) | (show VR _ _ _ (⟨_, .indexAddr _ _ _, _, _, _, _⟩ :: _) _ _ _; first | refine vr_index_rd (gk rfl) rfl rfl rfl rfl rfl (by omega) rfl ?_ | refine vr_index_rdP (gk rfl) rfl rfl rfl rfl rfl (by omega) rfl ?_) | (refine x_gsplit rfl ?_ ?_ <;> intro h <;> have hq := h <;> (try simp only [hqs] at hq)))
      | (show VR _ _ _ [] _ _ _; first | refine vr_nil ?_)
      | (show thenQ _ _ _ _; first | refine q_then_n ?_ | refine q_then_x ?_ | refine q_then_r ?_)
      | (show blockQ _ _ _ _; first | refine q_blk_n ?_ | refine q_blk_r ?_ | refine q_blk_x ?_)
      | refine vc_seq ?_
      | refine vc_region ?_
      | (show VC _ (.cond _ _ _) _ _; first | refine vc_cond_t rfl ?_ | refine vc_cond_f rfl ?_ | (refine x_cond rfl ?_ ?_ <;> intro h <;> have hq := h <;> (try simp only [hqs] at hq)))
      | refine vc_ret ?_ | refine vc_exit ?_ | refine vc_block ?_ | refine vc_skip ?_
      | fail)
    all_goals first
      | (refine ret_bool isRet_r rfl ?_
         by_cases hlt : k < l.length
         · first
           | (exfalso; omega)
           | (rw [risingB, anyR_hit (k := k) hlt ?_]
              · rfl
              · refine decide_eq_true ?_
                first
                | omega
                | (omega))
         · first
           | (exfalso; omega)
           | (have hk' : k = l.length := by omega
              subst hk'
              rw [risingB, anyR_none hk.2]
              rfl))
      | (refine ⟨k + 1, ⟨by omega, fun i hi => ?_⟩, by omega, ?_⟩
         · by_cases hik : i < k
           · exact hk.2 i hik
           · have : i = k := by omega
             subst this
             refine decide_eq_false ?_
             first
             | omega
             | (omega)
         · refine le_gen0 (fun n => n) ?_ ?_ rfl (by first | rfl | (simp only [wfL, wfs, mpO_namesB, mpO_namesI]; rfl))
           all_goals repeat' (first | exact trivial | refine ⟨⟨_, rfl, ?_⟩, ?_⟩ | exact .c .d | fail)
         )
      | trace_state
def rangesB (h : Hd) : Bool := decide (0 ≤ h.flow ∧ h.flow ≤ 255 ∧ 0 ≤ h.frame ∧ h.frame ≤ 65535 ∧ 0 ≤ h.til ∧ h.til ≤ 109951162) && risingB h.acked
theorem ranges_spec (h : Hd) : FnS Try.prog 68 [hdA h] [] (AB (rangesB h)) [] := by
  refine FnS.of_body (enters_of Try.func68 (by kernel_rfl) rfl) Try.func68 rfl Try.ntmps68 Try.results68 rfl rfl rfl rfl fun E hS => ?_
  repeat' (first
    | (show VR _ _ _ (_ :: _) _ _ _; first | refine x_opF rfl (by first | exact True.intro | omega) ?_ | (show VR _ _ _ (⟨_, .call ⟨.value _, _, _⟩, _, _, _, _⟩ :: _) _ _ _; first | refine vr_calldU (mwithin_spec _ _) (gk rfl) rfl rfl rfl (by first | rfl | (simp only [wfRes, wfL, wfArgs, wfs, mpO_namesB, mpO_namesI]; rfl)) rfl (by first | exact newB_O | rfl) rfl ?_ | refine vr_calldU (rising_spec _) (gk rfl) rfl rfl rfl (by first | rfl | (simp only [wfRes, wfL, wfArgs, wfs, mpO_namesB, mpO_namesI]; rfl)) rfl (by first | exact newB_O | rfl) rfl ?_) | (refine x_gsplit rfl ?_ ?_ <;> intro h <;> have hq := h <;> (try simp only [hqs] at hq)))
    | (show VR _ _ _ [] _ _ _; first | refine vr_nil ?_)
    | (show thenQ _ _ _ _; first | refine q_then_n ?_)
    | refine vc_seq ?_
    | refine vc_region ?_
    | refine vc_ret ?_
    | fail)
  all_goals (refine ret_bool isRet_r rfl ?_; unfold rangesB)
  · rw [decide_eq_true (by omega)]; rfl
  all_goals (rw [decide_eq_false (by omega)]; rfl)
def badHd (l : List Hd) (i : Nat) : Bool := decide (rangesB (l.getD i default) = false ∨ 100 < (l.getD i default).data.size ∨ (0 < i ∧ (l.getD i default).flow ≤ (l.getD (i - 1) default).flow))
def heldB (l : List Hd) : Bool := !((List.range l.length).any (badHd l)) && decide ((l.length : Int) ≤ 16)
theorem held_spec (l : List Hd) : FnS Try.prog 31 [AD (hds l)] [] (AB (heldB l)) [] := by
  refine FnS.of_body (enters_of Try.func31 (by kernel_rfl) rfl) Try.func31 rfl Try.ntmps31 Try.results31 rfl rfl rfl rfl fun E hS => ?_
  refine vc_bound (t := 0) rfl fun hb => ?_
  repeat' (first
    | (show VR _ _ _ (_ :: _) _ _ _; first | refine x_opF rfl (by first | exact True.intro | omega) ?_)
    | (show VR _ _ _ [] _ _ _; first | refine vr_nil ?_)
    | (show thenQ _ _ _ _; first | refine q_then_n ?_)
    | refine vc_seq ?_
    | refine vc_region ?_
    | refine vc_block ?_
    | fail)
  refine vc_loopI (ι := Nat) (fun k => stOf [(0, AD (hds l)), (5, AD (hds l)), (6, AI l.length), (7, AI k)] []) (fun k => k ≤ l.length ∧ ∀ i, i < k → (badHd l) i = false) (fun k => l.length - k) 0 ⟨Nat.zero_le _, fun i hi => absurd hi (Nat.not_lt_zero _)⟩ ?_ ?_
  · refine le_gen0 (fun n => n) ?_ ?_ rfl (by first | rfl | (simp only [wfL, wfs, mpO_namesB, mpO_namesI]; rfl))
    all_goals repeat' (first | exact trivial | refine ⟨⟨_, rfl, ?_⟩, ?_⟩ | exact .c .d | fail)
  · intro k hk
    repeat' (first
      | (show VR _ _ _ (_ :: _) _ _ _; first | refine x_opF rfl (by first | exact True.intro | omega) ?_ | (show VR _ _ _ (⟨_, .call ⟨.value _, _, _⟩, _, _, _, _⟩ :: _) _ _ _; first | refine vr_calldU (ranges_spec _) (gk rfl) rfl rfl rfl (by first | rfl | (simp only [wfRes, wfL, wfArgs, wfs, mpO_namesB, mpO_namesI]; rfl)) rfl (by first | exact newB_O | rfl) rfl ?_) | (show VR _ _ _ (⟨_, .indexAddr _ _ _, _, _, _, _⟩ :: _) _ _ _; first | refine vr_index_rd (gk rfl) rfl rfl rfl rfl rfl (by omega) rfl ?_ | refine vr_index_rdP (gk rfl) rfl rfl rfl rfl rfl (by omega) rfl ?_) | (refine x_gsplit rfl ?_ ?_ <;> intro h <;> have hq := h <;> (try simp only [hqs] at hq)))
      | (show VR _ _ _ [] _ _ _; first | refine vr_nil ?_ | refine vr_nil_t (by kernel_rfl) ?_)
      | (show thenQ _ _ _ _; first | refine q_then_n ?_ | refine q_then_x ?_ | refine q_then_r ?_)
      | (show blockQ _ _ _ _; first | refine q_blk_n ?_ | refine q_blk_r ?_ | refine q_blk_x ?_)
      | refine vc_seq ?_
      | refine vc_region ?_ | refine vc_region_t ?_
      | (show VC _ (.cond _ _ _) _ _; first | refine vc_cond_t rfl ?_ | refine vc_cond_f rfl ?_ | (refine x_cond rfl ?_ ?_ <;> intro h <;> have hq := h <;> (try simp only [hqs] at hq)))
      | refine vc_ret ?_ | refine vc_exit ?_ | refine vc_block ?_ | refine vc_skip ?_
      | fail)
    all_goals first
      | (refine ret_bool isRet_r rfl ?_
         by_cases hlt : k < l.length
         · first
           | (exfalso; omega)
           | (rw [heldB, anyR_hit (k := k) hlt ?_]
              · rfl
              · refine decide_eq_true ?_
                first
                | omega
                | (first | (refine .inl ?_; simp_all; done) | (refine .inr ?_; omega) | (simp_all; done) | (simp_all; omega)))
         · first
           | (exfalso; omega)
           | (have hk' : k = l.length := by omega
              subst hk'
              rw [heldB, anyR_none hk.2]
              rfl))
      | (refine ⟨k + 1, ⟨by omega, fun i hi => ?_⟩, by omega, ?_⟩
         · by_cases hik : i < k
           · exact hk.2 i hik
           · have : i = k := by omega
             subst this
             refine decide_eq_false ?_
             first
             | omega
             | (first | (refine .inl ?_; simp_all; done) | (refine .inr ?_; omega) | (simp_all; done) | (simp_all; omega))
         · refine le_gen0 (fun n => n) ?_ ?_ rfl (by first | rfl | (simp only [wfL, wfs, mpO_namesB, mpO_namesI]; rfl))
           all_goals repeat' (first | exact trivial | refine ⟨⟨_, rfl, ?_⟩, ?_⟩ | exact .c .d | fail)
         )
      | trace_state
def badSn (l : List Sn) (i : Nat) : Bool := decide (¬ (0 ≤ (l.getD i default).node ∧ (l.getD i default).node ≤ 31) ∨ ¬ (0 ≤ (l.getD i default).seq ∧ (l.getD i default).seq ≤ 255) ∨ (0 < i ∧ (l.getD i default).node ≤ (l.getD (i - 1) default).node))
def seenB (l : List Sn) : Bool := !((List.range l.length).any (badSn l))
theorem seen_spec (l : List Sn) : FnS Try.prog 32 [AD (sns l)] [] (AB (seenB l)) [] := by
  refine FnS.of_body (enters_of Try.func32 (by kernel_rfl) rfl) Try.func32 rfl Try.ntmps32 Try.results32 rfl rfl rfl rfl fun E hS => ?_
  refine vc_bound (t := 0) rfl fun hb => ?_
  repeat' (first
    | (show VR _ _ _ (_ :: _) _ _ _; first | refine x_opF rfl (by first | exact True.intro | omega) ?_)
    | (show VR _ _ _ [] _ _ _; first | refine vr_nil ?_)
    | (show thenQ _ _ _ _; first | refine q_then_n ?_)
    | refine vc_seq ?_
    | refine vc_region ?_
    | refine vc_block ?_
    | fail)
  refine vc_loopI (ι := Nat) (fun k => stOf [(0, AD (sns l)), (5, AD (sns l)), (6, AI l.length), (7, AI k)] []) (fun k => k ≤ l.length ∧ ∀ i, i < k → (badSn l) i = false) (fun k => l.length - k) 0 ⟨Nat.zero_le _, fun i hi => absurd hi (Nat.not_lt_zero _)⟩ ?_ ?_
  · refine le_gen0 (fun n => n) ?_ ?_ rfl (by first | rfl | (simp only [wfL, wfs, mpO_namesB, mpO_namesI]; rfl))
    all_goals repeat' (first | exact trivial | refine ⟨⟨_, rfl, ?_⟩, ?_⟩ | exact .c .d | fail)
  · intro k hk
    repeat' (first
      | (show VR _ _ _ (_ :: _) _ _ _; first | refine x_opF rfl (by first | exact True.intro | omega) ?_ | (show VR _ _ _ (⟨_, .call ⟨.value _, _, _⟩, _, _, _, _⟩ :: _) _ _ _; first | refine vr_calldU (mwithin_spec _ _) (gk rfl) rfl rfl rfl (by first | rfl | (simp only [wfRes, wfL, wfArgs, wfs, mpO_namesB, mpO_namesI]; rfl)) rfl (by first | exact newB_O | rfl) rfl ?_) | (show VR _ _ _ (⟨_, .indexAddr _ _ _, _, _, _, _⟩ :: _) _ _ _; first | refine vr_index_rd (gk rfl) rfl rfl rfl rfl rfl (by omega) rfl ?_ | refine vr_index_rdP (gk rfl) rfl rfl rfl rfl rfl (by omega) rfl ?_) | (refine x_gsplit rfl ?_ ?_ <;> intro h <;> have hq := h <;> (try simp only [hqs] at hq)))
      | (show VR _ _ _ [] _ _ _; first | refine vr_nil ?_ | refine vr_nil_t (by kernel_rfl) ?_)
      | (show thenQ _ _ _ _; first | refine q_then_n ?_ | refine q_then_x ?_ | refine q_then_r ?_)
      | (show blockQ _ _ _ _; first | refine q_blk_n ?_ | refine q_blk_r ?_ | refine q_blk_x ?_)
      | refine vc_seq ?_
      | refine vc_region ?_ | refine vc_region_t ?_
      | (show VC _ (.cond _ _ _) _ _; first | refine vc_cond_t rfl ?_ | refine vc_cond_f rfl ?_ | (refine x_cond rfl ?_ ?_ <;> intro h <;> have hq := h <;> (try simp only [hqs] at hq)))
      | refine vc_ret ?_ | refine vc_exit ?_ | refine vc_block ?_ | refine vc_skip ?_
      | fail)
    all_goals first
      | (refine ret_bool isRet_r rfl ?_
         by_cases hlt : k < l.length
         · first
           | (exfalso; omega)
           | (rw [seenB, anyR_hit (k := k) hlt ?_]
              · rfl
              · refine decide_eq_true ?_
                first
                | omega
                | (omega))
         · first
           | (exfalso; omega)
           | (have hk' : k = l.length := by omega
              subst hk'
              rw [seenB, anyR_none hk.2]
              rfl))
      | (refine ⟨k + 1, ⟨by omega, fun i hi => ?_⟩, by omega, ?_⟩
         · by_cases hik : i < k
           · exact hk.2 i hik
           · have : i = k := by omega
             subst this
             refine decide_eq_false ?_
             first
             | omega
             | (omega)
         · refine le_gen0 (fun n => n) ?_ ?_ rfl (by first | rfl | (simp only [wfL, wfs, mpO_namesB, mpO_namesI]; rfl))
           all_goals repeat' (first | exact trivial | refine ⟨⟨_, rfl, ?_⟩, ?_⟩ | exact .c .d | fail)
         )
      | trace_state
theorem has1_spec (x : Pk) (t : Int) : FnS Try.prog 66 [pkA x, .ep (fun _ => .int .i64 t) 1] [] (AB (decide (x.id = t))) [] := by
  refine FnS.of_body (enters_of Try.func66 (by kernel_rfl) rfl) Try.func66 rfl Try.ntmps66 Try.results66 rfl rfl rfl rfl fun E hS => ?_
  repeat' (first
    | (show VR _ _ _ (_ :: _) _ _ _; first | refine x_opF rfl (by first | exact True.intro | omega) ?_)
    | (show VR _ _ _ [] _ _ _; first | refine vr_nil ?_)
    | (show thenQ _ _ _ _; first | refine q_then_n ?_)
    | refine vc_seq ?_
    | refine vc_region ?_
    | refine vc_ret ?_
    | fail)
  all_goals exact ret_bool isRet_r rfl rfl
theorem has1_fnc {σ : St} {t : Int} {n1 : Nat} {L : List Nat} (hL : n1 ∈ L) (h1 : σ (.b n1) = some (.k (.box [.d (.int .i64 t)]))) : AR Try.prog σ L (.fnc 66 [.ptr n1 0]) (.clo (predφPk fun x => decide (x.id = t))) :=
  .fnc (eps := [.ep (fun _ => .int .i64 t) 1]) (.cons (.ptr hL h1 (fun j hj => by
    have : j = 0 := by omega
    subst this; rfl)) .nil) (enters_of Try.func66 (by kernel_rfl) rfl)
    (by rintro _ _ ⟨x, rfl, rfl⟩; exact ⟨rfl, has1_spec x t⟩)
def hasB (l : List Pk) (id : Int) : Bool := l.any fun x => decide (x.id = id)
theorem has_spec (q : Qu) (id : Int) : FnS Try.prog 29 [quA q, AI id] [] (AB (hasB q.packets id)) [] := by
  refine FnS.of_body (enters_of Try.func29 (by kernel_rfl) rfl) Try.func29 rfl Try.ntmps29 Try.results29 rfl rfl rfl rfl fun E hS => ?_
  repeat' (first
    | (show VR _ _ _ (_ :: _) _ _ _; first | refine x_opF rfl (by first | exact True.intro | omega) ?_ | (show VR _ _ _ (⟨_, .call ⟨.value _, _, _⟩, _, _, _, _⟩ :: _) _ _ _; first | refine vr_callU [3] (containsf_Pk q.packets (fun x => decide (x.id = id))) (gk rfl) rfl (by (repeat' (first | exact .nil | refine .cons ?_ ?_ | exact .of0 (.c .d) | exact .of0 .ep | exact .clo | exact (has1_fnc (by simp) rfl) | exact .of0 (.c .nil) | exact .of0 (.c (cr_rowO (by simp) rfl (by first | rfl | omega) (fun _ => rfl))) | refine .of0 (.agg ?_) | exact .d | exact .nil | exact .of0 (.c (cr_row (by decide) rfl rfl (by repeat' (first | exact trivial | refine ⟨?_, ?_⟩ | rfl)))))) <;> fail) (by first | rfl | exact hfl_O (fun _ => rfl) | exact hfl_O2 rfl (fun _ => rfl)) rfl (by first | rfl | (simp only [wfRes, wfL, wfArgs, wfs, mpO_namesB, mpO_namesI]; rfl)) rfl (by first | exact newB_O | rfl) rfl ?_))
    | (show VR _ _ _ [] _ _ _; first | refine vr_nil ?_)
    | (show thenQ _ _ _ _; first | refine q_then_n ?_)
    | refine vc_seq ?_
    | refine vc_region ?_
    | refine vc_ret ?_
    | fail)
  all_goals exact ret_bool isRet_r rfl rfl
def badP (node : Int) (x : Pk) : Bool := decide (x.to = node ∨ 100 < x.data.size)
theorem packets1_spec (x : Pk) (s : Sta) : FnS Try.prog 67 [pkA x, .ep (fun j => s.enc.getD j .nils) 14] [] (AB (badP s.tb.node x)) [] := by
  refine FnS.of_body (enters_of Try.func67 (by kernel_rfl) rfl) Try.func67 rfl Try.ntmps67 Try.results67 rfl rfl rfl rfl fun E hS => ?_
  repeat' (first
    | (show VR _ _ _ (_ :: _) _ _ _; first | refine x_opF rfl (by first | exact True.intro | omega) ?_ | (refine x_gsplit rfl ?_ ?_ <;> intro h <;> have hq := h <;> (try simp only [hqs] at hq)))
    | (show VR _ _ _ [] _ _ _; first | refine vr_nil ?_)
    | (show thenQ _ _ _ _; first | refine q_then_n ?_)
    | refine vc_seq ?_
    | refine vc_region ?_
    | refine vc_ret ?_
    | fail)
  all_goals (refine ret_bool isRet_r rfl ?_; unfold badP)
  · exact decide_eq_true (Or.inl (by assumption))
  · exact decide_eq_decide.2 (by omega)
theorem packets1_fnc {σ : St} {s : Sta} {n1 : Nat} {L : List Nat} (hL : n1 ∈ L) (h1 : σ (.b n1) = some (.k (.box s.cs))) : AR Try.prog σ L (.fnc 67 [.ptr n1 0]) (.clo (predφPk (badP s.tb.node))) :=
  .fnc (eps := [.ep (fun j => s.enc.getD j .nils) 14]) (.cons (.ptr hL h1 (fun j hj => by
    have : j = 0 ∨ j = 1 ∨ j = 2 ∨ j = 3 ∨ j = 4 ∨ j = 5 ∨ j = 6 ∨ j = 7 ∨ j = 8 ∨ j = 9 ∨ j = 10 ∨ j = 11 ∨ j = 12 ∨ j = 13 := by omega
    rcases this with rfl | rfl | rfl | rfl | rfl | rfl | rfl | rfl | rfl | rfl | rfl | rfl | rfl | rfl <;> rfl)) .nil) (enters_of Try.func67 (by kernel_rfl) rfl)
    (by rintro _ _ ⟨x, rfl, rfl⟩; exact ⟨rfl, packets1_spec x s⟩)
def packetsB (s : Sta) : Bool := decide (checkQ s.qu = 0) && !(s.qu.packets.any (badP s.tb.node))
theorem packets_spec (s : Sta) : FnS Try.prog 30 [stA s] [] (AB (packetsB s)) [] := by
  refine FnS.of_body (enters_of Try.func30 (by kernel_rfl) rfl) Try.func30 rfl Try.ntmps30 Try.results30 rfl rfl rfl rfl fun E hS => ?_
  repeat' (first
    | (show VR _ _ _ (_ :: _) _ _ _; first | refine x_opF rfl (by first | exact True.intro | omega) ?_ | (show VR _ _ _ (⟨_, .call ⟨.value _, _, _⟩, _, _, _, _⟩ :: _) _ _ _; first | refine vr_calldU (checkQ_spec _) (gk rfl) rfl rfl rfl (by first | rfl | (simp only [wfRes, wfL, wfArgs, wfs, mpO_namesB, mpO_namesI]; rfl)) rfl (by first | exact newB_O | rfl) rfl ?_ | refine vr_callU [1] (containsf_Pk s.qu.packets (badP s.tb.node)) (gk rfl) rfl (by (repeat' (first | exact .nil | refine .cons ?_ ?_ | exact .of0 (.c .d) | exact .of0 .ep | exact .clo | exact (packets1_fnc (by simp) rfl) | exact .of0 (.c .nil) | exact .of0 (.c (cr_rowO (by simp) rfl (by first | rfl | omega) (fun _ => rfl))) | refine .of0 (.agg ?_) | exact .d | exact .nil | exact .of0 (.c (cr_row (by decide) rfl rfl (by repeat' (first | exact trivial | refine ⟨?_, ?_⟩ | rfl)))))) <;> fail) (by first | rfl | exact hfl_O (fun _ => rfl) | exact hfl_O2 rfl (fun _ => rfl)) rfl (by first | rfl | (simp only [wfRes, wfL, wfArgs, wfs, mpO_namesB, mpO_namesI]; rfl)) rfl (by first | exact newB_O | rfl) rfl ?_) | (refine x_gsplit rfl ?_ ?_ <;> intro h <;> have hq := h <;> (try simp only [hqs] at hq)))
    | (show VR _ _ _ [] _ _ _; first | refine vr_nil ?_)
    | (show thenQ _ _ _ _; first | refine q_then_n ?_)
    | refine vc_seq ?_
    | refine vc_region ?_
    | refine vc_ret ?_
    | fail)
  all_goals (refine ret_bool isRet_r rfl ?_; unfold packetsB)
  · rw [decide_eq_true (by assumption)]; rfl
  · rw [decide_eq_false (by assumption)]; rfl
def tryingB (s : Sta) : Bool := decide ((s.trying = -1 ∧ s.tries = 0) ∨ (0 ≤ s.trying ∧ hasB s.qu.packets s.trying = true ∧ 1 ≤ s.tries ∧ s.tries < 4))
def restB (s : Sta) : Bool := decide (0 ≤ s.list ∧ s.list ≤ 255 ∧ 0 ≤ s.seq ∧ s.seq ≤ 255 ∧ 0 ≤ s.back ∧ s.back ≤ 5 ∧ 0 ≤ s.wait ∧ s.wait ≤ 2 ^ s.back.toNat - 1 ∧ 0 ≤ s.seed ∧ s.seed ≤ 2147483647)
def okS (s : Sta) : Bool := decide (checkT s.tb = 0) && packetsB s && heldB s.held && seenB s.seen && tryingB s && restB s
def checkS (s : Sta) : Int := if okS s = true then 0 else 1
theorem checkS_bad {s : Sta} (h : ¬ checkT s.tb = 0 ∨ packetsB s = false ∨ heldB s.held = false ∨ seenB s.seen = false ∨ tryingB s = false ∨ restB s = false) : checkS s = 1 := by
  unfold checkS okS
  rcases h with h | h | h | h | h | h <;> simp [h]
theorem checkS_good {s : Sta} (h1 : checkT s.tb = 0) (h2 : packetsB s = true) (h3 : heldB s.held = true) (h4 : seenB s.seen = true) (h5 : tryingB s = true) (h6 : restB s = true) : checkS s = 0 := by
  unfold checkS okS
  simp [h1, h2, h3, h4, h5, h6]
theorem pow5 (b : Int) : b < 0 ∨ 5 < b ∨ (1 ≤ (2 : Int) ^ b.toNat ∧ (2 : Int) ^ b.toNat ≤ 32) := by
  by_cases h1 : b < 0
  · exact .inl h1
  by_cases h2 : 5 < b
  · exact .inr (.inl h2)
  refine .inr (.inr ?_)
  have : b = 0 ∨ b = 1 ∨ b = 2 ∨ b = 3 ∨ b = 4 ∨ b = 5 := by omega
  rcases this with rfl | rfl | rfl | rfl | rfl | rfl <;> decide
set_option maxHeartbeats 2000000 in
theorem checkS_spec (s : Sta) : FnS Try.prog 14 [stA s] [] (AI (checkS s)) [] := by
  have hpow : s.back < 0 ∨ 5 < s.back ∨ (1 ≤ (2 : Int) ^ s.back.toNat ∧ (2 : Int) ^ s.back.toNat ≤ 32) := pow5 s.back
  refine FnS.of_body (enters_of Try.func14 (by kernel_rfl) rfl) Try.func14 rfl Try.ntmps14 Try.results14 rfl rfl rfl rfl fun E hS => ?_
  cases htr : tryingB s with
  | false =>
    have ht := of_decide_eq_false htr
    repeat' (first
      | (show VR _ _ _ (_ :: _) _ _ _; first | refine x_opF rfl (by first | exact True.intro | omega) ?_ | (show VR _ _ _ (⟨_, .call ⟨.value _, _, _⟩, _, _, _, _⟩ :: _) _ _ _; first | refine vr_calldU (mwithin_spec _ _) (gk rfl) rfl rfl rfl (by first | rfl | (simp only [wfRes, wfL, wfArgs, wfs, mpO_namesB, mpO_namesI]; rfl)) rfl (by first | exact newB_O | rfl) rfl ?_ | refine vr_calldU (has_spec s.qu _) (gk rfl) rfl rfl rfl (by first | rfl | (simp only [wfRes, wfL, wfArgs, wfs, mpO_namesB, mpO_namesI]; rfl)) rfl (by first | exact newB_O | rfl) rfl ?_ | refine vr_calldU (checkT_spec s.tb) (gk rfl) rfl rfl rfl (by first | rfl | (simp only [wfRes, wfL, wfArgs, wfs, mpO_namesB, mpO_namesI]; rfl)) rfl (by first | exact newB_O | rfl) rfl ?_ | refine vr_calldU (packets_spec s) (gk rfl) rfl rfl rfl (by first | rfl | (simp only [wfRes, wfL, wfArgs, wfs, mpO_namesB, mpO_namesI]; rfl)) rfl (by first | exact newB_O | rfl) rfl ?_ | refine vr_calldU (held_spec _) (gk rfl) rfl rfl rfl (by first | rfl | (simp only [wfRes, wfL, wfArgs, wfs, mpO_namesB, mpO_namesI]; rfl)) rfl (by first | exact newB_O | rfl) rfl ?_ | refine vr_calldU (seen_spec _) (gk rfl) rfl rfl rfl (by first | rfl | (simp only [wfRes, wfL, wfArgs, wfs, mpO_namesB, mpO_namesI]; rfl)) rfl (by first | exact newB_O | rfl) rfl ?_) | (refine x_gsplit rfl ?_ ?_ <;> intro h <;> have hq := h <;> (try simp only [hqs] at hq)))
      | (show VR _ _ _ [] _ _ _; first | refine vr_nil ?_)
      | (show thenQ _ _ _ _; first | refine q_then_n ?_ | refine q_then_r ?_)
      | (show VC _ (.seq _ _) _ _; (fail_if_success (show VC _ (.seq (.seq (.region 4 _ _) _) _) _ _)); (fail_if_success (show VC _ (.seq (.region 4 _ _) _) _ _)); refine vc_seq ?_)
      | refine vc_region ?_
      | (show VC _ (.cond _ _ _) _ _; first | refine vc_cond_t rfl ?_ | (refine x_cond rfl ?_ ?_ <;> intro h <;> have hq := h <;> (try simp only [hqs] at hq)))
      | refine vc_ret ?_ | refine vc_skip ?_
      | fail)
    all_goals first
      | (refine ret_int isRet_r rfl ?_
         exact checkS_bad (.inr (.inr (.inr (.inr (.inl htr))))))
      | (exfalso; simp_all; done)
      | (exfalso; simp_all; omega)
  | true =>
    have ht := of_decide_eq_true htr
    rcases ht with ⟨h1, h2⟩ | ⟨h1, h2, h3, h4⟩
    · have d1 : decide (s.trying = -1) = true := decide_eq_true h1
      have d2 : decide (s.tries = 0) = true := decide_eq_true h2
      repeat' (first
        | (show VR _ _ _ (_ :: _) _ _ _; first | refine x_opF rfl (by first | exact True.intro | omega) ?_ | (show VR _ _ _ (⟨_, .call ⟨.value _, _, _⟩, _, _, _, _⟩ :: _) _ _ _; first | refine vr_calldU (mwithin_spec _ _) (gk rfl) rfl rfl rfl (by first | rfl | (simp only [wfRes, wfL, wfArgs, wfs, mpO_namesB, mpO_namesI]; rfl)) rfl (by first | exact newB_O | rfl) rfl ?_ | refine vr_calldU (checkT_spec s.tb) (gk rfl) rfl rfl rfl (by first | rfl | (simp only [wfRes, wfL, wfArgs, wfs, mpO_namesB, mpO_namesI]; rfl)) rfl (by first | exact newB_O | rfl) rfl ?_ | refine vr_calldU (packets_spec s) (gk rfl) rfl rfl rfl (by first | rfl | (simp only [wfRes, wfL, wfArgs, wfs, mpO_namesB, mpO_namesI]; rfl)) rfl (by first | exact newB_O | rfl) rfl ?_ | refine vr_calldU (held_spec _) (gk rfl) rfl rfl rfl (by first | rfl | (simp only [wfRes, wfL, wfArgs, wfs, mpO_namesB, mpO_namesI]; rfl)) rfl (by first | exact newB_O | rfl) rfl ?_ | refine vr_calldU (seen_spec _) (gk rfl) rfl rfl rfl (by first | rfl | (simp only [wfRes, wfL, wfArgs, wfs, mpO_namesB, mpO_namesI]; rfl)) rfl (by first | exact newB_O | rfl) rfl ?_) | (show VR _ _ _ (⟨_, .binOp _ _ _ _ _, _, _, _, _⟩ :: _) _ _ _; first | refine vr_shlI (gk rfl) rfl rfl (by omega) rfl (by omega) ?_) | refine x_gknow rfl (by assumption) ?_ | (refine x_gsplit rfl ?_ ?_ <;> intro h <;> have hq := h <;> (try simp only [hqs] at hq)))
        | (show VR _ _ _ [] _ _ _; first | refine vr_nil ?_ | refine vr_nil_t (by kernel_rfl) ?_)
        | (show thenQ _ _ _ _; first | refine q_then_n ?_ | refine q_then_r ?_)
        | refine vc_seq ?_
        | refine vc_region ?_ | refine vc_region_t ?_
        | (show VC _ (.cond _ _ _) _ _; first | refine vc_cond_t rfl ?_ | (refine x_cond rfl ?_ ?_ <;> intro h <;> have hq := h <;> (try simp only [hqs] at hq)))
        | refine vc_ret ?_ | refine vc_skip ?_
        | fail)
      all_goals
        refine ret_int isRet_r rfl ?_
        first
        | (refine checkS_bad (.inl ?_); assumption)
        | (refine checkS_bad (.inr (.inl ?_)); assumption)
        | (refine checkS_bad (.inr (.inr (.inl ?_))); assumption)
        | (refine checkS_bad (.inr (.inr (.inr (.inl ?_)))); assumption)
        | (refine checkS_bad (.inr (.inr (.inr (.inr (.inr ?_))))); refine decide_eq_false ?_; omega)
        | (refine checkS_good ?_ ?_ ?_ ?_ ?_ ?_
           · assumption
           · assumption
           · assumption
           · assumption
           · assumption
           · refine decide_eq_true ?_
             omega)
    · have d1 : decide (s.trying = -1) = false := decide_eq_false (by omega)
      have d3 : decide (0 ≤ s.trying) = true := decide_eq_true h1
      have d5 : decide (1 ≤ s.tries) = true := decide_eq_true h3
      have d6 : decide (s.tries < 4) = true := decide_eq_true h4
      have d7 : (!decide (s.tries < 4)) = false := by rw [d6]; rfl
      repeat' (first
        | (show VR _ _ _ (_ :: _) _ _ _; first | refine x_opF rfl (by first | exact True.intro | omega) ?_ | (show VR _ _ _ (⟨_, .call ⟨.value _, _, _⟩, _, _, _, _⟩ :: _) _ _ _; first | refine vr_calldU (mwithin_spec _ _) (gk rfl) rfl rfl rfl (by first | rfl | (simp only [wfRes, wfL, wfArgs, wfs, mpO_namesB, mpO_namesI]; rfl)) rfl (by first | exact newB_O | rfl) rfl ?_ | refine vr_calldU (has_spec s.qu _) (gk rfl) rfl rfl rfl (by first | rfl | (simp only [wfRes, wfL, wfArgs, wfs, mpO_namesB, mpO_namesI]; rfl)) rfl (by first | exact newB_O | rfl) rfl ?_ | refine vr_calldU (checkT_spec s.tb) (gk rfl) rfl rfl rfl (by first | rfl | (simp only [wfRes, wfL, wfArgs, wfs, mpO_namesB, mpO_namesI]; rfl)) rfl (by first | exact newB_O | rfl) rfl ?_ | refine vr_calldU (packets_spec s) (gk rfl) rfl rfl rfl (by first | rfl | (simp only [wfRes, wfL, wfArgs, wfs, mpO_namesB, mpO_namesI]; rfl)) rfl (by first | exact newB_O | rfl) rfl ?_ | refine vr_calldU (held_spec _) (gk rfl) rfl rfl rfl (by first | rfl | (simp only [wfRes, wfL, wfArgs, wfs, mpO_namesB, mpO_namesI]; rfl)) rfl (by first | exact newB_O | rfl) rfl ?_ | refine vr_calldU (seen_spec _) (gk rfl) rfl rfl rfl (by first | rfl | (simp only [wfRes, wfL, wfArgs, wfs, mpO_namesB, mpO_namesI]; rfl)) rfl (by first | exact newB_O | rfl) rfl ?_) | (show VR _ _ _ (⟨_, .binOp _ _ _ _ _, _, _, _, _⟩ :: _) _ _ _; first | refine vr_shlI (gk rfl) rfl rfl (by omega) rfl (by omega) ?_) | refine x_gknow rfl (by assumption) ?_ | (refine x_gsplit rfl ?_ ?_ <;> intro h <;> have hq := h <;> (try simp only [hqs] at hq)))
        | (show VR _ _ _ [] _ _ _; first | refine vr_nil ?_ | refine vr_nil_t (by kernel_rfl) ?_)
        | (show thenQ _ _ _ _; first | refine q_then_n ?_ | refine q_then_r ?_)
        | refine vc_seq ?_
        | refine vc_region ?_ | refine vc_region_t ?_
        | (show VC _ (.cond _ _ _) _ _; first | refine vc_cond_t rfl ?_ | (refine x_cond rfl ?_ ?_ <;> intro h <;> have hq := h <;> (try simp only [hqs] at hq)))
        | refine vc_ret ?_ | refine vc_skip ?_
        | fail)
      all_goals
        refine ret_int isRet_r rfl ?_
        first
        | (refine checkS_bad (.inl ?_); assumption)
        | (refine checkS_bad (.inr (.inl ?_)); assumption)
        | (refine checkS_bad (.inr (.inr (.inl ?_))); assumption)
        | (refine checkS_bad (.inr (.inr (.inr (.inl ?_)))); assumption)
        | (refine checkS_bad (.inr (.inr (.inr (.inr (.inr ?_))))); refine decide_eq_false ?_; omega)
        | (refine checkS_good ?_ ?_ ?_ ?_ ?_ ?_
           · assumption
           · assumption
           · assumption
           · assumption
           · assumption
           · refine decide_eq_true ?_
             omega)
end Go.Proofs
