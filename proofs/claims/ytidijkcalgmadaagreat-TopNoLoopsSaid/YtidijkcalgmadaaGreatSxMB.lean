/-
  What functions of the given program hand back, by walks over its code, and plain laws on that. No condition.
-/
import Derived.Test.YtidijkcalgmadaaGreatSxLibC
import Derived.Test.YtidijkcalgmadaaGreatSxTtop
import Derived.Test.YtidijkcalgmadaaGreatSxLibB
set_option linter.unusedSimpArgs false
set_option linter.unusedVariables false
section
namespace Go.Proofs.Q
open Go Go.Sx
set_option maxRecDepth 4000
attribute [local irreducible] VR VC thenQ blockQ retL
instance Tryz.key3 : KeyTy Tryz.prog 3 1 := keyTy_int (TyOK.int Tryz.sxty3 rfl)
structure Pk where
  id : Int
  to : Int
  prio : Int
  born : Int
  life : Int
  data : ByteArray
  deriving DecidableEq, Inhabited
def Pk.enc (x : Pk) : List D := [.int .i64 x.id, .int .i64 x.to, .int .i64 x.prio, .int .i64 x.born, .int .i64 x.life, .str x.data]
def Pk.cs (x : Pk) : List C := [.d (.int .i64 x.id), .d (.int .i64 x.to), .d (.int .i64 x.prio), .d (.int .i64 x.born), .d (.int .i64 x.life), .d (.str x.data)]
abbrev pkA (x : Pk) : AV := .agg x.cs
abbrev pks (l : List Pk) : D := rdOf Pk.enc 6 l
instance : FlatE Pk.enc := ⟨fun _ => rfl⟩
structure Dp where
  id : Int
  slot : Int
  dropped : Bool
  deriving DecidableEq, Inhabited
def Dp.enc (x : Dp) : List D := [.int .i64 x.id, .int .i64 x.slot, .bool x.dropped]
def Dp.cs (x : Dp) : List C := [.d (.int .i64 x.id), .d (.int .i64 x.slot), .d (.bool x.dropped)]
abbrev dpA (x : Dp) : AV := .agg x.cs
abbrev dps (l : List Dp) : D := rdOf Dp.enc 3 l
instance : FlatE Dp.enc := ⟨fun _ => rfl⟩
structure Qu where
  limit : Int
  packets : List Pk
  deriving DecidableEq, Inhabited
def Qu.cs (q : Qu) : List C := [.d (.int .i64 q.limit), .d (pks q.packets)]
abbrev quA (q : Qu) : AV := .agg q.cs
def inI (n lo hi : Int) : Bool := decide (lo <= n /\ n <= hi)
theorem within_spec (n lo hi : Int) : FnS Tryz.prog 37 [AI n, AI lo, AI hi] [] (AB (inI n lo hi)) [] := by
  refine FnS.of_body (enters_of Tryz.func37 (by kernel_rfl) rfl) Tryz.func37 rfl Tryz.ntmps37 Tryz.results37 rfl rfl rfl rfl fun E hS => ?_
  repeat' (first | (show VR _ _ _ (_ :: _) _ _ _; first | refine x_opF rfl (by first | exact True.intro | omega) ?_ | (refine x_gsplit rfl ?_ ?_ <;> intro h <;> have hq := h <;> (try simp only [hqs] at hq))) | (show VR _ _ _ [] _ _ _; first | refine vr_nil ?_) | (show thenQ _ _ _ _; first | refine q_then_n ?_) | refine vc_seq ?_ | refine vc_region ?_ | refine vc_ret ?_)
  all_goals refine ret_bool isRet_r rfl ?_
  all_goals simp_all [inI] <;> omega
def formP (p : Pk) : Int :=
  if p.id < 0 \/ inI p.to (-1) 31 = false \/ inI p.prio 0 3 = false \/ inI p.born 0 1099511627776 = false \/ inI p.life 1 4096 = false then 2 else if 127 < p.data.size then 8 else 0
theorem form_spec (p : Pk) : FnS Tryz.prog 90 [pkA p] [] (AI (formP p)) [] := by
  refine FnS.of_body (enters_of Tryz.func90 (by kernel_rfl) rfl) Tryz.func90 rfl Tryz.ntmps90 Tryz.results90 rfl rfl rfl rfl fun E hS => ?_
  repeat' (first | (show VR _ _ _ (_ :: _) _ _ _; first | refine x_opF rfl (by first | exact True.intro | omega) ?_ | (show VR _ _ _ (⟨_, .call ⟨.value _, _, _⟩, _, _, _, _⟩ :: _) _ _ _; first | refine vr_calldU (within_spec _ _ _) (gk rfl) rfl rfl rfl (by first | rfl | (simp only [wfRes, wfL, wfArgs, wfs, mpO_namesB, mpO_namesI]; rfl)) rfl (by first | exact newB_O | rfl) rfl ?_) | (refine x_gsplit rfl ?_ ?_ <;> intro h <;> have hq := h <;> (try simp only [hqs] at hq))) | (show VR _ _ _ [] _ _ _; first | refine vr_nil ?_) | (show thenQ _ _ _ _; first | refine q_then_n ?_ | refine q_then_r ?_) | refine vc_seq ?_ | refine vc_region ?_ | (show VC _ (.cond _ _ _) _ _; first | refine vc_cond_t rfl ?_ | (refine x_cond rfl ?_ ?_ <;> intro h <;> have hq := h <;> (try simp only [hqs] at hq))) | refine vc_ret ?_ | refine vc_skip ?_)
  all_goals refine ret_int isRet_r rfl ?_
  all_goals unfold formP
  all_goals first
    | (simp_all; done)
    | (simp_all; omega)
    | trace_state
end Go.Proofs.Q
end
section
namespace Go.Proofs.Q
open Go Go.Sx
set_option maxRecDepth 4000
attribute [local irreducible] VR VC thenQ blockQ retL
def pkErr (l : List Pk) (k : Nat) : Int :=
  if formP (l.getD k default) ≠ 0 then formP (l.getD k default)
  else if ((l.take k).any fun x => decide (x.id = (l.getD k default).id)) = true then 6
  else if 0 < k /\ (l.getD k default).prio < (l.getD (k - 1) default).prio then 5 else 0
def checkQ (q : Qu) : Int := if inI q.limit 1 64 = false then 2 else if q.limit < q.packets.length then 8 else firstErr q.packets.length (pkErr q.packets)
end Go.Proofs.Q
end
section
namespace Go.Proofs.Q
open Go Go.Sx
set_option maxRecDepth 4000
attribute [local irreducible] VR VC thenQ blockQ retL
abbrev predφPk (p : Pk -> Bool) : List DV -> DV -> Prop := fun ds r => ∃ x : Pk, ds = [.agg x.enc] /\ r = .d (.bool (p x))
instance ovl_Pk : Overlaps Tryz.prog 164 :=
  ⟨23, 4, 40, 6, TyOK.slice Tryz.sxty23 rfl, fun w => TyOK.run_size Tryz.sxty40 w, fun args w => run_callFunc_extern Tryz.func164 (by kernel_rfl) (by kernel_rfl) (by kernel_rfl) (by kernel_rfl) args w⟩
abbrev Pk1 (x : Pk) : D := .rd 1 6 fun _ j => (Pk.enc x).getD j .nils
abbrev predφDp (p : Dp -> Bool) : List DV -> DV -> Prop := fun ds r => ∃ x : Dp, ds = [.agg x.enc] /\ r = .d (.bool (p x))
end Go.Proofs.Q
end
section
namespace Go.Proofs.Q
open Go Go.Sx
set_option maxRecDepth 4000
attribute [local irreducible] VR VC thenQ blockQ retL
def idxTo (l : List Pk) (to : Int) : Option Nat := fstO l fun x => decide (x.to = to)
end Go.Proofs.Q
end
section
namespace Go.Proofs.Q
open Go Go.Sx
set_option maxRecDepth 4000
attribute [local irreducible] VR VC thenQ blockQ retL
end Go.Proofs.Q
end
section
namespace Go.Proofs.Q
open Go Go.Sx
set_option maxRecDepth 4000
attribute [local irreducible] VR VC thenQ blockQ retL
end Go.Proofs.Q
end
section
namespace Go.Proofs.Q
open Go Go.Sx
set_option maxRecDepth 4000
attribute [local irreducible] VR VC thenQ blockQ retL
def noP : Pk := ⟨0, 0, 0, 0, 0, ⟨#[]⟩⟩
def firstQ (q : Qu) (to : Int) : Pk × Bool := if checkQ q ≠ 0 then (noP, false) else match idxTo q.packets to with
  | none => (noP, false)
  | some i => (q.packets.getD i default, true)
theorem firstErr_zero {n : Nat} {f : Nat -> Int} (h : firstErr n f = 0) {i : Nat} (hi : i < n) : f i = 0 := by
  unfold firstErr at h
  cases hf : (List.range n).find? (fun i => f i != 0) with
  | none => have := List.find?_eq_none.1 hf i (List.mem_range.2 hi); simpa using this
  | some k =>
    rw [hf] at h
    have := List.find?_some hf
    simp at this
    exact absurd h this
end Go.Proofs.Q
end
section
namespace Go.Proofs.Q
open Go Go.Sx
set_option maxRecDepth 4000
attribute [local irreducible] VR VC thenQ blockQ retL
end Go.Proofs.Q
end
section
namespace Go.Proofs.Q
open Go Go.Sx
set_option maxRecDepth 4000
attribute [local irreducible] VR VC thenQ blockQ retL
end Go.Proofs.Q
end
section
namespace Go.Proofs.T
open Go Go.Sx
set_option maxRecDepth 4000
attribute [local irreducible] VR VC thenQ blockQ retL
def cmpI (a b : Int) : Int := if a < b then -1 else if b < a then 1 else 0
theorem isNaN_spec (a : Int) : FnS Tryz.prog 178 [AI a] [] (AB false) [] := by
  refine FnS.of_body (enters_of Tryz.func178 (by kernel_rfl) rfl) Tryz.func178 rfl Tryz.ntmps178 Tryz.results178 rfl rfl rfl rfl fun E hS => ?_
  repeat' (first | (show VR _ _ _ (_ :: _) _ _ _; first | refine x_opF rfl (by first | exact True.intro | omega) ?_) | (show VR _ _ _ [] _ _ _; first | refine vr_nil ?_) | (show thenQ _ _ _ _; first | refine q_then_n ?_) | refine vc_seq ?_ | refine vc_region ?_ | refine vc_ret ?_)
  all_goals exact ret_bool isRet_r rfl (by simp)
theorem cmp_spec (a b : Int) : FnS Tryz.prog 119 [AI a, AI b] [] (AI (cmpI a b)) [] := by
  refine FnS.of_body (enters_of Tryz.func119 (by kernel_rfl) rfl) Tryz.func119 rfl Tryz.ntmps119 Tryz.results119 rfl rfl rfl rfl fun E hS => ?_
  repeat' (first | (show VR _ _ _ (_ :: _) _ _ _; first | refine x_opF rfl (by first | exact True.intro | omega) ?_ | (show VR _ _ _ (⟨_, .call ⟨.value _, _, _⟩, _, _, _, _⟩ :: _) _ _ _; first | refine vr_calld (isNaN_spec _) (gk rfl) rfl rfl rfl rfl rfl rfl ?_)) | (show VR _ _ _ [] _ _ _; first | refine vr_nil ?_) | (show thenQ _ _ _ _; first | refine q_then_n ?_ | refine q_then_r ?_) | refine vc_seq ?_ | refine vc_region ?_ | (show VC _ (.cond _ _ _) _ _; first | refine vc_cond_f rfl ?_ | (refine x_cond rfl ?_ ?_ <;> intro h <;> have hq := h <;> (try simp only [decide_eq_true_eq, decide_eq_false_iff_not, Int.not_lt, Int.not_le, ne_eq, Decidable.not_not, Bool.not_eq_true', Bool.not_eq_false'] at hq))) | refine vc_ret ?_ | refine vc_skip ?_)
  all_goals refine ret_int isRet_r rfl ?_
  all_goals unfold cmpI
  all_goals repeat' split
  all_goals first | rfl | (exfalso; simp_all; done) | (exfalso; omega) | trace_state
def orI : List Int -> Int
  | [] => 0
  | x :: l => if x ≠ 0 then x else orI l
abbrev ints (l : List Int) : D := rdOf (fun x => [.int .i64 x]) 1 l
theorem orI_at : ∀ (l : List Int) (k : Nat), (∀ i, i < k -> l.getD i 0 = 0) -> k <= l.length -> orI l = orI (l.drop k)
  | l, 0, _, _ => rfl
  | [], k + 1, _, h => absurd h (by simp)
  | x :: l, k + 1, h, hk => by
    have h0 : x = 0 := h 0 (by omega)
    rw [List.drop_succ_cons, <- orI_at l k (fun i hi => h (i + 1) (by omega)) (by simpa using hk)]
    simp [orI, h0]
theorem or_spec (l : List Int) : FnS Tryz.prog 158 [AD (ints l)] [] (AI (orI l)) [] := by
  refine FnS.of_body (enters_of Tryz.func158 (by kernel_rfl) rfl) Tryz.func158 rfl Tryz.ntmps158 Tryz.results158 rfl rfl rfl rfl fun E hS => ?_
  refine vc_bound (t := 0) rfl fun hb => ?_
  repeat' (first | (show VR _ _ _ (_ :: _) _ _ _; first | refine x_opF rfl (by first | exact True.intro | omega) ?_) | (show VR _ _ _ [] _ _ _; first | refine vr_nil ?_) | (show thenQ _ _ _ _; first | refine q_then_n ?_) | refine vc_seq ?_ | refine vc_region ?_ | refine vc_block ?_)
  refine vc_loopI (ι := Nat) (fun k => stOf [(3, AI 0), (6, AD (ints l)), (7, AI l.length), (8, AI k)] []) (fun k => k <= l.length /\ ∀ i, i < k -> l.getD i 0 = 0) (fun k => l.length - k) 0 ⟨Nat.zero_le _, fun i hi => absurd hi (Nat.not_lt_zero _)⟩ ?_ ?_
  · exact le_of ⟨rfl, rfl, rfl, rfl, trivial⟩ trivial rfl
  · intro k hk
    repeat' (first | (show VR _ _ _ (_ :: _) _ _ _; first | refine x_opF rfl (by first | exact True.intro | omega) ?_ | (show VR _ _ _ (⟨_, .indexAddr _ _ _, _, _, _, _⟩ :: _) _ _ _; first | refine vr_index_rd (gk rfl) rfl rfl rfl rfl rfl (by omega) rfl ?_)) | (show VR _ _ _ [] _ _ _; first | refine vr_nil ?_) | (show thenQ _ _ _ _; first | refine q_then_n ?_ | refine q_then_x ?_ | refine q_then_r ?_) | (show blockQ _ _ _ _; first | refine q_blk_n ?_ | refine q_blk_r ?_ | refine q_blk_x ?_) | refine vc_seq ?_ | refine vc_region ?_ | (show VC _ (.cond _ _ _) _ _; first | (refine x_cond rfl ?_ ?_ <;> intro h <;> have hq := h <;> (try simp only [decide_eq_true_eq, decide_eq_false_iff_not, Int.not_lt, Int.not_le, ne_eq, Decidable.not_not, Bool.not_eq_true', Bool.not_eq_false'] at hq))) | refine vc_ret ?_ | refine vc_exit ?_ | refine vc_block ?_ | refine vc_skip ?_)
    · refine ret_int isRet_r rfl ?_
      rw [orI_at l k hk.2 hk.1, List.drop_eq_getElem_cons (by omega), orI, if_pos]
      · simp [List.getD_eq_getElem?_getD]; rw [List.getElem?_eq_getElem (by omega)]; rfl
      · rw [List.getD_eq_getElem?_getD, List.getElem?_eq_getElem (by omega)] at hq; exact hq
    · refine ⟨k + 1, ⟨by omega, fun i hi => ?_⟩, by omega, le_of ⟨rfl, rfl, rfl, rfl, trivial⟩ trivial rfl⟩
      by_cases hik : i < k
      · exact hk.2 i hik
      · have : i = k := by omega
        subst this
        exact hq
    · refine ret_int isRet_r rfl ?_
      rw [orI_at l k hk.2 hk.1, List.drop_of_length_le (by omega)]; rfl
structure TC where
  slot : Int
  offset : Int
  kind : Int
  send : Bool
  peer : Int
  flow : Int
  deriving DecidableEq, Inhabited
def TC.enc (x : TC) : List D := [.int .i64 x.slot, .int .i64 x.offset, .int .i64 x.kind, .bool x.send, .int .i64 x.peer, .int .i64 x.flow]
def TC.cs (x : TC) : List C := [.d (.int .i64 x.slot), .d (.int .i64 x.offset), .d (.int .i64 x.kind), .d (.bool x.send), .d (.int .i64 x.peer), .d (.int .i64 x.flow)]
abbrev tcA (x : TC) : AV := .agg x.cs
abbrev tcs (l : List TC) : D := rdOf TC.enc 6 l
def nodeB (n : Int) : Bool := decide (0 <= n /\ n < 32)
theorem node_spec (n : Int) : FnS Tryz.prog 78 [AI n] [] (AB (nodeB n)) [] := by
  refine FnS.of_body (enters_of Tryz.func78 (by kernel_rfl) rfl) Tryz.func78 rfl Tryz.ntmps78 Tryz.results78 rfl rfl rfl rfl fun E hS => ?_
  repeat' (first | (show VR _ _ _ (_ :: _) _ _ _; first | refine x_opF rfl (by first | exact True.intro | omega) ?_ | (refine x_gsplit rfl ?_ ?_ <;> intro h <;> have hq := h <;> (try simp only [decide_eq_true_eq, decide_eq_false_iff_not, Int.not_lt, Int.not_le, ne_eq, Decidable.not_not, Bool.not_eq_true', Bool.not_eq_false'] at hq))) | (show VR _ _ _ [] _ _ _; first | refine vr_nil ?_) | (show thenQ _ _ _ _; first | refine q_then_n ?_) | refine vc_seq ?_ | refine vc_region ?_ | refine vc_ret ?_)
  all_goals refine ret_bool isRet_r rfl ?_
  all_goals simp_all [nodeB] <;> omega
def cmpTC (a b : TC) : Int := orI [cmpI a.slot b.slot, cmpI a.kind b.kind]
def formE (c : TC) (self len : Int) : Int :=
  if c.kind ≠ 3 /\ c.kind ≠ 1 /\ c.kind ≠ 2 then 1
  else if (c.kind ≠ 1 /\ c.flow ≠ -1) \/ (c.kind = 3 /\ (c.peer ≠ -1 \/ c.send = true)) then 1
  else if (c.slot < 0 \/ len <= c.slot) \/ (c.offset < 0 \/ 16 <= c.offset) \/ (c.kind ≠ 3 /\ (nodeB c.peer = false \/ c.peer = self)) \/ (c.kind = 1 /\ c.flow < 0) then 2 else 0
set_option maxHeartbeats 2000000 in
theorem form_spec (c : TC) (self len : Int) : FnS Tryz.prog 79 [tcA c, AI self, AI len] [] (AI (formE c self len)) [] := by
  have h3 : c.kind = 3 \/ c.kind = 1 \/ c.kind = 2 \/ (c.kind ≠ 3 /\ c.kind ≠ 1 /\ c.kind ≠ 2) := by omega
  obtain ⟨slot, off, kind, send, peer, flow⟩ := c
  dsimp only at h3
  refine FnS.of_body (enters_of Tryz.func79 (by kernel_rfl) rfl) Tryz.func79 rfl Tryz.ntmps79 Tryz.results79 rfl rfl rfl rfl fun E hS => ?_
  rcases h3 with rfl | rfl | rfl | ⟨h, h', h''⟩
  rotate_left 3
  have a1 : (!decide (kind = 3)) = true := by simp [h]
  have a2 : (!decide (kind = 1)) = true := by simp [h']
  have a3 : decide (kind ≠ 2) = true := by simp [h'']
  all_goals
    repeat' (first | (show VR _ _ _ (_ :: _) _ _ _; first | refine x_opF rfl (by first | exact True.intro | omega) ?_ | (show VR _ _ _ (⟨_, .call ⟨.value _, _, _⟩, _, _, _, _⟩ :: _) _ _ _; first | refine vr_calld (node_spec _) (gk rfl) rfl rfl rfl rfl rfl rfl ?_) | refine x_gknow rfl (by assumption) ?_ | (refine x_gsplit rfl ?_ ?_ <;> intro h <;> have hq := h <;> (try simp only [decide_eq_true_eq, decide_eq_false_iff_not, Int.not_lt, Int.not_le, ne_eq, Decidable.not_not, Bool.not_eq_true', Bool.not_eq_false'] at hq))) | (show VR _ _ _ [] _ _ _; first | refine vr_nil ?_) | (show thenQ _ _ _ _; first | refine q_then_n ?_ | refine q_then_r ?_) | (show blockQ _ _ _ _; first | refine q_blk_n ?_ | refine q_blk_r ?_) | refine vc_seq ?_ | refine vc_region ?_ | (show VC _ (.cond _ _ _) _ _; first | refine vc_cond_t rfl ?_ | refine vc_cond_f rfl ?_ | refine x_know rfl (by assumption) ?_ | (refine x_cond rfl ?_ ?_ <;> intro h <;> have hq := h <;> (try simp only [decide_eq_true_eq, decide_eq_false_iff_not, Int.not_lt, Int.not_le, ne_eq, Decidable.not_not, Bool.not_eq_true', Bool.not_eq_false'] at hq))) | refine vc_ret ?_ | refine vc_block ?_ | refine vc_skip ?_)
    all_goals first
      | (refine ret_int isRet_r rfl ?_; unfold formE; simp_all; done)
      | (refine ret_int isRet_r rfl ?_; unfold formE; simp_all <;> omega)
      | (exfalso; omega)
      | trace_state
end Go.Proofs.T
end
section
namespace Go.Proofs.T
open Go Go.Sx
set_option maxRecDepth 4000
attribute [local irreducible] VR VC thenQ blockQ retL
structure Tb where
  node : Int
  len : Int
  cells : List TC
  deriving Inhabited
def Tb.cs (t : Tb) : List C := [.d (.int .i64 t.node), .d (.int .i64 t.len), .d (tcs t.cells)]
abbrev tbA (t : Tb) : AV := .agg t.cs
def tcErr (t : Tb) (k : Nat) : Int :=
  if formE (t.cells.getD k default) t.node t.len ≠ 0 then formE (t.cells.getD k default) t.node t.len
  else if 0 < k /\ 0 <= cmpTC (t.cells.getD (k - 1) default) (t.cells.getD k default) then 5 else 0
def checkT (t : Tb) : Int := if nodeB t.node = false \/ t.len < 1 \/ 512 < t.len then 2 else if 512 < t.cells.length then 8 else firstErr t.cells.length (tcErr t)
end Go.Proofs.T
end
section
namespace Go.Proofs.T
open Go Go.Sx
set_option maxRecDepth 4000
attribute [local irreducible] VR VC thenQ blockQ retL
end Go.Proofs.T
end
section
namespace Go.Proofs.T
open Go Go.Sx
set_option maxRecDepth 4000
attribute [local irreducible] VR VC thenQ blockQ retL
end Go.Proofs.T
end
section
namespace Go.Proofs.T
open Go Go.Sx
set_option maxRecDepth 4000
attribute [local irreducible] VR VC thenQ blockQ retL
end Go.Proofs.T
end
section
namespace Go.Proofs.T
open Go Go.Sx
set_option maxRecDepth 4000
attribute [local irreducible] VR VC thenQ blockQ retL
abbrev findφSl : List DV -> DV -> Prop := fun ds r => ∃ (x : TC) (t : Int), ds = [.agg x.enc, .d (.int .i64 t)] /\ r = .d (.int .i64 (cmpI x.slot t))
theorem cmpI_lt {a b : Int} : cmpI a b < 0 ↔ a < b := by
  unfold cmpI; split <;> (try split) <;> omega
theorem cmpI_eq {a b : Int} : cmpI a b = 0 ↔ a = b := by
  unfold cmpI; split <;> (try split) <;> omega
end Go.Proofs.T
end
section
namespace Go.Proofs
open Go Go.Sx Go.Proofs.T Go.Proofs.Q
set_option maxRecDepth 4000
attribute [local irreducible] VR VC thenQ blockQ retL
structure Hd where
  flow : Int
  frame : Int
  til : Int
  data : ByteArray
  acked : List Int
  deriving DecidableEq, Inhabited
def Hd.enc (x : Hd) : List D := [.int .i64 x.flow, .int .i64 x.frame, .int .i64 x.til, .str x.data, ints x.acked]
def Hd.cs (x : Hd) : List C := [.d (.int .i64 x.flow), .d (.int .i64 x.frame), .d (.int .i64 x.til), .d (.str x.data), .d (ints x.acked)]
abbrev hdA (x : Hd) : AV := .agg x.cs
abbrev hds (l : List Hd) : D := rdOf Hd.enc 5 l
structure Sn where
  node : Int
  seq : Int
  deriving DecidableEq, Inhabited
def Sn.enc (x : Sn) : List D := [.int .i64 x.node, .int .i64 x.seq]
def Sn.cs (x : Sn) : List C := [.d (.int .i64 x.node), .d (.int .i64 x.seq)]
abbrev snA (x : Sn) : AV := .agg x.cs
abbrev sns (l : List Sn) : D := rdOf Sn.enc 2 l
instance : FlatE Sn.enc := ⟨fun _ => rfl⟩
structure Fr where
  kind : Int
  source : Int
  target : Int
  list : Int
  seq : Int
  flow : Int
  number : Int
  err : Int
  slot : Int
  rank : Int
  epoch : Int
  data : ByteArray
  deriving DecidableEq, Inhabited
def Fr.enc (x : Fr) : List D := [.int .i64 x.kind, .int .i64 x.source, .int .i64 x.target, .int .i64 x.list, .int .i64 x.seq, .int .i64 x.flow, .int .i64 x.number, .int .i64 x.err, .int .i64 x.slot, .int .i64 x.rank, .int .i64 x.epoch, .str x.data]
def Fr.cs (x : Fr) : List C := [.d (.int .i64 x.kind), .d (.int .i64 x.source), .d (.int .i64 x.target), .d (.int .i64 x.list), .d (.int .i64 x.seq), .d (.int .i64 x.flow), .d (.int .i64 x.number), .d (.int .i64 x.err), .d (.int .i64 x.slot), .d (.int .i64 x.rank), .d (.int .i64 x.epoch), .d (.str x.data)]
abbrev frA (x : Fr) : AV := .agg x.cs
abbrev frs (l : List Fr) : D := rdOf Fr.enc 12 l
theorem fr_sv {x y : Fr} (h : [SV.str x.data, SV.int IntKind.i64 x.epoch, SV.int IntKind.i64 x.rank, SV.int IntKind.i64 x.slot, SV.int IntKind.i64 x.err, SV.int IntKind.i64 x.number, SV.int IntKind.i64 x.flow, SV.int IntKind.i64 x.seq, SV.int IntKind.i64 x.list, SV.int IntKind.i64 x.target, SV.int IntKind.i64 x.source, SV.int IntKind.i64 x.kind].reverse = [SV.str y.data, SV.int IntKind.i64 y.epoch, SV.int IntKind.i64 y.rank, SV.int IntKind.i64 y.slot, SV.int IntKind.i64 y.err, SV.int IntKind.i64 y.number, SV.int IntKind.i64 y.flow, SV.int IntKind.i64 y.seq, SV.int IntKind.i64 y.list, SV.int IntKind.i64 y.target, SV.int IntKind.i64 y.source, SV.int IntKind.i64 y.kind].reverse) : x = y := by
  have h := List.reverse_inj.1 h
  cases x; cases y
  simp only [List.cons.injEq, SV.int.injEq, SV.bool.injEq, SV.str.injEq, true_and, and_true] at h
  obtain ⟨rfl, rfl, rfl, rfl, rfl, rfl, rfl, rfl, rfl, rfl, rfl, rfl⟩ := h
  rfl
theorem fr_vs {x y : Fr} (h : x = y) : [SV.str x.data, SV.int IntKind.i64 x.epoch, SV.int IntKind.i64 x.rank, SV.int IntKind.i64 x.slot, SV.int IntKind.i64 x.err, SV.int IntKind.i64 x.number, SV.int IntKind.i64 x.flow, SV.int IntKind.i64 x.seq, SV.int IntKind.i64 x.list, SV.int IntKind.i64 x.target, SV.int IntKind.i64 x.source, SV.int IntKind.i64 x.kind].reverse = [SV.str y.data, SV.int IntKind.i64 y.epoch, SV.int IntKind.i64 y.rank, SV.int IntKind.i64 y.slot, SV.int IntKind.i64 y.err, SV.int IntKind.i64 y.number, SV.int IntKind.i64 y.flow, SV.int IntKind.i64 y.seq, SV.int IntKind.i64 y.list, SV.int IntKind.i64 y.target, SV.int IntKind.i64 y.source, SV.int IntKind.i64 y.kind].reverse := by rw [h]
instance : FlatE Fr.enc := ⟨fun _ => rfl⟩
structure Ac where
  kind : Int
  offset : Int
  fkind : Int
  source : Int
  target : Int
  list : Int
  seq : Int
  flow : Int
  number : Int
  err : Int
  slot : Int
  rank : Int
  epoch : Int
  data : ByteArray
  deriving DecidableEq, Inhabited
def Ac.enc (x : Ac) : List D := [.int .i64 x.kind, .int .i64 x.offset, .int .i64 x.fkind, .int .i64 x.source, .int .i64 x.target, .int .i64 x.list, .int .i64 x.seq, .int .i64 x.flow, .int .i64 x.number, .int .i64 x.err, .int .i64 x.slot, .int .i64 x.rank, .int .i64 x.epoch, .str x.data]
def Ac.cs (x : Ac) : List C := [.d (.int .i64 x.kind), .d (.int .i64 x.offset), .d (.int .i64 x.fkind), .d (.int .i64 x.source), .d (.int .i64 x.target), .d (.int .i64 x.list), .d (.int .i64 x.seq), .d (.int .i64 x.flow), .d (.int .i64 x.number), .d (.int .i64 x.err), .d (.int .i64 x.slot), .d (.int .i64 x.rank), .d (.int .i64 x.epoch), .d (.str x.data)]
abbrev acA (x : Ac) : AV := .agg x.cs
abbrev acs (l : List Ac) : D := rdOf Ac.enc 14 l
instance : FlatE Ac.enc := ⟨fun _ => rfl⟩
structure Up where
  some : Bool
  new : Bool
  fkind : Int
  source : Int
  target : Int
  list : Int
  seq : Int
  flow : Int
  number : Int
  err : Int
  slot : Int
  rank : Int
  epoch : Int
  data : ByteArray
  deriving DecidableEq, Inhabited
def Up.enc (x : Up) : List D := [.bool x.some, .bool x.new, .int .i64 x.fkind, .int .i64 x.source, .int .i64 x.target, .int .i64 x.list, .int .i64 x.seq, .int .i64 x.flow, .int .i64 x.number, .int .i64 x.err, .int .i64 x.slot, .int .i64 x.rank, .int .i64 x.epoch, .str x.data]
def Up.cs (x : Up) : List C := [.d (.bool x.some), .d (.bool x.new), .d (.int .i64 x.fkind), .d (.int .i64 x.source), .d (.int .i64 x.target), .d (.int .i64 x.list), .d (.int .i64 x.seq), .d (.int .i64 x.flow), .d (.int .i64 x.number), .d (.int .i64 x.err), .d (.int .i64 x.slot), .d (.int .i64 x.rank), .d (.int .i64 x.epoch), .d (.str x.data)]
abbrev upA (x : Up) : AV := .agg x.cs
abbrev ups (l : List Up) : D := rdOf Up.enc 14 l
instance : FlatE Up.enc := ⟨fun _ => rfl⟩
structure Rs where
  acked : Bool
  heard : Bool
  fkind : Int
  source : Int
  target : Int
  list : Int
  seq : Int
  flow : Int
  number : Int
  err : Int
  slot : Int
  rank : Int
  epoch : Int
  data : ByteArray
  error : Int
  deriving DecidableEq, Inhabited
def Rs.enc (x : Rs) : List D := [.bool x.acked, .bool x.heard, .int .i64 x.fkind, .int .i64 x.source, .int .i64 x.target, .int .i64 x.list, .int .i64 x.seq, .int .i64 x.flow, .int .i64 x.number, .int .i64 x.err, .int .i64 x.slot, .int .i64 x.rank, .int .i64 x.epoch, .str x.data, .int .i64 x.error]
def Rs.cs (x : Rs) : List C := [.d (.bool x.acked), .d (.bool x.heard), .d (.int .i64 x.fkind), .d (.int .i64 x.source), .d (.int .i64 x.target), .d (.int .i64 x.list), .d (.int .i64 x.seq), .d (.int .i64 x.flow), .d (.int .i64 x.number), .d (.int .i64 x.err), .d (.int .i64 x.slot), .d (.int .i64 x.rank), .d (.int .i64 x.epoch), .d (.str x.data), .d (.int .i64 x.error)]
abbrev rsA (x : Rs) : AV := .agg x.cs
abbrev rss (l : List Rs) : D := rdOf Rs.enc 15 l
instance : FlatE Rs.enc := ⟨fun _ => rfl⟩
structure Sta where
  tb : Tb
  qu : Qu
  held : List Hd
  seen : List Sn
  list : Int
  seq : Int
  trying : Int
  tries : Int
  back : Int
  wait : Int
  seed : Int
  deriving Inhabited
def Sta.cs (s : Sta) : List C := [.d (.int .i64 s.tb.node), .d (.int .i64 s.tb.len), .d (tcs s.tb.cells), .d (.int .i64 s.qu.limit), .d (pks s.qu.packets), .d (hds s.held), .d (sns s.seen),
  .d (.int .i64 s.list), .d (.int .i64 s.seq), .d (.int .i64 s.trying), .d (.int .i64 s.tries), .d (.int .i64 s.back), .d (.int .i64 s.wait), .d (.int .i64 s.seed)]
def Sta.enc (s : Sta) : List D := [.int .i64 s.tb.node, .int .i64 s.tb.len, tcs s.tb.cells, .int .i64 s.qu.limit, pks s.qu.packets, hds s.held, sns s.seen,
  .int .i64 s.list, .int .i64 s.seq, .int .i64 s.trying, .int .i64 s.tries, .int .i64 s.back, .int .i64 s.wait, .int .i64 s.seed]
abbrev stA (s : Sta) : AV := .agg s.cs
def badR (l : List Int) (i : Nat) : Bool := decide (l.getD i default < 0 \/ 31 < l.getD i default \/ (0 < i /\ l.getD i default <= l.getD (i - 1) default))
def risingB (l : List Int) : Bool := !((List.range l.length).any (badR l))
def rangesB (h : Hd) : Bool := decide (0 <= h.flow /\ h.flow <= 255 /\ 0 <= h.frame /\ h.frame <= 65535 /\ 0 <= h.til /\ h.til <= 109951162) && risingB h.acked
def badHd (l : List Hd) (i : Nat) : Bool := decide (rangesB (l.getD i default) = false \/ 100 < (l.getD i default).data.size \/ (0 < i /\ (l.getD i default).flow <= (l.getD (i - 1) default).flow))
def heldB (l : List Hd) : Bool := !((List.range l.length).any (badHd l)) && decide ((l.length : Int) <= 16)
def badSn (l : List Sn) (i : Nat) : Bool := decide (¬ (0 <= (l.getD i default).node /\ (l.getD i default).node <= 31) \/ ¬ (0 <= (l.getD i default).seq /\ (l.getD i default).seq <= 255) \/ (0 < i /\ (l.getD i default).node <= (l.getD (i - 1) default).node))
def seenB (l : List Sn) : Bool := !((List.range l.length).any (badSn l))
def hasB (l : List Pk) (id : Int) : Bool := l.any fun x => decide (x.id = id)
def badP (node : Int) (x : Pk) : Bool := decide (x.to = node \/ 100 < x.data.size)
def packetsB (s : Sta) : Bool := decide (checkQ s.qu = 0) && !(s.qu.packets.any (badP s.tb.node))
def tryingB (s : Sta) : Bool := decide ((s.trying = -1 /\ s.tries = 0) \/ (0 <= s.trying /\ hasB s.qu.packets s.trying = true /\ 1 <= s.tries /\ s.tries < 4))
def restB (s : Sta) : Bool := decide (0 <= s.list /\ s.list <= 255 /\ 0 <= s.seq /\ s.seq <= 255 /\ 0 <= s.back /\ s.back <= 5 /\ 0 <= s.wait /\ s.wait <= 2 ^ s.back.toNat - 1 /\ 0 <= s.seed /\ s.seed <= 2147483647)
def okS (s : Sta) : Bool := decide (checkT s.tb = 0) && packetsB s && heldB s.held && seenB s.seen && tryingB s && restB s
end Go.Proofs
end
section
namespace Go.Proofs
open Go Go.Sx Go.Proofs.T Go.Proofs.Q
set_option maxRecDepth 4000
attribute [local irreducible] VR VC thenQ blockQ retL
end Go.Proofs
end
section
namespace Go.Proofs
open Go Go.Sx Go.Proofs.T Go.Proofs.Q
set_option maxRecDepth 4000
attribute [local irreducible] VR VC thenQ blockQ retL
def zAc : Ac := ⟨0, 0, 0, 0, 0, 0, 0, 0, 0, 0, 0, 0, 0, ⟨#[]⟩⟩
def noS : Sta := ⟨⟨0, 0, []⟩, ⟨0, []⟩, [], [], 0, 0, 0, 0, 0, 0, 0⟩
def heldI (l : List Hd) (flow : Int) : Option Nat := fstO l fun h => decide (h.flow = flow)
def agrB (t : Tb) (to : Int) : Bool := t.cells.any fun c => decide (c.kind = 2) && c.send && decide (c.peer = to)
def candI (s : Sta) : Option Nat := fstO s.qu.packets fun p => decide (p.to = -1) || !agrB s.tb p.to
def pkOf (s : Sta) (o : Option Nat) : Pk := match o with | none => noP | some i => s.qu.packets.getD i default
def lisA : Ac := { zAc with kind := 2 }
def msgA (s : Sta) (p : Pk) : Ac := ⟨1, 0, 4, s.tb.node, p.to, s.list, s.seq, 0, 0, 0, 0, 0, 0, p.data⟩
def datA (s : Sta) (c : TC) (h : Hd) : Ac := ⟨1, 0, 1, s.tb.node, c.peer, s.list, h.frame % 256, h.flow, h.frame, 0, 0, 0, 0, h.data⟩
def ctlA (s : Sta) (slot : Int) (c : TC) : Ac := if c.send = false then lisA else match heldI s.held c.flow with
  | none => zAc
  | some i => if (s.held.getD i default).til < slot \/ ((s.held.getD i default).acked.any fun y => decide (c.peer = y)) = true then zAc else datA s c (s.held.getD i default)
def agrA (s : Sta) (c : TC) : Ac := if c.send = false then lisA else if (firstQ s.qu c.peer).2 = true then msgA s (firstQ s.qu c.peer).1 else zAc
def shrA (s : Sta) : Ac := if (candI s).isSome = true /\ s.wait = 0 then msgA s (pkOf s (candI s)) else lisA
def rawA (s : Sta) (slot : Int) (c : TC) : Ac := if c.kind = 1 then ctlA s slot c else if c.kind = 2 then agrA s c else if c.kind = 3 then shrA s else zAc
end Go.Proofs
end
section
namespace Go.Proofs
open Go Go.Sx Go.Proofs.T Go.Proofs.Q
set_option maxRecDepth 4000
attribute [local irreducible] VR VC thenQ blockQ retL
theorem fin_spec (n m : Int) : FnS Tryz.prog 176 [AI n, AI m] [] (AB (decide (0 <= n /\ n <= m))) [] := by
  refine FnS.of_body (enters_of Tryz.func176 (by kernel_rfl) rfl) Tryz.func176 rfl Tryz.ntmps176 Tryz.results176 rfl rfl rfl rfl fun E hS => ?_
  repeat' (first | (show VR _ _ _ (_ :: _) _ _ _; first | refine x_opF rfl (by first | exact True.intro | omega) ?_ | (refine x_gsplit rfl ?_ ?_ <;> intro h <;> have hq := h <;> (try simp only [hqs] at hq))) | (show VR _ _ _ [] _ _ _; first | refine vr_nil ?_) | (show thenQ _ _ _ _; first | refine q_then_n ?_) | refine vc_seq ?_ | refine vc_region ?_ | refine vc_ret ?_)
  · refine ret_bool isRet_r rfl ?_
    exact decide_eq_decide.2 (by omega)
  · refine ret_bool isRet_r rfl ?_
    exact decide_eq_false (by omega)
theorem isErr_spec (n : Int) : FnS Tryz.prog 231 [AI n] [] (AB (decide (-32768 <= n /\ n <= 32767))) [] := by
  refine FnS.of_body (enters_of Tryz.func231 (by kernel_rfl) rfl) Tryz.func231 rfl Tryz.ntmps231 Tryz.results231 rfl rfl rfl rfl fun E hS => ?_
  repeat' (first | (show VR _ _ _ (_ :: _) _ _ _; first | refine x_opF rfl (by first | exact True.intro | omega) ?_ | (refine x_gsplit rfl ?_ ?_ <;> intro h <;> have hq := h <;> (try simp only [hqs] at hq))) | (show VR _ _ _ [] _ _ _; first | refine vr_nil ?_) | (show thenQ _ _ _ _; first | refine q_then_n ?_) | refine vc_seq ?_ | refine vc_region ?_ | refine vc_ret ?_)
  · refine ret_bool isRet_r rfl ?_
    exact decide_eq_decide.2 (by omega)
  · refine ret_bool isRet_r rfl ?_
    exact decide_eq_false (by omega)
theorem isTgt_spec (f : Fr) : FnS Tryz.prog 230 [frA f] [] (AB (decide (0 <= f.target /\ f.target <= 31 /\ f.target ≠ f.source))) [] := by
  refine FnS.of_body (enters_of Tryz.func230 (by kernel_rfl) rfl) Tryz.func230 rfl Tryz.ntmps230 Tryz.results230 rfl rfl rfl rfl fun E hS => ?_
  repeat' (first | (show VR _ _ _ (_ :: _) _ _ _; first | refine x_opF rfl (by first | exact True.intro | omega) ?_ | (show VR _ _ _ (⟨_, .call ⟨.value _, _, _⟩, _, _, _, _⟩ :: _) _ _ _; first | refine vr_calldU (fin_spec _ _) (gk rfl) rfl rfl rfl (by first | rfl | (simp only [wfRes, wfL, wfArgs, wfs]; rfl)) rfl (by first | exact newB_O | rfl) rfl ?_) | (refine x_gsplit rfl ?_ ?_ <;> intro h <;> have hq := h <;> (try simp only [hqs] at hq))) | (show VR _ _ _ [] _ _ _; first | refine vr_nil ?_) | (show thenQ _ _ _ _; first | refine q_then_n ?_) | refine vc_seq ?_ | refine vc_region ?_ | refine vc_ret ?_)
  · refine ret_bool isRet_r rfl ?_
    exact decide_eq_decide.2 (by omega)
  · refine ret_bool isRet_r rfl ?_
    exact decide_eq_false (by omega)
def fieldsM (f : Fr) : Fr × Bool :=
  if f.kind = 1 then ({ f with flow := 0, number := 0, data := ⟨#[]⟩ }, decide ((0 <= f.target /\ f.target <= 31 /\ f.target ≠ f.source) /\ (0 <= f.flow /\ f.flow <= 255) /\ 0 <= f.number /\ f.number <= 65535))
  else if f.kind = 2 then ({ f with err := 0 }, decide ((0 <= f.target /\ f.target <= 31 /\ f.target ≠ f.source) /\ -32768 <= f.err /\ f.err <= 32767))
  else if f.kind = 3 then ({ f with slot := 0, rank := 0, epoch := 0, data := ⟨#[]⟩ }, decide (f.target = -1 /\ (0 <= f.slot /\ f.slot <= 109951162) /\ (0 <= f.rank /\ f.rank <= 65535) /\ 0 <= f.epoch /\ f.epoch <= 65535))
  else if f.kind = 4 then ({ f with data := ⟨#[]⟩ }, decide (f.target = -1 \/ (0 <= f.target /\ f.target <= 31 /\ f.target ≠ f.source)))
  else (f, false)
set_option maxHeartbeats 1000000 in
theorem fields_spec (f : Fr) : FnS Tryz.prog 195 [frA f] [] (.tup [frA (fieldsM f).1, AB (fieldsM f).2]) [] := by
  refine FnS.of_body (enters_of Tryz.func195 (by kernel_rfl) rfl) Tryz.func195 rfl Tryz.ntmps195 Tryz.results195 rfl rfl rfl rfl fun E hS => ?_
  by_cases h1 : f.kind = 1
  · have d1 : decide (f.kind = 1) = true := decide_eq_true h1
    rw [fieldsM, if_pos h1]
    repeat' (first | (show VR _ _ _ (_ :: _) _ _ _; first | refine x_opF rfl (by first | exact True.intro | omega) ?_ | (show VR _ _ _ (⟨_, .call ⟨.value _, _, _⟩, _, _, _, _⟩ :: _) _ _ _; first | refine vr_calldU (fin_spec _ _) (gk rfl) rfl rfl rfl (by first | rfl | (simp only [wfRes, wfL, wfArgs, wfs]; rfl)) rfl (by first | exact newB_O | rfl) rfl ?_ | refine vr_calldU (isTgt_spec f) (gk rfl) rfl rfl rfl (by first | rfl | (simp only [wfRes, wfL, wfArgs, wfs]; rfl)) rfl (by first | exact newB_O | rfl) rfl ?_) | (refine x_gsplit rfl ?_ ?_ <;> intro h <;> have hq := h <;> (try simp only [hqs] at hq))) | (show VR _ _ _ [] _ _ _; first | refine vr_nil ?_) | (show thenQ _ _ _ _; first | refine q_then_n ?_) | (show blockQ _ _ _ _; first | refine q_blk_n ?_) | refine vc_seq ?_ | refine vc_region ?_ | (show VC _ (.cond _ _ _) _ _; first | refine vc_cond_t rfl ?_ | refine x_know rfl (by assumption) ?_) | refine vc_ret ?_ | refine vc_block ?_)
    all_goals
      refine ret_agg_dL isRet_r rfl rfl rfl rfl rfl rfl (congrArg D.bool ?_)
      first | exact decide_eq_decide.2 (by omega) | exact decide_eq_false (by omega) | exact decide_eq_true (by omega)
  have d1 : decide (f.kind = 1) = false := decide_eq_false h1
  by_cases h2 : f.kind = 2
  · have d2 : decide (f.kind = 2) = true := decide_eq_true h2
    rw [fieldsM, if_neg h1, if_pos h2]
    repeat' (first | (show VR _ _ _ (_ :: _) _ _ _; first | refine x_opF rfl (by first | exact True.intro | omega) ?_ | (show VR _ _ _ (⟨_, .call ⟨.value _, _, _⟩, _, _, _, _⟩ :: _) _ _ _; first | refine vr_calldU (isErr_spec _) (gk rfl) rfl rfl rfl (by first | rfl | (simp only [wfRes, wfL, wfArgs, wfs]; rfl)) rfl (by first | exact newB_O | rfl) rfl ?_ | refine vr_calldU (isTgt_spec f) (gk rfl) rfl rfl rfl (by first | rfl | (simp only [wfRes, wfL, wfArgs, wfs]; rfl)) rfl (by first | exact newB_O | rfl) rfl ?_) | (refine x_gsplit rfl ?_ ?_ <;> intro h <;> have hq := h <;> (try simp only [hqs] at hq))) | (show VR _ _ _ [] _ _ _; first | refine vr_nil ?_) | (show thenQ _ _ _ _; first | refine q_then_n ?_) | (show blockQ _ _ _ _; first | refine q_blk_n ?_) | refine vc_seq ?_ | refine vc_region ?_ | (show VC _ (.cond _ _ _) _ _; first | refine vc_cond_t rfl ?_ | refine vc_cond_f rfl ?_ | refine x_know rfl (by assumption) ?_) | refine vc_ret ?_ | refine vc_block ?_)
    all_goals
      refine ret_agg_dL isRet_r rfl rfl rfl rfl rfl rfl (congrArg D.bool ?_)
      first | exact decide_eq_decide.2 (by omega) | exact decide_eq_false (by omega) | exact decide_eq_true (by omega)
  have d2 : decide (f.kind = 2) = false := decide_eq_false h2
  by_cases h3 : f.kind = 3
  · have d3 : decide (f.kind = 3) = true := decide_eq_true h3
    rw [fieldsM, if_neg h1, if_neg h2, if_pos h3]
    repeat' (first | (show VR _ _ _ (_ :: _) _ _ _; first | refine x_opF rfl (by first | exact True.intro | omega) ?_ | (show VR _ _ _ (⟨_, .call ⟨.value _, _, _⟩, _, _, _, _⟩ :: _) _ _ _; first | refine vr_calldU (fin_spec _ _) (gk rfl) rfl rfl rfl (by first | rfl | (simp only [wfRes, wfL, wfArgs, wfs]; rfl)) rfl (by first | exact newB_O | rfl) rfl ?_) | (refine x_gsplit rfl ?_ ?_ <;> intro h <;> have hq := h <;> (try simp only [hqs] at hq))) | (show VR _ _ _ [] _ _ _; first | refine vr_nil ?_) | (show thenQ _ _ _ _; first | refine q_then_n ?_) | (show blockQ _ _ _ _; first | refine q_blk_n ?_) | refine vc_seq ?_ | refine vc_region ?_ | (show VC _ (.cond _ _ _) _ _; first | refine vc_cond_t rfl ?_ | refine vc_cond_f rfl ?_ | refine x_know rfl (by assumption) ?_) | refine vc_ret ?_ | refine vc_block ?_)
    all_goals
      refine ret_agg_dL isRet_r rfl rfl rfl rfl rfl rfl (congrArg D.bool ?_)
      first | exact decide_eq_decide.2 (by omega) | exact decide_eq_false (by omega) | exact decide_eq_true (by omega)
  have d3 : decide (f.kind = 3) = false := decide_eq_false h3
  by_cases h4 : f.kind = 4
  · have d4 : decide (f.kind = 4) = true := decide_eq_true h4
    rw [fieldsM, if_neg h1, if_neg h2, if_neg h3, if_pos h4]
    repeat' (first | (show VR _ _ _ (_ :: _) _ _ _; first | refine x_opF rfl (by first | exact True.intro | omega) ?_ | (show VR _ _ _ (⟨_, .call ⟨.value _, _, _⟩, _, _, _, _⟩ :: _) _ _ _; first | refine vr_calldU (isTgt_spec f) (gk rfl) rfl rfl rfl (by first | rfl | (simp only [wfRes, wfL, wfArgs, wfs]; rfl)) rfl (by first | exact newB_O | rfl) rfl ?_) | (refine x_gsplit rfl ?_ ?_ <;> intro h <;> have hq := h <;> (try simp only [hqs] at hq))) | (show VR _ _ _ [] _ _ _; first | refine vr_nil ?_) | (show thenQ _ _ _ _; first | refine q_then_n ?_) | (show blockQ _ _ _ _; first | refine q_blk_n ?_) | refine vc_seq ?_ | refine vc_region ?_ | (show VC _ (.cond _ _ _) _ _; first | refine vc_cond_t rfl ?_ | refine vc_cond_f rfl ?_ | refine x_know rfl (by assumption) ?_) | refine vc_ret ?_ | refine vc_block ?_)
    all_goals
      refine ret_agg_dL isRet_r rfl rfl rfl rfl rfl rfl (congrArg D.bool ?_)
      first | exact decide_eq_decide.2 (by omega) | exact decide_eq_false (by omega) | exact decide_eq_true (by omega)
  have d4 : decide (f.kind = 4) = false := decide_eq_false h4
  rw [fieldsM, if_neg h1, if_neg h2, if_neg h3, if_neg h4]
  repeat' (first | (show VR _ _ _ (_ :: _) _ _ _; first | refine x_opF rfl (by first | exact True.intro | omega) ?_) | (show VR _ _ _ [] _ _ _; first | refine vr_nil ?_) | (show thenQ _ _ _ _; first | refine q_then_n ?_) | (show blockQ _ _ _ _; first | refine q_blk_n ?_) | refine vc_seq ?_ | refine vc_region ?_ | (show VC _ (.cond _ _ _) _ _; first | refine vc_cond_f rfl ?_ | refine x_know rfl (by assumption) ?_) | refine vc_ret ?_ | refine vc_block ?_ | refine vc_skip ?_)
  exact ret_agg_dL isRet_r rfl rfl rfl rfl rfl rfl rfl
def zeroF (f : Fr) : Fr := ⟨f.kind, f.source, f.target, f.list, f.seq, 0, 0, 0, 0, 0, 0, ⟨#[]⟩⟩
def inS (f : Fr) : Bool := decide ((0 <= f.source /\ f.source <= 31) /\ (0 <= f.list /\ f.list <= 255) /\ 0 <= f.seq /\ f.seq <= 255)
def checkF (f : Fr) : Int := if (fieldsM f).2 = true /\ (fieldsM f).1 = zeroF f /\ inS f = true then 0 else 1
set_option maxHeartbeats 1000000 in
theorem checkF_spec (f : Fr) : FnS Tryz.prog 127 [frA f] [] (AI (checkF f)) [] := by
  refine FnS.of_body (enters_of Tryz.func127 (by kernel_rfl) rfl) Tryz.func127 rfl Tryz.ntmps127 Tryz.results127 rfl rfl rfl rfl fun E hS => ?_
  repeat' (first | (show VR _ _ _ (_ :: _) _ _ _; first | refine x_opF rfl (by first | exact True.intro | omega) ?_ | (show VR _ _ _ (⟨_, .call ⟨.value _, _, _⟩, _, _, _, _⟩ :: _) _ _ _; first | refine vr_calldU (fields_spec f) (gk rfl) rfl rfl rfl (by first | rfl | (simp only [wfRes, wfL, wfArgs, wfs]; rfl)) rfl (by first | exact newB_O | rfl) rfl ?_ | refine vr_calldU (fin_spec _ _) (gk rfl) rfl rfl rfl (by first | rfl | (simp only [wfRes, wfL, wfArgs, wfs]; rfl)) rfl (by first | exact newB_O | rfl) rfl ?_) | (show VR _ _ _ (⟨_, .binOp _ _ _ _ _, _, _, _, _⟩ :: _) _ _ _; first | refine vr_neqA (gk rfl) rfl rfl rfl rfl rfl rfl rfl ?_) | (refine x_gsplit rfl ?_ ?_ <;> intro h <;> have hq := h <;> (try simp only [hqs] at hq))) | (show VR _ _ _ [] _ _ _; first | refine vr_nil ?_) | (show thenQ _ _ _ _; first | refine q_then_n ?_ | refine q_then_r ?_) | refine vc_seq ?_ | refine vc_region ?_ | (show VC _ (.cond _ _ _) _ _; first | refine vc_cond_t rfl ?_ | (refine x_cond rfl ?_ ?_ <;> intro h <;> have hq := h <;> (try simp only [hqs] at hq))) | refine vc_ret ?_ | refine vc_skip ?_)
  · exact ret_int isRet_r rfl (if_neg fun hh => by rw [hq] at hh; cases hh.1)
  · exact ret_int isRet_r rfl (if_neg fun hh => hq (fr_vs hh.2.1))
  · exact ret_int isRet_r rfl (if_neg fun hh => by have := of_decide_eq_true hh.2.2; omega)
  · exact ret_int isRet_r rfl (if_neg fun hh => by have := of_decide_eq_true hh.2.2; omega)
  · exact ret_int isRet_r rfl (if_neg fun hh => by have := of_decide_eq_true hh.2.2; omega)
  · exact ret_int isRet_r rfl (if_pos ⟨by assumption, fr_sv (x := (fieldsM f).1) (y := zeroF f) (by assumption), decide_eq_true ⟨by assumption, by assumption, by assumption⟩⟩)
abbrev tgtP (f : Fr) : Prop := 0 <= f.target /\ f.target <= 31 /\ f.target ≠ f.source
abbrev inP (f : Fr) : Prop := (0 <= f.source /\ f.source <= 31) /\ (0 <= f.list /\ f.list <= 255) /\ 0 <= f.seq /\ f.seq <= 255
abbrev okP (f : Fr) : Prop := inP f /\ ((f.kind = 1 /\ tgtP f /\ (0 <= f.flow /\ f.flow <= 255) /\ (0 <= f.number /\ f.number <= 65535) /\ f.err = 0 /\ f.slot = 0 /\ f.rank = 0 /\ f.epoch = 0)
  \/ (f.kind = 2 /\ tgtP f /\ (-32768 <= f.err /\ f.err <= 32767) /\ f.flow = 0 /\ f.number = 0 /\ f.slot = 0 /\ f.rank = 0 /\ f.epoch = 0 /\ f.data = ⟨#[]⟩)
  \/ (f.kind = 3 /\ f.target = -1 /\ (0 <= f.slot /\ f.slot <= 109951162) /\ (0 <= f.rank /\ f.rank <= 65535) /\ (0 <= f.epoch /\ f.epoch <= 65535) /\ f.flow = 0 /\ f.number = 0 /\ f.err = 0)
  \/ (f.kind = 4 /\ (f.target = -1 \/ tgtP f) /\ f.flow = 0 /\ f.number = 0 /\ f.err = 0 /\ f.slot = 0 /\ f.rank = 0 /\ f.epoch = 0))
theorem checkF_iff (f : Fr) : checkF f = 0 ↔ okP f := by
  have hd : ∀ {p : Prop} [Decidable p], (if p then (0 : Int) else 1) = 0 ↔ p := fun {p} _ => by split <;> simp_all
  unfold checkF
  rw [hd]
  unfold okP inP tgtP inS
  obtain ⟨kind, source, target, list, seq, flow, number, err, slot, rank, epoch, data⟩ := f
  by_cases h1 : kind = 1
  · subst h1
    simp only [fieldsM, zeroF, if_pos, Fr.mk.injEq, decide_eq_true_eq, true_and, and_true]
    constructor
    · rintro ⟨h, h2, h3⟩; exact ⟨h3, .inl ⟨h.1, h.2.1, h.2.2, by omega, by omega, by omega, by omega⟩⟩
    · rintro ⟨h3, h | h | h | h⟩
      · exact ⟨⟨h.1, h.2.1, h.2.2.1⟩, by omega, h3⟩
      · exact absurd h.1 (by decide)
      · exact absurd h.1 (by decide)
      · exact absurd h.1 (by decide)
  by_cases h2 : kind = 2
  · subst h2
    simp only [fieldsM, zeroF, if_pos, if_neg (show ¬ (2 : Int) = 1 by decide), Fr.mk.injEq, decide_eq_true_eq, true_and, and_true]
    constructor
    · rintro ⟨h, h2, h3⟩; exact ⟨h3, .inr (.inl ⟨h.1, h.2, h2.1, h2.2.1, h2.2.2.1, h2.2.2.2.1, h2.2.2.2.2.1, h2.2.2.2.2.2⟩)⟩
    · rintro ⟨h3, h | h | h | h⟩
      · exact absurd h.1 (by decide)
      · exact ⟨⟨h.1, h.2.1⟩, h.2.2, h3⟩
      · exact absurd h.1 (by decide)
      · exact absurd h.1 (by decide)
  by_cases h3 : kind = 3
  · subst h3
    simp only [fieldsM, zeroF, if_pos, if_neg (show ¬ (3 : Int) = 1 by decide), if_neg (show ¬ (3 : Int) = 2 by decide), Fr.mk.injEq, decide_eq_true_eq, true_and, and_true]
    constructor
    · rintro ⟨h, h2, h3⟩; exact ⟨h3, .inr (.inr (.inl ⟨h.1, h.2.1, h.2.2.1, h.2.2.2, by omega, by omega, by omega⟩))⟩
    · rintro ⟨h3, h | h | h | h⟩
      · exact absurd h.1 (by decide)
      · exact absurd h.1 (by decide)
      · exact ⟨⟨h.1, h.2.1, h.2.2.1, h.2.2.2.1⟩, by omega, h3⟩
      · exact absurd h.1 (by decide)
  by_cases h4 : kind = 4
  · subst h4
    simp only [fieldsM, zeroF, if_pos, if_neg (show ¬ (4 : Int) = 1 by decide), if_neg (show ¬ (4 : Int) = 2 by decide), if_neg (show ¬ (4 : Int) = 3 by decide), Fr.mk.injEq, decide_eq_true_eq, true_and, and_true]
    constructor
    · rintro ⟨h, h2, h3⟩; exact ⟨h3, .inr (.inr (.inr ⟨h, by omega, by omega, by omega, by omega, by omega, by omega⟩))⟩
    · rintro ⟨h3, h | h | h | h⟩
      · exact absurd h.1 (by decide)
      · exact absurd h.1 (by decide)
      · exact absurd h.1 (by decide)
      · exact ⟨h.1, by omega, h3⟩
  · simp [fieldsM, if_neg h1, if_neg h2, if_neg h3, if_neg h4]
    intros; omega
end Go.Proofs
end
