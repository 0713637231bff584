/-
  What functions of the given program hand back, by walks over its code, and plain laws on that. No condition.
-/
import Derived.Test.YtecdajajocafdaaGreatSxP18u
-- SXS
-- SXM
-- SXN
namespace Go.Proofs
open Go Go.Sx Go.Proofs.T Go.Proofs.Q
set_option maxRecDepth 4000
set_option linter.unusedSimpArgs false
set_option linter.unusedVariables false
attribute [local irreducible] VR VC thenQ blockQ retL

/-! Two stations: the node 1 sends to the node 2. -/
def tA : Tb := ⟨1, 2, [⟨0, 0, 2, true, 2, -1⟩]⟩
def tB : Tb := ⟨2, 2, [⟨0, 0, 2, false, 1, -1⟩]⟩
def staOf (t : Tb) (limit seed : Int) : Sta := ⟨t, ⟨limit, []⟩, [], [], 0, 0, -1, 0, 0, 0, seed⟩
def pA : Sta := staOf tA 8 0
def pB : Sta := staOf tB 8 0
theorem newA : newS tA 8 0 = (pA, 0) := by kernel_rfl
theorem newB' : newS tB 8 0 = (pB, 0) := by kernel_rfl
theorem tab_ar {σ : St} {L : List Nat} {nm n T : Nat} {xs : List (List C)} {a b : Int} (t : Tb) (hL : nm ∈ L) (hb : σ (.b nm) = some (.k (.row T 6 xs))) (hx : xs = rowOf TC.enc t.cells) (hn : n = t.cells.length) (ha : a = t.node) (hb' : b = t.len) :
    AR Tryz.prog σ L (.agg [.d (.int .i64 a), .d (.int .i64 b), .row nm n]) (tbA t) := by
  subst hx hn ha hb'
  exact .of0 (.agg (.cons .d (.cons .d (.cons (cr_rowO hL hb rfl fun _ => rfl) .nil))))
set_option maxHeartbeats 1000000 in
theorem pair_spec : FnS Tryz.prog 32 [] [] (.tup [stA pA, stA pB, AB true]) [] := by
  have h1 := new_spec tA 8 0
  rw [newA] at h1
  have h2 := new_spec tB 8 0
  rw [newB'] at h2
  refine FnS.of_body (enters_of Tryz.func32 (by kernel_rfl) rfl) Tryz.func32 rfl Tryz.ntmps32 Tryz.results32 rfl rfl rfl rfl fun E hS => ?_
  refine vc_retL ?_
  repeat' (first
    | (show VR _ _ _ (_ :: _) _ _ _; first | refine x_opF rfl (by first | exact True.intro | omega) ?_ | (show VR _ _ _ (⟨_, .call ⟨.value _, _, _⟩, _, _, _, _⟩ :: _) _ _ _; first | refine vr_callZ (nmL []) [9] [] (FnS.toW (h1)) (gk rfl) rfl rfl (by (repeat' (first | exact .nil | refine .cons ?_ ?_ | exact .w (.c (.ptr rfl)) rfl | exact .w (.c (.row rfl rfl)) rfl | exact .w (.c (.mp rfl)) rfl | exact .w (.c (.fn rfl)) rfl | exact .w (.rp rfl) rfl | (refine .w (.fncC ?_) rfl; repeat' (first | exact .nil | refine .cons ?_ ?_ | exact .d | exact .ptr rfl | exact .row rfl rfl | (refine .row rfl ?_; ((try dsimp only); first | rfl | omega | (simp only [lns] <;> omega)); done) | exact .fn rfl | exact .mp rfl | exact .frzOf (by first | (simp; done) | decide) rfl rfl (fun _ => rfl))) | exact .r (.of0 (.c .d)) | refine .r ?_ | exact .of0 (.c .d) | exact .of0 .ep | exact .clo | exact (tab_ar tA (by decide) rfl rfl rfl rfl rfl) | exact .of0 (.c .nil) | exact .of0 (.c (cr_rowO (by simp) rfl (by first | rfl | omega) (fun _ => rfl))) | refine .of0 (.agg ?_) | exact .d | exact .nil | exact .of0 (.c (cr_row (by decide) rfl rfl (by repeat' (first | exact trivial | refine ⟨?_, ?_⟩ | rfl)))))) <;> fail) trivial rfl rfl rfl hS rfl (by first | rfl | (simp only [wfRes, wfL, wfArgs, wfs, mpO_namesB, mpO_namesI]; rfl)) rfl rfl rfl rfl (by (simp only [newW, List.map_cons, List.map_nil, Blk.ren, C.ren, rowOf_ren, mpO_renB, mpO_renI, gW, memN, nmL, Nat.reduceBEq, Bool.or_false, Bool.or_true, Bool.false_or, Bool.true_or, cond_true, cond_false, Nat.reduceMul, Nat.reduceAdd]) <;> rfl) (by (simp only [AV.ren, AV.ren0, List.map_cons, List.map_nil, C.ren, gW, memN, nmL, Nat.reduceBEq, Bool.or_false, Bool.or_true, Bool.false_or, Bool.true_or, cond_true, cond_false, Nat.reduceMul, Nat.reduceAdd]) <;> rfl) rfl ?_))
    | (show VR _ _ _ [] _ _ _; first | refine vr_nil ?_)
    | (show thenQ _ _ _ _; first | refine q_then_n ?_)
    | (show VC _ (.seq _ _) _ _; (fail_if_success (show VC _ (.seq (.seq (.region 2 _ _) _) _) _ _)); (fail_if_success (show VC _ (.seq (.region 2 _ _) _) _ _)); refine vc_seq ?_)
    | refine vc_region ?_
    | fail)
  repeat' (first
    | (show VR _ _ _ (_ :: _) _ _ _; first | refine x_opF rfl (by first | exact True.intro | omega) ?_ | (show VR _ _ _ (⟨_, .call ⟨.value _, _, _⟩, _, _, _, _⟩ :: _) _ _ _; first | refine vr_callZ (nmL []) [16] [] (FnS.toW (h2)) (gk rfl) rfl rfl (by (repeat' (first | exact .nil | refine .cons ?_ ?_ | exact .w (.c (.ptr rfl)) rfl | exact .w (.c (.row rfl rfl)) rfl | exact .w (.c (.mp rfl)) rfl | exact .w (.c (.fn rfl)) rfl | exact .w (.rp rfl) rfl | (refine .w (.fncC ?_) rfl; repeat' (first | exact .nil | refine .cons ?_ ?_ | exact .d | exact .ptr rfl | exact .row rfl rfl | (refine .row rfl ?_; ((try dsimp only); first | rfl | omega | (simp only [lns] <;> omega)); done) | exact .fn rfl | exact .mp rfl | exact .frzOf (by first | (simp; done) | decide) rfl rfl (fun _ => rfl))) | exact .r (.of0 (.c .d)) | refine .r ?_ | exact .of0 (.c .d) | exact .of0 .ep | exact .clo | exact (tab_ar tB (by decide) rfl rfl rfl rfl rfl) | exact .of0 (.c .nil) | exact .of0 (.c (cr_rowO (by simp) rfl (by first | rfl | omega) (fun _ => rfl))) | refine .of0 (.agg ?_) | exact .d | exact .nil | exact .of0 (.c (cr_row (by decide) rfl rfl (by repeat' (first | exact trivial | refine ⟨?_, ?_⟩ | rfl)))))) <;> fail) trivial rfl rfl rfl hS rfl (by first | rfl | (simp only [wfRes, wfL, wfArgs, wfs, mpO_namesB, mpO_namesI]; rfl)) rfl rfl rfl rfl (by (simp only [newW, List.map_cons, List.map_nil, Blk.ren, C.ren, rowOf_ren, mpO_renB, mpO_renI, gW, memN, nmL, Nat.reduceBEq, Bool.or_false, Bool.or_true, Bool.false_or, Bool.true_or, cond_true, cond_false, Nat.reduceMul, Nat.reduceAdd]) <;> rfl) (by (simp only [AV.ren, AV.ren0, List.map_cons, List.map_nil, C.ren, gW, memN, nmL, Nat.reduceBEq, Bool.or_false, Bool.or_true, Bool.false_or, Bool.true_or, cond_true, cond_false, Nat.reduceMul, Nat.reduceAdd]) <;> rfl) rfl ?_))
    | (show VR _ _ _ [] _ _ _; first | refine vr_nil ?_ | refine vr_nil_t (by kernel_rfl) ?_)
    | (show thenQ _ _ _ _; first | refine q_then_n ?_)
    | refine vc_seq ?_
    | refine vc_region ?_ | refine vc_region_t ?_
    | refine vc_ret ?_
    | fail)
  refine retL_of (le_gen0 (l := [(0, .c (.ptr 0 0)), (1, .c (.ptr 1 0)), (2, AB true)]) (b := [(0, .box pA.cs), (1, .box pB.cs)]) (fun n => n) ?_ ?_ rfl (by first | rfl | (simp only [wfL, wfs, mpO_namesB, mpO_namesI]; rfl))) (ret_agg_agg_dL isRet_r rfl rfl rfl rfl rfl rfl rfl rfl rfl rfl rfl rfl)
  all_goals repeat' (first | exact trivial | refine ⟨⟨_, rfl, ?_⟩, ?_⟩ | exact .c .d | exact .c (.ptr rfl) | exact .boxD rfl rfl | fail)

/-! The example. -/
def hi : ByteArray := ⟨#[104, 105]⟩
def p7 : Pk := ⟨7, 2, 0, 0, 9, hi⟩
def wantA : Ac := ⟨1, 0, 4, 1, 2, 0, 0, 0, 0, 0, 0, 0, 0, hi⟩
def fr7 : Fr := ⟨4, 1, 2, 0, 0, 0, 0, 0, 0, 0, 0, hi⟩
def awA (k : Nat) : Sta := if k = 0 then { pA with qu := ⟨8, [p7]⟩ } else if k < 4 then { pA with qu := ⟨8, [p7]⟩, trying := 7, tries := k } else { pA with seq := 1 }
def awB (k : Nat) : Sta := if k = 0 then pB else { pB with seen := [⟨1, 0⟩] }
def awR (k : Nat) : Rs := ⟨false, true, 4, 1, 2, 0, 0, 0, 0, 0, 0, 0, 0, hi, 0⟩
def awS : Rs := ⟨false, false, 0, 0, 0, 0, 0, 0, 0, 0, 0, 0, 0, ⟨#[]⟩, 0⟩
def awU (k : Nat) : Up := upOf fr7 (decide (k = 0))
theorem aw_put : putS pA p7 = (awA 0, [], 0) := by kernel_rfl
theorem aw_step (k : Nat) (hk : k < 4) : checkS (awA k) = 0 ∧ checkS (awB k) = 0 ∧ actM (awA k) (4 + 2 * k) (atM tA (4 + 2 * k)).1 = wantA ∧ doneM (awB k) (4 + 2 * k) (atM tB (4 + 2 * k)).1 (awR k) = (awB (k + 1), awU k)
    ∧ doneM (awA k) (4 + 2 * k) (atM tA (4 + 2 * k)).1 awS = (awA (k + 1), zUp) ∧ (actM (awB k) (4 + 2 * k) (atM tB (4 + 2 * k)).1).kind = 2 := by
  have : k = 0 ∨ k = 1 ∨ k = 2 ∨ k = 3 := by omega
  rcases this with rfl | rfl | rfl | rfl
  · exact ⟨by kernel_rfl, by kernel_rfl, by kernel_rfl, by kernel_rfl, by kernel_rfl, by kernel_rfl⟩
  · exact ⟨by kernel_rfl, by kernel_rfl, by kernel_rfl, by kernel_rfl, by kernel_rfl, by kernel_rfl⟩
  · exact ⟨by kernel_rfl, by kernel_rfl, by kernel_rfl, by kernel_rfl, by kernel_rfl, by kernel_rfl⟩
  · exact ⟨by kernel_rfl, by kernel_rfl, by kernel_rfl, by kernel_rfl, by kernel_rfl, by kernel_rfl⟩
end Go.Proofs


