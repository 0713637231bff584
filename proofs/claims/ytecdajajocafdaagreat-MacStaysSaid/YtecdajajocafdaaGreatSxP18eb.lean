/-
  What functions of the given program hand back, by walks over its code, and plain laws on that. No condition.
-/
import Derived.Test.YtecdajajocafdaaGreatSxP18ea
import Derived.Test.YtecdajajocafdaaGreatSxLibC
-- SXS
-- SXM
-- SXN
namespace Go.Proofs
open Go Go.Sx Go.Proofs.T Go.Proofs.Q
set_option maxRecDepth 4000
set_option linter.unusedSimpArgs false
set_option linter.unusedVariables false
attribute [local irreducible] VR VC thenQ blockQ retL

theorem pow_pos63 {w : Int} (h : 1 ≤ w ∧ w ≤ 62) : 1 * (2 : Int) ^ w.toNat ≤ 9223372036854775807 ∧ -9223372036854775808 ≤ 1 * (2 : Int) ^ w.toNat := by
  have h1 : (2 : Int) ^ w.toNat ≤ 2 ^ 62 := by
    have := Nat.pow_le_pow_right (n := 2) (by decide) (show w.toNat ≤ 62 by omega)
    have e : ((2 ^ w.toNat : Nat) : Int) = (2 : Int) ^ w.toNat := by simp
    rw [← e]; exact_mod_cast this
  have h2 : (1 : Int) ≤ 2 ^ w.toNat := pow_pos' _
  omega
set_option maxHeartbeats 1000000 in
theorem unsigned_spec (l : List Int) (w n : Int) (hw : 1 ≤ w ∧ w ≤ 62) (hn : 0 ≤ n ∧ n < 2 ^ w.toNat) (hl : (l.length : Int) + w ≤ 4000) : FnW Tryz.prog 67 [.c (.ptr 100 0), AI w, AI n] [(100, .box [.row 101 l.length, .d (.int .i64 0)]), (101, .row 5 1 (rowOf enc8 l))] [100] (.tup []) [(100, .box [.row 102 (putW l w n).length, .d (.int .i64 0)]), (102, .row 5 1 (rowOf enc8 (putW l w n)))] := by
  have hp := pow_pos63 hw
  have d1 : decide (1 * (2 : Int) ^ w.toNat ≤ n) = false := decide_eq_false (by omega)
  have hw63 : w < 63 := by omega
  have hr := room_spec l w (by omega)
  have hpt := put_spec l w n (by omega) (by omega)
  intro r
  simp only [pinsL, List.map_cons, List.map_nil, List.cons_append, List.nil_append, Nat.reduceAdd]
  refine FnS.of_bodyM (enters_of Tryz.func67 (by kernel_rfl) rfl) Tryz.func67 rfl Tryz.ntmps67 Tryz.results67 rfl (by first | rfl | (simp only [wfRes, wfL, wfArgs, wfs, mpO_namesB, mpO_namesI]; rfl)) rfl fun E => ?_
  refine vc_retL ?_
  repeat' (first
    | (show VR _ _ _ (_ :: _) _ _ _; first | refine x_opF rfl (by first | exact True.intro | omega) ?_ | (show VR _ _ _ (⟨_, .call ⟨.value _, _, _⟩, _, _, _, _⟩ :: _) _ _ _; first | refine vr_callW (nmL []) [] [100, 101] (hr) (gk rfl) rfl rfl (by (repeat' (first | exact .nil | refine .cons ?_ ?_ | exact .w (.c (.ptr rfl)) rfl | exact .w (.c (.row rfl rfl)) rfl | exact .w (.c (.mp rfl)) rfl | exact .w (.c (.fn rfl)) rfl | exact .w (.rp rfl) rfl | (refine .w (.fncC ?_) rfl; repeat' (first | exact .nil | refine .cons ?_ ?_ | exact .d | exact .ptr rfl | exact .row rfl rfl | (refine .row rfl ?_; ((try dsimp only); first | rfl | omega | (simp only [lns] <;> omega)); done) | exact .fn rfl | exact .mp rfl | exact .frzOf (by first | (simp; done) | decide) rfl rfl (fun _ => rfl))) | exact .r (.of0 (.c .d)) | refine .r ?_ | exact .of0 (.c .d) | exact .of0 .ep | exact .clo | exact .of0 (.c .nil) | exact .of0 (.c (cr_rowO (by simp) rfl (by first | rfl | omega) (fun _ => rfl))) | refine .of0 (.agg ?_) | exact .d | exact .nil | exact .of0 (.c (cr_row (by decide) rfl rfl (by repeat' (first | exact trivial | refine ⟨?_, ?_⟩ | rfl)))))) <;> fail) (by (repeat' (first | exact trivial | refine ⟨⟨_, rfl, ?_⟩, ?_⟩ | exact .boxD rfl rfl | exact .rowD rfl rowOf_isD | exact .mapO (fun _ => rfl) rfl | exact .pin rfl | refine .box ?_ | exact .nil | refine .cons ?_ ?_ | exact .d | exact .ptr rfl | exact .row rfl rfl | (refine .row rfl ?_; ((try dsimp only); first | rfl | omega | (simp only [lns] <;> omega)); done) | exact .fn rfl | exact .mp rfl | exact .frzOf (by first | (simp; done) | decide) rfl rfl (fun _ => rfl))) <;> fail) rfl rfl rfl (by first | rfl | (simp only [List.all_cons, List.all_nil, rowOf_flatB]; rfl)) rfl (by first | rfl | (simp only [wfRes, wfL, wfArgs, wfs, mpO_namesB, mpO_namesI]; rfl)) rfl rfl rfl (by (simp only [newW, List.map_cons, List.map_nil, Blk.ren, C.ren, rowOf_ren, mpO_renB, mpO_renI, gW, memN, nmL, Nat.reduceBEq, Bool.or_false, Bool.or_true, Bool.false_or, Bool.true_or, cond_true, cond_false, Nat.reduceMul, Nat.reduceAdd]) <;> rfl) (by (simp only [AV.ren, AV.ren0, List.map_cons, List.map_nil, C.ren, gW, memN, nmL, Nat.reduceBEq, Bool.or_false, Bool.or_true, Bool.false_or, Bool.true_or, cond_true, cond_false, Nat.reduceMul, Nat.reduceAdd]) <;> rfl) rfl ?_ | refine vr_callW (nmL []) [] [100] (hpt) (gk rfl) rfl rfl (by (repeat' (first | exact .nil | refine .cons ?_ ?_ | exact .w (.c (.ptr rfl)) rfl | exact .w (.c (.row rfl rfl)) rfl | exact .w (.c (.mp rfl)) rfl | exact .w (.c (.fn rfl)) rfl | exact .w (.rp rfl) rfl | (refine .w (.fncC ?_) rfl; repeat' (first | exact .nil | refine .cons ?_ ?_ | exact .d | exact .ptr rfl | exact .row rfl rfl | (refine .row rfl ?_; ((try dsimp only); first | rfl | omega | (simp only [lns] <;> omega)); done) | exact .fn rfl | exact .mp rfl | exact .frzOf (by first | (simp; done) | decide) rfl rfl (fun _ => rfl))) | exact .r (.of0 (.c .d)) | refine .r ?_ | exact .of0 (.c .d) | exact .of0 .ep | exact .clo | exact .of0 (.c .nil) | exact .of0 (.c (cr_rowO (by simp) rfl (by first | rfl | omega) (fun _ => rfl))) | refine .of0 (.agg ?_) | exact .d | exact .nil | exact .of0 (.c (cr_row (by decide) rfl rfl (by repeat' (first | exact trivial | refine ⟨?_, ?_⟩ | rfl)))))) <;> fail) (by (repeat' (first | exact trivial | refine ⟨⟨_, rfl, ?_⟩, ?_⟩ | exact .boxD rfl rfl | exact .rowD rfl rowOf_isD | exact .mapO (fun _ => rfl) rfl | exact .pin rfl | refine .box ?_ | exact .nil | refine .cons ?_ ?_ | exact .d | exact .ptr rfl | exact .row rfl rfl | (refine .row rfl ?_; ((try dsimp only); first | rfl | omega | (simp only [lns] <;> omega)); done) | exact .fn rfl | exact .mp rfl | exact .frzOf (by first | (simp; done) | decide) rfl rfl (fun _ => rfl))) <;> fail) rfl rfl rfl (by first | rfl | (simp only [List.all_cons, List.all_nil, rowOf_flatB]; rfl)) rfl (by first | rfl | (simp only [wfRes, wfL, wfArgs, wfs, mpO_namesB, mpO_namesI]; rfl)) rfl rfl rfl (by (simp only [newW, List.map_cons, List.map_nil, Blk.ren, C.ren, rowOf_ren, mpO_renB, mpO_renI, gW, memN, nmL, Nat.reduceBEq, Bool.or_false, Bool.or_true, Bool.false_or, Bool.true_or, cond_true, cond_false, Nat.reduceMul, Nat.reduceAdd]) <;> rfl) (by (simp only [AV.ren, AV.ren0, List.map_cons, List.map_nil, C.ren, gW, memN, nmL, Nat.reduceBEq, Bool.or_false, Bool.or_true, Bool.false_or, Bool.true_or, cond_true, cond_false, Nat.reduceMul, Nat.reduceAdd]) <;> rfl) rfl ?_) | (show VR _ _ _ (⟨_, .nilCheck _, _, _, _, _⟩ :: _) _ _ _; first | refine vr_nilCheck_ptr (gk rfl) rfl rfl ?_) | (show VR _ _ _ (⟨_, .binOp _ _ _ _ _, _, _, _, _⟩ :: _) _ _ _; first | refine vr_shlI (gk rfl) rfl rfl (by omega) rfl (by omega) ?_) | (refine x_gsplit rfl ?_ ?_ <;> intro h <;> have hq := h <;> (try simp only [hqs] at hq)))
    | (show VR _ _ _ [] _ _ _; first | refine vr_nil ?_)
    | (show thenQ _ _ _ _; first | refine q_then_n ?_ | refine q_then_r ?_)
    | refine vc_seq ?_
    | refine vc_region ?_
    | (show VC _ (.cond _ _ _) _ _; first | refine vc_cond_t rfl ?_ | refine vc_cond_f rfl ?_ | refine x_know rfl (by assumption) ?_ | (refine x_cond rfl ?_ ?_ <;> intro h <;> have hq := h <;> (try simp only [hqs] at hq)))
    | refine vc_ret ?_ | refine vc_skip ?_
    | fail)
  all_goals first
    | (exfalso; omega)
    | skip
  refine retL_of (le_gen0 (l := []) (b := [(9100, .pin 100 (r 100)), (100, .box [.row 102 (putW l w n).length, .d (.int .i64 0)]), (102, .row 5 1 (rowOf enc8 (putW l w n)))]) (fun n => if n = 102 then 41102 else n) ?_ ?_ rfl (by first | rfl | (simp only [wfL, wfs, mpO_namesB, mpO_namesI]; rfl))) (retW isRet_n .nil rfl (by repeat' (first | exact trivial | refine ⟨rfl, ?_⟩)))
  all_goals repeat' (first | exact trivial | refine ⟨⟨_, rfl, ?_⟩, ?_⟩ | exact .pin rfl | exact .rowD rfl rowOf_isD | refine .box ?_ | exact .nil | refine .cons ?_ ?_ | exact .d | exact .row rfl rfl | fail)
end Go.Proofs


