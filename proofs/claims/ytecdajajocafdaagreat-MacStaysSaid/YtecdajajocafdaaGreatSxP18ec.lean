/-
  What functions of the given program hand back, by walks over its code, and plain laws on that. No condition.
-/
import Derived.Test.YtecdajajocafdaaGreatSxP18eb
-- SXS
-- SXM
-- SXN
-- SXB
-- SXQ
namespace Go.Proofs
open Go Go.Sx Go.Proofs.T Go.Proofs.Q
set_option maxRecDepth 4000
set_option linter.unusedSimpArgs false
set_option linter.unusedVariables false
attribute [local irreducible] VR VC thenQ blockQ retL

def flagW (l : List Int) (b : Bool) : List Int := l ++ [if b = true then 1 else 0]
theorem flagW_len (l : List Int) (b : Bool) : (flagW l b).length = l.length + 1 := by rw [flagW, List.length_append]; rfl
theorem flag_spec (l : List Int) (b : Bool) (hl : (l.length : Int) ≤ 3000) : FnW Tryz.prog 68 [.c (.ptr 100 0), AB b] [(100, .box [.row 101 l.length, .d (.int .i64 0)]), (101, .row 5 1 (rowOf enc8 l))] [100] (.tup []) [(100, .box [.row 102 (flagW l b).length, .d (.int .i64 0)]), (102, .row 5 1 (rowOf enc8 (flagW l b)))] := by
  have hr := room_spec l 1 (by omega)
  have hlen := flagW_len l b
  intro r
  simp only [pinsL, List.map_cons, List.map_nil, List.cons_append, List.nil_append, Nat.reduceAdd]
  refine FnS.of_bodyM (enters_of Tryz.func68 (by kernel_rfl) rfl) Tryz.func68 rfl Tryz.ntmps68 Tryz.results68 rfl (by first | rfl | (simp only [wfRes, wfL, wfArgs, wfs, mpO_namesB, mpO_namesI]; rfl)) rfl fun E => ?_
  refine vc_retL ?_
  cases b with
  | true =>
    rw [show flagW l true = l ++ [1] from rfl] at hlen ⊢
    repeat' (first
      | (show VR _ _ _ (_ :: _) _ _ _; first | refine x_opF rfl (by first | exact True.intro | omega) ?_ | (show VR _ _ _ (⟨_, .call ⟨.value _, _, _⟩, _, _, _, _⟩ :: _) _ _ _; first | refine vr_callW (nmL []) [] [100, 101] (hr) (gk rfl) rfl rfl (by (repeat' (first | exact .nil | refine .cons ?_ ?_ | exact .w (.c (.ptr rfl)) rfl | exact .w (.c (.row rfl rfl)) rfl | exact .w (.c (.mp rfl)) rfl | exact .w (.c (.fn rfl)) rfl | exact .w (.rp rfl) rfl | (refine .w (.fncC ?_) rfl; repeat' (first | exact .nil | refine .cons ?_ ?_ | exact .d | exact .ptr rfl | exact .row rfl rfl | (refine .row rfl ?_; ((try dsimp only); first | rfl | omega | (simp only [lns] <;> omega)); done) | exact .fn rfl | exact .mp rfl | exact .frzOf (by first | (simp; done) | decide) rfl rfl (fun _ => rfl))) | exact .r (.of0 (.c .d)) | refine .r ?_ | exact .of0 (.c .d) | exact .of0 .ep | exact .clo | exact .of0 (.c .nil) | exact .of0 (.c (cr_rowO (by simp) rfl (by first | rfl | omega) (fun _ => rfl))) | refine .of0 (.agg ?_) | exact .d | exact .nil | exact .of0 (.c (cr_row (by decide) rfl rfl (by repeat' (first | exact trivial | refine ⟨?_, ?_⟩ | rfl)))))) <;> fail) (by (repeat' (first | exact trivial | refine ⟨⟨_, rfl, ?_⟩, ?_⟩ | exact .boxD rfl rfl | exact .rowD rfl rowOf_isD | exact .mapO (fun _ => rfl) rfl | exact .pin rfl | refine .box ?_ | exact .nil | refine .cons ?_ ?_ | exact .d | exact .ptr rfl | exact .row rfl rfl | (refine .row rfl ?_; ((try dsimp only); first | rfl | omega | (simp only [lns] <;> omega)); done) | exact .fn rfl | exact .mp rfl | exact .frzOf (by first | (simp; done) | decide) rfl rfl (fun _ => rfl))) <;> fail) rfl rfl rfl (by first | rfl | (simp only [List.all_cons, List.all_nil, rowOf_flatB]; rfl)) rfl (by first | rfl | (simp only [wfRes, wfL, wfArgs, wfs, mpO_namesB, mpO_namesI]; rfl)) rfl rfl rfl (by (simp only [newW, List.map_cons, List.map_nil, Blk.ren, C.ren, rowOf_ren, mpO_renB, mpO_renI, gW, memN, nmL, Nat.reduceBEq, Bool.or_false, Bool.or_true, Bool.false_or, Bool.true_or, cond_true, cond_false, Nat.reduceMul, Nat.reduceAdd]) <;> rfl) (by (simp only [AV.ren, AV.ren0, List.map_cons, List.map_nil, C.ren, gW, memN, nmL, Nat.reduceBEq, Bool.or_false, Bool.or_true, Bool.false_or, Bool.true_or, cond_true, cond_false, Nat.reduceMul, Nat.reduceAdd]) <;> rfl) rfl ?_) | (show VR _ _ _ (⟨_, .call ⟨.builtin .append, _, _⟩, _, _, _, _⟩ :: _) _ _ _; first | refine vr_append0 (gk rfl) rfl rfl rfl (by first | rfl | exact rowOf_length.symm | (simp only [lns] <;> omega)) (by first | exact .row rfl (by first | rfl | exact rowOf_length.symm) | exact .rd | exact .nils) rfl rfl rfl (by (try dsimp only); omega) rfl rfl ?_) | (show VR _ _ _ (⟨_, .nilCheck _, _, _, _, _⟩ :: _) _ _ _; first | refine vr_nilCheck_ptr (gk rfl) rfl rfl ?_))
      | (show VR _ _ _ [] _ _ _; first | refine vr_nil ?_)
      | (show thenQ _ _ _ _; first | refine q_then_n ?_)
      | refine vc_seq ?_
      | refine vc_region ?_
      | (show VC _ (.cond _ _ _) _ _; first | refine vc_cond_t rfl ?_ | refine vc_cond_f rfl ?_)
      | refine vc_skip ?_
      | fail)
    refine retL_of (le_gen0 (l := []) (b := [(9100, .pin 100 (r 100)), (100, .box [.row 102 (l ++ [(1 : Int)]).length, .d (.int .i64 0)]), (102, .row 5 1 (rowOf enc8 (l ++ [(1 : Int)])))]) (fun n => if n = 102 then 14 else n) ?_ ?_ rfl (by first | rfl | (simp only [wfL, wfs, mpO_namesB, mpO_namesI]; rfl))) (retW isRet_n .nil rfl (by repeat' (first | exact trivial | refine ⟨rfl, ?_⟩)))
    all_goals repeat' (first | exact trivial | refine ⟨⟨_, rfl, ?_⟩, ?_⟩ | exact .pin rfl | (refine .rowD ?_ rowOf_isD; rw [rowOf_append]; rfl) | refine .box ?_ | exact .nil | refine .cons ?_ ?_ | exact .d | (refine .row rfl ?_; ((try dsimp only); first | rfl | omega | (simp only [lns] <;> omega)); done) | fail)
  | false =>
    rw [show flagW l false = l ++ [0] from rfl] at hlen ⊢
    repeat' (first
      | (show VR _ _ _ (_ :: _) _ _ _; first | refine x_opF rfl (by first | exact True.intro | omega) ?_ | (show VR _ _ _ (⟨_, .call ⟨.value _, _, _⟩, _, _, _, _⟩ :: _) _ _ _; first | refine vr_callW (nmL []) [] [100, 101] (hr) (gk rfl) rfl rfl (by (repeat' (first | exact .nil | refine .cons ?_ ?_ | exact .w (.c (.ptr rfl)) rfl | exact .w (.c (.row rfl rfl)) rfl | exact .w (.c (.mp rfl)) rfl | exact .w (.c (.fn rfl)) rfl | exact .w (.rp rfl) rfl | (refine .w (.fncC ?_) rfl; repeat' (first | exact .nil | refine .cons ?_ ?_ | exact .d | exact .ptr rfl | exact .row rfl rfl | (refine .row rfl ?_; ((try dsimp only); first | rfl | omega | (simp only [lns] <;> omega)); done) | exact .fn rfl | exact .mp rfl | exact .frzOf (by first | (simp; done) | decide) rfl rfl (fun _ => rfl))) | exact .r (.of0 (.c .d)) | refine .r ?_ | exact .of0 (.c .d) | exact .of0 .ep | exact .clo | exact .of0 (.c .nil) | exact .of0 (.c (cr_rowO (by simp) rfl (by first | rfl | omega) (fun _ => rfl))) | refine .of0 (.agg ?_) | exact .d | exact .nil | exact .of0 (.c (cr_row (by decide) rfl rfl (by repeat' (first | exact trivial | refine ⟨?_, ?_⟩ | rfl)))))) <;> fail) (by (repeat' (first | exact trivial | refine ⟨⟨_, rfl, ?_⟩, ?_⟩ | exact .boxD rfl rfl | exact .rowD rfl rowOf_isD | exact .mapO (fun _ => rfl) rfl | exact .pin rfl | refine .box ?_ | exact .nil | refine .cons ?_ ?_ | exact .d | exact .ptr rfl | exact .row rfl rfl | (refine .row rfl ?_; ((try dsimp only); first | rfl | omega | (simp only [lns] <;> omega)); done) | exact .fn rfl | exact .mp rfl | exact .frzOf (by first | (simp; done) | decide) rfl rfl (fun _ => rfl))) <;> fail) rfl rfl rfl (by first | rfl | (simp only [List.all_cons, List.all_nil, rowOf_flatB]; rfl)) rfl (by first | rfl | (simp only [wfRes, wfL, wfArgs, wfs, mpO_namesB, mpO_namesI]; rfl)) rfl rfl rfl (by (simp only [newW, List.map_cons, List.map_nil, Blk.ren, C.ren, rowOf_ren, mpO_renB, mpO_renI, gW, memN, nmL, Nat.reduceBEq, Bool.or_false, Bool.or_true, Bool.false_or, Bool.true_or, cond_true, cond_false, Nat.reduceMul, Nat.reduceAdd]) <;> rfl) (by (simp only [AV.ren, AV.ren0, List.map_cons, List.map_nil, C.ren, gW, memN, nmL, Nat.reduceBEq, Bool.or_false, Bool.or_true, Bool.false_or, Bool.true_or, cond_true, cond_false, Nat.reduceMul, Nat.reduceAdd]) <;> rfl) rfl ?_) | (show VR _ _ _ (⟨_, .call ⟨.builtin .append, _, _⟩, _, _, _, _⟩ :: _) _ _ _; first | refine vr_append0 (gk rfl) rfl rfl rfl (by first | rfl | exact rowOf_length.symm | (simp only [lns] <;> omega)) (by first | exact .row rfl (by first | rfl | exact rowOf_length.symm) | exact .rd | exact .nils) rfl rfl rfl (by (try dsimp only); omega) rfl rfl ?_) | (show VR _ _ _ (⟨_, .nilCheck _, _, _, _, _⟩ :: _) _ _ _; first | refine vr_nilCheck_ptr (gk rfl) rfl rfl ?_))
      | (show VR _ _ _ [] _ _ _; first | refine vr_nil ?_)
      | (show thenQ _ _ _ _; first | refine q_then_n ?_)
      | refine vc_seq ?_
      | refine vc_region ?_
      | (show VC _ (.cond _ _ _) _ _; first | refine vc_cond_f rfl ?_)
      | refine vc_skip ?_
      | fail)
    refine retL_of (le_gen0 (l := []) (b := [(9100, .pin 100 (r 100)), (100, .box [.row 102 (l ++ [(0 : Int)]).length, .d (.int .i64 0)]), (102, .row 5 1 (rowOf enc8 (l ++ [(0 : Int)])))]) (fun n => if n = 102 then 23 else n) ?_ ?_ rfl (by first | rfl | (simp only [wfL, wfs, mpO_namesB, mpO_namesI]; rfl))) (retW isRet_n .nil rfl (by repeat' (first | exact trivial | refine ⟨rfl, ?_⟩)))
    all_goals repeat' (first | exact trivial | refine ⟨⟨_, rfl, ?_⟩, ?_⟩ | exact .pin rfl | (refine .rowD ?_ rowOf_isD; rw [rowOf_append]; rfl) | refine .box ?_ | exact .nil | refine .cons ?_ ?_ | exact .d | (refine .row rfl ?_; ((try dsimp only); first | rfl | omega | (simp only [lns] <;> omega)); done) | fail)
theorem width_spec : FnS Tryz.prog 128 [AI 127] [] (AI 7) [] := by
  refine FnS.of_body (enters_of Tryz.func128 (by kernel_rfl) rfl) Tryz.func128 rfl Tryz.ntmps128 Tryz.results128 rfl rfl rfl rfl fun E hS => ?_
  repeat' (first
    | (show VR _ _ _ (_ :: _) _ _ _; first | refine x_opF rfl (by first | exact True.intro | omega) ?_)
    | (show VR _ _ _ [] _ _ _; first | refine vr_nil ?_)
    | (show thenQ _ _ _ _; first | refine q_then_n ?_)
    | refine vc_seq ?_
    | refine vc_region ?_
    | (show VC _ (.cond _ _ _) _ _; first | refine vc_cond_f rfl ?_)
    | refine vc_block ?_ | refine vc_skip ?_
    | fail)
  refine vc_loopI (ι := Nat) (fun k => stOf [(0, AI (127 / 2 ^ k)), (3, AI ((k : Int) + 1))] []) (fun k => k ≤ 6) (fun k => 6 - k) 0 (Nat.zero_le _) ?_ ?_
  · refine le_gen0 (fun n => n) ?_ ?_ rfl (by first | rfl | (simp only [wfL, wfs, mpO_namesB, mpO_namesI]; rfl))
    all_goals repeat' (first | exact trivial | refine ⟨⟨_, rfl, ?_⟩, ?_⟩ | exact .c .d | fail)
  · intro k hk
    have hk7 : k = 0 ∨ k = 1 ∨ k = 2 ∨ k = 3 ∨ k = 4 ∨ k = 5 ∨ k = 6 := by omega
    rcases hk7 with rfl | rfl | rfl | rfl | rfl | rfl | rfl
    · repeat' (first
        | (show VR _ _ _ (_ :: _) _ _ _; first | refine x_opF rfl (by first | exact True.intro | omega) ?_)
        | (show VR _ _ _ [] _ _ _; first | refine vr_nil ?_)
        | (show thenQ _ _ _ _; first | refine q_then_n ?_)
        | (show blockQ _ _ _ _; first | refine q_blk_n ?_)
        | refine vc_seq ?_
        | refine vc_region ?_
        | (show VC _ (.cond _ _ _) _ _; first | refine vc_cond_t rfl ?_)
        | refine vc_block ?_ | refine vc_skip ?_
        | fail)
      refine ⟨1, by omega, by omega, ?_⟩
      refine le_gen0 (fun n => n) ?_ ?_ rfl (by first | rfl | (simp only [wfL, wfs, mpO_namesB, mpO_namesI]; rfl))
      all_goals repeat' (first | exact trivial | refine ⟨⟨_, rfl, ?_⟩, ?_⟩ | exact .c .d | fail)
    · repeat' (first
        | (show VR _ _ _ (_ :: _) _ _ _; first | refine x_opF rfl (by first | exact True.intro | omega) ?_)
        | (show VR _ _ _ [] _ _ _; first | refine vr_nil ?_)
        | (show thenQ _ _ _ _; first | refine q_then_n ?_)
        | (show blockQ _ _ _ _; first | refine q_blk_n ?_)
        | refine vc_seq ?_
        | refine vc_region ?_
        | (show VC _ (.cond _ _ _) _ _; first | refine vc_cond_t rfl ?_)
        | refine vc_block ?_ | refine vc_skip ?_
        | fail)
      refine ⟨2, by omega, by omega, ?_⟩
      refine le_gen0 (fun n => n) ?_ ?_ rfl (by first | rfl | (simp only [wfL, wfs, mpO_namesB, mpO_namesI]; rfl))
      all_goals repeat' (first | exact trivial | refine ⟨⟨_, rfl, ?_⟩, ?_⟩ | exact .c .d | fail)
    · repeat' (first
        | (show VR _ _ _ (_ :: _) _ _ _; first | refine x_opF rfl (by first | exact True.intro | omega) ?_)
        | (show VR _ _ _ [] _ _ _; first | refine vr_nil ?_)
        | (show thenQ _ _ _ _; first | refine q_then_n ?_)
        | (show blockQ _ _ _ _; first | refine q_blk_n ?_)
        | refine vc_seq ?_
        | refine vc_region ?_
        | (show VC _ (.cond _ _ _) _ _; first | refine vc_cond_t rfl ?_)
        | refine vc_block ?_ | refine vc_skip ?_
        | fail)
      refine ⟨3, by omega, by omega, ?_⟩
      refine le_gen0 (fun n => n) ?_ ?_ rfl (by first | rfl | (simp only [wfL, wfs, mpO_namesB, mpO_namesI]; rfl))
      all_goals repeat' (first | exact trivial | refine ⟨⟨_, rfl, ?_⟩, ?_⟩ | exact .c .d | fail)
    · repeat' (first
        | (show VR _ _ _ (_ :: _) _ _ _; first | refine x_opF rfl (by first | exact True.intro | omega) ?_)
        | (show VR _ _ _ [] _ _ _; first | refine vr_nil ?_)
        | (show thenQ _ _ _ _; first | refine q_then_n ?_)
        | (show blockQ _ _ _ _; first | refine q_blk_n ?_)
        | refine vc_seq ?_
        | refine vc_region ?_
        | (show VC _ (.cond _ _ _) _ _; first | refine vc_cond_t rfl ?_)
        | refine vc_block ?_ | refine vc_skip ?_
        | fail)
      refine ⟨4, by omega, by omega, ?_⟩
      refine le_gen0 (fun n => n) ?_ ?_ rfl (by first | rfl | (simp only [wfL, wfs, mpO_namesB, mpO_namesI]; rfl))
      all_goals repeat' (first | exact trivial | refine ⟨⟨_, rfl, ?_⟩, ?_⟩ | exact .c .d | fail)
    · repeat' (first
        | (show VR _ _ _ (_ :: _) _ _ _; first | refine x_opF rfl (by first | exact True.intro | omega) ?_)
        | (show VR _ _ _ [] _ _ _; first | refine vr_nil ?_)
        | (show thenQ _ _ _ _; first | refine q_then_n ?_)
        | (show blockQ _ _ _ _; first | refine q_blk_n ?_)
        | refine vc_seq ?_
        | refine vc_region ?_
        | (show VC _ (.cond _ _ _) _ _; first | refine vc_cond_t rfl ?_)
        | refine vc_block ?_ | refine vc_skip ?_
        | fail)
      refine ⟨5, by omega, by omega, ?_⟩
      refine le_gen0 (fun n => n) ?_ ?_ rfl (by first | rfl | (simp only [wfL, wfs, mpO_namesB, mpO_namesI]; rfl))
      all_goals repeat' (first | exact trivial | refine ⟨⟨_, rfl, ?_⟩, ?_⟩ | exact .c .d | fail)
    · repeat' (first
        | (show VR _ _ _ (_ :: _) _ _ _; first | refine x_opF rfl (by first | exact True.intro | omega) ?_)
        | (show VR _ _ _ [] _ _ _; first | refine vr_nil ?_)
        | (show thenQ _ _ _ _; first | refine q_then_n ?_)
        | (show blockQ _ _ _ _; first | refine q_blk_n ?_)
        | refine vc_seq ?_
        | refine vc_region ?_
        | (show VC _ (.cond _ _ _) _ _; first | refine vc_cond_t rfl ?_)
        | refine vc_block ?_ | refine vc_skip ?_
        | fail)
      refine ⟨6, by omega, by omega, ?_⟩
      refine le_gen0 (fun n => n) ?_ ?_ rfl (by first | rfl | (simp only [wfL, wfs, mpO_namesB, mpO_namesI]; rfl))
      all_goals repeat' (first | exact trivial | refine ⟨⟨_, rfl, ?_⟩, ?_⟩ | exact .c .d | fail)
    · repeat' (first
        | (show VR _ _ _ (_ :: _) _ _ _; first | refine x_opF rfl (by first | exact True.intro | omega) ?_)
        | (show VR _ _ _ [] _ _ _; first | refine vr_nil ?_)
        | (show thenQ _ _ _ _; first | refine q_then_n ?_ | refine q_then_x ?_)
        | (show blockQ _ _ _ _; first | refine q_blk_x ?_)
        | refine vc_seq ?_
        | refine vc_region ?_
        | (show VC _ (.cond _ _ _) _ _; first | refine vc_cond_f rfl ?_)
        | refine vc_ret ?_ | refine vc_exit ?_
        | fail)
      exact ret_int isRet_r rfl rfl
theorem bAt_rng (s : ByteArray) (i : Nat) : 0 ≤ bAt s i ∧ bAt s i < 256 := by
  unfold bAt
  have := (s.data.toList.getD i 0).toNat_lt
  omega
/-- The bits of a text's bytes. -/
noncomputable def bytesW (l : List Int) (s : ByteArray) : Nat → List Int
  | 0 => l
  | k + 1 => putW (bytesW l s k) 8 (bAt s k)
theorem bytesW_len (l : List Int) (s : ByteArray) : ∀ k, (bytesW l s k).length = l.length + 8 * k
  | 0 => rfl
  | k + 1 => by
    rw [bytesW, putW_len, bytesW_len l s k]
    have : (8 : Int).toNat = 8 := rfl
    omega
noncomputable def textW (l : List Int) (s : ByteArray) : List Int := bytesW (putW l 7 s.size) s s.size
theorem textW_len (l : List Int) (s : ByteArray) : (textW l s).length = l.length + 7 + 8 * s.size := by
  rw [textW, bytesW_len, putW_len]; rfl
set_option maxHeartbeats 1000000 in
theorem text_spec (l : List Int) (s : ByteArray) (hs : s.size ≤ 100) (hl : l.length ≤ 1000) : FnW Tryz.prog 70 [.c (.ptr 100 0), AI 127, AD (.str s)] [(100, .box [.row 101 l.length, .d (.int .i64 0)]), (101, .row 5 1 (rowOf enc8 l))] [100] (.tup []) [(100, .box [.row 102 (textW l s).length, .d (.int .i64 0)]), (102, .row 5 1 (rowOf enc8 (textW l s)))] := by
  have hr := room_spec l (7 + 8 * (s.size : Int)) (by omega)
  have hpt := put_spec l 7 s.size (by omega) (by omega)
  have d1 : decide (127 < (s.size : Int)) = false := decide_eq_false (by omega)
  have hlen := putW_len l 7 s.size
  intro r
  simp only [pinsL, List.map_cons, List.map_nil, List.cons_append, List.nil_append, Nat.reduceAdd]
  refine FnS.of_bodyM (enters_of Tryz.func70 (by kernel_rfl) rfl) Tryz.func70 rfl Tryz.ntmps70 Tryz.results70 rfl (by first | rfl | (simp only [wfRes, wfL, wfArgs, wfs, mpO_namesB, mpO_namesI]; rfl)) rfl fun E => ?_
  refine vc_retL ?_
  repeat' (first
    | (show VR _ _ _ (_ :: _) _ _ _; first | refine x_opF rfl (by first | exact True.intro | omega) ?_ | (show VR _ _ _ (⟨_, .call ⟨.value _, _, _⟩, _, _, _, _⟩ :: _) _ _ _; first | refine vr_calldU (width_spec) (gk rfl) rfl rfl rfl (by first | rfl | (simp only [wfRes, wfL, wfArgs, wfs, mpO_namesB, mpO_namesI]; rfl)) rfl (by first | exact newB_nil | exact newB_O | ((simp only [newB, List.map_cons, List.map_nil, Blk.shift, rowOf_shift]) <;> rfl) | rfl) rfl ?_ | refine vr_callW (nmL []) [] [100, 101] (hr) (gk rfl) rfl rfl (by (repeat' (first | exact .nil | refine .cons ?_ ?_ | exact .w (.c (.ptr rfl)) rfl | exact .w (.c (.row rfl rfl)) rfl | exact .w (.c (.mp rfl)) rfl | exact .w (.c (.fn rfl)) rfl | exact .w (.rp rfl) rfl | (refine .w (.fncC ?_) rfl; repeat' (first | exact .nil | refine .cons ?_ ?_ | exact .d | exact .ptr rfl | exact .row rfl rfl | (refine .row rfl ?_; ((try dsimp only); first | rfl | omega | (simp only [lns] <;> omega)); done) | exact .fn rfl | exact .mp rfl | exact .frzOf (by first | (simp; done) | decide) rfl rfl (fun _ => rfl))) | exact .r (.of0 (.c .d)) | refine .r ?_ | exact .of0 (.c .d) | exact .of0 .ep | exact .clo | exact .of0 (.c .nil) | exact .of0 (.c (cr_rowO (by simp) rfl (by first | rfl | omega) (fun _ => rfl))) | refine .of0 (.agg ?_) | exact .d | exact .nil | exact .of0 (.c (cr_row (by decide) rfl rfl (by repeat' (first | exact trivial | refine ⟨?_, ?_⟩ | rfl)))))) <;> fail) (by (repeat' (first | exact trivial | refine ⟨⟨_, rfl, ?_⟩, ?_⟩ | exact .boxD rfl rfl | exact .rowD rfl rowOf_isD | exact .mapO (fun _ => rfl) rfl | exact .pin rfl | refine .box ?_ | exact .nil | refine .cons ?_ ?_ | exact .d | exact .ptr rfl | exact .row rfl rfl | (refine .row rfl ?_; ((try dsimp only); first | rfl | omega | (simp only [lns] <;> omega)); done) | exact .fn rfl | exact .mp rfl | exact .frzOf (by first | (simp; done) | decide) rfl rfl (fun _ => rfl))) <;> fail) rfl rfl rfl (by first | rfl | (simp only [List.all_cons, List.all_nil, rowOf_flatB]; rfl)) rfl (by first | rfl | (simp only [wfRes, wfL, wfArgs, wfs, mpO_namesB, mpO_namesI]; rfl)) rfl rfl rfl (by (simp only [newW, List.map_cons, List.map_nil, Blk.ren, C.ren, rowOf_ren, mpO_renB, mpO_renI, gW, memN, nmL, Nat.reduceBEq, Bool.or_false, Bool.or_true, Bool.false_or, Bool.true_or, cond_true, cond_false, Nat.reduceMul, Nat.reduceAdd]) <;> rfl) (by (simp only [AV.ren, AV.ren0, List.map_cons, List.map_nil, C.ren, gW, memN, nmL, Nat.reduceBEq, Bool.or_false, Bool.or_true, Bool.false_or, Bool.true_or, cond_true, cond_false, Nat.reduceMul, Nat.reduceAdd]) <;> rfl) rfl ?_ | refine vr_callW (nmL []) [] [100] (hpt) (gk rfl) rfl rfl (by (repeat' (first | exact .nil | refine .cons ?_ ?_ | exact .w (.c (.ptr rfl)) rfl | exact .w (.c (.row rfl rfl)) rfl | exact .w (.c (.mp rfl)) rfl | exact .w (.c (.fn rfl)) rfl | exact .w (.rp rfl) rfl | (refine .w (.fncC ?_) rfl; repeat' (first | exact .nil | refine .cons ?_ ?_ | exact .d | exact .ptr rfl | exact .row rfl rfl | (refine .row rfl ?_; ((try dsimp only); first | rfl | omega | (simp only [lns] <;> omega)); done) | exact .fn rfl | exact .mp rfl | exact .frzOf (by first | (simp; done) | decide) rfl rfl (fun _ => rfl))) | exact .r (.of0 (.c .d)) | refine .r ?_ | exact .of0 (.c .d) | exact .of0 .ep | exact .clo | exact .of0 (.c .nil) | exact .of0 (.c (cr_rowO (by simp) rfl (by first | rfl | omega) (fun _ => rfl))) | refine .of0 (.agg ?_) | exact .d | exact .nil | exact .of0 (.c (cr_row (by decide) rfl rfl (by repeat' (first | exact trivial | refine ⟨?_, ?_⟩ | rfl)))))) <;> fail) (by (repeat' (first | exact trivial | refine ⟨⟨_, rfl, ?_⟩, ?_⟩ | exact .boxD rfl rfl | exact .rowD rfl rowOf_isD | exact .mapO (fun _ => rfl) rfl | exact .pin rfl | refine .box ?_ | exact .nil | refine .cons ?_ ?_ | exact .d | exact .ptr rfl | exact .row rfl rfl | (refine .row rfl ?_; ((try dsimp only); first | rfl | omega | (simp only [lns] <;> omega)); done) | exact .fn rfl | exact .mp rfl | exact .frzOf (by first | (simp; done) | decide) rfl rfl (fun _ => rfl))) <;> fail) rfl rfl rfl (by first | rfl | (simp only [List.all_cons, List.all_nil, rowOf_flatB]; rfl)) rfl (by first | rfl | (simp only [wfRes, wfL, wfArgs, wfs, mpO_namesB, mpO_namesI]; rfl)) rfl rfl rfl (by (simp only [newW, List.map_cons, List.map_nil, Blk.ren, C.ren, rowOf_ren, mpO_renB, mpO_renI, gW, memN, nmL, Nat.reduceBEq, Bool.or_false, Bool.or_true, Bool.false_or, Bool.true_or, cond_true, cond_false, Nat.reduceMul, Nat.reduceAdd]) <;> rfl) (by (simp only [AV.ren, AV.ren0, List.map_cons, List.map_nil, C.ren, gW, memN, nmL, Nat.reduceBEq, Bool.or_false, Bool.or_true, Bool.false_or, Bool.true_or, cond_true, cond_false, Nat.reduceMul, Nat.reduceAdd]) <;> rfl) rfl ?_) | (show VR _ _ _ (⟨_, .nilCheck _, _, _, _, _⟩ :: _) _ _ _; first | refine vr_nilCheck_ptr (gk rfl) rfl rfl ?_))
    | (show VR _ _ _ [] _ _ _; first | refine vr_nil ?_)
    | (show thenQ _ _ _ _; first | refine q_then_n ?_)
    | (show VC _ (.seq _ _) _ _; (fail_if_success (show VC _ (.seq (.seq (.region 7 _ _) _) _) _ _)); (fail_if_success (show VC _ (.seq (.region 7 _ _) _) _ _)); refine vc_seq ?_)
    | refine vc_region ?_
    | (show VC _ (.cond _ _ _) _ _; first | refine vc_cond_f rfl ?_ | refine x_know rfl (by assumption) ?_)
    | refine vc_skip ?_
    | fail)
  all_goals first
    | (exfalso; omega)
    | skip
  repeat' (first
    | (show VR _ _ _ (_ :: _) _ _ _; first | refine x_opF rfl (by first | exact True.intro | omega) ?_)
    | (show VR _ _ _ [] _ _ _; first | refine vr_nil ?_)
    | (show thenQ _ _ _ _; first | refine q_then_n ?_)
    | refine vc_seq ?_
    | refine vc_region ?_
    | refine vc_block ?_
    | fail)
  refine vc_loopI (ι := Nat) (fun k => stOf [(0, .c (.ptr 100 0)), (2, AD (.str s)), (6, AI k)] [(9100, .pin 100 (r 100)), (100, .box [.row 101 (bytesW (putW l 7 s.size) s k).length, .d (.int .i64 0)]), (101, .row 5 1 (rowOf enc8 (bytesW (putW l 7 s.size) s k)))]) (fun k => k ≤ s.size) (fun k => s.size - k) 0 (Nat.zero_le _) ?_ ?_
  · refine le_gen0 (fun n => if n = 101 then 42102 else n) ?_ ?_ rfl (by first | rfl | (simp only [wfL, wfs, mpO_namesB, mpO_namesI]; rfl))
    all_goals repeat' (first | exact trivial | refine ⟨⟨_, rfl, ?_⟩, ?_⟩ | exact .c .d | exact .c (.ptr rfl) | exact .pin rfl | exact .rowD rfl rowOf_isD | refine .box ?_ | exact .nil | refine .cons ?_ ?_ | exact .d | exact .row rfl rfl | fail)
  · intro k hk
    have hbl := bytesW_len (putW l 7 s.size) s k
    rcases Nat.lt_or_ge k s.size with hlt | hge
    · have dlt : decide ((k : Int) < (s.size : Int)) = true := decide_eq_true (by omega)
      have hb := bAt_rng s k
      have hk8 := put_spec (bytesW (putW l 7 s.size) s k) 8 (bAt s k) (by omega) (by have : (7 : Int).toNat = 7 := rfl; omega)
      repeat' (first
        | (show VR _ _ _ (_ :: _) _ _ _; first | refine x_opF rfl (by first | exact True.intro | omega) ?_ | (show VR _ _ _ (⟨_, .call ⟨.value _, _, _⟩, _, _, _, _⟩ :: _) _ _ _; first | refine vr_callW (nmL []) [] [100] (hk8) (gk rfl) rfl rfl (by (repeat' (first | exact .nil | refine .cons ?_ ?_ | exact .w (.c (.ptr rfl)) rfl | exact .w (.c (.row rfl rfl)) rfl | exact .w (.c (.mp rfl)) rfl | exact .w (.c (.fn rfl)) rfl | exact .w (.rp rfl) rfl | (refine .w (.fncC ?_) rfl; repeat' (first | exact .nil | refine .cons ?_ ?_ | exact .d | exact .ptr rfl | exact .row rfl rfl | (refine .row rfl ?_; ((try dsimp only); first | rfl | omega | (simp only [lns] <;> omega)); done) | exact .fn rfl | exact .mp rfl | exact .frzOf (by first | (simp; done) | decide) rfl rfl (fun _ => rfl))) | exact .r (.of0 (.c .d)) | refine .r ?_ | exact .of0 (.c .d) | exact .of0 .ep | exact .clo | exact .of0 (.c .nil) | exact .of0 (.c (cr_rowO (by simp) rfl (by first | rfl | omega) (fun _ => rfl))) | refine .of0 (.agg ?_) | exact .d | exact .nil | exact .of0 (.c (cr_row (by decide) rfl rfl (by repeat' (first | exact trivial | refine ⟨?_, ?_⟩ | rfl)))))) <;> fail) (by (repeat' (first | exact trivial | refine ⟨⟨_, rfl, ?_⟩, ?_⟩ | exact .boxD rfl rfl | exact .rowD rfl rowOf_isD | exact .mapO (fun _ => rfl) rfl | exact .pin rfl | refine .box ?_ | exact .nil | refine .cons ?_ ?_ | exact .d | exact .ptr rfl | exact .row rfl rfl | (refine .row rfl ?_; ((try dsimp only); first | rfl | omega | (simp only [lns] <;> omega)); done) | exact .fn rfl | exact .mp rfl | exact .frzOf (by first | (simp; done) | decide) rfl rfl (fun _ => rfl))) <;> fail) rfl rfl rfl (by first | rfl | (simp only [List.all_cons, List.all_nil, rowOf_flatB]; rfl)) rfl (by first | rfl | (simp only [wfRes, wfL, wfArgs, wfs, mpO_namesB, mpO_namesI]; rfl)) rfl rfl rfl (by (simp only [newW, List.map_cons, List.map_nil, Blk.ren, C.ren, rowOf_ren, mpO_renB, mpO_renI, gW, memN, nmL, Nat.reduceBEq, Bool.or_false, Bool.or_true, Bool.false_or, Bool.true_or, cond_true, cond_false, Nat.reduceMul, Nat.reduceAdd]) <;> rfl) (by (simp only [AV.ren, AV.ren0, List.map_cons, List.map_nil, C.ren, gW, memN, nmL, Nat.reduceBEq, Bool.or_false, Bool.or_true, Bool.false_or, Bool.true_or, cond_true, cond_false, Nat.reduceMul, Nat.reduceAdd]) <;> rfl) rfl ?_) | (show VR _ _ _ (⟨_, .index _ _ _, _, _, _, _⟩ :: _) _ _ _; first | refine vr_indexStr (gk rfl) rfl rfl rfl (by omega) (by omega) (by first | exact (Int.toNat_natCast _).symm | rfl) rfl ?_) | (show VR _ _ _ (⟨_, .convert _ _ _, _, _, _, _⟩ :: _) _ _ _; first | refine vr_convert_id (gk rfl) rfl ⟨_, rfl⟩ rfl (by first | exact wrap_i64 (by omega) | exact wrap_u64 (by omega) | exact wrap_u16 (by omega) | exact wrap_u8 (by omega) | exact wrap_u32 (by omega)) rfl ?_))
        | (show VR _ _ _ [] _ _ _; first | refine vr_nil ?_)
        | (show thenQ _ _ _ _; first | refine q_then_n ?_)
        | (show blockQ _ _ _ _; first | refine q_blk_n ?_)
        | refine vc_seq ?_
        | refine vc_region ?_
        | (show VC _ (.cond _ _ _) _ _; first | refine vc_cond_t rfl ?_ | refine x_know rfl (by assumption) ?_)
        | refine vc_block ?_ | refine vc_skip ?_
        | fail)
      refine ⟨k + 1, by omega, by omega, ?_⟩
      rw [show bytesW (putW l 7 s.size) s (k + 1) = putW (bytesW (putW l 7 s.size) s k) 8 (bAt s k) from rfl]
      refine le_gen0 (fun n => if n = 101 then 54102 else n) ?_ ?_ rfl (by first | rfl | (simp only [wfL, wfs, mpO_namesB, mpO_namesI]; rfl))
      all_goals repeat' (first | exact trivial | refine ⟨⟨_, rfl, ?_⟩, ?_⟩ | exact .c .d | exact .c (.ptr rfl) | exact .pin rfl | exact .rowD rfl rowOf_isD | refine .box ?_ | exact .nil | refine .cons ?_ ?_ | exact .d | exact .row rfl rfl | fail)
    · have dlt : decide ((k : Int) < (s.size : Int)) = false := decide_eq_false (by omega)
      have hk' : k = s.size := by omega
      subst hk'
      repeat' (first
        | (show VR _ _ _ (_ :: _) _ _ _; first | refine x_opF rfl (by first | exact True.intro | omega) ?_)
        | (show VR _ _ _ [] _ _ _; first | refine vr_nil ?_)
        | (show thenQ _ _ _ _; first | refine q_then_n ?_ | refine q_then_x ?_)
        | (show blockQ _ _ _ _; first | refine q_blk_x ?_)
        | refine vc_seq ?_
        | refine vc_region ?_
        | (show VC _ (.cond _ _ _) _ _; first | refine vc_cond_f rfl ?_ | refine x_know rfl (by assumption) ?_)
        | refine vc_exit ?_
        | fail)
      refine retL_of (le_gen0 (l := []) (b := [(9100, .pin 100 (r 100)), (100, .box [.row 102 (textW l s).length, .d (.int .i64 0)]), (102, .row 5 1 (rowOf enc8 (textW l s)))]) (fun n => if n = 102 then 101 else n) ?_ ?_ rfl (by first | rfl | (simp only [wfL, wfs, mpO_namesB, mpO_namesI]; rfl))) (retW isRet_n .nil rfl (by repeat' (first | exact trivial | refine ⟨rfl, ?_⟩)))
      all_goals repeat' (first | exact trivial | refine ⟨⟨_, rfl, ?_⟩, ?_⟩ | exact .pin rfl | exact .rowD rfl rowOf_isD | refine .box ?_ | exact .nil | refine .cons ?_ ?_ | exact .d | exact .row rfl rfl | fail)
end Go.Proofs


