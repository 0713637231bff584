/-
  What functions of the given program hand back, by walks over its code, and plain laws on that. No condition.
-/
import Derived.Test.YtecdajajocafdaaGreatSxP18ed
-- SXS
-- SXM
-- SXN
namespace Go.Proofs
open Go Go.Sx Go.Proofs.T Go.Proofs.Q
set_option maxRecDepth 4000
set_option linter.unusedSimpArgs false
set_option linter.unusedVariables false
attribute [local irreducible] VR VC thenQ blockQ retL

/-! A right frame of data or a message is encoded. -/
noncomputable def headW (f : Fr) : List Int := flagW (putW (putW [] 3 f.kind) 5 f.source) (decide (0 ≤ f.target))
noncomputable def tgtW (f : Fr) : List Int := if 0 ≤ f.target then putW (headW f) 5 f.target else headW f
noncomputable def seqW (f : Fr) : List Int := putW (putW (tgtW f) 8 f.list) 8 f.seq
noncomputable def flowW (f : Fr) : List Int := if f.kind = 1 then putW (putW (seqW f) 8 f.flow) 16 f.number else seqW f
noncomputable def encW (f : Fr) : List Int := textW (flowW f) f.data
noncomputable def encM (f : Fr) : ByteArray := protM (mkS (outK (encW f) (encW f).length))
theorem i3 : (3 : Int).toNat = 3 := rfl
theorem i5 : (5 : Int).toNat = 5 := rfl
theorem i8 : (8 : Int).toNat = 8 := rfl
theorem i16 : (16 : Int).toNat = 16 := rfl
theorem headW_len (f : Fr) : (headW f).length = 9 := by rw [headW, flagW_len, putW_len, putW_len, i3, i5]; rfl
theorem tgtW_len (f : Fr) : (tgtW f).length ≤ 14 := by
  unfold tgtW
  split
  · rw [putW_len, headW_len, i5]; decide
  · rw [headW_len]; decide
theorem seqW_len (f : Fr) : (seqW f).length ≤ 30 := by
  have := tgtW_len f
  rw [seqW, putW_len, putW_len, i8]; omega
theorem flowW_len (f : Fr) : (flowW f).length ≤ 54 := by
  have := seqW_len f
  unfold flowW
  split
  · rw [putW_len, putW_len, i8, i16]; omega
  · omega
theorem encM_size (f : Fr) (h : f.data.size ≤ 100) : (encM f).size ≤ 127 := by
  have := flowW_len f
  rw [encM, protM_size, mkS_size, outK_len, encW, textW_len]
  omega
set_option maxHeartbeats 2000000 in
theorem encode_spec (f : Fr) (hok : okP f) (hk : f.kind = 1 ∨ f.kind = 4) (hd : f.data.size ≤ 100) : FnS Tryz.prog 23 [frA f] [] (.tup [AD (.str (encM f)), AI 0]) [] := by
  have hc := r_checkF_spec f
  rw [checkF_zero hok] at hc
  have hin := hok.1
  have h3 : (2 : Int) ^ (3 : Int).toNat = 8 := by decide
  have h5 : (2 : Int) ^ (5 : Int).toNat = 32 := by decide
  have h8 : (2 : Int) ^ (8 : Int).toNat = 256 := by decide
  have h16 : (2 : Int) ^ (16 : Int).toNat = 65536 := by decide
  have hl1 := putW_len [] 3 f.kind
  have hl2 := putW_len (putW [] 3 f.kind) 5 f.source
  have hl3 := headW_len f
  have hl4 := tgtW_len f
  have hl5 := seqW_len f
  have hl6 := flowW_len f
  have hl7 := textW_len (flowW f) f.data
  rw [i3] at hl1
  rw [i5] at hl2
  have u1 := unsigned_spec [] 3 f.kind (by decide) (by rw [h3]; omega) (by decide)
  have u2 := unsigned_spec (putW [] 3 f.kind) 5 f.source (by decide) (by rw [h5]; omega) (by rw [hl1]; decide)
  have u3 := flag_spec (putW (putW [] 3 f.kind) 5 f.source) (decide (0 ≤ f.target)) (by rw [hl2, hl1]; decide)
  rw [show flagW (putW (putW [] 3 f.kind) 5 f.source) (decide (0 ≤ f.target)) = headW f from rfl] at u3
  have u5 := unsigned_spec (tgtW f) 8 f.list (by decide) (by rw [h8]; omega) (by omega)
  have u6 := unsigned_spec (putW (tgtW f) 8 f.list) 8 f.seq (by decide) (by rw [h8]; omega) (by rw [putW_len, i8]; omega)
  rw [show putW (putW (tgtW f) 8 f.list) 8 f.seq = seqW f from rfl] at u6
  have u7 := text_spec (flowW f) f.data hd (by omega)
  rw [show textW (flowW f) f.data = encW f from rfl] at u7 hl7
  have u8 := wbytes_spec (encW f) (by omega)
  have hms : (mkS (outK (encW f) (encW f).length)).size = ((encW f).length + 7) / 8 := by rw [mkS_size, outK_len]
  have u9 := protect_spec (mkS (outK (encW f) (encW f).length)) (by omega)
  rw [show protM (mkS (outK (encW f) (encW f).length)) = encM f from rfl] at u9
  have hsz := encM_size f hd
  have dsz : decide (127 < ((encM f).size : Int)) = false := decide_eq_false (by omega)
  have dd : decide (127 < (f.data.size : Int)) = false := decide_eq_false (by omega)
  refine FnS.of_body (enters_of Tryz.func23 (by kernel_rfl) rfl) Tryz.func23 rfl Tryz.ntmps23 Tryz.results23 rfl rfl rfl rfl fun E hS => ?_
  repeat' (first
    | (show VR _ _ _ (_ :: _) _ _ _; first | refine x_opF rfl (by first | exact True.intro | omega) ?_ | (show VR _ _ _ (⟨_, .call ⟨.value _, _, _⟩, _, _, _, _⟩ :: _) _ _ _; first | refine vr_calldU (hc) (gk rfl) rfl rfl rfl (by first | rfl | (simp only [wfRes, wfL, wfArgs, wfs, mpO_namesB, mpO_namesI]; rfl)) rfl (by first | exact newB_nil | exact newB_O | ((simp only [newB, List.map_cons, List.map_nil, Blk.shift, rowOf_shift]) <;> rfl) | rfl) rfl ?_ | refine vr_calldU (newW_spec) (gk rfl) rfl rfl rfl (by first | rfl | (simp only [wfRes, wfL, wfArgs, wfs, mpO_namesB, mpO_namesI]; rfl)) rfl (by first | exact newB_nil | exact newB_O | ((simp only [newB, List.map_cons, List.map_nil, Blk.shift, rowOf_shift]) <;> rfl) | rfl) rfl ?_))
    | (show VR _ _ _ [] _ _ _; first | refine vr_nil ?_)
    | (show thenQ _ _ _ _; first | refine q_then_n ?_)
    | (show VC _ (.seq _ _) _ _; (fail_if_success (show VC _ (.seq (.seq (.region 6 _ _) _) _) _ _)); (fail_if_success (show VC _ (.seq (.region 6 _ _) _) _ _)); refine vc_seq ?_)
    | refine vc_region ?_
    | (show VC _ (.cond _ _ _) _ _; first | refine vc_cond_f rfl ?_ | refine x_know rfl (by assumption) ?_)
    | refine vc_skip ?_
    | fail)
  refine VC.le (σ' := stOf [(1, .c (.ptr 1 0)), (2, AD (.str ⟨#[]⟩)), (3, AI 0), (4, .c (.ptr 100 0))] [(1, .box f.cs), (100, .box [.row 101 ([] : List Int).length, .d (.int .i64 0)]), (101, .row 5 1 (rowOf enc8 []))]) ?_ ?_
  · refine le_gen0 (fun n => if n = 100 then 14100 else if n = 101 then 14101 else n) ?_ ?_ rfl (by first | rfl | (simp only [wfL, wfs, mpO_namesB, mpO_namesI]; rfl))
    all_goals repeat' (first | exact trivial | refine ⟨⟨_, rfl, ?_⟩, ?_⟩ | exact .c .d | exact .c (.ptr rfl) | exact .boxD rfl rfl | exact .rowD rfl rowOf_isD | refine .box ?_ | exact .nil | refine .cons ?_ ?_ | exact .d | exact .row rfl rfl | fail)
  repeat' (first
    | (show VR _ _ _ (_ :: _) _ _ _; first | refine x_opF rfl (by first | exact True.intro | omega) ?_ | (show VR _ _ _ (⟨_, .call ⟨.value _, _, _⟩, _, _, _, _⟩ :: _) _ _ _; first | refine vr_callW (nmL []) [] [100] (u1) (gk rfl) rfl rfl (by (repeat' (first | exact .nil | refine .cons ?_ ?_ | exact .w (.c (.ptr rfl)) rfl | exact .w (.c (.row rfl rfl)) rfl | exact .w (.c (.mp rfl)) rfl | exact .w (.c (.fn rfl)) rfl | exact .w (.rp rfl) rfl | (refine .w (.fncC ?_) rfl; repeat' (first | exact .nil | refine .cons ?_ ?_ | exact .d | exact .ptr rfl | exact .row rfl rfl | (refine .row rfl ?_; ((try dsimp only); first | rfl | omega | (simp only [lns] <;> omega)); done) | exact .fn rfl | exact .mp rfl | exact .frzOf (by first | (simp; done) | decide) rfl rfl (fun _ => rfl))) | exact .r (.of0 (.c .d)) | refine .r ?_ | exact .of0 (.c .d) | exact .of0 .ep | exact .clo | exact .of0 (.c .nil) | exact .of0 (.c (cr_rowO (by simp) rfl (by first | rfl | omega) (fun _ => rfl))) | refine .of0 (.agg ?_) | exact .d | exact .nil | exact .of0 (.c (cr_row (by decide) rfl rfl (by repeat' (first | exact trivial | refine ⟨?_, ?_⟩ | rfl)))))) <;> fail) (by (repeat' (first | exact trivial | refine ⟨⟨_, rfl, ?_⟩, ?_⟩ | exact .boxD rfl rfl | exact .rowD rfl rowOf_isD | exact .mapO (fun _ => rfl) rfl | exact .pin rfl | refine .box ?_ | exact .nil | refine .cons ?_ ?_ | exact .d | exact .ptr rfl | exact .row rfl rfl | (refine .row rfl ?_; ((try dsimp only); first | rfl | omega | (simp only [lns] <;> omega)); done) | exact .fn rfl | exact .mp rfl | exact .frzOf (by first | (simp; done) | decide) rfl rfl (fun _ => rfl))) <;> fail) rfl rfl rfl (by first | rfl | (simp only [List.all_cons, List.all_nil, rowOf_flatB]; rfl)) rfl (by first | rfl | (simp only [wfRes, wfL, wfArgs, wfs, mpO_namesB, mpO_namesI]; rfl)) rfl rfl rfl (by (simp only [newW, List.map_cons, List.map_nil, Blk.ren, C.ren, rowOf_ren, mpO_renB, mpO_renI, gW, memN, nmL, Nat.reduceBEq, Bool.or_false, Bool.or_true, Bool.false_or, Bool.true_or, cond_true, cond_false, Nat.reduceMul, Nat.reduceAdd]) <;> rfl) (by (simp only [AV.ren, AV.ren0, List.map_cons, List.map_nil, C.ren, gW, memN, nmL, Nat.reduceBEq, Bool.or_false, Bool.or_true, Bool.false_or, Bool.true_or, cond_true, cond_false, Nat.reduceMul, Nat.reduceAdd]) <;> rfl) rfl ?_))
    | (show VR _ _ _ [] _ _ _; first | refine vr_nil ?_)
    | (show thenQ _ _ _ _; first | refine q_then_n ?_)
    | (show VC _ (.seq _ _) _ _; (fail_if_success (show VC _ (.seq (.seq (.region 7 _ _) _) _) _ _)); (fail_if_success (show VC _ (.seq (.region 7 _ _) _) _ _)); refine vc_seq ?_)
    | refine vc_region ?_
    | fail)
  refine VC.le (σ' := stOf [(1, .c (.ptr 1 0)), (2, AD (.str ⟨#[]⟩)), (3, AI 0), (4, .c (.ptr 100 0))] [(1, .box f.cs), (100, .box [.row 101 (putW [] 3 f.kind).length, .d (.int .i64 0)]), (101, .row 5 1 (rowOf enc8 (putW [] 3 f.kind)))]) ?_ ?_
  · refine le_gen0 (fun n => if n = 101 then 18102 else n) ?_ ?_ rfl (by first | rfl | (simp only [wfL, wfs, mpO_namesB, mpO_namesI]; rfl))
    all_goals repeat' (first | exact trivial | refine ⟨⟨_, rfl, ?_⟩, ?_⟩ | exact .c .d | exact .c (.ptr rfl) | exact .boxD rfl rfl | exact .rowD rfl rowOf_isD | refine .box ?_ | exact .nil | refine .cons ?_ ?_ | exact .d | exact .row rfl rfl | fail)
  repeat' (first
    | (show VR _ _ _ (_ :: _) _ _ _; first | refine x_opF rfl (by first | exact True.intro | omega) ?_ | (show VR _ _ _ (⟨_, .call ⟨.value _, _, _⟩, _, _, _, _⟩ :: _) _ _ _; first | refine vr_callW (nmL []) [] [100] (u2) (gk rfl) rfl rfl (by (repeat' (first | exact .nil | refine .cons ?_ ?_ | exact .w (.c (.ptr rfl)) rfl | exact .w (.c (.row rfl rfl)) rfl | exact .w (.c (.mp rfl)) rfl | exact .w (.c (.fn rfl)) rfl | exact .w (.rp rfl) rfl | (refine .w (.fncC ?_) rfl; repeat' (first | exact .nil | refine .cons ?_ ?_ | exact .d | exact .ptr rfl | exact .row rfl rfl | (refine .row rfl ?_; ((try dsimp only); first | rfl | omega | (simp only [lns] <;> omega)); done) | exact .fn rfl | exact .mp rfl | exact .frzOf (by first | (simp; done) | decide) rfl rfl (fun _ => rfl))) | exact .r (.of0 (.c .d)) | refine .r ?_ | exact .of0 (.c .d) | exact .of0 .ep | exact .clo | exact .of0 (.c .nil) | exact .of0 (.c (cr_rowO (by simp) rfl (by first | rfl | omega) (fun _ => rfl))) | refine .of0 (.agg ?_) | exact .d | exact .nil | exact .of0 (.c (cr_row (by decide) rfl rfl (by repeat' (first | exact trivial | refine ⟨?_, ?_⟩ | rfl)))))) <;> fail) (by (repeat' (first | exact trivial | refine ⟨⟨_, rfl, ?_⟩, ?_⟩ | exact .boxD rfl rfl | exact .rowD rfl rowOf_isD | exact .mapO (fun _ => rfl) rfl | exact .pin rfl | refine .box ?_ | exact .nil | refine .cons ?_ ?_ | exact .d | exact .ptr rfl | exact .row rfl rfl | (refine .row rfl ?_; ((try dsimp only); first | rfl | omega | (simp only [lns] <;> omega)); done) | exact .fn rfl | exact .mp rfl | exact .frzOf (by first | (simp; done) | decide) rfl rfl (fun _ => rfl))) <;> fail) rfl rfl rfl (by first | rfl | (simp only [List.all_cons, List.all_nil, rowOf_flatB]; rfl)) rfl (by first | rfl | (simp only [wfRes, wfL, wfArgs, wfs, mpO_namesB, mpO_namesI]; rfl)) rfl rfl rfl (by (simp only [newW, List.map_cons, List.map_nil, Blk.ren, C.ren, rowOf_ren, mpO_renB, mpO_renI, gW, memN, nmL, Nat.reduceBEq, Bool.or_false, Bool.or_true, Bool.false_or, Bool.true_or, cond_true, cond_false, Nat.reduceMul, Nat.reduceAdd]) <;> rfl) (by (simp only [AV.ren, AV.ren0, List.map_cons, List.map_nil, C.ren, gW, memN, nmL, Nat.reduceBEq, Bool.or_false, Bool.or_true, Bool.false_or, Bool.true_or, cond_true, cond_false, Nat.reduceMul, Nat.reduceAdd]) <;> rfl) rfl ?_))
    | (show VR _ _ _ [] _ _ _; first | refine vr_nil ?_)
    | (show thenQ _ _ _ _; first | refine q_then_n ?_)
    | (show VC _ (.seq _ _) _ _; (fail_if_success (show VC _ (.seq (.seq (.region 8 _ _) _) _) _ _)); (fail_if_success (show VC _ (.seq (.region 8 _ _) _) _ _)); refine vc_seq ?_)
    | refine vc_region ?_
    | fail)
  refine VC.le (σ' := stOf [(1, .c (.ptr 1 0)), (2, AD (.str ⟨#[]⟩)), (3, AI 0), (4, .c (.ptr 100 0))] [(1, .box f.cs), (100, .box [.row 101 (putW (putW [] 3 f.kind) 5 f.source).length, .d (.int .i64 0)]), (101, .row 5 1 (rowOf enc8 (putW (putW [] 3 f.kind) 5 f.source)))]) ?_ ?_
  · refine le_gen0 (fun n => if n = 101 then 22102 else n) ?_ ?_ rfl (by first | rfl | (simp only [wfL, wfs, mpO_namesB, mpO_namesI]; rfl))
    all_goals repeat' (first | exact trivial | refine ⟨⟨_, rfl, ?_⟩, ?_⟩ | exact .c .d | exact .c (.ptr rfl) | exact .boxD rfl rfl | exact .rowD rfl rowOf_isD | refine .box ?_ | exact .nil | refine .cons ?_ ?_ | exact .d | exact .row rfl rfl | fail)
  repeat' (first
    | (show VR _ _ _ (_ :: _) _ _ _; first | refine x_opF rfl (by first | exact True.intro | omega) ?_ | (show VR _ _ _ (⟨_, .call ⟨.value _, _, _⟩, _, _, _, _⟩ :: _) _ _ _; first | refine vr_callW (nmL []) [] [100] (u3) (gk rfl) rfl rfl (by (repeat' (first | exact .nil | refine .cons ?_ ?_ | exact .w (.c (.ptr rfl)) rfl | exact .w (.c (.row rfl rfl)) rfl | exact .w (.c (.mp rfl)) rfl | exact .w (.c (.fn rfl)) rfl | exact .w (.rp rfl) rfl | (refine .w (.fncC ?_) rfl; repeat' (first | exact .nil | refine .cons ?_ ?_ | exact .d | exact .ptr rfl | exact .row rfl rfl | (refine .row rfl ?_; ((try dsimp only); first | rfl | omega | (simp only [lns] <;> omega)); done) | exact .fn rfl | exact .mp rfl | exact .frzOf (by first | (simp; done) | decide) rfl rfl (fun _ => rfl))) | exact .r (.of0 (.c .d)) | refine .r ?_ | exact .of0 (.c .d) | exact .of0 .ep | exact .clo | exact .of0 (.c .nil) | exact .of0 (.c (cr_rowO (by simp) rfl (by first | rfl | omega) (fun _ => rfl))) | refine .of0 (.agg ?_) | exact .d | exact .nil | exact .of0 (.c (cr_row (by decide) rfl rfl (by repeat' (first | exact trivial | refine ⟨?_, ?_⟩ | rfl)))))) <;> fail) (by (repeat' (first | exact trivial | refine ⟨⟨_, rfl, ?_⟩, ?_⟩ | exact .boxD rfl rfl | exact .rowD rfl rowOf_isD | exact .mapO (fun _ => rfl) rfl | exact .pin rfl | refine .box ?_ | exact .nil | refine .cons ?_ ?_ | exact .d | exact .ptr rfl | exact .row rfl rfl | (refine .row rfl ?_; ((try dsimp only); first | rfl | omega | (simp only [lns] <;> omega)); done) | exact .fn rfl | exact .mp rfl | exact .frzOf (by first | (simp; done) | decide) rfl rfl (fun _ => rfl))) <;> fail) rfl rfl rfl (by first | rfl | (simp only [List.all_cons, List.all_nil, rowOf_flatB]; rfl)) rfl (by first | rfl | (simp only [wfRes, wfL, wfArgs, wfs, mpO_namesB, mpO_namesI]; rfl)) rfl rfl rfl (by (simp only [newW, List.map_cons, List.map_nil, Blk.ren, C.ren, rowOf_ren, mpO_renB, mpO_renI, gW, memN, nmL, Nat.reduceBEq, Bool.or_false, Bool.or_true, Bool.false_or, Bool.true_or, cond_true, cond_false, Nat.reduceMul, Nat.reduceAdd]) <;> rfl) (by (simp only [AV.ren, AV.ren0, List.map_cons, List.map_nil, C.ren, gW, memN, nmL, Nat.reduceBEq, Bool.or_false, Bool.or_true, Bool.false_or, Bool.true_or, cond_true, cond_false, Nat.reduceMul, Nat.reduceAdd]) <;> rfl) rfl ?_))
    | (show VR _ _ _ [] _ _ _; first | refine vr_nil ?_)
    | (show thenQ _ _ _ _; first | refine q_then_n ?_)
    | (show VC _ (.seq _ _) _ _; (fail_if_success (show VC _ (.seq (.seq (.region 9 _ _) _) _) _ _)); (fail_if_success (show VC _ (.seq (.region 9 _ _) _) _ _)); refine vc_seq ?_)
    | refine vc_region ?_
    | fail)
  refine VC.le (σ' := stOf [(1, .c (.ptr 1 0)), (2, AD (.str ⟨#[]⟩)), (3, AI 0), (4, .c (.ptr 100 0))] [(1, .box f.cs), (100, .box [.row 101 (headW f).length, .d (.int .i64 0)]), (101, .row 5 1 (rowOf enc8 (headW f)))]) ?_ ?_
  · refine le_gen0 (fun n => if n = 101 then 27102 else n) ?_ ?_ rfl (by first | rfl | (simp only [wfL, wfs, mpO_namesB, mpO_namesI]; rfl))
    all_goals repeat' (first | exact trivial | refine ⟨⟨_, rfl, ?_⟩, ?_⟩ | exact .c .d | exact .c (.ptr rfl) | exact .boxD rfl rfl | exact .rowD rfl rowOf_isD | refine .box ?_ | exact .nil | refine .cons ?_ ?_ | exact .d | exact .row rfl rfl | fail)
  refine vc_cut (stOf [(1, .c (.ptr 1 0)), (2, AD (.str ⟨#[]⟩)), (3, AI 0), (4, .c (.ptr 100 0))] [(1, .box f.cs), (100, .box [.row 101 (tgtW f).length, .d (.int .i64 0)]), (101, .row 5 1 (rowOf enc8 (tgtW f)))]) ?_ ?_
  · by_cases ht : 0 ≤ f.target
    · have d0 : decide (0 ≤ f.target) = true := decide_eq_true ht
      have e : tgtW f = putW (headW f) 5 f.target := if_pos ht
      have ht31 : f.target ≤ 31 := by rcases hok.2 with h | h | h | h <;> omega
      have u4 := unsigned_spec (headW f) 5 f.target (by decide) (by rw [h5]; omega) (by omega)
      rw [e]
      repeat' (first
        | (show VR _ _ _ (_ :: _) _ _ _; first | refine x_opF rfl (by first | exact True.intro | omega) ?_ | (show VR _ _ _ (⟨_, .call ⟨.value _, _, _⟩, _, _, _, _⟩ :: _) _ _ _; first | refine vr_callW (nmL []) [] [100] (u4) (gk rfl) rfl rfl (by (repeat' (first | exact .nil | refine .cons ?_ ?_ | exact .w (.c (.ptr rfl)) rfl | exact .w (.c (.row rfl rfl)) rfl | exact .w (.c (.mp rfl)) rfl | exact .w (.c (.fn rfl)) rfl | exact .w (.rp rfl) rfl | (refine .w (.fncC ?_) rfl; repeat' (first | exact .nil | refine .cons ?_ ?_ | exact .d | exact .ptr rfl | exact .row rfl rfl | (refine .row rfl ?_; ((try dsimp only); first | rfl | omega | (simp only [lns] <;> omega)); done) | exact .fn rfl | exact .mp rfl | exact .frzOf (by first | (simp; done) | decide) rfl rfl (fun _ => rfl))) | exact .r (.of0 (.c .d)) | refine .r ?_ | exact .of0 (.c .d) | exact .of0 .ep | exact .clo | exact .of0 (.c .nil) | exact .of0 (.c (cr_rowO (by simp) rfl (by first | rfl | omega) (fun _ => rfl))) | refine .of0 (.agg ?_) | exact .d | exact .nil | exact .of0 (.c (cr_row (by decide) rfl rfl (by repeat' (first | exact trivial | refine ⟨?_, ?_⟩ | rfl)))))) <;> fail) (by (repeat' (first | exact trivial | refine ⟨⟨_, rfl, ?_⟩, ?_⟩ | exact .boxD rfl rfl | exact .rowD rfl rowOf_isD | exact .mapO (fun _ => rfl) rfl | exact .pin rfl | refine .box ?_ | exact .nil | refine .cons ?_ ?_ | exact .d | exact .ptr rfl | exact .row rfl rfl | (refine .row rfl ?_; ((try dsimp only); first | rfl | omega | (simp only [lns] <;> omega)); done) | exact .fn rfl | exact .mp rfl | exact .frzOf (by first | (simp; done) | decide) rfl rfl (fun _ => rfl))) <;> fail) rfl rfl rfl (by first | rfl | (simp only [List.all_cons, List.all_nil, rowOf_flatB]; rfl)) rfl (by first | rfl | (simp only [wfRes, wfL, wfArgs, wfs, mpO_namesB, mpO_namesI]; rfl)) rfl rfl rfl (by (simp only [newW, List.map_cons, List.map_nil, Blk.ren, C.ren, rowOf_ren, mpO_renB, mpO_renI, gW, memN, nmL, Nat.reduceBEq, Bool.or_false, Bool.or_true, Bool.false_or, Bool.true_or, cond_true, cond_false, Nat.reduceMul, Nat.reduceAdd]) <;> rfl) (by (simp only [AV.ren, AV.ren0, List.map_cons, List.map_nil, C.ren, gW, memN, nmL, Nat.reduceBEq, Bool.or_false, Bool.or_true, Bool.false_or, Bool.true_or, cond_true, cond_false, Nat.reduceMul, Nat.reduceAdd]) <;> rfl) rfl ?_))
        | (show VR _ _ _ [] _ _ _; first | refine vr_nil ?_)
        | (show thenQ _ _ _ _; first | refine q_then_n ?_)
        | refine vc_seq ?_
        | refine vc_region ?_
        | (show VC _ (.cond _ _ _) _ _; first | refine vc_cond_t rfl ?_ | refine x_know rfl (by assumption) ?_)
        | fail)
      refine le_gen0 (fun n => if n = 101 then 34102 else n) ?_ ?_ rfl (by first | rfl | (simp only [wfL, wfs, mpO_namesB, mpO_namesI]; rfl))
      all_goals repeat' (first | exact trivial | refine ⟨⟨_, rfl, ?_⟩, ?_⟩ | exact .c .d | exact .c (.ptr rfl) | exact .boxD rfl rfl | exact .rowD rfl rowOf_isD | refine .box ?_ | exact .nil | refine .cons ?_ ?_ | exact .d | exact .row rfl rfl | fail)
    · have d0 : decide (0 ≤ f.target) = false := decide_eq_false ht
      have e : tgtW f = headW f := if_neg ht
      rw [e]
      repeat' (first
        | (show VR _ _ _ (_ :: _) _ _ _; first | refine x_opF rfl (by first | exact True.intro | omega) ?_)
        | (show VR _ _ _ [] _ _ _; first | refine vr_nil ?_)
        | (show thenQ _ _ _ _; first | refine q_then_n ?_)
        | refine vc_seq ?_
        | refine vc_region ?_
        | (show VC _ (.cond _ _ _) _ _; first | refine vc_cond_f rfl ?_ | refine x_know rfl (by assumption) ?_)
        | refine vc_skip ?_
        | fail)
      refine le_gen0 (fun n => n) ?_ ?_ rfl (by first | rfl | (simp only [wfL, wfs, mpO_namesB, mpO_namesI]; rfl))
      all_goals repeat' (first | exact trivial | refine ⟨⟨_, rfl, ?_⟩, ?_⟩ | exact .c .d | exact .c (.ptr rfl) | exact .boxD rfl rfl | exact .rowD rfl rowOf_isD | refine .box ?_ | exact .nil | refine .cons ?_ ?_ | exact .d | exact .row rfl rfl | fail)
  repeat' (first
    | (show VR _ _ _ (_ :: _) _ _ _; first | refine x_opF rfl (by first | exact True.intro | omega) ?_ | (show VR _ _ _ (⟨_, .call ⟨.value _, _, _⟩, _, _, _, _⟩ :: _) _ _ _; first | refine vr_callW (nmL []) [] [100] (u5) (gk rfl) rfl rfl (by (repeat' (first | exact .nil | refine .cons ?_ ?_ | exact .w (.c (.ptr rfl)) rfl | exact .w (.c (.row rfl rfl)) rfl | exact .w (.c (.mp rfl)) rfl | exact .w (.c (.fn rfl)) rfl | exact .w (.rp rfl) rfl | (refine .w (.fncC ?_) rfl; repeat' (first | exact .nil | refine .cons ?_ ?_ | exact .d | exact .ptr rfl | exact .row rfl rfl | (refine .row rfl ?_; ((try dsimp only); first | rfl | omega | (simp only [lns] <;> omega)); done) | exact .fn rfl | exact .mp rfl | exact .frzOf (by first | (simp; done) | decide) rfl rfl (fun _ => rfl))) | exact .r (.of0 (.c .d)) | refine .r ?_ | exact .of0 (.c .d) | exact .of0 .ep | exact .clo | exact .of0 (.c .nil) | exact .of0 (.c (cr_rowO (by simp) rfl (by first | rfl | omega) (fun _ => rfl))) | refine .of0 (.agg ?_) | exact .d | exact .nil | exact .of0 (.c (cr_row (by decide) rfl rfl (by repeat' (first | exact trivial | refine ⟨?_, ?_⟩ | rfl)))))) <;> fail) (by (repeat' (first | exact trivial | refine ⟨⟨_, rfl, ?_⟩, ?_⟩ | exact .boxD rfl rfl | exact .rowD rfl rowOf_isD | exact .mapO (fun _ => rfl) rfl | exact .pin rfl | refine .box ?_ | exact .nil | refine .cons ?_ ?_ | exact .d | exact .ptr rfl | exact .row rfl rfl | (refine .row rfl ?_; ((try dsimp only); first | rfl | omega | (simp only [lns] <;> omega)); done) | exact .fn rfl | exact .mp rfl | exact .frzOf (by first | (simp; done) | decide) rfl rfl (fun _ => rfl))) <;> fail) rfl rfl rfl (by first | rfl | (simp only [List.all_cons, List.all_nil, rowOf_flatB]; rfl)) rfl (by first | rfl | (simp only [wfRes, wfL, wfArgs, wfs, mpO_namesB, mpO_namesI]; rfl)) rfl rfl rfl (by (simp only [newW, List.map_cons, List.map_nil, Blk.ren, C.ren, rowOf_ren, mpO_renB, mpO_renI, gW, memN, nmL, Nat.reduceBEq, Bool.or_false, Bool.or_true, Bool.false_or, Bool.true_or, cond_true, cond_false, Nat.reduceMul, Nat.reduceAdd]) <;> rfl) (by (simp only [AV.ren, AV.ren0, List.map_cons, List.map_nil, C.ren, gW, memN, nmL, Nat.reduceBEq, Bool.or_false, Bool.or_true, Bool.false_or, Bool.true_or, cond_true, cond_false, Nat.reduceMul, Nat.reduceAdd]) <;> rfl) rfl ?_))
    | (show VR _ _ _ [] _ _ _; first | refine vr_nil ?_)
    | (show thenQ _ _ _ _; first | refine q_then_n ?_)
    | (show VC _ (.seq _ _) _ _; (fail_if_success (show VC _ (.seq (.seq (.region 12 _ _) _) _) _ _)); (fail_if_success (show VC _ (.seq (.region 12 _ _) _) _ _)); refine vc_seq ?_)
    | refine vc_region ?_
    | fail)
  refine VC.le (σ' := stOf [(1, .c (.ptr 1 0)), (2, AD (.str ⟨#[]⟩)), (3, AI 0), (4, .c (.ptr 100 0))] [(1, .box f.cs), (100, .box [.row 101 (putW (tgtW f) 8 f.list).length, .d (.int .i64 0)]), (101, .row 5 1 (rowOf enc8 (putW (tgtW f) 8 f.list)))]) ?_ ?_
  · refine le_gen0 (fun n => if n = 101 then 38102 else n) ?_ ?_ rfl (by first | rfl | (simp only [wfL, wfs, mpO_namesB, mpO_namesI]; rfl))
    all_goals repeat' (first | exact trivial | refine ⟨⟨_, rfl, ?_⟩, ?_⟩ | exact .c .d | exact .c (.ptr rfl) | exact .boxD rfl rfl | exact .rowD rfl rowOf_isD | refine .box ?_ | exact .nil | refine .cons ?_ ?_ | exact .d | exact .row rfl rfl | fail)
  repeat' (first
    | (show VR _ _ _ (_ :: _) _ _ _; first | refine x_opF rfl (by first | exact True.intro | omega) ?_ | (show VR _ _ _ (⟨_, .call ⟨.value _, _, _⟩, _, _, _, _⟩ :: _) _ _ _; first | refine vr_callW (nmL []) [] [100] (u6) (gk rfl) rfl rfl (by (repeat' (first | exact .nil | refine .cons ?_ ?_ | exact .w (.c (.ptr rfl)) rfl | exact .w (.c (.row rfl rfl)) rfl | exact .w (.c (.mp rfl)) rfl | exact .w (.c (.fn rfl)) rfl | exact .w (.rp rfl) rfl | (refine .w (.fncC ?_) rfl; repeat' (first | exact .nil | refine .cons ?_ ?_ | exact .d | exact .ptr rfl | exact .row rfl rfl | (refine .row rfl ?_; ((try dsimp only); first | rfl | omega | (simp only [lns] <;> omega)); done) | exact .fn rfl | exact .mp rfl | exact .frzOf (by first | (simp; done) | decide) rfl rfl (fun _ => rfl))) | exact .r (.of0 (.c .d)) | refine .r ?_ | exact .of0 (.c .d) | exact .of0 .ep | exact .clo | exact .of0 (.c .nil) | exact .of0 (.c (cr_rowO (by simp) rfl (by first | rfl | omega) (fun _ => rfl))) | refine .of0 (.agg ?_) | exact .d | exact .nil | exact .of0 (.c (cr_row (by decide) rfl rfl (by repeat' (first | exact trivial | refine ⟨?_, ?_⟩ | rfl)))))) <;> fail) (by (repeat' (first | exact trivial | refine ⟨⟨_, rfl, ?_⟩, ?_⟩ | exact .boxD rfl rfl | exact .rowD rfl rowOf_isD | exact .mapO (fun _ => rfl) rfl | exact .pin rfl | refine .box ?_ | exact .nil | refine .cons ?_ ?_ | exact .d | exact .ptr rfl | exact .row rfl rfl | (refine .row rfl ?_; ((try dsimp only); first | rfl | omega | (simp only [lns] <;> omega)); done) | exact .fn rfl | exact .mp rfl | exact .frzOf (by first | (simp; done) | decide) rfl rfl (fun _ => rfl))) <;> fail) rfl rfl rfl (by first | rfl | (simp only [List.all_cons, List.all_nil, rowOf_flatB]; rfl)) rfl (by first | rfl | (simp only [wfRes, wfL, wfArgs, wfs, mpO_namesB, mpO_namesI]; rfl)) rfl rfl rfl (by (simp only [newW, List.map_cons, List.map_nil, Blk.ren, C.ren, rowOf_ren, mpO_renB, mpO_renI, gW, memN, nmL, Nat.reduceBEq, Bool.or_false, Bool.or_true, Bool.false_or, Bool.true_or, cond_true, cond_false, Nat.reduceMul, Nat.reduceAdd]) <;> rfl) (by (simp only [AV.ren, AV.ren0, List.map_cons, List.map_nil, C.ren, gW, memN, nmL, Nat.reduceBEq, Bool.or_false, Bool.or_true, Bool.false_or, Bool.true_or, cond_true, cond_false, Nat.reduceMul, Nat.reduceAdd]) <;> rfl) rfl ?_))
    | (show VR _ _ _ [] _ _ _; first | refine vr_nil ?_)
    | (show thenQ _ _ _ _; first | refine q_then_n ?_)
    | (show VC _ (.seq _ _) _ _; (fail_if_success (show VC _ (.seq (.seq (.region 13 _ _) _) _) _ _)); (fail_if_success (show VC _ (.seq (.region 13 _ _) _) _ _)); refine vc_seq ?_)
    | refine vc_region ?_
    | fail)
  refine VC.le (σ' := stOf [(1, .c (.ptr 1 0)), (2, AD (.str ⟨#[]⟩)), (3, AI 0), (4, .c (.ptr 100 0))] [(1, .box f.cs), (100, .box [.row 101 (seqW f).length, .d (.int .i64 0)]), (101, .row 5 1 (rowOf enc8 (seqW f)))]) ?_ ?_
  · refine le_gen0 (fun n => if n = 101 then 42102 else n) ?_ ?_ rfl (by first | rfl | (simp only [wfL, wfs, mpO_namesB, mpO_namesI]; rfl))
    all_goals repeat' (first | exact trivial | refine ⟨⟨_, rfl, ?_⟩, ?_⟩ | exact .c .d | exact .c (.ptr rfl) | exact .boxD rfl rfl | exact .rowD rfl rowOf_isD | refine .box ?_ | exact .nil | refine .cons ?_ ?_ | exact .d | exact .row rfl rfl | fail)
  refine vc_cut (stOf [(1, .c (.ptr 1 0)), (2, AD (.str ⟨#[]⟩)), (3, AI 0), (4, .c (.ptr 100 0))] [(1, .box f.cs), (100, .box [.row 101 (flowW f).length, .d (.int .i64 0)]), (101, .row 5 1 (rowOf enc8 (flowW f)))]) ?_ ?_
  · by_cases hk1 : f.kind = 1
    · have d0 : decide (f.kind = 1) = true := decide_eq_true hk1
      have e : flowW f = putW (putW (seqW f) 8 f.flow) 16 f.number := if_pos hk1
      have hfl : (0 ≤ f.flow ∧ f.flow ≤ 255) ∧ 0 ≤ f.number ∧ f.number ≤ 65535 := by rcases hok.2 with h | h | h | h <;> omega
      have v1 := unsigned_spec (seqW f) 8 f.flow (by decide) (by rw [h8]; omega) (by omega)
      have v2 := unsigned_spec (putW (seqW f) 8 f.flow) 16 f.number (by decide) (by rw [h16]; omega) (by rw [putW_len, i8]; omega)
      rw [e]
      repeat' (first
        | (show VR _ _ _ (_ :: _) _ _ _; first | refine x_opF rfl (by first | exact True.intro | omega) ?_)
        | (show VR _ _ _ [] _ _ _; first | refine vr_nil ?_)
        | (show thenQ _ _ _ _; first | refine q_then_n ?_)
        | (show VC _ (.seq _ _) _ _; (fail_if_success (show VC _ (.seq (.seq (.region 14 _ _) _) _) _ _)); (fail_if_success (show VC _ (.seq (.region 14 _ _) _) _ _)); refine vc_seq ?_)
        | refine vc_region ?_
        | (show VC _ (.cond _ _ _) _ _; first | refine vc_cond_t rfl ?_ | refine x_know rfl (by assumption) ?_)
        | fail)
      refine vc_cut (stOf [(1, .c (.ptr 1 0)), (2, AD (.str ⟨#[]⟩)), (3, AI 0), (4, .c (.ptr 100 0))] [(1, .box f.cs), (100, .box [.row 101 (putW (seqW f) 8 f.flow).length, .d (.int .i64 0)]), (101, .row 5 1 (rowOf enc8 (putW (seqW f) 8 f.flow)))]) ?_ ?_
      · repeat' (first
          | (show VR _ _ _ (_ :: _) _ _ _; first | refine x_opF rfl (by first | exact True.intro | omega) ?_ | (show VR _ _ _ (⟨_, .call ⟨.value _, _, _⟩, _, _, _, _⟩ :: _) _ _ _; first | refine vr_callW (nmL []) [] [100] (v1) (gk rfl) rfl rfl (by (repeat' (first | exact .nil | refine .cons ?_ ?_ | exact .w (.c (.ptr rfl)) rfl | exact .w (.c (.row rfl rfl)) rfl | exact .w (.c (.mp rfl)) rfl | exact .w (.c (.fn rfl)) rfl | exact .w (.rp rfl) rfl | (refine .w (.fncC ?_) rfl; repeat' (first | exact .nil | refine .cons ?_ ?_ | exact .d | exact .ptr rfl | exact .row rfl rfl | (refine .row rfl ?_; ((try dsimp only); first | rfl | omega | (simp only [lns] <;> omega)); done) | exact .fn rfl | exact .mp rfl | exact .frzOf (by first | (simp; done) | decide) rfl rfl (fun _ => rfl))) | exact .r (.of0 (.c .d)) | refine .r ?_ | exact .of0 (.c .d) | exact .of0 .ep | exact .clo | exact .of0 (.c .nil) | exact .of0 (.c (cr_rowO (by simp) rfl (by first | rfl | omega) (fun _ => rfl))) | refine .of0 (.agg ?_) | exact .d | exact .nil | exact .of0 (.c (cr_row (by decide) rfl rfl (by repeat' (first | exact trivial | refine ⟨?_, ?_⟩ | rfl)))))) <;> fail) (by (repeat' (first | exact trivial | refine ⟨⟨_, rfl, ?_⟩, ?_⟩ | exact .boxD rfl rfl | exact .rowD rfl rowOf_isD | exact .mapO (fun _ => rfl) rfl | exact .pin rfl | refine .box ?_ | exact .nil | refine .cons ?_ ?_ | exact .d | exact .ptr rfl | exact .row rfl rfl | (refine .row rfl ?_; ((try dsimp only); first | rfl | omega | (simp only [lns] <;> omega)); done) | exact .fn rfl | exact .mp rfl | exact .frzOf (by first | (simp; done) | decide) rfl rfl (fun _ => rfl))) <;> fail) rfl rfl rfl (by first | rfl | (simp only [List.all_cons, List.all_nil, rowOf_flatB]; rfl)) rfl (by first | rfl | (simp only [wfRes, wfL, wfArgs, wfs, mpO_namesB, mpO_namesI]; rfl)) rfl rfl rfl (by (simp only [newW, List.map_cons, List.map_nil, Blk.ren, C.ren, rowOf_ren, mpO_renB, mpO_renI, gW, memN, nmL, Nat.reduceBEq, Bool.or_false, Bool.or_true, Bool.false_or, Bool.true_or, cond_true, cond_false, Nat.reduceMul, Nat.reduceAdd]) <;> rfl) (by (simp only [AV.ren, AV.ren0, List.map_cons, List.map_nil, C.ren, gW, memN, nmL, Nat.reduceBEq, Bool.or_false, Bool.or_true, Bool.false_or, Bool.true_or, cond_true, cond_false, Nat.reduceMul, Nat.reduceAdd]) <;> rfl) rfl ?_))
          | (show VR _ _ _ [] _ _ _; first | refine vr_nil ?_)
          | (show thenQ _ _ _ _; first | refine q_then_n ?_)
          | refine vc_region ?_
          | fail)
        refine le_gen0 (fun n => if n = 101 then 49102 else n) ?_ ?_ rfl (by first | rfl | (simp only [wfL, wfs, mpO_namesB, mpO_namesI]; rfl))
        all_goals repeat' (first | exact trivial | refine ⟨⟨_, rfl, ?_⟩, ?_⟩ | exact .c .d | exact .c (.ptr rfl) | exact .boxD rfl rfl | exact .rowD rfl rowOf_isD | refine .box ?_ | exact .nil | refine .cons ?_ ?_ | exact .d | exact .row rfl rfl | fail)
      repeat' (first
        | (show VR _ _ _ (_ :: _) _ _ _; first | refine x_opF rfl (by first | exact True.intro | omega) ?_ | (show VR _ _ _ (⟨_, .call ⟨.value _, _, _⟩, _, _, _, _⟩ :: _) _ _ _; first | refine vr_callW (nmL []) [] [100] (v2) (gk rfl) rfl rfl (by (repeat' (first | exact .nil | refine .cons ?_ ?_ | exact .w (.c (.ptr rfl)) rfl | exact .w (.c (.row rfl rfl)) rfl | exact .w (.c (.mp rfl)) rfl | exact .w (.c (.fn rfl)) rfl | exact .w (.rp rfl) rfl | (refine .w (.fncC ?_) rfl; repeat' (first | exact .nil | refine .cons ?_ ?_ | exact .d | exact .ptr rfl | exact .row rfl rfl | (refine .row rfl ?_; ((try dsimp only); first | rfl | omega | (simp only [lns] <;> omega)); done) | exact .fn rfl | exact .mp rfl | exact .frzOf (by first | (simp; done) | decide) rfl rfl (fun _ => rfl))) | exact .r (.of0 (.c .d)) | refine .r ?_ | exact .of0 (.c .d) | exact .of0 .ep | exact .clo | exact .of0 (.c .nil) | exact .of0 (.c (cr_rowO (by simp) rfl (by first | rfl | omega) (fun _ => rfl))) | refine .of0 (.agg ?_) | exact .d | exact .nil | exact .of0 (.c (cr_row (by decide) rfl rfl (by repeat' (first | exact trivial | refine ⟨?_, ?_⟩ | rfl)))))) <;> fail) (by (repeat' (first | exact trivial | refine ⟨⟨_, rfl, ?_⟩, ?_⟩ | exact .boxD rfl rfl | exact .rowD rfl rowOf_isD | exact .mapO (fun _ => rfl) rfl | exact .pin rfl | refine .box ?_ | exact .nil | refine .cons ?_ ?_ | exact .d | exact .ptr rfl | exact .row rfl rfl | (refine .row rfl ?_; ((try dsimp only); first | rfl | omega | (simp only [lns] <;> omega)); done) | exact .fn rfl | exact .mp rfl | exact .frzOf (by first | (simp; done) | decide) rfl rfl (fun _ => rfl))) <;> fail) rfl rfl rfl (by first | rfl | (simp only [List.all_cons, List.all_nil, rowOf_flatB]; rfl)) rfl (by first | rfl | (simp only [wfRes, wfL, wfArgs, wfs, mpO_namesB, mpO_namesI]; rfl)) rfl rfl rfl (by (simp only [newW, List.map_cons, List.map_nil, Blk.ren, C.ren, rowOf_ren, mpO_renB, mpO_renI, gW, memN, nmL, Nat.reduceBEq, Bool.or_false, Bool.or_true, Bool.false_or, Bool.true_or, cond_true, cond_false, Nat.reduceMul, Nat.reduceAdd]) <;> rfl) (by (simp only [AV.ren, AV.ren0, List.map_cons, List.map_nil, C.ren, gW, memN, nmL, Nat.reduceBEq, Bool.or_false, Bool.or_true, Bool.false_or, Bool.true_or, cond_true, cond_false, Nat.reduceMul, Nat.reduceAdd]) <;> rfl) rfl ?_))
        | (show VR _ _ _ [] _ _ _; first | refine vr_nil ?_)
        | (show thenQ _ _ _ _; first | refine q_then_n ?_)
        | refine vc_region ?_
        | fail)
      refine le_gen0 (fun n => if n = 101 then 53102 else n) ?_ ?_ rfl (by first | rfl | (simp only [wfL, wfs, mpO_namesB, mpO_namesI]; rfl))
      all_goals repeat' (first | exact trivial | refine ⟨⟨_, rfl, ?_⟩, ?_⟩ | exact .c .d | exact .c (.ptr rfl) | exact .boxD rfl rfl | exact .rowD rfl rowOf_isD | refine .box ?_ | exact .nil | refine .cons ?_ ?_ | exact .d | exact .row rfl rfl | fail)
    · have d0 : decide (f.kind = 1) = false := decide_eq_false hk1
      have e : flowW f = seqW f := if_neg hk1
      rw [e]
      repeat' (first
        | (show VR _ _ _ (_ :: _) _ _ _; first | refine x_opF rfl (by first | exact True.intro | omega) ?_)
        | (show VR _ _ _ [] _ _ _; first | refine vr_nil ?_)
        | (show thenQ _ _ _ _; first | refine q_then_n ?_)
        | refine vc_seq ?_
        | refine vc_region ?_
        | (show VC _ (.cond _ _ _) _ _; first | refine vc_cond_f rfl ?_ | refine x_know rfl (by assumption) ?_)
        | refine vc_skip ?_
        | fail)
      refine le_gen0 (fun n => n) ?_ ?_ rfl (by first | rfl | (simp only [wfL, wfs, mpO_namesB, mpO_namesI]; rfl))
      all_goals repeat' (first | exact trivial | refine ⟨⟨_, rfl, ?_⟩, ?_⟩ | exact .c .d | exact .c (.ptr rfl) | exact .boxD rfl rfl | exact .rowD rfl rowOf_isD | refine .box ?_ | exact .nil | refine .cons ?_ ?_ | exact .d | exact .row rfl rfl | fail)
  have k2 : decide (f.kind = 2) = false := decide_eq_false (by omega)
  have k3 : decide (f.kind = 3) = false := decide_eq_false (by omega)
  have k4 : decide (f.kind ≠ 2) = true := decide_eq_true (by omega)
  repeat' (first
    | (show VR _ _ _ (_ :: _) _ _ _; first | refine x_opF rfl (by first | exact True.intro | omega) ?_ | (show VR _ _ _ (⟨_, .call ⟨.value _, _, _⟩, _, _, _, _⟩ :: _) _ _ _; first | refine vr_callW (nmL []) [] [100] (u7) (gk rfl) rfl rfl (by (repeat' (first | exact .nil | refine .cons ?_ ?_ | exact .w (.c (.ptr rfl)) rfl | exact .w (.c (.row rfl rfl)) rfl | exact .w (.c (.mp rfl)) rfl | exact .w (.c (.fn rfl)) rfl | exact .w (.rp rfl) rfl | (refine .w (.fncC ?_) rfl; repeat' (first | exact .nil | refine .cons ?_ ?_ | exact .d | exact .ptr rfl | exact .row rfl rfl | (refine .row rfl ?_; ((try dsimp only); first | rfl | omega | (simp only [lns] <;> omega)); done) | exact .fn rfl | exact .mp rfl | exact .frzOf (by first | (simp; done) | decide) rfl rfl (fun _ => rfl))) | exact .r (.of0 (.c .d)) | refine .r ?_ | exact .of0 (.c .d) | exact .of0 .ep | exact .clo | exact .of0 (.c .nil) | exact .of0 (.c (cr_rowO (by simp) rfl (by first | rfl | omega) (fun _ => rfl))) | refine .of0 (.agg ?_) | exact .d | exact .nil | exact .of0 (.c (cr_row (by decide) rfl rfl (by repeat' (first | exact trivial | refine ⟨?_, ?_⟩ | rfl)))))) <;> fail) (by (repeat' (first | exact trivial | refine ⟨⟨_, rfl, ?_⟩, ?_⟩ | exact .boxD rfl rfl | exact .rowD rfl rowOf_isD | exact .mapO (fun _ => rfl) rfl | exact .pin rfl | refine .box ?_ | exact .nil | refine .cons ?_ ?_ | exact .d | exact .ptr rfl | exact .row rfl rfl | (refine .row rfl ?_; ((try dsimp only); first | rfl | omega | (simp only [lns] <;> omega)); done) | exact .fn rfl | exact .mp rfl | exact .frzOf (by first | (simp; done) | decide) rfl rfl (fun _ => rfl))) <;> fail) rfl rfl rfl (by first | rfl | (simp only [List.all_cons, List.all_nil, rowOf_flatB]; rfl)) rfl (by first | rfl | (simp only [wfRes, wfL, wfArgs, wfs, mpO_namesB, mpO_namesI]; rfl)) rfl rfl rfl (by (simp only [newW, List.map_cons, List.map_nil, Blk.ren, C.ren, rowOf_ren, mpO_renB, mpO_renI, gW, memN, nmL, Nat.reduceBEq, Bool.or_false, Bool.or_true, Bool.false_or, Bool.true_or, cond_true, cond_false, Nat.reduceMul, Nat.reduceAdd]) <;> rfl) (by (simp only [AV.ren, AV.ren0, List.map_cons, List.map_nil, C.ren, gW, memN, nmL, Nat.reduceBEq, Bool.or_false, Bool.or_true, Bool.false_or, Bool.true_or, cond_true, cond_false, Nat.reduceMul, Nat.reduceAdd]) <;> rfl) rfl ?_))
    | (show VR _ _ _ [] _ _ _; first | refine vr_nil ?_)
    | (show thenQ _ _ _ _; first | refine q_then_n ?_)
    | (show VC _ (.seq _ _) _ _; (fail_if_success (show VC _ (.seq (.seq (.region 24 _ _) _) _) _ _)); (fail_if_success (show VC _ (.seq (.region 24 _ _) _) _ _)); refine vc_seq ?_)
    | refine vc_region ?_
    | (show VC _ (.cond _ _ _) _ _; first | refine vc_cond_t rfl ?_ | refine vc_cond_f rfl ?_ | refine x_know rfl (by assumption) ?_)
    | refine vc_skip ?_
    | fail)
  refine VC.le (σ' := stOf [(1, .c (.ptr 1 0)), (2, AD (.str ⟨#[]⟩)), (3, AI 0), (4, .c (.ptr 100 0))] [(1, .box f.cs), (100, .box [.row 101 (encW f).length, .d (.int .i64 0)]), (101, .row 5 1 (rowOf enc8 (encW f)))]) ?_ ?_
  · refine le_gen0 (fun n => if n = 101 then 82102 else n) ?_ ?_ rfl (by first | rfl | (simp only [wfL, wfs, mpO_namesB, mpO_namesI]; rfl))
    all_goals repeat' (first | exact trivial | refine ⟨⟨_, rfl, ?_⟩, ?_⟩ | exact .c .d | exact .c (.ptr rfl) | exact .boxD rfl rfl | exact .rowD rfl rowOf_isD | refine .box ?_ | exact .nil | refine .cons ?_ ?_ | exact .d | exact .row rfl rfl | fail)
  repeat' (first
    | (show VR _ _ _ (_ :: _) _ _ _; first | refine x_opF rfl (by first | exact True.intro | omega) ?_ | (show VR _ _ _ (⟨_, .call ⟨.value _, _, _⟩, _, _, _, _⟩ :: _) _ _ _; first | refine vr_calldU (u9) (gk rfl) rfl rfl rfl (by first | rfl | (simp only [wfRes, wfL, wfArgs, wfs, mpO_namesB, mpO_namesI]; rfl)) rfl (by first | exact newB_nil | exact newB_O | ((simp only [newB, List.map_cons, List.map_nil, Blk.shift, rowOf_shift]) <;> rfl) | rfl) rfl ?_ | refine vr_callW (nmL []) [] [100, 101] (u8) (gk rfl) rfl rfl (by (repeat' (first | exact .nil | refine .cons ?_ ?_ | exact .w (.c (.ptr rfl)) rfl | exact .w (.c (.row rfl rfl)) rfl | exact .w (.c (.mp rfl)) rfl | exact .w (.c (.fn rfl)) rfl | exact .w (.rp rfl) rfl | (refine .w (.fncC ?_) rfl; repeat' (first | exact .nil | refine .cons ?_ ?_ | exact .d | exact .ptr rfl | exact .row rfl rfl | (refine .row rfl ?_; ((try dsimp only); first | rfl | omega | (simp only [lns] <;> omega)); done) | exact .fn rfl | exact .mp rfl | exact .frzOf (by first | (simp; done) | decide) rfl rfl (fun _ => rfl))) | exact .r (.of0 (.c .d)) | refine .r ?_ | exact .of0 (.c .d) | exact .of0 .ep | exact .clo | exact .of0 (.c .nil) | exact .of0 (.c (cr_rowO (by simp) rfl (by first | rfl | omega) (fun _ => rfl))) | refine .of0 (.agg ?_) | exact .d | exact .nil | exact .of0 (.c (cr_row (by decide) rfl rfl (by repeat' (first | exact trivial | refine ⟨?_, ?_⟩ | rfl)))))) <;> fail) (by (repeat' (first | exact trivial | refine ⟨⟨_, rfl, ?_⟩, ?_⟩ | exact .boxD rfl rfl | exact .rowD rfl rowOf_isD | exact .mapO (fun _ => rfl) rfl | exact .pin rfl | refine .box ?_ | exact .nil | refine .cons ?_ ?_ | exact .d | exact .ptr rfl | exact .row rfl rfl | (refine .row rfl ?_; ((try dsimp only); first | rfl | omega | (simp only [lns] <;> omega)); done) | exact .fn rfl | exact .mp rfl | exact .frzOf (by first | (simp; done) | decide) rfl rfl (fun _ => rfl))) <;> fail) rfl rfl rfl (by first | rfl | (simp only [List.all_cons, List.all_nil, rowOf_flatB]; rfl)) rfl (by first | rfl | (simp only [wfRes, wfL, wfArgs, wfs, mpO_namesB, mpO_namesI]; rfl)) rfl rfl rfl (by (simp only [newW, List.map_cons, List.map_nil, Blk.ren, C.ren, rowOf_ren, mpO_renB, mpO_renI, gW, memN, nmL, Nat.reduceBEq, Bool.or_false, Bool.or_true, Bool.false_or, Bool.true_or, cond_true, cond_false, Nat.reduceMul, Nat.reduceAdd]) <;> rfl) (by (simp only [AV.ren, AV.ren0, List.map_cons, List.map_nil, C.ren, gW, memN, nmL, Nat.reduceBEq, Bool.or_false, Bool.or_true, Bool.false_or, Bool.true_or, cond_true, cond_false, Nat.reduceMul, Nat.reduceAdd]) <;> rfl) rfl ?_))
    | (show VR _ _ _ [] _ _ _; first | refine vr_nil ?_)
    | (show thenQ _ _ _ _; first | refine q_then_n ?_)
    | refine vc_seq ?_
    | refine vc_region ?_
    | (show VC _ (.cond _ _ _) _ _; first | refine vc_cond_f rfl ?_ | refine x_know rfl (by assumption) ?_)
    | refine vc_ret ?_ | refine vc_skip ?_
    | fail)
  exact ret_d2 isRet_r rfl rfl rfl rfl
end Go.Proofs


