/-
  What functions of the given program hand back, by walks over its code, and plain laws on that. No condition.
-/
import Derived.Test.YtecdajajocafdaaGreatSxP18xd
import Derived.Test.YtecdajajocafdaaGreatSxLibC
-- SXS
-- SXM
-- SXB
-- SXN
namespace Go.Proofs
open Go Go.Sx Go.Proofs.T Go.Proofs.Q
set_option maxRecDepth 4000
set_option linter.unusedSimpArgs false
set_option linter.unusedVariables false
attribute [local irreducible] VR VC thenQ blockQ retL
theorem tab1_ar {σ : St} {L : List Nat} {nm n T : Nat} {xs : List (List C)} {a b : Int} (t : Tb) (hL : nm ∈ L) (hb : σ (.b nm) = some (.k (.row T 6 xs))) (hx : xs = rowOf TC.enc t.cells) (hn : n = t.cells.length) (ha : a = t.node) (hb' : b = t.len) :
    AR Tryz.prog σ L (.agg [.d (.int .i64 a), .d (.int .i64 b), .row nm n]) (tbA t) := tab_ar t hL hb hx hn ha hb'
theorem f_new9A : FnS Tryz.prog 11 [tbA t9A, AI 1, AI 0] [] (.tup [stA (staOf t9A 1 0), AI 0]) [] := by
  have h := new_spec t9A 1 0
  rwa [new9A] at h
theorem f_new9B : FnS Tryz.prog 11 [tbA t9B, AI 1, AI 0] [] (.tup [stA (flB 0 0 ⟨#[]⟩ false), AI 0]) [] := by
  have h := new_spec t9B 1 0
  rwa [new9B] at h
theorem f_hold9A {F U : Int} {d : ByteArray} (h : OkF F U d) : FnS Tryz.prog 25 [stA (staOf t9A 1 0), hdA (hF F U d)] [] (.tup [stA (flA F U d false), AI 0]) [] := by
  have h1 := hold_spec (staOf t9A 1 0) (hF F U d)
  rwa [hold9A h] at h1
theorem f_hold9B {F U : Int} {d : ByteArray} (h : OkF F U d) : FnS Tryz.prog 25 [stA (flB F U d false), hdA (hF F U d)] [] (.tup [stA (flB F U d true), AI 0]) [] := by
  have h1 := hold_spec (flB F U d false) (hF F U d)
  rwa [hold9B h] at h1
theorem f_act9 {F U : Int} {d : ByteArray} (h : OkF F U d) (k : Bool) (i : Nat) (hi : i < 40) (hu : (k = false ∧ 2 * (i : Int) ≤ U)) : FnS Tryz.prog 16 [stA (flA F U d k), AI (2 * i)] [] (.tup [acA (frX F d), AI 0]) [] := by
  have h1 := act_spec (flA F U d k) (2 * i)
  have e : actS (flA F U d k) (2 * i) = (frX F d, 0) := by
    rw [actS, if_neg (by have := okA h k; omega), if_neg (by omega), show (flA F U d k).tb = t9A from rfl, at9A, act9, if_pos hu]
  rwa [e] at h1
theorem f_act9z {F U : Int} {d : ByteArray} (h : OkF F U d) (k : Bool) (i : Nat) (hi : i < 40) (hu : ¬ (k = false ∧ 2 * (i : Int) ≤ U)) : FnS Tryz.prog 16 [stA (flA F U d k), AI (2 * i)] [] (.tup [acA zAc, AI 0]) [] := by
  have h1 := act_spec (flA F U d k) (2 * i)
  have e : actS (flA F U d k) (2 * i) = (zAc, 0) := by
    rw [actS, if_neg (by have := okA h k; omega), if_neg (by omega), show (flA F U d k).tb = t9A from rfl, at9A, act9, if_neg hu]
  rwa [e] at h1
theorem f_done9B {F U : Int} {d : ByteArray} (h : OkF F U d) (k b : Bool) (i : Nat) (hi : i < 40) : FnS Tryz.prog 19 [stA (flB F U d k), AI (2 * i), rsA (rB F d b)] [] (.tup [stA (flB F U d k), upA (if b = true then upOf (frF F d) (!k) else zUp), AI 0]) [] := by
  have h1 := done_spec (flB F U d k) (2 * i) (rB F d b)
  have e : doneS (flB F U d k) (2 * i) (rB F d b) = (flB F U d k, if b = true then upOf (frF F d) (!k) else zUp, 0) := by
    rw [doneS, if_neg (by have := okB h k; omega), if_neg (by omega), show (flB F U d k).tb = t9B from rfl, at9B, done9B h]
  rwa [e] at h1
theorem f_done9A {F U : Int} {d : ByteArray} (h : OkF F U d) (b : Bool) (i : Nat) (hi : i < 40) (hu : 2 * (i : Int) ≤ U) : FnS Tryz.prog 19 [stA (flA F U d false), AI (2 * i), rsA (rA b)] [] (.tup [stA (flA F U d b), upA zUp, AI 0]) [] := by
  have h1 := done_spec (flA F U d false) (2 * i) (rA b)
  have e : doneS (flA F U d false) (2 * i) (rA b) = (flA F U d b, zUp, 0) := by
    rw [doneS, if_neg (by have := okA h false; omega), if_neg (by omega), show (flA F U d false).tb = t9A from rfl, at9A, done9A b i hu]
  rwa [e] at h1
abbrev enc8' (x : Int) : List D := [.int .u8 x]
set_option maxHeartbeats 1000000 in
theorem lawFlows_spec (F U : Int) (d : ByteArray) (fs : List Int) (hF' : 0 ≤ F ∧ F ≤ 65535) (hU : 0 ≤ U ∧ U ≤ 255) (hfs : ∀ x ∈ fs, 0 ≤ x ∧ x < 256) :
    FnS Tryz.prog 7 [AD (.int .u16 F), AD (.int .u8 U), AD (.str d), AD (rdOf enc8' 1 fs)] [] (AB true) [] := by
  refine FnS.of_body (enters_of Tryz.func7 (by kernel_rfl) rfl) Tryz.func7 rfl Tryz.ntmps7 Tryz.results7 rfl rfl rfl rfl fun E hS => ?_
  by_cases h1 : 40 < fs.length
  · have hd1 : decide ((40 : Int) < (fs.length : Int)) = true := decide_eq_true (by omega)
    repeat' (first
      | (show VR _ _ _ (_ :: _) _ _ _; first | refine x_opF rfl (by first | exact True.intro | omega) ?_ | (show VR _ _ _ (⟨_, .call ⟨.value _, _, _⟩, _, _, _, _⟩ :: _) _ _ _; first | refine vr_calldU (awake_spec) (gk rfl) rfl rfl rfl (by first | rfl | (simp only [wfRes, wfL, wfArgs, wfs, mpO_namesB, mpO_namesI]; rfl)) rfl (by first | exact newB_nil | exact newB_O | ((simp only [newB, List.map_cons, List.map_nil, Blk.shift, rowOf_shift]) <;> rfl) | rfl) rfl ?_) | refine x_gknow rfl (by assumption) ?_)
      | (show VR _ _ _ [] _ _ _; first | refine vr_nil ?_)
      | (show thenQ _ _ _ _; first | refine q_then_n ?_ | refine q_then_r ?_)
      | refine vc_seq ?_
      | refine vc_region ?_
      | (show VC _ (.cond _ _ _) _ _; first | refine vc_cond_t rfl ?_ | refine vc_cond_f rfl ?_)
      | refine vc_ret ?_ | refine vc_skip ?_
      | fail)
    all_goals exact ret_bool isRet_r rfl rfl
  · have hd1 : decide ((40 : Int) < (fs.length : Int)) = false := decide_eq_false (by omega)
    by_cases h2 : 100 < d.size
    · have hd2 : decide ((100 : Int) < (d.size : Int)) = true := decide_eq_true (by omega)
      repeat' (first
        | (show VR _ _ _ (_ :: _) _ _ _; first | refine x_opF rfl (by first | exact True.intro | omega) ?_ | (show VR _ _ _ (⟨_, .call ⟨.value _, _, _⟩, _, _, _, _⟩ :: _) _ _ _; first | refine vr_calldU (awake_spec) (gk rfl) rfl rfl rfl (by first | rfl | (simp only [wfRes, wfL, wfArgs, wfs, mpO_namesB, mpO_namesI]; rfl)) rfl (by first | exact newB_nil | exact newB_O | ((simp only [newB, List.map_cons, List.map_nil, Blk.shift, rowOf_shift]) <;> rfl) | rfl) rfl ?_) | refine x_gknow rfl (by assumption) ?_)
        | (show VR _ _ _ [] _ _ _; first | refine vr_nil ?_)
        | (show thenQ _ _ _ _; first | refine q_then_n ?_ | refine q_then_r ?_)
        | refine vc_seq ?_
        | refine vc_region ?_
        | (show VC _ (.cond _ _ _) _ _; first | refine vc_cond_t rfl ?_ | refine vc_cond_f rfl ?_ | refine x_know rfl (by assumption) ?_)
        | refine vc_ret ?_ | refine vc_skip ?_
        | fail)
      all_goals exact ret_bool isRet_r rfl rfl
    · have hd2 : decide ((100 : Int) < (d.size : Int)) = false := decide_eq_false (by omega)
      have ok : OkF F U d := ⟨hF'.1, hF'.2, hU.1, hU.2, by omega⟩
      repeat' (first
        | (show VR _ _ _ (_ :: _) _ _ _; first | refine x_opF rfl (by first | exact True.intro | omega) ?_ | (show VR _ _ _ (⟨_, .call ⟨.value _, _, _⟩, _, _, _, _⟩ :: _) _ _ _; first | refine vr_calldU (awake_spec) (gk rfl) rfl rfl rfl (by first | rfl | (simp only [wfRes, wfL, wfArgs, wfs, mpO_namesB, mpO_namesI]; rfl)) rfl (by first | exact newB_nil | exact newB_O | ((simp only [newB, List.map_cons, List.map_nil, Blk.shift, rowOf_shift]) <;> rfl) | rfl) rfl ?_) | refine x_gknow rfl (by assumption) ?_)
        | (show VR _ _ _ [] _ _ _; first | refine vr_nil ?_)
        | (show thenQ _ _ _ _; first | refine q_then_n ?_)
        | (show VC _ (.seq _ _) _ _; (fail_if_success (show VC _ (.seq (.seq (.region 5 _ _) _) _) _ _)); (fail_if_success (show VC _ (.seq (.region 5 _ _) _) _ _)); refine vc_seq ?_)
        | refine vc_region ?_
        | (show VC _ (.cond _ _ _) _ _; first | refine vc_cond_f rfl ?_ | refine x_know rfl (by assumption) ?_)
        | refine vc_skip ?_
        | fail)
      repeat' (first
        | (show VR _ _ _ (_ :: _) _ _ _; first | refine x_opF rfl (by first | exact True.intro | omega) ?_ | (show VR _ _ _ (⟨_, .call ⟨.value _, _, _⟩, _, _, _, _⟩ :: _) _ _ _; first | refine vr_callZ (nmL []) [41] [] (FnS.toW (f_new9A)) (gk rfl) rfl rfl (by (repeat' (first | exact .nil | refine .cons ?_ ?_ | exact .w (.c (.ptr rfl)) rfl | exact .w (.c (.row rfl rfl)) rfl | exact .w (.c (.mp rfl)) rfl | exact .w (.c (.fn rfl)) rfl | exact .w (.rp rfl) rfl | (refine .w (.fncC ?_) rfl; repeat' (first | exact .nil | refine .cons ?_ ?_ | exact .d | exact .ptr rfl | exact .row rfl rfl | (refine .row rfl ?_; ((try dsimp only); first | rfl | omega | (simp only [lns] <;> omega)); done) | exact .fn rfl | exact .mp rfl | exact .frzOf (by first | (simp; done) | decide) rfl rfl (fun _ => rfl))) | exact .r (.of0 (.c .d)) | refine .r ?_ | exact .of0 (.c .d) | exact .of0 .ep | exact .clo | exact (tab1_ar t9A (by decide) rfl rfl rfl rfl rfl) | exact .of0 (.c .nil) | exact .of0 (.c (cr_rowO (by simp) rfl (by first | rfl | omega) (fun _ => rfl))) | refine .of0 (.agg ?_) | exact .d | exact .nil | exact .of0 (.c (cr_row (by decide) rfl rfl (by repeat' (first | exact trivial | refine ⟨?_, ?_⟩ | rfl)))))) <;> fail) trivial rfl rfl rfl hS rfl (by first | rfl | (simp only [wfRes, wfL, wfArgs, wfs, mpO_namesB, mpO_namesI]; rfl)) rfl rfl rfl rfl (by (simp only [newW, List.map_cons, List.map_nil, Blk.ren, C.ren, rowOf_ren, mpO_renB, mpO_renI, gW, memN, nmL, Nat.reduceBEq, Bool.or_false, Bool.or_true, Bool.false_or, Bool.true_or, cond_true, cond_false, Nat.reduceMul, Nat.reduceAdd]) <;> rfl) (by (simp only [AV.ren, AV.ren0, List.map_cons, List.map_nil, C.ren, gW, memN, nmL, Nat.reduceBEq, Bool.or_false, Bool.or_true, Bool.false_or, Bool.true_or, cond_true, cond_false, Nat.reduceMul, Nat.reduceAdd]) <;> rfl) rfl ?_))
        | (show VR _ _ _ [] _ _ _; first | refine vr_nil ?_)
        | (show thenQ _ _ _ _; first | refine q_then_n ?_)
        | (show VC _ (.seq _ _) _ _; (fail_if_success (show VC _ (.seq (.seq (.region 6 _ _) _) _) _ _)); (fail_if_success (show VC _ (.seq (.region 6 _ _) _) _ _)); refine vc_seq ?_)
        | refine vc_region ?_
        | fail)
      repeat' (first
        | (show VR _ _ _ (_ :: _) _ _ _; first | refine x_opF rfl (by first | exact True.intro | omega) ?_ | (show VR _ _ _ (⟨_, .call ⟨.value _, _, _⟩, _, _, _, _⟩ :: _) _ _ _; first | refine vr_callZ (nmL []) [48] [] (FnS.toW (f_new9B)) (gk rfl) rfl rfl (by (repeat' (first | exact .nil | refine .cons ?_ ?_ | exact .w (.c (.ptr rfl)) rfl | exact .w (.c (.row rfl rfl)) rfl | exact .w (.c (.mp rfl)) rfl | exact .w (.c (.fn rfl)) rfl | exact .w (.rp rfl) rfl | (refine .w (.fncC ?_) rfl; repeat' (first | exact .nil | refine .cons ?_ ?_ | exact .d | exact .ptr rfl | exact .row rfl rfl | (refine .row rfl ?_; ((try dsimp only); first | rfl | omega | (simp only [lns] <;> omega)); done) | exact .fn rfl | exact .mp rfl | exact .frzOf (by first | (simp; done) | decide) rfl rfl (fun _ => rfl))) | exact .r (.of0 (.c .d)) | refine .r ?_ | exact .of0 (.c .d) | exact .of0 .ep | exact .clo | exact (tab1_ar t9B (by decide) rfl rfl rfl rfl rfl) | exact .of0 (.c .nil) | exact .of0 (.c (cr_rowO (by simp) rfl (by first | rfl | omega) (fun _ => rfl))) | refine .of0 (.agg ?_) | exact .d | exact .nil | exact .of0 (.c (cr_row (by decide) rfl rfl (by repeat' (first | exact trivial | refine ⟨?_, ?_⟩ | rfl)))))) <;> fail) trivial rfl rfl rfl hS rfl (by first | rfl | (simp only [wfRes, wfL, wfArgs, wfs, mpO_namesB, mpO_namesI]; rfl)) rfl rfl rfl rfl (by (simp only [newW, List.map_cons, List.map_nil, Blk.ren, C.ren, rowOf_ren, mpO_renB, mpO_renI, gW, memN, nmL, Nat.reduceBEq, Bool.or_false, Bool.or_true, Bool.false_or, Bool.true_or, cond_true, cond_false, Nat.reduceMul, Nat.reduceAdd]) <;> rfl) (by (simp only [AV.ren, AV.ren0, List.map_cons, List.map_nil, C.ren, gW, memN, nmL, Nat.reduceBEq, Bool.or_false, Bool.or_true, Bool.false_or, Bool.true_or, cond_true, cond_false, Nat.reduceMul, Nat.reduceAdd]) <;> rfl) rfl ?_))
        | (show VR _ _ _ [] _ _ _; first | refine vr_nil ?_)
        | (show thenQ _ _ _ _; first | refine q_then_n ?_)
        | (show VC _ (.seq _ _) _ _; (fail_if_success (show VC _ (.seq (.seq (.region 7 _ _) _) _) _ _)); (fail_if_success (show VC _ (.seq (.region 7 _ _) _) _ _)); refine vc_seq ?_)
        | refine vc_region ?_
        | fail)
      repeat' (first
        | (show VR _ _ _ (_ :: _) _ _ _; first | refine x_opF rfl (by first | exact True.intro | omega) ?_ | (show VR _ _ _ (⟨_, .convert _ _ _, _, _, _, _⟩ :: _) _ _ _; first | refine vr_convert_id (gk rfl) rfl ⟨_, rfl⟩ rfl (by first | exact wrap_i64 (by omega) | exact wrap_u64 (by omega) | exact wrap_u16 (by omega) | exact wrap_u8 (by omega) | exact wrap_u32 (by omega)) rfl ?_))
        | (show VR _ _ _ [] _ _ _; first | refine vr_nil ?_)
        | (show thenQ _ _ _ _; first | refine q_then_n ?_)
        | (show VC _ (.seq _ _) _ _; (fail_if_success (show VC _ (.seq (.seq (.region 8 _ _) _) _) _ _)); (fail_if_success (show VC _ (.seq (.region 8 _ _) _) _ _)); refine vc_seq ?_)
        | refine vc_region ?_
        | fail)
      refine VC.le (σ' := stOf [(0, AD (.int .u16 F)), (1, AD (.int .u8 U)), (2, AD (.str d)), (3, AD (rdOf enc8' 1 fs)), (9, .c (.ptr 9 0)), (10, AI 0), (11, .c (.ptr 11 0)), (12, AI 0), (13, .c (.ptr 13 0))] [(9, .box (staOf t9A 1 0).cs), (11, .box (flB F U d false).cs), (13, .box (hF F U d).cs)]) ?_ ?_
      · refine le_gen0 (fun n => n) ?_ ?_ rfl (by first | rfl | (simp only [wfL, wfs, mpO_namesB, mpO_namesI]; rfl))
        all_goals repeat' (first | exact trivial | refine ⟨⟨_, rfl, ?_⟩, ?_⟩ | exact .c .d | exact .c (.ptr rfl) | exact .boxD rfl rfl | refine .box ?_ | exact .nil | refine .cons ?_ ?_ | exact .d | fail)
      repeat' (first
        | (show VR _ _ _ (_ :: _) _ _ _; first | refine x_opF rfl (by first | exact True.intro | omega) ?_ | (show VR _ _ _ (⟨_, .call ⟨.value _, _, _⟩, _, _, _, _⟩ :: _) _ _ _; first | refine vr_calldU (f_hold9A ok) (gk rfl) rfl rfl rfl (by first | rfl | (simp only [wfRes, wfL, wfArgs, wfs, mpO_namesB, mpO_namesI]; rfl)) rfl (by first | exact newB_nil | exact newB_O | ((simp only [newB, List.map_cons, List.map_nil, Blk.shift, rowOf_shift]) <;> rfl) | rfl) rfl ?_))
        | (show VR _ _ _ [] _ _ _; first | refine vr_nil ?_)
        | (show thenQ _ _ _ _; first | refine q_then_n ?_)
        | refine vc_seq ?_
        | refine vc_region ?_
        | (show VC _ (.cond _ _ _) _ _; first | refine vc_cond_f rfl ?_)
        | refine vc_block ?_ | refine vc_skip ?_
        | fail)
      refine vc_loopI (ι := Nat × Bool × Bool) (fun s => stOf [(0, AD (.int .u16 F)), (1, AD (.int .u8 U)), (2, AD (.str d)), (9, .c (.ptr 9 0)), (11, .c (.ptr 11 0)), (13, .c (.ptr 13 0)), (15, AB s.2.1), (16, AB s.2.2), (75, AD (rdOf enc8' 1 fs)), (76, AI fs.length), (77, AI s.1)] [(9, .box (flA F U d s.2.1).cs), (11, .box (flB F U d s.2.2).cs), (13, .box (hF F U d).cs)]) (fun s => s.1 ≤ fs.length) (fun s => fs.length - s.1) (0, false, false) (Nat.zero_le _) ?_ ?_
      · refine le_gen0 (fun n => n) ?_ ?_ rfl (by first | rfl | (simp only [wfL, wfs, mpO_namesB, mpO_namesI]; rfl))
        all_goals repeat' (first | exact trivial | refine ⟨⟨_, rfl, ?_⟩, ?_⟩ | exact .c .d | exact .c (.ptr rfl) | exact .boxD rfl rfl | fail)
      · rintro ⟨k, a, b⟩ hk
        dsimp only at hk ⊢
        rcases Nat.lt_or_ge k fs.length with hlt | hge
        · have hdd : decide ((k : Int) < (fs.length : Int)) = true := decide_eq_true (by omega)
          have hk40 : k < 40 := by omega
          by_cases hu : a = false ∧ 2 * (k : Int) ≤ U
          · obtain ⟨rfl, hu⟩ := hu
            have hdu : decide (2 * (k : Int) ≤ U) = true := decide_eq_true hu
            have dk : (decide ((frX F d).kind = 1) != decide (2 * (k : Int) ≤ U)) = false := by rw [hdu]; rfl
            repeat' (first
              | (show VR _ _ _ (_ :: _) _ _ _; first | refine x_opF rfl (by first | exact True.intro | omega) ?_ | (show VR _ _ _ (⟨_, .call ⟨.value _, _, _⟩, _, _, _, _⟩ :: _) _ _ _; first | refine vr_calldU (f_act9 ok false k hk40 ⟨rfl, hu⟩) (gk rfl) rfl rfl rfl (by first | rfl | (simp only [wfRes, wfL, wfArgs, wfs, mpO_namesB, mpO_namesI]; rfl)) rfl (by first | exact newB_nil | exact newB_O | ((simp only [newB, List.map_cons, List.map_nil, Blk.shift, rowOf_shift]) <;> rfl) | rfl) rfl ?_) | (show VR _ _ _ (⟨_, .indexAddr _ _ _, _, _, _, _⟩ :: _) _ _ _; first | refine vr_index_rd (gk rfl) rfl rfl rfl rfl rfl (by omega) rfl ?_) | (show VR _ _ _ (⟨_, .convert _ _ _, _, _, _, _⟩ :: _) _ _ _; first | refine vr_convert_id (gk rfl) rfl ⟨_, rfl⟩ rfl (by first | exact wrap_i64 (by omega) | exact wrap_u64 (by omega) | exact wrap_u16 (by omega) | exact wrap_u8 (by omega) | exact wrap_u32 (by omega)) rfl ?_))
              | (show VR _ _ _ [] _ _ _; first | refine vr_nil ?_)
              | (show thenQ _ _ _ _; first | refine q_then_n ?_ | refine q_then_x ?_)
              | (show blockQ _ _ _ _; first | refine q_blk_x ?_)
              | (show VC _ (.seq _ _) _ _; (fail_if_success (show VC _ (.seq (.seq (.region 20 _ _) _) _) _ _)); (fail_if_success (show VC _ (.seq (.region 20 _ _) _) _ _)); refine vc_seq ?_)
              | refine vc_region ?_
              | (show VC _ (.cond _ _ _) _ _; first | refine vc_cond_t rfl ?_ | refine vc_cond_f rfl ?_ | refine x_know rfl (by assumption) ?_ | (refine x_cond rfl ?_ ?_ <;> intro h <;> have hq := h <;> (try simp only [hqs] at hq)))
              | refine vc_exit ?_ | refine vc_block ?_ | refine vc_skip ?_
              | fail)
            all_goals first
              | (exfalso; simp_all; done)
              | (exfalso; omega)
              | skip
            refine VC.le (σ' := stOf [(0, AD (.int .u16 F)), (1, AD (.int .u8 U)), (2, AD (.str d)), (9, .c (.ptr 9 0)), (11, .c (.ptr 11 0)), (13, .c (.ptr 13 0)), (15, AB false), (16, AB b), (17, AI k), (18, AD (.int .u8 (fs.getD k default))), (19, .c (.ptr 19 0)), (75, AD (rdOf enc8' 1 fs)), (76, AI fs.length), (77, AI k)] [(9, .box (flA F U d false).cs), (11, .box (flB F U d b).cs), (13, .box (hF F U d).cs), (19, .box (frX F d).cs)]) ?_ ?_
            · refine le_gen0 (fun n => n) ?_ ?_ rfl (by first | rfl | (simp only [wfL, wfs, mpO_namesB, mpO_namesI]; rfl))
              all_goals repeat' (first | exact trivial | refine ⟨⟨_, rfl, ?_⟩, ?_⟩ | exact .c .d | exact .c (.ptr rfl) | exact .boxD rfl rfl | fail)
            have e1 : decide ((frX F d).flow ≠ 9) = false := by simp [frX]
            have e2 : decide ((frX F d).number ≠ F) = false := by simp [frX]
            have e3 : decide ((frX F d).data ≠ d) = false := by simp [frX]
            have e4 : decide ((frX F d).target ≠ 2) = false := by simp [frX]
            have hd := f_done9B ok b (decide (bitF .and .u8 (fs.getD k default) 1 = 0)) k hk40
            cases hh : decide (bitF .and .u8 (fs.getD k default) 1 = 0) with
            | false =>
              rw [if_neg (by rw [hh]; decide)] at hd
              have g1 : (zUp.some != decide (bitF .and .u8 (fs.getD k default) 1 = 0)) = false := by rw [hh]; rfl
              repeat' (first
                | (show VR _ _ _ (_ :: _) _ _ _; first | (show VR _ _ _ (⟨_, .binOp _ _ _ _ _, _, _, _, _⟩ :: _) _ _ _; first | refine vr_neqStr (gk rfl) rfl rfl rfl rfl ?_) | refine x_opF rfl (by first | exact True.intro | omega) ?_ | (show VR _ _ _ (⟨_, .call ⟨.value _, _, _⟩, _, _, _, _⟩ :: _) _ _ _; first | refine vr_calldU (hd) (gk rfl) rfl rfl rfl (by first | rfl | (simp only [wfRes, wfL, wfArgs, wfs, mpO_namesB, mpO_namesI]; rfl)) rfl (by first | exact newB_nil | exact newB_O | ((simp only [newB, List.map_cons, List.map_nil, Blk.shift, rowOf_shift]) <;> rfl) | rfl) rfl ?_) | (show VR _ _ _ (⟨_, .convert _ _ _, _, _, _, _⟩ :: _) _ _ _; first | refine vr_convert_id (gk rfl) rfl ⟨_, rfl⟩ rfl (by first | exact wrap_i64 (by omega) | exact wrap_u64 (by omega) | exact wrap_u16 (by omega) | exact wrap_u8 (by omega) | exact wrap_u32 (by omega)) rfl ?_) | (show VR _ _ _ (⟨_, .binOp _ _ _ _ _, _, _, _, _⟩ :: _) _ _ _; first | refine vr_bits (gk rfl) rfl rfl rfl rfl rfl ?_) | refine x_gknow rfl (by assumption) ?_)
                | (show VR _ _ _ [] _ _ _; first | refine vr_nil ?_)
                | (show thenQ _ _ _ _; first | refine q_then_n ?_)
                | (show VC _ (.seq _ _) _ _; (fail_if_success (show VC _ (.seq (.seq (.region 29 _ _) _) _) _ _)); (fail_if_success (show VC _ (.seq (.region 29 _ _) _) _ _)); refine vc_seq ?_)
                | refine vc_region ?_
                | (show VC _ (.cond _ _ _) _ _; first | refine vc_cond_f rfl ?_)
                | refine vc_skip ?_
                | fail)
              refine VC.le (σ' := stOf [(0, AD (.int .u16 F)), (1, AD (.int .u8 U)), (2, AD (.str d)), (9, .c (.ptr 9 0)), (11, .c (.ptr 11 0)), (13, .c (.ptr 13 0)), (16, AB b), (17, AI k), (18, AD (.int .u8 (fs.getD k default))), (22, AB (decide (bitF .and .u8 (fs.getD k default) 1 = 0))), (23, .c (.ptr 23 0)), (25, AI 0), (75, AD (rdOf enc8' 1 fs)), (76, AI fs.length), (77, AI k)] [(9, .box (flA F U d false).cs), (11, .box (flB F U d b).cs), (13, .box (hF F U d).cs), (23, .box (flB F U d b).cs)]) ?_ ?_
              · refine le_gen0 (fun n => n) ?_ ?_ rfl (by first | rfl | (simp only [wfL, wfs, mpO_namesB, mpO_namesI]; rfl))
                all_goals repeat' (first | exact trivial | refine ⟨⟨_, rfl, ?_⟩, ?_⟩ | exact .c .d | exact .c (.ptr rfl) | exact .boxD rfl rfl | fail)
              have hda := f_done9A ok false k hk40 hu
              repeat' (first
                | (show VR _ _ _ (_ :: _) _ _ _; first | refine x_opF rfl (by first | exact True.intro | omega) ?_ | (show VR _ _ _ (⟨_, .call ⟨.value _, _, _⟩, _, _, _, _⟩ :: _) _ _ _; first | refine vr_calldU (hda) (gk rfl) rfl rfl rfl (by first | rfl | (simp only [wfRes, wfL, wfArgs, wfs, mpO_namesB, mpO_namesI]; rfl)) rfl (by first | exact newB_nil | exact newB_O | ((simp only [newB, List.map_cons, List.map_nil, Blk.shift, rowOf_shift]) <;> rfl) | rfl) rfl ?_) | refine x_gknow rfl (by assumption) ?_)
                | (show VR _ _ _ [] _ _ _; first | refine vr_nil ?_ | refine vr_nil_t (by kernel_rfl) ?_)
                | (show thenQ _ _ _ _; first | refine q_then_n ?_)
                | (show blockQ _ _ _ _; first | refine q_blk_n ?_)
                | (show VC _ (.seq _ _) _ _; (fail_if_success (show VC _ (.seq (.seq (.region 33 _ _) _) _) _ _)); (fail_if_success (show VC _ (.seq (.region 33 _ _) _) _ _)); refine vc_seq ?_)
                | refine vc_region ?_ | refine vc_region_t ?_
                | (show VC _ (.cond _ _ _) _ _; first | refine vc_cond_f rfl ?_)
                | refine vc_skip ?_
                | fail)
              skip
              refine ⟨(k + 1, false, b), by dsimp only; omega, by dsimp only; omega, ?_⟩
              dsimp only
              refine le_gen0 (fun n => n) ?_ ?_ rfl (by first | rfl | (simp only [wfL, wfs, mpO_namesB, mpO_namesI]; rfl))
              all_goals repeat' (first | exact trivial | refine ⟨⟨_, rfl, ?_⟩, ?_⟩ | exact .c .d | exact .c (.ptr rfl) | exact .boxD rfl rfl | fail)
            | true =>
              rw [if_pos (by rw [hh])] at hd
              have g1 : ((upOf (frF F d) (!b)).some != decide (bitF .and .u8 (fs.getD k default) 1 = 0)) = false := by rw [hh]; rfl
              cases b with
              | true =>
                have g2 : decide ((upOf (frF F d) (!true)).new = true) = false := rfl
                repeat' (first
                  | (show VR _ _ _ (_ :: _) _ _ _; first | (show VR _ _ _ (⟨_, .binOp _ _ _ _ _, _, _, _, _⟩ :: _) _ _ _; first | refine vr_neqStr (gk rfl) rfl rfl rfl rfl ?_) | refine x_opF rfl (by first | exact True.intro | omega) ?_ | (show VR _ _ _ (⟨_, .call ⟨.value _, _, _⟩, _, _, _, _⟩ :: _) _ _ _; first | refine vr_calldU (hd) (gk rfl) rfl rfl rfl (by first | rfl | (simp only [wfRes, wfL, wfArgs, wfs, mpO_namesB, mpO_namesI]; rfl)) rfl (by first | exact newB_nil | exact newB_O | ((simp only [newB, List.map_cons, List.map_nil, Blk.shift, rowOf_shift]) <;> rfl) | rfl) rfl ?_) | (show VR _ _ _ (⟨_, .convert _ _ _, _, _, _, _⟩ :: _) _ _ _; first | refine vr_convert_id (gk rfl) rfl ⟨_, rfl⟩ rfl (by first | exact wrap_i64 (by omega) | exact wrap_u64 (by omega) | exact wrap_u16 (by omega) | exact wrap_u8 (by omega) | exact wrap_u32 (by omega)) rfl ?_) | (show VR _ _ _ (⟨_, .binOp _ _ _ _ _, _, _, _, _⟩ :: _) _ _ _; first | refine vr_bits (gk rfl) rfl rfl rfl rfl rfl ?_) | refine x_gknow rfl (by assumption) ?_)
                  | (show VR _ _ _ [] _ _ _; first | refine vr_nil ?_)
                  | (show thenQ _ _ _ _; first | refine q_then_n ?_)
                  | (show VC _ (.seq _ _) _ _; (fail_if_success (show VC _ (.seq (.seq (.region 29 _ _) _) _) _ _)); (fail_if_success (show VC _ (.seq (.region 29 _ _) _) _ _)); refine vc_seq ?_)
                  | refine vc_region ?_
                  | (show VC _ (.cond _ _ _) _ _; first | refine vc_cond_f rfl ?_)
                  | refine vc_skip ?_
                  | fail)
                refine VC.le (σ' := stOf [(0, AD (.int .u16 F)), (1, AD (.int .u8 U)), (2, AD (.str d)), (9, .c (.ptr 9 0)), (11, .c (.ptr 11 0)), (13, .c (.ptr 13 0)), (16, AB true), (17, AI k), (18, AD (.int .u8 (fs.getD k default))), (22, AB (decide (bitF .and .u8 (fs.getD k default) 1 = 0))), (23, .c (.ptr 23 0)), (25, AI 0), (75, AD (rdOf enc8' 1 fs)), (76, AI fs.length), (77, AI k)] [(9, .box (flA F U d false).cs), (11, .box (flB F U d true).cs), (13, .box (hF F U d).cs), (23, .box (flB F U d true).cs)]) ?_ ?_
                · refine le_gen0 (fun n => n) ?_ ?_ rfl (by first | rfl | (simp only [wfL, wfs, mpO_namesB, mpO_namesI]; rfl))
                  all_goals repeat' (first | exact trivial | refine ⟨⟨_, rfl, ?_⟩, ?_⟩ | exact .c .d | exact .c (.ptr rfl) | exact .boxD rfl rfl | fail)
                have hda := f_done9A ok (decide (bitF .and .u8 (fs.getD k default) 2 = 0)) k hk40 hu
                repeat' (first
                  | (show VR _ _ _ (_ :: _) _ _ _; first | refine x_opF rfl (by first | exact True.intro | omega) ?_ | (show VR _ _ _ (⟨_, .call ⟨.value _, _, _⟩, _, _, _, _⟩ :: _) _ _ _; first | refine vr_calldU (hda) (gk rfl) rfl rfl rfl (by first | rfl | (simp only [wfRes, wfL, wfArgs, wfs, mpO_namesB, mpO_namesI]; rfl)) rfl (by first | exact newB_nil | exact newB_O | ((simp only [newB, List.map_cons, List.map_nil, Blk.shift, rowOf_shift]) <;> rfl) | rfl) rfl ?_) | (show VR _ _ _ (⟨_, .binOp _ _ _ _ _, _, _, _, _⟩ :: _) _ _ _; first | refine vr_bits (gk rfl) rfl rfl rfl rfl rfl ?_) | refine x_gknow rfl (by assumption) ?_)
                  | (show VR _ _ _ [] _ _ _; first | refine vr_nil ?_ | refine vr_nil_t (by kernel_rfl) ?_)
                  | (show thenQ _ _ _ _; first | refine q_then_n ?_)
                  | (show blockQ _ _ _ _; first | refine q_blk_n ?_)
                  | (show VC _ (.seq _ _) _ _; (fail_if_success (show VC _ (.seq (.seq (.region 33 _ _) _) _) _ _)); (fail_if_success (show VC _ (.seq (.region 33 _ _) _) _ _)); refine vc_seq ?_)
                  | refine vc_region ?_ | refine vc_region_t ?_
                  | (show VC _ (.cond _ _ _) _ _; first | refine vc_cond_f rfl ?_)
                  | refine vc_skip ?_
                  | fail)
                skip
                refine ⟨(k + 1, (decide (bitF .and .u8 (fs.getD k default) 2 = 0)), true), by dsimp only; omega, by dsimp only; omega, ?_⟩
                dsimp only
                refine le_gen0 (fun n => n) ?_ ?_ rfl (by first | rfl | (simp only [wfL, wfs, mpO_namesB, mpO_namesI]; rfl))
                all_goals repeat' (first | exact trivial | refine ⟨⟨_, rfl, ?_⟩, ?_⟩ | exact .c .d | exact .c (.ptr rfl) | exact .boxD rfl rfl | fail)
              | false =>
                have g2 : decide ((upOf (frF F d) (!false)).new = false) = false := rfl
                repeat' (first
                  | (show VR _ _ _ (_ :: _) _ _ _; first | (show VR _ _ _ (⟨_, .binOp _ _ _ _ _, _, _, _, _⟩ :: _) _ _ _; first | refine vr_neqStr (gk rfl) rfl rfl rfl rfl ?_) | refine x_opF rfl (by first | exact True.intro | omega) ?_ | (show VR _ _ _ (⟨_, .call ⟨.value _, _, _⟩, _, _, _, _⟩ :: _) _ _ _; first | refine vr_calldU (hd) (gk rfl) rfl rfl rfl (by first | rfl | (simp only [wfRes, wfL, wfArgs, wfs, mpO_namesB, mpO_namesI]; rfl)) rfl (by first | exact newB_nil | exact newB_O | ((simp only [newB, List.map_cons, List.map_nil, Blk.shift, rowOf_shift]) <;> rfl) | rfl) rfl ?_) | (show VR _ _ _ (⟨_, .convert _ _ _, _, _, _, _⟩ :: _) _ _ _; first | refine vr_convert_id (gk rfl) rfl ⟨_, rfl⟩ rfl (by first | exact wrap_i64 (by omega) | exact wrap_u64 (by omega) | exact wrap_u16 (by omega) | exact wrap_u8 (by omega) | exact wrap_u32 (by omega)) rfl ?_) | (show VR _ _ _ (⟨_, .binOp _ _ _ _ _, _, _, _, _⟩ :: _) _ _ _; first | refine vr_bits (gk rfl) rfl rfl rfl rfl rfl ?_) | refine x_gknow rfl (by assumption) ?_)
                  | (show VR _ _ _ [] _ _ _; first | refine vr_nil ?_)
                  | (show thenQ _ _ _ _; first | refine q_then_n ?_)
                  | (show VC _ (.seq _ _) _ _; (fail_if_success (show VC _ (.seq (.seq (.region 27 _ _) _) _) _ _)); (fail_if_success (show VC _ (.seq (.region 27 _ _) _) _ _)); refine vc_seq ?_)
                  | refine vc_region ?_
                  | (show VC _ (.cond _ _ _) _ _; first | refine vc_cond_t rfl ?_ | refine vc_cond_f rfl ?_)
                  | refine vc_skip ?_
                  | fail)
                refine VC.le (σ' := stOf [(0, AD (.int .u16 F)), (1, AD (.int .u8 U)), (2, AD (.str d)), (9, .c (.ptr 9 0)), (11, .c (.ptr 11 0)), (13, .c (.ptr 13 0)), (16, AB false), (17, AI k), (18, AD (.int .u8 (fs.getD k default))), (22, AB (decide (bitF .and .u8 (fs.getD k default) 1 = 0))), (23, .c (.ptr 23 0)), (25, AI 0), (75, AD (rdOf enc8' 1 fs)), (76, AI fs.length), (77, AI k)] [(9, .box (flA F U d false).cs), (11, .box (flB F U d false).cs), (13, .box (hF F U d).cs), (23, .box (flB F U d false).cs)]) ?_ ?_
                · refine le_gen0 (fun n => n) ?_ ?_ rfl (by first | rfl | (simp only [wfL, wfs, mpO_namesB, mpO_namesI]; rfl))
                  all_goals repeat' (first | exact trivial | refine ⟨⟨_, rfl, ?_⟩, ?_⟩ | exact .c .d | exact .c (.ptr rfl) | exact .boxD rfl rfl | fail)
                repeat' (first
                  | (show VR _ _ _ (_ :: _) _ _ _; first | refine x_opF rfl (by first | exact True.intro | omega) ?_ | (show VR _ _ _ (⟨_, .call ⟨.value _, _, _⟩, _, _, _, _⟩ :: _) _ _ _; first | refine vr_calldU (f_hold9B ok) (gk rfl) rfl rfl rfl (by first | rfl | (simp only [wfRes, wfL, wfArgs, wfs, mpO_namesB, mpO_namesI]; rfl)) rfl (by first | exact newB_nil | exact newB_O | ((simp only [newB, List.map_cons, List.map_nil, Blk.shift, rowOf_shift]) <;> rfl) | rfl) rfl ?_))
                  | (show VR _ _ _ [] _ _ _; first | refine vr_nil ?_)
                  | (show thenQ _ _ _ _; first | refine q_then_n ?_)
                  | (show VC _ (.seq _ _) _ _; (fail_if_success (show VC _ (.seq (.seq (.region 29 _ _) _) _) _ _)); (fail_if_success (show VC _ (.seq (.region 29 _ _) _) _ _)); refine vc_seq ?_)
                  | refine vc_region ?_
                  | fail)
                refine VC.le (σ' := stOf [(0, AD (.int .u16 F)), (1, AD (.int .u8 U)), (2, AD (.str d)), (9, .c (.ptr 9 0)), (11, .c (.ptr 11 0)), (13, .c (.ptr 13 0)), (16, AB true), (17, AI k), (18, AD (.int .u8 (fs.getD k default))), (22, AB (decide (bitF .and .u8 (fs.getD k default) 1 = 0))), (23, .c (.ptr 23 0)), (25, AI 0), (75, AD (rdOf enc8' 1 fs)), (76, AI fs.length), (77, AI k)] [(9, .box (flA F U d false).cs), (11, .box (flB F U d false).cs), (13, .box (hF F U d).cs), (23, .box (flB F U d true).cs)]) ?_ ?_
                · refine le_gen0 (fun n => n) ?_ ?_ rfl (by first | rfl | (simp only [wfL, wfs, mpO_namesB, mpO_namesI]; rfl))
                  all_goals repeat' (first | exact trivial | refine ⟨⟨_, rfl, ?_⟩, ?_⟩ | exact .c .d | exact .c (.ptr rfl) | exact .boxD rfl rfl | fail)
                have hda := f_done9A ok (decide (bitF .and .u8 (fs.getD k default) 2 = 0)) k hk40 hu
                repeat' (first
                  | (show VR _ _ _ (_ :: _) _ _ _; first | refine x_opF rfl (by first | exact True.intro | omega) ?_ | (show VR _ _ _ (⟨_, .call ⟨.value _, _, _⟩, _, _, _, _⟩ :: _) _ _ _; first | refine vr_calldU (hda) (gk rfl) rfl rfl rfl (by first | rfl | (simp only [wfRes, wfL, wfArgs, wfs, mpO_namesB, mpO_namesI]; rfl)) rfl (by first | exact newB_nil | exact newB_O | ((simp only [newB, List.map_cons, List.map_nil, Blk.shift, rowOf_shift]) <;> rfl) | rfl) rfl ?_) | (show VR _ _ _ (⟨_, .binOp _ _ _ _ _, _, _, _, _⟩ :: _) _ _ _; first | refine vr_bits (gk rfl) rfl rfl rfl rfl rfl ?_) | refine x_gknow rfl (by assumption) ?_)
                  | (show VR _ _ _ [] _ _ _; first | refine vr_nil ?_ | refine vr_nil_t (by kernel_rfl) ?_)
                  | (show thenQ _ _ _ _; first | refine q_then_n ?_)
                  | (show blockQ _ _ _ _; first | refine q_blk_n ?_)
                  | (show VC _ (.seq _ _) _ _; (fail_if_success (show VC _ (.seq (.seq (.region 33 _ _) _) _) _ _)); (fail_if_success (show VC _ (.seq (.region 33 _ _) _) _ _)); refine vc_seq ?_)
                  | refine vc_region ?_ | refine vc_region_t ?_
                  | (show VC _ (.cond _ _ _) _ _; first | refine vc_cond_f rfl ?_)
                  | refine vc_skip ?_
                  | fail)
                skip
                refine ⟨(k + 1, (decide (bitF .and .u8 (fs.getD k default) 2 = 0)), true), by dsimp only; omega, by dsimp only; omega, ?_⟩
                dsimp only
                refine le_gen0 (fun n => n) ?_ ?_ rfl (by first | rfl | (simp only [wfL, wfs, mpO_namesB, mpO_namesI]; rfl))
                all_goals repeat' (first | exact trivial | refine ⟨⟨_, rfl, ?_⟩, ?_⟩ | exact .c .d | exact .c (.ptr rfl) | exact .boxD rfl rfl | fail)
          · have dz : decide (zAc.kind = 1) = false := rfl
            cases a with
            | true =>
              have dz2 : (decide (zAc.kind = 1) != false) = false := rfl
              have dz3 : (!true) = false := rfl
              repeat' (first
                | (show VR _ _ _ (_ :: _) _ _ _; first | refine x_opF rfl (by first | exact True.intro | omega) ?_ | (show VR _ _ _ (⟨_, .call ⟨.value _, _, _⟩, _, _, _, _⟩ :: _) _ _ _; first | refine vr_calldU (f_act9z ok true k hk40 hu) (gk rfl) rfl rfl rfl (by first | rfl | (simp only [wfRes, wfL, wfArgs, wfs, mpO_namesB, mpO_namesI]; rfl)) rfl (by first | exact newB_nil | exact newB_O | ((simp only [newB, List.map_cons, List.map_nil, Blk.shift, rowOf_shift]) <;> rfl) | rfl) rfl ?_) | (show VR _ _ _ (⟨_, .indexAddr _ _ _, _, _, _, _⟩ :: _) _ _ _; first | refine vr_index_rd (gk rfl) rfl rfl rfl rfl rfl (by omega) rfl ?_))
                | (show VR _ _ _ [] _ _ _; first | refine vr_nil ?_)
                | (show thenQ _ _ _ _; first | refine q_then_n ?_ | refine q_then_x ?_)
                | (show blockQ _ _ _ _; first | refine q_blk_x ?_)
                | refine vc_seq ?_
                | refine vc_region ?_
                | (show VC _ (.cond _ _ _) _ _; first | refine vc_cond_t rfl ?_ | refine vc_cond_f rfl ?_ | refine x_know rfl (by assumption) ?_)
                | refine vc_exit ?_ | refine vc_block ?_ | refine vc_skip ?_
                | fail)
              all_goals first
                | (exfalso; simp_all; done)
                | skip
              refine ⟨(k + 1, true, b), by dsimp only; omega, by dsimp only; omega, ?_⟩
              dsimp only
              refine le_gen0 (fun n => n) ?_ ?_ rfl (by first | rfl | (simp only [wfL, wfs, mpO_namesB, mpO_namesI]; rfl))
              all_goals repeat' (first | exact trivial | refine ⟨⟨_, rfl, ?_⟩, ?_⟩ | exact .c .d | exact .c (.ptr rfl) | exact .boxD rfl rfl | fail)
            | false =>
              have hdu : decide (2 * (k : Int) ≤ U) = false := decide_eq_false (fun h => hu ⟨rfl, h⟩)
              have dz2 : (decide (zAc.kind = 1) != decide (2 * (k : Int) ≤ U)) = false := by rw [hdu]; rfl
              have dz3 : (!decide (2 * (k : Int) ≤ U)) = true := by rw [hdu]; rfl
              repeat' (first
                | (show VR _ _ _ (_ :: _) _ _ _; first | refine x_opF rfl (by first | exact True.intro | omega) ?_ | (show VR _ _ _ (⟨_, .call ⟨.value _, _, _⟩, _, _, _, _⟩ :: _) _ _ _; first | refine vr_calldU (f_act9z ok false k hk40 hu) (gk rfl) rfl rfl rfl (by first | rfl | (simp only [wfRes, wfL, wfArgs, wfs, mpO_namesB, mpO_namesI]; rfl)) rfl (by first | exact newB_nil | exact newB_O | ((simp only [newB, List.map_cons, List.map_nil, Blk.shift, rowOf_shift]) <;> rfl) | rfl) rfl ?_) | (show VR _ _ _ (⟨_, .indexAddr _ _ _, _, _, _, _⟩ :: _) _ _ _; first | refine vr_index_rd (gk rfl) rfl rfl rfl rfl rfl (by omega) rfl ?_) | (show VR _ _ _ (⟨_, .convert _ _ _, _, _, _, _⟩ :: _) _ _ _; first | refine vr_convert_id (gk rfl) rfl ⟨_, rfl⟩ rfl (by first | exact wrap_i64 (by omega) | exact wrap_u64 (by omega) | exact wrap_u16 (by omega) | exact wrap_u8 (by omega) | exact wrap_u32 (by omega)) rfl ?_))
                | (show VR _ _ _ [] _ _ _; first | refine vr_nil ?_)
                | (show thenQ _ _ _ _; first | refine q_then_n ?_ | refine q_then_x ?_)
                | (show blockQ _ _ _ _; first | refine q_blk_x ?_)
                | refine vc_seq ?_
                | refine vc_region ?_
                | (show VC _ (.cond _ _ _) _ _; first | refine vc_cond_t rfl ?_ | refine vc_cond_f rfl ?_ | refine x_know rfl (by assumption) ?_)
                | refine vc_exit ?_ | refine vc_block ?_ | refine vc_skip ?_
                | fail)
              refine ⟨(k + 1, false, b), by dsimp only; omega, by dsimp only; omega, ?_⟩
              dsimp only
              refine le_gen0 (fun n => n) ?_ ?_ rfl (by first | rfl | (simp only [wfL, wfs, mpO_namesB, mpO_namesI]; rfl))
              all_goals repeat' (first | exact trivial | refine ⟨⟨_, rfl, ?_⟩, ?_⟩ | exact .c .d | exact .c (.ptr rfl) | exact .boxD rfl rfl | fail)
        · have hdd : decide ((k : Int) < (fs.length : Int)) = false := decide_eq_false (by omega)
          repeat' (first
            | (show VR _ _ _ (_ :: _) _ _ _; first | refine x_opF rfl (by first | exact True.intro | omega) ?_)
            | (show VR _ _ _ [] _ _ _; first | refine vr_nil ?_)
            | (show thenQ _ _ _ _; first | refine q_then_n ?_ | refine q_then_x ?_)
            | (show blockQ _ _ _ _; first | refine q_blk_x ?_)
            | refine vc_seq ?_
            | refine vc_region ?_
            | (show VC _ (.cond _ _ _) _ _; first | refine vc_cond_f rfl ?_ | refine x_know rfl (by assumption) ?_)
            | refine vc_ret ?_ | refine vc_exit ?_
            | fail)
          exact ret_bool isRet_r rfl rfl
end Go.Proofs


