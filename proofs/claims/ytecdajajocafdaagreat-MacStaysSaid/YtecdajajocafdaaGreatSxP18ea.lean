/-
  What functions of the given program hand back, by walks over its code, and plain laws on that. No condition.
-/
import Derived.Test.YtecdajajocafdaaGreatSxP18ra
import Derived.Test.YtecdajajocafdaaGreatSxLibC
import Derived.Test.YtecdajajocafdaaGreatSxLibB
-- SXS
-- SXM
-- SXN
namespace Go.Proofs
open Go Go.Sx Go.Proofs.T Go.Proofs.Q
set_option maxRecDepth 4000
set_option linter.unusedSimpArgs false
set_option linter.unusedVariables false
attribute [local irreducible] VR VC thenQ blockQ retL

/-! The writer of bits: a box with an own row of bits. -/

theorem newW_spec : FnS Tryz.prog 66 [] [] (.c (.ptr 100 0)) [(100, .box [.row 101 0, .d (.int .i64 0)]), (101, .row 5 1 (rowOf enc8 []))] := by
  refine FnS.of_body (enters_of Tryz.func66 (by kernel_rfl) rfl) Tryz.func66 rfl Tryz.ntmps66 Tryz.results66 rfl rfl rfl rfl fun E hS => ?_
  refine vc_retL ?_
  repeat' (first
    | (show VR _ _ _ (_ :: _) _ _ _; first | refine x_opF rfl (by first | exact True.intro | omega) ?_)
    | (show VR _ _ _ [] _ _ _; first | refine vr_nil ?_)
    | (show thenQ _ _ _ _; first | refine q_then_n ?_)
    | refine vc_seq ?_
    | refine vc_region ?_
    | refine vc_ret ?_
    | fail)
  refine retL_le (le_nilB (bx := 2) (nm := 101) (T := 5) (sz := 1) (j := 0) rfl rfl rfl) ?_
  refine retL_of (le_gen0 (l := [(0, .c (.ptr 100 0))]) (b := [(100, .box [.row 101 0, .d (.int .i64 0)]), (101, .row 5 1 (rowOf enc8 []))]) (fun n => if n = 100 then 2 else n) ?_ ?_ rfl (by first | rfl | (simp only [wfL, wfs, mpO_namesB, mpO_namesI]; rfl))) (retW isRet_r (.tmp rfl rfl .nil) rfl (by repeat' (first | exact trivial | refine ⟨rfl, ?_⟩)))
  all_goals repeat' (first | exact trivial | refine ⟨⟨_, rfl, ?_⟩, ?_⟩ | exact .c (.ptr rfl) | exact .rowD rfl rowOf_isD | refine .box ?_ | exact .nil | refine .cons ?_ ?_ | exact .d | exact .row rfl rfl | fail)
theorem room_spec (l : List Int) (n : Int) (hl : 0 ≤ n ∧ (l.length : Int) + n ≤ 4000) : FnW Tryz.prog 126 [.c (.ptr 100 0), AI n] [(100, .box [.row 101 l.length, .d (.int .i64 0)]), (101, .row 5 1 (rowOf enc8 l))] [100, 101] (AB true) [(100, .box [.row 101 l.length, .d (.int .i64 0)]), (101, .row 5 1 (rowOf enc8 l))] := by
  have d1 : decide (524288 < (l.length : Int) + n) = false := decide_eq_false (by omega)
  intro r
  simp only [pinsL, List.map_cons, List.map_nil, List.cons_append, List.nil_append, Nat.reduceAdd]
  refine FnS.of_bodyM (enters_of Tryz.func126 (by kernel_rfl) rfl) Tryz.func126 rfl Tryz.ntmps126 Tryz.results126 rfl (by first | rfl | (simp only [wfRes, wfL, wfArgs, wfs, mpO_namesB, mpO_namesI]; rfl)) rfl fun E => ?_
  refine vc_retL ?_
  repeat' (first
    | (show VR _ _ _ (_ :: _) _ _ _; first | refine x_opF rfl (by first | exact True.intro | omega) ?_ | (show VR _ _ _ (⟨_, .call ⟨.builtin .len, _, _⟩, _, _, _, _⟩ :: _) _ _ _; first | refine vr_len_row (gk rfl) rfl rfl (by first | rfl | exact rowOf_length.symm | (simp only [lns] <;> omega)) rfl rfl ?_) | (show VR _ _ _ (⟨_, .nilCheck _, _, _, _, _⟩ :: _) _ _ _; first | refine vr_nilCheck_ptr (gk rfl) rfl rfl ?_))
    | (show VR _ _ _ [] _ _ _; first | refine vr_nil ?_)
    | (show thenQ _ _ _ _; first | refine q_then_n ?_)
    | refine vc_seq ?_
    | refine vc_region ?_
    | (show VC _ (.cond _ _ _) _ _; first | refine vc_cond_f rfl ?_ | refine x_know rfl (by assumption) ?_)
    | refine vc_ret ?_ | refine vc_skip ?_
    | fail)
  all_goals first
    | (exfalso; omega)
    | skip
  refine retL_of (le_gen0 (l := [(4, AB true)]) (b := [(9100, .pin 100 (r 100)), (9101, .pin 101 (r 101)), (100, .box [.row 101 l.length, .d (.int .i64 0)]), (101, .row 5 1 (rowOf enc8 l))]) (fun n => n) ?_ ?_ rfl (by first | rfl | (simp only [wfL, wfs, mpO_namesB, mpO_namesI]; rfl))) (retW isRet_r (.tmp rfl rfl .nil) rfl (by repeat' (first | exact trivial | refine ⟨rfl, ?_⟩)))
  all_goals repeat' (first | exact trivial | refine ⟨⟨_, rfl, ?_⟩, ?_⟩ | exact .c .d | exact .pin rfl | exact .rowD rfl rowOf_isD | refine .box ?_ | exact .nil | refine .cons ?_ ?_ | exact .d | exact .row rfl rfl | fail)
/-- The bits of a number, the highest ones first. -/
noncomputable def bitsM (w n : Int) (k : Nat) : List Int := (List.range k).map fun j : Nat => IntKind.u8.wrap (bitF .and .i64 (n / 2 ^ (w - 1 - (j : Int)).toNat) 1)
theorem bitsM_len (w n : Int) (k : Nat) : (bitsM w n k).length = k := by simp [bitsM]
theorem bitsM_succ (w n : Int) (k : Nat) : bitsM w n (k + 1) = bitsM w n k ++ [IntKind.u8.wrap (bitF .and .i64 (n / 2 ^ (w - 1 - (k : Int)).toNat) 1)] := by
  simp [bitsM, List.range_succ]
noncomputable def putW (l : List Int) (w n : Int) : List Int := l ++ bitsM w n w.toNat
theorem putW_len (l : List Int) (w n : Int) : (putW l w n).length = l.length + w.toNat := by rw [putW, List.length_append, bitsM_len]
set_option maxHeartbeats 1000000 in
theorem put_spec (l : List Int) (w n : Int) (hw : 0 ≤ w ∧ w ≤ 63) (hl : l.length ≤ 4000) : FnW Tryz.prog 127 [.c (.ptr 100 0), AI w, AI n] [(100, .box [.row 101 l.length, .d (.int .i64 0)]), (101, .row 5 1 (rowOf enc8 l))] [100] (.tup []) [(100, .box [.row 102 (putW l w n).length, .d (.int .i64 0)]), (102, .row 5 1 (rowOf enc8 (putW l w n)))] := by
  intro r
  simp only [pinsL, List.map_cons, List.map_nil, List.cons_append, List.nil_append, Nat.reduceAdd]
  refine FnS.of_bodyM (enters_of Tryz.func127 (by kernel_rfl) rfl) Tryz.func127 rfl Tryz.ntmps127 Tryz.results127 rfl (by first | rfl | (simp only [wfRes, wfL, wfArgs, wfs, mpO_namesB, mpO_namesI]; rfl)) rfl fun E => ?_
  refine vc_retL ?_
  repeat' (first
    | (show VR _ _ _ (_ :: _) _ _ _; first | refine x_opF rfl (by first | exact True.intro | omega) ?_)
    | (show VR _ _ _ [] _ _ _; first | refine vr_nil ?_)
    | (show thenQ _ _ _ _; first | refine q_then_n ?_)
    | refine vc_seq ?_
    | refine vc_region ?_
    | refine vc_block ?_
    | fail)
  refine vc_loopI (ι := Nat) (fun k => stOf [(0, .c (.ptr 100 0)), (1, AI w), (2, AI n), (6, AI (w - 1 - (k : Int)))] [(9100, .pin 100 (r 100)), (100, .box [.row 101 (l ++ bitsM w n k).length, .d (.int .i64 0)]), (101, .row 5 1 (rowOf enc8 (l ++ bitsM w n k)))]) (fun k => k ≤ w.toNat) (fun k => w.toNat - k) 0 (Nat.zero_le _) ?_ ?_
  · rw [show bitsM w n 0 = [] from rfl, List.append_nil, show w - 1 - ((0 : Nat) : Int) = w - 1 by omega]
    refine le_gen0 (fun n => n) ?_ ?_ rfl (by first | rfl | (simp only [wfL, wfs, mpO_namesB, mpO_namesI]; rfl))
    all_goals repeat' (first | exact trivial | refine ⟨⟨_, rfl, ?_⟩, ?_⟩ | exact .c .d | exact .c (.ptr rfl) | exact .pin rfl | exact .rowD rfl rowOf_isD | refine .box ?_ | exact .nil | refine .cons ?_ ?_ | exact .d | exact .row rfl rfl | fail)
  · intro k hk
    have hlen : (l ++ bitsM w n k).length = l.length + k := by rw [List.length_append, bitsM_len]
    rcases Nat.lt_or_ge k w.toNat with hlt | hge
    · have dlt : decide (0 ≤ w - 1 - (k : Int)) = true := decide_eq_true (by omega)
      repeat' (first
        | (show VR _ _ _ (_ :: _) _ _ _; first | refine x_opF rfl (by first | exact True.intro | omega) ?_ | (show VR _ _ _ (⟨_, .call ⟨.builtin .append, _, _⟩, _, _, _, _⟩ :: _) _ _ _; first | refine vr_append0 (gk rfl) rfl rfl rfl (by first | rfl | exact rowOf_length.symm | (simp only [lns] <;> omega)) (by first | exact .row rfl (by first | rfl | exact rowOf_length.symm) | exact .rd | exact .nils) rfl rfl rfl (by (try dsimp only); omega) rfl rfl ?_) | (show VR _ _ _ (⟨_, .nilCheck _, _, _, _, _⟩ :: _) _ _ _; first | refine vr_nilCheck_ptr (gk rfl) rfl rfl ?_) | (show VR _ _ _ (⟨_, .convert _ _ _, _, _, _, _⟩ :: _) _ _ _; first | refine vr_convert (gk rfl) rfl ⟨_, rfl⟩ rfl rfl ?_) | (show VR _ _ _ (⟨_, .binOp _ _ _ _ _, _, _, _, _⟩ :: _) _ _ _; first | refine vr_shrV (gk rfl) rfl rfl (by omega) (by first | (show _ ≤ 64; omega) | (show _ ≤ 8; omega)) rfl ?_ | refine vr_bits (gk rfl) rfl rfl rfl rfl rfl ?_))
        | (show VR _ _ _ [] _ _ _; first | refine vr_nil ?_ | refine vr_nil_t (by kernel_rfl) ?_)
        | (show thenQ _ _ _ _; first | refine q_then_n ?_)
        | (show blockQ _ _ _ _; first | refine q_blk_n ?_)
        | refine vc_seq ?_
        | refine vc_region ?_ | refine vc_region_t ?_
        | (show VC _ (.cond _ _ _) _ _; first | refine vc_cond_t rfl ?_ | refine x_know rfl (by assumption) ?_)
        | refine vc_block ?_ | refine vc_skip ?_
        | fail)
      refine ⟨k + 1, by omega, by omega, ?_⟩
      rw [show w - 1 - ((k + 1 : Nat) : Int) = w - 1 - (k : Int) - 1 by omega, bitsM_succ, ← List.append_assoc]
      refine le_gen0 (fun n => if n = 101 then 24 else n) ?_ ?_ rfl (by first | rfl | (simp only [wfL, wfs, mpO_namesB, mpO_namesI]; rfl))
      all_goals repeat' (first | exact trivial | refine ⟨⟨_, rfl, ?_⟩, ?_⟩ | exact .c .d | exact .c (.ptr rfl) | exact .pin rfl | (refine .rowD ?_ rowOf_isD; simp only [rowOf_append, List.append_assoc]; rfl) | refine .box ?_ | exact .nil | refine .cons ?_ ?_ | exact .d | (refine .row rfl ?_; ((try dsimp only); first | rfl | omega | (simp only [lns] <;> omega)); done) | fail)
    · have dlt : decide (0 ≤ w - 1 - (k : Int)) = false := decide_eq_false (by omega)
      have hk' : k = w.toNat := by omega
      subst hk'
      repeat' (first
        | (show VR _ _ _ (_ :: _) _ _ _; first | refine x_opF rfl (by first | exact True.intro | omega) ?_)
        | (show VR _ _ _ [] _ _ _; first | refine vr_nil ?_)
        | (show thenQ _ _ _ _; first | refine q_then_n ?_ | refine q_then_x ?_)
        | (show blockQ _ _ _ _; first | refine q_blk_x ?_)
        | refine vc_seq ?_
        | refine vc_region ?_
        | (show VC _ (.cond _ _ _) _ _; first | refine vc_cond_f rfl ?_ | refine x_know rfl (by assumption) ?_)
        | refine vc_exit ?_
        | fail)
      refine retL_of (le_gen0 (l := []) (b := [(9100, .pin 100 (r 100)), (100, .box [.row 102 (putW l w n).length, .d (.int .i64 0)]), (102, .row 5 1 (rowOf enc8 (putW l w n)))]) (fun n => if n = 102 then 101 else n) ?_ ?_ rfl (by first | rfl | (simp only [wfL, wfs, mpO_namesB, mpO_namesI]; rfl))) (retW isRet_n .nil rfl (by repeat' (first | exact trivial | refine ⟨rfl, ?_⟩)))
      all_goals repeat' (first | exact trivial | refine ⟨⟨_, rfl, ?_⟩, ?_⟩ | exact .pin rfl | exact .rowD rfl rowOf_isD | refine .box ?_ | exact .nil | refine .cons ?_ ?_ | exact .d | exact .row rfl rfl | fail)
end Go.Proofs


