/-
  What functions of the given program hand back, by walks over its code, and plain laws on that. No condition.
-/
import Derived.Test.YtidijkcalgmadaaGreatSxMB
import Derived.Test.YtidijkcalgmadaaGreatSxLibC
set_option linter.unusedSimpArgs false
set_option linter.unusedVariables false
section
namespace Go.Proofs
open Go Go.Sx Go.Proofs.T Go.Proofs.Q
set_option maxRecDepth 4000
attribute [local irreducible] VR VC thenQ blockQ retL
noncomputable def timesP (a : Int) : Int := if bitF .and .u16 a 32768 ≠ 0 then bitF .xor .u16 (IntKind.u16.wrap (a * 2 ^ Int.toNat 1)) 4129 else IntKind.u16.wrap (a * 2 ^ Int.toNat 1)
theorem ptimes_spec (a : Int) : FnS Tryz.prog 267 [AD (.int .u16 a)] [] (AD (.int .u16 (timesP a))) [] := by
  refine FnS.of_body (enters_of Tryz.func267 (by kernel_rfl) rfl) Tryz.func267 rfl Tryz.ntmps267 Tryz.results267 rfl rfl rfl rfl fun E hS => ?_
  repeat' (first|(refine gR ?_; first|(show VR _ _ _ (⟨_, .binOp .shl _ _ _ _, _, _, _, _⟩ :: _) _ _ _; first|refine vr_shlV (gk rfl) rfl rfl (by omega) (by first|decide|(show _ <= 8; omega)|(show _ <= 16; omega)) rfl rfl ?_)|refine x_opF rfl (by first|exact True.intro|omega) ?_|(refine gB ?_; first|refine vr_bits (gk rfl) rfl rfl rfl rfl rfl ?_))|(refine gO ?_; first|refine vr_nil ?_)|(refine gT ?_; first|refine q_then_n ?_|refine q_then_r ?_)|refine vc_seq ?_|refine vc_region ?_|(show VC _ (.cond _ _ _) _ _; first|(refine x_cond rfl ?_ ?_ <;> intro h <;> have hq := h <;> (try simp only [hqs] at hq)))|refine vc_ret ?_|refine vc_skip ?_)
  · refine ret_d isRet_r rfl ?_
    rw [timesP, if_pos hq]
  · refine ret_d isRet_r rfl ?_
    rw [timesP, if_neg (fun h => h hq)]
noncomputable def timesPK (a : Int) : Nat -> Int
  | 0 => a
  | k + 1 => timesP (timesPK a k)
noncomputable def remE (h : Nat) : Int := timesPK (IntKind.u16.wrap ((h : Int) * 2 ^ Int.toNat 12)) 4
abbrev c16 (n : Int) : C := .d (.int .u16 n)
set_option maxHeartbeats 4000000 in
theorem rem1_spec (h : Nat) (hh : h < 16) (v0 v1 v2 v3 v4 v5 v6 v7 v8 v9 va vb vc vd ve vf : Int) : FnW Tryz.prog 266 [AI h, .c (.ptr 101 0)] [(101, .box ([v0, v1, v2, v3, v4, v5, v6, v7, v8, v9, va, vb, vc, vd, ve, vf].map c16))] [101] (.tup []) [(101, .box (([v0, v1, v2, v3, v4, v5, v6, v7, v8, v9, va, vb, vc, vd, ve, vf].set h (remE h)).map c16))] := by
  intro r
  simp only [pinsL, List.map_cons, List.map_nil, List.cons_append, List.nil_append, Nat.reduceAdd]
  refine FnS.of_bodyM (enters_of Tryz.func266 (by kernel_rfl) rfl) Tryz.func266 rfl Tryz.ntmps266 Tryz.results266 rfl (by first|rfl|(simp only [wfRes, wfL, wfArgs, wfs, mpO_namesB, mpO_namesI]; rfl)) rfl fun E => ?_
  refine vc_retL ?_
  repeat' (first|(refine gR ?_; first|(show VR _ _ _ (⟨_, .binOp .shl _ _ _ _, _, _, _, _⟩ :: _) _ _ _; first|refine vr_shlV (gk rfl) rfl rfl (by omega) (by first|decide|(show _ <= 8; omega)|(show _ <= 16; omega)) rfl rfl ?_)|refine x_opF rfl (by first|exact True.intro|omega) ?_|(refine gV ?_; first|refine vr_convert_id (gk rfl) rfl ⟨_, rfl⟩ rfl (by first|exact wrap_i64 (by omega)|exact wrap_u64 (by omega)|exact wrap_u16 (by omega)|exact wrap_u8 (by omega)|exact wrap_u32 (by omega)) rfl ?_))|(refine gO ?_; first|refine vr_nil ?_)|(refine gT ?_; first|refine q_then_n ?_)|refine vc_seq ?_|refine vc_region ?_|refine vc_block ?_)
  refine vc_loopI (ι := Nat) (fun k => stOf [(0, AI h), (1, .c (.ptr 101 0)), (3, AD (.int .u16 (timesPK (IntKind.u16.wrap ((h : Int) * 2 ^ Int.toNat 12)) k))), (7, AI k)] [(9101, .pin 101 (r 101)), (101, .box [c16 v0, c16 v1, c16 v2, c16 v3, c16 v4, c16 v5, c16 v6, c16 v7, c16 v8, c16 v9, c16 va, c16 vb, c16 vc, c16 vd, c16 ve, c16 vf])]) (fun k => k <= 4) (fun k => 4 - k) 0 (Nat.zero_le _) ?_ ?_
  · refine le_gen0 (fun n => n) ?_ ?_ rfl (by first|rfl|(simp only [wfL, wfs, mpO_namesB, mpO_namesI]; rfl))
    all_goals repeat' (first|exact trivial|refine ⟨⟨_, rfl, ?_⟩, ?_⟩|exact .c .d|exact .c (.ptr rfl)|exact .boxD rfl rfl|exact .pin rfl)
  · intro k hk
    rcases Nat.lt_or_ge k 4 with hlt | hge
    · have dlt : decide ((k : Int) < 4) = true := decide_eq_true (by omega)
      repeat' (first|(refine gR ?_; first|refine x_opF rfl (by first|exact True.intro|omega) ?_|(refine gC ?_; first|refine vr_calldU (ptimes_spec _) (gk rfl) rfl rfl rfl (by first|rfl|(simp only [wfRes, wfL, wfArgs, wfs, mpO_namesB, mpO_namesI]; rfl)) rfl (by first|exact newB_nil|exact newB_O|((simp only [newB, List.map_cons, List.map_nil, Blk.shift, rowOf_shift]) <;> rfl)|rfl) rfl ?_))|(refine gO ?_; first|refine vr_nil ?_)|(refine gT ?_; first|refine q_then_n ?_)|(refine gK ?_; first|refine q_blk_n ?_)|refine vc_seq ?_|refine vc_region ?_|(show VC _ (.cond _ _ _) _ _; first|refine vc_cond_t rfl ?_|refine x_know rfl (by assumption) ?_)|refine vc_block ?_|refine vc_skip ?_)
      refine ⟨k + 1, by omega, by omega, ?_⟩
      refine le_gen0 (fun n => n) ?_ ?_ rfl (by first|rfl|(simp only [wfL, wfs, mpO_namesB, mpO_namesI]; rfl))
      all_goals repeat' (first|exact trivial|refine ⟨⟨_, rfl, ?_⟩, ?_⟩|exact .c .d|exact .c (.ptr rfl)|exact .boxD rfl rfl|exact .pin rfl)
    · have dlt : decide ((k : Int) < 4) = false := decide_eq_false (by omega)
      have hk' : k = 4 := by omega
      subst hk'
      rw [show timesPK (IntKind.u16.wrap ((h : Int) * 2 ^ Int.toNat 12)) 4 = remE h from rfl]
      have : h = 0 \/ h = 1 \/ h = 2 \/ h = 3 \/ h = 4 \/ h = 5 \/ h = 6 \/ h = 7 \/ h = 8 \/ h = 9 \/ h = 10 \/ h = 11 \/ h = 12 \/ h = 13 \/ h = 14 \/ h = 15 := by omega
      rcases this with rfl | rfl | rfl | rfl | rfl | rfl | rfl | rfl | rfl | rfl | rfl | rfl | rfl | rfl | rfl | rfl
      · repeat' (first|(refine gR ?_; first|(refine gI ?_; first|refine vr_indexBox (gk rfl) rfl rfl rfl (by decide) (by decide) rfl rfl ?_)|refine x_opF rfl (by first|exact True.intro|omega) ?_)|(refine gO ?_; first|refine vr_nil ?_)|(refine gT ?_; first|refine q_then_n ?_|refine q_then_x ?_)|(refine gK ?_; first|refine q_blk_x ?_)|refine vc_seq ?_|refine vc_region ?_|(show VC _ (.cond _ _ _) _ _; first|refine vc_cond_f rfl ?_)|refine vc_exit ?_)
        refine retL_of (le_gen0 (l := []) (b := [(9101, .pin 101 (r 101)), (101, .box [c16 (remE 0), c16 v1, c16 v2, c16 v3, c16 v4, c16 v5, c16 v6, c16 v7, c16 v8, c16 v9, c16 va, c16 vb, c16 vc, c16 vd, c16 ve, c16 vf])]) (fun n => n) ?_ ?_ rfl (by first|rfl|(simp only [wfL, wfs, mpO_namesB, mpO_namesI]; rfl))) (retW isRet_n .nil rfl (by repeat' (first|exact trivial|refine ⟨rfl, ?_⟩)))
        all_goals repeat' (first|exact trivial|refine ⟨⟨_, rfl, ?_⟩, ?_⟩|exact .boxD rfl rfl|exact .pin rfl)
      · repeat' (first|(refine gR ?_; first|(refine gI ?_; first|refine vr_indexBox (gk rfl) rfl rfl rfl (by decide) (by decide) rfl rfl ?_)|refine x_opF rfl (by first|exact True.intro|omega) ?_)|(refine gO ?_; first|refine vr_nil ?_)|(refine gT ?_; first|refine q_then_n ?_|refine q_then_x ?_)|(refine gK ?_; first|refine q_blk_x ?_)|refine vc_seq ?_|refine vc_region ?_|(show VC _ (.cond _ _ _) _ _; first|refine vc_cond_f rfl ?_)|refine vc_exit ?_)
        refine retL_of (le_gen0 (l := []) (b := [(9101, .pin 101 (r 101)), (101, .box [c16 v0, c16 (remE 1), c16 v2, c16 v3, c16 v4, c16 v5, c16 v6, c16 v7, c16 v8, c16 v9, c16 va, c16 vb, c16 vc, c16 vd, c16 ve, c16 vf])]) (fun n => n) ?_ ?_ rfl (by first|rfl|(simp only [wfL, wfs, mpO_namesB, mpO_namesI]; rfl))) (retW isRet_n .nil rfl (by repeat' (first|exact trivial|refine ⟨rfl, ?_⟩)))
        all_goals repeat' (first|exact trivial|refine ⟨⟨_, rfl, ?_⟩, ?_⟩|exact .boxD rfl rfl|exact .pin rfl)
      · repeat' (first|(refine gR ?_; first|(refine gI ?_; first|refine vr_indexBox (gk rfl) rfl rfl rfl (by decide) (by decide) rfl rfl ?_)|refine x_opF rfl (by first|exact True.intro|omega) ?_)|(refine gO ?_; first|refine vr_nil ?_)|(refine gT ?_; first|refine q_then_n ?_|refine q_then_x ?_)|(refine gK ?_; first|refine q_blk_x ?_)|refine vc_seq ?_|refine vc_region ?_|(show VC _ (.cond _ _ _) _ _; first|refine vc_cond_f rfl ?_)|refine vc_exit ?_)
        refine retL_of (le_gen0 (l := []) (b := [(9101, .pin 101 (r 101)), (101, .box [c16 v0, c16 v1, c16 (remE 2), c16 v3, c16 v4, c16 v5, c16 v6, c16 v7, c16 v8, c16 v9, c16 va, c16 vb, c16 vc, c16 vd, c16 ve, c16 vf])]) (fun n => n) ?_ ?_ rfl (by first|rfl|(simp only [wfL, wfs, mpO_namesB, mpO_namesI]; rfl))) (retW isRet_n .nil rfl (by repeat' (first|exact trivial|refine ⟨rfl, ?_⟩)))
        all_goals repeat' (first|exact trivial|refine ⟨⟨_, rfl, ?_⟩, ?_⟩|exact .boxD rfl rfl|exact .pin rfl)
      · repeat' (first|(refine gR ?_; first|(refine gI ?_; first|refine vr_indexBox (gk rfl) rfl rfl rfl (by decide) (by decide) rfl rfl ?_)|refine x_opF rfl (by first|exact True.intro|omega) ?_)|(refine gO ?_; first|refine vr_nil ?_)|(refine gT ?_; first|refine q_then_n ?_|refine q_then_x ?_)|(refine gK ?_; first|refine q_blk_x ?_)|refine vc_seq ?_|refine vc_region ?_|(show VC _ (.cond _ _ _) _ _; first|refine vc_cond_f rfl ?_)|refine vc_exit ?_)
        refine retL_of (le_gen0 (l := []) (b := [(9101, .pin 101 (r 101)), (101, .box [c16 v0, c16 v1, c16 v2, c16 (remE 3), c16 v4, c16 v5, c16 v6, c16 v7, c16 v8, c16 v9, c16 va, c16 vb, c16 vc, c16 vd, c16 ve, c16 vf])]) (fun n => n) ?_ ?_ rfl (by first|rfl|(simp only [wfL, wfs, mpO_namesB, mpO_namesI]; rfl))) (retW isRet_n .nil rfl (by repeat' (first|exact trivial|refine ⟨rfl, ?_⟩)))
        all_goals repeat' (first|exact trivial|refine ⟨⟨_, rfl, ?_⟩, ?_⟩|exact .boxD rfl rfl|exact .pin rfl)
      · repeat' (first|(refine gR ?_; first|(refine gI ?_; first|refine vr_indexBox (gk rfl) rfl rfl rfl (by decide) (by decide) rfl rfl ?_)|refine x_opF rfl (by first|exact True.intro|omega) ?_)|(refine gO ?_; first|refine vr_nil ?_)|(refine gT ?_; first|refine q_then_n ?_|refine q_then_x ?_)|(refine gK ?_; first|refine q_blk_x ?_)|refine vc_seq ?_|refine vc_region ?_|(show VC _ (.cond _ _ _) _ _; first|refine vc_cond_f rfl ?_)|refine vc_exit ?_)
        refine retL_of (le_gen0 (l := []) (b := [(9101, .pin 101 (r 101)), (101, .box [c16 v0, c16 v1, c16 v2, c16 v3, c16 (remE 4), c16 v5, c16 v6, c16 v7, c16 v8, c16 v9, c16 va, c16 vb, c16 vc, c16 vd, c16 ve, c16 vf])]) (fun n => n) ?_ ?_ rfl (by first|rfl|(simp only [wfL, wfs, mpO_namesB, mpO_namesI]; rfl))) (retW isRet_n .nil rfl (by repeat' (first|exact trivial|refine ⟨rfl, ?_⟩)))
        all_goals repeat' (first|exact trivial|refine ⟨⟨_, rfl, ?_⟩, ?_⟩|exact .boxD rfl rfl|exact .pin rfl)
      · repeat' (first|(refine gR ?_; first|(refine gI ?_; first|refine vr_indexBox (gk rfl) rfl rfl rfl (by decide) (by decide) rfl rfl ?_)|refine x_opF rfl (by first|exact True.intro|omega) ?_)|(refine gO ?_; first|refine vr_nil ?_)|(refine gT ?_; first|refine q_then_n ?_|refine q_then_x ?_)|(refine gK ?_; first|refine q_blk_x ?_)|refine vc_seq ?_|refine vc_region ?_|(show VC _ (.cond _ _ _) _ _; first|refine vc_cond_f rfl ?_)|refine vc_exit ?_)
        refine retL_of (le_gen0 (l := []) (b := [(9101, .pin 101 (r 101)), (101, .box [c16 v0, c16 v1, c16 v2, c16 v3, c16 v4, c16 (remE 5), c16 v6, c16 v7, c16 v8, c16 v9, c16 va, c16 vb, c16 vc, c16 vd, c16 ve, c16 vf])]) (fun n => n) ?_ ?_ rfl (by first|rfl|(simp only [wfL, wfs, mpO_namesB, mpO_namesI]; rfl))) (retW isRet_n .nil rfl (by repeat' (first|exact trivial|refine ⟨rfl, ?_⟩)))
        all_goals repeat' (first|exact trivial|refine ⟨⟨_, rfl, ?_⟩, ?_⟩|exact .boxD rfl rfl|exact .pin rfl)
      · repeat' (first|(refine gR ?_; first|(refine gI ?_; first|refine vr_indexBox (gk rfl) rfl rfl rfl (by decide) (by decide) rfl rfl ?_)|refine x_opF rfl (by first|exact True.intro|omega) ?_)|(refine gO ?_; first|refine vr_nil ?_)|(refine gT ?_; first|refine q_then_n ?_|refine q_then_x ?_)|(refine gK ?_; first|refine q_blk_x ?_)|refine vc_seq ?_|refine vc_region ?_|(show VC _ (.cond _ _ _) _ _; first|refine vc_cond_f rfl ?_)|refine vc_exit ?_)
        refine retL_of (le_gen0 (l := []) (b := [(9101, .pin 101 (r 101)), (101, .box [c16 v0, c16 v1, c16 v2, c16 v3, c16 v4, c16 v5, c16 (remE 6), c16 v7, c16 v8, c16 v9, c16 va, c16 vb, c16 vc, c16 vd, c16 ve, c16 vf])]) (fun n => n) ?_ ?_ rfl (by first|rfl|(simp only [wfL, wfs, mpO_namesB, mpO_namesI]; rfl))) (retW isRet_n .nil rfl (by repeat' (first|exact trivial|refine ⟨rfl, ?_⟩)))
        all_goals repeat' (first|exact trivial|refine ⟨⟨_, rfl, ?_⟩, ?_⟩|exact .boxD rfl rfl|exact .pin rfl)
      · repeat' (first|(refine gR ?_; first|(refine gI ?_; first|refine vr_indexBox (gk rfl) rfl rfl rfl (by decide) (by decide) rfl rfl ?_)|refine x_opF rfl (by first|exact True.intro|omega) ?_)|(refine gO ?_; first|refine vr_nil ?_)|(refine gT ?_; first|refine q_then_n ?_|refine q_then_x ?_)|(refine gK ?_; first|refine q_blk_x ?_)|refine vc_seq ?_|refine vc_region ?_|(show VC _ (.cond _ _ _) _ _; first|refine vc_cond_f rfl ?_)|refine vc_exit ?_)
        refine retL_of (le_gen0 (l := []) (b := [(9101, .pin 101 (r 101)), (101, .box [c16 v0, c16 v1, c16 v2, c16 v3, c16 v4, c16 v5, c16 v6, c16 (remE 7), c16 v8, c16 v9, c16 va, c16 vb, c16 vc, c16 vd, c16 ve, c16 vf])]) (fun n => n) ?_ ?_ rfl (by first|rfl|(simp only [wfL, wfs, mpO_namesB, mpO_namesI]; rfl))) (retW isRet_n .nil rfl (by repeat' (first|exact trivial|refine ⟨rfl, ?_⟩)))
        all_goals repeat' (first|exact trivial|refine ⟨⟨_, rfl, ?_⟩, ?_⟩|exact .boxD rfl rfl|exact .pin rfl)
      · repeat' (first|(refine gR ?_; first|(refine gI ?_; first|refine vr_indexBox (gk rfl) rfl rfl rfl (by decide) (by decide) rfl rfl ?_)|refine x_opF rfl (by first|exact True.intro|omega) ?_)|(refine gO ?_; first|refine vr_nil ?_)|(refine gT ?_; first|refine q_then_n ?_|refine q_then_x ?_)|(refine gK ?_; first|refine q_blk_x ?_)|refine vc_seq ?_|refine vc_region ?_|(show VC _ (.cond _ _ _) _ _; first|refine vc_cond_f rfl ?_)|refine vc_exit ?_)
        refine retL_of (le_gen0 (l := []) (b := [(9101, .pin 101 (r 101)), (101, .box [c16 v0, c16 v1, c16 v2, c16 v3, c16 v4, c16 v5, c16 v6, c16 v7, c16 (remE 8), c16 v9, c16 va, c16 vb, c16 vc, c16 vd, c16 ve, c16 vf])]) (fun n => n) ?_ ?_ rfl (by first|rfl|(simp only [wfL, wfs, mpO_namesB, mpO_namesI]; rfl))) (retW isRet_n .nil rfl (by repeat' (first|exact trivial|refine ⟨rfl, ?_⟩)))
        all_goals repeat' (first|exact trivial|refine ⟨⟨_, rfl, ?_⟩, ?_⟩|exact .boxD rfl rfl|exact .pin rfl)
      · repeat' (first|(refine gR ?_; first|(refine gI ?_; first|refine vr_indexBox (gk rfl) rfl rfl rfl (by decide) (by decide) rfl rfl ?_)|refine x_opF rfl (by first|exact True.intro|omega) ?_)|(refine gO ?_; first|refine vr_nil ?_)|(refine gT ?_; first|refine q_then_n ?_|refine q_then_x ?_)|(refine gK ?_; first|refine q_blk_x ?_)|refine vc_seq ?_|refine vc_region ?_|(show VC _ (.cond _ _ _) _ _; first|refine vc_cond_f rfl ?_)|refine vc_exit ?_)
        refine retL_of (le_gen0 (l := []) (b := [(9101, .pin 101 (r 101)), (101, .box [c16 v0, c16 v1, c16 v2, c16 v3, c16 v4, c16 v5, c16 v6, c16 v7, c16 v8, c16 (remE 9), c16 va, c16 vb, c16 vc, c16 vd, c16 ve, c16 vf])]) (fun n => n) ?_ ?_ rfl (by first|rfl|(simp only [wfL, wfs, mpO_namesB, mpO_namesI]; rfl))) (retW isRet_n .nil rfl (by repeat' (first|exact trivial|refine ⟨rfl, ?_⟩)))
        all_goals repeat' (first|exact trivial|refine ⟨⟨_, rfl, ?_⟩, ?_⟩|exact .boxD rfl rfl|exact .pin rfl)
      · repeat' (first|(refine gR ?_; first|(refine gI ?_; first|refine vr_indexBox (gk rfl) rfl rfl rfl (by decide) (by decide) rfl rfl ?_)|refine x_opF rfl (by first|exact True.intro|omega) ?_)|(refine gO ?_; first|refine vr_nil ?_)|(refine gT ?_; first|refine q_then_n ?_|refine q_then_x ?_)|(refine gK ?_; first|refine q_blk_x ?_)|refine vc_seq ?_|refine vc_region ?_|(show VC _ (.cond _ _ _) _ _; first|refine vc_cond_f rfl ?_)|refine vc_exit ?_)
        refine retL_of (le_gen0 (l := []) (b := [(9101, .pin 101 (r 101)), (101, .box [c16 v0, c16 v1, c16 v2, c16 v3, c16 v4, c16 v5, c16 v6, c16 v7, c16 v8, c16 v9, c16 (remE 10), c16 vb, c16 vc, c16 vd, c16 ve, c16 vf])]) (fun n => n) ?_ ?_ rfl (by first|rfl|(simp only [wfL, wfs, mpO_namesB, mpO_namesI]; rfl))) (retW isRet_n .nil rfl (by repeat' (first|exact trivial|refine ⟨rfl, ?_⟩)))
        all_goals repeat' (first|exact trivial|refine ⟨⟨_, rfl, ?_⟩, ?_⟩|exact .boxD rfl rfl|exact .pin rfl)
      · repeat' (first|(refine gR ?_; first|(refine gI ?_; first|refine vr_indexBox (gk rfl) rfl rfl rfl (by decide) (by decide) rfl rfl ?_)|refine x_opF rfl (by first|exact True.intro|omega) ?_)|(refine gO ?_; first|refine vr_nil ?_)|(refine gT ?_; first|refine q_then_n ?_|refine q_then_x ?_)|(refine gK ?_; first|refine q_blk_x ?_)|refine vc_seq ?_|refine vc_region ?_|(show VC _ (.cond _ _ _) _ _; first|refine vc_cond_f rfl ?_)|refine vc_exit ?_)
        refine retL_of (le_gen0 (l := []) (b := [(9101, .pin 101 (r 101)), (101, .box [c16 v0, c16 v1, c16 v2, c16 v3, c16 v4, c16 v5, c16 v6, c16 v7, c16 v8, c16 v9, c16 va, c16 (remE 11), c16 vc, c16 vd, c16 ve, c16 vf])]) (fun n => n) ?_ ?_ rfl (by first|rfl|(simp only [wfL, wfs, mpO_namesB, mpO_namesI]; rfl))) (retW isRet_n .nil rfl (by repeat' (first|exact trivial|refine ⟨rfl, ?_⟩)))
        all_goals repeat' (first|exact trivial|refine ⟨⟨_, rfl, ?_⟩, ?_⟩|exact .boxD rfl rfl|exact .pin rfl)
      · repeat' (first|(refine gR ?_; first|(refine gI ?_; first|refine vr_indexBox (gk rfl) rfl rfl rfl (by decide) (by decide) rfl rfl ?_)|refine x_opF rfl (by first|exact True.intro|omega) ?_)|(refine gO ?_; first|refine vr_nil ?_)|(refine gT ?_; first|refine q_then_n ?_|refine q_then_x ?_)|(refine gK ?_; first|refine q_blk_x ?_)|refine vc_seq ?_|refine vc_region ?_|(show VC _ (.cond _ _ _) _ _; first|refine vc_cond_f rfl ?_)|refine vc_exit ?_)
        refine retL_of (le_gen0 (l := []) (b := [(9101, .pin 101 (r 101)), (101, .box [c16 v0, c16 v1, c16 v2, c16 v3, c16 v4, c16 v5, c16 v6, c16 v7, c16 v8, c16 v9, c16 va, c16 vb, c16 (remE 12), c16 vd, c16 ve, c16 vf])]) (fun n => n) ?_ ?_ rfl (by first|rfl|(simp only [wfL, wfs, mpO_namesB, mpO_namesI]; rfl))) (retW isRet_n .nil rfl (by repeat' (first|exact trivial|refine ⟨rfl, ?_⟩)))
        all_goals repeat' (first|exact trivial|refine ⟨⟨_, rfl, ?_⟩, ?_⟩|exact .boxD rfl rfl|exact .pin rfl)
      · repeat' (first|(refine gR ?_; first|(refine gI ?_; first|refine vr_indexBox (gk rfl) rfl rfl rfl (by decide) (by decide) rfl rfl ?_)|refine x_opF rfl (by first|exact True.intro|omega) ?_)|(refine gO ?_; first|refine vr_nil ?_)|(refine gT ?_; first|refine q_then_n ?_|refine q_then_x ?_)|(refine gK ?_; first|refine q_blk_x ?_)|refine vc_seq ?_|refine vc_region ?_|(show VC _ (.cond _ _ _) _ _; first|refine vc_cond_f rfl ?_)|refine vc_exit ?_)
        refine retL_of (le_gen0 (l := []) (b := [(9101, .pin 101 (r 101)), (101, .box [c16 v0, c16 v1, c16 v2, c16 v3, c16 v4, c16 v5, c16 v6, c16 v7, c16 v8, c16 v9, c16 va, c16 vb, c16 vc, c16 (remE 13), c16 ve, c16 vf])]) (fun n => n) ?_ ?_ rfl (by first|rfl|(simp only [wfL, wfs, mpO_namesB, mpO_namesI]; rfl))) (retW isRet_n .nil rfl (by repeat' (first|exact trivial|refine ⟨rfl, ?_⟩)))
        all_goals repeat' (first|exact trivial|refine ⟨⟨_, rfl, ?_⟩, ?_⟩|exact .boxD rfl rfl|exact .pin rfl)
      · repeat' (first|(refine gR ?_; first|(refine gI ?_; first|refine vr_indexBox (gk rfl) rfl rfl rfl (by decide) (by decide) rfl rfl ?_)|refine x_opF rfl (by first|exact True.intro|omega) ?_)|(refine gO ?_; first|refine vr_nil ?_)|(refine gT ?_; first|refine q_then_n ?_|refine q_then_x ?_)|(refine gK ?_; first|refine q_blk_x ?_)|refine vc_seq ?_|refine vc_region ?_|(show VC _ (.cond _ _ _) _ _; first|refine vc_cond_f rfl ?_)|refine vc_exit ?_)
        refine retL_of (le_gen0 (l := []) (b := [(9101, .pin 101 (r 101)), (101, .box [c16 v0, c16 v1, c16 v2, c16 v3, c16 v4, c16 v5, c16 v6, c16 v7, c16 v8, c16 v9, c16 va, c16 vb, c16 vc, c16 vd, c16 (remE 14), c16 vf])]) (fun n => n) ?_ ?_ rfl (by first|rfl|(simp only [wfL, wfs, mpO_namesB, mpO_namesI]; rfl))) (retW isRet_n .nil rfl (by repeat' (first|exact trivial|refine ⟨rfl, ?_⟩)))
        all_goals repeat' (first|exact trivial|refine ⟨⟨_, rfl, ?_⟩, ?_⟩|exact .boxD rfl rfl|exact .pin rfl)
      · repeat' (first|(refine gR ?_; first|(refine gI ?_; first|refine vr_indexBox (gk rfl) rfl rfl rfl (by decide) (by decide) rfl rfl ?_)|refine x_opF rfl (by first|exact True.intro|omega) ?_)|(refine gO ?_; first|refine vr_nil ?_)|(refine gT ?_; first|refine q_then_n ?_|refine q_then_x ?_)|(refine gK ?_; first|refine q_blk_x ?_)|refine vc_seq ?_|refine vc_region ?_|(show VC _ (.cond _ _ _) _ _; first|refine vc_cond_f rfl ?_)|refine vc_exit ?_)
        refine retL_of (le_gen0 (l := []) (b := [(9101, .pin 101 (r 101)), (101, .box [c16 v0, c16 v1, c16 v2, c16 v3, c16 v4, c16 v5, c16 v6, c16 v7, c16 v8, c16 v9, c16 va, c16 vb, c16 vc, c16 vd, c16 ve, c16 (remE 15)])]) (fun n => n) ?_ ?_ rfl (by first|rfl|(simp only [wfL, wfs, mpO_namesB, mpO_namesI]; rfl))) (retW isRet_n .nil rfl (by repeat' (first|exact trivial|refine ⟨rfl, ?_⟩)))
        all_goals repeat' (first|exact trivial|refine ⟨⟨_, rfl, ?_⟩, ?_⟩|exact .boxD rfl rfl|exact .pin rfl)
noncomputable def remL (k : Nat) : List Int := (List.range 16).map fun i => if i < k then remE i else 0
theorem remL_succ (k : Nat) (hk : k < 16) : (remL k).set k (remE k) = remL (k + 1) := by
  apply List.ext_getElem?
  intro i
  rw [List.getElem?_set]
  simp only [remL, List.getElem?_map, List.length_map, List.length_range]
  rcases Nat.lt_or_ge i 16 with h | h
  · rw [List.getElem?_range h]
    by_cases e : k = i
    · subst e; simp [hk]
    · rw [if_neg e]
      have : (i < k) = (i < k + 1) := by
        apply propext; omega
      simp [this]
  · rw [List.getElem?_eq_none (by simpa using h), if_neg (by omega)]
    rfl
theorem remL_16 (k : Nat) : ∃ v0 v1 v2 v3 v4 v5 v6 v7 v8 v9 va vb vc vd ve vf, remL k = [v0, v1, v2, v3, v4, v5, v6, v7, v8, v9, va, vb, vc, vd, ve, vf] := ⟨_, _, _, _, _, _, _, _, _, _, _, _, _, _, _, _, rfl⟩
theorem rem_at (h : Nat) (hh : h < 16) : FnW Tryz.prog 266 [AI h, .c (.ptr 101 0)] [(101, .box ((remL h).map c16))] [101] (.tup []) [(101, .box ((remL (h + 1)).map c16))] := by
  rw [<- remL_succ h hh]
  obtain ⟨v0, v1, v2, v3, v4, v5, v6, v7, v8, v9, va, vb, vc, vd, ve, vf, e⟩ := remL_16 h
  rw [e]
  exact rem1_spec h hh _ _ _ _ _ _ _ _ _ _ _ _ _ _ _ _
set_option maxHeartbeats 2000000 in
theorem rems_spec : FnS Tryz.prog 262 [] [] (.agg ((remL 16).map c16)) [] := by
  refine FnS.of_body (enters_of Tryz.func262 (by kernel_rfl) rfl) Tryz.func262 rfl Tryz.ntmps262 Tryz.results262 rfl rfl rfl rfl fun E hS => ?_
  refine vc_retL ?_
  repeat' (first|(refine gR ?_; first|refine x_opF rfl (by first|exact True.intro|omega) ?_)|(refine gO ?_; first|refine vr_nil ?_)|(refine gT ?_; first|refine q_then_n ?_)|refine vc_seq ?_|refine vc_region ?_|refine vc_block ?_)
  refine vc_loopI (ι := Nat) (fun k => stOf [(0, .c (.ptr 0 0)), (1, .c (.ptr 1 0)), (2, .fnc 266 [.ptr 1 0]), (5, AI k)] [(0, .box [c16 0, c16 0, c16 0, c16 0, c16 0, c16 0, c16 0, c16 0, c16 0, c16 0, c16 0, c16 0, c16 0, c16 0, c16 0, c16 0]), (1, .box ((remL k).map c16))]) (fun k => k <= 16) (fun k => 16 - k) 0 (Nat.zero_le _) ?_ ?_
  · refine le_gen0 (fun n => n) ?_ ?_ rfl (by first|rfl|(simp only [wfL, wfs, mpO_namesB, mpO_namesI]; rfl))
    all_goals repeat' (first|exact trivial|refine ⟨⟨_, rfl, ?_⟩, ?_⟩|exact .c .d|exact .c (.ptr rfl)|exact .boxD rfl rfl|refine .fncC ?_|exact .nil|refine .cons ?_ ?_|exact .ptr rfl)
  · intro k hk
    rcases Nat.lt_or_ge k 16 with hlt | hge
    · have dlt : decide ((k : Int) < 16) = true := decide_eq_true (by omega)
      have hr := rem_at k hlt
      repeat' (first|(refine gR ?_; first|refine x_opF rfl (by first|exact True.intro|omega) ?_|(refine gC ?_; first|refine vr_callW (nmL [(101, 1)]) [] [101] (hr) (gk rfl) rfl rfl (by (repeat' (first|exact .nil|refine .cons ?_ ?_|exact .w (.c (.ptr rfl)) rfl|exact .w (.c (.row rfl rfl)) rfl|exact .w (.c (.mp rfl)) rfl|exact .w (.c (.fn rfl)) rfl|exact .w (.rp rfl) rfl|(refine .w (.fncC ?_) rfl; repeat' (first|exact .nil|refine .cons ?_ ?_|exact .d|exact .ptr rfl|exact .row rfl rfl|(refine .row rfl ?_; ((try dsimp only); first|rfl|omega|(simp only [lns] <;> omega)); done)|exact .fn rfl|exact .mp rfl|exact .frzOf (by first|(simp; done)|decide) rfl rfl (fun _ => rfl)))|exact .r (.of0 (.c .d))|refine .r ?_|exact .of0 (.c .d)|exact .of0 .ep|exact .clo|exact .of0 (.c .nil)|exact .of0 (.c (cr_rowO (by simp) rfl (by first|rfl|omega) (fun _ => rfl)))|refine .of0 (.agg ?_)|exact .d|exact .nil|exact .of0 (.c (cr_row (by decide) rfl rfl (by repeat' (first|exact trivial|refine ⟨?_, ?_⟩|rfl)))))) <;> fail) (by (repeat' (first|exact trivial|refine ⟨⟨_, rfl, ?_⟩, ?_⟩|exact .boxD rfl rfl|exact .rowD rfl rowOf_isD|exact .mapO (fun _ => rfl) rfl|exact .pin rfl|refine .box ?_|exact .nil|refine .cons ?_ ?_|exact .d|exact .ptr rfl|exact .row rfl rfl|(refine .row rfl ?_; ((try dsimp only); first|rfl|omega|(simp only [lns] <;> omega)); done)|exact .fn rfl|exact .mp rfl|exact .frzOf (by first|(simp; done)|decide) rfl rfl (fun _ => rfl))) <;> fail) rfl rfl rfl (by first|rfl|(simp only [List.all_cons, List.all_nil, rowOf_flatB]; rfl)) rfl (by first|rfl|(simp only [wfRes, wfL, wfArgs, wfs, mpO_namesB, mpO_namesI]; rfl)) rfl rfl rfl (by (simp only [newW, List.map_cons, List.map_nil, Blk.ren, C.ren, rowOf_ren, mpO_renB, mpO_renI, gW, memN, nmL, Nat.reduceBEq, Bool.or_false, Bool.or_true, Bool.false_or, Bool.true_or, cond_true, cond_false, Nat.reduceMul, Nat.reduceAdd]) <;> rfl) (by (simp only [AV.ren, AV.ren0, List.map_cons, List.map_nil, C.ren, gW, memN, nmL, Nat.reduceBEq, Bool.or_false, Bool.or_true, Bool.false_or, Bool.true_or, cond_true, cond_false, Nat.reduceMul, Nat.reduceAdd]) <;> rfl) rfl ?_))|(refine gO ?_; first|refine vr_nil ?_)|(refine gT ?_; first|refine q_then_n ?_)|(refine gK ?_; first|refine q_blk_n ?_)|refine vc_seq ?_|refine vc_region ?_|(show VC _ (.cond _ _ _) _ _; first|refine vc_cond_t rfl ?_|refine x_know rfl (by assumption) ?_)|refine vc_block ?_|refine vc_skip ?_)
      refine ⟨k + 1, by omega, by omega, ?_⟩
      refine le_gen0 (fun n => n) ?_ ?_ rfl (by first|rfl|(simp only [wfL, wfs, mpO_namesB, mpO_namesI]; rfl))
      all_goals repeat' (first|exact trivial|refine ⟨⟨_, rfl, ?_⟩, ?_⟩|exact .c .d|exact .c (.ptr rfl)|exact .boxD rfl rfl|refine .fncC ?_|exact .nil|refine .cons ?_ ?_|exact .ptr rfl)
    · have dlt : decide ((k : Int) < 16) = false := decide_eq_false (by omega)
      have hk' : k = 16 := by omega
      subst hk'
      obtain ⟨v0, v1, v2, v3, v4, v5, v6, v7, v8, v9, va, vb, vc, vd, ve, vf, e⟩ := remL_16 16
      rw [e]
      repeat' (first|(refine gR ?_; first|refine x_opF rfl (by first|exact True.intro|omega) ?_)|(refine gO ?_; first|refine vr_nil ?_)|(refine gT ?_; first|refine q_then_n ?_|refine q_then_x ?_)|(refine gK ?_; first|refine q_blk_x ?_)|refine vc_seq ?_|refine vc_region ?_|(show VC _ (.cond _ _ _) _ _; first|refine vc_cond_f rfl ?_)|refine vc_ret ?_|refine vc_exit ?_)
      refine retL_of (le_gen0 (l := [(0, .c (.ptr 0 0))]) (b := [(0, .box [c16 v0, c16 v1, c16 v2, c16 v3, c16 v4, c16 v5, c16 v6, c16 v7, c16 v8, c16 v9, c16 va, c16 vb, c16 vc, c16 vd, c16 ve, c16 vf])]) (fun n => n) ?_ ?_ rfl (by first|rfl|(simp only [wfL, wfs, mpO_namesB, mpO_namesI]; rfl))) (ret_aggL isRet_r rfl rfl rfl rfl rfl)
      all_goals repeat' (first|exact trivial|refine ⟨⟨_, rfl, ?_⟩, ?_⟩|exact .c (.ptr rfl)|exact .boxD rfl rfl)
theorem map_c16 {V : List Int} {m : Nat} (h : m < V.length) : (V.map c16)[0 + m]? = some (c16 (V.getD m default)) := by
  rw [Nat.zero_add, List.getElem?_map, List.getD_eq_getElem?_getD, List.getElem?_eq_getElem h]; rfl
theorem band15 {a : Int} (h : 0 <= a /\ a < 256) : 0 <= bitF .and .u8 a 15 /\ bitF .and .u8 a 15 < 16 := by
  obtain ⟨n, rfl⟩ : ∃ n : Nat, a = n := ⟨a.toNat, by omega⟩
  rw [bitF_eq]
  unfold bitG
  dsimp only
  show 0 <= IntKind.u8.wrap ((BitVec.ofInt 8 n &&& BitVec.ofInt 8 ((15 : Nat) : Int)).toNat : Int) /\ IntKind.u8.wrap ((BitVec.ofInt 8 n &&& BitVec.ofInt 8 ((15 : Nat) : Int)).toNat : Int) < 16
  rw [BitVec.ofInt_natCast, BitVec.ofInt_natCast, BitVec.toNat_and, BitVec.toNat_ofNat, BitVec.toNat_ofNat, Nat.mod_eq_of_lt (a := n) (by omega), Nat.mod_eq_of_lt (a := 15) (by decide)]
  have : n &&& 15 <= 15 := Nat.and_le_right
  rw [wrap_u8 (by omega)]
  omega
theorem nibX {a c : Int} (ha : 0 <= a /\ a < 65536) (hc : 0 <= c /\ c < 16) : 0 <= bitF .xor .u16 (a / 2 ^ Int.toNat 12) c /\ bitF .xor .u16 (a / 2 ^ Int.toNat 12) c < ((16 : Nat) : Int) := by
  obtain ⟨n, rfl⟩ : ∃ n : Nat, a = n := ⟨a.toNat, by omega⟩
  obtain ⟨m, rfl⟩ : ∃ m : Nat, c = m := ⟨c.toNat, by omega⟩
  have e : (n : Int) / 2 ^ Int.toNat 12 = ((n / 4096 : Nat) : Int) := by
    rw [show (2 : Int) ^ Int.toNat 12 = 4096 from rfl]; omega
  rw [e, bxor_u16 (by omega) (by omega)]
  have : n / 4096 ^^^ m < 2 ^ 4 := Nat.xor_lt_two_pow (by omega) (by omega)
  omega
theorem remL_len (k : Nat) : (remL k).length = 16 := by simp [remL]
noncomputable def nibS (a c : Int) : Int := bitF .xor .u16 (IntKind.u16.wrap (a * 2 ^ Int.toNat 4)) ((remL 16).getD (bitF .xor .u16 (a / 2 ^ Int.toNat 12) c).toNat default)
noncomputable def sumK (a : Int) (s : ByteArray) : Nat -> Int
  | 0 => a
  | k + 1 => nibS (nibS (sumK a s k) (bAt s k / 2 ^ Int.toNat 4)) (bitF .and .u8 (bAt s k) 15)
theorem sumK_rng {a : Int} {s : ByteArray} (ha : 0 <= a /\ a < 65536) : ∀ k, 0 <= sumK a s k /\ sumK a s k < 65536
  | 0 => ha
  | k + 1 => bxor_rng _ _
set_option maxHeartbeats 2000000 in
theorem pupdate_spec (a : Int) (s : ByteArray) (ha : 0 <= a /\ a < 65536) (hs : s.size <= 1000) : FnS Tryz.prog 252 [AD (.int .u16 a), AD (.str s)] [] (AD (.int .u16 (sumK a s s.size))) [] := by
  have hr := rems_spec
  obtain ⟨v0, v1, v2, v3, v4, v5, v6, v7, v8, v9, va, vb, vc, vd, ve, vf, e⟩ := remL_16 16
  rw [e] at hr
  refine FnS.of_body (enters_of Tryz.func252 (by kernel_rfl) rfl) Tryz.func252 rfl Tryz.ntmps252 Tryz.results252 rfl rfl rfl rfl fun E hS => ?_
  repeat' (first|(refine gR ?_; first|refine x_opF rfl (by first|exact True.intro|omega) ?_|(refine gC ?_; first|refine vr_calldU (hr) (gk rfl) rfl rfl rfl (by first|rfl|(simp only [wfRes, wfL, wfArgs, wfs, mpO_namesB, mpO_namesI]; rfl)) rfl (by first|exact newB_nil|exact newB_O|((simp only [newB, List.map_cons, List.map_nil, Blk.shift, rowOf_shift]) <;> rfl)|rfl) rfl ?_))|(refine gO ?_; first|refine vr_nil ?_)|(refine gT ?_; first|refine q_then_n ?_)|refine vc_seq ?_|refine vc_region ?_|refine vc_block ?_)
  refine vc_loopI (ι := Nat) (fun k => stOf [(0, AD (.int .u16 (sumK a s k))), (1, AD (.str s)), (5, .c (.ptr 5 0)), (9, AI s.size), (10, AI k)] [(5, .box ((remL 16).map c16))]) (fun k => k <= s.size) (fun k => s.size - k) 0 (Nat.zero_le _) ?_ ?_
  · rw [e]
    refine le_gen0 (fun n => n) ?_ ?_ rfl (by first|rfl|(simp only [wfL, wfs, mpO_namesB, mpO_namesI]; rfl))
    all_goals repeat' (first|exact trivial|refine ⟨⟨_, rfl, ?_⟩, ?_⟩|exact .c .d|exact .c (.ptr rfl)|exact .boxD rfl rfl)
  · intro k hk
    clear hr e
    rcases Nat.lt_or_ge k s.size with hlt | hge
    · have dlt : decide ((k : Int) < (s.size : Int)) = true := decide_eq_true (by omega)
      have hb : 0 <= bAt s k /\ bAt s k < 256 := by
        unfold bAt
        have := (s.data.toList.getD k 0).toNat_lt
        omega
      have hsr := sumK_rng (s := s) ha k
      have hn1 : 0 <= bAt s k / 2 ^ Int.toNat 4 /\ bAt s k / 2 ^ Int.toNat 4 < 16 := by
        rw [show (2 : Int) ^ Int.toNat 4 = 16 from rfl]; omega
      have hn2 := band15 hb
      have es : sumK a s (k + 1) = nibS (nibS (sumK a s k) (bAt s k / 2 ^ Int.toNat 4)) (bitF .and .u8 (bAt s k) 15) := rfl
      generalize sumK a s k = b at *
      have hx1 := nibX hsr hn1
      have hl1 : (bitF .xor .u16 (b / 2 ^ Int.toNat 12) (bAt s k / 2 ^ Int.toNat 4)).toNat < (remL 16).length := by rw [remL_len]; omega
      repeat' (first|(refine gR ?_; first|refine x_opF rfl (by first|exact True.intro|omega) ?_)|(refine gO ?_; first|refine vr_nil ?_)|(refine gT ?_; first|refine q_then_n ?_)|(show VC _ (.seq _ _) _ _; (fail_if_success (show VC _ (.seq (.seq (.region 5 _ _) _) _) _ _)); (fail_if_success (show VC _ (.seq (.region 5 _ _) _) _ _)); refine vc_seq ?_)|refine vc_region ?_|(show VC _ (.cond _ _ _) _ _; first|refine vc_cond_t rfl ?_|refine x_know rfl (by assumption) ?_)|refine vc_block ?_|refine vc_skip ?_)
      refine vc_cut (stOf [(0, AD (.int .u16 (nibS b (bAt s k / 2 ^ Int.toNat 4)))), (1, AD (.str s)), (5, .c (.ptr 5 0)), (6, AI k), (9, AI s.size), (10, AI k)] [(5, .box ((remL 16).map c16))]) ?_ ?_
      · repeat' (first|(refine gR ?_; first|(show VR _ _ _ (⟨_, .binOp .shl _ _ _ _, _, _, _, _⟩ :: _) _ _ _; first|refine vr_shlV (gk rfl) rfl rfl (by omega) (by first|decide|(show _ <= 8; omega)|(show _ <= 16; omega)) rfl rfl ?_)|(show VR _ _ _ (⟨_, .binOp .shr _ _ _ _, _, _, _, _⟩ :: _) _ _ _; first|refine vr_shrV (gk rfl) rfl rfl (by omega) (by first|decide|(show _ <= 8; omega)|(show _ <= 16; omega)|(show _ <= 64; omega)) rfl ?_)|(refine gI ?_; first|refine vr_indexBox (m := (bitF .xor .u16 (b / 2 ^ Int.toNat 12) (bAt s k / 2 ^ Int.toNat 4)).toNat) (gk rfl) rfl rfl rfl hx1.1 hx1.2 (Nat.mul_one _).symm rfl ?_)|(refine gL ?_; first|refine vr_load (gk rfl) rfl rfl rfl (map_c16 hl1) rfl ?_)|refine x_opF rfl (by first|exact True.intro|omega) ?_|(refine gX ?_; first|refine vr_indexStr (gk rfl) rfl rfl rfl (by omega) (by omega) (by first|exact (Int.toNat_natCast _).symm|rfl) rfl ?_)|(refine gV ?_; first|refine vr_convert_id (gk rfl) rfl ⟨_, rfl⟩ rfl (by first|exact wrap_i64 (by omega)|exact wrap_u64 (by omega)|exact wrap_u16 (by omega)|exact wrap_u8 (by omega)|exact wrap_u32 (by omega)) rfl ?_)|(refine gB ?_; first|refine vr_bits (gk rfl) rfl rfl rfl rfl rfl ?_))|(refine gO ?_; first|refine vr_nil ?_)|(refine gT ?_; first|refine q_then_n ?_)|refine vc_region ?_)
        refine le_gen0 (fun n => n) ?_ ?_ rfl (by first|rfl|(simp only [wfL, wfs, mpO_namesB, mpO_namesI]; rfl))
        all_goals repeat' (first|exact trivial|refine ⟨⟨_, rfl, ?_⟩, ?_⟩|exact .c .d|exact .c (.ptr rfl)|exact .boxD rfl rfl)
      have hsr2 : 0 <= nibS b (bAt s k / 2 ^ Int.toNat 4) /\ nibS b (bAt s k / 2 ^ Int.toNat 4) < 65536 := bxor_rng _ _
      generalize nibS b (bAt s k / 2 ^ Int.toNat 4) = b2 at *
      have hx2 := nibX hsr2 hn2
      have hl2 : (bitF .xor .u16 (b2 / 2 ^ Int.toNat 12) (bitF .and .u8 (bAt s k) 15)).toNat < (remL 16).length := by rw [remL_len]; omega
      repeat' (first|(refine gR ?_; first|(show VR _ _ _ (⟨_, .binOp .shl _ _ _ _, _, _, _, _⟩ :: _) _ _ _; first|refine vr_shlV (gk rfl) rfl rfl (by omega) (by first|decide|(show _ <= 8; omega)|(show _ <= 16; omega)) rfl rfl ?_)|(show VR _ _ _ (⟨_, .binOp .shr _ _ _ _, _, _, _, _⟩ :: _) _ _ _; first|refine vr_shrV (gk rfl) rfl rfl (by omega) (by first|decide|(show _ <= 8; omega)|(show _ <= 16; omega)|(show _ <= 64; omega)) rfl ?_)|(refine gI ?_; first|refine vr_indexBox (m := (bitF .xor .u16 (b2 / 2 ^ Int.toNat 12) (bitF .and .u8 (bAt s k) 15)).toNat) (gk rfl) rfl rfl rfl hx2.1 hx2.2 (Nat.mul_one _).symm rfl ?_)|(refine gL ?_; first|refine vr_load (gk rfl) rfl rfl rfl (map_c16 hl2) rfl ?_)|refine x_opF rfl (by first|exact True.intro|omega) ?_|(refine gX ?_; first|refine vr_indexStr (gk rfl) rfl rfl rfl (by omega) (by omega) (by first|exact (Int.toNat_natCast _).symm|rfl) rfl ?_)|(refine gV ?_; first|refine vr_convert_id (gk rfl) rfl ⟨_, rfl⟩ rfl (by first|exact wrap_i64 (by omega)|exact wrap_u64 (by omega)|exact wrap_u16 (by omega)|exact wrap_u8 (by omega)|exact wrap_u32 (by omega)) rfl ?_)|(refine gB ?_; first|refine vr_bits (gk rfl) rfl rfl rfl rfl rfl ?_))|(refine gO ?_; first|refine vr_nil ?_)|(refine gT ?_; first|refine q_then_n ?_)|(refine gK ?_; first|refine q_blk_n ?_)|refine vc_region ?_)
      refine ⟨k + 1, by omega, by omega, ?_⟩
      rw [es]
      refine le_gen0 (fun n => n) ?_ ?_ rfl (by first|rfl|(simp only [wfL, wfs, mpO_namesB, mpO_namesI]; rfl))
      all_goals repeat' (first|exact trivial|refine ⟨⟨_, rfl, ?_⟩, ?_⟩|exact .c .d|exact .c (.ptr rfl)|exact .boxD rfl rfl)
    · have dlt : decide ((k : Int) < (s.size : Int)) = false := decide_eq_false (by omega)
      have hk' : k = s.size := by omega
      subst hk'
      repeat' (first|(refine gR ?_; first|refine x_opF rfl (by first|exact True.intro|omega) ?_)|(refine gO ?_; first|refine vr_nil ?_)|(refine gT ?_; first|refine q_then_n ?_|refine q_then_x ?_)|(refine gK ?_; first|refine q_blk_x ?_)|refine vc_seq ?_|refine vc_region ?_|(show VC _ (.cond _ _ _) _ _; first|refine vc_cond_f rfl ?_|refine x_know rfl (by assumption) ?_)|refine vc_ret ?_|refine vc_exit ?_)
      exact ret_d isRet_r rfl rfl
noncomputable def sumS (s : ByteArray) : Int := sumK 0 s s.size
theorem sumS_rng (s : ByteArray) : 0 <= sumS s /\ sumS s < 65536 := sumK_rng (by decide) _
theorem psum_spec (s : ByteArray) (hs : s.size <= 1000) : FnS Tryz.prog 224 [AD (.str s)] [] (AD (.int .u16 (sumS s))) [] := by
  have h := pupdate_spec 0 s (by decide) hs
  refine FnS.of_body (enters_of Tryz.func224 (by kernel_rfl) rfl) Tryz.func224 rfl Tryz.ntmps224 Tryz.results224 rfl rfl rfl rfl fun E hS => ?_
  repeat' (first|(refine gR ?_; first|refine x_opF rfl (by first|exact True.intro|omega) ?_|(refine gC ?_; first|refine vr_calldU (h) (gk rfl) rfl rfl rfl (by first|rfl|(simp only [wfRes, wfL, wfArgs, wfs, mpO_namesB, mpO_namesI]; rfl)) rfl (by first|exact newB_nil|exact newB_O|((simp only [newB, List.map_cons, List.map_nil, Blk.shift, rowOf_shift]) <;> rfl)|rfl) rfl ?_))|(refine gO ?_; first|refine vr_nil ?_)|(refine gT ?_; first|refine q_then_n ?_)|refine vc_seq ?_|refine vc_region ?_|refine vc_ret ?_)
  exact ret_d isRet_r rfl rfl
noncomputable def crcB (s : ByteArray) : List Int := [IntKind.u8.wrap (sumS s / 2 ^ Int.toNat 8), IntKind.u8.wrap (sumS s)]
noncomputable def protP (s : ByteArray) : ByteArray := s ++ mkS (crcB s)
theorem protP_size (s : ByteArray) : (protP s).size = s.size + 2 := by rw [protP, ByteArray.size_append, mkS_size]; rfl
set_option maxHeartbeats 1000000 in
theorem pprotect_spec (s : ByteArray) (hs : s.size <= 1000) : FnS Tryz.prog 184 [AD (.str s)] [] (AD (.str (protP s))) [] := by
  have h2 : (mkS (crcB s)).size = 2 := mkS_size _
  refine FnS.of_body (enters_of Tryz.func184 (by kernel_rfl) rfl) Tryz.func184 rfl Tryz.ntmps184 Tryz.results184 rfl rfl rfl rfl fun E hS => ?_
  repeat' (first|(refine gR ?_; first|(show VR _ _ _ (⟨_, .binOp .add _ _ _ _, _, _, _, _⟩ :: _) _ _ _; first|refine vr_addStr (gk rfl) rfl rfl (by omega) rfl ?_)|(refine gV ?_; first|refine vr_convStr (L := crcB s) (gk rfl) rfl rfl (by first|rfl|exact rowOf_length.symm|(simp only [lns] <;> omega)) rfl rfl rfl rfl ?_)|(show VR _ _ _ (⟨_, .binOp .shr _ _ _ _, _, _, _, _⟩ :: _) _ _ _; first|refine vr_shrV (gk rfl) rfl rfl (by omega) (by first|decide|(show _ <= 8; omega)|(show _ <= 16; omega)|(show _ <= 64; omega)) rfl ?_)|refine x_opF rfl (by first|exact True.intro|omega) ?_|(refine gC ?_; first|refine vr_calldU (psum_spec s hs) (gk rfl) rfl rfl rfl (by first|rfl|(simp only [wfRes, wfL, wfArgs, wfs, mpO_namesB, mpO_namesI]; rfl)) rfl (by first|exact newB_nil|exact newB_O|((simp only [newB, List.map_cons, List.map_nil, Blk.shift, rowOf_shift]) <;> rfl)|rfl) rfl ?_)|(refine gV ?_; first|refine vr_convert (gk rfl) rfl ⟨_, rfl⟩ rfl rfl ?_))|(refine gO ?_; first|refine vr_nil ?_)|(refine gT ?_; first|refine q_then_n ?_)|refine vc_seq ?_|refine vc_region ?_|refine vc_ret ?_)
  exact ret_d isRet_r rfl rfl
end Go.Proofs
end
section
namespace Go.Proofs
open Go Go.Sx Go.Proofs.T Go.Proofs.Q
set_option maxRecDepth 4000
attribute [local irreducible] VR VC thenQ blockQ retL
theorem pnewW_spec : FnS Tryz.prog 182 [] [] (.c (.ptr 100 0)) [(100, .box [.row 101 0, .d (.int .i64 0), .d (.int .i64 0)]), (101, .row 5 1 (rowOf enc8 []))] := by
  refine FnS.of_body (enters_of Tryz.func182 (by kernel_rfl) rfl) Tryz.func182 rfl Tryz.ntmps182 Tryz.results182 rfl rfl rfl rfl fun E hS => ?_
  refine vc_retL ?_
  repeat' (first|(refine gR ?_; first|refine x_opF rfl (by first|exact True.intro|omega) ?_)|(refine gO ?_; first|refine vr_nil ?_)|(refine gT ?_; first|refine q_then_n ?_)|refine vc_seq ?_|refine vc_region ?_|refine vc_ret ?_)
  refine retL_le (le_nilB (bx := 2) (nm := 101) (T := 5) (sz := 1) (j := 0) rfl rfl rfl) ?_
  refine retL_of (le_gen0 (l := [(0, .c (.ptr 100 0))]) (b := [(100, .box [.row 101 0, .d (.int .i64 0), .d (.int .i64 0)]), (101, .row 5 1 (rowOf enc8 []))]) (fun n => if n = 100 then 2 else n) ?_ ?_ rfl (by first|rfl|(simp only [wfL, wfs, mpO_namesB, mpO_namesI]; rfl))) (retW isRet_r (.tmp rfl rfl .nil) rfl (by repeat' (first|exact trivial|refine ⟨rfl, ?_⟩)))
  all_goals repeat' (first|exact trivial|refine ⟨⟨_, rfl, ?_⟩, ?_⟩|exact .c (.ptr rfl)|exact .rowD rfl rowOf_isD|refine .box ?_|exact .nil|refine .cons ?_ ?_|exact .d|exact .row rfl rfl)
theorem put_val {C : List Bool} {n w k : Nat} (hn : n < 2 ^ 63) (hk : k < w) : IntKind.u8.wrap (IntKind.u8.wrap (bitF .and .u64 ((n : Int) / 2 ^ ((w : Int) - 1 - (k : Int)).toNat) 1) * 2 ^ (7 - (C.length : Int) % 8).toNat) = ((bitV (decide (n / 2 ^ (w - 1 - k) % 2 = 1)) * 2 ^ (7 - C.length % 8) : Nat) : Int) := by
  have e1 : ((w : Int) - 1 - (k : Int)).toNat = w - 1 - k := by omega
  have e2 : (7 - (C.length : Int) % 8).toNat = 7 - C.length % 8 := by omega
  have e3 : (n : Int) / 2 ^ (w - 1 - k) = ((n / 2 ^ (w - 1 - k) : Nat) : Int) := by simp
  have hlt : n / 2 ^ (w - 1 - k) < 2 ^ 64 := by
    have := Nat.div_le_self n (2 ^ (w - 1 - k))
    omega
  have hm : C.length % 8 < 8 := Nat.mod_lt _ (by decide)
  have hp : 2 ^ (7 - C.length % 8) <= 128 := Nat.le_trans (Nat.pow_le_pow_right (by decide) (show 7 - C.length % 8 <= 7 by omega)) (by decide)
  rw [e1, e2, e3, band1_u64 hlt, bitV_dec]
  have h2 : n / 2 ^ (w - 1 - k) % 2 < 2 := Nat.mod_lt _ (by decide)
  generalize n / 2 ^ (w - 1 - k) % 2 = b at *
  rw [show IntKind.u8.wrap (b : Int) = b from wrap_u8 (by omega)]
  have e4 : (b : Int) * 2 ^ (7 - C.length % 8) = ((b * 2 ^ (7 - C.length % 8) : Nat) : Int) := by simp
  rw [e4]
  have h5 : b * 2 ^ (7 - C.length % 8) <= 1 * 2 ^ (7 - C.length % 8) := Nat.mul_le_mul_right _ (by omega)
  exact wrap_u8 (by omega)
set_option maxHeartbeats 2000000 in
theorem pput_spec (B : List Bool) (w n : Nat) (hw : w <= 63) (hn : n < 2 ^ 63) (hB : B.length <= 4000) : FnW Tryz.prog 251 [.c (.ptr 100 0), AI w, AD (.int .u64 n)] [(100, .box [.row 101 (packB B).length, .d (.int .i64 B.length), .d (.int .i64 0)]), (101, .row 5 1 (rowOf enc8 (packB B)))] [100] (.tup []) [(100, .box [.row 102 (packB (B ++ bitsN w n)).length, .d (.int .i64 (B ++ bitsN w n).length), .d (.int .i64 0)]), (102, .row 5 1 (rowOf enc8 (packB (B ++ bitsN w n))))] := by
  intro r
  simp only [pinsL, List.map_cons, List.map_nil, List.cons_append, List.nil_append, Nat.reduceAdd]
  refine FnS.of_bodyM (enters_of Tryz.func251 (by kernel_rfl) rfl) Tryz.func251 rfl Tryz.ntmps251 Tryz.results251 rfl (by first|rfl|(simp only [wfRes, wfL, wfArgs, wfs, mpO_namesB, mpO_namesI]; rfl)) rfl fun E => ?_
  refine vc_retL ?_
  repeat' (first|(refine gR ?_; first|refine x_opF rfl (by first|exact True.intro|omega) ?_)|(refine gO ?_; first|refine vr_nil ?_)|(refine gT ?_; first|refine q_then_n ?_)|refine vc_seq ?_|refine vc_region ?_|refine vc_block ?_)
  refine vc_loopI (ι := Nat) (fun k => stOf [(0, .c (.ptr 100 0)), (1, AI w), (2, AD (.int .u64 n)), (6, AI ((w : Int) - 1 - (k : Int)))] [(9100, .pin 100 (r 100)), (100, .box [.row 101 (packB (B ++ bitsK w n k)).length, .d (.int .i64 (B ++ bitsK w n k).length), .d (.int .i64 0)]), (101, .row 5 1 (rowOf enc8 (packB (B ++ bitsK w n k))))]) (fun k => k <= w) (fun k => w - k) 0 (Nat.zero_le _) ?_ ?_
  · rw [show bitsK w n 0 = [] from rfl, List.append_nil, show (w : Int) - 1 - ((0 : Nat) : Int) = (w : Int) - 1 by omega]
    refine le_gen0 (fun n => n) ?_ ?_ rfl (by first|rfl|(simp only [wfL, wfs, mpO_namesB, mpO_namesI]; rfl))
    all_goals repeat' (first|exact trivial|refine ⟨⟨_, rfl, ?_⟩, ?_⟩|exact .c .d|exact .c (.ptr rfl)|exact .pin rfl|exact .rowD rfl rowOf_isD|refine .box ?_|exact .nil|refine .cons ?_ ?_|exact .d|exact .row rfl rfl)
  · intro k hk
    have hlen : (B ++ bitsK w n k).length = B.length + k := by rw [List.length_append, bitsK_len]
    rcases Nat.lt_or_ge k w with hlt | hge
    · have dlt : decide (0 <= (w : Int) - 1 - (k : Int)) = true := decide_eq_true (by omega)
      have es := bitsK_succ w n k
      have ea : B ++ bitsK w n (k + 1) = (B ++ bitsK w n k) ++ [decide (n / 2 ^ (w - 1 - k) % 2 = 1)] := by rw [es, List.append_assoc]
      generalize B ++ bitsK w n k = C at hlen ea ⊢
      have hpl := packB_len C
      have hol := openB_len C
      have hval := put_val (C := C) (n := n) (w := w) (k := k) hn hlt
      have hfin := packB_push C (decide (n / 2 ^ (w - 1 - k) % 2 = 1))
      rw [<- hval, show C.length / 8 = ((C.length : Int) / 8).toNat by omega] at hfin
      by_cases h8 : C.length % 8 = 0
      · have d8 : decide ((C.length : Int) % 8 = 0) = true := decide_eq_true (by omega)
        have eo : openB C = packB C ++ [0] := if_pos h8
        repeat' (first|(refine gR ?_; first|refine x_opF rfl (by first|exact True.intro|omega) ?_|(refine gA ?_; first|refine vr_append0 (gk rfl) rfl rfl rfl (by first|rfl|exact rowOf_length.symm|(simp only [lns] <;> omega)) (by first|exact .row rfl (by first|rfl|exact rowOf_length.symm)|exact .rd|exact .nils) rfl rfl rfl (by (try dsimp only); omega) rfl rfl ?_)|(refine gN ?_; first|refine vr_nilCheck_ptr (gk rfl) rfl rfl ?_))|(refine gO ?_; first|refine vr_nil ?_)|(refine gT ?_; first|refine q_then_n ?_)|(show VC _ (.seq _ _) _ _; (fail_if_success (show VC _ (.seq (.seq (.region 5 _ _) _) _) _ _)); (fail_if_success (show VC _ (.seq (.region 5 _ _) _) _ _)); refine vc_seq ?_)|refine vc_region ?_|(show VC _ (.cond _ _ _) _ _; first|refine vc_cond_t rfl ?_|refine x_know rfl (by assumption) ?_)|refine vc_block ?_|refine vc_skip ?_)
        refine VC.le (σ' := stOf [(0, .c (.ptr 100 0)), (1, AI w), (2, AD (.int .u64 n)), (6, AI ((w : Int) - 1 - (k : Int)))] [(9100, .pin 100 (r 100)), (100, .box [.row 101 (openB C).length, .d (.int .i64 C.length), .d (.int .i64 0)]), (101, .row 5 1 (rowOf enc8 (openB C)))]) ?_ ?_
        · rw [eo]
          refine le_gen0 (fun n => if n = 101 then 25 else n) ?_ ?_ rfl (by first|rfl|(simp only [wfL, wfs, mpO_namesB, mpO_namesI]; rfl))
          all_goals repeat' (first|exact trivial|refine ⟨⟨_, rfl, ?_⟩, ?_⟩|exact .c .d|exact .c (.ptr rfl)|exact .pin rfl|(refine .rowD ?_ rowOf_isD; rw [rowOf_append]; rfl)|refine .box ?_|exact .nil|refine .cons ?_ ?_|exact .d|(refine .row rfl ?_; ((try dsimp only); first|rfl|omega|(simp only [lns] <;> omega)); done))
        repeat' (first|(refine gR ?_; first|(show VR _ _ _ (⟨_, .binOp .shl _ _ _ _, _, _, _, _⟩ :: _) _ _ _; first|refine vr_shlV (gk rfl) rfl rfl (by omega) (by first|decide|(show _ <= 8; omega)|(show _ <= 16; omega)) rfl rfl ?_)|(show VR _ _ _ (⟨_, .binOp .shr _ _ _ _, _, _, _, _⟩ :: _) _ _ _; first|refine vr_shrV (gk rfl) rfl rfl (by omega) (by first|decide|(show _ <= 8; omega)|(show _ <= 16; omega)|(show _ <= 64; omega)) rfl ?_)|refine x_opF rfl (by first|exact True.intro|omega) ?_|(refine gI ?_; first|refine vr_index_rowN (gk rfl) rfl rfl rfl rfl rfl (by omega) (by first|rfl|exact rowOf_length.symm|(simp only [lns] <;> omega)) rfl ?_)|(refine gN ?_; first|refine vr_nilCheck_ptr (gk rfl) rfl rfl ?_)|(refine gL ?_; first|refine vr_load_rowO (gk rfl) rfl rfl (by omega) rfl rfl rfl ?_)|(refine gS ?_; first|refine vr_store_rowO (gk rfl) rfl rfl rfl (by omega) rfl rfl rfl ?_)|(refine gV ?_; first|refine vr_convert (gk rfl) rfl ⟨_, rfl⟩ rfl rfl ?_)|(refine gB ?_; first|refine vr_bits (gk rfl) rfl rfl rfl rfl rfl ?_))|(refine gO ?_; first|refine vr_nil ?_|refine vr_nil_t (by kernel_rfl) ?_)|(refine gT ?_; first|refine q_then_n ?_)|(refine gK ?_; first|refine q_blk_n ?_)|refine vc_seq ?_|refine vc_region ?_|refine vc_region_t ?_)
        refine ⟨k + 1, by omega, by omega, ?_⟩
        rw [ea, <- hfin, show (w : Int) - 1 - ((k + 1 : Nat) : Int) = (w : Int) - 1 - (k : Int) - 1 by omega, show (((C ++ [decide (n / 2 ^ (w - 1 - k) % 2 = 1)]).length : Nat) : Int) = (C.length : Int) + 1 by simp]
        refine le_gen0 (fun n => n) ?_ ?_ rfl (by first|rfl|(simp only [wfL, wfs, mpO_namesB, mpO_namesI]; rfl))
        all_goals repeat' (first|exact trivial|refine ⟨⟨_, rfl, ?_⟩, ?_⟩|exact .c .d|exact .c (.ptr rfl)|exact .pin rfl|exact .rowD (rowOf_set rfl) rowOf_isD|refine .box ?_|exact .nil|refine .cons ?_ ?_|exact .d|(refine .row rfl ?_; ((try dsimp only); first|rfl|omega|(simp only [lns] <;> omega)); done))
      · have d8 : decide ((C.length : Int) % 8 = 0) = false := decide_eq_false (by omega)
        have eo : openB C = packB C := if_neg h8
        repeat' (first|(refine gR ?_; first|refine x_opF rfl (by first|exact True.intro|omega) ?_|(refine gN ?_; first|refine vr_nilCheck_ptr (gk rfl) rfl rfl ?_))|(refine gO ?_; first|refine vr_nil ?_)|(refine gT ?_; first|refine q_then_n ?_)|(show VC _ (.seq _ _) _ _; (fail_if_success (show VC _ (.seq (.seq (.region 5 _ _) _) _) _ _)); (fail_if_success (show VC _ (.seq (.region 5 _ _) _) _ _)); refine vc_seq ?_)|refine vc_region ?_|(show VC _ (.cond _ _ _) _ _; first|refine vc_cond_t rfl ?_|refine vc_cond_f rfl ?_|refine x_know rfl (by assumption) ?_)|refine vc_block ?_|refine vc_skip ?_)
        refine VC.le (σ' := stOf [(0, .c (.ptr 100 0)), (1, AI w), (2, AD (.int .u64 n)), (6, AI ((w : Int) - 1 - (k : Int)))] [(9100, .pin 100 (r 100)), (100, .box [.row 101 (openB C).length, .d (.int .i64 C.length), .d (.int .i64 0)]), (101, .row 5 1 (rowOf enc8 (openB C)))]) ?_ ?_
        · rw [eo]
          refine le_gen0 (fun n => n) ?_ ?_ rfl (by first|rfl|(simp only [wfL, wfs, mpO_namesB, mpO_namesI]; rfl))
          all_goals repeat' (first|exact trivial|refine ⟨⟨_, rfl, ?_⟩, ?_⟩|exact .c .d|exact .c (.ptr rfl)|exact .pin rfl|exact .rowD rfl rowOf_isD|refine .box ?_|exact .nil|refine .cons ?_ ?_|exact .d|exact .row rfl rfl)
        repeat' (first|(refine gR ?_; first|(show VR _ _ _ (⟨_, .binOp .shl _ _ _ _, _, _, _, _⟩ :: _) _ _ _; first|refine vr_shlV (gk rfl) rfl rfl (by omega) (by first|decide|(show _ <= 8; omega)|(show _ <= 16; omega)) rfl rfl ?_)|(show VR _ _ _ (⟨_, .binOp .shr _ _ _ _, _, _, _, _⟩ :: _) _ _ _; first|refine vr_shrV (gk rfl) rfl rfl (by omega) (by first|decide|(show _ <= 8; omega)|(show _ <= 16; omega)|(show _ <= 64; omega)) rfl ?_)|refine x_opF rfl (by first|exact True.intro|omega) ?_|(refine gI ?_; first|refine vr_index_rowN (gk rfl) rfl rfl rfl rfl rfl (by omega) (by first|rfl|exact rowOf_length.symm|(simp only [lns] <;> omega)) rfl ?_)|(refine gN ?_; first|refine vr_nilCheck_ptr (gk rfl) rfl rfl ?_)|(refine gL ?_; first|refine vr_load_rowO (gk rfl) rfl rfl (by omega) rfl rfl rfl ?_)|(refine gS ?_; first|refine vr_store_rowO (gk rfl) rfl rfl rfl (by omega) rfl rfl rfl ?_)|(refine gV ?_; first|refine vr_convert (gk rfl) rfl ⟨_, rfl⟩ rfl rfl ?_)|(refine gB ?_; first|refine vr_bits (gk rfl) rfl rfl rfl rfl rfl ?_))|(refine gO ?_; first|refine vr_nil ?_|refine vr_nil_t (by kernel_rfl) ?_)|(refine gT ?_; first|refine q_then_n ?_)|(refine gK ?_; first|refine q_blk_n ?_)|refine vc_seq ?_|refine vc_region ?_|refine vc_region_t ?_)
        refine ⟨k + 1, by omega, by omega, ?_⟩
        rw [ea, <- hfin, show (w : Int) - 1 - ((k + 1 : Nat) : Int) = (w : Int) - 1 - (k : Int) - 1 by omega, show (((C ++ [decide (n / 2 ^ (w - 1 - k) % 2 = 1)]).length : Nat) : Int) = (C.length : Int) + 1 by simp]
        refine le_gen0 (fun n => n) ?_ ?_ rfl (by first|rfl|(simp only [wfL, wfs, mpO_namesB, mpO_namesI]; rfl))
        all_goals repeat' (first|exact trivial|refine ⟨⟨_, rfl, ?_⟩, ?_⟩|exact .c .d|exact .c (.ptr rfl)|exact .pin rfl|exact .rowD (rowOf_set rfl) rowOf_isD|refine .box ?_|exact .nil|refine .cons ?_ ?_|exact .d|(refine .row rfl ?_; ((try dsimp only); first|rfl|omega|(simp only [lns] <;> omega)); done))
    · have dlt : decide (0 <= (w : Int) - 1 - (k : Int)) = false := decide_eq_false (by omega)
      have hk' : k = w := by omega
      subst hk'
      rw [show bitsK k n k = bitsN k n from rfl]
      repeat' (first|(refine gR ?_; first|refine x_opF rfl (by first|exact True.intro|omega) ?_)|(refine gO ?_; first|refine vr_nil ?_)|(refine gT ?_; first|refine q_then_n ?_|refine q_then_x ?_)|(refine gK ?_; first|refine q_blk_x ?_)|refine vc_seq ?_|refine vc_region ?_|(show VC _ (.cond _ _ _) _ _; first|refine vc_cond_f rfl ?_|refine x_know rfl (by assumption) ?_)|refine vc_exit ?_)
      refine retL_of (le_gen0 (l := []) (b := [(9100, .pin 100 (r 100)), (100, .box [.row 102 (packB (B ++ bitsN k n)).length, .d (.int .i64 (B ++ bitsN k n).length), .d (.int .i64 0)]), (102, .row 5 1 (rowOf enc8 (packB (B ++ bitsN k n))))]) (fun n => if n = 102 then 101 else n) ?_ ?_ rfl (by first|rfl|(simp only [wfL, wfs, mpO_namesB, mpO_namesI]; rfl))) (retW isRet_n .nil rfl (by repeat' (first|exact trivial|refine ⟨rfl, ?_⟩)))
      all_goals repeat' (first|exact trivial|refine ⟨⟨_, rfl, ?_⟩, ?_⟩|exact .pin rfl|exact .rowD rfl rowOf_isD|refine .box ?_|exact .nil|refine .cons ?_ ?_|exact .d|exact .row rfl rfl)
end Go.Proofs
end
section
namespace Go.Proofs
open Go Go.Sx Go.Proofs.T Go.Proofs.Q
set_option maxRecDepth 4000
attribute [local irreducible] VR VC thenQ blockQ retL
def len8S : ByteArray := ⟨((List.replicate 1 0 ++ List.replicate 1 1 ++ List.replicate 2 2 ++ List.replicate 4 3 ++ List.replicate 8 4 ++ List.replicate 16 5 ++ List.replicate 32 6 ++ List.replicate 64 7 ++ List.replicate 128 8).map UInt8.ofNat).toArray⟩
def lenA (n : Nat) : Nat × Nat := if 65536 <= n then (16, n / 65536) else (0, n)
def lenB (p : Nat × Nat) : Nat × Nat := if 256 <= p.2 then (p.1 + 8, p.2 / 256) else p
def lenV (n : Nat) : Int := ((lenB (lenA n)).1 : Int) + bAt len8S (lenB (lenA n)).2
theorem len8_le : ∀ j : Fin 9, ∀ x : Fin 256, x.val < 2 ^ j.val -> bAt len8S x.val <= j.val := by decide +kernel
theorem bAt_rng (s : ByteArray) (i : Nat) : 0 <= bAt s i /\ bAt s i < 256 := by
  unfold bAt
  have := (s.data.toList.getD i 0).toNat_lt
  omega
theorem len_fin {L : ByteArray} {a : Int} {m n : Nat} {p : Nat × Nat} (hL : L = len8S) (hp : lenB (lenA n) = p) (ha : a = (p.1 : Int)) (hm : m = p.2) (h24 : p.1 <= 24) : IntKind.i64.wrap (a + IntKind.i64.wrap (bAt L m)) = lenV n := by
  subst hL hm ha
  have := bAt_rng len8S p.2
  rw [show IntKind.i64.wrap (bAt len8S p.2) = bAt len8S p.2 from wrap_i64 (by omega), wrap_i64 (by omega)]
  unfold lenV
  rw [hp]
theorem lenV_le {n w : Nat} (hn : n < 2 ^ w) (hw : w <= 32) : 0 <= lenV n /\ lenV n <= w := by
  have hb := fun m => bAt_rng len8S m
  have key : ∀ m j : Nat, m < 256 -> j <= 8 -> m < 2 ^ j -> bAt len8S m <= j := fun m j hm hj h => len8_le ⟨j, by omega⟩ ⟨m, hm⟩ h
  have hdiv : ∀ c m e : Nat, m < 2 ^ e -> c <= e -> m / 2 ^ c < 2 ^ (e - c) := fun c m e h hc => by
    rw [Nat.div_lt_iff_lt_mul (Nat.pow_pos (by decide)), <- Nat.pow_add, Nat.sub_add_cancel hc]; exact h
  have hle : ∀ c m e : Nat, 2 ^ c <= m -> m < 2 ^ e -> c < e := fun c m e h1 h2 => (Nat.pow_lt_pow_iff_right (by decide)).1 (Nat.lt_of_le_of_lt h1 h2)
  have hmono : ∀ {m e f : Nat}, m < 2 ^ e -> e <= f -> m < 2 ^ f := fun h hef => Nat.lt_of_lt_of_le h (Nat.pow_le_pow_right (by decide) hef)
  unfold lenV
  refine ⟨by have := hb (lenB (lenA n)).2; omega, ?_⟩
  by_cases h1 : 65536 <= n
  · have hA : lenA n = (16, n / 65536) := if_pos h1
    have hw16 : 16 < w := hle 16 n w h1 hn
    have hn1 : n / 65536 < 2 ^ (w - 16) := hdiv 16 n w hn (by omega)
    by_cases h2 : 256 <= n / 65536
    · have hB : lenB (lenA n) = (24, n / 65536 / 256) := by rw [hA]; exact if_pos h2
      have hw8 : 8 < w - 16 := hle 8 _ _ h2 hn1
      have hn2 : n / 65536 / 256 < 2 ^ (w - 16 - 8) := hdiv 8 _ _ hn1 (by omega)
      have h256 : n / 65536 / 256 < 256 := hmono hn2 (show w - 16 - 8 <= 8 by omega)
      rw [hB]
      have := key _ _ h256 (by omega) hn2
      show ((24 : Nat) : Int) + bAt len8S (n / 65536 / 256) <= w
      omega
    · have hB : lenB (lenA n) = (16, n / 65536) := by rw [hA]; exact if_neg h2
      rw [hB]
      show ((16 : Nat) : Int) + bAt len8S (n / 65536) <= w
      rcases Nat.lt_or_ge 8 (w - 16) with h3 | h3
      · have := key _ 8 (by omega) (Nat.le_refl _) (show n / 65536 < 2 ^ 8 by omega)
        omega
      · have := key _ _ (by omega) h3 hn1
        omega
  · have hA : lenA n = (0, n) := if_neg h1
    by_cases h2 : 256 <= n
    · have hB : lenB (lenA n) = (8, n / 256) := by rw [hA]; exact if_pos h2
      have hw8 : 8 < w := hle 8 _ _ h2 hn
      have hn2 : n / 256 < 2 ^ (w - 8) := hdiv 8 _ _ hn (by omega)
      rw [hB]
      show ((8 : Nat) : Int) + bAt len8S (n / 256) <= w
      rcases Nat.lt_or_ge 8 (w - 8) with h3 | h3
      · have := key _ 8 (by omega) (Nat.le_refl _) (show n / 256 < 2 ^ 8 by omega)
        omega
      · have := key _ _ (by omega) h3 hn2
        omega
    · have hB : lenB (lenA n) = (0, n) := by rw [hA]; exact if_neg h2
      rw [hB]
      show ((0 : Nat) : Int) + bAt len8S n <= w
      rcases Nat.lt_or_ge 8 w with h3 | h3
      · have := key _ 8 (by omega) (Nat.le_refl _) (show n < 2 ^ 8 by omega)
        omega
      · have := key _ _ (by omega) h3 hn
        omega
set_option maxHeartbeats 1000000 in
theorem len64_spec (n : Nat) (hn : n < 2 ^ 32) : FnS Tryz.prog 243 [AD (.int .u64 n)] [] (AI (lenV n)) [] := by
  have d0 : decide ((4294967296 : Int) <= (n : Int)) = false := decide_eq_false (by omega)
  refine FnS.of_body (enters_of Tryz.func243 (by kernel_rfl) rfl) Tryz.func243 rfl Tryz.ntmps243 Tryz.results243 rfl rfl rfl rfl fun E hS => ?_
  by_cases h1 : 65536 <= n
  · have d1 : decide ((65536 : Int) <= (n : Int)) = true := decide_eq_true (by omega)
    have f1 : (n : Int) / 2 ^ Int.toNat 16 = ((n / 65536 : Nat) : Int) := by
      rw [show (2 : Int) ^ Int.toNat 16 = 65536 from rfl]; omega
    have hA : lenA n = (16, n / 65536) := if_pos h1
    by_cases h2 : 256 <= n / 65536
    · have d2 : decide (256 <= (n : Int) / 2 ^ Int.toNat 16) = true := decide_eq_true (by omega)
      have hB : lenB (lenA n) = (24, n / 65536 / 256) := by rw [hA]; exact if_pos h2
      have f2 : (n : Int) / 2 ^ Int.toNat 16 / 2 ^ Int.toNat 8 = ((n / 65536 / 256 : Nat) : Int) := by
        rw [f1, show (2 : Int) ^ Int.toNat 8 = 256 from rfl]; omega
      repeat' (first|(refine gR ?_; first|(refine gX ?_; first|refine vr_indexStr (m := n / 65536 / 256) (gk rfl) rfl rfl rfl (by omega) (show _ < (256 : Int) from by omega) (by omega) rfl ?_)|(show VR _ _ _ (⟨_, .binOp .shr _ _ _ _, _, _, _, _⟩ :: _) _ _ _; first|refine vr_shrV (gk rfl) rfl rfl (by omega) (by first|decide|(show _ <= 8; omega)|(show _ <= 16; omega)|(show _ <= 64; omega)) rfl ?_)|refine x_opF rfl (by first|exact True.intro|omega) ?_|(refine gV ?_; first|refine vr_convert_id (gk rfl) rfl ⟨_, rfl⟩ rfl (by first|exact wrap_i64 (by omega)|exact wrap_u64 (by omega)|exact wrap_u16 (by omega)|exact wrap_u8 (by omega)|exact wrap_u32 (by omega)) rfl ?_|refine vr_convert (gk rfl) rfl ⟨_, rfl⟩ rfl rfl ?_)|(refine gB ?_; first|refine x_ariw rfl rfl rfl rfl rfl ?_))|(refine gO ?_; first|refine vr_nil ?_)|(refine gT ?_; first|refine q_then_n ?_)|refine vc_seq ?_|refine vc_region ?_|(show VC _ (.cond _ _ _) _ _; first|refine vc_cond_t rfl ?_|refine vc_cond_f rfl ?_|refine x_know rfl (by assumption) ?_)|refine vc_ret ?_|refine vc_skip ?_)
      refine ret_int isRet_r rfl (len_fin (p := _) ?_ hB (by rfl) rfl (Nat.le_of_ble_eq_true rfl)).symm
      kernel_rfl
    · have d2 : decide (256 <= (n : Int) / 2 ^ Int.toNat 16) = false := decide_eq_false (by omega)
      have hB : lenB (lenA n) = (16, n / 65536) := by rw [hA]; exact if_neg h2
      repeat' (first|(refine gR ?_; first|(refine gX ?_; first|refine vr_indexStr (m := n / 65536) (gk rfl) rfl rfl rfl (by omega) (show _ < (256 : Int) from by omega) (by omega) rfl ?_)|(show VR _ _ _ (⟨_, .binOp .shr _ _ _ _, _, _, _, _⟩ :: _) _ _ _; first|refine vr_shrV (gk rfl) rfl rfl (by omega) (by first|decide|(show _ <= 8; omega)|(show _ <= 16; omega)|(show _ <= 64; omega)) rfl ?_)|refine x_opF rfl (by first|exact True.intro|omega) ?_|(refine gV ?_; first|refine vr_convert_id (gk rfl) rfl ⟨_, rfl⟩ rfl (by first|exact wrap_i64 (by omega)|exact wrap_u64 (by omega)|exact wrap_u16 (by omega)|exact wrap_u8 (by omega)|exact wrap_u32 (by omega)) rfl ?_|refine vr_convert (gk rfl) rfl ⟨_, rfl⟩ rfl rfl ?_)|(refine gB ?_; first|refine x_ariw rfl rfl rfl rfl rfl ?_))|(refine gO ?_; first|refine vr_nil ?_)|(refine gT ?_; first|refine q_then_n ?_)|refine vc_seq ?_|refine vc_region ?_|(show VC _ (.cond _ _ _) _ _; first|refine vc_cond_t rfl ?_|refine vc_cond_f rfl ?_|refine x_know rfl (by assumption) ?_)|refine vc_ret ?_|refine vc_skip ?_)
      refine ret_int isRet_r rfl (len_fin (p := _) ?_ hB (by rfl) rfl (Nat.le_of_ble_eq_true rfl)).symm
      kernel_rfl
  · have d1 : decide ((65536 : Int) <= (n : Int)) = false := decide_eq_false (by omega)
    have hA : lenA n = (0, n) := if_neg h1
    by_cases h2 : 256 <= n
    · have d2 : decide (256 <= (n : Int)) = true := decide_eq_true (by omega)
      have hB : lenB (lenA n) = (8, n / 256) := by rw [hA]; exact if_pos h2
      have f2 : (n : Int) / 2 ^ Int.toNat 8 = ((n / 256 : Nat) : Int) := by
        rw [show (2 : Int) ^ Int.toNat 8 = 256 from rfl]; omega
      repeat' (first|(refine gR ?_; first|(refine gX ?_; first|refine vr_indexStr (m := n / 256) (gk rfl) rfl rfl rfl (by omega) (show _ < (256 : Int) from by omega) (by omega) rfl ?_)|(show VR _ _ _ (⟨_, .binOp .shr _ _ _ _, _, _, _, _⟩ :: _) _ _ _; first|refine vr_shrV (gk rfl) rfl rfl (by omega) (by first|decide|(show _ <= 8; omega)|(show _ <= 16; omega)|(show _ <= 64; omega)) rfl ?_)|refine x_opF rfl (by first|exact True.intro|omega) ?_|(refine gV ?_; first|refine vr_convert_id (gk rfl) rfl ⟨_, rfl⟩ rfl (by first|exact wrap_i64 (by omega)|exact wrap_u64 (by omega)|exact wrap_u16 (by omega)|exact wrap_u8 (by omega)|exact wrap_u32 (by omega)) rfl ?_|refine vr_convert (gk rfl) rfl ⟨_, rfl⟩ rfl rfl ?_)|(refine gB ?_; first|refine x_ariw rfl rfl rfl rfl rfl ?_))|(refine gO ?_; first|refine vr_nil ?_)|(refine gT ?_; first|refine q_then_n ?_)|refine vc_seq ?_|refine vc_region ?_|(show VC _ (.cond _ _ _) _ _; first|refine vc_cond_t rfl ?_|refine vc_cond_f rfl ?_|refine x_know rfl (by assumption) ?_)|refine vc_ret ?_|refine vc_skip ?_)
      refine ret_int isRet_r rfl (len_fin (p := _) ?_ hB (by rfl) rfl (Nat.le_of_ble_eq_true rfl)).symm
      kernel_rfl
    · have d2 : decide (256 <= (n : Int)) = false := decide_eq_false (by omega)
      have hB : lenB (lenA n) = (0, n) := by rw [hA]; exact if_neg h2
      repeat' (first|(refine gR ?_; first|(refine gX ?_; first|refine vr_indexStr (m := n) (gk rfl) rfl rfl rfl (by omega) (show _ < (256 : Int) from by omega) (by omega) rfl ?_)|refine x_opF rfl (by first|exact True.intro|omega) ?_|(refine gV ?_; first|refine vr_convert_id (gk rfl) rfl ⟨_, rfl⟩ rfl (by first|exact wrap_i64 (by omega)|exact wrap_u64 (by omega)|exact wrap_u16 (by omega)|exact wrap_u8 (by omega)|exact wrap_u32 (by omega)) rfl ?_|refine vr_convert (gk rfl) rfl ⟨_, rfl⟩ rfl rfl ?_)|(refine gB ?_; first|refine x_ariw rfl rfl rfl rfl rfl ?_))|(refine gO ?_; first|refine vr_nil ?_)|(refine gT ?_; first|refine q_then_n ?_)|refine vc_seq ?_|refine vc_region ?_|(show VC _ (.cond _ _ _) _ _; first|refine vc_cond_f rfl ?_|refine x_know rfl (by assumption) ?_)|refine vc_ret ?_|refine vc_skip ?_)
      refine ret_int isRet_r rfl (len_fin (p := _) ?_ hB (by rfl) rfl (Nat.le_of_ble_eq_true rfl)).symm
      kernel_rfl
theorem len_spec (n : Nat) (hn : n < 2 ^ 32) : FnS Tryz.prog 210 [AD (.int .u64 n)] [] (AI (lenV n)) [] := by
  refine FnS.of_body (enters_of Tryz.func210 (by kernel_rfl) rfl) Tryz.func210 rfl Tryz.ntmps210 Tryz.results210 rfl rfl rfl rfl fun E hS => ?_
  repeat' (first|(refine gR ?_; first|refine x_opF rfl (by first|exact True.intro|omega) ?_|(refine gC ?_; first|refine vr_calldU (len64_spec n hn) (gk rfl) rfl rfl rfl (by first|rfl|(simp only [wfRes, wfL, wfArgs, wfs, mpO_namesB, mpO_namesI]; rfl)) rfl (by first|exact newB_nil|exact newB_O|((simp only [newB, List.map_cons, List.map_nil, Blk.shift, rowOf_shift]) <;> rfl)|rfl) rfl ?_))|(refine gO ?_; first|refine vr_nil ?_)|(refine gT ?_; first|refine q_then_n ?_)|refine vc_seq ?_|refine vc_region ?_|(show VC _ (.cond _ _ _) _ _; first|refine vc_cond_f rfl ?_)|refine vc_ret ?_|refine vc_skip ?_)
  exact ret_int isRet_r rfl rfl
theorem lenV127 : lenV 127 = 7 := by decide +kernel
theorem lenV8 : lenV 8 = 4 := by decide +kernel
theorem pwidth_spec (m : Nat) (hm : m < 2 ^ 32) : FnS Tryz.prog 250 [AI m] [] (AI (max 1 (lenV m))) [] := by
  have h := len_spec m hm
  refine FnS.of_body (enters_of Tryz.func250 (by kernel_rfl) rfl) Tryz.func250 rfl Tryz.ntmps250 Tryz.results250 rfl rfl rfl rfl fun E hS => ?_
  repeat' (first|(refine gR ?_; first|refine x_opF rfl (by first|exact True.intro|omega) ?_|(refine gC ?_; first|refine vr_calldU (h) (gk rfl) rfl rfl rfl (by first|rfl|(simp only [wfRes, wfL, wfArgs, wfs, mpO_namesB, mpO_namesI]; rfl)) rfl (by first|exact newB_nil|exact newB_O|((simp only [newB, List.map_cons, List.map_nil, Blk.shift, rowOf_shift]) <;> rfl)|rfl) rfl ?_)|(refine gV ?_; first|refine vr_convert_id (gk rfl) rfl ⟨_, rfl⟩ rfl (by first|exact wrap_i64 (by omega)|exact wrap_u64 (by omega)|exact wrap_u16 (by omega)|exact wrap_u8 (by omega)|exact wrap_u32 (by omega)) rfl ?_))|(refine gO ?_; first|refine vr_nil ?_)|(refine gT ?_; first|refine q_then_n ?_)|refine vc_seq ?_|refine vc_region ?_|(show VC _ (.cond _ _ _) _ _; first|refine vc_cond_f rfl ?_)|refine vc_ret ?_|refine vc_skip ?_)
  exact ret_int isRet_r rfl rfl
theorem limit_spec (n : Int) : FnS Tryz.prog 249 [AI n] [] (AB (decide (1 <= n /\ n <= 4095))) [] := by
  refine FnS.of_body (enters_of Tryz.func249 (by kernel_rfl) rfl) Tryz.func249 rfl Tryz.ntmps249 Tryz.results249 rfl rfl rfl rfl fun E hS => ?_
  repeat' (first|(refine gR ?_; first|refine x_opF rfl (by first|exact True.intro|omega) ?_|(refine x_gsplit rfl ?_ ?_ <;> intro h <;> have hq := h <;> (try simp only [hqs] at hq)))|(refine gO ?_; first|refine vr_nil ?_)|(refine gT ?_; first|refine q_then_n ?_)|refine vc_seq ?_|refine vc_region ?_|refine vc_ret ?_)
  · refine ret_bool isRet_r rfl ?_
    exact decide_eq_decide.2 (by omega)
  · refine ret_bool isRet_r rfl ?_
    exact decide_eq_false (by omega)
end Go.Proofs
end
section
namespace Go.Proofs
open Go Go.Sx Go.Proofs.T Go.Proofs.Q
set_option maxRecDepth 4000
attribute [local irreducible] VR VC thenQ blockQ retL
theorem pfield_spec (B : List Bool) (w n : Nat) (b1 b2 : Bool) (hb1 : b1 = true) (hb2 : b2 = true) (hw : w <= 63) (hn : n < 2 ^ 63) (hB : B.length <= 4000) : FnW Tryz.prog 248 [.c (.ptr 100 0), AB b1, AB b2, AI w, AI n] [(100, .box [.row 101 (packB B).length, .d (.int .i64 B.length), .d (.int .i64 0)]), (101, .row 5 1 (rowOf enc8 (packB B)))] [100] (.tup []) [(100, .box [.row 102 (packB (B ++ bitsN w n)).length, .d (.int .i64 (B ++ bitsN w n).length), .d (.int .i64 0)]), (102, .row 5 1 (rowOf enc8 (packB (B ++ bitsN w n))))] := by
  subst hb1 hb2
  have hp := pput_spec B w n hw hn hB
  intro r
  simp only [pinsL, List.map_cons, List.map_nil, List.cons_append, List.nil_append, Nat.reduceAdd]
  refine FnS.of_bodyM (enters_of Tryz.func248 (by kernel_rfl) rfl) Tryz.func248 rfl Tryz.ntmps248 Tryz.results248 rfl (by first|rfl|(simp only [wfRes, wfL, wfArgs, wfs, mpO_namesB, mpO_namesI]; rfl)) rfl fun E => ?_
  refine vc_retL ?_
  repeat' (first|(refine gR ?_; first|refine x_opF rfl (by first|exact True.intro|omega) ?_|(refine gC ?_; first|refine vr_callW (nmL []) [] [100] (hp) (gk rfl) rfl rfl (by (repeat' (first|exact .nil|refine .cons ?_ ?_|exact .w (.c (.ptr rfl)) rfl|exact .w (.c (.row rfl rfl)) rfl|exact .w (.c (.mp rfl)) rfl|exact .w (.c (.fn rfl)) rfl|exact .w (.rp rfl) rfl|(refine .w (.fncC ?_) rfl; repeat' (first|exact .nil|refine .cons ?_ ?_|exact .d|exact .ptr rfl|exact .row rfl rfl|(refine .row rfl ?_; ((try dsimp only); first|rfl|omega|(simp only [lns] <;> omega)); done)|exact .fn rfl|exact .mp rfl|exact .frzOf (by first|(simp; done)|decide) rfl rfl (fun _ => rfl)))|exact .r (.of0 (.c .d))|refine .r ?_|exact .of0 (.c .d)|exact .of0 .ep|exact .clo|exact .of0 (.c .nil)|exact .of0 (.c (cr_rowO (by simp) rfl (by first|rfl|omega) (fun _ => rfl)))|refine .of0 (.agg ?_)|exact .d|exact .nil|exact .of0 (.c (cr_row (by decide) rfl rfl (by repeat' (first|exact trivial|refine ⟨?_, ?_⟩|rfl)))))) <;> fail) (by (repeat' (first|exact trivial|refine ⟨⟨_, rfl, ?_⟩, ?_⟩|exact .boxD rfl rfl|exact .rowD rfl rowOf_isD|exact .mapO (fun _ => rfl) rfl|exact .pin rfl|refine .box ?_|exact .nil|refine .cons ?_ ?_|exact .d|exact .ptr rfl|exact .row rfl rfl|(refine .row rfl ?_; ((try dsimp only); first|rfl|omega|(simp only [lns] <;> omega)); done)|exact .fn rfl|exact .mp rfl|exact .frzOf (by first|(simp; done)|decide) rfl rfl (fun _ => rfl))) <;> fail) rfl rfl rfl (by first|rfl|(simp only [List.all_cons, List.all_nil, rowOf_flatB]; rfl)) rfl (by first|rfl|(simp only [wfRes, wfL, wfArgs, wfs, mpO_namesB, mpO_namesI]; rfl)) rfl rfl rfl (by (simp only [newW, List.map_cons, List.map_nil, Blk.ren, C.ren, rowOf_ren, mpO_renB, mpO_renI, gW, memN, nmL, Nat.reduceBEq, Bool.or_false, Bool.or_true, Bool.false_or, Bool.true_or, cond_true, cond_false, Nat.reduceMul, Nat.reduceAdd]) <;> rfl) (by (simp only [AV.ren, AV.ren0, List.map_cons, List.map_nil, C.ren, gW, memN, nmL, Nat.reduceBEq, Bool.or_false, Bool.or_true, Bool.false_or, Bool.true_or, cond_true, cond_false, Nat.reduceMul, Nat.reduceAdd]) <;> rfl) rfl ?_)|(refine gN ?_; first|refine vr_nilCheck_ptr (gk rfl) rfl rfl ?_)|(refine gV ?_; first|refine vr_convert_id (gk rfl) rfl ⟨_, rfl⟩ rfl (by first|exact wrap_i64 (by omega)|exact wrap_u64 (by omega)|exact wrap_u16 (by omega)|exact wrap_u8 (by omega)|exact wrap_u32 (by omega)) rfl ?_))|(refine gO ?_; first|refine vr_nil ?_)|(refine gT ?_; first|refine q_then_n ?_)|(refine gK ?_; first|refine q_blk_n ?_)|refine vc_seq ?_|refine vc_region ?_|(show VC _ (.cond _ _ _) _ _; first|refine vc_cond_f rfl ?_|(refine x_cond rfl ?_ ?_ <;> intro h <;> have hq := h <;> (try simp only [hqs] at hq)))|refine vc_block ?_)
  all_goals first
    | (exfalso; omega)
    | skip
  refine retL_of (le_gen0 (l := []) (b := [(9100, .pin 100 (r 100)), (100, .box [.row 102 (packB (B ++ bitsN w n)).length, .d (.int .i64 (B ++ bitsN w n).length), .d (.int .i64 0)]), (102, .row 5 1 (rowOf enc8 (packB (B ++ bitsN w n))))]) (fun n => if n = 102 then 14102 else n) ?_ ?_ rfl (by first|rfl|(simp only [wfL, wfs, mpO_namesB, mpO_namesI]; rfl))) (retW isRet_n .nil rfl (by repeat' (first|exact trivial|refine ⟨rfl, ?_⟩)))
  all_goals repeat' (first|exact trivial|refine ⟨⟨_, rfl, ?_⟩, ?_⟩|exact .pin rfl|exact .rowD rfl rowOf_isD|refine .box ?_|exact .nil|refine .cons ?_ ?_|exact .d|exact .row rfl rfl)
theorem punsigned_spec (B : List Bool) (w n : Nat) (hw : 1 <= w /\ w <= 32) (hn : n < 2 ^ w) (hB : B.length <= 4000) : FnW Tryz.prog 220 [.c (.ptr 100 0), AI w, AI n] [(100, .box [.row 101 (packB B).length, .d (.int .i64 B.length), .d (.int .i64 0)]), (101, .row 5 1 (rowOf enc8 (packB B)))] [100] (.tup []) [(100, .box [.row 102 (packB (B ++ bitsN w n)).length, .d (.int .i64 (B ++ bitsN w n).length), .d (.int .i64 0)]), (102, .row 5 1 (rowOf enc8 (packB (B ++ bitsN w n))))] := by
  have h32 : n < 2 ^ 32 := Nat.lt_of_lt_of_le hn (Nat.pow_le_pow_right (by decide) hw.2)
  have hl := lenV_le hn hw.2
  have hle := len_spec n h32
  have d1 : decide ((1 : Int) <= (w : Int)) = true := decide_eq_true (by omega)
  have d2 : decide ((w : Int) <= 63) = true := decide_eq_true (by omega)
  have d3 : decide ((0 : Int) <= (n : Int)) = true := decide_eq_true (by omega)
  have d4 : decide (lenV n <= (w : Int)) = true := decide_eq_true hl.2
  have hf := pfield_spec B w n _ _ d2 d4 (by omega) (by omega) hB
  intro r
  simp only [pinsL, List.map_cons, List.map_nil, List.cons_append, List.nil_append, Nat.reduceAdd]
  refine FnS.of_bodyM (enters_of Tryz.func220 (by kernel_rfl) rfl) Tryz.func220 rfl Tryz.ntmps220 Tryz.results220 rfl (by first|rfl|(simp only [wfRes, wfL, wfArgs, wfs, mpO_namesB, mpO_namesI]; rfl)) rfl fun E => ?_
  refine vc_retL ?_
  repeat' (first|(refine gR ?_; first|refine x_opF rfl (by first|exact True.intro|omega) ?_|(refine gC ?_; first|refine vr_calldU (hle) (gk rfl) rfl rfl rfl (by first|rfl|(simp only [wfRes, wfL, wfArgs, wfs, mpO_namesB, mpO_namesI]; rfl)) rfl (by first|exact newB_nil|exact newB_O|((simp only [newB, List.map_cons, List.map_nil, Blk.shift, rowOf_shift]) <;> rfl)|rfl) rfl ?_|refine vr_callW (nmL []) [] [100] (hf) (gk rfl) rfl rfl (by (repeat' (first|exact .nil|refine .cons ?_ ?_|exact .w (.c (.ptr rfl)) rfl|exact .w (.c (.row rfl rfl)) rfl|exact .w (.c (.mp rfl)) rfl|exact .w (.c (.fn rfl)) rfl|exact .w (.rp rfl) rfl|(refine .w (.fncC ?_) rfl; repeat' (first|exact .nil|refine .cons ?_ ?_|exact .d|exact .ptr rfl|exact .row rfl rfl|(refine .row rfl ?_; ((try dsimp only); first|rfl|omega|(simp only [lns] <;> omega)); done)|exact .fn rfl|exact .mp rfl|exact .frzOf (by first|(simp; done)|decide) rfl rfl (fun _ => rfl)))|exact .r (.of0 (.c .d))|refine .r ?_|exact .of0 (.c .d)|exact .of0 .ep|exact .clo|exact .of0 (.c .nil)|exact .of0 (.c (cr_rowO (by simp) rfl (by first|rfl|omega) (fun _ => rfl)))|refine .of0 (.agg ?_)|exact .d|exact .nil|exact .of0 (.c (cr_row (by decide) rfl rfl (by repeat' (first|exact trivial|refine ⟨?_, ?_⟩|rfl)))))) <;> fail) (by (repeat' (first|exact trivial|refine ⟨⟨_, rfl, ?_⟩, ?_⟩|exact .boxD rfl rfl|exact .rowD rfl rowOf_isD|exact .mapO (fun _ => rfl) rfl|exact .pin rfl|refine .box ?_|exact .nil|refine .cons ?_ ?_|exact .d|exact .ptr rfl|exact .row rfl rfl|(refine .row rfl ?_; ((try dsimp only); first|rfl|omega|(simp only [lns] <;> omega)); done)|exact .fn rfl|exact .mp rfl|exact .frzOf (by first|(simp; done)|decide) rfl rfl (fun _ => rfl))) <;> fail) rfl rfl rfl (by first|rfl|(simp only [List.all_cons, List.all_nil, rowOf_flatB]; rfl)) rfl (by first|rfl|(simp only [wfRes, wfL, wfArgs, wfs, mpO_namesB, mpO_namesI]; rfl)) rfl rfl rfl (by (simp only [newW, List.map_cons, List.map_nil, Blk.ren, C.ren, rowOf_ren, mpO_renB, mpO_renI, gW, memN, nmL, Nat.reduceBEq, Bool.or_false, Bool.or_true, Bool.false_or, Bool.true_or, cond_true, cond_false, Nat.reduceMul, Nat.reduceAdd]) <;> rfl) (by (simp only [AV.ren, AV.ren0, List.map_cons, List.map_nil, C.ren, gW, memN, nmL, Nat.reduceBEq, Bool.or_false, Bool.or_true, Bool.false_or, Bool.true_or, cond_true, cond_false, Nat.reduceMul, Nat.reduceAdd]) <;> rfl) rfl ?_)|(refine gV ?_; first|refine vr_convert_id (gk rfl) rfl ⟨_, rfl⟩ rfl (by first|exact wrap_i64 (by omega)|exact wrap_u64 (by omega)|exact wrap_u16 (by omega)|exact wrap_u8 (by omega)|exact wrap_u32 (by omega)) rfl ?_)|refine x_gknow rfl (by assumption) ?_)|(refine gO ?_; first|refine vr_nil ?_)|(refine gT ?_; first|refine q_then_n ?_)|refine vc_seq ?_|refine vc_region ?_)
  refine retL_of (le_gen0 (l := []) (b := [(9100, .pin 100 (r 100)), (100, .box [.row 102 (packB (B ++ bitsN w n)).length, .d (.int .i64 (B ++ bitsN w n).length), .d (.int .i64 0)]), (102, .row 5 1 (rowOf enc8 (packB (B ++ bitsN w n))))]) (fun n => if n = 102 then 29102 else n) ?_ ?_ rfl (by first|rfl|(simp only [wfL, wfs, mpO_namesB, mpO_namesI]; rfl))) (retW isRet_n .nil rfl (by repeat' (first|exact trivial|refine ⟨rfl, ?_⟩)))
  all_goals repeat' (first|exact trivial|refine ⟨⟨_, rfl, ?_⟩, ?_⟩|exact .pin rfl|exact .rowD rfl rowOf_isD|refine .box ?_|exact .nil|refine .cons ?_ ?_|exact .d|exact .row rfl rfl)
theorem pflag_spec (B : List Bool) (b : Bool) (hB : B.length <= 4000) : FnW Tryz.prog 221 [.c (.ptr 100 0), AB b] [(100, .box [.row 101 (packB B).length, .d (.int .i64 B.length), .d (.int .i64 0)]), (101, .row 5 1 (rowOf enc8 (packB B)))] [100] (.tup []) [(100, .box [.row 102 (packB (B ++ [b])).length, .d (.int .i64 (B ++ [b]).length), .d (.int .i64 0)]), (102, .row 5 1 (rowOf enc8 (packB (B ++ [b]))))] := by
  have h1 := pfield_spec B 1 1 true true rfl rfl (by decide) (by decide) hB
  have h0 := pfield_spec B 1 0 true true rfl rfl (by decide) (by decide) hB
  rw [show bitsN 1 1 = [true] from rfl] at h1
  rw [show bitsN 1 0 = [false] from rfl] at h0
  intro r
  simp only [pinsL, List.map_cons, List.map_nil, List.cons_append, List.nil_append, Nat.reduceAdd]
  refine FnS.of_bodyM (enters_of Tryz.func221 (by kernel_rfl) rfl) Tryz.func221 rfl Tryz.ntmps221 Tryz.results221 rfl (by first|rfl|(simp only [wfRes, wfL, wfArgs, wfs, mpO_namesB, mpO_namesI]; rfl)) rfl fun E => ?_
  refine vc_retL ?_
  cases b with
  | true =>
    repeat' (first|(refine gR ?_; first|refine x_opF rfl (by first|exact True.intro|omega) ?_|(refine gC ?_; first|refine vr_callW (nmL []) [] [100] (h1) (gk rfl) rfl rfl (by (repeat' (first|exact .nil|refine .cons ?_ ?_|exact .w (.c (.ptr rfl)) rfl|exact .w (.c (.row rfl rfl)) rfl|exact .w (.c (.mp rfl)) rfl|exact .w (.c (.fn rfl)) rfl|exact .w (.rp rfl) rfl|(refine .w (.fncC ?_) rfl; repeat' (first|exact .nil|refine .cons ?_ ?_|exact .d|exact .ptr rfl|exact .row rfl rfl|(refine .row rfl ?_; ((try dsimp only); first|rfl|omega|(simp only [lns] <;> omega)); done)|exact .fn rfl|exact .mp rfl|exact .frzOf (by first|(simp; done)|decide) rfl rfl (fun _ => rfl)))|exact .r (.of0 (.c .d))|refine .r ?_|exact .of0 (.c .d)|exact .of0 .ep|exact .clo|exact .of0 (.c .nil)|exact .of0 (.c (cr_rowO (by simp) rfl (by first|rfl|omega) (fun _ => rfl)))|refine .of0 (.agg ?_)|exact .d|exact .nil|exact .of0 (.c (cr_row (by decide) rfl rfl (by repeat' (first|exact trivial|refine ⟨?_, ?_⟩|rfl)))))) <;> fail) (by (repeat' (first|exact trivial|refine ⟨⟨_, rfl, ?_⟩, ?_⟩|exact .boxD rfl rfl|exact .rowD rfl rowOf_isD|exact .mapO (fun _ => rfl) rfl|exact .pin rfl|refine .box ?_|exact .nil|refine .cons ?_ ?_|exact .d|exact .ptr rfl|exact .row rfl rfl|(refine .row rfl ?_; ((try dsimp only); first|rfl|omega|(simp only [lns] <;> omega)); done)|exact .fn rfl|exact .mp rfl|exact .frzOf (by first|(simp; done)|decide) rfl rfl (fun _ => rfl))) <;> fail) rfl rfl rfl (by first|rfl|(simp only [List.all_cons, List.all_nil, rowOf_flatB]; rfl)) rfl (by first|rfl|(simp only [wfRes, wfL, wfArgs, wfs, mpO_namesB, mpO_namesI]; rfl)) rfl rfl rfl (by (simp only [newW, List.map_cons, List.map_nil, Blk.ren, C.ren, rowOf_ren, mpO_renB, mpO_renI, gW, memN, nmL, Nat.reduceBEq, Bool.or_false, Bool.or_true, Bool.false_or, Bool.true_or, cond_true, cond_false, Nat.reduceMul, Nat.reduceAdd]) <;> rfl) (by (simp only [AV.ren, AV.ren0, List.map_cons, List.map_nil, C.ren, gW, memN, nmL, Nat.reduceBEq, Bool.or_false, Bool.or_true, Bool.false_or, Bool.true_or, cond_true, cond_false, Nat.reduceMul, Nat.reduceAdd]) <;> rfl) rfl ?_))|(refine gO ?_; first|refine vr_nil ?_)|(refine gT ?_; first|refine q_then_n ?_)|refine vc_seq ?_|refine vc_region ?_|(show VC _ (.cond _ _ _) _ _; first|refine vc_cond_t rfl ?_))
    refine retL_of (le_gen0 (l := []) (b := [(9100, .pin 100 (r 100)), (100, .box [.row 102 (packB (B ++ [true])).length, .d (.int .i64 (B ++ [true]).length), .d (.int .i64 0)]), (102, .row 5 1 (rowOf enc8 (packB (B ++ [true]))))]) (fun n => if n = 102 then 8102 else n) ?_ ?_ rfl (by first|rfl|(simp only [wfL, wfs, mpO_namesB, mpO_namesI]; rfl))) (retW isRet_n .nil rfl (by repeat' (first|exact trivial|refine ⟨rfl, ?_⟩)))
    all_goals repeat' (first|exact trivial|refine ⟨⟨_, rfl, ?_⟩, ?_⟩|exact .pin rfl|exact .rowD rfl rowOf_isD|refine .box ?_|exact .nil|refine .cons ?_ ?_|exact .d|exact .row rfl rfl)
  | false =>
    repeat' (first|(refine gR ?_; first|refine x_opF rfl (by first|exact True.intro|omega) ?_|(refine gC ?_; first|refine vr_callW (nmL []) [] [100] (h0) (gk rfl) rfl rfl (by (repeat' (first|exact .nil|refine .cons ?_ ?_|exact .w (.c (.ptr rfl)) rfl|exact .w (.c (.row rfl rfl)) rfl|exact .w (.c (.mp rfl)) rfl|exact .w (.c (.fn rfl)) rfl|exact .w (.rp rfl) rfl|(refine .w (.fncC ?_) rfl; repeat' (first|exact .nil|refine .cons ?_ ?_|exact .d|exact .ptr rfl|exact .row rfl rfl|(refine .row rfl ?_; ((try dsimp only); first|rfl|omega|(simp only [lns] <;> omega)); done)|exact .fn rfl|exact .mp rfl|exact .frzOf (by first|(simp; done)|decide) rfl rfl (fun _ => rfl)))|exact .r (.of0 (.c .d))|refine .r ?_|exact .of0 (.c .d)|exact .of0 .ep|exact .clo|exact .of0 (.c .nil)|exact .of0 (.c (cr_rowO (by simp) rfl (by first|rfl|omega) (fun _ => rfl)))|refine .of0 (.agg ?_)|exact .d|exact .nil|exact .of0 (.c (cr_row (by decide) rfl rfl (by repeat' (first|exact trivial|refine ⟨?_, ?_⟩|rfl)))))) <;> fail) (by (repeat' (first|exact trivial|refine ⟨⟨_, rfl, ?_⟩, ?_⟩|exact .boxD rfl rfl|exact .rowD rfl rowOf_isD|exact .mapO (fun _ => rfl) rfl|exact .pin rfl|refine .box ?_|exact .nil|refine .cons ?_ ?_|exact .d|exact .ptr rfl|exact .row rfl rfl|(refine .row rfl ?_; ((try dsimp only); first|rfl|omega|(simp only [lns] <;> omega)); done)|exact .fn rfl|exact .mp rfl|exact .frzOf (by first|(simp; done)|decide) rfl rfl (fun _ => rfl))) <;> fail) rfl rfl rfl (by first|rfl|(simp only [List.all_cons, List.all_nil, rowOf_flatB]; rfl)) rfl (by first|rfl|(simp only [wfRes, wfL, wfArgs, wfs, mpO_namesB, mpO_namesI]; rfl)) rfl rfl rfl (by (simp only [newW, List.map_cons, List.map_nil, Blk.ren, C.ren, rowOf_ren, mpO_renB, mpO_renI, gW, memN, nmL, Nat.reduceBEq, Bool.or_false, Bool.or_true, Bool.false_or, Bool.true_or, cond_true, cond_false, Nat.reduceMul, Nat.reduceAdd]) <;> rfl) (by (simp only [AV.ren, AV.ren0, List.map_cons, List.map_nil, C.ren, gW, memN, nmL, Nat.reduceBEq, Bool.or_false, Bool.or_true, Bool.false_or, Bool.true_or, cond_true, cond_false, Nat.reduceMul, Nat.reduceAdd]) <;> rfl) rfl ?_))|(refine gO ?_; first|refine vr_nil ?_)|(refine gT ?_; first|refine q_then_n ?_)|refine vc_seq ?_|refine vc_region ?_|(show VC _ (.cond _ _ _) _ _; first|refine vc_cond_f rfl ?_)|refine vc_skip ?_)
    refine retL_of (le_gen0 (l := []) (b := [(9100, .pin 100 (r 100)), (100, .box [.row 102 (packB (B ++ [false])).length, .d (.int .i64 (B ++ [false]).length), .d (.int .i64 0)]), (102, .row 5 1 (rowOf enc8 (packB (B ++ [false]))))]) (fun n => if n = 102 then 8102 else n) ?_ ?_ rfl (by first|rfl|(simp only [wfL, wfs, mpO_namesB, mpO_namesI]; rfl))) (retW isRet_n .nil rfl (by repeat' (first|exact trivial|refine ⟨rfl, ?_⟩)))
    all_goals repeat' (first|exact trivial|refine ⟨⟨_, rfl, ?_⟩, ?_⟩|exact .pin rfl|exact .rowD rfl rowOf_isD|refine .box ?_|exact .nil|refine .cons ?_ ?_|exact .d|exact .row rfl rfl)
def byteAt (s : ByteArray) (i : Nat) : Nat := (s.data.toList.getD i 0).toNat
theorem byteAt_eq (s : ByteArray) (i : Nat) : bAt s i = (byteAt s i : Int) := rfl
theorem byteAt_lt (s : ByteArray) (i : Nat) : byteAt s i < 256 := (s.data.toList.getD i 0).toNat_lt
def textK (B : List Bool) (s : ByteArray) : Nat -> List Bool
  | 0 => B
  | k + 1 => textK B s k ++ bitsN 8 (byteAt s k)
theorem textK_len (B : List Bool) (s : ByteArray) : ∀ k, (textK B s k).length = B.length + 8 * k
  | 0 => rfl
  | k + 1 => by rw [textK, List.length_append, textK_len B s k, bitsN_len]; omega
def textB (B : List Bool) (w : Nat) (s : ByteArray) : List Bool := textK (B ++ bitsN w s.size) s s.size
theorem textB_len (B : List Bool) (w : Nat) (s : ByteArray) : (textB B w s).length = B.length + w + 8 * s.size := by
  rw [textB, textK_len, List.length_append, bitsN_len]
set_option maxHeartbeats 2000000 in
theorem ptext_spec (B : List Bool) (m w : Nat) (s : ByteArray) (hm : 1 <= m /\ m <= 255) (hmw : max 1 (lenV m) = w) (hs : s.size <= m) (hsw : s.size < 2 ^ w) (hw : w <= 8) (hB : B.length <= 1000) : FnW Tryz.prog 222 [.c (.ptr 100 0), AI m, AD (.str s)] [(100, .box [.row 101 (packB B).length, .d (.int .i64 B.length), .d (.int .i64 0)]), (101, .row 5 1 (rowOf enc8 (packB B)))] [100] (.tup []) [(100, .box [.row 102 (packB (textB B w s)).length, .d (.int .i64 (textB B w s).length), .d (.int .i64 0)]), (102, .row 5 1 (rowOf enc8 (packB (textB B w s))))] := by
  have hwd := pwidth_spec m (by omega)
  rw [hmw] at hwd
  have hlm := limit_spec m
  rw [decide_eq_true (show (1 : Int) <= (m : Int) /\ (m : Int) <= 4095 by omega)] at hlm
  have hpt := pput_spec B w s.size (by omega) (by omega) (by omega)
  have d1 : decide ((m : Int) < (s.size : Int)) = false := decide_eq_false (by omega)
  have d2 : decide (524288 < (B.length : Int) + (w : Int) + 8 * (s.size : Int)) = false := decide_eq_false (by omega)
  intro r
  simp only [pinsL, List.map_cons, List.map_nil, List.cons_append, List.nil_append, Nat.reduceAdd]
  refine FnS.of_bodyM (enters_of Tryz.func222 (by kernel_rfl) rfl) Tryz.func222 rfl Tryz.ntmps222 Tryz.results222 rfl (by first|rfl|(simp only [wfRes, wfL, wfArgs, wfs, mpO_namesB, mpO_namesI]; rfl)) rfl fun E => ?_
  refine vc_retL ?_
  repeat' (first|(refine gR ?_; first|refine x_opF rfl (by first|exact True.intro|omega) ?_|(refine gC ?_; first|refine vr_calldU (hwd) (gk rfl) rfl rfl rfl (by first|rfl|(simp only [wfRes, wfL, wfArgs, wfs, mpO_namesB, mpO_namesI]; rfl)) rfl (by first|exact newB_nil|exact newB_O|((simp only [newB, List.map_cons, List.map_nil, Blk.shift, rowOf_shift]) <;> rfl)|rfl) rfl ?_|refine vr_calldU (hlm) (gk rfl) rfl rfl rfl (by first|rfl|(simp only [wfRes, wfL, wfArgs, wfs, mpO_namesB, mpO_namesI]; rfl)) rfl (by first|exact newB_nil|exact newB_O|((simp only [newB, List.map_cons, List.map_nil, Blk.shift, rowOf_shift]) <;> rfl)|rfl) rfl ?_|refine vr_callW (nmL []) [] [100] (hpt) (gk rfl) rfl rfl (by (repeat' (first|exact .nil|refine .cons ?_ ?_|exact .w (.c (.ptr rfl)) rfl|exact .w (.c (.row rfl rfl)) rfl|exact .w (.c (.mp rfl)) rfl|exact .w (.c (.fn rfl)) rfl|exact .w (.rp rfl) rfl|(refine .w (.fncC ?_) rfl; repeat' (first|exact .nil|refine .cons ?_ ?_|exact .d|exact .ptr rfl|exact .row rfl rfl|(refine .row rfl ?_; ((try dsimp only); first|rfl|omega|(simp only [lns] <;> omega)); done)|exact .fn rfl|exact .mp rfl|exact .frzOf (by first|(simp; done)|decide) rfl rfl (fun _ => rfl)))|exact .r (.of0 (.c .d))|refine .r ?_|exact .of0 (.c .d)|exact .of0 .ep|exact .clo|exact .of0 (.c .nil)|exact .of0 (.c (cr_rowO (by simp) rfl (by first|rfl|omega) (fun _ => rfl)))|refine .of0 (.agg ?_)|exact .d|exact .nil|exact .of0 (.c (cr_row (by decide) rfl rfl (by repeat' (first|exact trivial|refine ⟨?_, ?_⟩|rfl)))))) <;> fail) (by (repeat' (first|exact trivial|refine ⟨⟨_, rfl, ?_⟩, ?_⟩|exact .boxD rfl rfl|exact .rowD rfl rowOf_isD|exact .mapO (fun _ => rfl) rfl|exact .pin rfl|refine .box ?_|exact .nil|refine .cons ?_ ?_|exact .d|exact .ptr rfl|exact .row rfl rfl|(refine .row rfl ?_; ((try dsimp only); first|rfl|omega|(simp only [lns] <;> omega)); done)|exact .fn rfl|exact .mp rfl|exact .frzOf (by first|(simp; done)|decide) rfl rfl (fun _ => rfl))) <;> fail) rfl rfl rfl (by first|rfl|(simp only [List.all_cons, List.all_nil, rowOf_flatB]; rfl)) rfl (by first|rfl|(simp only [wfRes, wfL, wfArgs, wfs, mpO_namesB, mpO_namesI]; rfl)) rfl rfl rfl (by (simp only [newW, List.map_cons, List.map_nil, Blk.ren, C.ren, rowOf_ren, mpO_renB, mpO_renI, gW, memN, nmL, Nat.reduceBEq, Bool.or_false, Bool.or_true, Bool.false_or, Bool.true_or, cond_true, cond_false, Nat.reduceMul, Nat.reduceAdd]) <;> rfl) (by (simp only [AV.ren, AV.ren0, List.map_cons, List.map_nil, C.ren, gW, memN, nmL, Nat.reduceBEq, Bool.or_false, Bool.or_true, Bool.false_or, Bool.true_or, cond_true, cond_false, Nat.reduceMul, Nat.reduceAdd]) <;> rfl) rfl ?_)|(refine gN ?_; first|refine vr_nilCheck_ptr (gk rfl) rfl rfl ?_)|(refine gV ?_; first|refine vr_convert_id (gk rfl) rfl ⟨_, rfl⟩ rfl (by first|exact wrap_i64 (by omega)|exact wrap_u64 (by omega)|exact wrap_u16 (by omega)|exact wrap_u8 (by omega)|exact wrap_u32 (by omega)) rfl ?_)|refine x_gknow rfl (by assumption) ?_)|(refine gO ?_; first|refine vr_nil ?_|refine vr_nil_t (by kernel_rfl) ?_)|(refine gT ?_; first|refine q_then_n ?_)|refine vc_seq ?_|refine vc_region ?_|refine vc_region_t ?_|(show VC _ (.cond _ _ _) _ _; first|refine vc_cond_f rfl ?_|refine x_know rfl (by assumption) ?_)|refine vc_block ?_)
  refine vc_loopI (ι := Nat) (fun k => stOf [(0, .c (.ptr 100 0)), (2, AD (.str s)), (15, AI s.size), (16, AI k)] [(9100, .pin 100 (r 100)), (100, .box [.row 101 (packB (textK (B ++ bitsN w s.size) s k)).length, .d (.int .i64 (textK (B ++ bitsN w s.size) s k).length), .d (.int .i64 0)]), (101, .row 5 1 (rowOf enc8 (packB (textK (B ++ bitsN w s.size) s k))))]) (fun k => k <= s.size) (fun k => s.size - k) 0 (Nat.zero_le _) ?_ ?_
  · refine le_gen0 (fun n => if n = 101 then 13102 else n) ?_ ?_ rfl (by first|rfl|(simp only [wfL, wfs, mpO_namesB, mpO_namesI]; rfl))
    all_goals repeat' (first|exact trivial|refine ⟨⟨_, rfl, ?_⟩, ?_⟩|exact .c .d|exact .c (.ptr rfl)|exact .pin rfl|exact .rowD rfl rowOf_isD|refine .box ?_|exact .nil|refine .cons ?_ ?_|exact .d|exact .row rfl rfl)
  · intro k hk
    have htl := textK_len (B ++ bitsN w s.size) s k
    rw [List.length_append, bitsN_len] at htl
    rcases Nat.lt_or_ge k s.size with hlt | hge
    · have dlt : decide ((k : Int) < (s.size : Int)) = true := decide_eq_true (by omega)
      have hb := byteAt_lt s k
      have hb' : 0 <= bAt s k /\ bAt s k < 256 := bAt_rng s k
      have hk8 := pput_spec (textK (B ++ bitsN w s.size) s k) 8 (byteAt s k) (by decide) (by omega) (by omega)
      rw [<- byteAt_eq] at hk8
      repeat' (first|(refine gR ?_; first|refine x_opF rfl (by first|exact True.intro|omega) ?_|(refine gC ?_; first|refine vr_callW (nmL []) [] [100] (hk8) (gk rfl) rfl rfl (by (repeat' (first|exact .nil|refine .cons ?_ ?_|exact .w (.c (.ptr rfl)) rfl|exact .w (.c (.row rfl rfl)) rfl|exact .w (.c (.mp rfl)) rfl|exact .w (.c (.fn rfl)) rfl|exact .w (.rp rfl) rfl|(refine .w (.fncC ?_) rfl; repeat' (first|exact .nil|refine .cons ?_ ?_|exact .d|exact .ptr rfl|exact .row rfl rfl|(refine .row rfl ?_; ((try dsimp only); first|rfl|omega|(simp only [lns] <;> omega)); done)|exact .fn rfl|exact .mp rfl|exact .frzOf (by first|(simp; done)|decide) rfl rfl (fun _ => rfl)))|exact .r (.of0 (.c .d))|refine .r ?_|exact .of0 (.c .d)|exact .of0 .ep|exact .clo|exact .of0 (.c .nil)|exact .of0 (.c (cr_rowO (by simp) rfl (by first|rfl|omega) (fun _ => rfl)))|refine .of0 (.agg ?_)|exact .d|exact .nil|exact .of0 (.c (cr_row (by decide) rfl rfl (by repeat' (first|exact trivial|refine ⟨?_, ?_⟩|rfl)))))) <;> fail) (by (repeat' (first|exact trivial|refine ⟨⟨_, rfl, ?_⟩, ?_⟩|exact .boxD rfl rfl|exact .rowD rfl rowOf_isD|exact .mapO (fun _ => rfl) rfl|exact .pin rfl|refine .box ?_|exact .nil|refine .cons ?_ ?_|exact .d|exact .ptr rfl|exact .row rfl rfl|(refine .row rfl ?_; ((try dsimp only); first|rfl|omega|(simp only [lns] <;> omega)); done)|exact .fn rfl|exact .mp rfl|exact .frzOf (by first|(simp; done)|decide) rfl rfl (fun _ => rfl))) <;> fail) rfl rfl rfl (by first|rfl|(simp only [List.all_cons, List.all_nil, rowOf_flatB]; rfl)) rfl (by first|rfl|(simp only [wfRes, wfL, wfArgs, wfs, mpO_namesB, mpO_namesI]; rfl)) rfl rfl rfl (by (simp only [newW, List.map_cons, List.map_nil, Blk.ren, C.ren, rowOf_ren, mpO_renB, mpO_renI, gW, memN, nmL, Nat.reduceBEq, Bool.or_false, Bool.or_true, Bool.false_or, Bool.true_or, cond_true, cond_false, Nat.reduceMul, Nat.reduceAdd]) <;> rfl) (by (simp only [AV.ren, AV.ren0, List.map_cons, List.map_nil, C.ren, gW, memN, nmL, Nat.reduceBEq, Bool.or_false, Bool.or_true, Bool.false_or, Bool.true_or, cond_true, cond_false, Nat.reduceMul, Nat.reduceAdd]) <;> rfl) rfl ?_)|(refine gX ?_; first|refine vr_indexStr (gk rfl) rfl rfl rfl (by omega) (by omega) (by first|exact (Int.toNat_natCast _).symm|rfl) rfl ?_)|(refine gV ?_; first|refine vr_convert_id (gk rfl) rfl ⟨_, rfl⟩ rfl (by first|exact wrap_i64 (by omega)|exact wrap_u64 (by omega)|exact wrap_u16 (by omega)|exact wrap_u8 (by omega)|exact wrap_u32 (by omega)) rfl ?_))|(refine gO ?_; first|refine vr_nil ?_)|(refine gT ?_; first|refine q_then_n ?_)|(refine gK ?_; first|refine q_blk_n ?_)|refine vc_seq ?_|refine vc_region ?_|(show VC _ (.cond _ _ _) _ _; first|refine vc_cond_t rfl ?_|refine x_know rfl (by assumption) ?_)|refine vc_block ?_|refine vc_skip ?_)
      refine ⟨k + 1, by omega, by omega, ?_⟩
      rw [show textK (B ++ bitsN w s.size) s (k + 1) = textK (B ++ bitsN w s.size) s k ++ bitsN 8 (byteAt s k) from rfl]
      refine le_gen0 (fun n => if n = 101 then 24102 else n) ?_ ?_ rfl (by first|rfl|(simp only [wfL, wfs, mpO_namesB, mpO_namesI]; rfl))
      all_goals repeat' (first|exact trivial|refine ⟨⟨_, rfl, ?_⟩, ?_⟩|exact .c .d|exact .c (.ptr rfl)|exact .pin rfl|exact .rowD rfl rowOf_isD|refine .box ?_|exact .nil|refine .cons ?_ ?_|exact .d|exact .row rfl rfl)
    · have dlt : decide ((k : Int) < (s.size : Int)) = false := decide_eq_false (by omega)
      have hk' : k = s.size := by omega
      subst hk'
      repeat' (first|(refine gR ?_; first|refine x_opF rfl (by first|exact True.intro|omega) ?_)|(refine gO ?_; first|refine vr_nil ?_)|(refine gT ?_; first|refine q_then_n ?_|refine q_then_x ?_)|(refine gK ?_; first|refine q_blk_n ?_|refine q_blk_x ?_)|refine vc_seq ?_|refine vc_region ?_|(show VC _ (.cond _ _ _) _ _; first|refine vc_cond_f rfl ?_|refine x_know rfl (by assumption) ?_)|refine vc_exit ?_)
      refine retL_of (le_gen0 (l := []) (b := [(9100, .pin 100 (r 100)), (100, .box [.row 102 (packB (textB B w s)).length, .d (.int .i64 (textB B w s).length), .d (.int .i64 0)]), (102, .row 5 1 (rowOf enc8 (packB (textB B w s))))]) (fun n => if n = 102 then 101 else n) ?_ ?_ rfl (by first|rfl|(simp only [wfL, wfs, mpO_namesB, mpO_namesI]; rfl))) (retW isRet_n .nil rfl (by repeat' (first|exact trivial|refine ⟨rfl, ?_⟩)))
      all_goals repeat' (first|exact trivial|refine ⟨⟨_, rfl, ?_⟩, ?_⟩|exact .pin rfl|exact .rowD rfl rowOf_isD|refine .box ?_|exact .nil|refine .cons ?_ ?_|exact .d|exact .row rfl rfl)
theorem pbytes_spec (B : List Bool) (hB : B.length <= 4000) : FnW Tryz.prog 183 [.c (.ptr 100 0)] [(100, .box [.row 101 (packB B).length, .d (.int .i64 B.length), .d (.int .i64 0)]), (101, .row 5 1 (rowOf enc8 (packB B)))] [100, 101] (.tup [AD (.str (mkS (packB B))), AI 0]) [(100, .box [.row 101 (packB B).length, .d (.int .i64 B.length), .d (.int .i64 0)]), (101, .row 5 1 (rowOf enc8 (packB B)))] := by
  intro r
  simp only [pinsL, List.map_cons, List.map_nil, List.cons_append, List.nil_append, Nat.reduceAdd]
  refine FnS.of_bodyM (enters_of Tryz.func183 (by kernel_rfl) rfl) Tryz.func183 rfl Tryz.ntmps183 Tryz.results183 rfl (by first|rfl|(simp only [wfRes, wfL, wfArgs, wfs, mpO_namesB, mpO_namesI]; rfl)) rfl fun E => ?_
  refine vc_retL ?_
  repeat' (first|(refine gR ?_; first|(refine gV ?_; first|refine vr_convStr (gk rfl) rfl rfl (by first|rfl|exact rowOf_length.symm|(simp only [lns] <;> omega)) rfl rfl rfl rfl ?_)|refine x_opF rfl (by first|exact True.intro|omega) ?_|(refine gN ?_; first|refine vr_nilCheck_ptr (gk rfl) rfl rfl ?_))|(refine gO ?_; first|refine vr_nil ?_)|(refine gT ?_; first|refine q_then_n ?_)|refine vc_seq ?_|refine vc_region ?_|(show VC _ (.cond _ _ _) _ _; first|refine vc_cond_f rfl ?_)|refine vc_ret ?_|refine vc_skip ?_)
  refine retL_of (le_gen0 (l := [(2, AD (.str (mkS (packB B)))), (3, AI 0)]) (b := [(9100, .pin 100 (r 100)), (9101, .pin 101 (r 101)), (100, .box [.row 101 (packB B).length, .d (.int .i64 B.length), .d (.int .i64 0)]), (101, .row 5 1 (rowOf enc8 (packB B)))]) (fun n => n) ?_ ?_ rfl (by first|rfl|(simp only [wfL, wfs, mpO_namesB, mpO_namesI]; rfl))) (retW isRet_r (.tmp rfl rfl (.tmp rfl rfl .nil)) rfl (by repeat' (first|exact trivial|refine ⟨rfl, ?_⟩)))
  all_goals repeat' (first|exact trivial|refine ⟨⟨_, rfl, ?_⟩, ?_⟩|exact .c .d|exact .pin rfl|exact .rowD rfl rowOf_isD|refine .box ?_|exact .nil|refine .cons ?_ ?_|exact .d|exact .row rfl rfl)
end Go.Proofs
end
section
namespace Go.Proofs
open Go Go.Sx Go.Proofs.T Go.Proofs.Q
set_option maxRecDepth 4000
attribute [local irreducible] VR VC thenQ blockQ retL
def rbit (s : ByteArray) (i : Nat) : Nat := byteAt s (i / 8) / 2 ^ (7 - i % 8) % 2
theorem rbit_le (s : ByteArray) (i : Nat) : rbit s i <= 1 := by
  have : byteAt s (i / 8) / 2 ^ (7 - i % 8) % 2 < 2 := Nat.mod_lt _ (by decide)
  unfold rbit; omega
def valR (s : ByteArray) (a : Nat) : Nat -> Nat
  | 0 => 0
  | k + 1 => 2 * valR s a k + rbit s (a + k)
theorem valR_lt (s : ByteArray) (a : Nat) : ∀ k, valR s a k < 2 ^ k
  | 0 => (by show 0 < 1; decide)
  | k + 1 => by
    have ih := valR_lt s a k
    have := rbit_le s (a + k)
    rw [Nat.pow_succ]
    show 2 * valR s a k + rbit s (a + k) < _
    omega
theorem get_val {s : ByteArray} {a k : Nat} (hk : k < 62) :
    bitF .or .u64 (IntKind.u64.wrap ((valR s a k : Int) * 2 ^ Int.toNat 1)) (IntKind.u64.wrap (bitF .and .u8 (bAt s (((a : Int) + (k : Int)) / 8).toNat / 2 ^ (7 - ((a : Int) + (k : Int)) % 8).toNat) 1)) = (valR s a (k + 1) : Int) := by
  have e1 : (((a : Int) + (k : Int)) / 8).toNat = (a + k) / 8 := by omega
  have e2 : (7 - ((a : Int) + (k : Int)) % 8).toNat = 7 - (a + k) % 8 := by omega
  have hb := byteAt_lt s ((a + k) / 8)
  have e3 : (byteAt s ((a + k) / 8) : Int) / 2 ^ (7 - (a + k) % 8) = ((byteAt s ((a + k) / 8) / 2 ^ (7 - (a + k) % 8) : Nat) : Int) := by simp
  have hlt : byteAt s ((a + k) / 8) / 2 ^ (7 - (a + k) % 8) < 256 := Nat.lt_of_le_of_lt (Nat.div_le_self _ _) hb
  have hv := valR_lt s a k
  have hp : 2 ^ k <= 2 ^ 61 := Nat.pow_le_pow_right (by decide) (by omega)
  have hr := rbit_le s (a + k)
  rw [e1, e2, byteAt_eq, e3, band1_u8 hlt]
  have er : byteAt s ((a + k) / 8) / 2 ^ (7 - (a + k) % 8) % 2 = rbit s (a + k) := rfl
  rw [er, show IntKind.u64.wrap (rbit s (a + k) : Int) = (rbit s (a + k) : Int) from wrap_u64 (by omega), show (2 : Int) ^ Int.toNat 1 = 2 from rfl,
    show IntKind.u64.wrap ((valR s a k : Int) * 2) = ((2 * valR s a k : Nat) : Int) by rw [wrap_u64 (by omega)]; omega]
  rw [bor_u64 (by omega) (by omega)]
  have := or_add (k := valR s a k) (s := 1) (b := rbit s (a + k)) (by omega)
  rw [Nat.pow_one] at this
  rw [this]
  rfl
set_option maxHeartbeats 1000000 in
theorem rget_spec (s : ByteArray) (a w : Nat) (hw : w <= 62) (ha : a + w <= 8 * s.size) (hs : s.size <= 1000) : FnW Tryz.prog 193 [.c (.ptr 100 0), AI w] [(100, .box [.d (.str s), .d (.int .i64 a), .d (.int .i64 0)])] [100] (AD (.int .u64 (valR s a w))) [(100, .box [.d (.str s), .d (.int .i64 (a + w : Nat)), .d (.int .i64 0)])] := by
  intro r
  simp only [pinsL, List.map_cons, List.map_nil, List.cons_append, List.nil_append, Nat.reduceAdd]
  refine FnS.of_bodyM (enters_of Tryz.func193 (by kernel_rfl) rfl) Tryz.func193 rfl Tryz.ntmps193 Tryz.results193 rfl (by first|rfl|(simp only [wfRes, wfL, wfArgs, wfs, mpO_namesB, mpO_namesI]; rfl)) rfl fun E => ?_
  refine vc_retL ?_
  repeat' (first|(refine gR ?_; first|refine x_opF rfl (by first|exact True.intro|omega) ?_)|(refine gO ?_; first|refine vr_nil ?_)|(refine gT ?_; first|refine q_then_n ?_)|refine vc_seq ?_|refine vc_region ?_|refine vc_block ?_)
  refine vc_loopI (ι := Nat) (fun k => stOf [(0, .c (.ptr 100 0)), (5, AD (.int .u64 (valR s a k))), (6, AI w), (7, AI k)] [(9100, .pin 100 (r 100)), (100, .box [.d (.str s), .d (.int .i64 ((a : Int) + (k : Int))), .d (.int .i64 0)])]) (fun k => k <= w) (fun k => w - k) 0 (Nat.zero_le _) ?_ ?_
  · rw [show (a : Int) + ((0 : Nat) : Int) = a by omega]
    refine le_gen0 (fun n => n) ?_ ?_ rfl (by first|rfl|(simp only [wfL, wfs, mpO_namesB, mpO_namesI]; rfl))
    all_goals repeat' (first|exact trivial|refine ⟨⟨_, rfl, ?_⟩, ?_⟩|exact .c .d|exact .c (.ptr rfl)|exact .boxD rfl rfl|exact .pin rfl)
  · intro k hk
    rcases Nat.lt_or_ge k w with hlt | hge
    · have dlt : decide ((k : Int) < (w : Int)) = true := decide_eq_true (by omega)
      have hv := get_val (s := s) (a := a) (k := k) (by omega)
      repeat' (first|(refine gR ?_; first|(show VR _ _ _ (⟨_, .binOp .shl _ _ _ _, _, _, _, _⟩ :: _) _ _ _; first|refine vr_shlV (gk rfl) rfl rfl (by omega) (by first|decide|(show _ <= 8; omega)|(show _ <= 16; omega)) rfl rfl ?_)|(show VR _ _ _ (⟨_, .binOp .shr _ _ _ _, _, _, _, _⟩ :: _) _ _ _; first|refine vr_shrV (gk rfl) rfl rfl (by omega) (by first|decide|(show _ <= 8; omega)|(show _ <= 16; omega)|(show _ <= 64; omega)) rfl ?_)|refine x_opF rfl (by first|exact True.intro|omega) ?_|(refine gX ?_; first|refine vr_indexStr (gk rfl) rfl rfl rfl (by omega) (by omega) (by first|exact (Int.toNat_natCast _).symm|rfl) rfl ?_)|(refine gN ?_; first|refine vr_nilCheck_ptr (gk rfl) rfl rfl ?_)|(refine gV ?_; first|refine vr_convert (gk rfl) rfl ⟨_, rfl⟩ rfl rfl ?_)|(refine gB ?_; first|refine vr_bits (gk rfl) rfl rfl rfl rfl rfl ?_))|(refine gO ?_; first|refine vr_nil ?_|refine vr_nil_t (by kernel_rfl) ?_)|(refine gT ?_; first|refine q_then_n ?_)|(refine gK ?_; first|refine q_blk_n ?_)|refine vc_seq ?_|refine vc_region ?_|refine vc_region_t ?_|(show VC _ (.cond _ _ _) _ _; first|refine vc_cond_t rfl ?_|refine x_know rfl (by assumption) ?_)|refine vc_block ?_|refine vc_skip ?_)
      refine ⟨k + 1, by omega, by omega, ?_⟩
      rw [<- hv, show (a : Int) + ((k + 1 : Nat) : Int) = (a : Int) + (k : Int) + 1 by omega]
      refine le_gen0 (fun n => n) ?_ ?_ rfl (by first|rfl|(simp only [wfL, wfs, mpO_namesB, mpO_namesI]; rfl))
      all_goals repeat' (first|exact trivial|refine ⟨⟨_, rfl, ?_⟩, ?_⟩|exact .c .d|exact .c (.ptr rfl)|exact .boxD rfl rfl|exact .pin rfl)
    · have dlt : decide ((k : Int) < (w : Int)) = false := decide_eq_false (by omega)
      have hk' : k = w := by omega
      subst hk'
      repeat' (first|(refine gR ?_; first|refine x_opF rfl (by first|exact True.intro|omega) ?_)|(refine gO ?_; first|refine vr_nil ?_)|(refine gT ?_; first|refine q_then_n ?_|refine q_then_x ?_)|(refine gK ?_; first|refine q_blk_x ?_)|refine vc_seq ?_|refine vc_region ?_|(show VC _ (.cond _ _ _) _ _; first|refine vc_cond_f rfl ?_|refine x_know rfl (by assumption) ?_)|refine vc_ret ?_|refine vc_exit ?_)
      rw [show ((a + k : Nat) : Int) = (a : Int) + (k : Int) by omega]
      refine retL_of (le_gen0 (l := [(4, AD (.int .u64 (valR s a k)))]) (b := [(9100, .pin 100 (r 100)), (100, .box [.d (.str s), .d (.int .i64 ((a : Int) + (k : Int))), .d (.int .i64 0)])]) (fun n => n) ?_ ?_ rfl (by first|rfl|(simp only [wfL, wfs, mpO_namesB, mpO_namesI]; rfl))) (retW isRet_r (.tmp rfl rfl .nil) rfl (by repeat' (first|exact trivial|refine ⟨rfl, ?_⟩)))
      all_goals repeat' (first|exact trivial|refine ⟨⟨_, rfl, ?_⟩, ?_⟩|exact .c .d|exact .boxD rfl rfl|exact .pin rfl)
theorem rleft_spec (s : ByteArray) (a : Nat) (ha : a <= 8 * s.size) (hs : s.size <= 1000) : FnW Tryz.prog 194 [.c (.ptr 100 0)] [(100, .box [.d (.str s), .d (.int .i64 a), .d (.int .i64 0)])] [100] (AI (8 * (s.size : Int) - (a : Int))) [(100, .box [.d (.str s), .d (.int .i64 a), .d (.int .i64 0)])] := by
  intro r
  simp only [pinsL, List.map_cons, List.map_nil, List.cons_append, List.nil_append, Nat.reduceAdd]
  refine FnS.of_bodyM (enters_of Tryz.func194 (by kernel_rfl) rfl) Tryz.func194 rfl Tryz.ntmps194 Tryz.results194 rfl (by first|rfl|(simp only [wfRes, wfL, wfArgs, wfs, mpO_namesB, mpO_namesI]; rfl)) rfl fun E => ?_
  refine vc_retL ?_
  repeat' (first|(refine gR ?_; first|refine x_opF rfl (by first|exact True.intro|omega) ?_|(refine gN ?_; first|refine vr_nilCheck_ptr (gk rfl) rfl rfl ?_))|(refine gO ?_; first|refine vr_nil ?_|refine vr_nil_t (by kernel_rfl) ?_)|(refine gT ?_; first|refine q_then_n ?_)|refine vc_seq ?_|refine vc_region ?_|refine vc_region_t ?_|(show VC _ (.cond _ _ _) _ _; first|refine vc_cond_f rfl ?_)|refine vc_ret ?_|refine vc_skip ?_)
  refine retL_of (le_gen0 (l := [(2, AI (8 * (s.size : Int) - (a : Int)))]) (b := [(9100, .pin 100 (r 100)), (100, .box [.d (.str s), .d (.int .i64 a), .d (.int .i64 0)])]) (fun n => n) ?_ ?_ rfl (by first|rfl|(simp only [wfL, wfs, mpO_namesB, mpO_namesI]; rfl))) (retW isRet_r (.tmp rfl rfl .nil) rfl (by repeat' (first|exact trivial|refine ⟨rfl, ?_⟩)))
  all_goals repeat' (first|exact trivial|refine ⟨⟨_, rfl, ?_⟩, ?_⟩|exact .c .d|exact .boxD rfl rfl|exact .pin rfl)
theorem rfield_spec (s : ByteArray) (a w : Nat) (b : Bool) (hb : b = true) (hw : w <= 62) (ha : a + w <= 8 * s.size) (hs : s.size <= 1000) : FnW Tryz.prog 254 [.c (.ptr 100 0), AB b, AI w] [(100, .box [.d (.str s), .d (.int .i64 a), .d (.int .i64 0)])] [100] (AD (.int .u64 (valR s a w))) [(100, .box [.d (.str s), .d (.int .i64 (a + w : Nat)), .d (.int .i64 0)])] := by
  subst hb
  have hl := rleft_spec s a (by omega) hs
  have hg := rget_spec s a w hw ha hs
  have d1 : decide (8 * (s.size : Int) - (a : Int) < (w : Int)) = false := decide_eq_false (by omega)
  intro r
  simp only [pinsL, List.map_cons, List.map_nil, List.cons_append, List.nil_append, Nat.reduceAdd]
  refine FnS.of_bodyM (enters_of Tryz.func254 (by kernel_rfl) rfl) Tryz.func254 rfl Tryz.ntmps254 Tryz.results254 rfl (by first|rfl|(simp only [wfRes, wfL, wfArgs, wfs, mpO_namesB, mpO_namesI]; rfl)) rfl fun E => ?_
  refine vc_retL ?_
  repeat' (first|(refine gR ?_; first|refine x_opF rfl (by first|exact True.intro|omega) ?_|(refine gC ?_; first|refine vr_callW (nmL []) [] [100] (hl) (gk rfl) rfl rfl (by (repeat' (first|exact .nil|refine .cons ?_ ?_|exact .w (.c (.ptr rfl)) rfl|exact .w (.c (.row rfl rfl)) rfl|exact .w (.c (.mp rfl)) rfl|exact .w (.c (.fn rfl)) rfl|exact .w (.rp rfl) rfl|(refine .w (.fncC ?_) rfl; repeat' (first|exact .nil|refine .cons ?_ ?_|exact .d|exact .ptr rfl|exact .row rfl rfl|(refine .row rfl ?_; ((try dsimp only); first|rfl|omega|(simp only [lns] <;> omega)); done)|exact .fn rfl|exact .mp rfl|exact .frzOf (by first|(simp; done)|decide) rfl rfl (fun _ => rfl)))|exact .r (.of0 (.c .d))|refine .r ?_|exact .of0 (.c .d)|exact .of0 .ep|exact .clo|exact .of0 (.c .nil)|exact .of0 (.c (cr_rowO (by simp) rfl (by first|rfl|omega) (fun _ => rfl)))|refine .of0 (.agg ?_)|exact .d|exact .nil|exact .of0 (.c (cr_row (by decide) rfl rfl (by repeat' (first|exact trivial|refine ⟨?_, ?_⟩|rfl)))))) <;> fail) (by (repeat' (first|exact trivial|refine ⟨⟨_, rfl, ?_⟩, ?_⟩|exact .boxD rfl rfl|exact .rowD rfl rowOf_isD|exact .mapO (fun _ => rfl) rfl|exact .pin rfl|refine .box ?_|exact .nil|refine .cons ?_ ?_|exact .d|exact .ptr rfl|exact .row rfl rfl|(refine .row rfl ?_; ((try dsimp only); first|rfl|omega|(simp only [lns] <;> omega)); done)|exact .fn rfl|exact .mp rfl|exact .frzOf (by first|(simp; done)|decide) rfl rfl (fun _ => rfl))) <;> fail) rfl rfl rfl (by first|rfl|(simp only [List.all_cons, List.all_nil, rowOf_flatB]; rfl)) rfl (by first|rfl|(simp only [wfRes, wfL, wfArgs, wfs, mpO_namesB, mpO_namesI]; rfl)) rfl rfl rfl (by (simp only [newW, List.map_cons, List.map_nil, Blk.ren, C.ren, rowOf_ren, mpO_renB, mpO_renI, gW, memN, nmL, Nat.reduceBEq, Bool.or_false, Bool.or_true, Bool.false_or, Bool.true_or, cond_true, cond_false, Nat.reduceMul, Nat.reduceAdd]) <;> rfl) (by (simp only [AV.ren, AV.ren0, List.map_cons, List.map_nil, C.ren, gW, memN, nmL, Nat.reduceBEq, Bool.or_false, Bool.or_true, Bool.false_or, Bool.true_or, cond_true, cond_false, Nat.reduceMul, Nat.reduceAdd]) <;> rfl) rfl ?_|refine vr_callW (nmL []) [] [100] (hg) (gk rfl) rfl rfl (by (repeat' (first|exact .nil|refine .cons ?_ ?_|exact .w (.c (.ptr rfl)) rfl|exact .w (.c (.row rfl rfl)) rfl|exact .w (.c (.mp rfl)) rfl|exact .w (.c (.fn rfl)) rfl|exact .w (.rp rfl) rfl|(refine .w (.fncC ?_) rfl; repeat' (first|exact .nil|refine .cons ?_ ?_|exact .d|exact .ptr rfl|exact .row rfl rfl|(refine .row rfl ?_; ((try dsimp only); first|rfl|omega|(simp only [lns] <;> omega)); done)|exact .fn rfl|exact .mp rfl|exact .frzOf (by first|(simp; done)|decide) rfl rfl (fun _ => rfl)))|exact .r (.of0 (.c .d))|refine .r ?_|exact .of0 (.c .d)|exact .of0 .ep|exact .clo|exact .of0 (.c .nil)|exact .of0 (.c (cr_rowO (by simp) rfl (by first|rfl|omega) (fun _ => rfl)))|refine .of0 (.agg ?_)|exact .d|exact .nil|exact .of0 (.c (cr_row (by decide) rfl rfl (by repeat' (first|exact trivial|refine ⟨?_, ?_⟩|rfl)))))) <;> fail) (by (repeat' (first|exact trivial|refine ⟨⟨_, rfl, ?_⟩, ?_⟩|exact .boxD rfl rfl|exact .rowD rfl rowOf_isD|exact .mapO (fun _ => rfl) rfl|exact .pin rfl|refine .box ?_|exact .nil|refine .cons ?_ ?_|exact .d|exact .ptr rfl|exact .row rfl rfl|(refine .row rfl ?_; ((try dsimp only); first|rfl|omega|(simp only [lns] <;> omega)); done)|exact .fn rfl|exact .mp rfl|exact .frzOf (by first|(simp; done)|decide) rfl rfl (fun _ => rfl))) <;> fail) rfl rfl rfl (by first|rfl|(simp only [List.all_cons, List.all_nil, rowOf_flatB]; rfl)) rfl (by first|rfl|(simp only [wfRes, wfL, wfArgs, wfs, mpO_namesB, mpO_namesI]; rfl)) rfl rfl rfl (by (simp only [newW, List.map_cons, List.map_nil, Blk.ren, C.ren, rowOf_ren, mpO_renB, mpO_renI, gW, memN, nmL, Nat.reduceBEq, Bool.or_false, Bool.or_true, Bool.false_or, Bool.true_or, cond_true, cond_false, Nat.reduceMul, Nat.reduceAdd]) <;> rfl) (by (simp only [AV.ren, AV.ren0, List.map_cons, List.map_nil, C.ren, gW, memN, nmL, Nat.reduceBEq, Bool.or_false, Bool.or_true, Bool.false_or, Bool.true_or, cond_true, cond_false, Nat.reduceMul, Nat.reduceAdd]) <;> rfl) rfl ?_)|(refine gN ?_; first|refine vr_nilCheck_ptr (gk rfl) rfl rfl ?_))|(refine gO ?_; first|refine vr_nil ?_)|(refine gT ?_; first|refine q_then_n ?_|refine q_then_r ?_)|(refine gK ?_; first|refine q_blk_r ?_)|refine vc_seq ?_|refine vc_region ?_|(show VC _ (.cond _ _ _) _ _; first|refine vc_cond_f rfl ?_|refine x_know rfl (by assumption) ?_)|refine vc_ret ?_|refine vc_block ?_)
  refine retL_of (le_gen0 (l := [(6, AD (.int .u64 (valR s a w)))]) (b := [(9100, .pin 100 (r 100)), (100, .box [.d (.str s), .d (.int .i64 (a + w : Nat)), .d (.int .i64 0)])]) (fun n => n) ?_ ?_ rfl (by first|rfl|(simp only [wfL, wfs, mpO_namesB, mpO_namesI]; rfl))) (retW isRet_r (.tmp rfl rfl .nil) rfl (by repeat' (first|exact trivial|refine ⟨rfl, ?_⟩)))
  all_goals repeat' (first|exact trivial|refine ⟨⟨_, rfl, ?_⟩, ?_⟩|exact .c .d|exact .boxD rfl rfl|exact .pin rfl)
theorem runsigned_spec (s : ByteArray) (a w : Nat) (hw : 1 <= w /\ w <= 62) (ha : a + w <= 8 * s.size) (hs : s.size <= 1000) : FnW Tryz.prog 228 [.c (.ptr 100 0), AI w] [(100, .box [.d (.str s), .d (.int .i64 a), .d (.int .i64 0)])] [100] (AI (valR s a w)) [(100, .box [.d (.str s), .d (.int .i64 (a + w : Nat)), .d (.int .i64 0)])] := by
  have hv := valR_lt s a w
  have hp : 2 ^ w <= 2 ^ 62 := Nat.pow_le_pow_right (by decide) hw.2
  have d1 : decide ((1 : Int) <= (w : Int)) = true := decide_eq_true (by omega)
  have d2 : decide ((w : Int) <= 63) = true := decide_eq_true (by omega)
  have hf := rfield_spec s a w _ d2 hw.2 ha hs
  intro r
  simp only [pinsL, List.map_cons, List.map_nil, List.cons_append, List.nil_append, Nat.reduceAdd]
  refine FnS.of_bodyM (enters_of Tryz.func228 (by kernel_rfl) rfl) Tryz.func228 rfl Tryz.ntmps228 Tryz.results228 rfl (by first|rfl|(simp only [wfRes, wfL, wfArgs, wfs, mpO_namesB, mpO_namesI]; rfl)) rfl fun E => ?_
  refine vc_retL ?_
  repeat' (first|(refine gR ?_; first|refine x_opF rfl (by first|exact True.intro|omega) ?_|(refine gC ?_; first|refine vr_callW (nmL []) [] [100] (hf) (gk rfl) rfl rfl (by (repeat' (first|exact .nil|refine .cons ?_ ?_|exact .w (.c (.ptr rfl)) rfl|exact .w (.c (.row rfl rfl)) rfl|exact .w (.c (.mp rfl)) rfl|exact .w (.c (.fn rfl)) rfl|exact .w (.rp rfl) rfl|(refine .w (.fncC ?_) rfl; repeat' (first|exact .nil|refine .cons ?_ ?_|exact .d|exact .ptr rfl|exact .row rfl rfl|(refine .row rfl ?_; ((try dsimp only); first|rfl|omega|(simp only [lns] <;> omega)); done)|exact .fn rfl|exact .mp rfl|exact .frzOf (by first|(simp; done)|decide) rfl rfl (fun _ => rfl)))|exact .r (.of0 (.c .d))|refine .r ?_|exact .of0 (.c .d)|exact .of0 .ep|exact .clo|exact .of0 (.c .nil)|exact .of0 (.c (cr_rowO (by simp) rfl (by first|rfl|omega) (fun _ => rfl)))|refine .of0 (.agg ?_)|exact .d|exact .nil|exact .of0 (.c (cr_row (by decide) rfl rfl (by repeat' (first|exact trivial|refine ⟨?_, ?_⟩|rfl)))))) <;> fail) (by (repeat' (first|exact trivial|refine ⟨⟨_, rfl, ?_⟩, ?_⟩|exact .boxD rfl rfl|exact .rowD rfl rowOf_isD|exact .mapO (fun _ => rfl) rfl|exact .pin rfl|refine .box ?_|exact .nil|refine .cons ?_ ?_|exact .d|exact .ptr rfl|exact .row rfl rfl|(refine .row rfl ?_; ((try dsimp only); first|rfl|omega|(simp only [lns] <;> omega)); done)|exact .fn rfl|exact .mp rfl|exact .frzOf (by first|(simp; done)|decide) rfl rfl (fun _ => rfl))) <;> fail) rfl rfl rfl (by first|rfl|(simp only [List.all_cons, List.all_nil, rowOf_flatB]; rfl)) rfl (by first|rfl|(simp only [wfRes, wfL, wfArgs, wfs, mpO_namesB, mpO_namesI]; rfl)) rfl rfl rfl (by (simp only [newW, List.map_cons, List.map_nil, Blk.ren, C.ren, rowOf_ren, mpO_renB, mpO_renI, gW, memN, nmL, Nat.reduceBEq, Bool.or_false, Bool.or_true, Bool.false_or, Bool.true_or, cond_true, cond_false, Nat.reduceMul, Nat.reduceAdd]) <;> rfl) (by (simp only [AV.ren, AV.ren0, List.map_cons, List.map_nil, C.ren, gW, memN, nmL, Nat.reduceBEq, Bool.or_false, Bool.or_true, Bool.false_or, Bool.true_or, cond_true, cond_false, Nat.reduceMul, Nat.reduceAdd]) <;> rfl) rfl ?_)|(refine gV ?_; first|refine vr_convert_id (gk rfl) rfl ⟨_, rfl⟩ rfl (by first|exact wrap_i64 (by omega)|exact wrap_u64 (by omega)|exact wrap_u16 (by omega)|exact wrap_u8 (by omega)|exact wrap_u32 (by omega)) rfl ?_)|refine x_gknow rfl (by assumption) ?_)|(refine gO ?_; first|refine vr_nil ?_)|(refine gT ?_; first|refine q_then_n ?_)|refine vc_seq ?_|refine vc_region ?_|refine vc_ret ?_)
  refine retL_of (le_gen0 (l := [(4, AI (valR s a w))]) (b := [(9100, .pin 100 (r 100)), (100, .box [.d (.str s), .d (.int .i64 (a + w : Nat)), .d (.int .i64 0)])]) (fun n => n) ?_ ?_ rfl (by first|rfl|(simp only [wfL, wfs, mpO_namesB, mpO_namesI]; rfl))) (retW isRet_r (.tmp rfl rfl .nil) rfl (by repeat' (first|exact trivial|refine ⟨rfl, ?_⟩)))
  all_goals repeat' (first|exact trivial|refine ⟨⟨_, rfl, ?_⟩, ?_⟩|exact .c .d|exact .boxD rfl rfl|exact .pin rfl)
theorem rflag_spec (s : ByteArray) (a : Nat) (ha : a + 1 <= 8 * s.size) (hs : s.size <= 1000) : FnW Tryz.prog 229 [.c (.ptr 100 0)] [(100, .box [.d (.str s), .d (.int .i64 a), .d (.int .i64 0)])] [100] (AB (decide ((valR s a 1 : Int) = 1))) [(100, .box [.d (.str s), .d (.int .i64 (a + 1 : Nat)), .d (.int .i64 0)])] := by
  have hf := rfield_spec s a 1 true rfl (by decide) ha hs
  intro r
  simp only [pinsL, List.map_cons, List.map_nil, List.cons_append, List.nil_append, Nat.reduceAdd]
  refine FnS.of_bodyM (enters_of Tryz.func229 (by kernel_rfl) rfl) Tryz.func229 rfl Tryz.ntmps229 Tryz.results229 rfl (by first|rfl|(simp only [wfRes, wfL, wfArgs, wfs, mpO_namesB, mpO_namesI]; rfl)) rfl fun E => ?_
  refine vc_retL ?_
  repeat' (first|(refine gR ?_; first|refine x_opF rfl (by first|exact True.intro|omega) ?_|(refine gC ?_; first|refine vr_callW (nmL []) [] [100] (hf) (gk rfl) rfl rfl (by (repeat' (first|exact .nil|refine .cons ?_ ?_|exact .w (.c (.ptr rfl)) rfl|exact .w (.c (.row rfl rfl)) rfl|exact .w (.c (.mp rfl)) rfl|exact .w (.c (.fn rfl)) rfl|exact .w (.rp rfl) rfl|(refine .w (.fncC ?_) rfl; repeat' (first|exact .nil|refine .cons ?_ ?_|exact .d|exact .ptr rfl|exact .row rfl rfl|(refine .row rfl ?_; ((try dsimp only); first|rfl|omega|(simp only [lns] <;> omega)); done)|exact .fn rfl|exact .mp rfl|exact .frzOf (by first|(simp; done)|decide) rfl rfl (fun _ => rfl)))|exact .r (.of0 (.c .d))|refine .r ?_|exact .of0 (.c .d)|exact .of0 .ep|exact .clo|exact .of0 (.c .nil)|exact .of0 (.c (cr_rowO (by simp) rfl (by first|rfl|omega) (fun _ => rfl)))|refine .of0 (.agg ?_)|exact .d|exact .nil|exact .of0 (.c (cr_row (by decide) rfl rfl (by repeat' (first|exact trivial|refine ⟨?_, ?_⟩|rfl)))))) <;> fail) (by (repeat' (first|exact trivial|refine ⟨⟨_, rfl, ?_⟩, ?_⟩|exact .boxD rfl rfl|exact .rowD rfl rowOf_isD|exact .mapO (fun _ => rfl) rfl|exact .pin rfl|refine .box ?_|exact .nil|refine .cons ?_ ?_|exact .d|exact .ptr rfl|exact .row rfl rfl|(refine .row rfl ?_; ((try dsimp only); first|rfl|omega|(simp only [lns] <;> omega)); done)|exact .fn rfl|exact .mp rfl|exact .frzOf (by first|(simp; done)|decide) rfl rfl (fun _ => rfl))) <;> fail) rfl rfl rfl (by first|rfl|(simp only [List.all_cons, List.all_nil, rowOf_flatB]; rfl)) rfl (by first|rfl|(simp only [wfRes, wfL, wfArgs, wfs, mpO_namesB, mpO_namesI]; rfl)) rfl rfl rfl (by (simp only [newW, List.map_cons, List.map_nil, Blk.ren, C.ren, rowOf_ren, mpO_renB, mpO_renI, gW, memN, nmL, Nat.reduceBEq, Bool.or_false, Bool.or_true, Bool.false_or, Bool.true_or, cond_true, cond_false, Nat.reduceMul, Nat.reduceAdd]) <;> rfl) (by (simp only [AV.ren, AV.ren0, List.map_cons, List.map_nil, C.ren, gW, memN, nmL, Nat.reduceBEq, Bool.or_false, Bool.or_true, Bool.false_or, Bool.true_or, cond_true, cond_false, Nat.reduceMul, Nat.reduceAdd]) <;> rfl) rfl ?_))|(refine gO ?_; first|refine vr_nil ?_)|(refine gT ?_; first|refine q_then_n ?_)|refine vc_seq ?_|refine vc_region ?_|refine vc_ret ?_)
  refine retL_of (le_gen0 (l := [(2, AB (decide ((valR s a 1 : Int) = 1)))]) (b := [(9100, .pin 100 (r 100)), (100, .box [.d (.str s), .d (.int .i64 (a + 1 : Nat)), .d (.int .i64 0)])]) (fun n => n) ?_ ?_ rfl (by first|rfl|(simp only [wfL, wfs, mpO_namesB, mpO_namesI]; rfl))) (retW isRet_r (.tmp rfl rfl .nil) rfl (by repeat' (first|exact trivial|refine ⟨rfl, ?_⟩)))
  all_goals repeat' (first|exact trivial|refine ⟨⟨_, rfl, ?_⟩, ?_⟩|exact .c .d|exact .boxD rfl rfl|exact .pin rfl)
end Go.Proofs
end
section
namespace Go.Proofs
open Go Go.Sx Go.Proofs.T Go.Proofs.Q
set_option maxRecDepth 4000
attribute [local irreducible] VR VC thenQ blockQ retL
def rdK (s : ByteArray) (b : Nat) (k : Nat) : List Int := (List.range k).map fun i => (valR s (b + 8 * i) 8 : Int)
theorem rdK_len (s : ByteArray) (b k : Nat) : (rdK s b k).length = k := by simp [rdK]
theorem rdK_succ (s : ByteArray) (b k : Nat) : rdK s b (k + 1) = rdK s b k ++ [(valR s (b + 8 * k) 8 : Int)] := by simp [rdK, List.range_succ]
set_option maxHeartbeats 2000000 in
theorem rtext_spec (s : ByteArray) (a m w : Nat) (hm : 1 <= m /\ m <= 255) (hmw : max 1 (lenV m) = w) (hw : w <= 8) (hn : valR s a w <= m) (ha : a + w + 8 * valR s a w <= 8 * s.size) (hs : s.size <= 1000) :
    FnW Tryz.prog 253 [.c (.ptr 100 0), AI m] [(100, .box [.d (.str s), .d (.int .i64 a), .d (.int .i64 0)])] [100] (AD (.str (mkS (rdK s (a + w) (valR s a w))))) [(100, .box [.d (.str s), .d (.int .i64 (a + w + 8 * valR s a w : Nat)), .d (.int .i64 0)])] := by
  have hwd := pwidth_spec m (by omega)
  rw [hmw] at hwd
  have hlm := limit_spec m
  rw [decide_eq_true (show (1 : Int) <= (m : Int) /\ (m : Int) <= 4095 by omega)] at hlm
  have hf := rfield_spec s a w true rfl (by omega) (by omega) hs
  have hl := rleft_spec s (a + w) (by omega) hs
  generalize valR s a w = n at *
  have d1 : decide ((m : Int) < (n : Int)) = false := decide_eq_false (by omega)
  have d2 : decide (8 * (s.size : Int) - ((a + w : Nat) : Int) < 8 * (n : Int)) = false := decide_eq_false (by omega)
  intro r
  simp only [pinsL, List.map_cons, List.map_nil, List.cons_append, List.nil_append, Nat.reduceAdd]
  refine FnS.of_bodyM (enters_of Tryz.func253 (by kernel_rfl) rfl) Tryz.func253 rfl Tryz.ntmps253 Tryz.results253 rfl (by first|rfl|(simp only [wfRes, wfL, wfArgs, wfs, mpO_namesB, mpO_namesI]; rfl)) rfl fun E => ?_
  refine vc_retL ?_
  repeat' (first|(refine gR ?_; first|(show VR _ _ _ (⟨_, .makeFunc _ #[_] #[], _, _, _, _⟩ :: _) _ _ _; first|refine vr_makeBound (pn := 9100) (gk rfl) rfl rfl rfl ?_)|refine x_opF rfl (by first|exact True.intro|omega) ?_|(refine gC ?_; first|refine vr_calldU (hwd) (gk rfl) rfl rfl rfl (by first|rfl|(simp only [wfRes, wfL, wfArgs, wfs, mpO_namesB, mpO_namesI]; rfl)) rfl (by first|exact newB_nil|exact newB_O|((simp only [newB, List.map_cons, List.map_nil, Blk.shift, rowOf_shift]) <;> rfl)|rfl) rfl ?_|refine vr_calldU (hlm) (gk rfl) rfl rfl rfl (by first|rfl|(simp only [wfRes, wfL, wfArgs, wfs, mpO_namesB, mpO_namesI]; rfl)) rfl (by first|exact newB_nil|exact newB_O|((simp only [newB, List.map_cons, List.map_nil, Blk.shift, rowOf_shift]) <;> rfl)|rfl) rfl ?_|refine vr_callW (nmL []) [] [100] (hf) (gk rfl) rfl rfl (by (repeat' (first|exact .nil|refine .cons ?_ ?_|exact .w (.c (.ptr rfl)) rfl|exact .w (.c (.row rfl rfl)) rfl|exact .w (.c (.mp rfl)) rfl|exact .w (.c (.fn rfl)) rfl|exact .w (.rp rfl) rfl|(refine .w (.fncC ?_) rfl; repeat' (first|exact .nil|refine .cons ?_ ?_|exact .d|exact .ptr rfl|exact .row rfl rfl|(refine .row rfl ?_; ((try dsimp only); first|rfl|omega|(simp only [lns] <;> omega)); done)|exact .fn rfl|exact .mp rfl|exact .frzOf (by first|(simp; done)|decide) rfl rfl (fun _ => rfl)))|exact .r (.of0 (.c .d))|refine .r ?_|exact .of0 (.c .d)|exact .of0 .ep|exact .clo|exact .of0 (.c .nil)|exact .of0 (.c (cr_rowO (by simp) rfl (by first|rfl|omega) (fun _ => rfl)))|refine .of0 (.agg ?_)|exact .d|exact .nil|exact .of0 (.c (cr_row (by decide) rfl rfl (by repeat' (first|exact trivial|refine ⟨?_, ?_⟩|rfl)))))) <;> fail) (by (repeat' (first|exact trivial|refine ⟨⟨_, rfl, ?_⟩, ?_⟩|exact .boxD rfl rfl|exact .rowD rfl rowOf_isD|exact .mapO (fun _ => rfl) rfl|exact .pin rfl|refine .box ?_|exact .nil|refine .cons ?_ ?_|exact .d|exact .ptr rfl|exact .row rfl rfl|(refine .row rfl ?_; ((try dsimp only); first|rfl|omega|(simp only [lns] <;> omega)); done)|exact .fn rfl|exact .mp rfl|exact .frzOf (by first|(simp; done)|decide) rfl rfl (fun _ => rfl))) <;> fail) rfl rfl rfl (by first|rfl|(simp only [List.all_cons, List.all_nil, rowOf_flatB]; rfl)) rfl (by first|rfl|(simp only [wfRes, wfL, wfArgs, wfs, mpO_namesB, mpO_namesI]; rfl)) rfl rfl rfl (by (simp only [newW, List.map_cons, List.map_nil, Blk.ren, C.ren, rowOf_ren, mpO_renB, mpO_renI, gW, memN, nmL, Nat.reduceBEq, Bool.or_false, Bool.or_true, Bool.false_or, Bool.true_or, cond_true, cond_false, Nat.reduceMul, Nat.reduceAdd]) <;> rfl) (by (simp only [AV.ren, AV.ren0, List.map_cons, List.map_nil, C.ren, gW, memN, nmL, Nat.reduceBEq, Bool.or_false, Bool.or_true, Bool.false_or, Bool.true_or, cond_true, cond_false, Nat.reduceMul, Nat.reduceAdd]) <;> rfl) rfl ?_|refine vr_callW (nmL []) [] [100] (hl) (gk rfl) rfl rfl (by (repeat' (first|exact .nil|refine .cons ?_ ?_|exact .w (.c (.ptr rfl)) rfl|exact .w (.c (.row rfl rfl)) rfl|exact .w (.c (.mp rfl)) rfl|exact .w (.c (.fn rfl)) rfl|exact .w (.rp rfl) rfl|(refine .w (.fncC ?_) rfl; repeat' (first|exact .nil|refine .cons ?_ ?_|exact .d|exact .ptr rfl|exact .row rfl rfl|(refine .row rfl ?_; ((try dsimp only); first|rfl|omega|(simp only [lns] <;> omega)); done)|exact .fn rfl|exact .mp rfl|exact .frzOf (by first|(simp; done)|decide) rfl rfl (fun _ => rfl)))|exact .r (.of0 (.c .d))|refine .r ?_|exact .of0 (.c .d)|exact .of0 .ep|exact .clo|exact .of0 (.c .nil)|exact .of0 (.c (cr_rowO (by simp) rfl (by first|rfl|omega) (fun _ => rfl)))|refine .of0 (.agg ?_)|exact .d|exact .nil|exact .of0 (.c (cr_row (by decide) rfl rfl (by repeat' (first|exact trivial|refine ⟨?_, ?_⟩|rfl)))))) <;> fail) (by (repeat' (first|exact trivial|refine ⟨⟨_, rfl, ?_⟩, ?_⟩|exact .boxD rfl rfl|exact .rowD rfl rowOf_isD|exact .mapO (fun _ => rfl) rfl|exact .pin rfl|refine .box ?_|exact .nil|refine .cons ?_ ?_|exact .d|exact .ptr rfl|exact .row rfl rfl|(refine .row rfl ?_; ((try dsimp only); first|rfl|omega|(simp only [lns] <;> omega)); done)|exact .fn rfl|exact .mp rfl|exact .frzOf (by first|(simp; done)|decide) rfl rfl (fun _ => rfl))) <;> fail) rfl rfl rfl (by first|rfl|(simp only [List.all_cons, List.all_nil, rowOf_flatB]; rfl)) rfl (by first|rfl|(simp only [wfRes, wfL, wfArgs, wfs, mpO_namesB, mpO_namesI]; rfl)) rfl rfl rfl (by (simp only [newW, List.map_cons, List.map_nil, Blk.ren, C.ren, rowOf_ren, mpO_renB, mpO_renI, gW, memN, nmL, Nat.reduceBEq, Bool.or_false, Bool.or_true, Bool.false_or, Bool.true_or, cond_true, cond_false, Nat.reduceMul, Nat.reduceAdd]) <;> rfl) (by (simp only [AV.ren, AV.ren0, List.map_cons, List.map_nil, C.ren, gW, memN, nmL, Nat.reduceBEq, Bool.or_false, Bool.or_true, Bool.false_or, Bool.true_or, cond_true, cond_false, Nat.reduceMul, Nat.reduceAdd]) <;> rfl) rfl ?_)|(refine gE ?_; first|refine vr_len_row (gk rfl) rfl rfl (by first|rfl|exact rowOf_length.symm|(simp only [lns] <;> omega)) rfl rfl ?_)|(show VR _ _ _ (⟨_, .makeSlice _ _ _, _, _, _, _⟩ :: _) _ _ _; first|refine vr_make8 (gk rfl) rfl rfl rfl rfl rfl (by omega) rfl (by omega) rfl rfl ?_)|(refine gN ?_; first|refine vr_nilCheck_ptr (gk rfl) rfl rfl ?_)|(refine gV ?_; first|refine vr_convert_id (gk rfl) rfl ⟨_, rfl⟩ rfl (by first|exact wrap_i64 (by omega)|exact wrap_u64 (by omega)|exact wrap_u16 (by omega)|exact wrap_u8 (by omega)|exact wrap_u32 (by omega)) rfl ?_))|(refine gO ?_; first|refine vr_nil ?_)|(refine gT ?_; first|refine q_then_n ?_)|(refine gK ?_; first|refine q_blk_n ?_)|refine vc_seq ?_|refine vc_region ?_|(show VC _ (.cond _ _ _) _ _; first|refine vc_cond_f rfl ?_|refine x_know rfl (by assumption) ?_)|refine vc_block ?_|refine vc_skip ?_)
  have hnn : (n : Int).toNat = n := by omega
  rw [hnn]
  refine vc_loopI (ι := Nat) (fun k => stOf [(0, .c (.ptr 100 0)), (6, .c (bndFn 193 (r 100) 0)), (7, .c (.row 39 (rdK s (a + w) k ++ List.replicate (n - k) 0).length)), (41, AI n), (42, AI k)] [(9100, .pin 100 (r 100)), (100, .box [.d (.str s), .d (.int .i64 (a + w + 8 * k : Nat)), .d (.int .i64 0)]), (39, .row 5 1 (rowOf enc8 (rdK s (a + w) k ++ List.replicate (n - k) 0)))]) (fun k => k <= n) (fun k => n - k) 0 (Nat.zero_le _) ?_ ?_
  · rw [show rdK s (a + w) 0 = [] from rfl, List.nil_append, Nat.sub_zero, Nat.mul_zero, Nat.add_zero]
    refine le_gen0 (fun n => n) ?_ ?_ rfl (by first|rfl|(simp only [wfL, wfs, mpO_namesB, mpO_namesI]; rfl))
    all_goals repeat' (first|exact trivial|refine ⟨⟨_, rfl, ?_⟩, ?_⟩|exact .c .d|exact .c (.ptr rfl)|(refine .c (.row rfl ?_); ((try dsimp only); first|rfl|omega|(simp only [lns] <;> omega)); done)|exact .boxD rfl rfl|exact .pin rfl|exact .rowD rfl rowOf_isD)
  · intro k hk
    have hrl := rdK_len s (a + w) k
    have hlen : (rdK s (a + w) k ++ List.replicate (n - k) (0 : Int)).length = n := by rw [List.length_append, hrl, List.length_replicate]; omega
    have hlen1 : (rdK s (a + w) (k + 1) ++ List.replicate (n - (k + 1)) (0 : Int)).length = if k < n then n else n + 1 := by
      rw [List.length_append, rdK_len, List.length_replicate]; split <;> omega
    rcases Nat.lt_or_ge k n with hlt | hge
    · rw [if_pos hlt] at hlen1
      have dlt : decide ((k : Int) < (n : Int)) = true := decide_eq_true (by omega)
      have hv := valR_lt s (a + w + 8 * k) 8
      have hg := rget_spec s (a + w + 8 * k) 8 (by decide) (by omega) hs
      have es : (rdK s (a + w) k ++ List.replicate (n - k) (0 : Int)).set k (valR s (a + w + 8 * k) 8 : Int) = rdK s (a + w) (k + 1) ++ List.replicate (n - (k + 1)) 0 := by
        have e1 : List.replicate (n - k) (0 : Int) = 0 :: List.replicate (n - (k + 1)) 0 := by
          rw [<- List.replicate_succ]; congr 1; omega
        rw [e1, List.set_append_right _ _ (by omega), hrl, Nat.sub_self, List.set_cons_zero, rdK_succ, List.append_assoc]; rfl
      repeat' (first|(refine gR ?_; first|(show VR _ _ _ (⟨_, .call ⟨.value (.tmp _), _, _⟩, _, _, _, _⟩ :: _) _ _ _; refine vr_bound (z := .tmp 0) (pn := 9100) rfl rfl rfl ?_)|refine x_opF rfl (by first|exact True.intro|omega) ?_|(refine gC ?_; first|refine vr_callW (nmL []) [] [100] (hg) (gk rfl) rfl rfl (by (repeat' (first|exact .nil|refine .cons ?_ ?_|exact .w (.c (.ptr rfl)) rfl|exact .w (.c (.row rfl rfl)) rfl|exact .w (.c (.mp rfl)) rfl|exact .w (.c (.fn rfl)) rfl|exact .w (.rp rfl) rfl|(refine .w (.fncC ?_) rfl; repeat' (first|exact .nil|refine .cons ?_ ?_|exact .d|exact .ptr rfl|exact .row rfl rfl|(refine .row rfl ?_; ((try dsimp only); first|rfl|omega|(simp only [lns] <;> omega)); done)|exact .fn rfl|exact .mp rfl|exact .frzOf (by first|(simp; done)|decide) rfl rfl (fun _ => rfl)))|exact .r (.of0 (.c .d))|refine .r ?_|exact .of0 (.c .d)|exact .of0 .ep|exact .clo|exact .of0 (.c .nil)|exact .of0 (.c (cr_rowO (by simp) rfl (by first|rfl|omega) (fun _ => rfl)))|refine .of0 (.agg ?_)|exact .d|exact .nil|exact .of0 (.c (cr_row (by decide) rfl rfl (by repeat' (first|exact trivial|refine ⟨?_, ?_⟩|rfl)))))) <;> fail) (by (repeat' (first|exact trivial|refine ⟨⟨_, rfl, ?_⟩, ?_⟩|exact .boxD rfl rfl|exact .rowD rfl rowOf_isD|exact .mapO (fun _ => rfl) rfl|exact .pin rfl|refine .box ?_|exact .nil|refine .cons ?_ ?_|exact .d|exact .ptr rfl|exact .row rfl rfl|(refine .row rfl ?_; ((try dsimp only); first|rfl|omega|(simp only [lns] <;> omega)); done)|exact .fn rfl|exact .mp rfl|exact .frzOf (by first|(simp; done)|decide) rfl rfl (fun _ => rfl))) <;> fail) rfl rfl rfl (by first|rfl|(simp only [List.all_cons, List.all_nil, rowOf_flatB]; rfl)) rfl (by first|rfl|(simp only [wfRes, wfL, wfArgs, wfs, mpO_namesB, mpO_namesI]; rfl)) rfl rfl rfl (by (simp only [newW, List.map_cons, List.map_nil, Blk.ren, C.ren, rowOf_ren, mpO_renB, mpO_renI, gW, memN, nmL, Nat.reduceBEq, Bool.or_false, Bool.or_true, Bool.false_or, Bool.true_or, cond_true, cond_false, Nat.reduceMul, Nat.reduceAdd]) <;> rfl) (by (simp only [AV.ren, AV.ren0, List.map_cons, List.map_nil, C.ren, gW, memN, nmL, Nat.reduceBEq, Bool.or_false, Bool.or_true, Bool.false_or, Bool.true_or, cond_true, cond_false, Nat.reduceMul, Nat.reduceAdd]) <;> rfl) rfl ?_)|(refine gI ?_; first|refine vr_index_rowO (gk rfl) rfl rfl rfl rfl rfl rfl (by omega) (by omega) rfl ?_)|(refine gS ?_; first|refine vr_store_rowO (gk rfl) rfl rfl rfl (by omega) rfl rfl rfl ?_)|(refine gV ?_; first|refine vr_convert_id (gk rfl) rfl ⟨_, rfl⟩ rfl (by first|exact wrap_i64 (by omega)|exact wrap_u64 (by omega)|exact wrap_u16 (by omega)|exact wrap_u8 (by omega)|exact wrap_u32 (by omega)) rfl ?_))|(refine gO ?_; first|refine vr_nil ?_)|(refine gT ?_; first|refine q_then_n ?_)|(refine gK ?_; first|refine q_blk_n ?_)|refine vc_seq ?_|refine vc_region ?_|(show VC _ (.cond _ _ _) _ _; first|refine vc_cond_t rfl ?_|refine x_know rfl (by assumption) ?_)|refine vc_block ?_|refine vc_skip ?_)
      refine ⟨k + 1, by omega, by omega, ?_⟩
      rw [<- es, show a + w + 8 * (k + 1) = a + w + 8 * k + 8 by omega]
      refine le_gen0 (fun n => n) ?_ ?_ rfl (by first|rfl|(simp only [wfL, wfs, mpO_namesB, mpO_namesI]; rfl))
      all_goals repeat' (first|exact trivial|refine ⟨⟨_, rfl, ?_⟩, ?_⟩|exact .c .d|exact .c (.ptr rfl)|(refine .c (.row rfl ?_); ((try dsimp only); first|rfl|omega|(simp only [lns] <;> omega)); done)|exact .boxD rfl rfl|exact .pin rfl|exact .rowD (rowOf_set rfl) rowOf_isD)
    · have dlt : decide ((k : Int) < (n : Int)) = false := decide_eq_false (by omega)
      have hk' : k = n := by omega
      subst hk'
      rw [Nat.sub_self, List.replicate_zero, List.append_nil]
      repeat' (first|(refine gR ?_; first|(refine gV ?_; first|refine vr_convStr (gk rfl) rfl rfl (by first|rfl|exact rowOf_length.symm|(simp only [lns] <;> omega)) rfl rfl rfl rfl ?_)|refine x_opF rfl (by first|exact True.intro|omega) ?_)|(refine gO ?_; first|refine vr_nil ?_)|(refine gT ?_; first|refine q_then_n ?_|refine q_then_x ?_)|(refine gK ?_; first|refine q_blk_x ?_)|refine vc_seq ?_|refine vc_region ?_|(show VC _ (.cond _ _ _) _ _; first|refine vc_cond_f rfl ?_|refine x_know rfl (by assumption) ?_)|refine vc_ret ?_|refine vc_exit ?_)
      refine retL_of (le_gen0 (l := [(4, AD (.str (mkS (rdK s (a + w) k))))]) (b := [(9100, .pin 100 (r 100)), (100, .box [.d (.str s), .d (.int .i64 (a + w + 8 * k : Nat)), .d (.int .i64 0)])]) (fun n => n) ?_ ?_ rfl (by first|rfl|(simp only [wfL, wfs, mpO_namesB, mpO_namesI]; rfl))) (retW isRet_r (.tmp rfl rfl .nil) rfl (by repeat' (first|exact trivial|refine ⟨rfl, ?_⟩)))
      all_goals repeat' (first|exact trivial|refine ⟨⟨_, rfl, ?_⟩, ?_⟩|exact .c .d|exact .boxD rfl rfl|exact .pin rfl)
end Go.Proofs
end
section
namespace Go.Proofs
open Go Go.Sx Go.Proofs.T Go.Proofs.Q
set_option maxRecDepth 4000
attribute [local irreducible] VR VC thenQ blockQ retL
theorem rnew_spec (s : ByteArray) (hs : s.size <= 1000) : FnS Tryz.prog 124 [AD (.str s)] [] (.c (.ptr 100 0)) [(100, .box [.d (.str s), .d (.int .i64 0), .d (.int .i64 0)])] := by
  have d1 : decide (65536 < (s.size : Int)) = false := decide_eq_false (by omega)
  refine FnS.of_body (enters_of Tryz.func124 (by kernel_rfl) rfl) Tryz.func124 rfl Tryz.ntmps124 Tryz.results124 rfl rfl rfl rfl fun E hS => ?_
  refine vc_retL ?_
  repeat' (first|(refine gR ?_; first|refine x_opF rfl (by first|exact True.intro|omega) ?_)|(refine gO ?_; first|refine vr_nil ?_)|(refine gT ?_; first|refine q_then_n ?_)|refine vc_seq ?_|refine vc_region ?_|(show VC _ (.cond _ _ _) _ _; first|refine vc_cond_f rfl ?_|refine x_know rfl (by assumption) ?_)|refine vc_ret ?_|refine vc_skip ?_)
  refine retL_of (le_gen0 (l := [(2, .c (.ptr 100 0))]) (b := [(100, .box [.d (.str s), .d (.int .i64 0), .d (.int .i64 0)])]) (fun n => if n = 100 then 10 else n) ?_ ?_ rfl (by first|rfl|(simp only [wfL, wfs, mpO_namesB, mpO_namesI]; rfl))) (retW isRet_r (.tmp rfl rfl .nil) rfl (by repeat' (first|exact trivial|refine ⟨rfl, ?_⟩)))
  all_goals repeat' (first|exact trivial|refine ⟨⟨_, rfl, ?_⟩, ?_⟩|exact .c (.ptr rfl)|exact .boxD rfl rfl)
theorem ones_spec (s : ByteArray) (a : Nat) (ha : a <= 8 * s.size /\ 8 * s.size < a + 8) (hz : valR s a (8 * s.size - a) = 0) (hs : s.size <= 1000) :
    FnW Tryz.prog 192 [.c (.ptr 101 0)] [(100, .box [.d (.str s), .d (.int .i64 a), .d (.int .i64 0)]), (101, .box [.ptr 100 0])] [100, 101] (AB false) [(100, .box [.d (.str s), .d (.int .i64 a), .d (.int .i64 0)]), (101, .box [.ptr 100 0])] := by
  have hl := rleft_spec s a ha.1 hs
  have hg := rget_spec s a (8 * s.size - a) (by omega) (by omega) hs
  rw [hz, show ((8 * s.size - a : Nat) : Int) = 8 * (s.size : Int) - (a : Int) by omega] at hg
  intro r
  simp only [pinsL, List.map_cons, List.map_nil, List.cons_append, List.nil_append, Nat.reduceAdd]
  refine FnS.of_bodyM (enters_of Tryz.func192 (by kernel_rfl) rfl) Tryz.func192 rfl Tryz.ntmps192 Tryz.results192 rfl (by first|rfl|(simp only [wfRes, wfL, wfArgs, wfs, mpO_namesB, mpO_namesI]; rfl)) rfl fun E => ?_
  refine vc_retL ?_
  repeat' (first|(refine gR ?_; first|refine x_opF rfl (by first|exact True.intro|omega) ?_|(refine gN ?_; first|refine vr_nilCheck_ptr (gk rfl) rfl rfl ?_))|(refine gO ?_; first|refine vr_nil ?_)|(refine gT ?_; first|refine q_then_n ?_)|(show VC _ (.seq _ _) _ _; (fail_if_success (show VC _ (.seq (.seq (.region 2 _ _) _) _) _ _)); (fail_if_success (show VC _ (.seq (.region 2 _ _) _) _ _)); refine vc_seq ?_)|refine vc_region ?_)
  repeat' (first|(refine gR ?_; first|refine x_opF rfl (by first|exact True.intro|omega) ?_|(refine gC ?_; first|refine vr_callW (nmL []) [] [100] (hl) (gk rfl) rfl rfl (by (repeat' (first|exact .nil|refine .cons ?_ ?_|exact .w (.c (.ptr rfl)) rfl|exact .w (.c (.row rfl rfl)) rfl|exact .w (.c (.mp rfl)) rfl|exact .w (.c (.fn rfl)) rfl|exact .w (.rp rfl) rfl|(refine .w (.fncC ?_) rfl; repeat' (first|exact .nil|refine .cons ?_ ?_|exact .d|exact .ptr rfl|exact .row rfl rfl|(refine .row rfl ?_; ((try dsimp only); first|rfl|omega|(simp only [lns] <;> omega)); done)|exact .fn rfl|exact .mp rfl|exact .frzOf (by first|(simp; done)|decide) rfl rfl (fun _ => rfl)))|exact .r (.of0 (.c .d))|refine .r ?_|exact .of0 (.c .d)|exact .of0 .ep|exact .clo|exact .of0 (.c .nil)|exact .of0 (.c (cr_rowO (by simp) rfl (by first|rfl|omega) (fun _ => rfl)))|refine .of0 (.agg ?_)|exact .d|exact .nil|exact .of0 (.c (cr_row (by decide) rfl rfl (by repeat' (first|exact trivial|refine ⟨?_, ?_⟩|rfl)))))) <;> fail) (by (repeat' (first|exact trivial|refine ⟨⟨_, rfl, ?_⟩, ?_⟩|exact .boxD rfl rfl|exact .rowD rfl rowOf_isD|exact .mapO (fun _ => rfl) rfl|exact .pin rfl|refine .box ?_|exact .nil|refine .cons ?_ ?_|exact .d|exact .ptr rfl|exact .row rfl rfl|(refine .row rfl ?_; ((try dsimp only); first|rfl|omega|(simp only [lns] <;> omega)); done)|exact .fn rfl|exact .mp rfl|exact .frzOf (by first|(simp; done)|decide) rfl rfl (fun _ => rfl))) <;> fail) rfl rfl rfl (by first|rfl|(simp only [List.all_cons, List.all_nil, rowOf_flatB]; rfl)) rfl (by first|rfl|(simp only [wfRes, wfL, wfArgs, wfs, mpO_namesB, mpO_namesI]; rfl)) rfl rfl rfl (by (simp only [newW, List.map_cons, List.map_nil, Blk.ren, C.ren, rowOf_ren, mpO_renB, mpO_renI, gW, memN, nmL, Nat.reduceBEq, Bool.or_false, Bool.or_true, Bool.false_or, Bool.true_or, cond_true, cond_false, Nat.reduceMul, Nat.reduceAdd]) <;> rfl) (by (simp only [AV.ren, AV.ren0, List.map_cons, List.map_nil, C.ren, gW, memN, nmL, Nat.reduceBEq, Bool.or_false, Bool.or_true, Bool.false_or, Bool.true_or, cond_true, cond_false, Nat.reduceMul, Nat.reduceAdd]) <;> rfl) rfl ?_|refine vr_callW (nmL [(100, 2)]) [] [100] (hg) (gk rfl) rfl rfl (by (repeat' (first|exact .nil|refine .cons ?_ ?_|exact .w (.c (.ptr rfl)) rfl|exact .w (.c (.row rfl rfl)) rfl|exact .w (.c (.mp rfl)) rfl|exact .w (.c (.fn rfl)) rfl|exact .w (.rp rfl) rfl|(refine .w (.fncC ?_) rfl; repeat' (first|exact .nil|refine .cons ?_ ?_|exact .d|exact .ptr rfl|exact .row rfl rfl|(refine .row rfl ?_; ((try dsimp only); first|rfl|omega|(simp only [lns] <;> omega)); done)|exact .fn rfl|exact .mp rfl|exact .frzOf (by first|(simp; done)|decide) rfl rfl (fun _ => rfl)))|exact .r (.of0 (.c .d))|refine .r ?_|exact .of0 (.c .d)|exact .of0 .ep|exact .clo|exact .of0 (.c .nil)|exact .of0 (.c (cr_rowO (by simp) rfl (by first|rfl|omega) (fun _ => rfl)))|refine .of0 (.agg ?_)|exact .d|exact .nil|exact .of0 (.c (cr_row (by decide) rfl rfl (by repeat' (first|exact trivial|refine ⟨?_, ?_⟩|rfl)))))) <;> fail) (by (repeat' (first|exact trivial|refine ⟨⟨_, rfl, ?_⟩, ?_⟩|exact .boxD rfl rfl|exact .rowD rfl rowOf_isD|exact .mapO (fun _ => rfl) rfl|exact .pin rfl|refine .box ?_|exact .nil|refine .cons ?_ ?_|exact .d|exact .ptr rfl|exact .row rfl rfl|(refine .row rfl ?_; ((try dsimp only); first|rfl|omega|(simp only [lns] <;> omega)); done)|exact .fn rfl|exact .mp rfl|exact .frzOf (by first|(simp; done)|decide) rfl rfl (fun _ => rfl))) <;> fail) rfl rfl rfl (by first|rfl|(simp only [List.all_cons, List.all_nil, rowOf_flatB]; rfl)) rfl (by first|rfl|(simp only [wfRes, wfL, wfArgs, wfs, mpO_namesB, mpO_namesI]; rfl)) rfl rfl rfl (by (simp only [newW, List.map_cons, List.map_nil, Blk.ren, C.ren, rowOf_ren, mpO_renB, mpO_renI, gW, memN, nmL, Nat.reduceBEq, Bool.or_false, Bool.or_true, Bool.false_or, Bool.true_or, cond_true, cond_false, Nat.reduceMul, Nat.reduceAdd]) <;> rfl) (by (simp only [AV.ren, AV.ren0, List.map_cons, List.map_nil, C.ren, gW, memN, nmL, Nat.reduceBEq, Bool.or_false, Bool.or_true, Bool.false_or, Bool.true_or, cond_true, cond_false, Nat.reduceMul, Nat.reduceAdd]) <;> rfl) rfl ?_))|(refine gO ?_; first|refine vr_nil ?_)|(refine gT ?_; first|refine q_then_n ?_)|refine vc_seq ?_|refine vc_region ?_|refine vc_ret ?_)
  refine retL_of (le_gen0 (l := [(1, AB false)]) (b := [(9100, .pin 100 (r 100)), (9101, .pin 101 (r 101)), (100, .box [.d (.str s), .d (.int .i64 a), .d (.int .i64 0)]), (101, .box [.ptr 100 0])]) (fun n => n) ?_ ?_ rfl (by first|rfl|(simp only [wfL, wfs, mpO_namesB, mpO_namesI]; rfl))) (retW isRet_r (.tmp rfl rfl .nil) rfl (by repeat' (first|exact trivial|refine ⟨rfl, ?_⟩)))
  all_goals repeat' (first|exact trivial|refine ⟨⟨_, rfl, ?_⟩, ?_⟩|exact .c .d|exact .boxD rfl rfl|exact .pin rfl|refine .box ?_|exact .nil|refine .cons ?_ ?_|exact .ptr rfl)
theorem rclose_spec (s : ByteArray) (a : Nat) (ha : a <= 8 * s.size /\ 8 * s.size < a + 8) (hz : valR s a (8 * s.size - a) = 0) (hs : s.size <= 1000) :
    FnW Tryz.prog 126 [.c (.ptr 100 0)] [(100, .box [.d (.str s), .d (.int .i64 a), .d (.int .i64 0)])] [100] (AI 0) [(100, .box [.d (.str s), .d (.int .i64 a), .d (.int .i64 0)])] := by
  have hl := rleft_spec s a ha.1 hs
  have ho := ones_spec s a ha hz hs
  have d1 : decide (8 <= 8 * (s.size : Int) - (a : Int)) = false := decide_eq_false (by omega)
  intro r
  simp only [pinsL, List.map_cons, List.map_nil, List.cons_append, List.nil_append, Nat.reduceAdd]
  refine FnS.of_bodyM (enters_of Tryz.func126 (by kernel_rfl) rfl) Tryz.func126 rfl Tryz.ntmps126 Tryz.results126 rfl (by first|rfl|(simp only [wfRes, wfL, wfArgs, wfs, mpO_namesB, mpO_namesI]; rfl)) rfl fun E => ?_
  refine vc_retL ?_
  repeat' (first|(refine gR ?_; first|refine x_opF rfl (by first|exact True.intro|omega) ?_|(refine gC ?_; first|refine vr_callW (nmL []) [] [100] (hl) (gk rfl) rfl rfl (by (repeat' (first|exact .nil|refine .cons ?_ ?_|exact .w (.c (.ptr rfl)) rfl|exact .w (.c (.row rfl rfl)) rfl|exact .w (.c (.mp rfl)) rfl|exact .w (.c (.fn rfl)) rfl|exact .w (.rp rfl) rfl|(refine .w (.fncC ?_) rfl; repeat' (first|exact .nil|refine .cons ?_ ?_|exact .d|exact .ptr rfl|exact .row rfl rfl|(refine .row rfl ?_; ((try dsimp only); first|rfl|omega|(simp only [lns] <;> omega)); done)|exact .fn rfl|exact .mp rfl|exact .frzOf (by first|(simp; done)|decide) rfl rfl (fun _ => rfl)))|exact .r (.of0 (.c .d))|refine .r ?_|exact .of0 (.c .d)|exact .of0 .ep|exact .clo|exact .of0 (.c .nil)|exact .of0 (.c (cr_rowO (by simp) rfl (by first|rfl|omega) (fun _ => rfl)))|refine .of0 (.agg ?_)|exact .d|exact .nil|exact .of0 (.c (cr_row (by decide) rfl rfl (by repeat' (first|exact trivial|refine ⟨?_, ?_⟩|rfl)))))) <;> fail) (by (repeat' (first|exact trivial|refine ⟨⟨_, rfl, ?_⟩, ?_⟩|exact .boxD rfl rfl|exact .rowD rfl rowOf_isD|exact .mapO (fun _ => rfl) rfl|exact .pin rfl|refine .box ?_|exact .nil|refine .cons ?_ ?_|exact .d|exact .ptr rfl|exact .row rfl rfl|(refine .row rfl ?_; ((try dsimp only); first|rfl|omega|(simp only [lns] <;> omega)); done)|exact .fn rfl|exact .mp rfl|exact .frzOf (by first|(simp; done)|decide) rfl rfl (fun _ => rfl))) <;> fail) rfl rfl rfl (by first|rfl|(simp only [List.all_cons, List.all_nil, rowOf_flatB]; rfl)) rfl (by first|rfl|(simp only [wfRes, wfL, wfArgs, wfs, mpO_namesB, mpO_namesI]; rfl)) rfl rfl rfl (by (simp only [newW, List.map_cons, List.map_nil, Blk.ren, C.ren, rowOf_ren, mpO_renB, mpO_renI, gW, memN, nmL, Nat.reduceBEq, Bool.or_false, Bool.or_true, Bool.false_or, Bool.true_or, cond_true, cond_false, Nat.reduceMul, Nat.reduceAdd]) <;> rfl) (by (simp only [AV.ren, AV.ren0, List.map_cons, List.map_nil, C.ren, gW, memN, nmL, Nat.reduceBEq, Bool.or_false, Bool.or_true, Bool.false_or, Bool.true_or, cond_true, cond_false, Nat.reduceMul, Nat.reduceAdd]) <;> rfl) rfl ?_|refine vr_callW (nmL [(101, 1)]) [] [100, 101] (ho) (gk rfl) rfl rfl (by (repeat' (first|exact .nil|refine .cons ?_ ?_|exact .w (.c (.ptr rfl)) rfl|exact .w (.c (.row rfl rfl)) rfl|exact .w (.c (.mp rfl)) rfl|exact .w (.c (.fn rfl)) rfl|exact .w (.rp rfl) rfl|(refine .w (.fncC ?_) rfl; repeat' (first|exact .nil|refine .cons ?_ ?_|exact .d|exact .ptr rfl|exact .row rfl rfl|(refine .row rfl ?_; ((try dsimp only); first|rfl|omega|(simp only [lns] <;> omega)); done)|exact .fn rfl|exact .mp rfl|exact .frzOf (by first|(simp; done)|decide) rfl rfl (fun _ => rfl)))|exact .r (.of0 (.c .d))|refine .r ?_|exact .of0 (.c .d)|exact .of0 .ep|exact .clo|exact .of0 (.c .nil)|exact .of0 (.c (cr_rowO (by simp) rfl (by first|rfl|omega) (fun _ => rfl)))|refine .of0 (.agg ?_)|exact .d|exact .nil|exact .of0 (.c (cr_row (by decide) rfl rfl (by repeat' (first|exact trivial|refine ⟨?_, ?_⟩|rfl)))))) <;> fail) (by (repeat' (first|exact trivial|refine ⟨⟨_, rfl, ?_⟩, ?_⟩|exact .boxD rfl rfl|exact .rowD rfl rowOf_isD|exact .mapO (fun _ => rfl) rfl|exact .pin rfl|refine .box ?_|exact .nil|refine .cons ?_ ?_|exact .d|exact .ptr rfl|exact .row rfl rfl|(refine .row rfl ?_; ((try dsimp only); first|rfl|omega|(simp only [lns] <;> omega)); done)|exact .fn rfl|exact .mp rfl|exact .frzOf (by first|(simp; done)|decide) rfl rfl (fun _ => rfl))) <;> fail) rfl rfl rfl (by first|rfl|(simp only [List.all_cons, List.all_nil, rowOf_flatB]; rfl)) rfl (by first|rfl|(simp only [wfRes, wfL, wfArgs, wfs, mpO_namesB, mpO_namesI]; rfl)) rfl rfl rfl (by (simp only [newW, List.map_cons, List.map_nil, Blk.ren, C.ren, rowOf_ren, mpO_renB, mpO_renI, gW, memN, nmL, Nat.reduceBEq, Bool.or_false, Bool.or_true, Bool.false_or, Bool.true_or, cond_true, cond_false, Nat.reduceMul, Nat.reduceAdd]) <;> rfl) (by (simp only [AV.ren, AV.ren0, List.map_cons, List.map_nil, C.ren, gW, memN, nmL, Nat.reduceBEq, Bool.or_false, Bool.or_true, Bool.false_or, Bool.true_or, cond_true, cond_false, Nat.reduceMul, Nat.reduceAdd]) <;> rfl) rfl ?_)|(refine gN ?_; first|refine vr_nilCheck_ptr (gk rfl) rfl rfl ?_)|refine x_gknow rfl (by assumption) ?_)|(refine gO ?_; first|refine vr_nil ?_)|(refine gT ?_; first|refine q_then_n ?_)|refine vc_seq ?_|refine vc_region ?_|(show VC _ (.cond _ _ _) _ _; first|refine vc_cond_f rfl ?_)|refine vc_ret ?_|refine vc_skip ?_)
  refine retL_of (le_gen0 (l := [(2, AI 0)]) (b := [(9100, .pin 100 (r 100)), (100, .box [.d (.str s), .d (.int .i64 a), .d (.int .i64 0)])]) (fun n => n) ?_ ?_ rfl (by first|rfl|(simp only [wfL, wfs, mpO_namesB, mpO_namesI]; rfl))) (retW isRet_r (.tmp rfl rfl .nil) rfl (by repeat' (first|exact trivial|refine ⟨rfl, ?_⟩)))
  all_goals repeat' (first|exact trivial|refine ⟨⟨_, rfl, ?_⟩, ?_⟩|exact .c .d|exact .boxD rfl rfl|exact .pin rfl)
end Go.Proofs
end
