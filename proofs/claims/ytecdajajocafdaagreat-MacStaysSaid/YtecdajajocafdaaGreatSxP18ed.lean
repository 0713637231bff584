/-
  What functions of the given program hand back, by walks over its code, and plain laws on that. No condition.
-/
import Derived.Test.YtecdajajocafdaaGreatSxP18ec
-- SXS
-- SXM
-- SXN
-- SXB
-- SXQ
namespace Go.Proofs
open Go Go.Sx Go.Proofs.T Go.Proofs.Q
set_option maxRecDepth 4000
set_option linter.unusedSimpArgs false
set_option linter.unusedVariables false
attribute [local irreducible] VR VC thenQ blockQ retL

/-- The bytes of the first k bits. -/
noncomputable def outK (l : List Int) : Nat → List Int
  | 0 => List.replicate ((l.length + 7) / 8) 0
  | k + 1 => (outK l k).set (k / 8) (bitF .or .u8 ((outK l k).getD (k / 8) default) (IntKind.u8.wrap (l.getD k default * 2 ^ (7 - (k : Int) % 8).toNat)))
theorem outK_len (l : List Int) : ∀ k, (outK l k).length = (l.length + 7) / 8
  | 0 => by rw [outK, List.length_replicate]
  | k + 1 => by rw [outK, List.length_set, outK_len l k]
set_option maxHeartbeats 2000000 in
theorem wbytes_spec (l : List Int) (hl : l.length ≤ 2000) : FnW Tryz.prog 71 [.c (.ptr 100 0)] [(100, .box [.row 101 l.length, .d (.int .i64 0)]), (101, .row 5 1 (rowOf enc8 l))] [100, 101] (.tup [AD (.str (mkS (outK l l.length))), AI 0]) [(100, .box [.row 101 l.length, .d (.int .i64 0)]), (101, .row 5 1 (rowOf enc8 l))] := by
  intro r
  simp only [pinsL, List.map_cons, List.map_nil, List.cons_append, List.nil_append, Nat.reduceAdd]
  refine FnS.of_bodyM (enters_of Tryz.func71 (by kernel_rfl) rfl) Tryz.func71 rfl Tryz.ntmps71 Tryz.results71 rfl (by first | rfl | (simp only [wfRes, wfL, wfArgs, wfs, mpO_namesB, mpO_namesI]; rfl)) rfl fun E => ?_
  refine vc_retL ?_
  repeat' (first
    | (show VR _ _ _ (_ :: _) _ _ _; first | refine x_opF rfl (by first | exact True.intro | omega) ?_ | (show VR _ _ _ (⟨_, .call ⟨.builtin .len, _, _⟩, _, _, _, _⟩ :: _) _ _ _; first | refine vr_len_row (gk rfl) rfl rfl (by first | rfl | exact rowOf_length.symm | (simp only [lns] <;> omega)) rfl rfl ?_) | (show VR _ _ _ (⟨_, .makeSlice _ _ _, _, _, _, _⟩ :: _) _ _ _; first | refine vr_make8 (gk rfl) rfl rfl rfl rfl rfl (by omega) rfl (by omega) rfl rfl ?_) | (show VR _ _ _ (⟨_, .nilCheck _, _, _, _, _⟩ :: _) _ _ _; first | refine vr_nilCheck_ptr (gk rfl) rfl rfl ?_))
    | (show VR _ _ _ [] _ _ _; first | refine vr_nil ?_)
    | (show thenQ _ _ _ _; first | refine q_then_n ?_)
    | refine vc_seq ?_
    | refine vc_region ?_
    | (show VC _ (.cond _ _ _) _ _; first | refine vc_cond_f rfl ?_)
    | refine vc_block ?_ | refine vc_skip ?_
    | fail)
  have e1 : (((l.length : Int) + 7) / 8).toNat = (l.length + 7) / 8 := by omega
  refine vc_loopI (ι := Nat) (fun k => stOf [(0, .c (.ptr 100 0)), (4, .c (.row 22 (outK l k).length)), (5, AI k)] [(9100, .pin 100 (r 100)), (9101, .pin 101 (r 101)), (100, .box [.row 101 l.length, .d (.int .i64 0)]), (101, .row 5 1 (rowOf enc8 l)), (22, .row 5 1 (rowOf enc8 (outK l k)))]) (fun k => k ≤ l.length) (fun k => l.length - k) 0 (Nat.zero_le _) ?_ ?_
  · rw [outK_len, ← e1, show outK l 0 = List.replicate (((l.length : Int) + 7) / 8).toNat 0 by rw [e1]; rfl]
    refine le_gen0 (fun n => n) ?_ ?_ rfl (by first | rfl | (simp only [wfL, wfs, mpO_namesB, mpO_namesI]; rfl))
    all_goals repeat' (first | exact trivial | refine ⟨⟨_, rfl, ?_⟩, ?_⟩ | exact .c .d | exact .c (.ptr rfl) | exact .c (.row rfl rfl) | exact .pin rfl | exact .rowD rfl rowOf_isD | refine .box ?_ | exact .nil | refine .cons ?_ ?_ | exact .d | exact .row rfl rfl | fail)
  · intro k hk
    have hol := outK_len l k
    have hol1 := outK_len l (k + 1)
    rcases Nat.lt_or_ge k l.length with hlt | hge
    · have dlt : decide ((k : Int) < (l.length : Int)) = true := decide_eq_true (by omega)
      repeat' (first
        | (show VR _ _ _ (_ :: _) _ _ _; first | (show VR _ _ _ (⟨_, .binOp .shl _ _ _ _, _, _, _, _⟩ :: _) _ _ _; first | refine vr_shlV (gk rfl) rfl rfl (by omega) (by first | decide | (show _ ≤ 8; omega) | (show _ ≤ 16; omega)) rfl rfl ?_) | refine x_opF rfl (by first | exact True.intro | omega) ?_ | (show VR _ _ _ (⟨_, .indexAddr _ _ _, _, _, _, _⟩ :: _) _ _ _; first | refine vr_index_rowO (gk rfl) rfl rfl rfl rfl rfl rfl (by omega) (by omega) rfl ?_ | refine vr_index_rowN (gk rfl) rfl rfl rfl rfl rfl (by omega) (by first | rfl | exact rowOf_length.symm | (simp only [lns] <;> omega)) rfl ?_) | (show VR _ _ _ (⟨_, .call ⟨.builtin .len, _, _⟩, _, _, _, _⟩ :: _) _ _ _; first | refine vr_len_row (gk rfl) rfl rfl (by first | rfl | exact rowOf_length.symm | (simp only [lns] <;> omega)) rfl rfl ?_) | (show VR _ _ _ (⟨_, .nilCheck _, _, _, _, _⟩ :: _) _ _ _; first | refine vr_nilCheck_ptr (gk rfl) rfl rfl ?_) | (show VR _ _ _ (⟨_, .load _ _, _, _, _, _⟩ :: _) _ _ _; first | refine vr_load_rowO (gk rfl) rfl rfl (by omega) rfl rfl rfl ?_) | (show VR _ _ _ (⟨_, .store _ _ _, _, _, _, _⟩ :: _) _ _ _; first | refine vr_store_rowO (gk rfl) rfl rfl rfl (by omega) rfl rfl rfl ?_) | (show VR _ _ _ (⟨_, .binOp _ _ _ _ _, _, _, _, _⟩ :: _) _ _ _; first | refine vr_bits (gk rfl) rfl rfl rfl rfl rfl ?_))
        | (show VR _ _ _ [] _ _ _; first | refine vr_nil ?_ | refine vr_nil_t (by kernel_rfl) ?_)
        | (show thenQ _ _ _ _; first | refine q_then_n ?_)
        | (show blockQ _ _ _ _; first | refine q_blk_n ?_)
        | refine vc_seq ?_
        | refine vc_region ?_ | refine vc_region_t ?_
        | (show VC _ (.cond _ _ _) _ _; first | refine vc_cond_t rfl ?_ | refine x_know rfl (by assumption) ?_)
        | refine vc_block ?_ | refine vc_skip ?_
        | fail)
      refine ⟨k + 1, by omega, by omega, ?_⟩
      refine le_gen0 (fun n => n) ?_ ?_ rfl (by first | rfl | (simp only [wfL, wfs, mpO_namesB, mpO_namesI]; rfl))
      all_goals repeat' (first | exact trivial | refine ⟨⟨_, rfl, ?_⟩, ?_⟩ | exact .c .d | exact .c (.ptr rfl) | (refine .c (.row rfl ?_); ((try dsimp only); first | rfl | omega | (simp only [lns] <;> omega)); done) | exact .pin rfl | exact .rowD rfl rowOf_isD | exact .rowD (rowOf_set rfl) rowOf_isD | refine .box ?_ | exact .nil | refine .cons ?_ ?_ | exact .d | exact .row rfl rfl | fail)
    · have dlt : decide ((k : Int) < (l.length : Int)) = false := decide_eq_false (by omega)
      have hk' : k = l.length := by omega
      subst hk'
      repeat' (first
        | (show VR _ _ _ (_ :: _) _ _ _; first | (show VR _ _ _ (⟨_, .convert _ _ _, _, _, _, _⟩ :: _) _ _ _; first | refine vr_convStr (gk rfl) rfl rfl (by first | rfl | exact rowOf_length.symm | (simp only [lns] <;> omega)) rfl rfl rfl rfl ?_) | refine x_opF rfl (by first | exact True.intro | omega) ?_ | (show VR _ _ _ (⟨_, .call ⟨.builtin .len, _, _⟩, _, _, _, _⟩ :: _) _ _ _; first | refine vr_len_row (gk rfl) rfl rfl (by first | rfl | exact rowOf_length.symm | (simp only [lns] <;> omega)) rfl rfl ?_) | (show VR _ _ _ (⟨_, .nilCheck _, _, _, _, _⟩ :: _) _ _ _; first | refine vr_nilCheck_ptr (gk rfl) rfl rfl ?_))
        | (show VR _ _ _ [] _ _ _; first | refine vr_nil ?_)
        | (show thenQ _ _ _ _; first | refine q_then_n ?_ | refine q_then_x ?_)
        | (show blockQ _ _ _ _; first | refine q_blk_x ?_)
        | refine vc_seq ?_
        | refine vc_region ?_
        | (show VC _ (.cond _ _ _) _ _; first | refine vc_cond_f rfl ?_ | refine x_know rfl (by assumption) ?_)
        | refine vc_ret ?_ | refine vc_exit ?_
        | fail)
      refine retL_of (le_gen0 (l := [(2, AD (.str (mkS (outK l l.length)))), (3, AI 0)]) (b := [(9100, .pin 100 (r 100)), (9101, .pin 101 (r 101)), (100, .box [.row 101 l.length, .d (.int .i64 0)]), (101, .row 5 1 (rowOf enc8 l))]) (fun n => n) ?_ ?_ rfl (by first | rfl | (simp only [wfL, wfs, mpO_namesB, mpO_namesI]; rfl))) (retW isRet_r (.tmp rfl rfl (.tmp rfl rfl .nil)) rfl (by repeat' (first | exact trivial | refine ⟨rfl, ?_⟩)))
      all_goals repeat' (first | exact trivial | refine ⟨⟨_, rfl, ?_⟩, ?_⟩ | exact .c .d | exact .pin rfl | exact .rowD rfl rowOf_isD | refine .box ?_ | exact .nil | refine .cons ?_ ?_ | exact .d | exact .row rfl rfl | fail)

/-! The checksum. -/
noncomputable def timesM (a : Int) : Int := if 32768 ≤ a then bitF .xor .u16 (IntKind.u16.wrap (a * 2 ^ (1 : Int).toNat)) 4129 else IntKind.u16.wrap (a * 2 ^ (1 : Int).toNat)
theorem times_spec (a : Int) : FnS Tryz.prog 176 [AD (.int .u16 a)] [] (AD (.int .u16 (timesM a))) [] := by
  refine FnS.of_body (enters_of Tryz.func176 (by kernel_rfl) rfl) Tryz.func176 rfl Tryz.ntmps176 Tryz.results176 rfl rfl rfl rfl fun E hS => ?_
  repeat' (first
    | (show VR _ _ _ (_ :: _) _ _ _; first | (show VR _ _ _ (⟨_, .binOp .shl _ _ _ _, _, _, _, _⟩ :: _) _ _ _; first | refine vr_shlV (gk rfl) rfl rfl (by omega) (by first | decide | (show _ ≤ 8; omega) | (show _ ≤ 16; omega)) rfl rfl ?_) | refine x_opF rfl (by first | exact True.intro | omega) ?_ | (show VR _ _ _ (⟨_, .binOp _ _ _ _ _, _, _, _, _⟩ :: _) _ _ _; first | refine vr_bits (gk rfl) rfl rfl rfl rfl rfl ?_))
    | (show VR _ _ _ [] _ _ _; first | refine vr_nil ?_)
    | (show thenQ _ _ _ _; first | refine q_then_n ?_ | refine q_then_r ?_)
    | refine vc_seq ?_
    | refine vc_region ?_
    | (show VC _ (.cond _ _ _) _ _; first | (refine x_cond rfl ?_ ?_ <;> intro h <;> have hq := h <;> (try simp only [hqs] at hq)))
    | refine vc_ret ?_ | refine vc_skip ?_
    | fail)
  · refine ret_d isRet_r rfl ?_
    rw [timesM, if_pos hq]
  · refine ret_d isRet_r rfl ?_
    rw [timesM, if_neg (by omega)]
noncomputable def timesK (a : Int) : Nat → Int
  | 0 => a
  | k + 1 => timesM (timesK a k)
noncomputable def updM (a : Int) (s : ByteArray) : Nat → Int
  | 0 => a
  | k + 1 => timesK (bitF .xor .u16 (updM a s k) (IntKind.u16.wrap (bAt s k * 2 ^ (8 : Int).toNat))) 8
set_option maxHeartbeats 1000000 in
theorem update_spec (a : Int) (s : ByteArray) (hs : s.size ≤ 1000) : FnS Tryz.prog 165 [AD (.int .u16 a), AD (.str s)] [] (AD (.int .u16 (updM a s s.size))) [] := by
  refine FnS.of_body (enters_of Tryz.func165 (by kernel_rfl) rfl) Tryz.func165 rfl Tryz.ntmps165 Tryz.results165 rfl rfl rfl rfl fun E hS => ?_
  repeat' (first
    | (show VR _ _ _ (_ :: _) _ _ _; first | refine x_opF rfl (by first | exact True.intro | omega) ?_)
    | (show VR _ _ _ [] _ _ _; first | refine vr_nil ?_)
    | (show thenQ _ _ _ _; first | refine q_then_n ?_)
    | refine vc_seq ?_
    | refine vc_region ?_
    | refine vc_block ?_
    | fail)
  refine vc_loopI (ι := Nat) (fun k => stOf [(0, AD (.int .u16 (updM a s k))), (1, AD (.str s)), (5, AI k)] []) (fun k => k ≤ s.size) (fun k => s.size - k) 0 (Nat.zero_le _) ?_ ?_
  · refine le_gen0 (fun n => n) ?_ ?_ rfl (by first | rfl | (simp only [wfL, wfs, mpO_namesB, mpO_namesI]; rfl))
    all_goals repeat' (first | exact trivial | refine ⟨⟨_, rfl, ?_⟩, ?_⟩ | exact .c .d | fail)
  · intro k hk
    rcases Nat.lt_or_ge k s.size with hlt | hge
    · have dlt : decide ((k : Int) < (s.size : Int)) = true := decide_eq_true (by omega)
      have hb := bAt_rng s k
      repeat' (first
        | (show VR _ _ _ (_ :: _) _ _ _; first | (show VR _ _ _ (⟨_, .binOp .shl _ _ _ _, _, _, _, _⟩ :: _) _ _ _; first | refine vr_shlV (gk rfl) rfl rfl (by omega) (by first | decide | (show _ ≤ 8; omega) | (show _ ≤ 16; omega)) rfl rfl ?_) | refine x_opF rfl (by first | exact True.intro | omega) ?_ | (show VR _ _ _ (⟨_, .index _ _ _, _, _, _, _⟩ :: _) _ _ _; first | refine vr_indexStr (gk rfl) rfl rfl rfl (by omega) (by omega) (by first | exact (Int.toNat_natCast _).symm | rfl) rfl ?_) | (show VR _ _ _ (⟨_, .convert _ _ _, _, _, _, _⟩ :: _) _ _ _; first | refine vr_convert_id (gk rfl) rfl ⟨_, rfl⟩ rfl (by first | exact wrap_i64 (by omega) | exact wrap_u64 (by omega) | exact wrap_u16 (by omega) | exact wrap_u8 (by omega) | exact wrap_u32 (by omega)) rfl ?_) | (show VR _ _ _ (⟨_, .binOp _ _ _ _ _, _, _, _, _⟩ :: _) _ _ _; first | refine vr_bits (gk rfl) rfl rfl rfl rfl rfl ?_))
        | (show VR _ _ _ [] _ _ _; first | refine vr_nil ?_)
        | (show thenQ _ _ _ _; first | refine q_then_n ?_)
        | refine vc_seq ?_
        | refine vc_region ?_
        | (show VC _ (.cond _ _ _) _ _; first | refine vc_cond_t rfl ?_ | refine x_know rfl (by assumption) ?_)
        | refine vc_block ?_ | refine vc_skip ?_
        | fail)
      refine vc_loopI (ι := Nat) (fun j => stOf [(0, AD (.int .u16 (timesK (bitF .xor .u16 (updM a s k) (IntKind.u16.wrap (bAt s k * 2 ^ (8 : Int).toNat))) j))), (1, AD (.str s)), (5, AI k), (6, AI j)] []) (fun j => j ≤ 8) (fun j => 8 - j) 0 (Nat.zero_le _) ?_ ?_
      · refine le_gen0 (fun n => n) ?_ ?_ rfl (by first | rfl | (simp only [wfL, wfs, mpO_namesB, mpO_namesI]; rfl))
        all_goals repeat' (first | exact trivial | refine ⟨⟨_, rfl, ?_⟩, ?_⟩ | exact .c .d | fail)
      · intro j hj
        rcases Nat.lt_or_ge j 8 with hlt2 | hge2
        · have dlt2 : decide ((j : Int) < 8) = true := decide_eq_true (by omega)
          repeat' (first
            | (show VR _ _ _ (_ :: _) _ _ _; first | refine x_opF rfl (by first | exact True.intro | omega) ?_ | (show VR _ _ _ (⟨_, .call ⟨.value _, _, _⟩, _, _, _, _⟩ :: _) _ _ _; first | refine vr_calldU (times_spec _) (gk rfl) rfl rfl rfl (by first | rfl | (simp only [wfRes, wfL, wfArgs, wfs, mpO_namesB, mpO_namesI]; rfl)) rfl (by first | exact newB_nil | exact newB_O | ((simp only [newB, List.map_cons, List.map_nil, Blk.shift, rowOf_shift]) <;> rfl) | rfl) rfl ?_))
            | (show VR _ _ _ [] _ _ _; first | refine vr_nil ?_)
            | (show thenQ _ _ _ _; first | refine q_then_n ?_)
            | (show blockQ _ _ _ _; first | refine q_blk_n ?_)
            | refine vc_seq ?_
            | refine vc_region ?_
            | (show VC _ (.cond _ _ _) _ _; first | refine vc_cond_t rfl ?_ | refine x_know rfl (by assumption) ?_)
            | refine vc_block ?_ | refine vc_skip ?_
            | fail)
          refine ⟨j + 1, by omega, by omega, ?_⟩
          refine le_gen0 (fun n => n) ?_ ?_ rfl (by first | rfl | (simp only [wfL, wfs, mpO_namesB, mpO_namesI]; rfl))
          all_goals repeat' (first | exact trivial | refine ⟨⟨_, rfl, ?_⟩, ?_⟩ | exact .c .d | fail)
        · have dlt2 : decide ((j : Int) < 8) = false := decide_eq_false (by omega)
          have hj' : j = 8 := by omega
          subst hj'
          repeat' (first
            | (show VR _ _ _ (_ :: _) _ _ _; first | refine x_opF rfl (by first | exact True.intro | omega) ?_)
            | (show VR _ _ _ [] _ _ _; first | refine vr_nil ?_)
            | (show thenQ _ _ _ _; first | refine q_then_n ?_ | refine q_then_x ?_)
            | (show blockQ _ _ _ _; first | refine q_blk_n ?_ | refine q_blk_x ?_)
            | refine vc_seq ?_
            | refine vc_region ?_
            | (show VC _ (.cond _ _ _) _ _; first | refine vc_cond_f rfl ?_)
            | refine vc_exit ?_
            | fail)
          refine ⟨k + 1, by omega, by omega, ?_⟩
          refine le_gen0 (fun n => n) ?_ ?_ rfl (by first | rfl | (simp only [wfL, wfs, mpO_namesB, mpO_namesI]; rfl))
          all_goals repeat' (first | exact trivial | refine ⟨⟨_, rfl, ?_⟩, ?_⟩ | exact .c .d | fail)
    · have dlt : decide ((k : Int) < (s.size : Int)) = false := decide_eq_false (by omega)
      have hk' : k = s.size := by omega
      subst hk'
      repeat' (first
        | (show VR _ _ _ (_ :: _) _ _ _; first | refine x_opF rfl (by first | exact True.intro | omega) ?_)
        | (show VR _ _ _ [] _ _ _; first | refine vr_nil ?_)
        | (show thenQ _ _ _ _; first | refine q_then_n ?_ | refine q_then_x ?_)
        | (show blockQ _ _ _ _; first | refine q_blk_x ?_)
        | refine vc_seq ?_
        | refine vc_region ?_
        | (show VC _ (.cond _ _ _) _ _; first | refine vc_cond_f rfl ?_ | refine x_know rfl (by assumption) ?_)
        | refine vc_ret ?_ | refine vc_exit ?_
        | fail)
      exact ret_d isRet_r rfl rfl
theorem sum_spec (s : ByteArray) (hs : s.size ≤ 1000) : FnS Tryz.prog 129 [AD (.str s)] [] (AD (.int .u16 (updM 0 s s.size))) [] := by
  refine FnS.of_body (enters_of Tryz.func129 (by kernel_rfl) rfl) Tryz.func129 rfl Tryz.ntmps129 Tryz.results129 rfl rfl rfl rfl fun E hS => ?_
  repeat' (first
    | (show VR _ _ _ (_ :: _) _ _ _; first | refine x_opF rfl (by first | exact True.intro | omega) ?_ | (show VR _ _ _ (⟨_, .call ⟨.value _, _, _⟩, _, _, _, _⟩ :: _) _ _ _; first | refine vr_calldU (update_spec 0 s hs) (gk rfl) rfl rfl rfl (by first | rfl | (simp only [wfRes, wfL, wfArgs, wfs, mpO_namesB, mpO_namesI]; rfl)) rfl (by first | exact newB_nil | exact newB_O | ((simp only [newB, List.map_cons, List.map_nil, Blk.shift, rowOf_shift]) <;> rfl) | rfl) rfl ?_))
    | (show VR _ _ _ [] _ _ _; first | refine vr_nil ?_)
    | (show thenQ _ _ _ _; first | refine q_then_n ?_)
    | refine vc_seq ?_
    | refine vc_region ?_
    | refine vc_ret ?_
    | fail)
  exact ret_d isRet_r rfl rfl
noncomputable def sumB (s : ByteArray) : List Int := [IntKind.u8.wrap (updM 0 s s.size / 2 ^ 8), IntKind.u8.wrap (updM 0 s s.size)]
noncomputable def protM (s : ByteArray) : ByteArray := s ++ mkS (sumB s)
theorem protM_size (s : ByteArray) : (protM s).size = s.size + 2 := by rw [protM, ByteArray.size_append, mkS_size]; rfl
set_option maxHeartbeats 1000000 in
theorem protect_spec (s : ByteArray) (hs : s.size ≤ 1000) : FnS Tryz.prog 72 [AD (.str s)] [] (AD (.str (protM s))) [] := by
  have h2 : (mkS (sumB s)).size = 2 := mkS_size _
  refine FnS.of_body (enters_of Tryz.func72 (by kernel_rfl) rfl) Tryz.func72 rfl Tryz.ntmps72 Tryz.results72 rfl rfl rfl rfl fun E hS => ?_
  repeat' (first
    | (show VR _ _ _ (_ :: _) _ _ _; first | (show VR _ _ _ (⟨_, .binOp .add _ _ _ _, _, _, _, _⟩ :: _) _ _ _; first | refine vr_addStr (gk rfl) rfl rfl (by omega) rfl ?_) | (show VR _ _ _ (⟨_, .convert _ _ _, _, _, _, _⟩ :: _) _ _ _; first | refine vr_convStr (L := sumB s) (gk rfl) rfl rfl (by first | rfl | exact rowOf_length.symm | (simp only [lns] <;> omega)) rfl rfl rfl rfl ?_) | refine x_opF rfl (by first | exact True.intro | omega) ?_ | (show VR _ _ _ (⟨_, .call ⟨.value _, _, _⟩, _, _, _, _⟩ :: _) _ _ _; first | refine vr_calldU (sum_spec s hs) (gk rfl) rfl rfl rfl (by first | rfl | (simp only [wfRes, wfL, wfArgs, wfs, mpO_namesB, mpO_namesI]; rfl)) rfl (by first | exact newB_nil | exact newB_O | ((simp only [newB, List.map_cons, List.map_nil, Blk.shift, rowOf_shift]) <;> rfl) | rfl) rfl ?_) | (show VR _ _ _ (⟨_, .convert _ _ _, _, _, _, _⟩ :: _) _ _ _; first | refine vr_convert (gk rfl) rfl ⟨_, rfl⟩ rfl rfl ?_) | (show VR _ _ _ (⟨_, .binOp _ _ _ _ _, _, _, _, _⟩ :: _) _ _ _; first | refine vr_shr (m := 8) (gk rfl) rfl rfl rfl (by decide) rfl ?_))
    | (show VR _ _ _ [] _ _ _; first | refine vr_nil ?_)
    | (show thenQ _ _ _ _; first | refine q_then_n ?_)
    | refine vc_seq ?_
    | refine vc_region ?_
    | refine vc_ret ?_
    | fail)
  exact ret_d isRet_r rfl rfl
end Go.Proofs


