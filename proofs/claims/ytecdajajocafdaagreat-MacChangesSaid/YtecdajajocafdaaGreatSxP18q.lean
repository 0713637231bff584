/-
  What functions of the given program hand back, by walks over its code, and plain laws on that. No condition.
-/
import Derived.Test.YtecdajajocafdaaGreatSxP18p
-- SXS
-- SXM
-- SXN
namespace Go.Proofs
open Go Go.Sx Go.Proofs.T Go.Proofs.Q
set_option maxRecDepth 4000
set_option linter.unusedSimpArgs false
set_option linter.unusedVariables false
attribute [local irreducible] VR VC thenQ blockQ retL
structure Pl where
  a : Ac
  c : TC
  p : Pk
  some : Bool
def Pl.cs (x : Pl) : List C := [.d (.int .i64 x.a.kind), .d (.int .i64 x.a.offset), .d (.int .i64 x.a.fkind), .d (.int .i64 x.a.source), .d (.int .i64 x.a.target), .d (.int .i64 x.a.list), .d (.int .i64 x.a.seq), .d (.int .i64 x.a.flow), .d (.int .i64 x.a.number), .d (.int .i64 x.a.err), .d (.int .i64 x.a.slot), .d (.int .i64 x.a.rank), .d (.int .i64 x.a.epoch), .d (.str x.a.data),
  .d (.int .i64 x.c.slot), .d (.int .i64 x.c.offset), .d (.int .i64 x.c.kind), .d (.bool x.c.send), .d (.int .i64 x.c.peer), .d (.int .i64 x.c.flow),
  .d (.int .i64 x.p.id), .d (.int .i64 x.p.to), .d (.int .i64 x.p.prio), .d (.int .i64 x.p.born), .d (.int .i64 x.p.life), .d (.str x.p.data), .d (.bool x.some)]
abbrev plA (x : Pl) : AV := .agg x.cs
def zPl : Pl := ⟨zAc, noC, noP, false⟩
def planP (s : Sta) (c : TC) : Pk × Bool := if c.kind = 2 ∧ c.send = true then (if (firstQ s.qu c.peer).2 = true then ((firstQ s.qu c.peer).1, true) else (noP, false)) else if c.kind = 3 then (pkOf s (candI s), (candI s).isSome) else (noP, false)
def planM (s : Sta) (slot : Int) (c : TC) (ok : Bool) : Pl := if ok = false then zPl else ⟨actM s slot c, c, (planP s c).1, (planP s c).2⟩
def kindP (c : TC) : Prop := c.kind = 1 ∨ c.kind = 2 ∨ c.kind = 3
theorem at_mem {t : Tb} {slot : Int} (h : (atM t slot).2 = true) : checkT t = 0 ∧ ∃ i, i < t.cells.length ∧ (atM t slot).1 = t.cells.getD i default := by
  unfold atM at h ⊢
  split at h
  · cases h
  · rename_i hc
    rw [if_neg hc]
    have hc : checkT t = 0 := by omega
    cases hf : fstO t.cells (fun c => decide (c.slot = slot % t.len)) with
    | none => rw [hf] at h; cases h
    | some i =>
      obtain ⟨hi, _, _⟩ := fstO_some hf
      exact ⟨hc, i, hi, rfl⟩
theorem at_form {t : Tb} {slot : Int} (h : (atM t slot).2 = true) : formE (atM t slot).1 t.node t.len = 0 := by
  obtain ⟨hc, i, hi, e⟩ := at_mem h
  rw [e]
  exact (checkT_ok hc i hi).1
theorem form_kind {c : TC} {a b : Int} (h : formE c a b = 0) : kindP c := by
  unfold formE at h
  split at h
  · cases h
  · unfold kindP; omega
theorem at_none {t : Tb} {slot : Int} (h : (atM t slot).2 = false) : (atM t slot).1 = noC := by
  unfold atM at h ⊢
  split
  · rfl
  · rename_i hc
    rw [if_neg hc] at h
    cases hf : fstO t.cells (fun c => decide (c.slot = slot % t.len)) with
    | none => rfl
    | some i => rw [hf] at h; cases h
theorem actM_noC (s : Sta) (slot : Int) : actM s slot noC = zAc := by
  rw [actM, rawA, if_neg (by decide), if_neg (by decide), if_neg (by decide)]
  exact offA_pos rfl
set_option maxHeartbeats 4000000 in
theorem r_planned_spec (s : Sta) (slot : Int) (hck : checkS s = 0) : FnS Tryz.prog 53 [stA s, AI slot] [] (plA (planM s slot (atM s.tb slot).1 (atM s.tb slot).2)) [] := by
  have hat := r_at_spec s.tb slot
  have hfm := @at_form s.tb slot
  refine FnS.of_body (enters_of Tryz.func53 (by kernel_rfl) rfl) Tryz.func53 rfl Tryz.ntmps53 Tryz.results53 rfl rfl rfl rfl fun E hS => ?_
  generalize hac : atM s.tb slot = ac at hat hfm ⊢
  obtain ⟨c, ok⟩ := ac
  dsimp only at hat hfm ⊢
  cases ok with
  | false =>
    have e : planM s slot c false = zPl := if_pos rfl
    rw [e]
    repeat' (first
      | (show VR _ _ _ (_ :: _) _ _ _; first | refine x_opF rfl (by first | exact True.intro | omega) ?_ | (show VR _ _ _ (⟨_, .call ⟨.value _, _, _⟩, _, _, _, _⟩ :: _) _ _ _; first | refine vr_calldU (hat) (gk rfl) rfl rfl rfl (by first | rfl | (simp only [wfRes, wfL, wfArgs, wfs, mpO_namesB, mpO_namesI]; rfl)) rfl (by first | exact newB_nil | exact newB_O | ((simp only [newB, List.map_cons, List.map_nil, Blk.shift, rowOf_shift]) <;> rfl) | rfl) rfl ?_))
      | (show VR _ _ _ [] _ _ _; first | refine vr_nil ?_)
      | (show thenQ _ _ _ _; first | refine q_then_n ?_ | refine q_then_r ?_)
      | refine vc_seq ?_
      | refine vc_region ?_
      | (show VC _ (.cond _ _ _) _ _; first | refine vc_cond_t rfl ?_)
      | refine vc_ret ?_
      | fail)
    exact ret_aggL isRet_r rfl rfl rfl rfl rfl
  | true =>
    have hkd := form_kind (hfm rfl)
    have e0 : planM s slot c true = ⟨actM s slot c, c, (planP s c).1, (planP s c).2⟩ := if_neg (by simp)
    rw [e0]
    clear hac hfm e0
    obtain ⟨sl, of, kd, snd, pe, fl⟩ := c
    unfold kindP at hkd
    dsimp only at hkd
    rcases hkd with rfl | rfl | rfl
    · have hix := r_index_spec s fl
      cases snd with
      | false =>
        have e : actM s slot ⟨sl, of, 1, false, pe, fl⟩ = { lisA with offset := of } := rfl
        rw [e]
        repeat' (first
          | (show VR _ _ _ (_ :: _) _ _ _; first | refine x_opF rfl (by first | exact True.intro | omega) ?_ | (show VR _ _ _ (⟨_, .call ⟨.value _, _, _⟩, _, _, _, _⟩ :: _) _ _ _; first | refine vr_calldU (hat) (gk rfl) rfl rfl rfl (by first | rfl | (simp only [wfRes, wfL, wfArgs, wfs, mpO_namesB, mpO_namesI]; rfl)) rfl (by first | exact newB_nil | exact newB_O | ((simp only [newB, List.map_cons, List.map_nil, Blk.shift, rowOf_shift]) <;> rfl) | rfl) rfl ?_))
          | (show VR _ _ _ [] _ _ _; first | refine vr_nil ?_)
          | (show thenQ _ _ _ _; first | refine q_then_n ?_)
          | (show blockQ _ _ _ _; first | refine q_blk_n ?_)
          | refine vc_seq ?_
          | refine vc_region ?_
          | (show VC _ (.cond _ _ _) _ _; first | refine vc_cond_f rfl ?_)
          | refine vc_ret ?_ | refine vc_block ?_ | refine vc_skip ?_
          | fail)
        exact ret_aggL isRet_r rfl rfl rfl rfl rfl
      | true =>
        cases hf : heldI s.held fl with
        | none =>
          have e : actM s slot ⟨sl, of, 1, true, pe, fl⟩ = zAc := by
            have : ctlA s slot ⟨sl, of, 1, true, pe, fl⟩ = zAc := by rw [ctlA, if_neg (by simp)]; dsimp only; rw [hf]
            rw [actM, rawA, if_pos rfl, this]; rfl
          rw [hf] at hix
          have hix' : FnS Tryz.prog 62 [stA s, AI fl] [] (AI (-1)) [] := hix
          rw [e]
          repeat' (first
            | (show VR _ _ _ (_ :: _) _ _ _; first | refine x_opF rfl (by first | exact True.intro | omega) ?_ | (show VR _ _ _ (⟨_, .call ⟨.value _, _, _⟩, _, _, _, _⟩ :: _) _ _ _; first | refine vr_calldU (hat) (gk rfl) rfl rfl rfl (by first | rfl | (simp only [wfRes, wfL, wfArgs, wfs, mpO_namesB, mpO_namesI]; rfl)) rfl (by first | exact newB_nil | exact newB_O | ((simp only [newB, List.map_cons, List.map_nil, Blk.shift, rowOf_shift]) <;> rfl) | rfl) rfl ?_ | refine vr_calldU (hix') (gk rfl) rfl rfl rfl (by first | rfl | (simp only [wfRes, wfL, wfArgs, wfs, mpO_namesB, mpO_namesI]; rfl)) rfl (by first | exact newB_nil | exact newB_O | ((simp only [newB, List.map_cons, List.map_nil, Blk.shift, rowOf_shift]) <;> rfl) | rfl) rfl ?_))
            | (show VR _ _ _ [] _ _ _; first | refine vr_nil ?_ | refine vr_nil_t (by kernel_rfl) ?_)
            | (show thenQ _ _ _ _; first | refine q_then_n ?_ | refine q_then_r ?_)
            | (show blockQ _ _ _ _; first | refine q_blk_r ?_)
            | refine vc_seq ?_
            | refine vc_region ?_ | refine vc_region_t ?_
            | (show VC _ (.cond _ _ _) _ _; first | refine vc_cond_t rfl ?_ | refine vc_cond_f rfl ?_)
            | refine vc_ret ?_ | refine vc_block ?_ | refine vc_skip ?_
            | fail)
          exact ret_aggL isRet_r rfl rfl rfl rfl rfl
        | some i =>
          obtain ⟨hi, _, _⟩ := fstO_some hf
          have hfr := rangesB_of ((heldB_of (checkS_of hck).2.2.2.1).2 i hi).1
          have e1 : ctlA s slot ⟨sl, of, 1, true, pe, fl⟩ = if (s.held.getD i default).til < slot ∨ ((s.held.getD i default).acked.any fun y => decide (pe = y)) = true then zAc else datA s ⟨sl, of, 1, true, pe, fl⟩ (s.held.getD i default) := by rw [ctlA, if_neg (by simp)]; dsimp only; rw [hf]
          have e2 : actM s slot ⟨sl, of, 1, true, pe, fl⟩ = offA (ctlA s slot ⟨sl, of, 1, true, pe, fl⟩) of := by rw [actM, rawA, if_pos rfl]
          rw [hf] at hix
          have hix' : FnS Tryz.prog 62 [stA s, AI fl] [] (AI (i : Nat)) [] := hix
          rw [e2, e1]
          repeat' (first
            | (show VR _ _ _ (_ :: _) _ _ _; first | refine x_opF rfl (by first | exact True.intro | omega) ?_ | (show VR _ _ _ (⟨_, .call ⟨.value _, _, _⟩, _, _, _, _⟩ :: _) _ _ _; first | refine vr_calldU (hat) (gk rfl) rfl rfl rfl (by first | rfl | (simp only [wfRes, wfL, wfArgs, wfs, mpO_namesB, mpO_namesI]; rfl)) rfl (by first | exact newB_nil | exact newB_O | ((simp only [newB, List.map_cons, List.map_nil, Blk.shift, rowOf_shift]) <;> rfl) | rfl) rfl ?_ | refine vr_calldU (hix') (gk rfl) rfl rfl rfl (by first | rfl | (simp only [wfRes, wfL, wfArgs, wfs, mpO_namesB, mpO_namesI]; rfl)) rfl (by first | exact newB_nil | exact newB_O | ((simp only [newB, List.map_cons, List.map_nil, Blk.shift, rowOf_shift]) <;> rfl) | rfl) rfl ?_ | refine vr_calldU (r_has_spec (s.held.getD i default).acked pe) (gk rfl) rfl rfl rfl (by first | rfl | (simp only [wfRes, wfL, wfArgs, wfs, mpO_namesB, mpO_namesI]; rfl)) rfl (by first | exact newB_nil | exact newB_O | ((simp only [newB, List.map_cons, List.map_nil, Blk.shift, rowOf_shift]) <;> rfl) | rfl) rfl ?_) | (show VR _ _ _ (⟨_, .indexAddr _ _ _, _, _, _, _⟩ :: _) _ _ _; first | refine vr_index_rd (gk rfl) rfl rfl rfl rfl rfl (by omega) rfl ?_) | (refine x_gsplit rfl ?_ ?_ <;> intro h <;> have hq := h <;> (try simp only [hqs] at hq)))
            | (show VR _ _ _ [] _ _ _; first | refine vr_nil ?_ | refine vr_nil_t (by kernel_rfl) ?_)
            | (show thenQ _ _ _ _; first | refine q_then_n ?_ | refine q_then_r ?_)
            | (show blockQ _ _ _ _; first | refine q_blk_n ?_ | refine q_blk_r ?_)
            | refine vc_seq ?_
            | refine vc_region ?_ | refine vc_region_t ?_
            | (show VC _ (.cond _ _ _) _ _; first | refine vc_cond_t rfl ?_ | refine vc_cond_f rfl ?_ | (refine x_cond rfl ?_ ?_ <;> intro h <;> have hq := h <;> (try simp only [hqs] at hq)))
            | refine vc_ret ?_ | refine vc_block ?_ | refine vc_skip ?_
            | fail)
          all_goals first
            | (exfalso; omega)
            | skip
          · rw [if_pos (.inl hq)]
            exact ret_aggL isRet_r rfl rfl rfl rfl rfl
          · rw [if_pos (.inr h)]
            exact ret_aggL isRet_r rfl rfl rfl rfl rfl
          · rw [if_neg (by rintro (h1 | h1); omega; rw [h] at h1; cases h1)]
            exact ret_aggL isRet_r rfl rfl rfl rfl rfl
    · cases snd with
      | false =>
        have e : actM s slot ⟨sl, of, 2, false, pe, fl⟩ = { lisA with offset := of } := rfl
        rw [e]
        repeat' (first
          | (show VR _ _ _ (_ :: _) _ _ _; first | refine x_opF rfl (by first | exact True.intro | omega) ?_ | (show VR _ _ _ (⟨_, .call ⟨.value _, _, _⟩, _, _, _, _⟩ :: _) _ _ _; first | refine vr_calldU (hat) (gk rfl) rfl rfl rfl (by first | rfl | (simp only [wfRes, wfL, wfArgs, wfs, mpO_namesB, mpO_namesI]; rfl)) rfl (by first | exact newB_nil | exact newB_O | ((simp only [newB, List.map_cons, List.map_nil, Blk.shift, rowOf_shift]) <;> rfl) | rfl) rfl ?_))
          | (show VR _ _ _ [] _ _ _; first | refine vr_nil ?_)
          | (show thenQ _ _ _ _; first | refine q_then_n ?_)
          | (show blockQ _ _ _ _; first | refine q_blk_n ?_)
          | refine vc_seq ?_
          | refine vc_region ?_
          | (show VC _ (.cond _ _ _) _ _; first | refine vc_cond_f rfl ?_)
          | refine vc_ret ?_ | refine vc_block ?_ | refine vc_skip ?_
          | fail)
        exact ret_aggL isRet_r rfl rfl rfl rfl rfl
      | true =>
        have e2 : actM s slot ⟨sl, of, 2, true, pe, fl⟩ = offA (agrA s ⟨sl, of, 2, true, pe, fl⟩) of := by rw [actM, rawA, if_neg (by intro h; cases h), if_pos rfl]
        have e1 : agrA s ⟨sl, of, 2, true, pe, fl⟩ = if (firstQ s.qu pe).2 = true then msgA s (firstQ s.qu pe).1 else zAc := by rw [agrA, if_neg (by simp)]
        have e3 : planP s ⟨sl, of, 2, true, pe, fl⟩ = if (firstQ s.qu pe).2 = true then ((firstQ s.qu pe).1, true) else (noP, false) := by rw [planP, if_pos ⟨rfl, rfl⟩]
        rw [e2, e1, e3]
        repeat' (first
          | (show VR _ _ _ (_ :: _) _ _ _; first | refine x_opF rfl (by first | exact True.intro | omega) ?_ | (show VR _ _ _ (⟨_, .call ⟨.value _, _, _⟩, _, _, _, _⟩ :: _) _ _ _; first | refine vr_calldU (hat) (gk rfl) rfl rfl rfl (by first | rfl | (simp only [wfRes, wfL, wfArgs, wfs, mpO_namesB, mpO_namesI]; rfl)) rfl (by first | exact newB_nil | exact newB_O | ((simp only [newB, List.map_cons, List.map_nil, Blk.shift, rowOf_shift]) <;> rfl) | rfl) rfl ?_ | refine vr_calldU (r_First_spec s.qu pe) (gk rfl) rfl rfl rfl (by first | rfl | (simp only [wfRes, wfL, wfArgs, wfs, mpO_namesB, mpO_namesI]; rfl)) rfl (by first | exact newB_nil | exact newB_O | ((simp only [newB, List.map_cons, List.map_nil, Blk.shift, rowOf_shift]) <;> rfl) | rfl) rfl ?_ | refine vr_calldU (r_message_spec s (firstQ s.qu pe).1) (gk rfl) rfl rfl rfl (by first | rfl | (simp only [wfRes, wfL, wfArgs, wfs, mpO_namesB, mpO_namesI]; rfl)) rfl (by first | exact newB_nil | exact newB_O | ((simp only [newB, List.map_cons, List.map_nil, Blk.shift, rowOf_shift]) <;> rfl) | rfl) rfl ?_))
          | (show VR _ _ _ [] _ _ _; first | refine vr_nil ?_)
          | (show thenQ _ _ _ _; first | refine q_then_n ?_ | refine q_then_r ?_)
          | (show blockQ _ _ _ _; first | refine q_blk_n ?_ | refine q_blk_r ?_)
          | refine vc_seq ?_
          | refine vc_region ?_
          | (show VC _ (.cond _ _ _) _ _; first | refine vc_cond_t rfl ?_ | refine vc_cond_f rfl ?_ | (refine x_cond rfl ?_ ?_ <;> intro h <;> have hq := h <;> (try simp only [hqs] at hq)))
          | refine vc_ret ?_ | refine vc_block ?_ | refine vc_skip ?_
          | fail)
        · have h' : (firstQ s.qu pe).2 = false := by simpa using h
          rw [if_neg (by rw [h']; simp), if_neg (by rw [h']; simp)]
          exact ret_aggL isRet_r rfl rfl rfl rfl rfl
        · have h' : (firstQ s.qu pe).2 = true := by simpa using h
          rw [if_pos h', if_pos h']
          exact ret_aggL isRet_r rfl rfl rfl rfl rfl
    · have e2 : actM s slot ⟨sl, of, 3, snd, pe, fl⟩ = offA (shrA s) of := by rw [actM, rawA, if_neg (by intro h; cases h), if_neg (by intro h; cases h), if_pos rfl]
      have e3 : planP s ⟨sl, of, 3, snd, pe, fl⟩ = (pkOf s (candI s), (candI s).isSome) := by rw [planP, if_neg (by rintro ⟨h, _⟩; cases h), if_pos rfl]
      rw [e2, e3]
      repeat' (first
        | (show VR _ _ _ (_ :: _) _ _ _; first | refine x_opF rfl (by first | exact True.intro | omega) ?_ | (show VR _ _ _ (⟨_, .call ⟨.value _, _, _⟩, _, _, _, _⟩ :: _) _ _ _; first | refine vr_calldU (hat) (gk rfl) rfl rfl rfl (by first | rfl | (simp only [wfRes, wfL, wfArgs, wfs, mpO_namesB, mpO_namesI]; rfl)) rfl (by first | exact newB_nil | exact newB_O | ((simp only [newB, List.map_cons, List.map_nil, Blk.shift, rowOf_shift]) <;> rfl) | rfl) rfl ?_ | refine vr_calldU (r_candidate_spec s) (gk rfl) rfl rfl rfl (by first | rfl | (simp only [wfRes, wfL, wfArgs, wfs, mpO_namesB, mpO_namesI]; rfl)) rfl (by first | exact newB_nil | exact newB_O | ((simp only [newB, List.map_cons, List.map_nil, Blk.shift, rowOf_shift]) <;> rfl) | rfl) rfl ?_ | refine vr_calldU (r_message_spec s (pkOf s (candI s))) (gk rfl) rfl rfl rfl (by first | rfl | (simp only [wfRes, wfL, wfArgs, wfs, mpO_namesB, mpO_namesI]; rfl)) rfl (by first | exact newB_nil | exact newB_O | ((simp only [newB, List.map_cons, List.map_nil, Blk.shift, rowOf_shift]) <;> rfl) | rfl) rfl ?_) | (refine x_gsplit rfl ?_ ?_ <;> intro h <;> have hq := h <;> (try simp only [hqs] at hq)))
        | (show VR _ _ _ [] _ _ _; first | refine vr_nil ?_)
        | (show thenQ _ _ _ _; first | refine q_then_n ?_)
        | (show blockQ _ _ _ _; first | refine q_blk_n ?_)
        | refine vc_seq ?_
        | refine vc_region ?_
        | (show VC _ (.cond _ _ _) _ _; first | refine vc_cond_t rfl ?_ | refine vc_cond_f rfl ?_ | (refine x_cond rfl ?_ ?_ <;> intro h <;> have hq := h <;> (try simp only [hqs] at hq)))
        | refine vc_ret ?_ | refine vc_block ?_ | refine vc_skip ?_
        | fail)
      · rw [shrA, if_pos ⟨by assumption, by omega⟩]
        exact ret_aggL isRet_r rfl rfl rfl rfl rfl
      · rw [shrA, if_neg (by rintro ⟨h1, h2⟩; omega)]
        exact ret_aggL isRet_r rfl rfl rfl rfl rfl
      · rw [shrA, if_neg (by rintro ⟨h1, h2⟩; simp_all)]
        exact ret_aggL isRet_r rfl rfl rfl rfl rfl
end Go.Proofs
