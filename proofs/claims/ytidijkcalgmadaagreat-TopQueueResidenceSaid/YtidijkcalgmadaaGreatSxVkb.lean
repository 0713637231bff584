/-
  What functions of the given program hand back, by walks over its code, and plain laws on that. No condition.
-/
import Derived.Test.YtidijkcalgmadaaGreatSxVka
-- SXS
-- SXM
-- SXN
-- SXNX heldX_shift
-- SXWF heldX_names hi
namespace Go.Proofs
open Go Go.Sx Go.Proofs.T Go.Proofs.Q
set_option maxRecDepth 4000
set_option linter.unusedSimpArgs false
set_option linter.unusedVariables false
attribute [local irreducible] VR VC thenQ blockQ retL

/-! The clone of a station, in which the inner list of one held frame is still to be written. -/
def cellX (h : Hd) (c : C) : List C := putC ((Hd.enc h).map C.d) 4 [c]
def heldX (l : List Hd) (i nm : Nat) : List (List C) := (rowOf Hd.enc l).set i (cellX (l.getD i default) (.row nm (l.getD i default).acked.length))
theorem heldX_len {l : List Hd} {i nm : Nat} : (heldX l i nm).length = l.length := by simp [heldX, rowOf_length]
theorem heldX_shift {l : List Hd} {i nm k : Nat} : (heldX l i nm).map (fun cs => cs.map (C.shift k)) = heldX l i (k + nm) := by
  unfold heldX
  rw [List.map_set, rowOf_shift]
  rfl
theorem heldX_names {l : List Hd} {i nm T : Nat} (hi : i < l.length) : (Blk.row T 5 (heldX l i nm)).names = [nm] := by
  have h1 : ∀ m : List Hd, (rowOf Hd.enc m).flatMap (fun cs => cs.flatMap C.names) = [] := fun m => rowOf_blk (T := T) (sz := 5) (enc := Hd.enc) (l := m)
  show (heldX l i nm).flatMap (fun cs => cs.flatMap C.names) = [nm]
  unfold heldX
  rw [List.set_eq_take_append_cons_drop, if_pos (by rw [rowOf_length]; exact hi), List.flatMap_append, List.flatMap_cons, rowOf_take, rowOf_drop, h1, h1]
  rfl
theorem heldX_get {l : List Hd} {i nm k : Nat} (hk : k < l.length) (hik : k ≠ i) : (heldX l i nm)[k]? = some ((Hd.enc (l.getD k default)).map C.d) := by
  unfold heldX
  rw [List.getElem?_set_ne (fun e => hik e.symm), rowOf_get hk]
theorem heldX_at {l : List Hd} {i nm : Nat} (hi : i < l.length) : (heldX l i nm)[i]? = some (cellX (l.getD i default) (.row nm (l.getD i default).acked.length)) := by
  unfold heldX
  exact set_get (rowOf_get hi)
theorem bw_cells {σ : St} {f : Nat → Nat} {L : List Nat} {T : Nat} {xs ys : List (List C)} (hl : xs.length = ys.length) (h : ∀ i, i < ys.length → ∀ a b, xs[i]? = some a → ys[i]? = some b → All2 (CW σ f L) a b) : BW σ f L (.row T 5 xs) (.row T 5 ys) := by
  refine .row (All2.of_get hl fun i a b ha hb => h i ?_ a b ha hb)
  exact (List.getElem?_eq_some_iff.1 hb).1
theorem enc_refl {σ : St} {f : Nat → Nat} {L : List Nat} (x : Hd) : All2 (CW σ f L) ((Hd.enc x).map C.d) ((Hd.enc x).map C.d) := CWs.refl (by simp [Hd.enc, C.isD])
/-- The copy at i comes to stand in its cell. -/
theorem bw_in {σ : St} {f : Nat → Nat} {L : List Nat} {T i nm nm' : Nat} {l : List Hd} (hi : i < l.length) (hf : f nm' = nm) :
    BW σ f L (.row T 5 ((rowOf Hd.enc l).set i (putC ((Hd.enc (l.getD i default)).map C.d) 4 [.row nm (l.getD i default).acked.length]))) (.row T 5 (heldX l i nm')) := by
  refine bw_cells (by simp [heldX]) fun k hk a b ha hb => ?_
  rw [heldX_len] at hk
  by_cases hik : k = i
  · subst hik
    rw [set_get (rowOf_get hi)] at ha
    rw [heldX_at hi] at hb
    injection ha with ha; subst ha
    injection hb with hb; subst hb
    exact .cons .d (.cons .d (.cons .d (.cons .d (.cons (.row hf rfl) .nil))))
  · rw [List.getElem?_set_ne (fun e => hik e.symm), rowOf_get hk] at ha
    rw [heldX_get hk hik] at hb
    injection ha with ha; subst ha
    injection hb with hb; subst hb
    exact enc_refl _
/-- A later copy, frozen. -/
theorem bw_next {σ : St} {f : Nat → Nat} {L : List Nat} {T i k nm nm' : Nat} {l : List Hd} {c : C} (hi : i < l.length) (hk : k < l.length) (hik : k ≠ i) (hf : f nm' = nm) (hc : CW σ f L c (.d (ints (l.getD k default).acked))) :
    BW σ f L (.row T 5 ((heldX l i nm).set k (putC ((Hd.enc (l.getD k default)).map C.d) 4 [c]))) (.row T 5 (heldX l i nm')) := by
  refine bw_cells (by simp [heldX]) fun j hj a b ha hb => ?_
  rw [heldX_len] at hj
  by_cases hjk : j = k
  · subst hjk
    rw [set_get (heldX_get hk hik)] at ha
    rw [heldX_get hk hik] at hb
    injection ha with ha; subst ha
    injection hb with hb; subst hb
    exact .cons .d (.cons .d (.cons .d (.cons .d (.cons hc .nil))))
  · rw [List.getElem?_set_ne (fun e => hjk e.symm)] at ha
    by_cases hji : j = i
    · subst hji
      rw [heldX_at hi] at ha hb
      injection ha with ha; subst ha
      injection hb with hb; subst hb
      exact .cons .d (.cons .d (.cons .d (.cons .d (.cons (.row hf rfl) .nil))))
    · rw [heldX_get hj hji] at ha hb
      injection ha with ha; subst ha
      injection hb with hb; subst hb
      exact enc_refl _
theorem bw_X {σ : St} {f : Nat → Nat} {L : List Nat} {T i nm nm' : Nat} {l : List Hd} (hi : i < l.length) (hf : f nm' = nm) : BW σ f L (.row T 5 (heldX l i nm)) (.row T 5 (heldX l i nm')) := by
  refine bw_cells (by simp [heldX]) fun j hj a b ha hb => ?_
  rw [heldX_len] at hj
  by_cases hji : j = i
  · subst hji
    rw [heldX_at hi] at ha hb
    injection ha with ha; subst ha
    injection hb with hb; subst hb
    exact .cons .d (.cons .d (.cons .d (.cons .d (.cons (.row hf rfl) .nil))))
  · rw [heldX_get hj hji] at ha hb
    injection ha with ha; subst ha
    injection hb with hb; subst hb
    exact enc_refl _
/-- All of it is read. -/
theorem cr_heldX {σ : St} {L : List Nat} {nm nm3 n T T3 i : Nat} {l : List Hd} (hi : i < l.length) (hL : nm ∈ L) (hb : σ (.b nm) = some (.k (.row T 5 (heldX l i nm3)))) (hL3 : nm3 ∈ L) (hb3 : σ (.b nm3) = some (.k (.row T3 1 (rowOf IntE.enc (l.getD i default).acked)))) (hn : n = l.length) :
    CR σ L (.row nm n) (.d (hds l)) := by
  subst hn
  refine .rowR (cf := fun k j => if k = i then (cellX (l.getD i default) (.row nm3 (l.getD i default).acked.length)).getD j (.d .nils) else .d ((Hd.enc (l.getD k default)).getD j .nils)) hL hb (by rw [heldX_len]; exact Nat.le_refl _) (fun k x hk hx j hj => ?_) (fun k j hk hj => ?_)
  · have : j = 0 ∨ j = 1 ∨ j = 2 ∨ j = 3 ∨ j = 4 := by omega
    by_cases hki : k = i
    · subst hki
      rw [heldX_at hi] at hx
      injection hx with hx; subst hx
      rw [if_pos rfl]
      rcases this with rfl | rfl | rfl | rfl | rfl <;> rfl
    · rw [heldX_get hk hki] at hx
      injection hx with hx; subst hx
      rw [if_neg hki]
      rcases this with rfl | rfl | rfl | rfl | rfl <;> rfl
  · have : j = 0 ∨ j = 1 ∨ j = 2 ∨ j = 3 ∨ j = 4 := by omega
    by_cases hki : k = i
    · subst hki
      rw [if_pos rfl]
      rcases this with rfl | rfl | rfl | rfl | rfl
      · exact .d
      · exact .d
      · exact .d
      · exact .d
      · exact cr_rowO hL3 hb3 rfl fun _ => rfl
    · rw [if_neg hki]
      exact .d
set_option maxHeartbeats 2000000 in
theorem clone_specO (s : Sta) (hck : checkS s = 0) (i : Nat) (hi : i < s.held.length) : FnS Tryz.prog 34 [stA s] [] (.agg (s.csR (.row 101 s.held.length) (.row 102 s.seen.length)))
    [(101, .row 114 5 (heldX s.held i 103)), (102, .row 186 2 (rowOf Sn.enc s.seen)), (103, .row 3 1 (rowOf IntE.enc (s.held.getD i default).acked))] := by
  obtain ⟨hT, hQ, _, hH, hSn, _, _⟩ := checkS_of hck
  have hTl := checkT_len hT
  have hQl := checkQ_len hQ
  have hHl := heldB_of hH
  have hSl := seenB_len hSn
  refine FnS.of_body (enters_of Tryz.func34 (by kernel_rfl) rfl) Tryz.func34 rfl Tryz.ntmps34 Tryz.results34 rfl rfl rfl rfl fun E hS => ?_
  refine vc_retL ?_
  repeat' (first
    | (show VR _ _ _ (_ :: _) _ _ _; first | refine x_opF rfl (by first | exact True.intro | omega) ?_ | (show VR _ _ _ (⟨_, .call ⟨.value _, _, _⟩, _, _, _, _⟩ :: _) _ _ _; first | refine vr_calldU (clone_TC s.tb.cells (by omega)) (gk rfl) rfl rfl rfl (by first | rfl | (simp only [wfRes, wfL, wfArgs, wfs, heldX_names hi, mpO_namesB, mpO_namesI]; rfl)) rfl (by first | exact newB_nil | exact newB_O | ((simp only [newB, List.map_cons, List.map_nil, Blk.shift, rowOf_shift, heldX_shift]) <;> rfl) | rfl) rfl ?_ | refine vr_calldU (clone_Pk s.qu.packets (by omega)) (gk rfl) rfl rfl rfl (by first | rfl | (simp only [wfRes, wfL, wfArgs, wfs, heldX_names hi, mpO_namesB, mpO_namesI]; rfl)) rfl (by first | exact newB_nil | exact newB_O | ((simp only [newB, List.map_cons, List.map_nil, Blk.shift, rowOf_shift, heldX_shift]) <;> rfl) | rfl) rfl ?_ | refine vr_calldU (clone_Hd s.held (by omega)) (gk rfl) rfl rfl rfl (by first | rfl | (simp only [wfRes, wfL, wfArgs, wfs, heldX_names hi, mpO_namesB, mpO_namesI]; rfl)) rfl (by first | exact newB_nil | exact newB_O | ((simp only [newB, List.map_cons, List.map_nil, Blk.shift, rowOf_shift, heldX_shift]) <;> rfl) | rfl) rfl ?_ | refine vr_calldU (clone_Sn s.seen (by omega)) (gk rfl) rfl rfl rfl (by first | rfl | (simp only [wfRes, wfL, wfArgs, wfs, heldX_names hi, mpO_namesB, mpO_namesI]; rfl)) rfl (by first | exact newB_nil | exact newB_O | ((simp only [newB, List.map_cons, List.map_nil, Blk.shift, rowOf_shift, heldX_shift]) <;> rfl) | rfl) rfl ?_) | (show VR _ _ _ (⟨_, .call ⟨.builtin .len, _, _⟩, _, _, _, _⟩ :: _) _ _ _; first | refine vr_len_row (gk rfl) rfl rfl (by first | rfl | exact rowOf_length.symm | (simp only [lns] <;> omega)) rfl rfl ?_))
    | (show VR _ _ _ [] _ _ _; first | refine vr_nil ?_ | refine vr_nil_t (by kernel_rfl) ?_)
    | (show thenQ _ _ _ _; first | refine q_then_n ?_)
    | refine vc_seq ?_
    | refine vc_region ?_ | refine vc_region_t ?_
    | refine vc_block ?_
    | fail)
  refine vc_loopI (ι := Nat) (fun k => if k ≤ i then stOf [(1, .c (.ptr 1 0)), (2, .c (.ptr 2 0)), (26, AI s.held.length), (27, AI k)] [(1, .box (s.csR (.row 101 s.held.length) (.row 102 s.seen.length))), (2, .box noS.cs), (101, .row 114 5 (rowOf Hd.enc s.held)), (102, .row 186 2 (rowOf Sn.enc s.seen))] else stOf [(1, .c (.ptr 1 0)), (2, .c (.ptr 2 0)), (26, AI s.held.length), (27, AI k)] [(1, .box (s.csR (.row 101 s.held.length) (.row 102 s.seen.length))), (2, .box noS.cs), (101, .row 114 5 (heldX s.held i 103)), (102, .row 186 2 (rowOf Sn.enc s.seen)), (103, .row 3 1 (rowOf IntE.enc (s.held.getD i default).acked))])
    (fun k => k ≤ s.held.length) (fun k => s.held.length - k) 0 (Nat.zero_le _) ?_ ?_
  · rw [if_pos (Nat.zero_le _)]
    refine le_gen (fun n => if n = 101 then 18007 else if n = 102 then 21007 else n) [7007, 11007] hS ?_ ?_ rfl (by first | rfl | (simp only [wfL, wfs, mpO_namesB, mpO_namesI, heldX_names hi]; rfl))
    all_goals repeat' (first | exact trivial | refine ⟨⟨_, rfl, ?_⟩, ?_⟩ | exact .c .d | exact .c (.ptr rfl) | exact .rowD rfl rowOf_isD | refine .box ?_ | exact .nil | refine .cons ?_ ?_ | exact .d | exact .row rfl rfl | exact .frzOf (by first | (simp; done) | decide) rfl rfl (fun _ => rfl) | fail)
  · intro k hk
    rcases Nat.lt_or_ge k s.held.length with hlt | hge
    · have dlt : decide ((k : Int) < (s.held.length : Int)) = true := decide_eq_true (by omega)
      have hal := risingB_len (rangesB_of (hHl.2 k hlt).1).2.2.2.2.2.2
      rcases Nat.lt_trichotomy k i with hki | hki | hki
      · rw [if_pos (by omega)]
        repeat' (first
          | (show VR _ _ _ (_ :: _) _ _ _; first | refine x_opF rfl (by first | exact True.intro | omega) ?_ | (show VR _ _ _ (⟨_, .call ⟨.value _, _, _⟩, _, _, _, _⟩ :: _) _ _ _; first | refine vr_calldU (clone_I (s.held.getD k default).acked (by omega)) (gk rfl) rfl rfl rfl (by first | rfl | (simp only [wfRes, wfL, wfArgs, wfs, heldX_names hi, mpO_namesB, mpO_namesI]; rfl)) rfl (by first | exact newB_nil | exact newB_O | ((simp only [newB, List.map_cons, List.map_nil, Blk.shift, rowOf_shift, heldX_shift]) <;> rfl) | rfl) rfl ?_) | (show VR _ _ _ (⟨_, .indexAddr _ _ _, _, _, _, _⟩ :: _) _ _ _; first | refine vr_index_rowO (gk rfl) rfl rfl rfl rfl rfl rfl (by omega) (by omega) rfl ?_) | (show VR _ _ _ (⟨_, .load _ _, _, _, _, _⟩ :: _) _ _ _; first | refine vr_load_rowO (gk rfl) rfl rfl (by omega) rfl rfl rfl ?_) | (show VR _ _ _ (⟨_, .store _ _ _, _, _, _, _⟩ :: _) _ _ _; first | refine vr_store_rowO (gk rfl) rfl rfl rfl (by omega) rfl rfl rfl ?_))
          | (show VR _ _ _ [] _ _ _; first | refine vr_nil ?_ | refine vr_nil_t (by kernel_rfl) ?_)
          | (show thenQ _ _ _ _; first | refine q_then_n ?_)
          | (show blockQ _ _ _ _; first | refine q_blk_n ?_)
          | refine vc_seq ?_
          | refine vc_region ?_ | refine vc_region_t ?_
          | (show VC _ (.cond _ _ _) _ _; first | refine vc_cond_t rfl ?_ | refine x_know rfl (by assumption) ?_)
          | refine vc_block ?_ | refine vc_skip ?_
          | fail)
        refine ⟨k + 1, by omega, by omega, ?_⟩
        rw [if_pos (by omega)]
        refine le_gen (fun n => n) [39007] hS ?_ ?_ rfl (by first | rfl | (simp only [wfL, wfs, mpO_namesB, mpO_namesI, heldX_names hi]; rfl))
        all_goals repeat' (first | exact trivial | refine ⟨⟨_, rfl, ?_⟩, ?_⟩ | exact .c .d | exact .c (.ptr rfl) | exact .boxD rfl rfl | exact .rowD rfl rowOf_isD | refine .box ?_ | exact .nil | refine .cons ?_ ?_ | exact .d | exact .row rfl rfl | fail)
        exact bw_frz hlt (.frzOf (enc := IntE.enc) (by simp) rfl rfl (fun _ => rfl))
      · rw [if_pos (by omega)]
        repeat' (first
          | (show VR _ _ _ (_ :: _) _ _ _; first | refine x_opF rfl (by first | exact True.intro | omega) ?_ | (show VR _ _ _ (⟨_, .call ⟨.value _, _, _⟩, _, _, _, _⟩ :: _) _ _ _; first | refine vr_calldU (clone_I (s.held.getD k default).acked (by omega)) (gk rfl) rfl rfl rfl (by first | rfl | (simp only [wfRes, wfL, wfArgs, wfs, heldX_names hi, mpO_namesB, mpO_namesI]; rfl)) rfl (by first | exact newB_nil | exact newB_O | ((simp only [newB, List.map_cons, List.map_nil, Blk.shift, rowOf_shift, heldX_shift]) <;> rfl) | rfl) rfl ?_) | (show VR _ _ _ (⟨_, .indexAddr _ _ _, _, _, _, _⟩ :: _) _ _ _; first | refine vr_index_rowO (gk rfl) rfl rfl rfl rfl rfl rfl (by omega) (by omega) rfl ?_) | (show VR _ _ _ (⟨_, .load _ _, _, _, _, _⟩ :: _) _ _ _; first | refine vr_load_rowO (gk rfl) rfl rfl (by omega) rfl rfl rfl ?_) | (show VR _ _ _ (⟨_, .store _ _ _, _, _, _, _⟩ :: _) _ _ _; first | refine vr_store_rowO (gk rfl) rfl rfl rfl (by omega) rfl rfl rfl ?_))
          | (show VR _ _ _ [] _ _ _; first | refine vr_nil ?_ | refine vr_nil_t (by kernel_rfl) ?_)
          | (show thenQ _ _ _ _; first | refine q_then_n ?_)
          | (show blockQ _ _ _ _; first | refine q_blk_n ?_)
          | refine vc_seq ?_
          | refine vc_region ?_ | refine vc_region_t ?_
          | (show VC _ (.cond _ _ _) _ _; first | refine vc_cond_t rfl ?_ | refine x_know rfl (by assumption) ?_)
          | refine vc_block ?_ | refine vc_skip ?_
          | fail)
        refine ⟨k + 1, by omega, by omega, ?_⟩
        rw [if_neg (by omega)]
        subst hki
        refine le_gen0 (fun n => if n = 103 then 39007 else n) ?_ ?_ rfl (by first | rfl | (simp only [wfL, wfs, mpO_namesB, mpO_namesI, heldX_names hi]; rfl))
        all_goals repeat' (first | exact trivial | refine ⟨⟨_, rfl, ?_⟩, ?_⟩ | exact .c .d | exact .c (.ptr rfl) | exact .boxD rfl rfl | exact .rowD rfl rowOf_isD | refine .box ?_ | exact .nil | refine .cons ?_ ?_ | exact .d | exact .row rfl rfl | fail)
        exact bw_in hlt rfl
      · rw [if_neg (by omega)]
        have hne : k ≠ i := by omega
        repeat' (first
          | (show VR _ _ _ (_ :: _) _ _ _; first | (show VR _ _ _ (⟨_, .indexAddr _ _ _, _, _, _, _⟩ :: _) _ _ _; first | refine vr_index_row (gk rfl) rfl rfl rfl rfl rfl rfl (by omega) (heldX_len.symm ▸ hlt) rfl ?_) | (show VR _ _ _ (⟨_, .load _ _, _, _, _, _⟩ :: _) _ _ _; first | refine vr_load_row (gk rfl) rfl rfl (heldX_get hlt hne) rfl rfl rfl ?_) | (show VR _ _ _ (⟨_, .store _ _ _, _, _, _, _⟩ :: _) _ _ _; first | refine vr_store_row (gk rfl) rfl rfl rfl (heldX_get hlt hne) rfl rfl rfl ?_) | refine x_opF rfl (by first | exact True.intro | omega) ?_ | (show VR _ _ _ (⟨_, .call ⟨.value _, _, _⟩, _, _, _, _⟩ :: _) _ _ _; first | refine vr_calldU (clone_I (s.held.getD k default).acked (by omega)) (gk rfl) rfl rfl rfl (by first | rfl | (simp only [wfRes, wfL, wfArgs, wfs, heldX_names hi, mpO_namesB, mpO_namesI]; rfl)) rfl (by first | exact newB_nil | exact newB_O | ((simp only [newB, List.map_cons, List.map_nil, Blk.shift, rowOf_shift, heldX_shift]) <;> rfl) | rfl) rfl ?_))
          | (show VR _ _ _ [] _ _ _; first | refine vr_nil ?_ | refine vr_nil_t (by kernel_rfl) ?_)
          | (show thenQ _ _ _ _; first | refine q_then_n ?_)
          | (show blockQ _ _ _ _; first | refine q_blk_n ?_)
          | refine vc_seq ?_
          | refine vc_region ?_ | refine vc_region_t ?_
          | (show VC _ (.cond _ _ _) _ _; first | refine vc_cond_t rfl ?_ | refine x_know rfl (by assumption) ?_)
          | refine vc_block ?_ | refine vc_skip ?_
          | fail)
        refine ⟨k + 1, by omega, by omega, ?_⟩
        rw [if_neg (by omega)]
        refine le_gen (fun n => n) [39007] hS ?_ ?_ rfl (by first | rfl | (simp only [wfL, wfs, mpO_namesB, mpO_namesI, heldX_names hi]; rfl))
        all_goals repeat' (first | exact trivial | refine ⟨⟨_, rfl, ?_⟩, ?_⟩ | exact .c .d | exact .c (.ptr rfl) | exact .boxD rfl rfl | exact .rowD rfl rowOf_isD | refine .box ?_ | exact .nil | refine .cons ?_ ?_ | exact .d | exact .row rfl rfl | fail)
        exact bw_next hi hlt hne rfl (.frzOf (enc := IntE.enc) (by simp) rfl rfl (fun _ => rfl))
    · have dlt : decide ((k : Int) < (s.held.length : Int)) = false := decide_eq_false (by omega)
      rw [if_neg (by omega)]
      repeat' (first
        | (show VR _ _ _ (_ :: _) _ _ _; first | refine x_opF rfl (by first | exact True.intro | omega) ?_)
        | (show VR _ _ _ [] _ _ _; first | refine vr_nil ?_)
        | (show thenQ _ _ _ _; first | refine q_then_n ?_ | refine q_then_x ?_)
        | (show blockQ _ _ _ _; first | refine q_blk_x ?_)
        | refine vc_seq ?_
        | refine vc_region ?_
        | (show VC _ (.cond _ _ _) _ _; first | refine vc_cond_f rfl ?_ | refine x_know rfl (by assumption) ?_)
        | refine vc_ret ?_ | refine vc_exit ?_
        | fail)
      refine retL_of (le_gen0 (l := [(2, .c (.ptr 2 0))]) (b := [(2, .box (s.csR (.row 101 s.held.length) (.row 102 s.seen.length))), (101, .row 114 5 (heldX s.held i 103)), (102, .row 186 2 (rowOf Sn.enc s.seen)), (103, .row 3 1 (rowOf IntE.enc (s.held.getD i default).acked))]) (fun n => n) ?_ ?_ rfl (by first | rfl | (simp only [wfL, wfs, mpO_namesB, mpO_namesI, heldX_names hi]; rfl))) (retW isRet_r (.agg rfl rfl rfl rfl .nil) rfl (by repeat' (first | exact trivial | refine ⟨rfl, ?_⟩)))
      all_goals repeat' (first | exact trivial | refine ⟨⟨_, rfl, ?_⟩, ?_⟩ | exact .c (.ptr rfl) | exact .rowD rfl rowOf_isD | refine .box ?_ | exact .nil | refine .cons ?_ ?_ | exact .d | exact .row rfl rfl | fail)
      exact bw_X hi rfl
end Go.Proofs


