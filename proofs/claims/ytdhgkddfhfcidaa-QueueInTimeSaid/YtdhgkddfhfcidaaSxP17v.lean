/-
  What functions of the given program hand back, by walks over its code, and plain laws on that. No condition.
-/
import Derived.Test.YtdhgkddfhfcidaaSxP17u
import Derived.Test.YtdhgkddfhfcidaaSxLibC
-- SXS
-- SXM
-- SXA
namespace Go.Proofs
open Go Go.Sx
set_option linter.unusedSimpArgs false
set_option linter.unusedVariables false
attribute [local irreducible] VR VC thenQ blockQ retL

structure LeftOk (d : List Dp) (k : Nat) (m : List (Int × Int)) : Prop where
  got : ∀ i, i < k → asc m (d.getD i default).id = some (d.getD i default).slot
  only : ∀ a s, asc m a = some s → ∃ i, i < k ∧ (d.getD i default).id = a
theorem LeftOk.nil {d : List Dp} : LeftOk d 0 [] := ⟨fun i hi => absurd hi (Nat.not_lt_zero _), fun a s h => by cases h⟩
theorem LeftOk.step {d : List Dp} {k : Nat} {m : List (Int × Int)} (h : LeftOk d k m) (hinj : ∀ i, i < k → (d.getD i default).id ≠ (d.getD k default).id) : LeftOk d (k + 1) (putA m (d.getD k default).id (d.getD k default).slot) := by
  refine ⟨fun i hi => ?_, fun a s hs => ?_⟩
  · rw [asc_putA]
    by_cases e : i = k
    · subst e; rw [if_pos rfl]
    · rw [if_neg (fun e2 => hinj i (by omega) e2.symm)]
      exact h.got i (by omega)
  · rw [asc_putA] at hs
    by_cases e : (d.getD k default).id = a
    · exact ⟨k, by omega, e⟩
    · rw [if_neg e] at hs
      obtain ⟨i, hi, e2⟩ := h.only a s hs
      exact ⟨i, by omega, e2⟩
/-- What stands in order: slots of packets in front that left for their neighbour. -/
def OrdOk (l : List Pk) (first : Int) (ls : List Int) (k : Nat) (m : List ((Int × Int) × Int)) : Prop :=
  ∀ key s, asc m key = some s → ∃ j t, j < k ∧ Dep l first ls t (l.getD j default) ∧ s = first + t ∧ ((l.getD j default).to, (l.getD j default).prio) = key
theorem OrdOk.nil {l : List Pk} {first : Int} {ls : List Int} : OrdOk l first ls 0 [] := fun key s h => by cases h
theorem OrdOk.keep {l : List Pk} {first : Int} {ls : List Int} {k : Nat} {m : List ((Int × Int) × Int)} (h : OrdOk l first ls k m) : OrdOk l first ls (k + 1) m := fun key s hs => by
  obtain ⟨j, t, h1, h2⟩ := h key s hs
  exact ⟨j, t, by omega, h2⟩
theorem OrdOk.put {l : List Pk} {first : Int} {ls : List Int} {k t : Nat} {m : List ((Int × Int) × Int)} (h : OrdOk l first ls k m) (hd : Dep l first ls t (l.getD k default)) :
    OrdOk l first ls (k + 1) (putA m ((l.getD k default).to, (l.getD k default).prio) (first + t)) := fun key s hs => by
  rw [asc_putA] at hs
  by_cases e : ((l.getD k default).to, (l.getD k default).prio) = key
  · rw [if_pos e] at hs
    cases hs
    exact ⟨k, t, by omega, hd, rfl, e⟩
  · rw [if_neg e] at hs
    exact h.keep key s hs

/-- What the law asks of the bound. -/
theorem tail_of {q : Qu} {first id : Int} {ls : List Int} {e k : Nat} (hc : checkQ q = 0) (hk : k < q.packets.length) (he : e ≤ 255) (hn : ls.length ≤ 100) :
    (decide ((q.packets.getD k default).id ≠ id) = true ∧ True ∧ True) ∨ ((q.packets.getD k default).id = id ∧ decide ((e : Int) = 0) = true ∧ True ∧ True) ∨
    ((q.packets.getD k default).id = id ∧ 1 ≤ e ∧ ∃ b : Nat, b ≤ 255 * 65 ∧ FnS Try.prog 21 [quA q, AI id, AI (e : Nat)] [] (.tup [AI (b : Nat), AI 0]) [] ∧
      ((decide ((ls.length : Int) < (b : Nat)) = true ∧ True) ∨ (b ≤ ls.length ∧ ∃ sb, FnS Try.prog 30 [AD (.rd (b - 0) 1 fun i j => ((fun x => [D.int .i64 x]) (ls.getD (0 + i) default)).getD j .nils), AI (q.packets.getD k default).to, AI (e : Nat)] [] (AB sb) [] ∧
        (sb = true → ∃ i, i < (SD q.packets first ls ls.length).length ∧ ((SD q.packets first ls ls.length).getD i default).id = (q.packets.getD k default).id ∧ ((SD q.packets first ls ls.length).getD i default).slot < first + b)))) := by
  have hok := okQ_of hc
  have hl := checkQ_len hc
  by_cases h1 : (q.packets.getD k default).id = id
  · by_cases h2 : 1 ≤ e
    · have hidx : idxId q.packets id = some k := by
        refine fstO_hit (fun i hi => decide_eq_false fun h3 => ?_) hk (decide_eq_true h1)
        have := bef_ne hok (show i < q.packets.length by omega) hk (id_inj hok (getD_mem (by omega)) (getD_mem hk) (by rw [h3, h1]))
        omega
      have hbd := bound_spec q id (e : Nat)
      have hcl : aheadN q.packets k ≤ k := cnt_le
      have hbq : boundQ q id (e : Nat) = (((e * (aheadN q.packets k + 1) : Nat) : Int), 0) := by
        rw [boundQ, aheadQ_some hc hidx, if_neg (by simp), if_neg (by simp [inI]; omega)]
        simp
      rw [hbq] at hbd
      have hmul : e * (aheadN q.packets k + 1) ≤ 255 * 65 := Nat.mul_le_mul he (by omega)
      refine .inr (.inr ⟨h1, h2, e * (aheadN q.packets k + 1), hmul, hbd, ?_⟩)
      rcases Nat.lt_or_ge ls.length (e * (aheadN q.packets k + 1)) with h3 | h3
      · exact .inl ⟨decide_eq_true (by omega), trivial⟩
      · refine .inr ⟨h3, steadyB (ls.take (e * (aheadN q.packets k + 1))) (q.packets.getD k default).to e, ?_, fun h4 => ?_⟩
        · exact FnS.le (.cons (ALe.part (DLe.head (enc := fun x => [D.int .i64 x]) (sz := 1) ls _ h3)) (.cons (.refl _) (.cons (.refl _) .nil))) (steady_spec _ _ _ ⟨h2, he⟩ (by rw [List.length_take]; omega))
        · have h5 := in_time (first := first) hok hk h3 h4
          have h6 := (left_or (first := first) (ls := ls) hok (getD_mem hk) (e * (aheadN q.packets k + 1))).resolve_left h5
          obtain ⟨x, hx, h7⟩ := List.mem_map.1 h6
          obtain ⟨⟨t, h8, h9⟩, _⟩ := SD_of _ x hx
          obtain ⟨i, hi, e2⟩ := mem_getD (SD_mono h3 x hx)
          refine ⟨i, hi, ?_, ?_⟩
          · rw [e2]; exact h7
          · rw [e2, h9]; omega
    · exact .inr (.inl ⟨h1, decide_eq_true (by omega), trivial, trivial⟩)
  · exact .inl ⟨decide_eq_true h1, trivial, trivial⟩

set_option maxHeartbeats 8000000 in
set_option maxRecDepth 8000 in
theorem lawInTime_spec (q : Qu) (first : Int) (ls : List Int) (id : Int) (e : Nat) (hfi : 0 ≤ first ∧ first ≤ 65535) (he : e ≤ 255) :
    FnS Try.prog 8 [quA q, AD (.int .u16 first), AD (ints ls), AI id, AD (.int .u8 (e : Nat))] [] (AB true) [] := by
  refine FnS.of_body (enters_of Try.func8 (by kernel_rfl) rfl) Try.func8 rfl Try.ntmps8 Try.results8 rfl rfl rfl rfl fun E hS => ?_
  repeat' (first
    | (show VR _ _ _ (_ :: _) _ _ _; first | refine x_opF rfl (by first | exact True.intro | omega) ?_ | (show VR _ _ _ (⟨_, .call ⟨.value _, _, _⟩, _, _, _, _⟩ :: _) _ _ _; first | refine vr_calldU (awake_spec) (gk rfl) rfl rfl rfl (by first | rfl | (simp only [wfRes, wfL, wfArgs, wfs, mpO_namesB, mpO_namesI]; rfl)) rfl (by first | exact newB_O | rfl) rfl ?_ | refine vr_calldU (few_spec q) (gk rfl) rfl rfl rfl (by first | rfl | (simp only [wfRes, wfL, wfArgs, wfs, mpO_namesB, mpO_namesI]; rfl)) rfl (by first | exact newB_O | rfl) rfl ?_ | refine vr_calldU (checkQ_spec q) (gk rfl) rfl rfl rfl (by first | rfl | (simp only [wfRes, wfL, wfArgs, wfs, mpO_namesB, mpO_namesI]; rfl)) rfl (by first | exact newB_O | rfl) rfl ?_) | (show VR _ _ _ (⟨_, .indexAddr _ _ _, _, _, _, _⟩ :: _) _ _ _; first | refine vr_index_rd (gk rfl) rfl rfl rfl rfl rfl (by omega) rfl ?_ | refine vr_index_rdP (gk rfl) rfl rfl rfl rfl rfl (by omega) rfl ?_ | refine vr_index_rdN (gk rfl) rfl rfl rfl rfl (by first | omega | decide) rfl ?_) | (show VR _ _ _ (⟨_, .makeMap _ none, _, _, _, _⟩ :: _) _ _ _; first | refine vr_makeMapB (gk rfl) rfl rfl rfl rfl ?_ | refine vr_makeMapI1 (gk rfl) rfl rfl rfl rfl rfl ?_ | refine vr_makeMapI2 (gk rfl) rfl rfl rfl rfl rfl ?_) | (show VR _ _ _ (⟨_, .lookup _ _ _ _, _, _, _, _⟩ :: _) _ _ _; first | refine vr_lookupB (gk rfl) rfl rfl rfl rfl rfl rfl ?_ | refine vr_lookupI1 (gk rfl) rfl rfl rfl rfl rfl rfl ?_ | refine vr_lookupI2 (gk rfl) rfl rfl rfl rfl rfl rfl ?_) | (show VR _ _ _ (⟨_, .mapUpdate _ _ _ _, _, _, _, _⟩ :: _) _ _ _; first | refine vr_mapUpdateB (gk rfl) rfl rfl rfl rfl rfl ?_ | refine vr_mapUpdateI1 (gk rfl) rfl rfl rfl rfl rfl ?_ | refine vr_mapUpdateI2 (gk rfl) rfl rfl rfl rfl rfl ?_) | (show VR _ _ _ (⟨_, .call ⟨.builtin .len, _, _⟩, _, _, _, _⟩ :: _) _ _ _; first | refine vr_len_mapO (gk rfl) rfl rfl rfl rfl ?_) | (show VR _ _ _ (⟨_, .build _ _, _, _, _, _⟩ :: _) _ _ _; first | refine vr_buildArr (gk rfl) rfl rfl rfl rfl rfl ?_) | (show VR _ _ _ (⟨_, .slice _ _ _ _ (some _), _, _, _, _⟩ :: _) _ _ _; first | refine vr_slice_max (gk rfl) rfl rfl rfl rfl (by first | exact .no | exact .int rfl rfl | exact .nat rfl (by omega)) (by first | exact .no | exact .int rfl rfl | exact .nat rfl (by omega)) (by first | exact .no | exact .int rfl rfl | exact .nat rfl (by omega)) (by first | omega | (simp only [lns]; omega)) (by first | omega | (simp only [lns]; omega)) (by first | omega | (simp only [lns]; omega)) rfl ?_) | (show VR _ _ _ (⟨_, .slice _ _ _ _ _, _, _, _, _⟩ :: _) _ _ _; first | refine vr_slice_rd (gk rfl) rfl rfl rfl (by first | exact .no | exact .int rfl rfl | exact .nat rfl (by omega)) (by first | exact .no | exact .int rfl rfl | exact .nat rfl (by omega)) (by omega) (by omega) rfl ?_ | refine vr_slice_head (gk rfl) rfl rfl (by first | exact .row | exact .full) rfl rfl (by first | exact .no | exact .int rfl rfl | exact .nat rfl (by omega)) (by first | omega | (simp only [lns]; omega)) (by first | omega | (simp only [lns]; omega)) rfl ?_ | refine vr_slice_sub (gk rfl) rfl rfl (by first | exact .row | exact .full) rfl rfl (by first | exact .no | exact .int rfl rfl | exact .nat rfl (by omega)) (by first | exact .no | exact .int rfl rfl | exact .nat rfl (by omega)) (by first | omega | (simp only [lns]; omega)) (by first | omega | (simp only [lns]; omega)) (by first | omega | (simp only [lns]; omega)) rfl ?_ | refine vr_slice_nils (gk rfl) rfl rfl (by first | exact .no | exact .int rfl rfl | exact .nat rfl (by omega)) (by first | exact .no | exact .int rfl rfl | exact .nat rfl (by omega)) (by omega) (by omega) rfl ?_) | (show VR _ _ _ (⟨_, .nilCheck _, _, _, _, _⟩ :: _) _ _ _; first | refine vr_nilCheck_rp (gk rfl) rfl rfl ?_ | refine vr_nilCheck_ptr (gk rfl) rfl rfl ?_ | refine vr_nilCheck_ep (gk rfl) rfl rfl ?_) | (show VR _ _ _ (⟨_, .convert _ _ _, _, _, _, _⟩ :: _) _ _ _; first | refine vr_convert_id (gk rfl) rfl ⟨_, rfl⟩ rfl (by first | exact wrap_i64 (by omega) | exact wrap_u64 (by omega) | exact wrap_u16 (by omega) | exact wrap_u8 (by omega) | exact wrap_u32 (by omega)) rfl ?_ | refine vr_convert (gk rfl) rfl ⟨_, rfl⟩ rfl rfl ?_) | (show VR _ _ _ (⟨_, .binOp _ _ _ _ _, _, _, _, _⟩ :: _) _ _ _; first | refine x_ariw rfl rfl rfl rfl rfl ?_) | (show VR _ _ _ (⟨_, .pick _ _ _, _, _, _, _⟩ :: _) _ _ _; first | refine vr_pick_true (gk rfl) rfl (by assumption) rfl rfl ?_ | refine vr_pick_false (gk rfl) rfl (by assumption) rfl rfl ?_) | refine x_gknow rfl (by assumption) ?_ | (refine x_gsplit rfl ?_ ?_ <;> intro h <;> have hq := h <;> (try simp only [hqs] at hq)))
    | (show VR _ _ _ [] _ _ _; first | refine vr_nil ?_ | refine vr_nil_t (by kernel_rfl) ?_)
    | (show thenQ _ _ _ _; first | refine q_then_n ?_ | refine q_then_x ?_ | refine q_then_r ?_)
    | (show blockQ _ _ _ _; first | refine q_blk_n ?_ | refine q_blk_r ?_ | refine q_blk_x ?_ | refine q_blk_o rfl ?_)
    | (show VC _ (.seq _ _) _ _; (fail_if_success (show VC _ (.seq (.seq (.region 5 _ _) _) _) _ _)); (fail_if_success (show VC _ (.seq (.region 5 _ _) _) _ _)); refine vc_seq ?_)
    | refine vc_region ?_ | refine vc_region_t ?_
    | (show VC _ (.cond _ _ _) _ _; first | refine vc_cond_t rfl ?_ | refine vc_cond_f rfl ?_ | refine x_know rfl (by assumption) ?_ | (refine x_cond rfl ?_ ?_ <;> intro h <;> have hq := h <;> (try simp only [hqs] at hq)))
    | refine vc_ret ?_ | refine vc_exit ?_ | refine vc_block ?_ | refine vc_skip ?_ | refine vc_label ?_)
  all_goals first
    | (refine ret_bool isRet_r rfl ?_; simp_all; done)
    | skip
  have hc : checkQ q = 0 := by simp_all
  have hln : ls.length ≤ 100 := by omega
  have hl := checkQ_len hc
  have hok := okQ_of hc
  have hse := serve_spec q first ls
  rw [serveQ, if_neg (by omega), if_neg (by simp [inI]; omega), if_neg (by omega)] at hse
  have hsl := serveTo_len q.packets first ls ls.length
  have hof := SD_of (l := q.packets) (first := first) (ls := ls) ls.length
  have hlor := fun {p : Pk} (hp : p ∈ q.packets) => left_or (first := first) (ls := ls) hok hp ls.length
  have hinj := fun {i j : Nat} => dep_inj (first := first) (ls := ls) (k := ls.length) (i := i) (j := j) hok
  generalize hR : (serveTo q.packets first ls ls.length).1 = r at hse hsl
  generalize hD : (serveTo q.packets first ls ls.length).2 = d at hse hsl
  have hDs : SD q.packets first ls ls.length = d := hD
  rw [hDs] at hof
  simp only [hDs] at hlor hinj
  repeat' (first
    | (show VR _ _ _ (_ :: _) _ _ _; first | refine x_opF rfl (by first | exact True.intro | omega) ?_ | (show VR _ _ _ (⟨_, .call ⟨.value _, _, _⟩, _, _, _, _⟩ :: _) _ _ _; first | refine vr_calldU (hse) (gk rfl) rfl rfl rfl (by first | rfl | (simp only [wfRes, wfL, wfArgs, wfs, mpO_namesB, mpO_namesI]; rfl)) rfl (by first | exact newB_O | rfl) rfl ?_) | (show VR _ _ _ (⟨_, .indexAddr _ _ _, _, _, _, _⟩ :: _) _ _ _; first | refine vr_index_rd (gk rfl) rfl rfl rfl rfl rfl (by omega) rfl ?_ | refine vr_index_rdP (gk rfl) rfl rfl rfl rfl rfl (by omega) rfl ?_ | refine vr_index_rdN (gk rfl) rfl rfl rfl rfl (by first | omega | decide) rfl ?_) | (show VR _ _ _ (⟨_, .makeMap _ none, _, _, _, _⟩ :: _) _ _ _; first | refine vr_makeMapB (gk rfl) rfl rfl rfl rfl ?_ | refine vr_makeMapI1 (gk rfl) rfl rfl rfl rfl rfl ?_ | refine vr_makeMapI2 (gk rfl) rfl rfl rfl rfl rfl ?_) | (show VR _ _ _ (⟨_, .lookup _ _ _ _, _, _, _, _⟩ :: _) _ _ _; first | refine vr_lookupB (gk rfl) rfl rfl rfl rfl rfl rfl ?_ | refine vr_lookupI1 (gk rfl) rfl rfl rfl rfl rfl rfl ?_ | refine vr_lookupI2 (gk rfl) rfl rfl rfl rfl rfl rfl ?_) | (show VR _ _ _ (⟨_, .mapUpdate _ _ _ _, _, _, _, _⟩ :: _) _ _ _; first | refine vr_mapUpdateB (gk rfl) rfl rfl rfl rfl rfl ?_ | refine vr_mapUpdateI1 (gk rfl) rfl rfl rfl rfl rfl ?_ | refine vr_mapUpdateI2 (gk rfl) rfl rfl rfl rfl rfl ?_) | (show VR _ _ _ (⟨_, .call ⟨.builtin .len, _, _⟩, _, _, _, _⟩ :: _) _ _ _; first | refine vr_len_mapO (gk rfl) rfl rfl rfl rfl ?_) | (show VR _ _ _ (⟨_, .build _ _, _, _, _, _⟩ :: _) _ _ _; first | refine vr_buildArr (gk rfl) rfl rfl rfl rfl rfl ?_) | (show VR _ _ _ (⟨_, .slice _ _ _ _ (some _), _, _, _, _⟩ :: _) _ _ _; first | refine vr_slice_max (gk rfl) rfl rfl rfl rfl (by first | exact .no | exact .int rfl rfl | exact .nat rfl (by omega)) (by first | exact .no | exact .int rfl rfl | exact .nat rfl (by omega)) (by first | exact .no | exact .int rfl rfl | exact .nat rfl (by omega)) (by first | omega | (simp only [lns]; omega)) (by first | omega | (simp only [lns]; omega)) (by first | omega | (simp only [lns]; omega)) rfl ?_) | (show VR _ _ _ (⟨_, .slice _ _ _ _ _, _, _, _, _⟩ :: _) _ _ _; first | refine vr_slice_rd (gk rfl) rfl rfl rfl (by first | exact .no | exact .int rfl rfl | exact .nat rfl (by omega)) (by first | exact .no | exact .int rfl rfl | exact .nat rfl (by omega)) (by omega) (by omega) rfl ?_ | refine vr_slice_head (gk rfl) rfl rfl (by first | exact .row | exact .full) rfl rfl (by first | exact .no | exact .int rfl rfl | exact .nat rfl (by omega)) (by first | omega | (simp only [lns]; omega)) (by first | omega | (simp only [lns]; omega)) rfl ?_ | refine vr_slice_sub (gk rfl) rfl rfl (by first | exact .row | exact .full) rfl rfl (by first | exact .no | exact .int rfl rfl | exact .nat rfl (by omega)) (by first | exact .no | exact .int rfl rfl | exact .nat rfl (by omega)) (by first | omega | (simp only [lns]; omega)) (by first | omega | (simp only [lns]; omega)) (by first | omega | (simp only [lns]; omega)) rfl ?_ | refine vr_slice_nils (gk rfl) rfl rfl (by first | exact .no | exact .int rfl rfl | exact .nat rfl (by omega)) (by first | exact .no | exact .int rfl rfl | exact .nat rfl (by omega)) (by omega) (by omega) rfl ?_) | (show VR _ _ _ (⟨_, .nilCheck _, _, _, _, _⟩ :: _) _ _ _; first | refine vr_nilCheck_rp (gk rfl) rfl rfl ?_ | refine vr_nilCheck_ptr (gk rfl) rfl rfl ?_ | refine vr_nilCheck_ep (gk rfl) rfl rfl ?_) | (show VR _ _ _ (⟨_, .convert _ _ _, _, _, _, _⟩ :: _) _ _ _; first | refine vr_convert_id (gk rfl) rfl ⟨_, rfl⟩ rfl (by first | exact wrap_i64 (by omega) | exact wrap_u64 (by omega) | exact wrap_u16 (by omega) | exact wrap_u8 (by omega) | exact wrap_u32 (by omega)) rfl ?_ | refine vr_convert (gk rfl) rfl ⟨_, rfl⟩ rfl rfl ?_) | (show VR _ _ _ (⟨_, .binOp _ _ _ _ _, _, _, _, _⟩ :: _) _ _ _; first | refine x_ariw rfl rfl rfl rfl rfl ?_) | (show VR _ _ _ (⟨_, .pick _ _ _, _, _, _, _⟩ :: _) _ _ _; first | refine vr_pick_true (gk rfl) rfl (by assumption) rfl rfl ?_ | refine vr_pick_false (gk rfl) rfl (by assumption) rfl rfl ?_) | refine x_gknow rfl (by assumption) ?_ | (refine x_gsplit rfl ?_ ?_ <;> intro h <;> have hq := h <;> (try simp only [hqs] at hq)))
    | (show VR _ _ _ [] _ _ _; first | refine vr_nil ?_ | refine vr_nil_t (by kernel_rfl) ?_)
    | (show thenQ _ _ _ _; first | refine q_then_n ?_ | refine q_then_x ?_ | refine q_then_r ?_)
    | (show blockQ _ _ _ _; first | refine q_blk_n ?_ | refine q_blk_r ?_ | refine q_blk_x ?_ | refine q_blk_o rfl ?_)
    | (show VC _ (.seq _ _) _ _; (fail_if_success (show VC _ (.seq (.seq (.region 10 _ _) _) _) _ _)); (fail_if_success (show VC _ (.seq (.region 10 _ _) _) _ _)); refine vc_seq ?_)
    | refine vc_region ?_ | refine vc_region_t ?_
    | (show VC _ (.cond _ _ _) _ _; first | refine vc_cond_t rfl ?_ | refine vc_cond_f rfl ?_ | refine x_know rfl (by assumption) ?_ | (refine x_cond rfl ?_ ?_ <;> intro h <;> have hq := h <;> (try simp only [hqs] at hq)))
    | refine vc_ret ?_ | refine vc_exit ?_ | refine vc_block ?_ | refine vc_skip ?_ | refine vc_label ?_)
  all_goals first
    | (exfalso; omega)
    | skip
  refine vc_loopI (ι := Nat × List (Int × Int)) (fun s => stOf [(1, AD (.int .u16 first)), (2, AD (ints ls)), (3, AI id), (4, AD (.int .u8 (e : Nat))), (5, .c (.ptr 5 0)), (12, AD (dps d)), (14, .c (.mp 55)), (56, AD (dps d)), (57, AI d.length), (58, AI s.1)] [(5, .box q.cs), (55, .map (mpO k1 cfI s.2))])
    (fun s => s.1 ≤ d.length ∧ LeftOk d s.1 s.2) (fun s => d.length - s.1) (0, []) ⟨Nat.zero_le _, LeftOk.nil⟩ ?_ ?_
  · refine le_gen0 (fun n => n) ?_ ?_ rfl (by first | rfl | (simp only [wfL, wfs, mpO_namesB, mpO_namesI]; rfl))
    all_goals repeat' (first | exact trivial | refine ⟨⟨_, rfl, ?_⟩, ?_⟩ | exact .c .d | exact .clo | exact .ep | exact .c (.ptr rfl) | exact .c (.mp rfl) | exact .c (.fn rfl) | exact .c (.row rfl rfl) | exact .c .nil | (refine .c (.row rfl ?_); ((try dsimp only); first | rfl | omega | (simp only [lns] <;> omega)); done) | (refine .c (cw_eq ?_); first | rfl | (congr 1; omega); done) | exact .boxD rfl rfl | exact .pin rfl | exact .mapO (fun _ => rfl) rfl | (refine .mapO (fun _ => rfl) ?_; ((try dsimp only); first | rfl | omega | (simp only [lns] <;> omega)); done) | exact .rowD rfl rowOf_isD | exact .rowD (rowOf_append.symm) rowOf_isD | exact .rowD (rowOf_set rfl) rowOf_isD | (refine .rowD ?_ rowOf_isD; rw [rowOf_append]; rfl) | (refine .rowD ?_ rowOf_isD; simp only [rowOf_append, List.append_assoc]; rfl) | refine .agg ?_ | refine .fncC ?_ | refine .box ?_ | exact .nil | refine .cons ?_ ?_ | exact .d | exact .ptr rfl | exact .row rfl rfl | (refine .row rfl ?_; ((try dsimp only); first | rfl | omega | (simp only [lns] <;> omega)); done))
  · rintro ⟨k, m⟩ ⟨hk, hm⟩
    dsimp only at hk hm ⊢
    rcases Nat.lt_or_ge k d.length with hlt | hge
    · repeat' (first
        | (show VR _ _ _ (_ :: _) _ _ _; first | refine x_opF rfl (by first | exact True.intro | omega) ?_ | (show VR _ _ _ (⟨_, .indexAddr _ _ _, _, _, _, _⟩ :: _) _ _ _; first | refine vr_index_rd (gk rfl) rfl rfl rfl rfl rfl (by omega) rfl ?_ | refine vr_index_rdP (gk rfl) rfl rfl rfl rfl rfl (by omega) rfl ?_ | refine vr_index_rdN (gk rfl) rfl rfl rfl rfl (by first | omega | decide) rfl ?_) | (show VR _ _ _ (⟨_, .makeMap _ none, _, _, _, _⟩ :: _) _ _ _; first | refine vr_makeMapB (gk rfl) rfl rfl rfl rfl ?_ | refine vr_makeMapI1 (gk rfl) rfl rfl rfl rfl rfl ?_ | refine vr_makeMapI2 (gk rfl) rfl rfl rfl rfl rfl ?_) | (show VR _ _ _ (⟨_, .lookup _ _ _ _, _, _, _, _⟩ :: _) _ _ _; first | refine vr_lookupB (gk rfl) rfl rfl rfl rfl rfl rfl ?_ | refine vr_lookupI1 (gk rfl) rfl rfl rfl rfl rfl rfl ?_ | refine vr_lookupI2 (gk rfl) rfl rfl rfl rfl rfl rfl ?_) | (show VR _ _ _ (⟨_, .mapUpdate _ _ _ _, _, _, _, _⟩ :: _) _ _ _; first | refine vr_mapUpdateB (gk rfl) rfl rfl rfl rfl rfl ?_ | refine vr_mapUpdateI1 (gk rfl) rfl rfl rfl rfl rfl ?_ | refine vr_mapUpdateI2 (gk rfl) rfl rfl rfl rfl rfl ?_) | (show VR _ _ _ (⟨_, .call ⟨.builtin .len, _, _⟩, _, _, _, _⟩ :: _) _ _ _; first | refine vr_len_mapO (gk rfl) rfl rfl rfl rfl ?_) | (show VR _ _ _ (⟨_, .build _ _, _, _, _, _⟩ :: _) _ _ _; first | refine vr_buildArr (gk rfl) rfl rfl rfl rfl rfl ?_) | (show VR _ _ _ (⟨_, .slice _ _ _ _ (some _), _, _, _, _⟩ :: _) _ _ _; first | refine vr_slice_max (gk rfl) rfl rfl rfl rfl (by first | exact .no | exact .int rfl rfl | exact .nat rfl (by omega)) (by first | exact .no | exact .int rfl rfl | exact .nat rfl (by omega)) (by first | exact .no | exact .int rfl rfl | exact .nat rfl (by omega)) (by first | omega | (simp only [lns]; omega)) (by first | omega | (simp only [lns]; omega)) (by first | omega | (simp only [lns]; omega)) rfl ?_) | (show VR _ _ _ (⟨_, .slice _ _ _ _ _, _, _, _, _⟩ :: _) _ _ _; first | refine vr_slice_rd (gk rfl) rfl rfl rfl (by first | exact .no | exact .int rfl rfl | exact .nat rfl (by omega)) (by first | exact .no | exact .int rfl rfl | exact .nat rfl (by omega)) (by omega) (by omega) rfl ?_ | refine vr_slice_head (gk rfl) rfl rfl (by first | exact .row | exact .full) rfl rfl (by first | exact .no | exact .int rfl rfl | exact .nat rfl (by omega)) (by first | omega | (simp only [lns]; omega)) (by first | omega | (simp only [lns]; omega)) rfl ?_ | refine vr_slice_sub (gk rfl) rfl rfl (by first | exact .row | exact .full) rfl rfl (by first | exact .no | exact .int rfl rfl | exact .nat rfl (by omega)) (by first | exact .no | exact .int rfl rfl | exact .nat rfl (by omega)) (by first | omega | (simp only [lns]; omega)) (by first | omega | (simp only [lns]; omega)) (by first | omega | (simp only [lns]; omega)) rfl ?_ | refine vr_slice_nils (gk rfl) rfl rfl (by first | exact .no | exact .int rfl rfl | exact .nat rfl (by omega)) (by first | exact .no | exact .int rfl rfl | exact .nat rfl (by omega)) (by omega) (by omega) rfl ?_) | (show VR _ _ _ (⟨_, .nilCheck _, _, _, _, _⟩ :: _) _ _ _; first | refine vr_nilCheck_rp (gk rfl) rfl rfl ?_ | refine vr_nilCheck_ptr (gk rfl) rfl rfl ?_ | refine vr_nilCheck_ep (gk rfl) rfl rfl ?_) | (show VR _ _ _ (⟨_, .convert _ _ _, _, _, _, _⟩ :: _) _ _ _; first | refine vr_convert_id (gk rfl) rfl ⟨_, rfl⟩ rfl (by first | exact wrap_i64 (by omega) | exact wrap_u64 (by omega) | exact wrap_u16 (by omega) | exact wrap_u8 (by omega) | exact wrap_u32 (by omega)) rfl ?_ | refine vr_convert (gk rfl) rfl ⟨_, rfl⟩ rfl rfl ?_) | (show VR _ _ _ (⟨_, .binOp _ _ _ _ _, _, _, _, _⟩ :: _) _ _ _; first | refine x_ariw rfl rfl rfl rfl rfl ?_) | (show VR _ _ _ (⟨_, .pick _ _ _, _, _, _, _⟩ :: _) _ _ _; first | refine vr_pick_true (gk rfl) rfl (by assumption) rfl rfl ?_ | refine vr_pick_false (gk rfl) rfl (by assumption) rfl rfl ?_) | refine x_gknow rfl (by assumption) ?_ | (refine x_gsplit rfl ?_ ?_ <;> intro h <;> have hq := h <;> (try simp only [hqs] at hq)))
        | (show VR _ _ _ [] _ _ _; first | refine vr_nil ?_ | refine vr_nil_t (by kernel_rfl) ?_)
        | (show thenQ _ _ _ _; first | refine q_then_n ?_ | refine q_then_x ?_ | refine q_then_r ?_)
        | (show blockQ _ _ _ _; first | refine q_blk_n ?_ | refine q_blk_r ?_ | refine q_blk_x ?_ | refine q_blk_o rfl ?_)
        | refine vc_seq ?_
        | refine vc_region ?_ | refine vc_region_t ?_
        | (show VC _ (.cond _ _ _) _ _; first | refine vc_cond_t rfl ?_ | refine vc_cond_f rfl ?_ | refine x_know rfl (by assumption) ?_ | (refine x_cond rfl ?_ ?_ <;> intro h <;> have hq := h <;> (try simp only [hqs] at hq)))
        | refine vc_ret ?_ | refine vc_exit ?_ | refine vc_block ?_ | refine vc_skip ?_ | refine vc_label ?_)
      all_goals first
        | (exfalso; omega)
        | skip
      refine ⟨(k + 1, putA m (d.getD k default).id (d.getD k default).slot), ⟨by dsimp only; omega, hm.step fun i hi h => ?_⟩, by dsimp only; omega, ?_⟩
      · have := hinj (show i < d.length by omega) hlt h
        omega
      dsimp only
      refine le_gen0 (fun n => n) ?_ ?_ rfl (by first | rfl | (simp only [wfL, wfs, mpO_namesB, mpO_namesI]; rfl))
      all_goals repeat' (first | exact trivial | refine ⟨⟨_, rfl, ?_⟩, ?_⟩ | exact .c .d | exact .clo | exact .ep | exact .c (.ptr rfl) | exact .c (.mp rfl) | exact .c (.fn rfl) | exact .c (.row rfl rfl) | exact .c .nil | (refine .c (.row rfl ?_); ((try dsimp only); first | rfl | omega | (simp only [lns] <;> omega)); done) | (refine .c (cw_eq ?_); first | rfl | (congr 1; omega); done) | exact .boxD rfl rfl | exact .pin rfl | exact .mapO (fun _ => rfl) rfl | (refine .mapO (fun _ => rfl) ?_; ((try dsimp only); first | rfl | omega | (simp only [lns] <;> omega)); done) | exact .rowD rfl rowOf_isD | exact .rowD (rowOf_append.symm) rowOf_isD | exact .rowD (rowOf_set rfl) rowOf_isD | (refine .rowD ?_ rowOf_isD; rw [rowOf_append]; rfl) | (refine .rowD ?_ rowOf_isD; simp only [rowOf_append, List.append_assoc]; rfl) | refine .agg ?_ | refine .fncC ?_ | refine .box ?_ | exact .nil | refine .cons ?_ ?_ | exact .d | exact .ptr rfl | exact .row rfl rfl | (refine .row rfl ?_; ((try dsimp only); first | rfl | omega | (simp only [lns] <;> omega)); done))
    · have hk' : k = d.length := by omega
      subst hk'
      repeat' (first
        | (show VR _ _ _ (_ :: _) _ _ _; first | refine x_opF rfl (by first | exact True.intro | omega) ?_ | (show VR _ _ _ (⟨_, .indexAddr _ _ _, _, _, _, _⟩ :: _) _ _ _; first | refine vr_index_rd (gk rfl) rfl rfl rfl rfl rfl (by omega) rfl ?_ | refine vr_index_rdP (gk rfl) rfl rfl rfl rfl rfl (by omega) rfl ?_ | refine vr_index_rdN (gk rfl) rfl rfl rfl rfl (by first | omega | decide) rfl ?_) | (show VR _ _ _ (⟨_, .makeMap _ none, _, _, _, _⟩ :: _) _ _ _; first | refine vr_makeMapB (gk rfl) rfl rfl rfl rfl ?_ | refine vr_makeMapI1 (gk rfl) rfl rfl rfl rfl rfl ?_ | refine vr_makeMapI2 (gk rfl) rfl rfl rfl rfl rfl ?_) | (show VR _ _ _ (⟨_, .lookup _ _ _ _, _, _, _, _⟩ :: _) _ _ _; first | refine vr_lookupB (gk rfl) rfl rfl rfl rfl rfl rfl ?_ | refine vr_lookupI1 (gk rfl) rfl rfl rfl rfl rfl rfl ?_ | refine vr_lookupI2 (gk rfl) rfl rfl rfl rfl rfl rfl ?_) | (show VR _ _ _ (⟨_, .mapUpdate _ _ _ _, _, _, _, _⟩ :: _) _ _ _; first | refine vr_mapUpdateB (gk rfl) rfl rfl rfl rfl rfl ?_ | refine vr_mapUpdateI1 (gk rfl) rfl rfl rfl rfl rfl ?_ | refine vr_mapUpdateI2 (gk rfl) rfl rfl rfl rfl rfl ?_) | (show VR _ _ _ (⟨_, .call ⟨.builtin .len, _, _⟩, _, _, _, _⟩ :: _) _ _ _; first | refine vr_len_mapO (gk rfl) rfl rfl rfl rfl ?_) | (show VR _ _ _ (⟨_, .build _ _, _, _, _, _⟩ :: _) _ _ _; first | refine vr_buildArr (gk rfl) rfl rfl rfl rfl rfl ?_) | (show VR _ _ _ (⟨_, .slice _ _ _ _ (some _), _, _, _, _⟩ :: _) _ _ _; first | refine vr_slice_max (gk rfl) rfl rfl rfl rfl (by first | exact .no | exact .int rfl rfl | exact .nat rfl (by omega)) (by first | exact .no | exact .int rfl rfl | exact .nat rfl (by omega)) (by first | exact .no | exact .int rfl rfl | exact .nat rfl (by omega)) (by first | omega | (simp only [lns]; omega)) (by first | omega | (simp only [lns]; omega)) (by first | omega | (simp only [lns]; omega)) rfl ?_) | (show VR _ _ _ (⟨_, .slice _ _ _ _ _, _, _, _, _⟩ :: _) _ _ _; first | refine vr_slice_rd (gk rfl) rfl rfl rfl (by first | exact .no | exact .int rfl rfl | exact .nat rfl (by omega)) (by first | exact .no | exact .int rfl rfl | exact .nat rfl (by omega)) (by omega) (by omega) rfl ?_ | refine vr_slice_head (gk rfl) rfl rfl (by first | exact .row | exact .full) rfl rfl (by first | exact .no | exact .int rfl rfl | exact .nat rfl (by omega)) (by first | omega | (simp only [lns]; omega)) (by first | omega | (simp only [lns]; omega)) rfl ?_ | refine vr_slice_sub (gk rfl) rfl rfl (by first | exact .row | exact .full) rfl rfl (by first | exact .no | exact .int rfl rfl | exact .nat rfl (by omega)) (by first | exact .no | exact .int rfl rfl | exact .nat rfl (by omega)) (by first | omega | (simp only [lns]; omega)) (by first | omega | (simp only [lns]; omega)) (by first | omega | (simp only [lns]; omega)) rfl ?_ | refine vr_slice_nils (gk rfl) rfl rfl (by first | exact .no | exact .int rfl rfl | exact .nat rfl (by omega)) (by first | exact .no | exact .int rfl rfl | exact .nat rfl (by omega)) (by omega) (by omega) rfl ?_) | (show VR _ _ _ (⟨_, .nilCheck _, _, _, _, _⟩ :: _) _ _ _; first | refine vr_nilCheck_rp (gk rfl) rfl rfl ?_ | refine vr_nilCheck_ptr (gk rfl) rfl rfl ?_ | refine vr_nilCheck_ep (gk rfl) rfl rfl ?_) | (show VR _ _ _ (⟨_, .convert _ _ _, _, _, _, _⟩ :: _) _ _ _; first | refine vr_convert_id (gk rfl) rfl ⟨_, rfl⟩ rfl (by first | exact wrap_i64 (by omega) | exact wrap_u64 (by omega) | exact wrap_u16 (by omega) | exact wrap_u8 (by omega) | exact wrap_u32 (by omega)) rfl ?_ | refine vr_convert (gk rfl) rfl ⟨_, rfl⟩ rfl rfl ?_) | (show VR _ _ _ (⟨_, .binOp _ _ _ _ _, _, _, _, _⟩ :: _) _ _ _; first | refine x_ariw rfl rfl rfl rfl rfl ?_) | (show VR _ _ _ (⟨_, .pick _ _ _, _, _, _, _⟩ :: _) _ _ _; first | refine vr_pick_true (gk rfl) rfl (by assumption) rfl rfl ?_ | refine vr_pick_false (gk rfl) rfl (by assumption) rfl rfl ?_) | refine x_gknow rfl (by assumption) ?_ | (refine x_gsplit rfl ?_ ?_ <;> intro h <;> have hq := h <;> (try simp only [hqs] at hq)))
        | (show VR _ _ _ [] _ _ _; first | refine vr_nil ?_ | refine vr_nil_t (by kernel_rfl) ?_)
        | (show thenQ _ _ _ _; first | refine q_then_n ?_ | refine q_then_x ?_ | refine q_then_r ?_)
        | (show blockQ _ _ _ _; first | refine q_blk_n ?_ | refine q_blk_r ?_ | refine q_blk_x ?_ | refine q_blk_o rfl ?_)
        | (show VC _ (.seq _ _) _ _; (fail_if_success (show VC _ (.seq (.seq (.region 16 _ _) _) _) _ _)); (fail_if_success (show VC _ (.seq (.region 16 _ _) _) _ _)); refine vc_seq ?_)
        | refine vc_region ?_ | refine vc_region_t ?_
        | (show VC _ (.cond _ _ _) _ _; first | refine vc_cond_t rfl ?_ | refine vc_cond_f rfl ?_ | refine x_know rfl (by assumption) ?_ | (refine x_cond rfl ?_ ?_ <;> intro h <;> have hq := h <;> (try simp only [hqs] at hq)))
        | refine vc_ret ?_ | refine vc_exit ?_ | refine vc_block ?_ | refine vc_skip ?_ | refine vc_label ?_)
      all_goals first
        | (exfalso; omega)
        | skip
      refine vc_loopI (ι := Nat × List ((Int × Int) × Int)) (fun s => stOf [(1, AD (.int .u16 first)), (2, AD (ints ls)), (3, AI id), (4, AD (.int .u8 (e : Nat))), (5, .c (.ptr 5 0)), (12, AD (dps d)), (14, .c (.mp 55)), (17, .c (.mp 68)), (70, AD (pks q.packets)), (71, AI q.packets.length), (72, AI s.1)] [(5, .box q.cs), (55, .map (mpO k1 cfI m)), (68, .map (mpO k2 cfI s.2))])
        (fun s => s.1 ≤ q.packets.length ∧ OrdOk q.packets first ls s.1 s.2) (fun s => q.packets.length - s.1) (0, []) ⟨Nat.zero_le _, OrdOk.nil⟩ ?_ ?_
      · refine le_gen0 (fun n => n) ?_ ?_ rfl (by first | rfl | (simp only [wfL, wfs, mpO_namesB, mpO_namesI]; rfl))
        all_goals repeat' (first | exact trivial | refine ⟨⟨_, rfl, ?_⟩, ?_⟩ | exact .c .d | exact .clo | exact .ep | exact .c (.ptr rfl) | exact .c (.mp rfl) | exact .c (.fn rfl) | exact .c (.row rfl rfl) | exact .c .nil | (refine .c (.row rfl ?_); ((try dsimp only); first | rfl | omega | (simp only [lns] <;> omega)); done) | (refine .c (cw_eq ?_); first | rfl | (congr 1; omega); done) | exact .boxD rfl rfl | exact .pin rfl | exact .mapO (fun _ => rfl) rfl | (refine .mapO (fun _ => rfl) ?_; ((try dsimp only); first | rfl | omega | (simp only [lns] <;> omega)); done) | exact .rowD rfl rowOf_isD | exact .rowD (rowOf_append.symm) rowOf_isD | exact .rowD (rowOf_set rfl) rowOf_isD | (refine .rowD ?_ rowOf_isD; rw [rowOf_append]; rfl) | (refine .rowD ?_ rowOf_isD; simp only [rowOf_append, List.append_assoc]; rfl) | refine .agg ?_ | refine .fncC ?_ | refine .box ?_ | exact .nil | refine .cons ?_ ?_ | exact .d | exact .ptr rfl | exact .row rfl rfl | (refine .row rfl ?_; ((try dsimp only); first | rfl | omega | (simp only [lns] <;> omega)); done))
      · rintro ⟨k, o⟩ ⟨hk, ho⟩
        dsimp only at hk ho ⊢
        rcases Nat.lt_or_ge k q.packets.length with hlt | hge
        · have hmem : q.packets.getD k default ∈ q.packets := getD_mem hlt
          have htail := tail_of (first := first) (ls := ls) (id := id) (e := e) hc hlt he hln
          rw [hDs] at htail
          cases hf : fstO d (fun x => decide (x.id = (q.packets.getD k default).id)) with
          | none =>
            have hix : FnS Try.prog 28 [AD (dps d), .clo (predφDp fun x => decide (x.id = (q.packets.getD k default).id))] [] (AI (-1)) [] := by
              have := idxf_Dp d (fun x => decide (x.id = (q.packets.getD k default).id))
              rw [hf] at this
              exact this
            have hno : ∀ x ∈ d, x.id ≠ (q.packets.getD k default).id := fun x hx => of_decide_eq_false (fstO_notmem hf x hx)
            have hasc : asc m (q.packets.getD k default).id = none := by
              cases ha : asc m (q.packets.getD k default).id with
              | none => rfl
              | some s =>
                obtain ⟨i, hi, e2⟩ := hm.only _ s ha
                exact absurd e2 (hno _ (getD_mem hi))
            have f1 : (asc m (q.packets.getD k default).id).isSome = false := by rw [hasc]; rfl
            have f2 : (!(asc m (q.packets.getD k default).id).isSome) = true := by rw [hasc]; rfl
            have hsi : q.packets.getD k default ∈ SL q.packets first ls ls.length := (hlor hmem).resolve_right fun h => by
              obtain ⟨x, hx, e2⟩ := List.mem_map.1 h
              exact hno x hx e2
            have hage : ls.length = 0 ∨ IntKind.i64.wrap (first + ls.length - 1 - (q.packets.getD k default).born) < (q.packets.getD k default).life := by
              rcases Nat.eq_zero_or_pos ls.length with h0 | h0
              · exact .inl h0
              refine .inr ?_
              have h1 : ls.length - 1 + 1 = ls.length := by omega
              rw [← h1] at hsi
              have h2 := SL_last hsi
              have h3 : first + ((ls.length - 1 : Nat) : Int) = first + ls.length - 1 := by omega
              rw [h3, staleB_nn (by omega)] at h2
              have := of_decide_eq_false h2
              omega
            rcases htail with ⟨t1, hbd, hst⟩ | ⟨t1, t2, hbd, hst⟩ | ⟨t1, t2, b, t3, hbd, ⟨t4, hst⟩ | ⟨t4, sb, hst, t5⟩⟩
            all_goals
              repeat' (first
                | (show VR _ _ _ (_ :: _) _ _ _; first | refine x_opF rfl (by first | exact True.intro | omega) ?_ | (show VR _ _ _ (⟨_, .call ⟨.value _, _, _⟩, _, _, _, _⟩ :: _) _ _ _; first | refine vr_calldU (hbd) (gk rfl) rfl rfl rfl (by first | rfl | (simp only [wfRes, wfL, wfArgs, wfs, mpO_namesB, mpO_namesI]; rfl)) rfl (by first | exact newB_O | rfl) rfl ?_ | refine vr_calldU (hst) (gk rfl) rfl rfl rfl (by first | rfl | (simp only [wfRes, wfL, wfArgs, wfs, mpO_namesB, mpO_namesI]; rfl)) rfl (by first | exact newB_O | rfl) rfl ?_ | refine vr_callU [19] (hix) (gk rfl) rfl (by (repeat' (first | exact .nil | refine .cons ?_ ?_ | exact .of0 (.c .d) | exact .of0 .ep | exact .clo | exact (time1_fnc (by simp) rfl) | exact .of0 (.c .nil) | exact .of0 (.c (cr_rowO (by simp) rfl (by first | rfl | omega) (fun _ => rfl))) | refine .of0 (.agg ?_) | exact .d | exact .nil | exact .of0 (.c (cr_row (by decide) rfl rfl (by repeat' (first | exact trivial | refine ⟨?_, ?_⟩ | rfl)))))) <;> fail) (by first | rfl | exact hfl_O (fun _ => rfl) | exact hfl_O2 rfl (fun _ => rfl)) rfl (by first | rfl | (simp only [wfRes, wfL, wfArgs, wfs, mpO_namesB, mpO_namesI]; rfl)) rfl (by first | exact newB_O | rfl) rfl ?_) | (show VR _ _ _ (⟨_, .indexAddr _ _ _, _, _, _, _⟩ :: _) _ _ _; first | refine vr_index_rd (gk rfl) rfl rfl rfl rfl rfl (by omega) rfl ?_ | refine vr_index_rdP (gk rfl) rfl rfl rfl rfl rfl (by omega) rfl ?_ | refine vr_index_rdN (gk rfl) rfl rfl rfl rfl (by first | omega | decide) rfl ?_) | (show VR _ _ _ (⟨_, .makeMap _ none, _, _, _, _⟩ :: _) _ _ _; first | refine vr_makeMapB (gk rfl) rfl rfl rfl rfl ?_ | refine vr_makeMapI1 (gk rfl) rfl rfl rfl rfl rfl ?_ | refine vr_makeMapI2 (gk rfl) rfl rfl rfl rfl rfl ?_) | (show VR _ _ _ (⟨_, .lookup _ _ _ _, _, _, _, _⟩ :: _) _ _ _; first | refine vr_lookupB (gk rfl) rfl rfl rfl rfl rfl rfl ?_ | refine vr_lookupI1 (gk rfl) rfl rfl rfl rfl rfl rfl ?_ | refine vr_lookupI2 (gk rfl) rfl rfl rfl rfl rfl rfl ?_) | (show VR _ _ _ (⟨_, .mapUpdate _ _ _ _, _, _, _, _⟩ :: _) _ _ _; first | refine vr_mapUpdateB (gk rfl) rfl rfl rfl rfl rfl ?_ | refine vr_mapUpdateI1 (gk rfl) rfl rfl rfl rfl rfl ?_ | refine vr_mapUpdateI2 (gk rfl) rfl rfl rfl rfl rfl ?_) | (show VR _ _ _ (⟨_, .call ⟨.builtin .len, _, _⟩, _, _, _, _⟩ :: _) _ _ _; first | refine vr_len_mapO (gk rfl) rfl rfl rfl rfl ?_) | (show VR _ _ _ (⟨_, .build _ _, _, _, _, _⟩ :: _) _ _ _; first | refine vr_buildArr (gk rfl) rfl rfl rfl rfl rfl ?_) | (show VR _ _ _ (⟨_, .slice _ _ _ _ (some _), _, _, _, _⟩ :: _) _ _ _; first | refine vr_slice_max (gk rfl) rfl rfl rfl rfl (by first | exact .no | exact .int rfl rfl | exact .nat rfl (by omega)) (by first | exact .no | exact .int rfl rfl | exact .nat rfl (by omega)) (by first | exact .no | exact .int rfl rfl | exact .nat rfl (by omega)) (by first | omega | (simp only [lns]; omega)) (by first | omega | (simp only [lns]; omega)) (by first | omega | (simp only [lns]; omega)) rfl ?_) | (show VR _ _ _ (⟨_, .slice _ _ _ _ _, _, _, _, _⟩ :: _) _ _ _; first | refine vr_slice_rd (gk rfl) rfl rfl rfl (by first | exact .no | exact .int rfl rfl | exact .nat rfl (by omega)) (by first | exact .no | exact .int rfl rfl | exact .nat rfl (by omega)) (by omega) (by omega) rfl ?_ | refine vr_slice_head (gk rfl) rfl rfl (by first | exact .row | exact .full) rfl rfl (by first | exact .no | exact .int rfl rfl | exact .nat rfl (by omega)) (by first | omega | (simp only [lns]; omega)) (by first | omega | (simp only [lns]; omega)) rfl ?_ | refine vr_slice_sub (gk rfl) rfl rfl (by first | exact .row | exact .full) rfl rfl (by first | exact .no | exact .int rfl rfl | exact .nat rfl (by omega)) (by first | exact .no | exact .int rfl rfl | exact .nat rfl (by omega)) (by first | omega | (simp only [lns]; omega)) (by first | omega | (simp only [lns]; omega)) (by first | omega | (simp only [lns]; omega)) rfl ?_ | refine vr_slice_nils (gk rfl) rfl rfl (by first | exact .no | exact .int rfl rfl | exact .nat rfl (by omega)) (by first | exact .no | exact .int rfl rfl | exact .nat rfl (by omega)) (by omega) (by omega) rfl ?_) | (show VR _ _ _ (⟨_, .nilCheck _, _, _, _, _⟩ :: _) _ _ _; first | refine vr_nilCheck_rp (gk rfl) rfl rfl ?_ | refine vr_nilCheck_ptr (gk rfl) rfl rfl ?_ | refine vr_nilCheck_ep (gk rfl) rfl rfl ?_) | (show VR _ _ _ (⟨_, .convert _ _ _, _, _, _, _⟩ :: _) _ _ _; first | refine vr_convert_id (gk rfl) rfl ⟨_, rfl⟩ rfl (by first | exact wrap_i64 (by omega) | exact wrap_u64 (by omega) | exact wrap_u16 (by omega) | exact wrap_u8 (by omega) | exact wrap_u32 (by omega)) rfl ?_ | refine vr_convert (gk rfl) rfl ⟨_, rfl⟩ rfl rfl ?_) | (show VR _ _ _ (⟨_, .binOp _ _ _ _ _, _, _, _, _⟩ :: _) _ _ _; first | refine x_ariw rfl rfl rfl rfl rfl ?_) | (show VR _ _ _ (⟨_, .pick _ _ _, _, _, _, _⟩ :: _) _ _ _; first | refine vr_pick_true (gk rfl) rfl (by assumption) rfl rfl ?_ | refine vr_pick_false (gk rfl) rfl (by assumption) rfl rfl ?_) | refine x_gknow rfl (by assumption) ?_ | (refine x_gsplit rfl ?_ ?_ <;> intro h <;> have hq := h <;> (try simp only [hqs] at hq)))
                | (show VR _ _ _ [] _ _ _; first | refine vr_nil ?_ | refine vr_nil_t (by kernel_rfl) ?_)
                | (show thenQ _ _ _ _; first | refine q_then_n ?_ | refine q_then_x ?_ | refine q_then_r ?_)
                | (show blockQ _ _ _ _; first | refine q_blk_n ?_ | refine q_blk_r ?_ | refine q_blk_x ?_ | refine q_blk_o rfl ?_)
                | refine vc_seq ?_
                | refine vc_region ?_ | refine vc_region_t ?_
                | (show VC _ (.cond _ _ _) _ _; first | refine vc_cond_t rfl ?_ | refine vc_cond_f rfl ?_ | refine x_know rfl (by assumption) ?_ | (refine x_cond rfl ?_ ?_ <;> intro h <;> have hq := h <;> (try simp only [hqs] at hq)))
                | refine vc_ret ?_ | refine vc_exit ?_ | refine vc_block ?_ | refine vc_skip ?_ | refine vc_label ?_)
            all_goals first
              | (exfalso; omega)
              | (exfalso
                 refine absurd (t5 ?_) ?_
                 · assumption
                 · rintro ⟨i2, hi2, e2, e3⟩
                   exact hno _ (getD_mem hi2) e2)
              | skip
            all_goals
              refine ⟨(k + 1, o), ⟨by dsimp only; omega, ho.keep⟩, by dsimp only; omega, ?_⟩
              dsimp only
              refine le_gen0 (fun n => n) ?_ ?_ rfl (by first | rfl | (simp only [wfL, wfs, mpO_namesB, mpO_namesI]; rfl))
              all_goals repeat' (first | exact trivial | refine ⟨⟨_, rfl, ?_⟩, ?_⟩ | exact .c .d | exact .clo | exact .ep | exact .c (.ptr rfl) | exact .c (.mp rfl) | exact .c (.fn rfl) | exact .c (.row rfl rfl) | exact .c .nil | (refine .c (.row rfl ?_); ((try dsimp only); first | rfl | omega | (simp only [lns] <;> omega)); done) | (refine .c (cw_eq ?_); first | rfl | (congr 1; omega); done) | exact .boxD rfl rfl | exact .pin rfl | exact .mapO (fun _ => rfl) rfl | (refine .mapO (fun _ => rfl) ?_; ((try dsimp only); first | rfl | omega | (simp only [lns] <;> omega)); done) | exact .rowD rfl rowOf_isD | exact .rowD (rowOf_append.symm) rowOf_isD | exact .rowD (rowOf_set rfl) rowOf_isD | (refine .rowD ?_ rowOf_isD; rw [rowOf_append]; rfl) | (refine .rowD ?_ rowOf_isD; simp only [rowOf_append, List.append_assoc]; rfl) | refine .agg ?_ | refine .fncC ?_ | refine .box ?_ | exact .nil | refine .cons ?_ ?_ | exact .d | exact .ptr rfl | exact .row rfl rfl | (refine .row rfl ?_; ((try dsimp only); first | rfl | omega | (simp only [lns] <;> omega)); done))
          | some i =>
            have hix : FnS Try.prog 28 [AD (dps d), .clo (predφDp fun x => decide (x.id = (q.packets.getD k default).id))] [] (AI (i : Nat)) [] := by
              have := idxf_Dp d (fun x => decide (x.id = (q.packets.getD k default).id))
              rw [hf] at this
              exact this
            obtain ⟨hi, hid, _⟩ := fstO_some hf
            have hid := of_decide_eq_true hid
            have hasc : asc m (q.packets.getD k default).id = some (d.getD i default).slot := by rw [← hid]; exact hm.got i hi
            have f1 : (asc m (q.packets.getD k default).id).isSome = true := by rw [hasc]; rfl
            have f2 : (!(asc m (q.packets.getD k default).id).isSome) = false := by rw [hasc]; rfl
            have f3 : (asc m (q.packets.getD k default).id).getD 0 = (d.getD i default).slot := by rw [hasc]; rfl
            obtain ⟨⟨t0, ht0, hs0⟩, hundr⟩ := hof _ (getD_mem hi)
            cases hdr : (d.getD i default).dropped with
            | true =>
              have f4 : (!(d.getD i default).dropped) = false := by rw [hdr]; rfl
              rcases htail with ⟨t1, hbd, hst⟩ | ⟨t1, t2, hbd, hst⟩ | ⟨t1, t2, b, t3, hbd, ⟨t4, hst⟩ | ⟨t4, sb, hst, t5⟩⟩
              all_goals
                repeat' (first
                  | (show VR _ _ _ (_ :: _) _ _ _; first | refine x_opF rfl (by first | exact True.intro | omega) ?_ | (show VR _ _ _ (⟨_, .call ⟨.value _, _, _⟩, _, _, _, _⟩ :: _) _ _ _; first | refine vr_calldU (hbd) (gk rfl) rfl rfl rfl (by first | rfl | (simp only [wfRes, wfL, wfArgs, wfs, mpO_namesB, mpO_namesI]; rfl)) rfl (by first | exact newB_O | rfl) rfl ?_ | refine vr_calldU (hst) (gk rfl) rfl rfl rfl (by first | rfl | (simp only [wfRes, wfL, wfArgs, wfs, mpO_namesB, mpO_namesI]; rfl)) rfl (by first | exact newB_O | rfl) rfl ?_ | refine vr_callU [19] (hix) (gk rfl) rfl (by (repeat' (first | exact .nil | refine .cons ?_ ?_ | exact .of0 (.c .d) | exact .of0 .ep | exact .clo | exact (time1_fnc (by simp) rfl) | exact .of0 (.c .nil) | exact .of0 (.c (cr_rowO (by simp) rfl (by first | rfl | omega) (fun _ => rfl))) | refine .of0 (.agg ?_) | exact .d | exact .nil | exact .of0 (.c (cr_row (by decide) rfl rfl (by repeat' (first | exact trivial | refine ⟨?_, ?_⟩ | rfl)))))) <;> fail) (by first | rfl | exact hfl_O (fun _ => rfl) | exact hfl_O2 rfl (fun _ => rfl)) rfl (by first | rfl | (simp only [wfRes, wfL, wfArgs, wfs, mpO_namesB, mpO_namesI]; rfl)) rfl (by first | exact newB_O | rfl) rfl ?_) | (show VR _ _ _ (⟨_, .indexAddr _ _ _, _, _, _, _⟩ :: _) _ _ _; first | refine vr_index_rd (gk rfl) rfl rfl rfl rfl rfl (by omega) rfl ?_ | refine vr_index_rdP (gk rfl) rfl rfl rfl rfl rfl (by omega) rfl ?_ | refine vr_index_rdN (gk rfl) rfl rfl rfl rfl (by first | omega | decide) rfl ?_) | (show VR _ _ _ (⟨_, .makeMap _ none, _, _, _, _⟩ :: _) _ _ _; first | refine vr_makeMapB (gk rfl) rfl rfl rfl rfl ?_ | refine vr_makeMapI1 (gk rfl) rfl rfl rfl rfl rfl ?_ | refine vr_makeMapI2 (gk rfl) rfl rfl rfl rfl rfl ?_) | (show VR _ _ _ (⟨_, .lookup _ _ _ _, _, _, _, _⟩ :: _) _ _ _; first | refine vr_lookupB (gk rfl) rfl rfl rfl rfl rfl rfl ?_ | refine vr_lookupI1 (gk rfl) rfl rfl rfl rfl rfl rfl ?_ | refine vr_lookupI2 (gk rfl) rfl rfl rfl rfl rfl rfl ?_) | (show VR _ _ _ (⟨_, .mapUpdate _ _ _ _, _, _, _, _⟩ :: _) _ _ _; first | refine vr_mapUpdateB (gk rfl) rfl rfl rfl rfl rfl ?_ | refine vr_mapUpdateI1 (gk rfl) rfl rfl rfl rfl rfl ?_ | refine vr_mapUpdateI2 (gk rfl) rfl rfl rfl rfl rfl ?_) | (show VR _ _ _ (⟨_, .call ⟨.builtin .len, _, _⟩, _, _, _, _⟩ :: _) _ _ _; first | refine vr_len_mapO (gk rfl) rfl rfl rfl rfl ?_) | (show VR _ _ _ (⟨_, .build _ _, _, _, _, _⟩ :: _) _ _ _; first | refine vr_buildArr (gk rfl) rfl rfl rfl rfl rfl ?_) | (show VR _ _ _ (⟨_, .slice _ _ _ _ (some _), _, _, _, _⟩ :: _) _ _ _; first | refine vr_slice_max (gk rfl) rfl rfl rfl rfl (by first | exact .no | exact .int rfl rfl | exact .nat rfl (by omega)) (by first | exact .no | exact .int rfl rfl | exact .nat rfl (by omega)) (by first | exact .no | exact .int rfl rfl | exact .nat rfl (by omega)) (by first | omega | (simp only [lns]; omega)) (by first | omega | (simp only [lns]; omega)) (by first | omega | (simp only [lns]; omega)) rfl ?_) | (show VR _ _ _ (⟨_, .slice _ _ _ _ _, _, _, _, _⟩ :: _) _ _ _; first | refine vr_slice_rd (gk rfl) rfl rfl rfl (by first | exact .no | exact .int rfl rfl | exact .nat rfl (by omega)) (by first | exact .no | exact .int rfl rfl | exact .nat rfl (by omega)) (by omega) (by omega) rfl ?_ | refine vr_slice_head (gk rfl) rfl rfl (by first | exact .row | exact .full) rfl rfl (by first | exact .no | exact .int rfl rfl | exact .nat rfl (by omega)) (by first | omega | (simp only [lns]; omega)) (by first | omega | (simp only [lns]; omega)) rfl ?_ | refine vr_slice_sub (gk rfl) rfl rfl (by first | exact .row | exact .full) rfl rfl (by first | exact .no | exact .int rfl rfl | exact .nat rfl (by omega)) (by first | exact .no | exact .int rfl rfl | exact .nat rfl (by omega)) (by first | omega | (simp only [lns]; omega)) (by first | omega | (simp only [lns]; omega)) (by first | omega | (simp only [lns]; omega)) rfl ?_ | refine vr_slice_nils (gk rfl) rfl rfl (by first | exact .no | exact .int rfl rfl | exact .nat rfl (by omega)) (by first | exact .no | exact .int rfl rfl | exact .nat rfl (by omega)) (by omega) (by omega) rfl ?_) | (show VR _ _ _ (⟨_, .nilCheck _, _, _, _, _⟩ :: _) _ _ _; first | refine vr_nilCheck_rp (gk rfl) rfl rfl ?_ | refine vr_nilCheck_ptr (gk rfl) rfl rfl ?_ | refine vr_nilCheck_ep (gk rfl) rfl rfl ?_) | (show VR _ _ _ (⟨_, .convert _ _ _, _, _, _, _⟩ :: _) _ _ _; first | refine vr_convert_id (gk rfl) rfl ⟨_, rfl⟩ rfl (by first | exact wrap_i64 (by omega) | exact wrap_u64 (by omega) | exact wrap_u16 (by omega) | exact wrap_u8 (by omega) | exact wrap_u32 (by omega)) rfl ?_ | refine vr_convert (gk rfl) rfl ⟨_, rfl⟩ rfl rfl ?_) | (show VR _ _ _ (⟨_, .binOp _ _ _ _ _, _, _, _, _⟩ :: _) _ _ _; first | refine x_ariw rfl rfl rfl rfl rfl ?_) | (show VR _ _ _ (⟨_, .pick _ _ _, _, _, _, _⟩ :: _) _ _ _; first | refine vr_pick_true (gk rfl) rfl (by assumption) rfl rfl ?_ | refine vr_pick_false (gk rfl) rfl (by assumption) rfl rfl ?_) | refine x_gknow rfl (by assumption) ?_ | (refine x_gsplit rfl ?_ ?_ <;> intro h <;> have hq := h <;> (try simp only [hqs] at hq)))
                  | (show VR _ _ _ [] _ _ _; first | refine vr_nil ?_ | refine vr_nil_t (by kernel_rfl) ?_)
                  | (show thenQ _ _ _ _; first | refine q_then_n ?_ | refine q_then_x ?_ | refine q_then_r ?_)
                  | (show blockQ _ _ _ _; first | refine q_blk_n ?_ | refine q_blk_r ?_ | refine q_blk_x ?_ | refine q_blk_o rfl ?_)
                  | refine vc_seq ?_
                  | refine vc_region ?_ | refine vc_region_t ?_
                  | (show VC _ (.cond _ _ _) _ _; first | refine vc_cond_t rfl ?_ | refine vc_cond_f rfl ?_ | refine x_know rfl (by assumption) ?_ | (refine x_cond rfl ?_ ?_ <;> intro h <;> have hq := h <;> (try simp only [hqs] at hq)))
                  | refine vc_ret ?_ | refine vc_exit ?_ | refine vc_block ?_ | refine vc_skip ?_ | refine vc_label ?_)
              all_goals first
                | (exfalso; omega)
                | (exfalso
                   refine absurd (t5 ?_) ?_
                   · assumption
                   · rintro ⟨i2, hi2, e2, e3⟩
                     have := hinj hi2 hi (e2.trans hid.symm)
                     subst this
                     omega)
                | skip
              all_goals
                refine ⟨(k + 1, o), ⟨by dsimp only; omega, ho.keep⟩, by dsimp only; omega, ?_⟩
                dsimp only
                refine le_gen0 (fun n => n) ?_ ?_ rfl (by first | rfl | (simp only [wfL, wfs, mpO_namesB, mpO_namesI]; rfl))
                all_goals repeat' (first | exact trivial | refine ⟨⟨_, rfl, ?_⟩, ?_⟩ | exact .c .d | exact .clo | exact .ep | exact .c (.ptr rfl) | exact .c (.mp rfl) | exact .c (.fn rfl) | exact .c (.row rfl rfl) | exact .c .nil | (refine .c (.row rfl ?_); ((try dsimp only); first | rfl | omega | (simp only [lns] <;> omega)); done) | (refine .c (cw_eq ?_); first | rfl | (congr 1; omega); done) | exact .boxD rfl rfl | exact .pin rfl | exact .mapO (fun _ => rfl) rfl | (refine .mapO (fun _ => rfl) ?_; ((try dsimp only); first | rfl | omega | (simp only [lns] <;> omega)); done) | exact .rowD rfl rowOf_isD | exact .rowD (rowOf_append.symm) rowOf_isD | exact .rowD (rowOf_set rfl) rowOf_isD | (refine .rowD ?_ rowOf_isD; rw [rowOf_append]; rfl) | (refine .rowD ?_ rowOf_isD; simp only [rowOf_append, List.append_assoc]; rfl) | refine .agg ?_ | refine .fncC ?_ | refine .box ?_ | exact .nil | refine .cons ?_ ?_ | exact .d | exact .ptr rfl | exact .row rfl rfl | (refine .row rfl ?_; ((try dsimp only); first | rfl | omega | (simp only [lns] <;> omega)); done))
            | false =>
              have f4 : (!(d.getD i default).dropped) = true := by rw [hdr]; rfl
              obtain ⟨t, p, ht, hdep, hx⟩ := hundr hdr
              have hp : p = q.packets.getD k default := id_inj hok ((SL_in t).subset hdep.fresh.2) hmem (by rw [← hid, hx]; rfl)
              rw [hp] at hdep
              have hv : (asc m (q.packets.getD k default).id).getD 0 = first + t := by rw [f3, hx]; rfl
              have hfr := hdep.fresh.1
              rw [staleB_nn (by omega), ← hv] at hfr
              have hfr := of_decide_eq_false hfr
              have hput := ho.put hdep
              rw [← hv] at hput
              cases hao : asc o ((q.packets.getD k default).to, (q.packets.getD k default).prio) with
              | none =>
                have g1 : (asc o ((q.packets.getD k default).to, (q.packets.getD k default).prio)).isSome = false := by rw [hao]; rfl
                rcases htail with ⟨t1, hbd, hst⟩ | ⟨t1, t2, hbd, hst⟩ | ⟨t1, t2, b, t3, hbd, ⟨t4, hst⟩ | ⟨t4, sb, hst, t5⟩⟩
                all_goals
                  repeat' (first
                    | (show VR _ _ _ (_ :: _) _ _ _; first | refine x_opF rfl (by first | exact True.intro | omega) ?_ | (show VR _ _ _ (⟨_, .call ⟨.value _, _, _⟩, _, _, _, _⟩ :: _) _ _ _; first | refine vr_calldU (hbd) (gk rfl) rfl rfl rfl (by first | rfl | (simp only [wfRes, wfL, wfArgs, wfs, mpO_namesB, mpO_namesI]; rfl)) rfl (by first | exact newB_O | rfl) rfl ?_ | refine vr_calldU (hst) (gk rfl) rfl rfl rfl (by first | rfl | (simp only [wfRes, wfL, wfArgs, wfs, mpO_namesB, mpO_namesI]; rfl)) rfl (by first | exact newB_O | rfl) rfl ?_ | refine vr_callU [19] (hix) (gk rfl) rfl (by (repeat' (first | exact .nil | refine .cons ?_ ?_ | exact .of0 (.c .d) | exact .of0 .ep | exact .clo | exact (time1_fnc (by simp) rfl) | exact .of0 (.c .nil) | exact .of0 (.c (cr_rowO (by simp) rfl (by first | rfl | omega) (fun _ => rfl))) | refine .of0 (.agg ?_) | exact .d | exact .nil | exact .of0 (.c (cr_row (by decide) rfl rfl (by repeat' (first | exact trivial | refine ⟨?_, ?_⟩ | rfl)))))) <;> fail) (by first | rfl | exact hfl_O (fun _ => rfl) | exact hfl_O2 rfl (fun _ => rfl)) rfl (by first | rfl | (simp only [wfRes, wfL, wfArgs, wfs, mpO_namesB, mpO_namesI]; rfl)) rfl (by first | exact newB_O | rfl) rfl ?_) | (show VR _ _ _ (⟨_, .indexAddr _ _ _, _, _, _, _⟩ :: _) _ _ _; first | refine vr_index_rd (gk rfl) rfl rfl rfl rfl rfl (by omega) rfl ?_ | refine vr_index_rdP (gk rfl) rfl rfl rfl rfl rfl (by omega) rfl ?_ | refine vr_index_rdN (gk rfl) rfl rfl rfl rfl (by first | omega | decide) rfl ?_) | (show VR _ _ _ (⟨_, .makeMap _ none, _, _, _, _⟩ :: _) _ _ _; first | refine vr_makeMapB (gk rfl) rfl rfl rfl rfl ?_ | refine vr_makeMapI1 (gk rfl) rfl rfl rfl rfl rfl ?_ | refine vr_makeMapI2 (gk rfl) rfl rfl rfl rfl rfl ?_) | (show VR _ _ _ (⟨_, .lookup _ _ _ _, _, _, _, _⟩ :: _) _ _ _; first | refine vr_lookupB (gk rfl) rfl rfl rfl rfl rfl rfl ?_ | refine vr_lookupI1 (gk rfl) rfl rfl rfl rfl rfl rfl ?_ | refine vr_lookupI2 (gk rfl) rfl rfl rfl rfl rfl rfl ?_) | (show VR _ _ _ (⟨_, .mapUpdate _ _ _ _, _, _, _, _⟩ :: _) _ _ _; first | refine vr_mapUpdateB (gk rfl) rfl rfl rfl rfl rfl ?_ | refine vr_mapUpdateI1 (gk rfl) rfl rfl rfl rfl rfl ?_ | refine vr_mapUpdateI2 (gk rfl) rfl rfl rfl rfl rfl ?_) | (show VR _ _ _ (⟨_, .call ⟨.builtin .len, _, _⟩, _, _, _, _⟩ :: _) _ _ _; first | refine vr_len_mapO (gk rfl) rfl rfl rfl rfl ?_) | (show VR _ _ _ (⟨_, .build _ _, _, _, _, _⟩ :: _) _ _ _; first | refine vr_buildArr (gk rfl) rfl rfl rfl rfl rfl ?_) | (show VR _ _ _ (⟨_, .slice _ _ _ _ (some _), _, _, _, _⟩ :: _) _ _ _; first | refine vr_slice_max (gk rfl) rfl rfl rfl rfl (by first | exact .no | exact .int rfl rfl | exact .nat rfl (by omega)) (by first | exact .no | exact .int rfl rfl | exact .nat rfl (by omega)) (by first | exact .no | exact .int rfl rfl | exact .nat rfl (by omega)) (by first | omega | (simp only [lns]; omega)) (by first | omega | (simp only [lns]; omega)) (by first | omega | (simp only [lns]; omega)) rfl ?_) | (show VR _ _ _ (⟨_, .slice _ _ _ _ _, _, _, _, _⟩ :: _) _ _ _; first | refine vr_slice_rd (gk rfl) rfl rfl rfl (by first | exact .no | exact .int rfl rfl | exact .nat rfl (by omega)) (by first | exact .no | exact .int rfl rfl | exact .nat rfl (by omega)) (by omega) (by omega) rfl ?_ | refine vr_slice_head (gk rfl) rfl rfl (by first | exact .row | exact .full) rfl rfl (by first | exact .no | exact .int rfl rfl | exact .nat rfl (by omega)) (by first | omega | (simp only [lns]; omega)) (by first | omega | (simp only [lns]; omega)) rfl ?_ | refine vr_slice_sub (gk rfl) rfl rfl (by first | exact .row | exact .full) rfl rfl (by first | exact .no | exact .int rfl rfl | exact .nat rfl (by omega)) (by first | exact .no | exact .int rfl rfl | exact .nat rfl (by omega)) (by first | omega | (simp only [lns]; omega)) (by first | omega | (simp only [lns]; omega)) (by first | omega | (simp only [lns]; omega)) rfl ?_ | refine vr_slice_nils (gk rfl) rfl rfl (by first | exact .no | exact .int rfl rfl | exact .nat rfl (by omega)) (by first | exact .no | exact .int rfl rfl | exact .nat rfl (by omega)) (by omega) (by omega) rfl ?_) | (show VR _ _ _ (⟨_, .nilCheck _, _, _, _, _⟩ :: _) _ _ _; first | refine vr_nilCheck_rp (gk rfl) rfl rfl ?_ | refine vr_nilCheck_ptr (gk rfl) rfl rfl ?_ | refine vr_nilCheck_ep (gk rfl) rfl rfl ?_) | (show VR _ _ _ (⟨_, .convert _ _ _, _, _, _, _⟩ :: _) _ _ _; first | refine vr_convert_id (gk rfl) rfl ⟨_, rfl⟩ rfl (by first | exact wrap_i64 (by omega) | exact wrap_u64 (by omega) | exact wrap_u16 (by omega) | exact wrap_u8 (by omega) | exact wrap_u32 (by omega)) rfl ?_ | refine vr_convert (gk rfl) rfl ⟨_, rfl⟩ rfl rfl ?_) | (show VR _ _ _ (⟨_, .binOp _ _ _ _ _, _, _, _, _⟩ :: _) _ _ _; first | refine x_ariw rfl rfl rfl rfl rfl ?_) | (show VR _ _ _ (⟨_, .pick _ _ _, _, _, _, _⟩ :: _) _ _ _; first | refine vr_pick_true (gk rfl) rfl (by assumption) rfl rfl ?_ | refine vr_pick_false (gk rfl) rfl (by assumption) rfl rfl ?_) | refine x_gknow rfl (by assumption) ?_ | (refine x_gsplit rfl ?_ ?_ <;> intro h <;> have hq := h <;> (try simp only [hqs] at hq)))
                    | (show VR _ _ _ [] _ _ _; first | refine vr_nil ?_ | refine vr_nil_t (by kernel_rfl) ?_)
                    | (show thenQ _ _ _ _; first | refine q_then_n ?_ | refine q_then_x ?_ | refine q_then_r ?_)
                    | (show blockQ _ _ _ _; first | refine q_blk_n ?_ | refine q_blk_r ?_ | refine q_blk_x ?_ | refine q_blk_o rfl ?_)
                    | refine vc_seq ?_
                    | refine vc_region ?_ | refine vc_region_t ?_
                    | (show VC _ (.cond _ _ _) _ _; first | refine vc_cond_t rfl ?_ | refine vc_cond_f rfl ?_ | refine x_know rfl (by assumption) ?_ | (refine x_cond rfl ?_ ?_ <;> intro h <;> have hq := h <;> (try simp only [hqs] at hq)))
                    | refine vc_ret ?_ | refine vc_exit ?_ | refine vc_block ?_ | refine vc_skip ?_ | refine vc_label ?_)
                all_goals first
                  | (exfalso; omega)
                  | (exfalso
                     refine absurd (t5 ?_) ?_
                     · assumption
                     · rintro ⟨i2, hi2, e2, e3⟩
                       have := hinj hi2 hi (e2.trans hid.symm)
                       subst this
                       omega)
                  | skip
                all_goals
                  refine ⟨(k + 1, putA o ((q.packets.getD k default).to, (q.packets.getD k default).prio) ((asc m (q.packets.getD k default).id).getD 0)), ⟨by dsimp only; omega, hput⟩, by dsimp only; omega, ?_⟩
                  dsimp only
                  refine le_gen0 (fun n => n) ?_ ?_ rfl (by first | rfl | (simp only [wfL, wfs, mpO_namesB, mpO_namesI]; rfl))
                  all_goals repeat' (first | exact trivial | refine ⟨⟨_, rfl, ?_⟩, ?_⟩ | exact .c .d | exact .clo | exact .ep | exact .c (.ptr rfl) | exact .c (.mp rfl) | exact .c (.fn rfl) | exact .c (.row rfl rfl) | exact .c .nil | (refine .c (.row rfl ?_); ((try dsimp only); first | rfl | omega | (simp only [lns] <;> omega)); done) | (refine .c (cw_eq ?_); first | rfl | (congr 1; omega); done) | exact .boxD rfl rfl | exact .pin rfl | exact .mapO (fun _ => rfl) rfl | (refine .mapO (fun _ => rfl) ?_; ((try dsimp only); first | rfl | omega | (simp only [lns] <;> omega)); done) | exact .rowD rfl rowOf_isD | exact .rowD (rowOf_append.symm) rowOf_isD | exact .rowD (rowOf_set rfl) rowOf_isD | (refine .rowD ?_ rowOf_isD; rw [rowOf_append]; rfl) | (refine .rowD ?_ rowOf_isD; simp only [rowOf_append, List.append_assoc]; rfl) | refine .agg ?_ | refine .fncC ?_ | refine .box ?_ | exact .nil | refine .cons ?_ ?_ | exact .d | exact .ptr rfl | exact .row rfl rfl | (refine .row rfl ?_; ((try dsimp only); first | rfl | omega | (simp only [lns] <;> omega)); done))
              | some s0 =>
                have g1 : (asc o ((q.packets.getD k default).to, (q.packets.getD k default).prio)).isSome = true := by rw [hao]; rfl
                have g2 : (asc o ((q.packets.getD k default).to, (q.packets.getD k default).prio)).getD 0 ≤ (asc m (q.packets.getD k default).id).getD 0 := by
                  obtain ⟨j, t', h1, h2, h3, h4⟩ := ho _ _ hao
                  have := dep_order hok h1 hlt h2 hdep (Prod.mk.inj h4).1
                  rw [hao, hv, Option.getD_some]
                  omega
                rcases htail with ⟨t1, hbd, hst⟩ | ⟨t1, t2, hbd, hst⟩ | ⟨t1, t2, b, t3, hbd, ⟨t4, hst⟩ | ⟨t4, sb, hst, t5⟩⟩
                all_goals
                  repeat' (first
                    | (show VR _ _ _ (_ :: _) _ _ _; first | refine x_opF rfl (by first | exact True.intro | omega) ?_ | (show VR _ _ _ (⟨_, .call ⟨.value _, _, _⟩, _, _, _, _⟩ :: _) _ _ _; first | refine vr_calldU (hbd) (gk rfl) rfl rfl rfl (by first | rfl | (simp only [wfRes, wfL, wfArgs, wfs, mpO_namesB, mpO_namesI]; rfl)) rfl (by first | exact newB_O | rfl) rfl ?_ | refine vr_calldU (hst) (gk rfl) rfl rfl rfl (by first | rfl | (simp only [wfRes, wfL, wfArgs, wfs, mpO_namesB, mpO_namesI]; rfl)) rfl (by first | exact newB_O | rfl) rfl ?_ | refine vr_callU [19] (hix) (gk rfl) rfl (by (repeat' (first | exact .nil | refine .cons ?_ ?_ | exact .of0 (.c .d) | exact .of0 .ep | exact .clo | exact (time1_fnc (by simp) rfl) | exact .of0 (.c .nil) | exact .of0 (.c (cr_rowO (by simp) rfl (by first | rfl | omega) (fun _ => rfl))) | refine .of0 (.agg ?_) | exact .d | exact .nil | exact .of0 (.c (cr_row (by decide) rfl rfl (by repeat' (first | exact trivial | refine ⟨?_, ?_⟩ | rfl)))))) <;> fail) (by first | rfl | exact hfl_O (fun _ => rfl) | exact hfl_O2 rfl (fun _ => rfl)) rfl (by first | rfl | (simp only [wfRes, wfL, wfArgs, wfs, mpO_namesB, mpO_namesI]; rfl)) rfl (by first | exact newB_O | rfl) rfl ?_) | (show VR _ _ _ (⟨_, .indexAddr _ _ _, _, _, _, _⟩ :: _) _ _ _; first | refine vr_index_rd (gk rfl) rfl rfl rfl rfl rfl (by omega) rfl ?_ | refine vr_index_rdP (gk rfl) rfl rfl rfl rfl rfl (by omega) rfl ?_ | refine vr_index_rdN (gk rfl) rfl rfl rfl rfl (by first | omega | decide) rfl ?_) | (show VR _ _ _ (⟨_, .makeMap _ none, _, _, _, _⟩ :: _) _ _ _; first | refine vr_makeMapB (gk rfl) rfl rfl rfl rfl ?_ | refine vr_makeMapI1 (gk rfl) rfl rfl rfl rfl rfl ?_ | refine vr_makeMapI2 (gk rfl) rfl rfl rfl rfl rfl ?_) | (show VR _ _ _ (⟨_, .lookup _ _ _ _, _, _, _, _⟩ :: _) _ _ _; first | refine vr_lookupB (gk rfl) rfl rfl rfl rfl rfl rfl ?_ | refine vr_lookupI1 (gk rfl) rfl rfl rfl rfl rfl rfl ?_ | refine vr_lookupI2 (gk rfl) rfl rfl rfl rfl rfl rfl ?_) | (show VR _ _ _ (⟨_, .mapUpdate _ _ _ _, _, _, _, _⟩ :: _) _ _ _; first | refine vr_mapUpdateB (gk rfl) rfl rfl rfl rfl rfl ?_ | refine vr_mapUpdateI1 (gk rfl) rfl rfl rfl rfl rfl ?_ | refine vr_mapUpdateI2 (gk rfl) rfl rfl rfl rfl rfl ?_) | (show VR _ _ _ (⟨_, .call ⟨.builtin .len, _, _⟩, _, _, _, _⟩ :: _) _ _ _; first | refine vr_len_mapO (gk rfl) rfl rfl rfl rfl ?_) | (show VR _ _ _ (⟨_, .build _ _, _, _, _, _⟩ :: _) _ _ _; first | refine vr_buildArr (gk rfl) rfl rfl rfl rfl rfl ?_) | (show VR _ _ _ (⟨_, .slice _ _ _ _ (some _), _, _, _, _⟩ :: _) _ _ _; first | refine vr_slice_max (gk rfl) rfl rfl rfl rfl (by first | exact .no | exact .int rfl rfl | exact .nat rfl (by omega)) (by first | exact .no | exact .int rfl rfl | exact .nat rfl (by omega)) (by first | exact .no | exact .int rfl rfl | exact .nat rfl (by omega)) (by first | omega | (simp only [lns]; omega)) (by first | omega | (simp only [lns]; omega)) (by first | omega | (simp only [lns]; omega)) rfl ?_) | (show VR _ _ _ (⟨_, .slice _ _ _ _ _, _, _, _, _⟩ :: _) _ _ _; first | refine vr_slice_rd (gk rfl) rfl rfl rfl (by first | exact .no | exact .int rfl rfl | exact .nat rfl (by omega)) (by first | exact .no | exact .int rfl rfl | exact .nat rfl (by omega)) (by omega) (by omega) rfl ?_ | refine vr_slice_head (gk rfl) rfl rfl (by first | exact .row | exact .full) rfl rfl (by first | exact .no | exact .int rfl rfl | exact .nat rfl (by omega)) (by first | omega | (simp only [lns]; omega)) (by first | omega | (simp only [lns]; omega)) rfl ?_ | refine vr_slice_sub (gk rfl) rfl rfl (by first | exact .row | exact .full) rfl rfl (by first | exact .no | exact .int rfl rfl | exact .nat rfl (by omega)) (by first | exact .no | exact .int rfl rfl | exact .nat rfl (by omega)) (by first | omega | (simp only [lns]; omega)) (by first | omega | (simp only [lns]; omega)) (by first | omega | (simp only [lns]; omega)) rfl ?_ | refine vr_slice_nils (gk rfl) rfl rfl (by first | exact .no | exact .int rfl rfl | exact .nat rfl (by omega)) (by first | exact .no | exact .int rfl rfl | exact .nat rfl (by omega)) (by omega) (by omega) rfl ?_) | (show VR _ _ _ (⟨_, .nilCheck _, _, _, _, _⟩ :: _) _ _ _; first | refine vr_nilCheck_rp (gk rfl) rfl rfl ?_ | refine vr_nilCheck_ptr (gk rfl) rfl rfl ?_ | refine vr_nilCheck_ep (gk rfl) rfl rfl ?_) | (show VR _ _ _ (⟨_, .convert _ _ _, _, _, _, _⟩ :: _) _ _ _; first | refine vr_convert_id (gk rfl) rfl ⟨_, rfl⟩ rfl (by first | exact wrap_i64 (by omega) | exact wrap_u64 (by omega) | exact wrap_u16 (by omega) | exact wrap_u8 (by omega) | exact wrap_u32 (by omega)) rfl ?_ | refine vr_convert (gk rfl) rfl ⟨_, rfl⟩ rfl rfl ?_) | (show VR _ _ _ (⟨_, .binOp _ _ _ _ _, _, _, _, _⟩ :: _) _ _ _; first | refine x_ariw rfl rfl rfl rfl rfl ?_) | (show VR _ _ _ (⟨_, .pick _ _ _, _, _, _, _⟩ :: _) _ _ _; first | refine vr_pick_true (gk rfl) rfl (by assumption) rfl rfl ?_ | refine vr_pick_false (gk rfl) rfl (by assumption) rfl rfl ?_) | refine x_gknow rfl (by assumption) ?_ | (refine x_gsplit rfl ?_ ?_ <;> intro h <;> have hq := h <;> (try simp only [hqs] at hq)))
                    | (show VR _ _ _ [] _ _ _; first | refine vr_nil ?_ | refine vr_nil_t (by kernel_rfl) ?_)
                    | (show thenQ _ _ _ _; first | refine q_then_n ?_ | refine q_then_x ?_ | refine q_then_r ?_)
                    | (show blockQ _ _ _ _; first | refine q_blk_n ?_ | refine q_blk_r ?_ | refine q_blk_x ?_ | refine q_blk_o rfl ?_)
                    | refine vc_seq ?_
                    | refine vc_region ?_ | refine vc_region_t ?_
                    | (show VC _ (.cond _ _ _) _ _; first | refine vc_cond_t rfl ?_ | refine vc_cond_f rfl ?_ | refine x_know rfl (by assumption) ?_ | (refine x_cond rfl ?_ ?_ <;> intro h <;> have hq := h <;> (try simp only [hqs] at hq)))
                    | refine vc_ret ?_ | refine vc_exit ?_ | refine vc_block ?_ | refine vc_skip ?_ | refine vc_label ?_)
                all_goals first
                  | (exfalso; omega)
                  | (exfalso
                     refine absurd (t5 ?_) ?_
                     · assumption
                     · rintro ⟨i2, hi2, e2, e3⟩
                       have := hinj hi2 hi (e2.trans hid.symm)
                       subst this
                       omega)
                  | skip
                all_goals
                  refine ⟨(k + 1, putA o ((q.packets.getD k default).to, (q.packets.getD k default).prio) ((asc m (q.packets.getD k default).id).getD 0)), ⟨by dsimp only; omega, hput⟩, by dsimp only; omega, ?_⟩
                  dsimp only
                  refine le_gen0 (fun n => n) ?_ ?_ rfl (by first | rfl | (simp only [wfL, wfs, mpO_namesB, mpO_namesI]; rfl))
                  all_goals repeat' (first | exact trivial | refine ⟨⟨_, rfl, ?_⟩, ?_⟩ | exact .c .d | exact .clo | exact .ep | exact .c (.ptr rfl) | exact .c (.mp rfl) | exact .c (.fn rfl) | exact .c (.row rfl rfl) | exact .c .nil | (refine .c (.row rfl ?_); ((try dsimp only); first | rfl | omega | (simp only [lns] <;> omega)); done) | (refine .c (cw_eq ?_); first | rfl | (congr 1; omega); done) | exact .boxD rfl rfl | exact .pin rfl | exact .mapO (fun _ => rfl) rfl | (refine .mapO (fun _ => rfl) ?_; ((try dsimp only); first | rfl | omega | (simp only [lns] <;> omega)); done) | exact .rowD rfl rowOf_isD | exact .rowD (rowOf_append.symm) rowOf_isD | exact .rowD (rowOf_set rfl) rowOf_isD | (refine .rowD ?_ rowOf_isD; rw [rowOf_append]; rfl) | (refine .rowD ?_ rowOf_isD; simp only [rowOf_append, List.append_assoc]; rfl) | refine .agg ?_ | refine .fncC ?_ | refine .box ?_ | exact .nil | refine .cons ?_ ?_ | exact .d | exact .ptr rfl | exact .row rfl rfl | (refine .row rfl ?_; ((try dsimp only); first | rfl | omega | (simp only [lns] <;> omega)); done))
        · have hk' : k = q.packets.length := by omega
          subst hk'
          repeat' (first
            | (show VR _ _ _ (_ :: _) _ _ _; first | refine x_opF rfl (by first | exact True.intro | omega) ?_ | (show VR _ _ _ (⟨_, .indexAddr _ _ _, _, _, _, _⟩ :: _) _ _ _; first | refine vr_index_rd (gk rfl) rfl rfl rfl rfl rfl (by omega) rfl ?_ | refine vr_index_rdP (gk rfl) rfl rfl rfl rfl rfl (by omega) rfl ?_ | refine vr_index_rdN (gk rfl) rfl rfl rfl rfl (by first | omega | decide) rfl ?_) | (show VR _ _ _ (⟨_, .makeMap _ none, _, _, _, _⟩ :: _) _ _ _; first | refine vr_makeMapB (gk rfl) rfl rfl rfl rfl ?_ | refine vr_makeMapI1 (gk rfl) rfl rfl rfl rfl rfl ?_ | refine vr_makeMapI2 (gk rfl) rfl rfl rfl rfl rfl ?_) | (show VR _ _ _ (⟨_, .lookup _ _ _ _, _, _, _, _⟩ :: _) _ _ _; first | refine vr_lookupB (gk rfl) rfl rfl rfl rfl rfl rfl ?_ | refine vr_lookupI1 (gk rfl) rfl rfl rfl rfl rfl rfl ?_ | refine vr_lookupI2 (gk rfl) rfl rfl rfl rfl rfl rfl ?_) | (show VR _ _ _ (⟨_, .mapUpdate _ _ _ _, _, _, _, _⟩ :: _) _ _ _; first | refine vr_mapUpdateB (gk rfl) rfl rfl rfl rfl rfl ?_ | refine vr_mapUpdateI1 (gk rfl) rfl rfl rfl rfl rfl ?_ | refine vr_mapUpdateI2 (gk rfl) rfl rfl rfl rfl rfl ?_) | (show VR _ _ _ (⟨_, .call ⟨.builtin .len, _, _⟩, _, _, _, _⟩ :: _) _ _ _; first | refine vr_len_mapO (gk rfl) rfl rfl rfl rfl ?_) | (show VR _ _ _ (⟨_, .build _ _, _, _, _, _⟩ :: _) _ _ _; first | refine vr_buildArr (gk rfl) rfl rfl rfl rfl rfl ?_) | (show VR _ _ _ (⟨_, .slice _ _ _ _ (some _), _, _, _, _⟩ :: _) _ _ _; first | refine vr_slice_max (gk rfl) rfl rfl rfl rfl (by first | exact .no | exact .int rfl rfl | exact .nat rfl (by omega)) (by first | exact .no | exact .int rfl rfl | exact .nat rfl (by omega)) (by first | exact .no | exact .int rfl rfl | exact .nat rfl (by omega)) (by first | omega | (simp only [lns]; omega)) (by first | omega | (simp only [lns]; omega)) (by first | omega | (simp only [lns]; omega)) rfl ?_) | (show VR _ _ _ (⟨_, .slice _ _ _ _ _, _, _, _, _⟩ :: _) _ _ _; first | refine vr_slice_rd (gk rfl) rfl rfl rfl (by first | exact .no | exact .int rfl rfl | exact .nat rfl (by omega)) (by first | exact .no | exact .int rfl rfl | exact .nat rfl (by omega)) (by omega) (by omega) rfl ?_ | refine vr_slice_head (gk rfl) rfl rfl (by first | exact .row | exact .full) rfl rfl (by first | exact .no | exact .int rfl rfl | exact .nat rfl (by omega)) (by first | omega | (simp only [lns]; omega)) (by first | omega | (simp only [lns]; omega)) rfl ?_ | refine vr_slice_sub (gk rfl) rfl rfl (by first | exact .row | exact .full) rfl rfl (by first | exact .no | exact .int rfl rfl | exact .nat rfl (by omega)) (by first | exact .no | exact .int rfl rfl | exact .nat rfl (by omega)) (by first | omega | (simp only [lns]; omega)) (by first | omega | (simp only [lns]; omega)) (by first | omega | (simp only [lns]; omega)) rfl ?_ | refine vr_slice_nils (gk rfl) rfl rfl (by first | exact .no | exact .int rfl rfl | exact .nat rfl (by omega)) (by first | exact .no | exact .int rfl rfl | exact .nat rfl (by omega)) (by omega) (by omega) rfl ?_) | (show VR _ _ _ (⟨_, .nilCheck _, _, _, _, _⟩ :: _) _ _ _; first | refine vr_nilCheck_rp (gk rfl) rfl rfl ?_ | refine vr_nilCheck_ptr (gk rfl) rfl rfl ?_ | refine vr_nilCheck_ep (gk rfl) rfl rfl ?_) | (show VR _ _ _ (⟨_, .convert _ _ _, _, _, _, _⟩ :: _) _ _ _; first | refine vr_convert_id (gk rfl) rfl ⟨_, rfl⟩ rfl (by first | exact wrap_i64 (by omega) | exact wrap_u64 (by omega) | exact wrap_u16 (by omega) | exact wrap_u8 (by omega) | exact wrap_u32 (by omega)) rfl ?_ | refine vr_convert (gk rfl) rfl ⟨_, rfl⟩ rfl rfl ?_) | (show VR _ _ _ (⟨_, .binOp _ _ _ _ _, _, _, _, _⟩ :: _) _ _ _; first | refine x_ariw rfl rfl rfl rfl rfl ?_) | (show VR _ _ _ (⟨_, .pick _ _ _, _, _, _, _⟩ :: _) _ _ _; first | refine vr_pick_true (gk rfl) rfl (by assumption) rfl rfl ?_ | refine vr_pick_false (gk rfl) rfl (by assumption) rfl rfl ?_) | refine x_gknow rfl (by assumption) ?_ | (refine x_gsplit rfl ?_ ?_ <;> intro h <;> have hq := h <;> (try simp only [hqs] at hq)))
            | (show VR _ _ _ [] _ _ _; first | refine vr_nil ?_ | refine vr_nil_t (by kernel_rfl) ?_)
            | (show thenQ _ _ _ _; first | refine q_then_n ?_ | refine q_then_x ?_ | refine q_then_r ?_)
            | (show blockQ _ _ _ _; first | refine q_blk_n ?_ | refine q_blk_r ?_ | refine q_blk_x ?_ | refine q_blk_o rfl ?_)
            | refine vc_seq ?_
            | refine vc_region ?_ | refine vc_region_t ?_
            | (show VC _ (.cond _ _ _) _ _; first | refine vc_cond_t rfl ?_ | refine vc_cond_f rfl ?_ | refine x_know rfl (by assumption) ?_ | (refine x_cond rfl ?_ ?_ <;> intro h <;> have hq := h <;> (try simp only [hqs] at hq)))
            | refine vc_ret ?_ | refine vc_exit ?_ | refine vc_block ?_ | refine vc_skip ?_ | refine vc_label ?_)
          all_goals first
            | (exfalso; omega)
            | skip
          exact ret_bool isRet_r rfl rfl
theorem lawInTime_of (q : Qu) (first : Int) (ls : List Int) (id ev : Int) (hfi : 0 ≤ first ∧ first ≤ 65535) (he : 0 ≤ ev ∧ ev ≤ 255) :
    FnS Try.prog 8 [quA q, AD (.int .u16 first), AD (ints ls), AI id, AD (.int .u8 ev)] [] (AB true) [] := by
  have := lawInTime_spec q first ls id ev.toNat hfi (by omega)
  rwa [Int.toNat_of_nonneg he.1] at this
end Go.Proofs


