/-
  What functions of the given program hand back, by walks over its code, and plain laws on that. No condition.
-/
import Derived.Test.YtidijkcalgmadaaGreatSxVQi
-- SXS
-- SXM
namespace Go.Proofs.Q
open Go Go.Sx
set_option maxRecDepth 4000
set_option linter.unusedSimpArgs false
set_option linter.unusedVariables false
attribute [local irreducible] VR VC thenQ blockQ retL

set_option maxHeartbeats 1000000 in
theorem ahead_spec (q : Qu) (id : Int) : FnS Tryz.prog 36 [quA q, AI id] [] (.tup [AI (aheadQ q id).1, AI (aheadQ q id).2]) [] := by
  have hck := checkQ_spec q
  have hix := qindex_spec q id
  refine FnS.of_body (enters_of Tryz.func36 (by kernel_rfl) rfl) Tryz.func36 rfl Tryz.ntmps36 Tryz.results36 rfl rfl rfl rfl fun E hS => ?_
  by_cases hc : checkQ q = 0
  · rw [hc] at hck
    have hl := checkQ_len hc
    cases hf : idxId q.packets id with
    | none =>
      rw [hf] at hix
      have hix' : FnS Tryz.prog 91 [quA q, AI id] [] (AI (-1)) [] := hix
      rw [aheadQ_none hc hf]
      repeat' (first
        | (show VR _ _ _ (_ :: _) _ _ _; first | refine x_opF rfl (by first | exact True.intro | omega) ?_ | (show VR _ _ _ (⟨_, .call ⟨.value _, _, _⟩, _, _, _, _⟩ :: _) _ _ _; first | refine vr_calldU (hck) (gk rfl) rfl rfl rfl (by first | rfl | (simp only [wfRes, wfL, wfArgs, wfs, mpO_namesB, mpO_namesI]; rfl)) rfl (by first | exact newB_O | rfl) rfl ?_ | refine vr_calldU (hix') (gk rfl) rfl rfl rfl (by first | rfl | (simp only [wfRes, wfL, wfArgs, wfs, mpO_namesB, mpO_namesI]; rfl)) rfl (by first | exact newB_O | rfl) rfl ?_))
        | (show VR _ _ _ [] _ _ _; first | refine vr_nil ?_)
        | (show thenQ _ _ _ _; first | refine q_then_n ?_ | refine q_then_r ?_)
        | refine vc_seq ?_
        | refine vc_region ?_
        | (show VC _ (.cond _ _ _) _ _; first | refine vc_cond_t rfl ?_ | refine vc_cond_f rfl ?_)
        | refine vc_ret ?_ | refine vc_skip ?_
        | fail)
      exact ret_d2 isRet_r rfl rfl rfl rfl
    | some i =>
      rw [hf] at hix
      have hix' : FnS Tryz.prog 91 [quA q, AI id] [] (AI (i : Nat)) [] := hix
      obtain ⟨hi, _, _⟩ := fstO_some hf
      rw [aheadQ_some hc hf]
      repeat' (first
        | (show VR _ _ _ (_ :: _) _ _ _; first | refine x_opF rfl (by first | exact True.intro | omega) ?_ | (show VR _ _ _ (⟨_, .call ⟨.value _, _, _⟩, _, _, _, _⟩ :: _) _ _ _; first | refine vr_calldU (hck) (gk rfl) rfl rfl rfl (by first | rfl | (simp only [wfRes, wfL, wfArgs, wfs, mpO_namesB, mpO_namesI]; rfl)) rfl (by first | exact newB_O | rfl) rfl ?_ | refine vr_calldU (hix') (gk rfl) rfl rfl rfl (by first | rfl | (simp only [wfRes, wfL, wfArgs, wfs, mpO_namesB, mpO_namesI]; rfl)) rfl (by first | exact newB_O | rfl) rfl ?_) | (show VR _ _ _ (⟨_, .slice _ _ _ _ _, _, _, _, _⟩ :: _) _ _ _; first | refine vr_slice_rd (gk rfl) rfl rfl rfl (by first | exact .no | exact .int rfl rfl | exact .nat rfl (by omega)) (by first | exact .no | exact .int rfl rfl | exact .nat rfl (by omega)) (by omega) (by omega) rfl ?_))
        | (show VR _ _ _ [] _ _ _; first | refine vr_nil ?_)
        | (show thenQ _ _ _ _; first | refine q_then_n ?_)
        | refine vc_seq ?_
        | refine vc_region ?_
        | (show VC _ (.cond _ _ _) _ _; first | refine vc_cond_f rfl ?_)
        | refine vc_block ?_ | refine vc_skip ?_
        | fail)
      all_goals first
        | (exfalso; omega)
        | skip
      have hlt : (q.packets.take i).length = i := by rw [List.length_take]; omega
      refine vc_loopI (ι := Nat) (fun k => stOf [(2, .c (.ptr 2 0)), (6, AI i), (7, AI (((q.packets.take i).take k).filter fun x => decide (x.to = (q.packets.getD i default).to)).length), (21, AD (pks (q.packets.take i))), (22, AI i), (23, AI k)] [(2, .box q.cs)]) (fun k => k ≤ i) (fun k => i - k) 0 (Nat.zero_le _) ?_ ?_
      · refine le_gen0 (fun n => n) ?_ ?_ rfl (by first | rfl | (simp only [wfL, wfs, mpO_namesB, mpO_namesI]; rfl))
        all_goals repeat' (first | exact trivial | refine ⟨⟨_, rfl, ?_⟩, ?_⟩ | exact .c .d | exact .c (.ptr rfl) | exact .boxD rfl rfl | fail)
        exact .c (.imp (DLe.head (sz := 6) q.packets i (by omega)))
      · intro k hk
        have hcl := cnt_le (l := q.packets.take i) (p := fun x => decide (x.to = (q.packets.getD i default).to)) (k := k)
        repeat' (first
          | (show VR _ _ _ (_ :: _) _ _ _; first | refine x_opF rfl (by first | exact True.intro | omega) ?_ | (show VR _ _ _ (⟨_, .indexAddr _ _ _, _, _, _, _⟩ :: _) _ _ _; first | refine vr_index_rd (gk rfl) rfl rfl rfl rfl rfl (by omega) rfl ?_))
          | (show VR _ _ _ [] _ _ _; first | refine vr_nil ?_ | refine vr_nil_t (by kernel_rfl) ?_)
          | (show thenQ _ _ _ _; first | refine q_then_n ?_ | refine q_then_x ?_)
          | (show blockQ _ _ _ _; first | refine q_blk_n ?_ | refine q_blk_x ?_)
          | refine vc_seq ?_
          | refine vc_region ?_ | refine vc_region_t ?_
          | (show VC _ (.cond _ _ _) _ _; first | (refine x_cond rfl ?_ ?_ <;> intro h <;> have hq := h <;> (try simp only [hqs] at hq)))
          | refine vc_ret ?_ | refine vc_exit ?_ | refine vc_block ?_ | refine vc_skip ?_
          | fail)
        · refine ⟨k + 1, by omega, by omega, ?_⟩
          rw [cnt_step (by omega), if_pos (decide_eq_true hq)]
          refine le_gen0 (fun n => n) ?_ ?_ rfl (by first | rfl | (simp only [wfL, wfs, mpO_namesB, mpO_namesI]; rfl))
          all_goals repeat' (first | exact trivial | refine ⟨⟨_, rfl, ?_⟩, ?_⟩ | exact .c .d | exact .c (.ptr rfl) | exact .boxD rfl rfl | fail)
        · refine ⟨k + 1, by omega, by omega, ?_⟩
          rw [cnt_step (by omega), if_neg (by rw [decide_eq_true_eq]; exact hq)]
          refine le_gen0 (fun n => n) ?_ ?_ rfl (by first | rfl | (simp only [wfL, wfs, mpO_namesB, mpO_namesI]; rfl))
          all_goals repeat' (first | exact trivial | refine ⟨⟨_, rfl, ?_⟩, ?_⟩ | exact .c .d | exact .c (.ptr rfl) | exact .boxD rfl rfl | fail)
        · refine ret_d2 isRet_r rfl rfl ?_ rfl
          have : k = i := by omega
          subst this
          rw [aheadN, List.take_take, Nat.min_self]
  · rw [aheadQ_bad hc]
    have hd : decide (checkQ q ≠ 0) = true := by simp [hc]
    repeat' (first
      | (show VR _ _ _ (_ :: _) _ _ _; first | refine x_opF rfl (by first | exact True.intro | omega) ?_ | (show VR _ _ _ (⟨_, .call ⟨.value _, _, _⟩, _, _, _, _⟩ :: _) _ _ _; first | refine vr_calldU (hck) (gk rfl) rfl rfl rfl (by first | rfl | (simp only [wfRes, wfL, wfArgs, wfs, mpO_namesB, mpO_namesI]; rfl)) rfl (by first | exact newB_O | rfl) rfl ?_))
      | (show VR _ _ _ [] _ _ _; first | refine vr_nil ?_)
      | (show thenQ _ _ _ _; first | refine q_then_n ?_ | refine q_then_r ?_)
      | refine vc_seq ?_
      | refine vc_region ?_
      | (show VC _ (.cond _ _ _) _ _; first | refine vc_cond_t rfl ?_ | refine x_know rfl (by assumption) ?_)
      | refine vc_ret ?_
      | fail)
    exact ret_d2 isRet_r rfl rfl rfl rfl
theorem bound_spec (q : Qu) (id every : Int) : FnS Tryz.prog 11 [quA q, AI id, AI every] [] (.tup [AI (boundQ q id every).1, AI (boundQ q id every).2]) [] := by
  have hle := aheadQ_le (q := q) (id := id)
  refine FnS.of_body (enters_of Tryz.func11 (by kernel_rfl) rfl) Tryz.func11 rfl Tryz.ntmps11 Tryz.results11 rfl rfl rfl rfl fun E hS => ?_
  repeat' (first
    | (show VR _ _ _ (_ :: _) _ _ _; first | refine x_opF rfl (by first | exact True.intro | omega) ?_ | (show VR _ _ _ (⟨_, .call ⟨.value _, _, _⟩, _, _, _, _⟩ :: _) _ _ _; first | refine vr_calldU (ahead_spec q id) (gk rfl) rfl rfl rfl (by first | rfl | (simp only [wfRes, wfL, wfArgs, wfs, mpO_namesB, mpO_namesI]; rfl)) rfl (by first | exact newB_O | rfl) rfl ?_ | refine vr_calldU (within_spec _ _ _) (gk rfl) rfl rfl rfl (by first | rfl | (simp only [wfRes, wfL, wfArgs, wfs, mpO_namesB, mpO_namesI]; rfl)) rfl (by first | exact newB_O | rfl) rfl ?_))
    | (show VR _ _ _ [] _ _ _; first | refine vr_nil ?_)
    | (show thenQ _ _ _ _; first | refine q_then_n ?_ | refine q_then_r ?_)
    | (show VC _ (.seq _ _) _ _; (fail_if_success (show VC _ (.seq (.seq (.region 6 _ _) _) _) _ _)); (fail_if_success (show VC _ (.seq (.region 6 _ _) _) _ _)); refine vc_seq ?_)
    | refine vc_region ?_
    | (show VC _ (.cond _ _ _) _ _; first | (refine x_cond rfl ?_ ?_ <;> intro h <;> have hq := h <;> (try simp only [hqs] at hq)))
    | refine vc_ret ?_ | refine vc_skip ?_
    | fail)
  · refine ret_d2 isRet_r rfl rfl ?_ ?_ <;> (rw [boundQ, if_pos hq])
  · refine ret_d2 isRet_r rfl rfl ?_ ?_ <;> (rw [boundQ, if_neg (by omega), if_pos (by simp_all)])
  · have h1 : (aheadQ q id).2 = 0 := by omega
    have h2 : inI every 1 4096 = true := by simp_all
    have h3 : 1 ≤ every ∧ every ≤ 4096 := by simpa [inI] using h2
    have h4 := hle h1
    have h5 : 0 ≤ every * ((aheadQ q id).1 + 1) ∧ every * ((aheadQ q id).1 + 1) ≤ 4096 * 65 := ⟨Int.mul_nonneg (by omega) (by omega), Int.mul_le_mul (by omega) (by omega) (by omega) (by omega)⟩
    have e : boundQ q id every = (every * ((aheadQ q id).1 + 1), 0) := by rw [boundQ, if_neg (by omega), if_neg (by rw [h2]; simp)]
    rw [e]
    repeat' (first
      | (show VR _ _ _ (_ :: _) _ _ _; first | refine x_opF rfl (by first | exact True.intro | omega) ?_)
      | (show VR _ _ _ [] _ _ _; first | refine vr_nil ?_)
      | (show thenQ _ _ _ _; first | refine q_then_n ?_)
      | refine vc_seq ?_
      | refine vc_region ?_
      | refine vc_ret ?_
      | fail)
    exact ret_d2 isRet_r rfl rfl rfl rfl
structure OkQ (lim : Int) (l : List Pk) : Prop where
  bnd : 1 ≤ lim ∧ lim ≤ 64
  len : (l.length : Int) ≤ lim
  form : ∀ x ∈ l, formP x = 0
  pair : l.Pairwise fun x y => x.id ≠ y.id ∧ x.prio ≤ y.prio

theorem getD_el {l : List Pk} {k : Nat} (h : k < l.length) : l.getD k default = l[k] := by
  rw [List.getD_eq_getElem?_getD, List.getElem?_eq_getElem h]; rfl
theorem okQ_of {q : Qu} (h : checkQ q = 0) : OkQ q.limit q.packets := by
  obtain ⟨h1, h2, h3⟩ := checkQ_len h
  refine ⟨⟨h1, h2⟩, h3, fun x hx => ?_, List.pairwise_iff_getElem.2 fun i j hi hj hij => ?_⟩
  · obtain ⟨k, hk, rfl⟩ := mem_getD hx
    exact (checkQ_at h hk).1
  · rw [← getD_el hi, ← getD_el hj]
    refine ⟨checkQ_ne h hi hj (by omega), ?_⟩
    have key : ∀ d, i + d < q.packets.length → (q.packets.getD i default).prio ≤ (q.packets.getD (i + d) default).prio := by
      intro d
      induction d with
      | zero => intro _; exact Int.le_refl _
      | succ d ih =>
        intro hd
        have h4 := (checkQ_at h hd).2.2 (by omega)
        rw [show i + (d + 1) - 1 = i + d by omega] at h4
        exact Int.le_trans (ih (by omega)) h4
    have := key (j - i) (by omega)
    rwa [show i + (j - i) = j by omega] at this
theorem okQ_check {lim : Int} {l : List Pk} (h : OkQ lim l) : checkQ ⟨lim, l⟩ = 0 := by
  unfold checkQ
  have h1 := h.bnd
  have h2 := h.len
  rw [if_neg (by simp only [inI]; simp; omega), if_neg (by dsimp only; omega)]
  refine firstErr_none fun k hk => ?_
  dsimp only at hk ⊢
  have hp := List.pairwise_iff_getElem.1 h.pair
  unfold pkErr
  rw [if_neg (by simp only [ne_eq, Decidable.not_not]; exact h.form _ (getD_mem hk)), if_neg ?_, if_neg ?_]
  · rintro ⟨h0, h3⟩
    have := (hp (k - 1) k (by omega) hk (by omega)).2
    rw [getD_el hk, getD_el (show k - 1 < l.length by omega)] at h3
    omega
  · intro ha
    rw [List.any_eq_true] at ha
    obtain ⟨x, hx, he⟩ := ha
    obtain ⟨i, hi, hil, rfl⟩ := mem_take_getD hx
    have := (hp i k hil hk hi).1
    rw [getD_el hk, getD_el hil] at he
    exact this (of_decide_eq_true he)
theorem OkQ.sub {lim : Int} {l m : List Pk} (h : OkQ lim l) (hs : m.Sublist l) : OkQ lim m :=
  ⟨h.bnd, by have := h.len; have := hs.length_le; omega, fun x hx => h.form x (hs.subset hx), h.pair.sublist hs⟩
theorem idxId_at {lim : Int} {l : List Pk} (h : OkQ lim l) {i : Nat} (hi : i < l.length) : idxId l (l.getD i default).id = some i := by
  refine fstO_hit (fun j hj => decide_eq_false ?_) hi (decide_eq_true rfl)
  have := (List.pairwise_iff_getElem.1 h.pair j i (by omega) hi hj).1
  rw [getD_el hi, getD_el (show j < l.length by omega)]
  exact this
def idsP (l : List Pk) : List Int := l.map Pk.id
theorem insAt_perm (l : List Pk) (i : Nat) (p : Pk) : (insAt l i p).Perm (p :: l) := by
  unfold insAt
  exact (List.perm_middle).trans (by rw [List.take_append_drop])
theorem okQ_ins {lim : Int} {l : List Pk} {p : Pk} (h : OkQ lim l) (hp : formP p = 0) (hi : p.id ∉ idsP l) (hl : (l.length : Int) + 1 ≤ lim) : OkQ lim (insAt l (atP l p.prio) p) := by
  have hpw := List.pairwise_iff_getElem.1 h.pair
  have hne : ∀ x ∈ l, x.id ≠ p.id := fun x hx e => hi (List.mem_map.2 ⟨x, hx, e⟩)
  have hlo : ∀ x ∈ l.take (atP l p.prio), x.prio ≤ p.prio := fun x hx => by
    obtain ⟨k, hk, hkl, rfl⟩ := mem_take_getD hx
    unfold atP at hk
    cases hf : fstO l fun x => decide (p.prio < x.prio) with
    | none =>
      have := of_decide_eq_false (fstO_notmem hf _ (getD_mem hkl)); omega
    | some j =>
      rw [hf] at hk
      have := of_decide_eq_false ((fstO_some hf).2.2 k hk); omega
  have hhi : ∀ y ∈ l.drop (atP l p.prio), p.prio ≤ y.prio := fun y hy => by
    unfold atP at hy
    cases hf : fstO l fun x => decide (p.prio < x.prio) with
    | none => rw [hf] at hy; simp at hy
    | some j =>
      rw [hf] at hy
      obtain ⟨hj, hpj, _⟩ := fstO_some hf
      have hpj := of_decide_eq_true hpj
      obtain ⟨k, hk, rfl⟩ := List.getElem_of_mem hy
      rw [Option.getD_some, List.length_drop] at hk
      simp only [Option.getD_some, List.getElem_drop]
      rw [getD_el hj] at hpj
      rcases Nat.eq_zero_or_pos k with rfl | h0
      · simp only [Nat.add_zero]; omega
      · have := (hpw j (j + k) hj (by omega) (by omega)).2
        omega
  refine ⟨h.bnd, by rw [(insAt_perm l _ p).length_eq, List.length_cons]; omega, fun x hx => ?_, ?_⟩
  · rcases List.mem_cons.1 ((insAt_perm l _ p).mem_iff.1 hx) with rfl | hx
    · exact hp
    · exact h.form x hx
  · unfold insAt
    rw [List.pairwise_append]
    refine ⟨h.pair.sublist (List.take_sublist _ _), List.pairwise_cons.2 ⟨fun y hy => ⟨fun e => hne y (List.mem_of_mem_drop hy) e.symm, hhi y hy⟩, h.pair.sublist (List.drop_sublist _ _)⟩, fun x hx y hy => ?_⟩
    rcases List.mem_cons.1 hy with rfl | hy
    · exact ⟨hne x (List.mem_of_mem_take hx), hlo x hx⟩
    · have hp2 := h.pair
      rw [← List.take_append_drop (atP l p.prio) l, List.pairwise_append] at hp2
      exact hp2.2.2 x hx y hy
theorem putQ_ok {q : Qu} {p : Pk} (hc : checkQ q = 0) (h : (putQ q p).2.2 = 0) : p.id ∉ idsP q.packets ∧ (putQ q p).1.limit = q.limit ∧ OkQ q.limit (putQ q p).1.packets ∧
    (idsP (putQ q p).2.1 ++ idsP (putQ q p).1.packets).Perm (p.id :: idsP q.packets) := by
  have hok := okQ_of hc
  have hl := checkQ_len hc
  unfold putQ at h ⊢
  rw [if_neg (by omega)] at h ⊢
  by_cases hf : formP p = 0
  · rw [if_neg (by omega)] at h ⊢
    by_cases ha : (q.packets.any fun x => decide (x.id = p.id)) = true
    · rw [if_pos ha] at h; cases h
    · rw [if_neg ha] at h ⊢
      have hi : p.id ∉ idsP q.packets := fun hm => by
        obtain ⟨x, hx, e⟩ := List.mem_map.1 hm
        exact ha (List.any_eq_true.2 ⟨x, hx, decide_eq_true e⟩)
      by_cases hfull : (q.packets.length : Int) = q.limit
      · rw [if_pos hfull] at h ⊢
        by_cases hpr : (q.packets.getD (q.packets.length - 1) default).prio ≤ p.prio
        · rw [if_pos hpr] at h; cases h
        · rw [if_neg hpr]
          have hsub : OkQ q.limit (q.packets.take (q.packets.length - 1)) := hok.sub (List.take_sublist _ _)
          have hi' : p.id ∉ idsP (q.packets.take (q.packets.length - 1)) := fun hm => by
            obtain ⟨x, hx, e⟩ := List.mem_map.1 hm
            exact hi (List.mem_map.2 ⟨x, List.mem_of_mem_take hx, e⟩)
          refine ⟨hi, rfl, okQ_ins hsub hf hi' (by rw [List.length_take]; omega), ?_⟩
          have e1 : q.packets.take (q.packets.length - 1) ++ [q.packets.getD (q.packets.length - 1) default] = q.packets := by
            have := take_getD (l := q.packets) (i := q.packets.length - 1) (by omega)
            rw [← this, List.take_of_length_le (by omega)]
          have h2 : (idsP (insAt (q.packets.take (q.packets.length - 1)) (atP (q.packets.take (q.packets.length - 1)) p.prio) p)).Perm (p.id :: idsP (q.packets.take (q.packets.length - 1))) := (insAt_perm _ _ p).map Pk.id
          have h3 : (idsP [q.packets.getD (q.packets.length - 1) default] ++ idsP (q.packets.take (q.packets.length - 1))).Perm (idsP q.packets) := by
            have : (idsP (q.packets.take (q.packets.length - 1)) ++ idsP [q.packets.getD (q.packets.length - 1) default]) = idsP q.packets := by unfold idsP; rw [← List.map_append, e1]
            rw [← this]
            exact List.perm_append_comm
          exact (h2.append_left _).trans (List.perm_middle.trans (h3.cons _))
      · rw [if_neg hfull]
        refine ⟨hi, rfl, okQ_ins hok hf hi (by omega), ?_⟩
        exact (insAt_perm _ _ p).map Pk.id
  · rw [if_pos hf] at h; exact absurd h hf

end Go.Proofs.Q


