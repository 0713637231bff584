/-
  What functions of the given program hand back, by walks over its code, and plain laws on that. No condition.
-/
import Derived.Test.YtecdajajocafdaaSxO18xd
import Derived.Test.YtecdajajocafdaaSxLibC
-- SXS
-- SXM
-- SXB
-- SXN
namespace Go.Proofs
open Go Go.Sx Go.Proofs.T Go.Proofs.Q
set_option maxRecDepth 4000
set_option linter.unusedSimpArgs false
set_option linter.unusedVariables false
attribute [local irreducible] VR VC thenQ blockQ retL
theorem of_put {L : List Pk} {i : Nat} {d : ByteArray} (h : OkL L) (hl : L.length < 8) (hi : ∀ p ∈ L, p.id < i) (hd : d.size ≤ 100) : FnS Try.prog 8 [stA (oA L 0 0), pkA (oP i d)] [] (.tup [stA (oA (L ++ [oP i d]) 0 0), AD (pks []), AI 0]) [] := by
  have h1 := mput_spec (oA L 0 0) (oP i d)
  rwa [(o_put h hl hi hd).1] at h1
theorem of_put8 {L : List Pk} {i : Nat} {d : ByteArray} (h : OkL L) (hl : L.length < 8) (hi : ∀ p ∈ L, p.id < i) (hd : 100 < d.size) : FnS Try.prog 8 [stA (oA L 0 0), pkA (oP i d)] [] (.tup [stA noS, AD (pks []), AI 8]) [] := by
  have h1 := mput_spec (oA L 0 0) (oP i d)
  rwa [o_put8 h hl hi hd] at h1
theorem of_actA {L : List Pk} {sent tries : Int} (h : OkL L) (hs : 0 ≤ sent ∧ sent ≤ 8) (ht : 0 ≤ tries ∧ tries ≤ 3) (h0 : L = [] → tries = 0) (k : Nat) (hk : k < 60) : FnS Try.prog 9 [stA (oA L sent tries), AI (2 * k)] [] (.tup [acA (oX L sent), AI 0]) [] := by
  have h1 := act_spec (oA L sent tries) (2 * k)
  have e : actS (oA L sent tries) (2 * k) = (oX L sent, 0) := by
    rw [actS, if_neg (by rw [o_okA h hs ht h0]; exact fun h => h rfl), if_neg (by omega), show (oA L sent tries).tb = tA from rfl, o_atA, o_actA h]
  rwa [e] at h1
theorem of_actB {seen : List Sn} {sent : Int} (h : OkSn seen sent) (hs : 0 ≤ sent ∧ sent ≤ 8) (k : Nat) (hk : k < 60) : FnS Try.prog 9 [stA (oB seen), AI (2 * k)] [] (.tup [acA lisA, AI 0]) [] := by
  have h1 := act_spec (oB seen) (2 * k)
  have e : actS (oB seen) (2 * k) = (lisA, 0) := by
    rw [actS, if_neg (by rw [o_okB h hs]; exact fun h => h rfl), if_neg (by omega), show (oB seen).tb = tB from rfl, o_atB, o_actB]
  rwa [e] at h1
theorem of_doneB0 {seen : List Sn} {sent : Int} (h : OkSn seen sent) (hs : 0 ≤ sent ∧ sent ≤ 8) (k : Nat) (hk : k < 60) (x : Ac) : FnS Try.prog 10 [stA (oB seen), AI (2 * k), rsA (oRb x false)] [] (.tup [stA (oB seen), upA zUp, AI 0]) [] := by
  have h1 := done_free (oB seen) (2 * k) (oRb x false) (o_okB h hs) (by omega) (by rintro ⟨_, _, h⟩; cases h)
  rw [show (oB seen).tb = tB from rfl, o_atB, o_doneB0] at h1
  exact h1
theorem of_doneB {seen : List Sn} {sent : Int} (h : OkSn seen sent) (hs : 0 ≤ sent ∧ sent ≤ 8) (k : Nat) (hk : k < 60) (p : Pk) (b : Bool) (hb : b = true) (w : Bool) (hw : (!decide (seen = [⟨1, sent⟩])) = w) : FnS Try.prog 10 [stA (oB seen), AI (2 * k), rsA (oRb (oM p sent) b)] [] (.tup [stA (oB [⟨1, sent⟩]), upA (upOf (oF p sent) w), AI 0]) [] := by
  subst hb hw
  have h1 := done_free (oB seen) (2 * k) (oRb (oM p sent) true) (o_okB h hs) (by omega) (by rintro ⟨_, _, h⟩; cases h)
  rw [show (oB seen).tb = tB from rfl, o_atB, o_doneB h hs] at h1
  exact h1
theorem of_doneA0 {sent : Int} (hs : 0 ≤ sent ∧ sent ≤ 8) (k : Nat) (hk : k < 60) (b : Bool) : FnS Try.prog 10 [stA (oA [] sent 0), AI (2 * k), rsA (oRa b)] [] (.tup [stA (oA [] sent 0), upA zUp, AI 0]) [] := by
  have hz : OkL [] := ⟨by simp, by simp, by simp⟩
  have h1 := done_free (oA [] sent 0) (2 * k) (oRa b) (o_okA hz hs (by omega) (fun _ => rfl)) (by omega) (by
    rw [show (oA [] sent 0).tb = tA from rfl, o_atA, o_actA hz]
    rintro ⟨h, _⟩; cases h)
  rw [show (oA [] sent 0).tb = tA from rfl, o_atA, o_doneA0] at h1
  exact h1
theorem of_doneA {p : Pk} {L : List Pk} {sent tries : Int} (h : OkL (p :: L)) (hs : 0 ≤ sent ∧ sent ≤ 8) (ht : 0 ≤ tries ∧ tries ≤ 3) (k : Nat) (hk : k < 60) (b : Bool) :
    FnS Try.prog 10 [stA (oA (p :: L) sent tries), AI (2 * k), rsA (oRa b)] [] (.tup [stA (if b = true ∨ tries = 3 then oA L (sent + 1) 0 else oA (p :: L) sent (tries + 1)), upA zUp, AI 0]) [] := by
  have h1 := done_free (oA (p :: L) sent tries) (2 * k) (oRa b) (o_okA h hs ht (fun h => by cases h)) (by omega) (by
    rw [show (oA (p :: L) sent tries).tb = tA from rfl, o_atA, o_actA h]
    rintro ⟨_, h, _⟩; cases h)
  rw [show (oA (p :: L) sent tries).tb = tA from rfl, o_atA, o_doneA h hs ht] at h1
  exact h1
abbrev encF (x : Int) : List D := [.int .u8 x]
abbrev encS (x : ByteArray) : List D := [.str x]
def curO (seen : List Sn) (sent : Int) : Nat := if seen = [⟨1, sent⟩] then 1 else 0
structure InvO (put : Nat) (L : List Pk) (sent tries : Int) (seen : List Sn) (got acked : List ByteArray) : Prop where
  ok : OkL L
  s0 : 0 ≤ sent
  sum : sent + L.length = put
  p8 : put ≤ 8
  t : 0 ≤ tries ∧ tries ≤ 3
  t0 : L = [] → tries = 0
  sn : OkSn seen sent
  last : seen = [⟨1, sent⟩] → L ≠ [] ∧ ∃ g, got = g ++ [(L.getD 0 default).data]
  c1 : (got.length : Int) ≤ sent + curO seen sent
  c2 : acked.length + curO seen sent ≤ got.length
theorem cur_self (sent : Int) : curO [⟨1, sent⟩] sent = 1 := if_pos rfl
theorem inv_stay {put : Nat} {p : Pk} {L : List Pk} {sent tries : Int} {seen : List Sn} {got acked : List ByteArray} (h : OkL (p :: L)) (hs : 0 ≤ sent) (hsum : sent + ((p :: L).length : Nat) = put) (h8 : put ≤ 8) (ht : 0 ≤ tries ∧ tries ≤ 3) (hsn : OkSn seen sent)
    (hl : seen = [⟨1, sent⟩] → p :: L ≠ [] ∧ ∃ g, got = g ++ [((p :: L).getD 0 default).data]) (h1 : (got.length : Int) ≤ sent + curO seen sent) (h2 : acked.length + curO seen sent ≤ got.length) : InvO put (p :: L) sent tries seen got acked :=
  { ok := h, s0 := hs, sum := hsum, p8 := h8, t := ht, t0 := fun h => absurd h (by simp), sn := hsn, last := hl, c1 := h1, c2 := h2 }
theorem inv_leave {put : Nat} {p : Pk} {L : List Pk} {sent : Int} {seen : List Sn} {got acked : List ByteArray} (h : OkL (p :: L)) (hs : 0 ≤ sent) (hsum : sent + ((p :: L).length : Nat) = put) (h8 : put ≤ 8) (hsn : OkSn seen sent)
    (h1 : (got.length : Int) ≤ sent + 1) (h2 : acked.length ≤ got.length) : InvO put L (sent + 1) 0 seen got acked := by
  have hc : curO seen (sent + 1) = 0 := by
    refine if_neg fun e => ?_
    rcases hsn with h | ⟨q, h, hq⟩
    · rw [h] at e; cases e
    · rw [h] at e
      simp at e
      omega
  refine { ok := h.tail, s0 := by omega, sum := ?_, p8 := h8, t := by omega, t0 := fun _ => rfl, sn := ?_, last := fun e => ?_, c1 := by rw [hc]; omega, c2 := by rw [hc]; omega }
  · rw [List.length_cons] at hsum; omega
  · exact hsn.imp id fun ⟨q, h, hq⟩ => ⟨q, h, by omega⟩
  · unfold curO at hc
    rw [if_pos e] at hc
    cases hc
set_option maxHeartbeats 4000000 in
theorem lawOnce_spec (data : List ByteArray) (fs : List Int) (hfs : ∀ x ∈ fs, 0 ≤ x ∧ x < 256) :
    FnS Try.prog 3 [AD (strs data), AD (rdOf encF 1 fs)] [] (AB true) [] := by
  refine FnS.of_body (enters_of Try.func3 (by kernel_rfl) rfl) Try.func3 rfl Try.ntmps3 Try.results3 rfl rfl rfl rfl fun E hS => ?_
  by_cases h1 : 8 < data.length
  · have hd1 : decide ((8 : Int) < (data.length : Int)) = true := decide_eq_true (by omega)
    repeat' (first
      | (show VR _ _ _ (_ :: _) _ _ _; first | refine x_opF rfl (by first | exact True.intro | omega) ?_ | (show VR _ _ _ (⟨_, .call ⟨.value _, _, _⟩, _, _, _, _⟩ :: _) _ _ _; first | refine vr_calldU (awake_spec) (gk rfl) rfl rfl rfl (by first | rfl | (simp only [wfRes, wfL, wfArgs, wfs, mpO_namesB, mpO_namesI]; rfl)) rfl (by first | exact newB_nil | exact newB_O | ((simp only [newB, List.map_cons, List.map_nil, Blk.shift, rowOf_shift]) <;> rfl) | rfl) rfl ?_) | refine x_gknow rfl (by assumption) ?_)
      | (show VR _ _ _ [] _ _ _; first | refine vr_nil ?_)
      | (show thenQ _ _ _ _; first | refine q_then_n ?_ | refine q_then_r ?_)
      | refine vc_seq ?_
      | refine vc_region ?_
      | (show VC _ (.cond _ _ _) _ _; first | refine vc_cond_t rfl ?_ | refine vc_cond_f rfl ?_)
      | refine vc_ret ?_ | refine vc_skip ?_
      | fail)
    all_goals exact ret_bool isRet_r rfl rfl
  have hd1 : decide ((8 : Int) < (data.length : Int)) = false := decide_eq_false (by omega)
  by_cases h2 : 60 < fs.length
  · have hd2 : decide ((60 : Int) < (fs.length : Int)) = true := decide_eq_true (by omega)
    repeat' (first
      | (show VR _ _ _ (_ :: _) _ _ _; first | refine x_opF rfl (by first | exact True.intro | omega) ?_ | (show VR _ _ _ (⟨_, .call ⟨.value _, _, _⟩, _, _, _, _⟩ :: _) _ _ _; first | refine vr_calldU (awake_spec) (gk rfl) rfl rfl rfl (by first | rfl | (simp only [wfRes, wfL, wfArgs, wfs, mpO_namesB, mpO_namesI]; rfl)) rfl (by first | exact newB_nil | exact newB_O | ((simp only [newB, List.map_cons, List.map_nil, Blk.shift, rowOf_shift]) <;> rfl) | rfl) rfl ?_) | refine x_gknow rfl (by assumption) ?_)
      | (show VR _ _ _ [] _ _ _; first | refine vr_nil ?_)
      | (show thenQ _ _ _ _; first | refine q_then_n ?_ | refine q_then_r ?_)
      | refine vc_seq ?_
      | refine vc_region ?_
      | (show VC _ (.cond _ _ _) _ _; first | refine vc_cond_t rfl ?_ | refine vc_cond_f rfl ?_)
      | refine vc_ret ?_ | refine vc_skip ?_
      | fail)
    all_goals exact ret_bool isRet_r rfl rfl
  have hd2 : decide ((60 : Int) < (fs.length : Int)) = false := decide_eq_false (by omega)
  have hl := lfew_spec data
  cases hfw : (!data.any fun x => decide (200 < (x.size : Int))) with
  | false =>
    rw [hfw] at hl
    repeat' (first
      | (show VR _ _ _ (_ :: _) _ _ _; first | refine x_opF rfl (by first | exact True.intro | omega) ?_ | (show VR _ _ _ (⟨_, .call ⟨.value _, _, _⟩, _, _, _, _⟩ :: _) _ _ _; first | refine vr_calldU (awake_spec) (gk rfl) rfl rfl rfl (by first | rfl | (simp only [wfRes, wfL, wfArgs, wfs, mpO_namesB, mpO_namesI]; rfl)) rfl (by first | exact newB_nil | exact newB_O | ((simp only [newB, List.map_cons, List.map_nil, Blk.shift, rowOf_shift]) <;> rfl) | rfl) rfl ?_ | refine vr_calldU (hl) (gk rfl) rfl rfl rfl (by first | rfl | (simp only [wfRes, wfL, wfArgs, wfs, mpO_namesB, mpO_namesI]; rfl)) rfl (by first | exact newB_nil | exact newB_O | ((simp only [newB, List.map_cons, List.map_nil, Blk.shift, rowOf_shift]) <;> rfl) | rfl) rfl ?_) | refine x_gknow rfl (by assumption) ?_)
      | (show VR _ _ _ [] _ _ _; first | refine vr_nil ?_)
      | (show thenQ _ _ _ _; first | refine q_then_n ?_ | refine q_then_r ?_)
      | refine vc_seq ?_
      | refine vc_region ?_
      | (show VC _ (.cond _ _ _) _ _; first | refine vc_cond_t rfl ?_ | refine vc_cond_f rfl ?_)
      | refine vc_ret ?_ | refine vc_skip ?_
      | fail)
    exact ret_bool isRet_r rfl rfl
  | true =>
    rw [hfw] at hl
    repeat' (first
      | (show VR _ _ _ (_ :: _) _ _ _; first | refine x_opF rfl (by first | exact True.intro | omega) ?_ | (show VR _ _ _ (⟨_, .call ⟨.value _, _, _⟩, _, _, _, _⟩ :: _) _ _ _; first | refine vr_calldU (awake_spec) (gk rfl) rfl rfl rfl (by first | rfl | (simp only [wfRes, wfL, wfArgs, wfs, mpO_namesB, mpO_namesI]; rfl)) rfl (by first | exact newB_nil | exact newB_O | ((simp only [newB, List.map_cons, List.map_nil, Blk.shift, rowOf_shift]) <;> rfl) | rfl) rfl ?_ | refine vr_calldU (hl) (gk rfl) rfl rfl rfl (by first | rfl | (simp only [wfRes, wfL, wfArgs, wfs, mpO_namesB, mpO_namesI]; rfl)) rfl (by first | exact newB_nil | exact newB_O | ((simp only [newB, List.map_cons, List.map_nil, Blk.shift, rowOf_shift]) <;> rfl) | rfl) rfl ?_ | refine vr_calldU (pair_spec) (gk rfl) rfl rfl rfl (by first | rfl | (simp only [wfRes, wfL, wfArgs, wfs, mpO_namesB, mpO_namesI]; rfl)) rfl (by first | exact newB_nil | exact newB_O | ((simp only [newB, List.map_cons, List.map_nil, Blk.shift, rowOf_shift]) <;> rfl) | rfl) rfl ?_) | refine x_gknow rfl (by assumption) ?_)
      | (show VR _ _ _ [] _ _ _; first | refine vr_nil ?_)
      | (show thenQ _ _ _ _; first | refine q_then_n ?_)
      | (show VC _ (.seq _ _) _ _; (fail_if_success (show VC _ (.seq (.seq (.region 8 _ _) _) _) _ _)); (fail_if_success (show VC _ (.seq (.region 8 _ _) _) _ _)); refine vc_seq ?_)
      | refine vc_region ?_
      | (show VC _ (.cond _ _ _) _ _; first | refine vc_cond_f rfl ?_)
      | refine vc_skip ?_
      | fail)
    refine VC.le (σ' := stOf [(0, AD (strs data)), (1, AD (rdOf encF 1 fs)), (5, .c (.ptr 5 0)), (6, .c (.ptr 6 0))] [(5, .box (oA [] 0 0).cs), (6, .box (oB []).cs)]) ?_ ?_
    · refine le_gen0 (fun n => n) ?_ ?_ rfl (by first | rfl | (simp only [wfL, wfs, mpO_namesB, mpO_namesI]; rfl))
      all_goals repeat' (first | exact trivial | refine ⟨⟨_, rfl, ?_⟩, ?_⟩ | exact .c .d | exact .c (.ptr rfl) | exact .boxD rfl rfl | fail)
    repeat' (first
      | (show VR _ _ _ (_ :: _) _ _ _; first | refine x_opF rfl (by first | exact True.intro | omega) ?_)
      | (show VR _ _ _ [] _ _ _; first | refine vr_nil ?_)
      | (show thenQ _ _ _ _; first | refine q_then_n ?_)
      | refine vc_seq ?_
      | refine vc_region ?_
      | refine vc_block ?_
      | fail)
    refine vc_loopI (ι := Nat × List Pk) (fun s => stOf [(1, AD (rdOf encF 1 fs)), (5, .c (.ptr 5 0)), (6, .c (.ptr 6 0)), (8, AI s.2.length), (56, AD (strs data)), (57, AI data.length), (58, AI s.1)] [(5, .box (oA s.2 0 0).cs), (6, .box (oB []).cs)])
      (fun s => s.1 ≤ data.length ∧ OkL s.2 ∧ s.2.length ≤ s.1 ∧ ∀ p ∈ s.2, p.id < s.1) (fun s => data.length - s.1) (0, []) ⟨Nat.zero_le _, ⟨by simp, by simp, by simp⟩, by simp, by simp⟩ ?_ ?_
    · refine le_gen0 (fun n => n) ?_ ?_ rfl (by first | rfl | (simp only [wfL, wfs, mpO_namesB, mpO_namesI]; rfl))
      all_goals repeat' (first | exact trivial | refine ⟨⟨_, rfl, ?_⟩, ?_⟩ | exact .c .d | exact .c (.ptr rfl) | exact .boxD rfl rfl | fail)
    · rintro ⟨k, L⟩ ⟨hk, hL, hLk, hid⟩
      dsimp only at hk hL hLk hid ⊢
      rcases Nat.lt_or_ge k data.length with hlt | hge
      · have hdd : decide ((k : Int) < (data.length : Int)) = true := decide_eq_true (by omega)
        by_cases hsz : 100 < (data.getD k default).size
        · have ds : decide ((100 : Int) < ((data.getD k default).size : Int)) = true := decide_eq_true (by omega)
          repeat' (first
            | (show VR _ _ _ (_ :: _) _ _ _; first | refine x_opF rfl (by first | exact True.intro | omega) ?_ | (show VR _ _ _ (⟨_, .call ⟨.value _, _, _⟩, _, _, _, _⟩ :: _) _ _ _; first | refine vr_calldU (of_put8 hL (by omega) hid hsz) (gk rfl) rfl rfl rfl (by first | rfl | (simp only [wfRes, wfL, wfArgs, wfs, mpO_namesB, mpO_namesI]; rfl)) rfl (by first | exact newB_nil | exact newB_O | ((simp only [newB, List.map_cons, List.map_nil, Blk.shift, rowOf_shift]) <;> rfl) | rfl) rfl ?_) | (show VR _ _ _ (⟨_, .indexAddr _ _ _, _, _, _, _⟩ :: _) _ _ _; first | refine vr_index_rd (gk rfl) rfl rfl rfl rfl rfl (by omega) rfl ?_))
            | (show VR _ _ _ [] _ _ _; first | refine vr_nil ?_)
            | (show thenQ _ _ _ _; first | refine q_then_n ?_ | refine q_then_x ?_)
            | (show blockQ _ _ _ _; first | refine q_blk_x ?_)
            | refine vc_seq ?_
            | refine vc_region ?_
            | (show VC _ (.cond _ _ _) _ _; first | refine vc_cond_t rfl ?_ | refine vc_cond_f rfl ?_ | refine x_know rfl (by assumption) ?_)
            | refine vc_exit ?_ | refine vc_block ?_ | refine vc_skip ?_
            | fail)
          refine ⟨(k + 1, L), ⟨by dsimp only; omega, hL, by dsimp only; omega, fun p hp => by have := hid p hp; dsimp only; omega⟩, by dsimp only; omega, ?_⟩
          dsimp only
          refine le_gen0 (fun n => n) ?_ ?_ rfl (by first | rfl | (simp only [wfL, wfs, mpO_namesB, mpO_namesI]; rfl))
          all_goals repeat' (first | exact trivial | refine ⟨⟨_, rfl, ?_⟩, ?_⟩ | exact .c .d | exact .c (.ptr rfl) | exact .boxD rfl rfl | fail)
        · have ds : decide ((100 : Int) < ((data.getD k default).size : Int)) = false := decide_eq_false (by omega)
          have hput := of_put hL (show L.length < 8 by omega) hid (show (data.getD k default).size ≤ 100 by omega)
          repeat' (first
            | (show VR _ _ _ (_ :: _) _ _ _; first | refine x_opF rfl (by first | exact True.intro | omega) ?_ | (show VR _ _ _ (⟨_, .call ⟨.value _, _, _⟩, _, _, _, _⟩ :: _) _ _ _; first | refine vr_calldU (hput) (gk rfl) rfl rfl rfl (by first | rfl | (simp only [wfRes, wfL, wfArgs, wfs, mpO_namesB, mpO_namesI]; rfl)) rfl (by first | exact newB_nil | exact newB_O | ((simp only [newB, List.map_cons, List.map_nil, Blk.shift, rowOf_shift]) <;> rfl) | rfl) rfl ?_) | (show VR _ _ _ (⟨_, .indexAddr _ _ _, _, _, _, _⟩ :: _) _ _ _; first | refine vr_index_rd (gk rfl) rfl rfl rfl rfl rfl (by omega) rfl ?_))
            | (show VR _ _ _ [] _ _ _; first | refine vr_nil ?_)
            | (show thenQ _ _ _ _; first | refine q_then_n ?_)
            | (show blockQ _ _ _ _; first | refine q_blk_n ?_)
            | refine vc_seq ?_
            | refine vc_region ?_
            | (show VC _ (.cond _ _ _) _ _; first | refine vc_cond_t rfl ?_ | refine vc_cond_f rfl ?_ | refine x_know rfl (by assumption) ?_)
            | refine vc_block ?_ | refine vc_skip ?_
            | fail)
          refine ⟨(k + 1, L ++ [oP k (data.getD k default)]), ⟨by dsimp only; omega, (o_put hL (by omega) hid (by omega)).2, by simp; omega, fun p hp => ?_⟩, by dsimp only; omega, ?_⟩
          · rcases List.mem_append.1 hp with hp | hp
            · have := hid p hp; dsimp only; omega
            · rw [List.mem_singleton.1 hp]; show (k : Int) < ((k + 1 : Nat) : Int); omega
          · dsimp only
            rw [show (L ++ [oP k (data.getD k default)]).length = L.length + 1 by simp]
            refine le_gen0 (fun n => n) ?_ ?_ rfl (by first | rfl | (simp only [wfL, wfs, mpO_namesB, mpO_namesI]; rfl))
            all_goals repeat' (first | exact trivial | refine ⟨⟨_, rfl, ?_⟩, ?_⟩ | exact .c .d | exact .c (.ptr rfl) | exact .boxD rfl rfl | fail)
      · have hdd : decide ((k : Int) < (data.length : Int)) = false := decide_eq_false (by omega)
        have hp8 := hL.len
        generalize hput : L.length = put at *
        repeat' (first
          | (show VR _ _ _ (_ :: _) _ _ _; first | refine x_opF rfl (by first | exact True.intro | omega) ?_)
          | (show VR _ _ _ [] _ _ _; first | refine vr_nil ?_)
          | (show thenQ _ _ _ _; first | refine q_then_n ?_ | refine q_then_x ?_)
          | (show blockQ _ _ _ _; first | refine q_blk_x ?_)
          | (show VC _ (.seq _ _) _ _; (fail_if_success (show VC _ (.seq (.seq (.region 24 _ _) _) _) _ _)); (fail_if_success (show VC _ (.seq (.region 24 _ _) _) _ _)); refine vc_seq ?_)
          | refine vc_region ?_
          | (show VC _ (.cond _ _ _) _ _; first | refine vc_cond_f rfl ?_ | refine x_know rfl (by assumption) ?_)
          | refine vc_exit ?_ | refine vc_block ?_
          | fail)
        refine VC.le (le_nil (t := 14) (nm := 45) (T := 9) (sz := 1) rfl rfl) ?_
        refine VC.le (le_nil (t := 15) (nm := 46) (T := 9) (sz := 1) rfl rfl) ?_
        have i0 : InvO put L 0 0 [] [] [] := { ok := hL, s0 := by omega, sum := by omega, p8 := hp8, t := by omega, t0 := fun _ => rfl, sn := .inl rfl, last := fun h => absurd h (by simp), c1 := by simp, c2 := by simp [curO] }
        refine vc_loopI (ι := Nat × List Pk × Int × Int × List Sn × List ByteArray × List ByteArray) (fun s => stOf [(5, .c (.ptr 5 0)), (6, .c (.ptr 6 0)), (8, AI put), (14, .c (.row 45 s.2.2.2.2.2.1.length)), (15, .c (.row 46 s.2.2.2.2.2.2.length)), (16, AI s.2.2.1), (17, AI s.2.2.2.1), (88, AD (rdOf encF 1 fs)), (89, AI fs.length), (90, AI s.1)] [(5, .box (oA s.2.1 s.2.2.1 s.2.2.2.1).cs), (6, .box (oB s.2.2.2.2.1).cs), (45, .row 9 1 (rowOf encS s.2.2.2.2.2.1)), (46, .row 9 1 (rowOf encS s.2.2.2.2.2.2))])
          (fun s => s.1 ≤ fs.length ∧ InvO put s.2.1 s.2.2.1 s.2.2.2.1 s.2.2.2.2.1 s.2.2.2.2.2.1 s.2.2.2.2.2.2) (fun s => fs.length - s.1) (0, L, 0, 0, [], [], []) ⟨Nat.zero_le _, i0⟩ ?_ ?_
        · refine le_gen0 (fun n => n) ?_ ?_ rfl (by first | rfl | (simp only [wfL, wfs, mpO_namesB, mpO_namesI]; rfl))
          all_goals repeat' (first | exact trivial | refine ⟨⟨_, rfl, ?_⟩, ?_⟩ | exact .c .d | exact .c (.ptr rfl) | exact .c (.row rfl rfl) | exact .boxD rfl rfl | exact .rowD rfl rowOf_isD | fail)
        · clear i0 hk hLk hid hge hdd hL
          rintro ⟨k, L, sent, tries, seen, got, acked⟩ ⟨hk, hv⟩
          dsimp only at hk hv ⊢
          obtain ⟨hL, hs0, hsum, hput8, ht, ht0, hsn, hlast, hc1, hc2⟩ := hv
          have hlen := hL.len
          have hcu1 : curO seen sent ≤ 1 := by unfold curO; split <;> omega
          rcases Nat.lt_or_ge k fs.length with hlt | hge
          · have hdd : decide ((k : Int) < (fs.length : Int)) = true := decide_eq_true (by omega)
            have hk60 : k < 60 := by omega
            have hs8 : 0 ≤ sent ∧ sent ≤ 8 := by omega
            have hl4 : decide (lisA.kind ≠ 2) = false := rfl
            repeat' (first
              | (show VR _ _ _ (_ :: _) _ _ _; first | refine x_opF rfl (by first | exact True.intro | omega) ?_ | (show VR _ _ _ (⟨_, .call ⟨.value _, _, _⟩, _, _, _, _⟩ :: _) _ _ _; first | refine vr_calldU (of_actA hL hs8 ht ht0 k hk60) (gk rfl) rfl rfl rfl (by first | rfl | (simp only [wfRes, wfL, wfArgs, wfs, mpO_namesB, mpO_namesI]; rfl)) rfl (by first | exact newB_nil | exact newB_O | ((simp only [newB, List.map_cons, List.map_nil, Blk.shift, rowOf_shift]) <;> rfl) | rfl) rfl ?_) | (show VR _ _ _ (⟨_, .indexAddr _ _ _, _, _, _, _⟩ :: _) _ _ _; first | refine vr_index_rd (gk rfl) rfl rfl rfl rfl rfl (by omega) rfl ?_))
              | (show VR _ _ _ [] _ _ _; first | refine vr_nil ?_)
              | (show thenQ _ _ _ _; first | refine q_then_n ?_)
              | (show VC _ (.seq _ _) _ _; (fail_if_success (show VC _ (.seq (.seq (.region 28 _ _) _) _) _ _)); (fail_if_success (show VC _ (.seq (.region 28 _ _) _) _ _)); refine vc_seq ?_)
              | refine vc_region ?_
              | (show VC _ (.cond _ _ _) _ _; first | refine vc_cond_t rfl ?_ | refine x_know rfl (by assumption) ?_)
              | refine vc_block ?_ | refine vc_skip ?_
              | fail)
            refine VC.le (σ' := stOf [(5, .c (.ptr 5 0)), (6, .c (.ptr 6 0)), (8, AI put), (14, .c (.row 45 got.length)), (15, .c (.row 46 acked.length)), (16, AI sent), (17, AI tries), (88, AD (rdOf encF 1 fs)), (89, AI fs.length), (90, AI k), (18, AI k), (19, AD (.int .u8 (fs.getD k default))), (20, AI L.length), (21, .c (.ptr 21 0)), (22, AI 0)] [(5, .box (oA L sent tries).cs), (6, .box (oB seen).cs), (21, .box (oX L sent).cs), (45, .row 9 1 (rowOf encS got)), (46, .row 9 1 (rowOf encS acked))]) ?_ ?_
            · refine le_gen0 (fun n => n) ?_ ?_ rfl (by first | rfl | (simp only [wfL, wfs, mpO_namesB, mpO_namesI]; rfl))
              all_goals repeat' (first | exact trivial | refine ⟨⟨_, rfl, ?_⟩, ?_⟩ | exact .c .d | exact .c (.ptr rfl) | exact .c (.row rfl rfl) | exact .boxD rfl rfl | exact .rowD rfl rowOf_isD | fail)
            repeat' (first
              | (show VR _ _ _ (_ :: _) _ _ _; first | refine x_opF rfl (by first | exact True.intro | omega) ?_ | (show VR _ _ _ (⟨_, .call ⟨.value _, _, _⟩, _, _, _, _⟩ :: _) _ _ _; first | refine vr_calldU (of_actB hsn hs8 k hk60) (gk rfl) rfl rfl rfl (by first | rfl | (simp only [wfRes, wfL, wfArgs, wfs, mpO_namesB, mpO_namesI]; rfl)) rfl (by first | exact newB_nil | exact newB_O | ((simp only [newB, List.map_cons, List.map_nil, Blk.shift, rowOf_shift]) <;> rfl) | rfl) rfl ?_))
              | (show VR _ _ _ [] _ _ _; first | refine vr_nil ?_)
              | (show thenQ _ _ _ _; first | refine q_then_n ?_)
              | (show VC _ (.seq _ _) _ _; (fail_if_success (show VC _ (.seq (.seq (.region 29 _ _) _) _) _ _)); (fail_if_success (show VC _ (.seq (.region 29 _ _) _) _ _)); refine vc_seq ?_)
              | refine vc_region ?_
              | fail)
            refine VC.le (σ' := stOf [(5, .c (.ptr 5 0)), (6, .c (.ptr 6 0)), (8, AI put), (14, .c (.row 45 got.length)), (15, .c (.row 46 acked.length)), (16, AI sent), (17, AI tries), (88, AD (rdOf encF 1 fs)), (89, AI fs.length), (90, AI k), (18, AI k), (19, AD (.int .u8 (fs.getD k default))), (20, AI L.length), (21, .c (.ptr 21 0)), (22, AI 0), (23, .c (.ptr 23 0)), (24, AI 0)] [(5, .box (oA L sent tries).cs), (6, .box (oB seen).cs), (21, .box (oX L sent).cs), (23, .box lisA.cs), (45, .row 9 1 (rowOf encS got)), (46, .row 9 1 (rowOf encS acked))]) ?_ ?_
            · refine le_gen0 (fun n => n) ?_ ?_ rfl (by first | rfl | (simp only [wfL, wfs, mpO_namesB, mpO_namesI]; rfl))
              all_goals repeat' (first | exact trivial | refine ⟨⟨_, rfl, ?_⟩, ?_⟩ | exact .c .d | exact .c (.ptr rfl) | exact .c (.row rfl rfl) | exact .boxD rfl rfl | exact .rowD rfl rowOf_isD | fail)
            cases L with
            | nil =>
              have dw : decide (0 < ((([] : List Pk).length : Nat) : Int)) = false := rfl
              have dx : (decide ((oX [] sent).kind = 1) != decide (0 < ((([] : List Pk).length : Nat) : Int))) = false := rfl
              obtain rfl := ht0 rfl
              cases hh : decide (bitF .and .u8 (fs.getD k default) 1 = 0) with
              | true =>
                repeat' (first
                  | (show VR _ _ _ (_ :: _) _ _ _; first | refine x_opF rfl (by first | exact True.intro | omega) ?_ | (show VR _ _ _ (⟨_, .binOp _ _ _ _ _, _, _, _, _⟩ :: _) _ _ _; first | refine vr_bits (gk rfl) rfl rfl rfl rfl rfl ?_) | refine x_gknow rfl (by assumption) ?_)
                  | (show VR _ _ _ [] _ _ _; first | refine vr_nil ?_)
                  | (show thenQ _ _ _ _; first | refine q_then_n ?_)
                  | (show VC _ (.seq _ _) _ _; (fail_if_success (show VC _ (.seq (.seq (.region 33 _ _) _) _) _ _)); (fail_if_success (show VC _ (.seq (.region 33 _ _) _) _ _)); refine vc_seq ?_)
                  | refine vc_region ?_
                  | (show VC _ (.cond _ _ _) _ _; first | refine vc_cond_f rfl ?_)
                  | refine vc_skip ?_
                  | fail)
                refine VC.le (σ' := stOf [(5, .c (.ptr 5 0)), (6, .c (.ptr 6 0)), (8, AI put), (14, .c (.row 45 got.length)), (15, .c (.row 46 acked.length)), (16, AI sent), (17, AI 0), (88, AD (rdOf encF 1 fs)), (89, AI fs.length), (90, AI k), (18, AI k), (19, AD (.int .u8 (fs.getD k default))), (20, AI ([] : List Pk).length), (21, .c (.ptr 21 0)), (26, AB (decide (bitF .and .u8 (fs.getD k default) 2 = 0))), (27, .c (.ptr 27 0))] [(5, .box (oA [] sent 0).cs), (6, .box (oB seen).cs), (21, .box zAc.cs), (27, .box (oRb zAc false).cs), (45, .row 9 1 (rowOf encS got)), (46, .row 9 1 (rowOf encS acked))]) ?_ ?_
                · refine le_gen0 (fun n => n) ?_ ?_ rfl (by first | rfl | (simp only [wfL, wfs, mpO_namesB, mpO_namesI]; rfl))
                  all_goals repeat' (first | exact trivial | refine ⟨⟨_, rfl, ?_⟩, ?_⟩ | exact .c .d | exact .c (.ptr rfl) | exact .c (.row rfl rfl) | exact .boxD rfl rfl | exact .rowD rfl rowOf_isD | fail)
                have hdb := of_doneB0 hsn hs8 k hk60 zAc
                have hda := of_doneA0 hs8 k hk60 false
                repeat' (first
                  | (show VR _ _ _ (_ :: _) _ _ _; first | refine x_opF rfl (by first | exact True.intro | omega) ?_ | (show VR _ _ _ (⟨_, .call ⟨.value _, _, _⟩, _, _, _, _⟩ :: _) _ _ _; first | refine vr_calldU (hdb) (gk rfl) rfl rfl rfl (by first | rfl | (simp only [wfRes, wfL, wfArgs, wfs, mpO_namesB, mpO_namesI]; rfl)) rfl (by first | exact newB_nil | exact newB_O | ((simp only [newB, List.map_cons, List.map_nil, Blk.shift, rowOf_shift]) <;> rfl) | rfl) rfl ?_))
                  | (show VR _ _ _ [] _ _ _; first | refine vr_nil ?_)
                  | (show thenQ _ _ _ _; first | refine q_then_n ?_)
                  | (show VC _ (.seq _ _) _ _; (fail_if_success (show VC _ (.seq (.seq (.region 34 _ _) _) _) _ _)); (fail_if_success (show VC _ (.seq (.region 34 _ _) _) _ _)); refine vc_seq ?_)
                  | refine vc_region ?_
                  | fail)
                refine VC.le (σ' := stOf [(5, .c (.ptr 5 0)), (6, .c (.ptr 6 0)), (8, AI put), (14, .c (.row 45 got.length)), (15, .c (.row 46 acked.length)), (16, AI sent), (17, AI 0), (88, AD (rdOf encF 1 fs)), (89, AI fs.length), (90, AI k), (18, AI k), (19, AD (.int .u8 (fs.getD k default))), (20, AI ([] : List Pk).length), (21, .c (.ptr 21 0)), (26, AB (decide (bitF .and .u8 (fs.getD k default) 2 = 0))), (27, .c (.ptr 27 0)), (28, .c (.ptr 28 0)), (29, .c (.ptr 29 0)), (30, AI 0)] [(5, .box (oA [] sent 0).cs), (6, .box (oB seen).cs), (21, .box zAc.cs), (27, .box (oRb zAc false).cs), (28, .box (oB seen).cs), (29, .box zUp.cs), (45, .row 9 1 (rowOf encS got)), (46, .row 9 1 (rowOf encS acked))]) ?_ ?_
                · refine le_gen0 (fun n => n) ?_ ?_ rfl (by first | rfl | (simp only [wfL, wfs, mpO_namesB, mpO_namesI]; rfl))
                  all_goals repeat' (first | exact trivial | refine ⟨⟨_, rfl, ?_⟩, ?_⟩ | exact .c .d | exact .c (.ptr rfl) | exact .c (.row rfl rfl) | exact .boxD rfl rfl | exact .rowD rfl rowOf_isD | fail)
                repeat' (first
                  | (show VR _ _ _ (_ :: _) _ _ _; first | refine x_opF rfl (by first | exact True.intro | omega) ?_ | (show VR _ _ _ (⟨_, .call ⟨.value _, _, _⟩, _, _, _, _⟩ :: _) _ _ _; first | refine vr_calldU (hda) (gk rfl) rfl rfl rfl (by first | rfl | (simp only [wfRes, wfL, wfArgs, wfs, mpO_namesB, mpO_namesI]; rfl)) rfl (by first | exact newB_nil | exact newB_O | ((simp only [newB, List.map_cons, List.map_nil, Blk.shift, rowOf_shift]) <;> rfl) | rfl) rfl ?_))
                  | (show VR _ _ _ [] _ _ _; first | refine vr_nil ?_)
                  | (show thenQ _ _ _ _; first | refine q_then_n ?_)
                  | (show VC _ (.seq _ _) _ _; (fail_if_success (show VC _ (.seq (.seq (.region 35 _ _) _) _) _ _)); (fail_if_success (show VC _ (.seq (.region 35 _ _) _) _ _)); refine vc_seq ?_)
                  | refine vc_region ?_
                  | fail)
                refine VC.le (σ' := stOf [(5, .c (.ptr 5 0)), (6, .c (.ptr 6 0)), (8, AI put), (14, .c (.row 45 got.length)), (15, .c (.row 46 acked.length)), (16, AI sent), (17, AI 0), (88, AD (rdOf encF 1 fs)), (89, AI fs.length), (90, AI k), (18, AI k), (19, AD (.int .u8 (fs.getD k default))), (20, AI ([] : List Pk).length), (21, .c (.ptr 21 0)), (26, AB (decide (bitF .and .u8 (fs.getD k default) 2 = 0))), (27, .c (.ptr 27 0)), (28, .c (.ptr 28 0)), (29, .c (.ptr 29 0)), (30, AI 0), (31, .c (.ptr 31 0)), (33, AI 0)] [(5, .box (oA [] sent 0).cs), (6, .box (oB seen).cs), (21, .box zAc.cs), (27, .box (oRb zAc false).cs), (28, .box (oB seen).cs), (29, .box zUp.cs), (31, .box (oA [] sent 0).cs), (45, .row 9 1 (rowOf encS got)), (46, .row 9 1 (rowOf encS acked))]) ?_ ?_
                · refine le_gen0 (fun n => n) ?_ ?_ rfl (by first | rfl | (simp only [wfL, wfs, mpO_namesB, mpO_namesI]; rfl))
                  all_goals repeat' (first | exact trivial | refine ⟨⟨_, rfl, ?_⟩, ?_⟩ | exact .c .d | exact .c (.ptr rfl) | exact .c (.row rfl rfl) | exact .boxD rfl rfl | exact .rowD rfl rowOf_isD | fail)
                have u1 : zUp.some = false := rfl
                have f1 : decide (((oA [] sent 0).qu.packets.length : Int) < ((([] : List Pk).length : Nat) : Int)) = false := rfl
                have f2 : decide (sent + 1 < (got.length : Int)) = false := decide_eq_false (by omega)
                have f3 : decide (((([] : List Pk).length : Nat) : Int) = 0) = true := rfl
                repeat' (first
                  | (show VR _ _ _ (_ :: _) _ _ _; first | refine x_opF rfl (by first | exact True.intro | omega) ?_ | (show VR _ _ _ (⟨_, .call ⟨.builtin .len, _, _⟩, _, _, _, _⟩ :: _) _ _ _; first | refine vr_len_row (gk rfl) rfl rfl (by first | rfl | exact rowOf_length.symm | (simp only [lns] <;> omega)) rfl rfl ?_))
                  | (show VR _ _ _ [] _ _ _; first | refine vr_nil ?_ | refine vr_nil_t (by kernel_rfl) ?_)
                  | (show thenQ _ _ _ _; first | refine q_then_n ?_)
                  | (show blockQ _ _ _ _; first | refine q_blk_n ?_)
                  | refine vc_seq ?_
                  | refine vc_region ?_ | refine vc_region_t ?_
                  | (show VC _ (.cond _ _ _) _ _; first | refine vc_cond_t rfl ?_ | refine vc_cond_f rfl ?_ | refine x_know rfl (by assumption) ?_)
                  | refine vc_skip ?_
                  | fail)
                refine ⟨(k + 1, [], sent, 0, seen, got, acked), ⟨by dsimp only; omega, ⟨hL, hs0, hsum, hput8, ht, ht0, hsn, hlast, hc1, hc2⟩⟩, by dsimp only; omega, ?_⟩
                dsimp only
                refine le_gen0 (fun n => n) ?_ ?_ rfl (by first | rfl | (simp only [wfL, wfs, mpO_namesB, mpO_namesI]; rfl))
                all_goals repeat' (first | exact trivial | refine ⟨⟨_, rfl, ?_⟩, ?_⟩ | exact .c .d | exact .c (.ptr rfl) | exact .c (.row rfl rfl) | exact .boxD rfl rfl | exact .rowD rfl rowOf_isD | fail)
              | false =>
                repeat' (first
                  | (show VR _ _ _ (_ :: _) _ _ _; first | refine x_opF rfl (by first | exact True.intro | omega) ?_ | (show VR _ _ _ (⟨_, .binOp _ _ _ _ _, _, _, _, _⟩ :: _) _ _ _; first | refine vr_bits (gk rfl) rfl rfl rfl rfl rfl ?_) | refine x_gknow rfl (by assumption) ?_)
                  | (show VR _ _ _ [] _ _ _; first | refine vr_nil ?_)
                  | (show thenQ _ _ _ _; first | refine q_then_n ?_)
                  | (show VC _ (.seq _ _) _ _; (fail_if_success (show VC _ (.seq (.seq (.region 33 _ _) _) _) _ _)); (fail_if_success (show VC _ (.seq (.region 33 _ _) _) _ _)); refine vc_seq ?_)
                  | refine vc_region ?_
                  | (show VC _ (.cond _ _ _) _ _; first | refine vc_cond_f rfl ?_)
                  | refine vc_skip ?_
                  | fail)
                refine VC.le (σ' := stOf [(5, .c (.ptr 5 0)), (6, .c (.ptr 6 0)), (8, AI put), (14, .c (.row 45 got.length)), (15, .c (.row 46 acked.length)), (16, AI sent), (17, AI 0), (88, AD (rdOf encF 1 fs)), (89, AI fs.length), (90, AI k), (18, AI k), (19, AD (.int .u8 (fs.getD k default))), (20, AI ([] : List Pk).length), (21, .c (.ptr 21 0)), (26, AB (decide (bitF .and .u8 (fs.getD k default) 2 = 0))), (27, .c (.ptr 27 0))] [(5, .box (oA [] sent 0).cs), (6, .box (oB seen).cs), (21, .box zAc.cs), (27, .box (oRb zAc false).cs), (45, .row 9 1 (rowOf encS got)), (46, .row 9 1 (rowOf encS acked))]) ?_ ?_
                · refine le_gen0 (fun n => n) ?_ ?_ rfl (by first | rfl | (simp only [wfL, wfs, mpO_namesB, mpO_namesI]; rfl))
                  all_goals repeat' (first | exact trivial | refine ⟨⟨_, rfl, ?_⟩, ?_⟩ | exact .c .d | exact .c (.ptr rfl) | exact .c (.row rfl rfl) | exact .boxD rfl rfl | exact .rowD rfl rowOf_isD | fail)
                have hdb := of_doneB0 hsn hs8 k hk60 zAc
                have hda := of_doneA0 hs8 k hk60 false
                repeat' (first
                  | (show VR _ _ _ (_ :: _) _ _ _; first | refine x_opF rfl (by first | exact True.intro | omega) ?_ | (show VR _ _ _ (⟨_, .call ⟨.value _, _, _⟩, _, _, _, _⟩ :: _) _ _ _; first | refine vr_calldU (hdb) (gk rfl) rfl rfl rfl (by first | rfl | (simp only [wfRes, wfL, wfArgs, wfs, mpO_namesB, mpO_namesI]; rfl)) rfl (by first | exact newB_nil | exact newB_O | ((simp only [newB, List.map_cons, List.map_nil, Blk.shift, rowOf_shift]) <;> rfl) | rfl) rfl ?_))
                  | (show VR _ _ _ [] _ _ _; first | refine vr_nil ?_)
                  | (show thenQ _ _ _ _; first | refine q_then_n ?_)
                  | (show VC _ (.seq _ _) _ _; (fail_if_success (show VC _ (.seq (.seq (.region 34 _ _) _) _) _ _)); (fail_if_success (show VC _ (.seq (.region 34 _ _) _) _ _)); refine vc_seq ?_)
                  | refine vc_region ?_
                  | fail)
                refine VC.le (σ' := stOf [(5, .c (.ptr 5 0)), (6, .c (.ptr 6 0)), (8, AI put), (14, .c (.row 45 got.length)), (15, .c (.row 46 acked.length)), (16, AI sent), (17, AI 0), (88, AD (rdOf encF 1 fs)), (89, AI fs.length), (90, AI k), (18, AI k), (19, AD (.int .u8 (fs.getD k default))), (20, AI ([] : List Pk).length), (21, .c (.ptr 21 0)), (26, AB (decide (bitF .and .u8 (fs.getD k default) 2 = 0))), (27, .c (.ptr 27 0)), (28, .c (.ptr 28 0)), (29, .c (.ptr 29 0)), (30, AI 0)] [(5, .box (oA [] sent 0).cs), (6, .box (oB seen).cs), (21, .box zAc.cs), (27, .box (oRb zAc false).cs), (28, .box (oB seen).cs), (29, .box zUp.cs), (45, .row 9 1 (rowOf encS got)), (46, .row 9 1 (rowOf encS acked))]) ?_ ?_
                · refine le_gen0 (fun n => n) ?_ ?_ rfl (by first | rfl | (simp only [wfL, wfs, mpO_namesB, mpO_namesI]; rfl))
                  all_goals repeat' (first | exact trivial | refine ⟨⟨_, rfl, ?_⟩, ?_⟩ | exact .c .d | exact .c (.ptr rfl) | exact .c (.row rfl rfl) | exact .boxD rfl rfl | exact .rowD rfl rowOf_isD | fail)
                repeat' (first
                  | (show VR _ _ _ (_ :: _) _ _ _; first | refine x_opF rfl (by first | exact True.intro | omega) ?_ | (show VR _ _ _ (⟨_, .call ⟨.value _, _, _⟩, _, _, _, _⟩ :: _) _ _ _; first | refine vr_calldU (hda) (gk rfl) rfl rfl rfl (by first | rfl | (simp only [wfRes, wfL, wfArgs, wfs, mpO_namesB, mpO_namesI]; rfl)) rfl (by first | exact newB_nil | exact newB_O | ((simp only [newB, List.map_cons, List.map_nil, Blk.shift, rowOf_shift]) <;> rfl) | rfl) rfl ?_))
                  | (show VR _ _ _ [] _ _ _; first | refine vr_nil ?_)
                  | (show thenQ _ _ _ _; first | refine q_then_n ?_)
                  | (show VC _ (.seq _ _) _ _; (fail_if_success (show VC _ (.seq (.seq (.region 35 _ _) _) _) _ _)); (fail_if_success (show VC _ (.seq (.region 35 _ _) _) _ _)); refine vc_seq ?_)
                  | refine vc_region ?_
                  | fail)
                refine VC.le (σ' := stOf [(5, .c (.ptr 5 0)), (6, .c (.ptr 6 0)), (8, AI put), (14, .c (.row 45 got.length)), (15, .c (.row 46 acked.length)), (16, AI sent), (17, AI 0), (88, AD (rdOf encF 1 fs)), (89, AI fs.length), (90, AI k), (18, AI k), (19, AD (.int .u8 (fs.getD k default))), (20, AI ([] : List Pk).length), (21, .c (.ptr 21 0)), (26, AB (decide (bitF .and .u8 (fs.getD k default) 2 = 0))), (27, .c (.ptr 27 0)), (28, .c (.ptr 28 0)), (29, .c (.ptr 29 0)), (30, AI 0), (31, .c (.ptr 31 0)), (33, AI 0)] [(5, .box (oA [] sent 0).cs), (6, .box (oB seen).cs), (21, .box zAc.cs), (27, .box (oRb zAc false).cs), (28, .box (oB seen).cs), (29, .box zUp.cs), (31, .box (oA [] sent 0).cs), (45, .row 9 1 (rowOf encS got)), (46, .row 9 1 (rowOf encS acked))]) ?_ ?_
                · refine le_gen0 (fun n => n) ?_ ?_ rfl (by first | rfl | (simp only [wfL, wfs, mpO_namesB, mpO_namesI]; rfl))
                  all_goals repeat' (first | exact trivial | refine ⟨⟨_, rfl, ?_⟩, ?_⟩ | exact .c .d | exact .c (.ptr rfl) | exact .c (.row rfl rfl) | exact .boxD rfl rfl | exact .rowD rfl rowOf_isD | fail)
                have u1 : zUp.some = false := rfl
                have f1 : decide (((oA [] sent 0).qu.packets.length : Int) < ((([] : List Pk).length : Nat) : Int)) = false := rfl
                have f2 : decide (sent + 1 < (got.length : Int)) = false := decide_eq_false (by omega)
                have f3 : decide (((([] : List Pk).length : Nat) : Int) = 0) = true := rfl
                repeat' (first
                  | (show VR _ _ _ (_ :: _) _ _ _; first | refine x_opF rfl (by first | exact True.intro | omega) ?_ | (show VR _ _ _ (⟨_, .call ⟨.builtin .len, _, _⟩, _, _, _, _⟩ :: _) _ _ _; first | refine vr_len_row (gk rfl) rfl rfl (by first | rfl | exact rowOf_length.symm | (simp only [lns] <;> omega)) rfl rfl ?_))
                  | (show VR _ _ _ [] _ _ _; first | refine vr_nil ?_ | refine vr_nil_t (by kernel_rfl) ?_)
                  | (show thenQ _ _ _ _; first | refine q_then_n ?_)
                  | (show blockQ _ _ _ _; first | refine q_blk_n ?_)
                  | refine vc_seq ?_
                  | refine vc_region ?_ | refine vc_region_t ?_
                  | (show VC _ (.cond _ _ _) _ _; first | refine vc_cond_t rfl ?_ | refine vc_cond_f rfl ?_ | refine x_know rfl (by assumption) ?_)
                  | refine vc_skip ?_
                  | fail)
                refine ⟨(k + 1, [], sent, 0, seen, got, acked), ⟨by dsimp only; omega, ⟨hL, hs0, hsum, hput8, ht, ht0, hsn, hlast, hc1, hc2⟩⟩, by dsimp only; omega, ?_⟩
                dsimp only
                refine le_gen0 (fun n => n) ?_ ?_ rfl (by first | rfl | (simp only [wfL, wfs, mpO_namesB, mpO_namesI]; rfl))
                all_goals repeat' (first | exact trivial | refine ⟨⟨_, rfl, ?_⟩, ?_⟩ | exact .c .d | exact .c (.ptr rfl) | exact .c (.row rfl rfl) | exact .boxD rfl rfl | exact .rowD rfl rowOf_isD | fail)
            | cons p L =>
              have dw : decide (0 < (((p :: L).length : Nat) : Int)) = true := decide_eq_true (by rw [List.length_cons]; omega)
              have dx : (decide ((oX (p :: L) sent).kind = 1) != decide (0 < (((p :: L).length : Nat) : Int))) = false := by rw [dw]; rfl
              have hls : L.length + 1 ≤ 8 := hlen
              have hsu : sent + (L.length + 1) = put := by have := hsum; rw [List.length_cons] at this; omega
              cases hh : decide (bitF .and .u8 (fs.getD k default) 1 = 0) with
              | false =>
                repeat' (first
                  | (show VR _ _ _ (_ :: _) _ _ _; first | refine x_opF rfl (by first | exact True.intro | omega) ?_ | (show VR _ _ _ (⟨_, .binOp _ _ _ _ _, _, _, _, _⟩ :: _) _ _ _; first | refine vr_bits (gk rfl) rfl rfl rfl rfl rfl ?_) | refine x_gknow rfl (by assumption) ?_)
                  | (show VR _ _ _ [] _ _ _; first | refine vr_nil ?_)
                  | (show thenQ _ _ _ _; first | refine q_then_n ?_)
                  | (show VC _ (.seq _ _) _ _; (fail_if_success (show VC _ (.seq (.seq (.region 33 _ _) _) _) _ _)); (fail_if_success (show VC _ (.seq (.region 33 _ _) _) _ _)); refine vc_seq ?_)
                  | refine vc_region ?_
                  | (show VC _ (.cond _ _ _) _ _; first | refine vc_cond_f rfl ?_ | refine x_know rfl (by assumption) ?_)
                  | refine vc_skip ?_
                  | fail)
                refine VC.le (σ' := stOf [(5, .c (.ptr 5 0)), (6, .c (.ptr 6 0)), (8, AI put), (14, .c (.row 45 got.length)), (15, .c (.row 46 acked.length)), (16, AI sent), (17, AI tries), (88, AD (rdOf encF 1 fs)), (89, AI fs.length), (90, AI k), (18, AI k), (19, AD (.int .u8 (fs.getD k default))), (20, AI (p :: L).length), (21, .c (.ptr 21 0)), (26, AB (decide (bitF .and .u8 (fs.getD k default) 2 = 0))), (27, .c (.ptr 27 0))] [(5, .box (oA (p :: L) sent tries).cs), (6, .box (oB seen).cs), (21, .box (oM p sent).cs), (27, .box (oRb (oM p sent) false).cs), (45, .row 9 1 (rowOf encS got)), (46, .row 9 1 (rowOf encS acked))]) ?_ ?_
                · refine le_gen0 (fun n => n) ?_ ?_ rfl (by first | rfl | (simp only [wfL, wfs, mpO_namesB, mpO_namesI]; rfl))
                  all_goals repeat' (first | exact trivial | refine ⟨⟨_, rfl, ?_⟩, ?_⟩ | exact .c .d | exact .c (.ptr rfl) | exact .c (.row rfl rfl) | exact .boxD rfl rfl | exact .rowD rfl rowOf_isD | fail)
                have hdb := of_doneB0 hsn hs8 k hk60 (oM p sent)
                repeat' (first
                  | (show VR _ _ _ (_ :: _) _ _ _; first | refine x_opF rfl (by first | exact True.intro | omega) ?_ | (show VR _ _ _ (⟨_, .call ⟨.value _, _, _⟩, _, _, _, _⟩ :: _) _ _ _; first | refine vr_calldU (hdb) (gk rfl) rfl rfl rfl (by first | rfl | (simp only [wfRes, wfL, wfArgs, wfs, mpO_namesB, mpO_namesI]; rfl)) rfl (by first | exact newB_nil | exact newB_O | ((simp only [newB, List.map_cons, List.map_nil, Blk.shift, rowOf_shift]) <;> rfl) | rfl) rfl ?_))
                  | (show VR _ _ _ [] _ _ _; first | refine vr_nil ?_)
                  | (show thenQ _ _ _ _; first | refine q_then_n ?_)
                  | (show VC _ (.seq _ _) _ _; (fail_if_success (show VC _ (.seq (.seq (.region 34 _ _) _) _) _ _)); (fail_if_success (show VC _ (.seq (.region 34 _ _) _) _ _)); refine vc_seq ?_)
                  | refine vc_region ?_
                  | fail)
                refine VC.le (σ' := stOf [(5, .c (.ptr 5 0)), (6, .c (.ptr 6 0)), (8, AI put), (14, .c (.row 45 got.length)), (15, .c (.row 46 acked.length)), (16, AI sent), (17, AI tries), (88, AD (rdOf encF 1 fs)), (89, AI fs.length), (90, AI k), (18, AI k), (19, AD (.int .u8 (fs.getD k default))), (20, AI (p :: L).length), (21, .c (.ptr 21 0)), (26, AB (decide (bitF .and .u8 (fs.getD k default) 2 = 0))), (27, .c (.ptr 27 0)), (28, .c (.ptr 28 0)), (29, .c (.ptr 29 0)), (30, AI 0)] [(5, .box (oA (p :: L) sent tries).cs), (6, .box (oB seen).cs), (21, .box (oM p sent).cs), (27, .box (oRb (oM p sent) false).cs), (28, .box (oB seen).cs), (29, .box zUp.cs), (45, .row 9 1 (rowOf encS got)), (46, .row 9 1 (rowOf encS acked))]) ?_ ?_
                · refine le_gen0 (fun n => n) ?_ ?_ rfl (by first | rfl | (simp only [wfL, wfs, mpO_namesB, mpO_namesI]; rfl))
                  all_goals repeat' (first | exact trivial | refine ⟨⟨_, rfl, ?_⟩, ?_⟩ | exact .c .d | exact .c (.ptr rfl) | exact .c (.row rfl rfl) | exact .boxD rfl rfl | exact .rowD rfl rowOf_isD | fail)
                have hda := of_doneA hL hs8 ht k hk60 false
                by_cases h3 : tries = 3
                · rw [if_pos (.inr h3)] at hda
                  repeat' (first
                    | (show VR _ _ _ (_ :: _) _ _ _; first | refine x_opF rfl (by first | exact True.intro | omega) ?_ | (show VR _ _ _ (⟨_, .call ⟨.value _, _, _⟩, _, _, _, _⟩ :: _) _ _ _; first | refine vr_calldU (hda) (gk rfl) rfl rfl rfl (by first | rfl | (simp only [wfRes, wfL, wfArgs, wfs, mpO_namesB, mpO_namesI]; rfl)) rfl (by first | exact newB_nil | exact newB_O | ((simp only [newB, List.map_cons, List.map_nil, Blk.shift, rowOf_shift]) <;> rfl) | rfl) rfl ?_))
                    | (show VR _ _ _ [] _ _ _; first | refine vr_nil ?_)
                    | (show thenQ _ _ _ _; first | refine q_then_n ?_)
                    | (show VC _ (.seq _ _) _ _; (fail_if_success (show VC _ (.seq (.seq (.region 35 _ _) _) _) _ _)); (fail_if_success (show VC _ (.seq (.region 35 _ _) _) _ _)); refine vc_seq ?_)
                    | refine vc_region ?_
                    | fail)
                  refine VC.le (σ' := stOf [(5, .c (.ptr 5 0)), (6, .c (.ptr 6 0)), (8, AI put), (14, .c (.row 45 got.length)), (15, .c (.row 46 acked.length)), (16, AI sent), (17, AI tries), (88, AD (rdOf encF 1 fs)), (89, AI fs.length), (90, AI k), (18, AI k), (19, AD (.int .u8 (fs.getD k default))), (20, AI (p :: L).length), (21, .c (.ptr 21 0)), (26, AB (decide (bitF .and .u8 (fs.getD k default) 2 = 0))), (27, .c (.ptr 27 0)), (28, .c (.ptr 28 0)), (29, .c (.ptr 29 0)), (30, AI 0), (31, .c (.ptr 31 0)), (33, AI 0)] [(5, .box (oA (p :: L) sent tries).cs), (6, .box (oB seen).cs), (21, .box (oM p sent).cs), (27, .box (oRb (oM p sent) false).cs), (28, .box (oB seen).cs), (29, .box zUp.cs), (31, .box (oA L (sent + 1) 0).cs), (45, .row 9 1 (rowOf encS got)), (46, .row 9 1 (rowOf encS acked))]) ?_ ?_
                  · refine le_gen0 (fun n => n) ?_ ?_ rfl (by first | rfl | (simp only [wfL, wfs, mpO_namesB, mpO_namesI]; rfl))
                    all_goals repeat' (first | exact trivial | refine ⟨⟨_, rfl, ?_⟩, ?_⟩ | exact .c .d | exact .c (.ptr rfl) | exact .c (.row rfl rfl) | exact .boxD rfl rfl | exact .rowD rfl rowOf_isD | fail)
                  have u1 : zUp.some = false := rfl
                  have u2 : zUp.new = false := rfl
                  have f1 : decide (((oA L (sent + 1) 0).qu.packets.length : Int) < (((p :: L).length : Nat) : Int)) = true := decide_eq_true (by show ((L.length : Nat) : Int) < (((p :: L).length : Nat) : Int); rw [List.length_cons]; omega)
                  have f3 : decide ((((p :: L).length : Nat) : Int) = 0) = false := decide_eq_false (by rw [List.length_cons]; omega)
                  have f2 : decide (sent + 1 + 1 < (got.length : Int)) = false := decide_eq_false (by omega)
                  repeat' (first
                    | (show VR _ _ _ (_ :: _) _ _ _; first | refine x_opF rfl (by first | exact True.intro | omega) ?_ | (show VR _ _ _ (⟨_, .call ⟨.builtin .len, _, _⟩, _, _, _, _⟩ :: _) _ _ _; first | refine vr_len_row (gk rfl) rfl rfl (by first | rfl | exact rowOf_length.symm | (simp only [lns] <;> omega)) rfl rfl ?_) | refine x_gknow rfl (by assumption) ?_)
                    | (show VR _ _ _ [] _ _ _; first | refine vr_nil ?_ | refine vr_nil_t (by kernel_rfl) ?_)
                    | (show thenQ _ _ _ _; first | refine q_then_n ?_)
                    | (show blockQ _ _ _ _; first | refine q_blk_n ?_)
                    | refine vc_seq ?_
                    | refine vc_region ?_ | refine vc_region_t ?_
                    | (show VC _ (.cond _ _ _) _ _; first | refine vc_cond_t rfl ?_ | refine vc_cond_f rfl ?_ | refine x_know rfl (by assumption) ?_)
                    | refine vc_skip ?_
                    | fail)
                  refine ⟨(k + 1, L, sent + 1, 0, seen, got, acked), ⟨by dsimp only; omega, ?_⟩, by dsimp only; omega, ?_⟩
                  · dsimp only
                    exact inv_leave hL hs0 hsum hput8 hsn (by omega) (by omega)
                  dsimp only
                  refine le_gen0 (fun n => n) ?_ ?_ rfl (by first | rfl | (simp only [wfL, wfs, mpO_namesB, mpO_namesI]; rfl))
                  all_goals repeat' (first | exact trivial | refine ⟨⟨_, rfl, ?_⟩, ?_⟩ | exact .c .d | exact .c (.ptr rfl) | exact .c (.row rfl rfl) | exact .boxD rfl rfl | exact .rowD rfl rowOf_isD | fail)
                · rw [if_neg (by simp [h3])] at hda
                  repeat' (first
                    | (show VR _ _ _ (_ :: _) _ _ _; first | refine x_opF rfl (by first | exact True.intro | omega) ?_ | (show VR _ _ _ (⟨_, .call ⟨.value _, _, _⟩, _, _, _, _⟩ :: _) _ _ _; first | refine vr_calldU (hda) (gk rfl) rfl rfl rfl (by first | rfl | (simp only [wfRes, wfL, wfArgs, wfs, mpO_namesB, mpO_namesI]; rfl)) rfl (by first | exact newB_nil | exact newB_O | ((simp only [newB, List.map_cons, List.map_nil, Blk.shift, rowOf_shift]) <;> rfl) | rfl) rfl ?_))
                    | (show VR _ _ _ [] _ _ _; first | refine vr_nil ?_)
                    | (show thenQ _ _ _ _; first | refine q_then_n ?_)
                    | (show VC _ (.seq _ _) _ _; (fail_if_success (show VC _ (.seq (.seq (.region 35 _ _) _) _) _ _)); (fail_if_success (show VC _ (.seq (.region 35 _ _) _) _ _)); refine vc_seq ?_)
                    | refine vc_region ?_
                    | fail)
                  refine VC.le (σ' := stOf [(5, .c (.ptr 5 0)), (6, .c (.ptr 6 0)), (8, AI put), (14, .c (.row 45 got.length)), (15, .c (.row 46 acked.length)), (16, AI sent), (17, AI tries), (88, AD (rdOf encF 1 fs)), (89, AI fs.length), (90, AI k), (18, AI k), (19, AD (.int .u8 (fs.getD k default))), (20, AI (p :: L).length), (21, .c (.ptr 21 0)), (26, AB (decide (bitF .and .u8 (fs.getD k default) 2 = 0))), (27, .c (.ptr 27 0)), (28, .c (.ptr 28 0)), (29, .c (.ptr 29 0)), (30, AI 0), (31, .c (.ptr 31 0)), (33, AI 0)] [(5, .box (oA (p :: L) sent tries).cs), (6, .box (oB seen).cs), (21, .box (oM p sent).cs), (27, .box (oRb (oM p sent) false).cs), (28, .box (oB seen).cs), (29, .box zUp.cs), (31, .box (oA (p :: L) sent (tries + 1)).cs), (45, .row 9 1 (rowOf encS got)), (46, .row 9 1 (rowOf encS acked))]) ?_ ?_
                  · refine le_gen0 (fun n => n) ?_ ?_ rfl (by first | rfl | (simp only [wfL, wfs, mpO_namesB, mpO_namesI]; rfl))
                    all_goals repeat' (first | exact trivial | refine ⟨⟨_, rfl, ?_⟩, ?_⟩ | exact .c .d | exact .c (.ptr rfl) | exact .c (.row rfl rfl) | exact .boxD rfl rfl | exact .rowD rfl rowOf_isD | fail)
                  have u1 : zUp.some = false := rfl
                  have u2 : zUp.new = false := rfl
                  have f1 : decide (((oA (p :: L) sent (tries + 1)).qu.packets.length : Int) < (((p :: L).length : Nat) : Int)) = false := decide_eq_false (by show ¬ (((p :: L).length : Nat) : Int) < (((p :: L).length : Nat) : Int); omega)
                  have f3 : decide ((((p :: L).length : Nat) : Int) = 0) = false := decide_eq_false (by rw [List.length_cons]; omega)
                  have f4 : decide (4 ≤ tries + 1) = false := decide_eq_false (by omega)
                  have f2 : decide (sent + 1 < (got.length : Int)) = false := decide_eq_false (by omega)
                  repeat' (first
                    | (show VR _ _ _ (_ :: _) _ _ _; first | refine x_opF rfl (by first | exact True.intro | omega) ?_ | (show VR _ _ _ (⟨_, .call ⟨.builtin .len, _, _⟩, _, _, _, _⟩ :: _) _ _ _; first | refine vr_len_row (gk rfl) rfl rfl (by first | rfl | exact rowOf_length.symm | (simp only [lns] <;> omega)) rfl rfl ?_) | refine x_gknow rfl (by assumption) ?_)
                    | (show VR _ _ _ [] _ _ _; first | refine vr_nil ?_ | refine vr_nil_t (by kernel_rfl) ?_)
                    | (show thenQ _ _ _ _; first | refine q_then_n ?_)
                    | (show blockQ _ _ _ _; first | refine q_blk_n ?_)
                    | refine vc_seq ?_
                    | refine vc_region ?_ | refine vc_region_t ?_
                    | (show VC _ (.cond _ _ _) _ _; first | refine vc_cond_f rfl ?_ | refine x_know rfl (by assumption) ?_)
                    | refine vc_skip ?_
                    | fail)
                  refine ⟨(k + 1, (p :: L), sent, tries + 1, seen, got, acked), ⟨by dsimp only; omega, ?_⟩, by dsimp only; omega, ?_⟩
                  · dsimp only
                    exact inv_stay hL hs0 hsum hput8 (by omega) hsn hlast hc1 hc2
                  dsimp only
                  refine le_gen0 (fun n => n) ?_ ?_ rfl (by first | rfl | (simp only [wfL, wfs, mpO_namesB, mpO_namesI]; rfl))
                  all_goals repeat' (first | exact trivial | refine ⟨⟨_, rfl, ?_⟩, ?_⟩ | exact .c .d | exact .c (.ptr rfl) | exact .c (.row rfl rfl) | exact .boxD rfl rfl | exact .rowD rfl rowOf_isD | fail)
              | true =>
                repeat' (first
                  | (show VR _ _ _ (_ :: _) _ _ _; first | refine x_opF rfl (by first | exact True.intro | omega) ?_ | (show VR _ _ _ (⟨_, .binOp _ _ _ _ _, _, _, _, _⟩ :: _) _ _ _; first | refine vr_bits (gk rfl) rfl rfl rfl rfl rfl ?_) | refine x_gknow rfl (by assumption) ?_)
                  | (show VR _ _ _ [] _ _ _; first | refine vr_nil ?_)
                  | (show thenQ _ _ _ _; first | refine q_then_n ?_)
                  | (show VC _ (.seq _ _) _ _; (fail_if_success (show VC _ (.seq (.seq (.region 33 _ _) _) _) _ _)); (fail_if_success (show VC _ (.seq (.region 33 _ _) _) _ _)); refine vc_seq ?_)
                  | refine vc_region ?_
                  | (show VC _ (.cond _ _ _) _ _; first | refine vc_cond_f rfl ?_ | refine x_know rfl (by assumption) ?_)
                  | refine vc_skip ?_
                  | fail)
                refine VC.le (σ' := stOf [(5, .c (.ptr 5 0)), (6, .c (.ptr 6 0)), (8, AI put), (14, .c (.row 45 got.length)), (15, .c (.row 46 acked.length)), (16, AI sent), (17, AI tries), (88, AD (rdOf encF 1 fs)), (89, AI fs.length), (90, AI k), (18, AI k), (19, AD (.int .u8 (fs.getD k default))), (20, AI (p :: L).length), (21, .c (.ptr 21 0)), (26, AB (decide (bitF .and .u8 (fs.getD k default) 2 = 0))), (27, .c (.ptr 27 0))] [(5, .box (oA (p :: L) sent tries).cs), (6, .box (oB seen).cs), (21, .box (oM p sent).cs), (27, .box (oRb (oM p sent) (decide (0 < (((p :: L).length : Nat) : Int)))).cs), (45, .row 9 1 (rowOf encS got)), (46, .row 9 1 (rowOf encS acked))]) ?_ ?_
                · refine le_gen0 (fun n => n) ?_ ?_ rfl (by first | rfl | (simp only [wfL, wfs, mpO_namesB, mpO_namesI]; rfl))
                  all_goals repeat' (first | exact trivial | refine ⟨⟨_, rfl, ?_⟩, ?_⟩ | exact .c .d | exact .c (.ptr rfl) | exact .c (.row rfl rfl) | exact .boxD rfl rfl | exact .rowD rfl rowOf_isD | fail)
                have dw2 : (oRb (oM p sent) (decide (0 < (((p :: L).length : Nat) : Int)))).heard = true := dw
                by_cases hcu : seen = [⟨1, sent⟩]
                · have hdb := of_doneB hsn hs8 k hk60 p (decide (0 < (((p :: L).length : Nat) : Int))) dw false (by rw [decide_eq_true hcu]; rfl)
                  have hc0 : curO seen sent = 1 := if_pos hcu
                  obtain ⟨_, g, hg⟩ := hlast hcu
                  have hg : got = g ++ [p.data] := hg
                  have hgl : got.length = g.length + 1 := by rw [hg]; simp
                  repeat' (first
                    | (show VR _ _ _ (_ :: _) _ _ _; first | refine x_opF rfl (by first | exact True.intro | omega) ?_ | (show VR _ _ _ (⟨_, .call ⟨.value _, _, _⟩, _, _, _, _⟩ :: _) _ _ _; first | refine vr_calldU (hdb) (gk rfl) rfl rfl rfl (by first | rfl | (simp only [wfRes, wfL, wfArgs, wfs, mpO_namesB, mpO_namesI]; rfl)) rfl (by first | exact newB_nil | exact newB_O | ((simp only [newB, List.map_cons, List.map_nil, Blk.shift, rowOf_shift]) <;> rfl) | rfl) rfl ?_))
                    | (show VR _ _ _ [] _ _ _; first | refine vr_nil ?_)
                    | (show thenQ _ _ _ _; first | refine q_then_n ?_)
                    | (show VC _ (.seq _ _) _ _; (fail_if_success (show VC _ (.seq (.seq (.region 34 _ _) _) _) _ _)); (fail_if_success (show VC _ (.seq (.region 34 _ _) _) _ _)); refine vc_seq ?_)
                    | refine vc_region ?_
                    | fail)
                  refine VC.le (σ' := stOf [(5, .c (.ptr 5 0)), (6, .c (.ptr 6 0)), (8, AI put), (14, .c (.row 45 got.length)), (15, .c (.row 46 acked.length)), (16, AI sent), (17, AI tries), (88, AD (rdOf encF 1 fs)), (89, AI fs.length), (90, AI k), (18, AI k), (19, AD (.int .u8 (fs.getD k default))), (20, AI (p :: L).length), (21, .c (.ptr 21 0)), (26, AB (decide (bitF .and .u8 (fs.getD k default) 2 = 0))), (27, .c (.ptr 27 0)), (28, .c (.ptr 28 0)), (29, .c (.ptr 29 0)), (30, AI 0)] [(5, .box (oA (p :: L) sent tries).cs), (6, .box (oB seen).cs), (21, .box (oM p sent).cs), (27, .box (oRb (oM p sent) (decide (0 < (((p :: L).length : Nat) : Int)))).cs), (28, .box (oB [⟨1, sent⟩]).cs), (29, .box (upOf (oF p sent) false).cs), (45, .row 9 1 (rowOf encS got)), (46, .row 9 1 (rowOf encS acked))]) ?_ ?_
                  · refine le_gen0 (fun n => n) ?_ ?_ rfl (by first | rfl | (simp only [wfL, wfs, mpO_namesB, mpO_namesI]; rfl))
                    all_goals repeat' (first | exact trivial | refine ⟨⟨_, rfl, ?_⟩, ?_⟩ | exact .c .d | exact .c (.ptr rfl) | exact .c (.row rfl rfl) | exact .boxD rfl rfl | exact .rowD rfl rowOf_isD | fail)
                  cases hb : decide (bitF .and .u8 (fs.getD k default) 2 = 0) with
                  | true =>
                    have hda := of_doneA hL hs8 ht k hk60 true
                    rw [if_pos (.inl rfl)] at hda
                    repeat' (first
                      | (show VR _ _ _ (_ :: _) _ _ _; first | refine x_opF rfl (by first | exact True.intro | omega) ?_ | (show VR _ _ _ (⟨_, .call ⟨.value _, _, _⟩, _, _, _, _⟩ :: _) _ _ _; first | refine vr_calldU (hda) (gk rfl) rfl rfl rfl (by first | rfl | (simp only [wfRes, wfL, wfArgs, wfs, mpO_namesB, mpO_namesI]; rfl)) rfl (by first | exact newB_nil | exact newB_O | ((simp only [newB, List.map_cons, List.map_nil, Blk.shift, rowOf_shift]) <;> rfl) | rfl) rfl ?_) | refine x_gknow rfl (by assumption) ?_)
                      | (show VR _ _ _ [] _ _ _; first | refine vr_nil ?_)
                      | (show thenQ _ _ _ _; first | refine q_then_n ?_)
                      | (show VC _ (.seq _ _) _ _; (fail_if_success (show VC _ (.seq (.seq (.region 35 _ _) _) _) _ _)); (fail_if_success (show VC _ (.seq (.region 35 _ _) _) _ _)); refine vc_seq ?_)
                      | refine vc_region ?_
                      | fail)
                    refine VC.le (σ' := stOf [(5, .c (.ptr 5 0)), (6, .c (.ptr 6 0)), (8, AI put), (14, .c (.row 45 got.length)), (15, .c (.row 46 acked.length)), (16, AI sent), (17, AI tries), (88, AD (rdOf encF 1 fs)), (89, AI fs.length), (90, AI k), (18, AI k), (19, AD (.int .u8 (fs.getD k default))), (20, AI (p :: L).length), (21, .c (.ptr 21 0)), (26, AB true), (27, .c (.ptr 27 0)), (28, .c (.ptr 28 0)), (29, .c (.ptr 29 0)), (30, AI 0), (31, .c (.ptr 31 0)), (33, AI 0)] [(5, .box (oA (p :: L) sent tries).cs), (6, .box (oB seen).cs), (21, .box (oM p sent).cs), (27, .box (oRb (oM p sent) (decide (0 < (((p :: L).length : Nat) : Int)))).cs), (28, .box (oB [⟨1, sent⟩]).cs), (29, .box (upOf (oF p sent) false).cs), (31, .box (oA L (sent + 1) 0).cs), (45, .row 9 1 (rowOf encS got)), (46, .row 9 1 (rowOf encS acked))]) ?_ ?_
                    · refine le_gen0 (fun n => n) ?_ ?_ rfl (by first | rfl | (simp only [wfL, wfs, mpO_namesB, mpO_namesI]; rfl))
                      all_goals repeat' (first | exact trivial | refine ⟨⟨_, rfl, ?_⟩, ?_⟩ | exact .c .d | exact .c (.ptr rfl) | exact .c (.row rfl rfl) | exact .boxD rfl rfl | exact .rowD rfl rowOf_isD | fail)
                    have u1 : (upOf (oF p sent) false).some = true := rfl
                    have u2 : (upOf (oF p sent) false).new = false := rfl
                    have f1 : decide (((oA L (sent + 1) 0).qu.packets.length : Int) < (((p :: L).length : Nat) : Int)) = true := decide_eq_true (by show ((L.length : Nat) : Int) < (((p :: L).length : Nat) : Int); rw [List.length_cons]; omega)
                    have f3 : decide ((((p :: L).length : Nat) : Int) = 0) = false := decide_eq_false (by rw [List.length_cons]; omega)
                    have f2 : decide (sent + 1 + 1 < (got.length : Int)) = false := decide_eq_false (by omega)
                    have f5 : decide (((got.length : Nat) : Int) = 0) = false := decide_eq_false (by omega)
                    have f6 : decide (got.getD ((got.length : Int) - 1).toNat default ≠ (oM p sent).data) = false := by
                      refine decide_eq_false (fun h => h ?_)
                      have e : ((got.length : Int) - 1).toNat = g.length := by omega
                      rw [e, hg]
                      simp [oM]
                    repeat' (first
                      | (show VR _ _ _ (_ :: _) _ _ _; first | (show VR _ _ _ (⟨_, .binOp _ _ _ _ _, _, _, _, _⟩ :: _) _ _ _; first | refine vr_neqStr (gk rfl) rfl rfl rfl rfl ?_) | refine x_opF rfl (by first | exact True.intro | omega) ?_ | (show VR _ _ _ (⟨_, .indexAddr _ _ _, _, _, _, _⟩ :: _) _ _ _; first | refine vr_index_rowN (gk rfl) rfl rfl rfl rfl rfl (by omega) (by first | rfl | exact rowOf_length.symm | (simp only [lns] <;> omega)) rfl ?_) | (show VR _ _ _ (⟨_, .call ⟨.builtin .len, _, _⟩, _, _, _, _⟩ :: _) _ _ _; first | refine vr_len_row (gk rfl) rfl rfl (by first | rfl | exact rowOf_length.symm | (simp only [lns] <;> omega)) rfl rfl ?_) | (show VR _ _ _ (⟨_, .call ⟨.builtin .append, _, _⟩, _, _, _, _⟩ :: _) _ _ _; first | refine vr_append0 (gk rfl) rfl rfl rfl (by first | rfl | exact rowOf_length.symm | (simp only [lns] <;> omega)) (by first | exact .row rfl (by first | rfl | exact rowOf_length.symm) | exact .rd | exact .nils) rfl rfl rfl (by (try dsimp only); omega) rfl rfl ?_) | (show VR _ _ _ (⟨_, .load _ _, _, _, _, _⟩ :: _) _ _ _; first | refine vr_load_rowO (gk rfl) rfl rfl (by omega) rfl rfl rfl ?_) | refine x_gknow rfl (by assumption) ?_)
                      | (show VR _ _ _ [] _ _ _; first | refine vr_nil ?_ | refine vr_nil_t (by kernel_rfl) ?_)
                      | (show thenQ _ _ _ _; first | refine q_then_n ?_)
                      | (show blockQ _ _ _ _; first | refine q_blk_n ?_)
                      | refine vc_seq ?_
                      | refine vc_region ?_ | refine vc_region_t ?_
                      | (show VC _ (.cond _ _ _) _ _; first | refine vc_cond_t rfl ?_ | refine vc_cond_f rfl ?_ | refine x_know rfl (by assumption) ?_)
                      | refine vc_skip ?_
                      | fail)
                    refine ⟨(k + 1, L, sent + 1, 0, [⟨1, sent⟩], got, (acked ++ [p.data])), ⟨by dsimp only; omega, ?_⟩, by dsimp only; omega, ?_⟩
                    · dsimp only
                      exact inv_leave hL hs0 hsum hput8 (.inr ⟨sent, rfl, hs0, Int.le_refl _⟩) (by omega) (by rw [List.length_append]; show acked.length + 1 ≤ _; omega)
                    dsimp only
                    rw [show (acked ++ [p.data]).length = acked.length + 1 by simp]
                    refine le_gen0 (fun n => if n = 46 then 205 else n) ?_ ?_ rfl (by first | rfl | (simp only [wfL, wfs, mpO_namesB, mpO_namesI]; rfl))
                    all_goals repeat' (first | exact trivial | refine ⟨⟨_, rfl, ?_⟩, ?_⟩ | exact .c .d | exact .c (.ptr rfl) | exact .c (.row rfl rfl) | exact .boxD rfl rfl | exact .rowD rfl rowOf_isD | (refine .rowD ?_ rowOf_isD; rw [rowOf_append]; rfl) | fail)
                  | false =>
                    have hda := of_doneA hL hs8 ht k hk60 false
                    by_cases h3 : tries = 3
                    · rw [if_pos (.inr h3)] at hda
                      repeat' (first
                        | (show VR _ _ _ (_ :: _) _ _ _; first | refine x_opF rfl (by first | exact True.intro | omega) ?_ | (show VR _ _ _ (⟨_, .call ⟨.value _, _, _⟩, _, _, _, _⟩ :: _) _ _ _; first | refine vr_calldU (hda) (gk rfl) rfl rfl rfl (by first | rfl | (simp only [wfRes, wfL, wfArgs, wfs, mpO_namesB, mpO_namesI]; rfl)) rfl (by first | exact newB_nil | exact newB_O | ((simp only [newB, List.map_cons, List.map_nil, Blk.shift, rowOf_shift]) <;> rfl) | rfl) rfl ?_) | refine x_gknow rfl (by assumption) ?_)
                        | (show VR _ _ _ [] _ _ _; first | refine vr_nil ?_)
                        | (show thenQ _ _ _ _; first | refine q_then_n ?_)
                        | (show VC _ (.seq _ _) _ _; (fail_if_success (show VC _ (.seq (.seq (.region 35 _ _) _) _) _ _)); (fail_if_success (show VC _ (.seq (.region 35 _ _) _) _ _)); refine vc_seq ?_)
                        | refine vc_region ?_
                        | fail)
                      refine VC.le (σ' := stOf [(5, .c (.ptr 5 0)), (6, .c (.ptr 6 0)), (8, AI put), (14, .c (.row 45 got.length)), (15, .c (.row 46 acked.length)), (16, AI sent), (17, AI tries), (88, AD (rdOf encF 1 fs)), (89, AI fs.length), (90, AI k), (18, AI k), (19, AD (.int .u8 (fs.getD k default))), (20, AI (p :: L).length), (21, .c (.ptr 21 0)), (26, AB false), (27, .c (.ptr 27 0)), (28, .c (.ptr 28 0)), (29, .c (.ptr 29 0)), (30, AI 0), (31, .c (.ptr 31 0)), (33, AI 0)] [(5, .box (oA (p :: L) sent tries).cs), (6, .box (oB seen).cs), (21, .box (oM p sent).cs), (27, .box (oRb (oM p sent) (decide (0 < (((p :: L).length : Nat) : Int)))).cs), (28, .box (oB [⟨1, sent⟩]).cs), (29, .box (upOf (oF p sent) false).cs), (31, .box (oA L (sent + 1) 0).cs), (45, .row 9 1 (rowOf encS got)), (46, .row 9 1 (rowOf encS acked))]) ?_ ?_
                      · refine le_gen0 (fun n => n) ?_ ?_ rfl (by first | rfl | (simp only [wfL, wfs, mpO_namesB, mpO_namesI]; rfl))
                        all_goals repeat' (first | exact trivial | refine ⟨⟨_, rfl, ?_⟩, ?_⟩ | exact .c .d | exact .c (.ptr rfl) | exact .c (.row rfl rfl) | exact .boxD rfl rfl | exact .rowD rfl rowOf_isD | fail)
                      have u1 : (upOf (oF p sent) false).some = true := rfl
                      have u2 : (upOf (oF p sent) false).new = false := rfl
                      have f1 : decide (((oA L (sent + 1) 0).qu.packets.length : Int) < (((p :: L).length : Nat) : Int)) = true := decide_eq_true (by show ((L.length : Nat) : Int) < (((p :: L).length : Nat) : Int); rw [List.length_cons]; omega)
                      have f3 : decide ((((p :: L).length : Nat) : Int) = 0) = false := decide_eq_false (by rw [List.length_cons]; omega)
                      have f2 : decide (sent + 1 + 1 < (got.length : Int)) = false := decide_eq_false (by omega)
                      repeat' (first
                        | (show VR _ _ _ (_ :: _) _ _ _; first | refine x_opF rfl (by first | exact True.intro | omega) ?_ | (show VR _ _ _ (⟨_, .call ⟨.builtin .len, _, _⟩, _, _, _, _⟩ :: _) _ _ _; first | refine vr_len_row (gk rfl) rfl rfl (by first | rfl | exact rowOf_length.symm | (simp only [lns] <;> omega)) rfl rfl ?_) | refine x_gknow rfl (by assumption) ?_)
                        | (show VR _ _ _ [] _ _ _; first | refine vr_nil ?_ | refine vr_nil_t (by kernel_rfl) ?_)
                        | (show thenQ _ _ _ _; first | refine q_then_n ?_)
                        | (show blockQ _ _ _ _; first | refine q_blk_n ?_)
                        | refine vc_seq ?_
                        | refine vc_region ?_ | refine vc_region_t ?_
                        | (show VC _ (.cond _ _ _) _ _; first | refine vc_cond_t rfl ?_ | refine vc_cond_f rfl ?_ | refine x_know rfl (by assumption) ?_)
                        | refine vc_skip ?_
                        | fail)
                      refine ⟨(k + 1, L, sent + 1, 0, [⟨1, sent⟩], got, acked), ⟨by dsimp only; omega, ?_⟩, by dsimp only; omega, ?_⟩
                      · dsimp only
                        exact inv_leave hL hs0 hsum hput8 (.inr ⟨sent, rfl, hs0, Int.le_refl _⟩) (by omega) (by omega)
                      dsimp only
                      refine le_gen0 (fun n => n) ?_ ?_ rfl (by first | rfl | (simp only [wfL, wfs, mpO_namesB, mpO_namesI]; rfl))
                      all_goals repeat' (first | exact trivial | refine ⟨⟨_, rfl, ?_⟩, ?_⟩ | exact .c .d | exact .c (.ptr rfl) | exact .c (.row rfl rfl) | exact .boxD rfl rfl | exact .rowD rfl rowOf_isD | fail)
                    · rw [if_neg (by simp [h3])] at hda
                      repeat' (first
                        | (show VR _ _ _ (_ :: _) _ _ _; first | refine x_opF rfl (by first | exact True.intro | omega) ?_ | (show VR _ _ _ (⟨_, .call ⟨.value _, _, _⟩, _, _, _, _⟩ :: _) _ _ _; first | refine vr_calldU (hda) (gk rfl) rfl rfl rfl (by first | rfl | (simp only [wfRes, wfL, wfArgs, wfs, mpO_namesB, mpO_namesI]; rfl)) rfl (by first | exact newB_nil | exact newB_O | ((simp only [newB, List.map_cons, List.map_nil, Blk.shift, rowOf_shift]) <;> rfl) | rfl) rfl ?_) | refine x_gknow rfl (by assumption) ?_)
                        | (show VR _ _ _ [] _ _ _; first | refine vr_nil ?_)
                        | (show thenQ _ _ _ _; first | refine q_then_n ?_)
                        | (show VC _ (.seq _ _) _ _; (fail_if_success (show VC _ (.seq (.seq (.region 35 _ _) _) _) _ _)); (fail_if_success (show VC _ (.seq (.region 35 _ _) _) _ _)); refine vc_seq ?_)
                        | refine vc_region ?_
                        | fail)
                      refine VC.le (σ' := stOf [(5, .c (.ptr 5 0)), (6, .c (.ptr 6 0)), (8, AI put), (14, .c (.row 45 got.length)), (15, .c (.row 46 acked.length)), (16, AI sent), (17, AI tries), (88, AD (rdOf encF 1 fs)), (89, AI fs.length), (90, AI k), (18, AI k), (19, AD (.int .u8 (fs.getD k default))), (20, AI (p :: L).length), (21, .c (.ptr 21 0)), (26, AB false), (27, .c (.ptr 27 0)), (28, .c (.ptr 28 0)), (29, .c (.ptr 29 0)), (30, AI 0), (31, .c (.ptr 31 0)), (33, AI 0)] [(5, .box (oA (p :: L) sent tries).cs), (6, .box (oB seen).cs), (21, .box (oM p sent).cs), (27, .box (oRb (oM p sent) (decide (0 < (((p :: L).length : Nat) : Int)))).cs), (28, .box (oB [⟨1, sent⟩]).cs), (29, .box (upOf (oF p sent) false).cs), (31, .box (oA (p :: L) sent (tries + 1)).cs), (45, .row 9 1 (rowOf encS got)), (46, .row 9 1 (rowOf encS acked))]) ?_ ?_
                      · refine le_gen0 (fun n => n) ?_ ?_ rfl (by first | rfl | (simp only [wfL, wfs, mpO_namesB, mpO_namesI]; rfl))
                        all_goals repeat' (first | exact trivial | refine ⟨⟨_, rfl, ?_⟩, ?_⟩ | exact .c .d | exact .c (.ptr rfl) | exact .c (.row rfl rfl) | exact .boxD rfl rfl | exact .rowD rfl rowOf_isD | fail)
                      have u1 : (upOf (oF p sent) false).some = true := rfl
                      have u2 : (upOf (oF p sent) false).new = false := rfl
                      have f1 : decide (((oA (p :: L) sent (tries + 1)).qu.packets.length : Int) < (((p :: L).length : Nat) : Int)) = false := decide_eq_false (by show ¬ (((p :: L).length : Nat) : Int) < (((p :: L).length : Nat) : Int); omega)
                      have f3 : decide ((((p :: L).length : Nat) : Int) = 0) = false := decide_eq_false (by rw [List.length_cons]; omega)
                      have f4 : decide (4 ≤ tries + 1) = false := decide_eq_false (by omega)
                      have f2 : decide (sent + 1 < (got.length : Int)) = false := decide_eq_false (by omega)
                      repeat' (first
                        | (show VR _ _ _ (_ :: _) _ _ _; first | refine x_opF rfl (by first | exact True.intro | omega) ?_ | (show VR _ _ _ (⟨_, .call ⟨.builtin .len, _, _⟩, _, _, _, _⟩ :: _) _ _ _; first | refine vr_len_row (gk rfl) rfl rfl (by first | rfl | exact rowOf_length.symm | (simp only [lns] <;> omega)) rfl rfl ?_) | refine x_gknow rfl (by assumption) ?_)
                        | (show VR _ _ _ [] _ _ _; first | refine vr_nil ?_ | refine vr_nil_t (by kernel_rfl) ?_)
                        | (show thenQ _ _ _ _; first | refine q_then_n ?_)
                        | (show blockQ _ _ _ _; first | refine q_blk_n ?_)
                        | refine vc_seq ?_
                        | refine vc_region ?_ | refine vc_region_t ?_
                        | (show VC _ (.cond _ _ _) _ _; first | refine vc_cond_f rfl ?_ | refine x_know rfl (by assumption) ?_)
                        | refine vc_skip ?_
                        | fail)
                      refine ⟨(k + 1, (p :: L), sent, tries + 1, [⟨1, sent⟩], got, acked), ⟨by dsimp only; omega, ?_⟩, by dsimp only; omega, ?_⟩
                      · dsimp only
                        exact inv_stay hL hs0 hsum hput8 (by omega) (.inr ⟨sent, rfl, hs0, Int.le_refl _⟩) (fun _ => ⟨by simp, g, hg⟩) (by rw [cur_self]; omega) (by rw [cur_self]; omega)
                      dsimp only
                      refine le_gen0 (fun n => n) ?_ ?_ rfl (by first | rfl | (simp only [wfL, wfs, mpO_namesB, mpO_namesI]; rfl))
                      all_goals repeat' (first | exact trivial | refine ⟨⟨_, rfl, ?_⟩, ?_⟩ | exact .c .d | exact .c (.ptr rfl) | exact .c (.row rfl rfl) | exact .boxD rfl rfl | exact .rowD rfl rowOf_isD | fail)
                · have hdb := of_doneB hsn hs8 k hk60 p (decide (0 < (((p :: L).length : Nat) : Int))) dw true (by rw [decide_eq_false hcu]; rfl)
                  have hc0 : curO seen sent = 0 := if_neg hcu
                  repeat' (first
                    | (show VR _ _ _ (_ :: _) _ _ _; first | refine x_opF rfl (by first | exact True.intro | omega) ?_ | (show VR _ _ _ (⟨_, .call ⟨.value _, _, _⟩, _, _, _, _⟩ :: _) _ _ _; first | refine vr_calldU (hdb) (gk rfl) rfl rfl rfl (by first | rfl | (simp only [wfRes, wfL, wfArgs, wfs, mpO_namesB, mpO_namesI]; rfl)) rfl (by first | exact newB_nil | exact newB_O | ((simp only [newB, List.map_cons, List.map_nil, Blk.shift, rowOf_shift]) <;> rfl) | rfl) rfl ?_))
                    | (show VR _ _ _ [] _ _ _; first | refine vr_nil ?_)
                    | (show thenQ _ _ _ _; first | refine q_then_n ?_)
                    | (show VC _ (.seq _ _) _ _; (fail_if_success (show VC _ (.seq (.seq (.region 34 _ _) _) _) _ _)); (fail_if_success (show VC _ (.seq (.region 34 _ _) _) _ _)); refine vc_seq ?_)
                    | refine vc_region ?_
                    | fail)
                  refine VC.le (σ' := stOf [(5, .c (.ptr 5 0)), (6, .c (.ptr 6 0)), (8, AI put), (14, .c (.row 45 got.length)), (15, .c (.row 46 acked.length)), (16, AI sent), (17, AI tries), (88, AD (rdOf encF 1 fs)), (89, AI fs.length), (90, AI k), (18, AI k), (19, AD (.int .u8 (fs.getD k default))), (20, AI (p :: L).length), (21, .c (.ptr 21 0)), (26, AB (decide (bitF .and .u8 (fs.getD k default) 2 = 0))), (27, .c (.ptr 27 0)), (28, .c (.ptr 28 0)), (29, .c (.ptr 29 0)), (30, AI 0)] [(5, .box (oA (p :: L) sent tries).cs), (6, .box (oB seen).cs), (21, .box (oM p sent).cs), (27, .box (oRb (oM p sent) (decide (0 < (((p :: L).length : Nat) : Int)))).cs), (28, .box (oB [⟨1, sent⟩]).cs), (29, .box (upOf (oF p sent) true).cs), (45, .row 9 1 (rowOf encS got)), (46, .row 9 1 (rowOf encS acked))]) ?_ ?_
                  · refine le_gen0 (fun n => n) ?_ ?_ rfl (by first | rfl | (simp only [wfL, wfs, mpO_namesB, mpO_namesI]; rfl))
                    all_goals repeat' (first | exact trivial | refine ⟨⟨_, rfl, ?_⟩, ?_⟩ | exact .c .d | exact .c (.ptr rfl) | exact .c (.row rfl rfl) | exact .boxD rfl rfl | exact .rowD rfl rowOf_isD | fail)
                  cases hb : decide (bitF .and .u8 (fs.getD k default) 2 = 0) with
                  | true =>
                    have hda := of_doneA hL hs8 ht k hk60 true
                    rw [if_pos (.inl rfl)] at hda
                    repeat' (first
                      | (show VR _ _ _ (_ :: _) _ _ _; first | refine x_opF rfl (by first | exact True.intro | omega) ?_ | (show VR _ _ _ (⟨_, .call ⟨.value _, _, _⟩, _, _, _, _⟩ :: _) _ _ _; first | refine vr_calldU (hda) (gk rfl) rfl rfl rfl (by first | rfl | (simp only [wfRes, wfL, wfArgs, wfs, mpO_namesB, mpO_namesI]; rfl)) rfl (by first | exact newB_nil | exact newB_O | ((simp only [newB, List.map_cons, List.map_nil, Blk.shift, rowOf_shift]) <;> rfl) | rfl) rfl ?_) | refine x_gknow rfl (by assumption) ?_)
                      | (show VR _ _ _ [] _ _ _; first | refine vr_nil ?_)
                      | (show thenQ _ _ _ _; first | refine q_then_n ?_)
                      | (show VC _ (.seq _ _) _ _; (fail_if_success (show VC _ (.seq (.seq (.region 35 _ _) _) _) _ _)); (fail_if_success (show VC _ (.seq (.region 35 _ _) _) _ _)); refine vc_seq ?_)
                      | refine vc_region ?_
                      | fail)
                    refine VC.le (σ' := stOf [(5, .c (.ptr 5 0)), (6, .c (.ptr 6 0)), (8, AI put), (14, .c (.row 45 got.length)), (15, .c (.row 46 acked.length)), (16, AI sent), (17, AI tries), (88, AD (rdOf encF 1 fs)), (89, AI fs.length), (90, AI k), (18, AI k), (19, AD (.int .u8 (fs.getD k default))), (20, AI (p :: L).length), (21, .c (.ptr 21 0)), (26, AB true), (27, .c (.ptr 27 0)), (28, .c (.ptr 28 0)), (29, .c (.ptr 29 0)), (30, AI 0), (31, .c (.ptr 31 0)), (33, AI 0)] [(5, .box (oA (p :: L) sent tries).cs), (6, .box (oB seen).cs), (21, .box (oM p sent).cs), (27, .box (oRb (oM p sent) (decide (0 < (((p :: L).length : Nat) : Int)))).cs), (28, .box (oB [⟨1, sent⟩]).cs), (29, .box (upOf (oF p sent) true).cs), (31, .box (oA L (sent + 1) 0).cs), (45, .row 9 1 (rowOf encS got)), (46, .row 9 1 (rowOf encS acked))]) ?_ ?_
                    · refine le_gen0 (fun n => n) ?_ ?_ rfl (by first | rfl | (simp only [wfL, wfs, mpO_namesB, mpO_namesI]; rfl))
                      all_goals repeat' (first | exact trivial | refine ⟨⟨_, rfl, ?_⟩, ?_⟩ | exact .c .d | exact .c (.ptr rfl) | exact .c (.row rfl rfl) | exact .boxD rfl rfl | exact .rowD rfl rowOf_isD | fail)
                    have u1 : (upOf (oF p sent) true).some = true := rfl
                    have u2 : (upOf (oF p sent) true).new = true := rfl
                    have f1 : decide (((oA L (sent + 1) 0).qu.packets.length : Int) < (((p :: L).length : Nat) : Int)) = true := decide_eq_true (by show ((L.length : Nat) : Int) < (((p :: L).length : Nat) : Int); rw [List.length_cons]; omega)
                    have f3 : decide ((((p :: L).length : Nat) : Int) = 0) = false := decide_eq_false (by rw [List.length_cons]; omega)
                    have hg : ∃ gt, gt = got ++ [p.data] := ⟨_, rfl⟩
                    obtain ⟨gt, hg⟩ := hg
                    have hgl : gt.length = got.length + 1 := by rw [hg]; simp
                    repeat' (first
                      | (show VR _ _ _ (_ :: _) _ _ _; first | refine x_opF rfl (by first | exact True.intro | omega) ?_ | (show VR _ _ _ (⟨_, .call ⟨.builtin .append, _, _⟩, _, _, _, _⟩ :: _) _ _ _; first | refine vr_append0 (gk rfl) rfl rfl rfl (by first | rfl | exact rowOf_length.symm | (simp only [lns] <;> omega)) (by first | exact .row rfl (by first | rfl | exact rowOf_length.symm) | exact .rd | exact .nils) rfl rfl rfl (by (try dsimp only); omega) rfl rfl ?_))
                      | (show VR _ _ _ [] _ _ _; first | refine vr_nil ?_)
                      | (show thenQ _ _ _ _; first | refine q_then_n ?_)
                      | (show VC _ (.seq _ _) _ _; (fail_if_success (show VC _ (.seq (.seq (.region 39 _ _) _) _) _ _)); (fail_if_success (show VC _ (.seq (.region 39 _ _) _) _ _)); refine vc_seq ?_)
                      | refine vc_region ?_
                      | (show VC _ (.cond _ _ _) _ _; first | refine vc_cond_t rfl ?_ | refine vc_cond_f rfl ?_)
                      | refine vc_skip ?_
                      | fail)
                    refine VC.le (σ' := stOf [(5, .c (.ptr 5 0)), (6, .c (.ptr 6 0)), (8, AI put), (14, .c (.row 45 gt.length)), (15, .c (.row 46 acked.length)), (16, AI sent), (17, AI tries), (88, AD (rdOf encF 1 fs)), (89, AI fs.length), (90, AI k), (18, AI k), (19, AD (.int .u8 (fs.getD k default))), (20, AI (p :: L).length), (21, .c (.ptr 21 0)), (26, AB true), (27, .c (.ptr 27 0)), (28, .c (.ptr 28 0)), (29, .c (.ptr 29 0)), (30, AI 0), (31, .c (.ptr 31 0)), (33, AI 0)] [(5, .box (oA (p :: L) sent tries).cs), (6, .box (oB seen).cs), (21, .box (oM p sent).cs), (27, .box (oRb (oM p sent) (decide (0 < (((p :: L).length : Nat) : Int)))).cs), (28, .box (oB [⟨1, sent⟩]).cs), (29, .box (upOf (oF p sent) true).cs), (31, .box (oA L (sent + 1) 0).cs), (45, .row 9 1 (rowOf encS gt)), (46, .row 9 1 (rowOf encS acked))]) ?_ ?_
                    · rw [hgl, hg]
                      refine le_gen0 (fun n => if n = 45 then 186 else n) ?_ ?_ rfl (by first | rfl | (simp only [wfL, wfs, mpO_namesB, mpO_namesI]; rfl))
                      all_goals repeat' (first | exact trivial | refine ⟨⟨_, rfl, ?_⟩, ?_⟩ | exact .c .d | exact .c (.ptr rfl) | exact .c (.row rfl rfl) | exact .boxD rfl rfl | exact .rowD rfl rowOf_isD | (refine .rowD ?_ rowOf_isD; rw [rowOf_append]; rfl) | fail)
                    have f2 : decide (sent + 1 + 1 < (gt.length : Int)) = false := decide_eq_false (by omega)
                    have f5 : decide (((gt.length : Nat) : Int) = 0) = false := decide_eq_false (by omega)
                    have f6 : decide (gt.getD ((gt.length : Int) - 1).toNat default ≠ (oM p sent).data) = false := by
                      refine decide_eq_false (fun h => h ?_)
                      have e : ((gt.length : Int) - 1).toNat = got.length := by omega
                      rw [e, hg]
                      simp [oM]
                    repeat' (first
                      | (show VR _ _ _ (_ :: _) _ _ _; first | (show VR _ _ _ (⟨_, .binOp _ _ _ _ _, _, _, _, _⟩ :: _) _ _ _; first | refine vr_neqStr (gk rfl) rfl rfl rfl rfl ?_) | refine x_opF rfl (by first | exact True.intro | omega) ?_ | (show VR _ _ _ (⟨_, .indexAddr _ _ _, _, _, _, _⟩ :: _) _ _ _; first | refine vr_index_rowN (gk rfl) rfl rfl rfl rfl rfl (by omega) (by first | rfl | exact rowOf_length.symm | (simp only [lns] <;> omega)) rfl ?_) | (show VR _ _ _ (⟨_, .call ⟨.builtin .len, _, _⟩, _, _, _, _⟩ :: _) _ _ _; first | refine vr_len_row (gk rfl) rfl rfl (by first | rfl | exact rowOf_length.symm | (simp only [lns] <;> omega)) rfl rfl ?_) | (show VR _ _ _ (⟨_, .call ⟨.builtin .append, _, _⟩, _, _, _, _⟩ :: _) _ _ _; first | refine vr_append0 (gk rfl) rfl rfl rfl (by first | rfl | exact rowOf_length.symm | (simp only [lns] <;> omega)) (by first | exact .row rfl (by first | rfl | exact rowOf_length.symm) | exact .rd | exact .nils) rfl rfl rfl (by (try dsimp only); omega) rfl rfl ?_) | (show VR _ _ _ (⟨_, .load _ _, _, _, _, _⟩ :: _) _ _ _; first | refine vr_load_rowO (gk rfl) rfl rfl (by omega) rfl rfl rfl ?_) | refine x_gknow rfl (by assumption) ?_)
                      | (show VR _ _ _ [] _ _ _; first | refine vr_nil ?_ | refine vr_nil_t (by kernel_rfl) ?_)
                      | (show thenQ _ _ _ _; first | refine q_then_n ?_)
                      | (show blockQ _ _ _ _; first | refine q_blk_n ?_)
                      | refine vc_seq ?_
                      | refine vc_region ?_ | refine vc_region_t ?_
                      | (show VC _ (.cond _ _ _) _ _; first | refine vc_cond_t rfl ?_ | refine vc_cond_f rfl ?_ | refine x_know rfl (by assumption) ?_)
                      | refine vc_skip ?_
                      | fail)
                    refine ⟨(k + 1, L, sent + 1, 0, [⟨1, sent⟩], gt, (acked ++ [p.data])), ⟨by dsimp only; omega, ?_⟩, by dsimp only; omega, ?_⟩
                    · dsimp only
                      exact inv_leave hL hs0 hsum hput8 (.inr ⟨sent, rfl, hs0, Int.le_refl _⟩) (by omega) (by rw [List.length_append]; show acked.length + 1 ≤ _; omega)
                    dsimp only
                    rw [show (acked ++ [p.data]).length = acked.length + 1 by simp]
                    refine le_gen0 (fun n => if n = 46 then 205 else n) ?_ ?_ rfl (by first | rfl | (simp only [wfL, wfs, mpO_namesB, mpO_namesI]; rfl))
                    all_goals repeat' (first | exact trivial | refine ⟨⟨_, rfl, ?_⟩, ?_⟩ | exact .c .d | exact .c (.ptr rfl) | exact .c (.row rfl rfl) | exact .boxD rfl rfl | exact .rowD rfl rowOf_isD | (refine .rowD ?_ rowOf_isD; rw [rowOf_append]; rfl) | fail)
                  | false =>
                    have hda := of_doneA hL hs8 ht k hk60 false
                    by_cases h3 : tries = 3
                    · rw [if_pos (.inr h3)] at hda
                      repeat' (first
                        | (show VR _ _ _ (_ :: _) _ _ _; first | refine x_opF rfl (by first | exact True.intro | omega) ?_ | (show VR _ _ _ (⟨_, .call ⟨.value _, _, _⟩, _, _, _, _⟩ :: _) _ _ _; first | refine vr_calldU (hda) (gk rfl) rfl rfl rfl (by first | rfl | (simp only [wfRes, wfL, wfArgs, wfs, mpO_namesB, mpO_namesI]; rfl)) rfl (by first | exact newB_nil | exact newB_O | ((simp only [newB, List.map_cons, List.map_nil, Blk.shift, rowOf_shift]) <;> rfl) | rfl) rfl ?_) | refine x_gknow rfl (by assumption) ?_)
                        | (show VR _ _ _ [] _ _ _; first | refine vr_nil ?_)
                        | (show thenQ _ _ _ _; first | refine q_then_n ?_)
                        | (show VC _ (.seq _ _) _ _; (fail_if_success (show VC _ (.seq (.seq (.region 35 _ _) _) _) _ _)); (fail_if_success (show VC _ (.seq (.region 35 _ _) _) _ _)); refine vc_seq ?_)
                        | refine vc_region ?_
                        | fail)
                      refine VC.le (σ' := stOf [(5, .c (.ptr 5 0)), (6, .c (.ptr 6 0)), (8, AI put), (14, .c (.row 45 got.length)), (15, .c (.row 46 acked.length)), (16, AI sent), (17, AI tries), (88, AD (rdOf encF 1 fs)), (89, AI fs.length), (90, AI k), (18, AI k), (19, AD (.int .u8 (fs.getD k default))), (20, AI (p :: L).length), (21, .c (.ptr 21 0)), (26, AB false), (27, .c (.ptr 27 0)), (28, .c (.ptr 28 0)), (29, .c (.ptr 29 0)), (30, AI 0), (31, .c (.ptr 31 0)), (33, AI 0)] [(5, .box (oA (p :: L) sent tries).cs), (6, .box (oB seen).cs), (21, .box (oM p sent).cs), (27, .box (oRb (oM p sent) (decide (0 < (((p :: L).length : Nat) : Int)))).cs), (28, .box (oB [⟨1, sent⟩]).cs), (29, .box (upOf (oF p sent) true).cs), (31, .box (oA L (sent + 1) 0).cs), (45, .row 9 1 (rowOf encS got)), (46, .row 9 1 (rowOf encS acked))]) ?_ ?_
                      · refine le_gen0 (fun n => n) ?_ ?_ rfl (by first | rfl | (simp only [wfL, wfs, mpO_namesB, mpO_namesI]; rfl))
                        all_goals repeat' (first | exact trivial | refine ⟨⟨_, rfl, ?_⟩, ?_⟩ | exact .c .d | exact .c (.ptr rfl) | exact .c (.row rfl rfl) | exact .boxD rfl rfl | exact .rowD rfl rowOf_isD | fail)
                      have u1 : (upOf (oF p sent) true).some = true := rfl
                      have u2 : (upOf (oF p sent) true).new = true := rfl
                      have f1 : decide (((oA L (sent + 1) 0).qu.packets.length : Int) < (((p :: L).length : Nat) : Int)) = true := decide_eq_true (by show ((L.length : Nat) : Int) < (((p :: L).length : Nat) : Int); rw [List.length_cons]; omega)
                      have f3 : decide ((((p :: L).length : Nat) : Int) = 0) = false := decide_eq_false (by rw [List.length_cons]; omega)
                      have hg : ∃ gt, gt = got ++ [p.data] := ⟨_, rfl⟩
                      obtain ⟨gt, hg⟩ := hg
                      have hgl : gt.length = got.length + 1 := by rw [hg]; simp
                      repeat' (first
                        | (show VR _ _ _ (_ :: _) _ _ _; first | refine x_opF rfl (by first | exact True.intro | omega) ?_ | (show VR _ _ _ (⟨_, .call ⟨.builtin .append, _, _⟩, _, _, _, _⟩ :: _) _ _ _; first | refine vr_append0 (gk rfl) rfl rfl rfl (by first | rfl | exact rowOf_length.symm | (simp only [lns] <;> omega)) (by first | exact .row rfl (by first | rfl | exact rowOf_length.symm) | exact .rd | exact .nils) rfl rfl rfl (by (try dsimp only); omega) rfl rfl ?_))
                        | (show VR _ _ _ [] _ _ _; first | refine vr_nil ?_)
                        | (show thenQ _ _ _ _; first | refine q_then_n ?_)
                        | (show VC _ (.seq _ _) _ _; (fail_if_success (show VC _ (.seq (.seq (.region 39 _ _) _) _) _ _)); (fail_if_success (show VC _ (.seq (.region 39 _ _) _) _ _)); refine vc_seq ?_)
                        | refine vc_region ?_
                        | (show VC _ (.cond _ _ _) _ _; first | refine vc_cond_t rfl ?_ | refine vc_cond_f rfl ?_)
                        | refine vc_skip ?_
                        | fail)
                      refine VC.le (σ' := stOf [(5, .c (.ptr 5 0)), (6, .c (.ptr 6 0)), (8, AI put), (14, .c (.row 45 gt.length)), (15, .c (.row 46 acked.length)), (16, AI sent), (17, AI tries), (88, AD (rdOf encF 1 fs)), (89, AI fs.length), (90, AI k), (18, AI k), (19, AD (.int .u8 (fs.getD k default))), (20, AI (p :: L).length), (21, .c (.ptr 21 0)), (26, AB false), (27, .c (.ptr 27 0)), (28, .c (.ptr 28 0)), (29, .c (.ptr 29 0)), (30, AI 0), (31, .c (.ptr 31 0)), (33, AI 0)] [(5, .box (oA (p :: L) sent tries).cs), (6, .box (oB seen).cs), (21, .box (oM p sent).cs), (27, .box (oRb (oM p sent) (decide (0 < (((p :: L).length : Nat) : Int)))).cs), (28, .box (oB [⟨1, sent⟩]).cs), (29, .box (upOf (oF p sent) true).cs), (31, .box (oA L (sent + 1) 0).cs), (45, .row 9 1 (rowOf encS gt)), (46, .row 9 1 (rowOf encS acked))]) ?_ ?_
                      · rw [hgl, hg]
                        refine le_gen0 (fun n => if n = 45 then 186 else n) ?_ ?_ rfl (by first | rfl | (simp only [wfL, wfs, mpO_namesB, mpO_namesI]; rfl))
                        all_goals repeat' (first | exact trivial | refine ⟨⟨_, rfl, ?_⟩, ?_⟩ | exact .c .d | exact .c (.ptr rfl) | exact .c (.row rfl rfl) | exact .boxD rfl rfl | exact .rowD rfl rowOf_isD | (refine .rowD ?_ rowOf_isD; rw [rowOf_append]; rfl) | fail)
                      have f2 : decide (sent + 1 + 1 < (gt.length : Int)) = false := decide_eq_false (by omega)
                      repeat' (first
                        | (show VR _ _ _ (_ :: _) _ _ _; first | refine x_opF rfl (by first | exact True.intro | omega) ?_ | (show VR _ _ _ (⟨_, .call ⟨.builtin .len, _, _⟩, _, _, _, _⟩ :: _) _ _ _; first | refine vr_len_row (gk rfl) rfl rfl (by first | rfl | exact rowOf_length.symm | (simp only [lns] <;> omega)) rfl rfl ?_) | refine x_gknow rfl (by assumption) ?_)
                        | (show VR _ _ _ [] _ _ _; first | refine vr_nil ?_ | refine vr_nil_t (by kernel_rfl) ?_)
                        | (show thenQ _ _ _ _; first | refine q_then_n ?_)
                        | (show blockQ _ _ _ _; first | refine q_blk_n ?_)
                        | refine vc_seq ?_
                        | refine vc_region ?_ | refine vc_region_t ?_
                        | (show VC _ (.cond _ _ _) _ _; first | refine vc_cond_t rfl ?_ | refine vc_cond_f rfl ?_ | refine x_know rfl (by assumption) ?_)
                        | refine vc_skip ?_
                        | fail)
                      refine ⟨(k + 1, L, sent + 1, 0, [⟨1, sent⟩], gt, acked), ⟨by dsimp only; omega, ?_⟩, by dsimp only; omega, ?_⟩
                      · dsimp only
                        exact inv_leave hL hs0 hsum hput8 (.inr ⟨sent, rfl, hs0, Int.le_refl _⟩) (by omega) (by omega)
                      dsimp only
                      refine le_gen0 (fun n => n) ?_ ?_ rfl (by first | rfl | (simp only [wfL, wfs, mpO_namesB, mpO_namesI]; rfl))
                      all_goals repeat' (first | exact trivial | refine ⟨⟨_, rfl, ?_⟩, ?_⟩ | exact .c .d | exact .c (.ptr rfl) | exact .c (.row rfl rfl) | exact .boxD rfl rfl | exact .rowD rfl rowOf_isD | fail)
                    · rw [if_neg (by simp [h3])] at hda
                      repeat' (first
                        | (show VR _ _ _ (_ :: _) _ _ _; first | refine x_opF rfl (by first | exact True.intro | omega) ?_ | (show VR _ _ _ (⟨_, .call ⟨.value _, _, _⟩, _, _, _, _⟩ :: _) _ _ _; first | refine vr_calldU (hda) (gk rfl) rfl rfl rfl (by first | rfl | (simp only [wfRes, wfL, wfArgs, wfs, mpO_namesB, mpO_namesI]; rfl)) rfl (by first | exact newB_nil | exact newB_O | ((simp only [newB, List.map_cons, List.map_nil, Blk.shift, rowOf_shift]) <;> rfl) | rfl) rfl ?_) | refine x_gknow rfl (by assumption) ?_)
                        | (show VR _ _ _ [] _ _ _; first | refine vr_nil ?_)
                        | (show thenQ _ _ _ _; first | refine q_then_n ?_)
                        | (show VC _ (.seq _ _) _ _; (fail_if_success (show VC _ (.seq (.seq (.region 35 _ _) _) _) _ _)); (fail_if_success (show VC _ (.seq (.region 35 _ _) _) _ _)); refine vc_seq ?_)
                        | refine vc_region ?_
                        | fail)
                      refine VC.le (σ' := stOf [(5, .c (.ptr 5 0)), (6, .c (.ptr 6 0)), (8, AI put), (14, .c (.row 45 got.length)), (15, .c (.row 46 acked.length)), (16, AI sent), (17, AI tries), (88, AD (rdOf encF 1 fs)), (89, AI fs.length), (90, AI k), (18, AI k), (19, AD (.int .u8 (fs.getD k default))), (20, AI (p :: L).length), (21, .c (.ptr 21 0)), (26, AB false), (27, .c (.ptr 27 0)), (28, .c (.ptr 28 0)), (29, .c (.ptr 29 0)), (30, AI 0), (31, .c (.ptr 31 0)), (33, AI 0)] [(5, .box (oA (p :: L) sent tries).cs), (6, .box (oB seen).cs), (21, .box (oM p sent).cs), (27, .box (oRb (oM p sent) (decide (0 < (((p :: L).length : Nat) : Int)))).cs), (28, .box (oB [⟨1, sent⟩]).cs), (29, .box (upOf (oF p sent) true).cs), (31, .box (oA (p :: L) sent (tries + 1)).cs), (45, .row 9 1 (rowOf encS got)), (46, .row 9 1 (rowOf encS acked))]) ?_ ?_
                      · refine le_gen0 (fun n => n) ?_ ?_ rfl (by first | rfl | (simp only [wfL, wfs, mpO_namesB, mpO_namesI]; rfl))
                        all_goals repeat' (first | exact trivial | refine ⟨⟨_, rfl, ?_⟩, ?_⟩ | exact .c .d | exact .c (.ptr rfl) | exact .c (.row rfl rfl) | exact .boxD rfl rfl | exact .rowD rfl rowOf_isD | fail)
                      have u1 : (upOf (oF p sent) true).some = true := rfl
                      have u2 : (upOf (oF p sent) true).new = true := rfl
                      have f1 : decide (((oA (p :: L) sent (tries + 1)).qu.packets.length : Int) < (((p :: L).length : Nat) : Int)) = false := decide_eq_false (by show ¬ (((p :: L).length : Nat) : Int) < (((p :: L).length : Nat) : Int); omega)
                      have f3 : decide ((((p :: L).length : Nat) : Int) = 0) = false := decide_eq_false (by rw [List.length_cons]; omega)
                      have f4 : decide (4 ≤ tries + 1) = false := decide_eq_false (by omega)
                      have hg : ∃ gt, gt = got ++ [p.data] := ⟨_, rfl⟩
                      obtain ⟨gt, hg⟩ := hg
                      have hgl : gt.length = got.length + 1 := by rw [hg]; simp
                      repeat' (first
                        | (show VR _ _ _ (_ :: _) _ _ _; first | refine x_opF rfl (by first | exact True.intro | omega) ?_ | (show VR _ _ _ (⟨_, .call ⟨.builtin .append, _, _⟩, _, _, _, _⟩ :: _) _ _ _; first | refine vr_append0 (gk rfl) rfl rfl rfl (by first | rfl | exact rowOf_length.symm | (simp only [lns] <;> omega)) (by first | exact .row rfl (by first | rfl | exact rowOf_length.symm) | exact .rd | exact .nils) rfl rfl rfl (by (try dsimp only); omega) rfl rfl ?_))
                        | (show VR _ _ _ [] _ _ _; first | refine vr_nil ?_)
                        | (show thenQ _ _ _ _; first | refine q_then_n ?_)
                        | (show VC _ (.seq _ _) _ _; (fail_if_success (show VC _ (.seq (.seq (.region 39 _ _) _) _) _ _)); (fail_if_success (show VC _ (.seq (.region 39 _ _) _) _ _)); refine vc_seq ?_)
                        | refine vc_region ?_
                        | (show VC _ (.cond _ _ _) _ _; first | refine vc_cond_t rfl ?_ | refine vc_cond_f rfl ?_)
                        | refine vc_skip ?_
                        | fail)
                      refine VC.le (σ' := stOf [(5, .c (.ptr 5 0)), (6, .c (.ptr 6 0)), (8, AI put), (14, .c (.row 45 gt.length)), (15, .c (.row 46 acked.length)), (16, AI sent), (17, AI tries), (88, AD (rdOf encF 1 fs)), (89, AI fs.length), (90, AI k), (18, AI k), (19, AD (.int .u8 (fs.getD k default))), (20, AI (p :: L).length), (21, .c (.ptr 21 0)), (26, AB false), (27, .c (.ptr 27 0)), (28, .c (.ptr 28 0)), (29, .c (.ptr 29 0)), (30, AI 0), (31, .c (.ptr 31 0)), (33, AI 0)] [(5, .box (oA (p :: L) sent tries).cs), (6, .box (oB seen).cs), (21, .box (oM p sent).cs), (27, .box (oRb (oM p sent) (decide (0 < (((p :: L).length : Nat) : Int)))).cs), (28, .box (oB [⟨1, sent⟩]).cs), (29, .box (upOf (oF p sent) true).cs), (31, .box (oA (p :: L) sent (tries + 1)).cs), (45, .row 9 1 (rowOf encS gt)), (46, .row 9 1 (rowOf encS acked))]) ?_ ?_
                      · rw [hgl, hg]
                        refine le_gen0 (fun n => if n = 45 then 186 else n) ?_ ?_ rfl (by first | rfl | (simp only [wfL, wfs, mpO_namesB, mpO_namesI]; rfl))
                        all_goals repeat' (first | exact trivial | refine ⟨⟨_, rfl, ?_⟩, ?_⟩ | exact .c .d | exact .c (.ptr rfl) | exact .c (.row rfl rfl) | exact .boxD rfl rfl | exact .rowD rfl rowOf_isD | (refine .rowD ?_ rowOf_isD; rw [rowOf_append]; rfl) | fail)
                      have f2 : decide (sent + 1 < (gt.length : Int)) = false := decide_eq_false (by omega)
                      repeat' (first
                        | (show VR _ _ _ (_ :: _) _ _ _; first | refine x_opF rfl (by first | exact True.intro | omega) ?_ | (show VR _ _ _ (⟨_, .call ⟨.builtin .len, _, _⟩, _, _, _, _⟩ :: _) _ _ _; first | refine vr_len_row (gk rfl) rfl rfl (by first | rfl | exact rowOf_length.symm | (simp only [lns] <;> omega)) rfl rfl ?_) | refine x_gknow rfl (by assumption) ?_)
                        | (show VR _ _ _ [] _ _ _; first | refine vr_nil ?_ | refine vr_nil_t (by kernel_rfl) ?_)
                        | (show thenQ _ _ _ _; first | refine q_then_n ?_)
                        | (show blockQ _ _ _ _; first | refine q_blk_n ?_)
                        | refine vc_seq ?_
                        | refine vc_region ?_ | refine vc_region_t ?_
                        | (show VC _ (.cond _ _ _) _ _; first | refine vc_cond_f rfl ?_ | refine x_know rfl (by assumption) ?_)
                        | refine vc_skip ?_
                        | fail)
                      refine ⟨(k + 1, (p :: L), sent, tries + 1, [⟨1, sent⟩], gt, acked), ⟨by dsimp only; omega, ?_⟩, by dsimp only; omega, ?_⟩
                      · dsimp only
                        exact inv_stay hL hs0 hsum hput8 (by omega) (.inr ⟨sent, rfl, hs0, Int.le_refl _⟩) (fun _ => ⟨by simp, got, hg⟩) (by rw [cur_self]; omega) (by rw [cur_self]; omega)
                      dsimp only
                      refine le_gen0 (fun n => n) ?_ ?_ rfl (by first | rfl | (simp only [wfL, wfs, mpO_namesB, mpO_namesI]; rfl))
                      all_goals repeat' (first | exact trivial | refine ⟨⟨_, rfl, ?_⟩, ?_⟩ | exact .c .d | exact .c (.ptr rfl) | exact .c (.row rfl rfl) | exact .boxD rfl rfl | exact .rowD rfl rowOf_isD | fail)
          · have hdd : decide ((k : Int) < (fs.length : Int)) = false := decide_eq_false (by omega)
            have e1 : decide ((acked.length : Int) ≤ (got.length : Int)) = true := decide_eq_true (by omega)
            have hcp : (curO seen sent : Int) + sent ≤ put := by
              unfold curO
              split
              · rename_i h
                have := (hlast h).1
                cases L with
                | nil => exact absurd rfl this
                | cons p L => simp at hsum; omega
              · omega
            have e2 : decide ((got.length : Int) ≤ (put : Int)) = true := decide_eq_true (by omega)
            have hq5 : (oA L sent tries).qu.packets.length = L.length := rfl
            repeat' (first
              | (show VR _ _ _ (_ :: _) _ _ _; first | refine x_opF rfl (by first | exact True.intro | omega) ?_ | (show VR _ _ _ (⟨_, .call ⟨.builtin .len, _, _⟩, _, _, _, _⟩ :: _) _ _ _; first | refine vr_len_row (gk rfl) rfl rfl (by first | rfl | exact rowOf_length.symm | (simp only [lns] <;> omega)) rfl rfl ?_) | refine x_gknow rfl (by assumption) ?_)
              | (show VR _ _ _ [] _ _ _; first | refine vr_nil ?_)
              | (show thenQ _ _ _ _; first | refine q_then_n ?_ | refine q_then_x ?_)
              | (show blockQ _ _ _ _; first | refine q_blk_x ?_)
              | refine vc_seq ?_
              | refine vc_region ?_
              | (show VC _ (.cond _ _ _) _ _; first | refine vc_cond_f rfl ?_ | refine x_know rfl (by assumption) ?_)
              | refine vc_ret ?_ | refine vc_exit ?_
              | fail)
            refine ret_bool isRet_r rfl ?_
            exact (decide_eq_true (by omega)).symm
end Go.Proofs


