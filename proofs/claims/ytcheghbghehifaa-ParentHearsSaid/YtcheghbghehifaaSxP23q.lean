/-
  What functions of the given program hand back, by walks over its code, and plain laws on that. No condition.
-/
import Derived.Test.YtcheghbghehifaaSxP23p
namespace Go.Proofs
open Go Go.Sx
set_option linter.unusedSimpArgs false
set_option linter.unusedVariables false
attribute [local irreducible] VR VC thenQ blockQ

abbrev updAt (l : List Nb) (s : Rk) (b : Nat) : Rk × Int := update' s (l.getD b default).epoch (l.getD b default).rank (costC (l.getD b default).att (l.getD b default).ack)
abbrev adoAt (l : List Nb) (s : Rk) (b : Nat) : Rk := adopted s (l.getD b default).node (l.getD b default).epoch (l.getD b default).rank (costC (l.getD b default).att (l.getD b default).ack)
abbrev CanAt (l : List Nb) (s : Rk) (b : Nat) : Prop := CanAdopt s (l.getD b default).node (l.getD b default).epoch (l.getD b default).rank (costC (l.getD b default).att (l.getD b default).ack)

theorem begin_node (r : Rk) (e : Int) : (begin' r e).node = r.node := by unfold begin'; split <;> rfl
theorem lose_node (r : Rk) : (lose' r).node = r.node := by unfold lose'; split <;> rfl
theorem lose_epoch (r : Rk) : (lose' r).epoch = r.epoch := by unfold lose'; split <;> rfl

theorem stepA_low {l : List Nb} {s : Rk} (h : s.parent < 0) : stepA l s = s := by unfold stepA; rw [if_neg (by omega)]
theorem stepA_at {l : List Nb} (hl : checkNb l = 0) {s : Rk} {b : Nat} (hb : b < l.length) (h : s.parent = (l.getD b default).node) : stepA l s = (updAt l s b).1 := by
  obtain ⟨h1, h2⟩ := find_at hl hb
  have := (adv_range hl hb).2.1
  unfold stepA
  rw [if_pos (by omega), h, if_pos h1, h2]
theorem update_adopted {q : Rk} {fr e k c : Int} (h : CanAdopt q fr e k c) : update' (adopted q fr e k c) e k c = (adopted q fr e k c, 0) := by
  have h2 := can_again h
  have hp : (adopted q fr e k c).parent = fr := rfl
  have hfe := h.feas
  have hep : (adopted q fr e k c).epoch = e := begin_le (by omega)
  have ha : advB e k = true := by rw [advB_t]; exact h.adv
  have hc : inR c 1 1023 = true := by rw [inR_t]; exact h.cost
  have hfr := h.fr
  unfold update'
  rw [if_neg (by simp [h2.right]), if_neg (by simp [ha, hc]), if_neg (by rw [hp]; omega), if_neg (by rw [hep]; omega), hp, adopt_yes h2, if_pos rfl]
  exact Prod.ext (adopted_again h) rfl
theorem stepA_adopted {l : List Nb} (hl : checkNb l = 0) {s : Rk} {b : Nat} (hb : b < l.length) (h : CanAt l s b) : stepA l (adoAt l s b) = adoAt l s b := by
  rw [stepA_at hl hb rfl]
  exact congrArg Prod.fst (update_adopted h)

/-- The state behind hearing of the parent: right; without a parent, or as it was, or as the parent's entry says. -/
theorem stepA_cases {l : List Nb} (hl : checkNb l = 0) {r : Rk} (hr : rkErr r = 0) (hn : r.node ≠ 0) : rkErr (stepA l r) = 0 ∧ (stepA l r).node = r.node ∧
    (((stepA l r).parent = -1) ∨ stepA l r = r ∨ ∃ b, b < l.length ∧ r.parent = (l.getD b default).node ∧ CanAt l r b ∧ stepA l r = adoAt l r b) := by
  by_cases hp : r.parent < 0
  · rw [stepA_low hp]; exact ⟨hr, rfl, .inr (.inl rfl)⟩
  by_cases hf : foundNb l r.parent = true
  · obtain ⟨hb, he⟩ := found_iff.1 hf
    obtain ⟨ha, _⟩ := adv_range hl hb
    rw [stepA_at hl hb he.symm]
    obtain ⟨_, h⟩ := update_cases hr (by omega) ha (cost_range hl hb)
    rcases h with ⟨_, h⟩ | ⟨_, hc, h⟩ | ⟨_, h⟩
    · rw [h]; exact ⟨hr, rfl, .inr (.inl rfl)⟩
    · rw [h]
      have hc' : CanAt l r (bsNb l r.parent) := by unfold CanAt; rw [he]; exact hc
      refine ⟨rk_adopted hc, begin_node _ _, .inr (.inr ⟨_, hb, he.symm, hc', ?_⟩)⟩
      unfold adoAt; rw [he]
    · rw [h]
      rw [advB_t] at ha
      have hb' := rk_begin hr ha.1 (show r.parent ≠ -1 by omega)
      exact ⟨rk_lose hb', by rw [lose_node, begin_node], .inl (lose_parent hb')⟩
  · have e : stepA l r = lose' r := by unfold stepA; rw [if_pos (by omega), if_neg hf]
    rw [e]
    exact ⟨rk_lose hr, lose_node _, .inl (lose_parent hr)⟩
theorem stepA_again {l : List Nb} (hl : checkNb l = 0) {r : Rk} (hr : rkErr r = 0) (hn : r.node ≠ 0) : stepA l (stepA l r) = stepA l r := by
  obtain ⟨_, _, h⟩ := stepA_cases hl hr hn
  rcases h with h | h | ⟨b, hb, _, hc, h⟩
  · exact stepA_low (by omega)
  · rw [h]
    exact h
  · rw [h]; exact stepA_adopted hl hb hc

theorem wrap_small {a : Int} (h : -9223372036854775808 ≤ a ∧ a ≤ 9223372036854775807) : IntKind.i64.wrap a = a := wrap_i64 h
theorem path_eq {l : List Nb} (hl : checkNb l = 0) {b : Nat} (hb : b < l.length) : pathC (l.getD b default) = (l.getD b default).rank + costC (l.getD b default).att (l.getD b default).ack := by
  have h1 := (adv_range hl hb).1
  have h2 := cost_range hl hb
  rw [advB_t] at h1
  rw [inR_t] at h2
  exact wrap_small (by omega)

theorem can_of_ok {l : List Nb} (hl : checkNb l = 0) {s : Rk} {b : Nat} (hb : b < l.length) (h : okNb s (l.getD b default) = true) : CanAt l s b := by
  have h1 := adv_range hl hb
  have h2 := cost_range hl hb
  have h3 := path_eq hl hb
  rw [advB_t] at h1
  rw [inR_t] at h2
  simp only [okNb, feasB, Bool.and_eq_true, Bool.or_eq_true, decide_eq_true_eq, ne_eq] at h
  exact ⟨h.1.2.1.1.1, h.1.2.1.1.2, ⟨h1.2.1, h1.2.2, h.1.1⟩, h1.1, h2, h.1.2.2, by omega⟩
theorem takeB_some {l : List Nb} (hl : checkNb l = 0) {s : Rk} {m : Int} (h : takeB l s m = true) : ∃ b, refB l s l.length = some b ∧ b < l.length ∧ okNb s (l.getD b default) = true ∧ CanAt l s b ∧ stepB l s m = adoAt l s b ∧
    (s.parent = -1 ∨ s.epoch < (l.getD b default).epoch ∨ IntKind.i64.wrap (pathC (l.getD b default) + m) < s.rank) := by
  have h' := h
  unfold takeB at h
  simp only [Bool.and_eq_true, Bool.or_eq_true, decide_eq_true_eq] at h
  rw [hasLk_ref hl] at h
  obtain ⟨b, hb⟩ := Option.isSome_iff_exists.1 h.1
  rw [bestLk_ref hl _ hb] at h
  have hbl := refB_lt hb
  have hok := refB_ok hb
  have hc := can_of_ok hl hbl hok
  refine ⟨b, hb, hbl, hok, hc, ?_, ?_⟩
  · unfold stepB
    rw [if_pos h', bestLk_ref hl _ hb]
    exact congrArg Prod.fst (adopt_yes hc)
  · rcases h.2 with (h2 | h2) | h2
    · exact .inl h2
    · exact .inr (.inl h2)
    · exact .inr (.inr h2)

/-- Behind adopting the best one, none is better by more than the margin. -/
theorem take_again {l : List Nb} (hl : checkNb l = 0) {s : Rk} {m : Int} (hm : 0 ≤ m ∧ m ≤ 65535) {b : Nat} (hb : refB l s l.length = some b) : takeB l (adoAt l s b) m = false := by
  have hbl := refB_lt hb
  have hok := refB_ok hb
  have hc := can_of_ok hl hbl hok
  cases ht : takeB l (adoAt l s b) m with
  | false => rfl
  | true =>
    exfalso
    obtain ⟨b', hb', hbl', hok', hc', _, h⟩ := takeB_some hl ht
    have hep : (adoAt l s b).epoch = (l.getD b default).epoch := begin_le (by have := hc.feas; omega)
    have hfe := hc.feas
    have hfe' := hc'.feas
    have hok2 : okNb s (l.getD b' default) = true := by
      simp only [okNb, Bool.and_eq_true, decide_eq_true_eq, ne_eq] at hok' ⊢
      refine ⟨⟨?_, ?_⟩, hok'.2⟩
      · have := hok'.1.1
        rw [show (adoAt l s b).node = s.node from begin_node _ _] at this
        exact this
      · simp only [feasB, Bool.and_eq_true, Bool.or_eq_true, decide_eq_true_eq, ne_eq]
        refine ⟨⟨⟨hc.right, hc.notRoot⟩, (adv_range hl hbl').1⟩, ?_⟩
        by_cases he : s.epoch < (l.getD b default).epoch
        · left; omega
        · have hls : (adoAt l s b).least = s.least := by
            show (begin' s _).least = s.least
            unfold begin'; rw [if_neg he]
          omega
    have hnb := refB_best hb b' hbl' hok2
    simp only [beats, Bool.or_eq_false_iff, Bool.and_eq_false_iff, decide_eq_false_iff_not] at hnb
    have hp : (adoAt l s b).parent = (l.getD b default).node := rfl
    have hrk : (adoAt l s b).rank = pathC (l.getD b default) := (path_eq hl hbl).symm
    have h0 := (adv_range hl hbl).2.1
    have h1 := adv_range hl hbl'
    have h2 := cost_range hl hbl'
    have h3 := path_eq hl hbl'
    rw [advB_t] at h1
    rw [inR_t] at h2
    simp only [okNb, Bool.and_eq_true, decide_eq_true_eq] at hok2
    rw [wrap_small (by omega)] at h
    omega

structure Steady (l : List Nb) (r a : Rk) (m : Int) : Prop where
  right : rkErr a = 0
  node : a.node = r.node
  stepA : stepA l a = a
  take : takeB l a m = false
theorem steady_of {l : List Nb} (hl : checkNb l = 0) {r : Rk} (hr : rkErr r = 0) (hn : r.node ≠ 0) {m : Int} (hm : 0 ≤ m ∧ m ≤ 65535) : Steady l r (stepB l (stepA l r) m) m := by
  obtain ⟨h1, h2, _⟩ := stepA_cases hl hr hn
  by_cases ht : takeB l (stepA l r) m = true
  · obtain ⟨b, hb, hbl, hok, hc, he, _⟩ := takeB_some hl ht
    rw [he]
    exact ⟨rk_adopted hc, (begin_node _ _).trans h2, stepA_adopted hl hbl hc, take_again hl hm hb⟩
  · have e : stepB l (stepA l r) m = stepA l r := by unfold stepB; rw [if_neg ht]
    rw [e]
    exact ⟨h1, h2, stepA_again hl hr hn, by simpa using ht⟩
theorem select_right {l : List Nb} (hl : checkNb l = 0) {r : Rk} (hr : rkErr r = 0) {m : Int} (hm : 0 ≤ m ∧ m ≤ 65535) :
    (select' l r m).2.2 = 0 ∧ rkErr (select' l r m).1 = 0 ∧ ((select' l r m).2.1 = decide ((select' l r m).1.parent ≠ r.parent)) ∧ select' l (select' l r m).1 m = ((select' l r m).1, false, 0) := by
  have hm' : inR m 0 65535 = true := by rw [inR_t]; exact hm
  by_cases hn : r.node = 0
  · have e : select' l r m = (r, false, 0) := by
      unfold select'
      rw [if_neg (by simp [hl, hr]), if_neg (by simp [hm']), if_pos hn]
    rw [e]
    exact ⟨rfl, hr, by simp, e⟩
  · have h := steady_of hl hr hn hm
    have e : select' l r m = (stepB l (stepA l r) m, decide ((stepB l (stepA l r) m).parent ≠ r.parent), 0) := by
      unfold select'
      rw [if_neg (by simp [hl, hr]), if_neg (by simp [hm']), if_neg hn]
    rw [e]
    refine ⟨rfl, h.right, rfl, ?_⟩
    dsimp only
    generalize stepB l (stepA l r) m = a at h
    unfold select'
    rw [if_neg (by simp [hl, h.right]), if_neg (by simp [hm']), if_neg (by rw [h.node]; exact hn), h.stepA]
    have e2 : stepB l a m = a := by unfold stepB; rw [if_neg (by simp [h.take])]
    rw [e2]
    simp

theorem lawSteady_spec (l : List Nb) (r : Rk) (m : Int) (hm : 0 ≤ m ∧ m ≤ 65535) : FnS Try.prog 5 [AD (nbs l), rkA r, AD (.int .u16 m)] [] (AB true) [] := by
  refine FnS.of_body (enters_of Try.func5 (by kernel_rfl) rfl) Try.func5 rfl Try.ntmps5 Try.results5 rfl rfl rfl rfl fun E hS => ?_
  repeat' (first
    | (show VR _ _ _ (_ :: _) _ _ _; first | refine x_op rfl (by first | exact True.intro | omega) ?_ | (show VR _ _ _ (⟨_, .call ⟨.value _, _, _⟩, _, _, _, _⟩ :: _) _ _ _; first | refine vr_calld (awake_spec) (gk rfl) rfl rfl rfl rfl rfl rfl ?_ | refine vr_calld (few_spec l) (gk rfl) rfl rfl rfl rfl rfl rfl ?_ | refine vr_calld (check_spec l) (gk rfl) rfl rfl rfl rfl rfl rfl ?_ | refine vr_calld (rcheck_spec r) (gk rfl) rfl rfl rfl rfl rfl rfl ?_) | (show VR _ _ _ (⟨_, .convert _ _ _, _, _, _, _⟩ :: _) _ _ _; first | refine vr_convert_id (gk rfl) rfl ⟨_, rfl⟩ rfl (by first | exact wrap_i64 (by omega) | exact wrap_u64 (by omega) | exact wrap_u16 (by omega) | exact wrap_u8 (by omega) | exact wrap_u32 (by omega)) rfl ?_ | refine vr_convert (gk rfl) rfl ⟨_, rfl⟩ rfl rfl ?_) | (show VR _ _ _ (⟨_, .binOp _ _ _ _ _, _, _, _, _⟩ :: _) _ _ _; first | refine vr_eqlA (gk rfl) rfl rfl rfl rfl rfl rfl rfl ?_) | (show VR _ _ _ (⟨_, .pick _ _ _, _, _, _, _⟩ :: _) _ _ _; first | refine vr_pick_true (gk rfl) rfl (by assumption) rfl rfl ?_ | refine vr_pick_false (gk rfl) rfl (by assumption) rfl rfl ?_) | refine x_gknow rfl (by assumption) ?_ | (refine x_gsplit rfl ?_ ?_ <;> intro h <;> have hq := h <;> (try simp only [decide_eq_true_eq, decide_eq_false_iff_not, Int.not_lt, Int.not_le, ne_eq, Decidable.not_not, Bool.not_eq_true', Bool.not_eq_false'] at hq)))
    | (show VR _ _ _ [] _ _ _; first | refine vr_nil ?_ | refine vr_nil_t (by kernel_rfl) ?_)
    | (show thenQ _ _ _ _; first | refine q_then_n ?_ | refine q_then_x ?_ | refine q_then_r ?_)
    | (show blockQ _ _ _ _; first | refine q_blk_n ?_ | refine q_blk_r ?_ | refine q_blk_x ?_ | refine q_blk_o rfl ?_)
    | (show VC _ (.seq _ _) _ _; (fail_if_success (show VC _ (.seq (.seq (.region 5 _ _) _) _) _ _)); (fail_if_success (show VC _ (.seq (.region 5 _ _) _) _ _)); refine vc_seq ?_)
    | refine vc_region ?_ | refine vc_region_t ?_
    | (show VC _ (.cond _ _ _) _ _; first | refine vc_cond_t rfl ?_ | refine vc_cond_f rfl ?_ | refine x_know rfl (by assumption) ?_ | (refine x_cond rfl ?_ ?_ <;> intro h <;> have hq := h <;> (try simp only [decide_eq_true_eq, decide_eq_false_iff_not, Int.not_lt, Int.not_le, ne_eq, Decidable.not_not, Bool.not_eq_true', Bool.not_eq_false'] at hq)))
    | refine vc_ret ?_ | refine vc_exit ?_ | refine vc_block ?_ | refine vc_skip ?_ | refine vc_label ?_)
  all_goals first
    | (refine ret_bool isRet_r rfl ?_; simp_all; done)
    | skip
  have hl : checkNb l = 0 := by simp_all
  have hr : rkErr r = 0 := by simp_all
  obtain ⟨h1, h2, h3, h4⟩ := select_right hl hr hm
  have hs2 := select_spec l (select' l r m).1 m
  rw [h4] at hs2
  repeat' (first
    | (show VR _ _ _ (_ :: _) _ _ _; first | refine x_op rfl (by first | exact True.intro | omega) ?_ | (show VR _ _ _ (⟨_, .call ⟨.value _, _, _⟩, _, _, _, _⟩ :: _) _ _ _; first | refine vr_calld (select_spec l r m) (gk rfl) rfl rfl rfl rfl rfl rfl ?_ | refine vr_calld (hs2) (gk rfl) rfl rfl rfl rfl rfl rfl ?_ | refine vr_calld (rcheck_spec (select' l r m).1) (gk rfl) rfl rfl rfl rfl rfl rfl ?_) | (show VR _ _ _ (⟨_, .convert _ _ _, _, _, _, _⟩ :: _) _ _ _; first | refine vr_convert_id (gk rfl) rfl ⟨_, rfl⟩ rfl (by first | exact wrap_i64 (by omega) | exact wrap_u64 (by omega) | exact wrap_u16 (by omega) | exact wrap_u8 (by omega) | exact wrap_u32 (by omega)) rfl ?_ | refine vr_convert (gk rfl) rfl ⟨_, rfl⟩ rfl rfl ?_) | (show VR _ _ _ (⟨_, .binOp _ _ _ _ _, _, _, _, _⟩ :: _) _ _ _; first | refine vr_eqlA (gk rfl) rfl rfl rfl rfl rfl rfl rfl ?_) | (show VR _ _ _ (⟨_, .pick _ _ _, _, _, _, _⟩ :: _) _ _ _; first | refine vr_pick_true (gk rfl) rfl (by assumption) rfl rfl ?_ | refine vr_pick_false (gk rfl) rfl (by assumption) rfl rfl ?_) | refine x_gknow rfl (by assumption) ?_ | (refine x_gsplit rfl ?_ ?_ <;> intro h <;> have hq := h <;> (try simp only [decide_eq_true_eq, decide_eq_false_iff_not, Int.not_lt, Int.not_le, ne_eq, Decidable.not_not, Bool.not_eq_true', Bool.not_eq_false'] at hq)))
    | (show VR _ _ _ [] _ _ _; first | refine vr_nil ?_ | refine vr_nil_t (by kernel_rfl) ?_)
    | (show thenQ _ _ _ _; first | refine q_then_n ?_ | refine q_then_x ?_ | refine q_then_r ?_)
    | (show blockQ _ _ _ _; first | refine q_blk_n ?_ | refine q_blk_r ?_ | refine q_blk_x ?_ | refine q_blk_o rfl ?_)
    | refine vc_seq ?_
    | refine vc_region ?_ | refine vc_region_t ?_
    | (show VC _ (.cond _ _ _) _ _; first | refine vc_cond_t rfl ?_ | refine vc_cond_f rfl ?_ | refine x_know rfl (by assumption) ?_ | (refine x_cond rfl ?_ ?_ <;> intro h <;> have hq := h <;> (try simp only [decide_eq_true_eq, decide_eq_false_iff_not, Int.not_lt, Int.not_le, ne_eq, Decidable.not_not, Bool.not_eq_true', Bool.not_eq_false'] at hq)))
    | refine vc_ret ?_ | refine vc_exit ?_ | refine vc_block ?_ | refine vc_skip ?_ | refine vc_label ?_)
  all_goals first
    | (refine ret_bool isRet_r rfl ?_; simp_all; done)
    | trace_state
end Go.Proofs

