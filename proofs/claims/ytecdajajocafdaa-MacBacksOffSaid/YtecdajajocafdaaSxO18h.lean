/-
  What functions of the given program hand back, by walks over its code, and plain laws on that. No condition.
-/
import Derived.Test.YtecdajajocafdaaSxO18f
-- SXS
-- SXM
-- SXN
namespace Go.Proofs
open Go Go.Sx Go.Proofs.T Go.Proofs.Q
set_option maxRecDepth 4000
set_option linter.unusedSimpArgs false
set_option linter.unusedVariables false
attribute [local irreducible] VR VC thenQ blockQ retL
theorem restB_of {s : Sta} (h : restB s = true) : 0 ≤ s.list ∧ s.list ≤ 255 ∧ 0 ≤ s.seq ∧ s.seq ≤ 255 ∧ 0 ≤ s.back ∧ s.back ≤ 5 ∧ 0 ≤ s.wait ∧ s.wait ≤ 2 ^ s.back.toNat - 1 ∧ 0 ≤ s.seed ∧ s.seed ≤ 2147483647 := of_decide_eq_true h
set_option maxHeartbeats 1000000 in
theorem leave_spec (s : Sta) (slot : Int) (c : TC) (id : Int) (hsq : 0 ≤ s.seq ∧ s.seq ≤ 255) : FnW Try.prog 52 [.c (.ptr 100 0), AI id] [(100, .box (wcs s (.d (hds s.held)) (.row 102 s.seen.length) slot c)), (102, .row 102 2 (rowOf Sn.enc s.seen))] [100, 102] (.tup []) [(100, .box (wcs (leaveM s id) (.d (hds s.held)) (.row 102 s.seen.length) slot c)), (102, .row 102 2 (rowOf Sn.enc s.seen))] := by
  intro r
  simp only [pinsL, List.map_cons, List.map_nil, List.cons_append, List.nil_append, Nat.reduceAdd]
  refine FnS.of_bodyM (enters_of Try.func52 (by kernel_rfl) rfl) Try.func52 rfl Try.ntmps52 Try.results52 rfl (by first | rfl | (simp only [wfRes, wfL, wfArgs, wfs, mpO_namesB, mpO_namesI]; rfl)) rfl fun E => ?_
  refine vc_retL ?_
  repeat' (first
    | (show VR _ _ _ (_ :: _) _ _ _; first | refine x_opF rfl (by first | exact True.intro | omega) ?_ | (show VR _ _ _ (⟨_, .call ⟨.value _, _, _⟩, _, _, _, _⟩ :: _) _ _ _; first | refine vr_calldU (Q.take_spec s.qu id) (gk rfl) rfl rfl rfl (by first | rfl | (simp only [wfRes, wfL, wfArgs, wfs, mpO_namesB, mpO_namesI]; rfl)) rfl (by first | exact newB_nil | exact newB_O | ((simp only [newB, List.map_cons, List.map_nil, Blk.shift, rowOf_shift]) <;> rfl) | rfl) rfl ?_) | (show VR _ _ _ (⟨_, .nilCheck _, _, _, _, _⟩ :: _) _ _ _; first | refine vr_nilCheck_ptr (gk rfl) rfl rfl ?_))
    | (show VR _ _ _ [] _ _ _; first | refine vr_nil ?_)
    | (show thenQ _ _ _ _; first | refine q_then_n ?_)
    | refine vc_seq ?_
    | refine vc_region ?_
    | fail)
  refine retL_of (le_gen0 (l := []) (b := [(9100, .pin 100 (r 100)), (9102, .pin 102 (r 102)), (100, .box (wcs (leaveM s id) (.d (hds s.held)) (.row 102 s.seen.length) slot c)), (102, .row 102 2 (rowOf Sn.enc s.seen))]) (fun n => n) ?_ ?_ rfl (by first | rfl | (simp only [wfL, wfs, mpO_namesB, mpO_namesI]; rfl))) (retW isRet_n .nil rfl (by exact ⟨rfl, rfl, rfl, rfl, trivial⟩))
  all_goals repeat' (first | exact trivial | refine ⟨⟨_, rfl, ?_⟩, ?_⟩ | exact .pin rfl | exact .rowD rfl rowOf_isD | refine .box ?_ | exact .nil | refine .cons ?_ ?_ | exact .d | exact .row rfl rfl | fail)
set_option maxHeartbeats 2000000 in
theorem tried_spec (s : Sta) (slot : Int) (c : TC) (acked : Bool) (hck : checkS s = 0) : FnW Try.prog 22 [.c (.ptr 100 0), AB acked] [(100, .box (wcs s (.d (hds s.held)) (.row 102 s.seen.length) slot c)), (102, .row 102 2 (rowOf Sn.enc s.seen))] [100, 102] (.tup []) [(100, .box (wcs (triedM s c acked) (.d (hds s.held)) (.row 102 s.seen.length) slot c)), (102, .row 102 2 (rowOf Sn.enc s.seen))] := by
  obtain ⟨_, _, _, _, _, hty, hr⟩ := checkS_of hck
  have hr := restB_of hr
  have hty := of_decide_eq_true hty
  intro r
  simp only [pinsL, List.map_cons, List.map_nil, List.cons_append, List.nil_append, Nat.reduceAdd]
  refine FnS.of_bodyM (enters_of Try.func22 (by kernel_rfl) rfl) Try.func22 rfl Try.ntmps22 Try.results22 rfl (by first | rfl | (simp only [wfRes, wfL, wfArgs, wfs, mpO_namesB, mpO_namesI]; rfl)) rfl fun E => ?_
  refine vc_retL ?_
  have hpw := (pow5 (min (s.back + 1) 5)).resolve_left (by omega) |>.resolve_left (by omega)
  have e1 : (sentP s c).to = -1 → triedM s c acked = leaveM s (sentP s c).id := fun h => if_pos h
  have e2 : ¬ (sentP s c).to = -1 → acked = true ∨ 4 ≤ triesM s c → ¬ c.kind = 3 → triedM s c acked = leaveM s (sentP s c).id := fun h h1 h2 => by rw [triedM, if_neg h, if_pos h1, goneM, if_neg h2]
  have e3 : ¬ (sentP s c).to = -1 → acked = true ∨ 4 ≤ triesM s c → c.kind = 3 → triedM s c acked = { leaveM s (sentP s c).id with back := 0, wait := 0 } := fun h h1 h2 => by rw [triedM, if_neg h, if_pos h1, goneM, if_pos h2]
  have e4 : ¬ (sentP s c).to = -1 → acked = false → triesM s c < 4 → ¬ c.kind = 3 → triedM s c acked = { s with trying := (sentP s c).id, tries := triesM s c } := fun h h1 h2 h3 => by rw [triedM, if_neg h, if_neg (by rw [h1]; simp; omega), againM, if_neg h3]
  have e5 : ¬ (sentP s c).to = -1 → acked = false → triesM s c < 4 → c.kind = 3 → triedM s c acked = { s with trying := (sentP s c).id, tries := triesM s c, back := min (s.back + 1) 5, seed := nextSeed s.seed, wait := nextSeed s.seed / 65536 % 2 ^ (min (s.back + 1) 5).toNat } := fun h h1 h2 h3 => by rw [triedM, if_neg h, if_neg (by rw [h1]; simp; omega), againM, if_pos h3]; rfl
  have t1 : s.trying = (sentP s c).id → triesM s c = s.tries + 1 := fun h => if_pos h
  have t2 : ¬ s.trying = (sentP s c).id → triesM s c = 1 := fun h => if_neg h
  repeat' (first
    | (show VR _ _ _ (_ :: _) _ _ _; first | refine x_opF rfl (by first | exact True.intro | omega) ?_ | (show VR _ _ _ (⟨_, .call ⟨.value _, _, _⟩, _, _, _, _⟩ :: _) _ _ _; first | refine vr_callU [100, 102] (sent_spec s slot c) (gk rfl) rfl (by (repeat' (first | exact .nil | refine .cons ?_ ?_ | exact .of0 (.c .d) | exact .of0 .ep | exact .clo | exact (w_ar (by simp) rfl .d (cr_rowO (by simp) rfl rfl (fun _ => rfl))) | exact .of0 (.c .nil) | exact .of0 (.c (cr_rowO (by simp) rfl (by first | rfl | omega) (fun _ => rfl))) | refine .of0 (.agg ?_) | exact .d | exact .nil | exact .of0 (.c (cr_row (by decide) rfl rfl (by repeat' (first | exact trivial | refine ⟨?_, ?_⟩ | rfl)))))) <;> fail) (by first | rfl | exact hfl_O (fun _ => rfl) | exact hfl_O2 rfl (fun _ => rfl)) rfl (by first | rfl | (simp only [wfRes, wfL, wfArgs, wfs, mpO_namesB, mpO_namesI]; rfl)) rfl (by first | exact newB_nil | exact newB_O | ((simp only [newB, List.map_cons, List.map_nil, Blk.shift, rowOf_shift]) <;> rfl) | rfl) rfl ?_ | refine vr_callW (nmL []) [] [100, 102] (leave_spec s slot c (sentP s c).id ⟨hr.2.2.1, hr.2.2.2.1⟩) (gk rfl) rfl rfl (by (repeat' (first | exact .nil | refine .cons ?_ ?_ | exact .w (.c (.ptr rfl)) rfl | exact .w (.c (.row rfl rfl)) rfl | exact .w (.c (.mp rfl)) rfl | exact .w (.c (.fn rfl)) rfl | exact .w (.rp rfl) rfl | (refine .w (.fncC ?_) rfl; repeat' (first | exact .nil | refine .cons ?_ ?_ | exact .d | exact .ptr rfl | exact .row rfl rfl | (refine .row rfl ?_; ((try dsimp only); first | rfl | omega | (simp only [lns] <;> omega)); done) | exact .fn rfl | exact .mp rfl | exact .frzOf (by first | (simp; done) | decide) rfl rfl (fun _ => rfl))) | exact .r (.of0 (.c .d)) | refine .r ?_ | exact .of0 (.c .d) | exact .of0 .ep | exact .clo | exact (w_ar (by simp) rfl .d (cr_rowO (by simp) rfl rfl (fun _ => rfl))) | exact .of0 (.c .nil) | exact .of0 (.c (cr_rowO (by simp) rfl (by first | rfl | omega) (fun _ => rfl))) | refine .of0 (.agg ?_) | exact .d | exact .nil | exact .of0 (.c (cr_row (by decide) rfl rfl (by repeat' (first | exact trivial | refine ⟨?_, ?_⟩ | rfl)))))) <;> fail) (by (repeat' (first | exact trivial | refine ⟨⟨_, rfl, ?_⟩, ?_⟩ | exact .boxD rfl rfl | exact .rowD rfl rowOf_isD | exact .mapO (fun _ => rfl) rfl | exact .pin rfl | refine .box ?_ | exact .nil | refine .cons ?_ ?_ | exact .d | exact .ptr rfl | exact .row rfl rfl | (refine .row rfl ?_; ((try dsimp only); first | rfl | omega | (simp only [lns] <;> omega)); done) | exact .fn rfl | exact .mp rfl | exact .frzOf (by first | (simp; done) | decide) rfl rfl (fun _ => rfl))) <;> fail) rfl rfl rfl (by first | rfl | (simp only [List.all_cons, List.all_nil, rowOf_flatB]; rfl)) rfl (by first | rfl | (simp only [wfRes, wfL, wfArgs, wfs, mpO_namesB, mpO_namesI]; rfl)) rfl rfl rfl (by (simp only [newW, List.map_cons, List.map_nil, Blk.ren, C.ren, rowOf_ren, mpO_renB, mpO_renI, gW, memN, nmL, Nat.reduceBEq, Bool.or_false, Bool.or_true, Bool.false_or, Bool.true_or, cond_true, cond_false, Nat.reduceMul, Nat.reduceAdd]) <;> rfl) (by (simp only [AV.ren, AV.ren0, List.map_cons, List.map_nil, C.ren, gW, memN, nmL, Nat.reduceBEq, Bool.or_false, Bool.or_true, Bool.false_or, Bool.true_or, cond_true, cond_false, Nat.reduceMul, Nat.reduceAdd]) <;> rfl) rfl ?_) | (show VR _ _ _ (⟨_, .nilCheck _, _, _, _, _⟩ :: _) _ _ _; first | refine vr_nilCheck_ptr (gk rfl) rfl rfl ?_) | (refine x_gsplit rfl ?_ ?_ <;> intro h <;> have hq := h <;> (try simp only [hqs] at hq)))
    | (show VR _ _ _ [] _ _ _; first | refine vr_nil ?_ | refine vr_nil_t (by kernel_rfl) ?_)
    | (show thenQ _ _ _ _; first | refine q_then_n ?_ | refine q_then_r ?_)
    | (show VC _ (.seq _ _) _ _; (fail_if_success (show VC _ (.seq (.seq (.region 14 _ _) _) _) _ _)); (fail_if_success (show VC _ (.seq (.region 14 _ _) _) _ _)); refine vc_seq ?_)
    | refine vc_region ?_ | refine vc_region_t ?_
    | (show VC _ (.cond _ _ _) _ _; first | refine vc_cond_t rfl ?_ | refine vc_cond_f rfl ?_ | refine x_know rfl (by assumption) ?_ | (refine x_cond rfl ?_ ?_ <;> intro h <;> have hq := h <;> (try simp only [hqs] at hq)))
    | refine vc_ret ?_ | refine vc_skip ?_
    | fail)
  · rw [e1 hq]
    refine retL_of (le_gen0 (l := []) (b := [(9100, .pin 100 (r 100)), (9102, .pin 102 (r 102)), (100, .box (wcs (leaveM s (sentP s c).id) (.d (hds s.held)) (.row 102 s.seen.length) slot c)), (102, .row 102 2 (rowOf Sn.enc s.seen))]) (fun n => n) ?_ ?_ rfl (by first | rfl | (simp only [wfL, wfs, mpO_namesB, mpO_namesI]; rfl))) (retW isRet_r .nil rfl (by repeat' (first | exact trivial | refine ⟨rfl, ?_⟩)))
    all_goals repeat' (first | exact trivial | refine ⟨⟨_, rfl, ?_⟩, ?_⟩ | exact .pin rfl | exact .rowD rfl rowOf_isD | refine .box ?_ | exact .nil | refine .cons ?_ ?_ | exact .d | exact .row rfl rfl | fail)
  · rw [e2 (by assumption) (.inl (by assumption)) hq]
    refine retL_of (le_gen0 (l := []) (b := [(9100, .pin 100 (r 100)), (9102, .pin 102 (r 102)), (100, .box (wcs (leaveM s (sentP s c).id) (.d (hds s.held)) (.row 102 s.seen.length) slot c)), (102, .row 102 2 (rowOf Sn.enc s.seen))]) (fun n => n) ?_ ?_ rfl (by first | rfl | (simp only [wfL, wfs, mpO_namesB, mpO_namesI]; rfl))) (retW isRet_r .nil rfl (by repeat' (first | exact trivial | refine ⟨rfl, ?_⟩)))
    all_goals repeat' (first | exact trivial | refine ⟨⟨_, rfl, ?_⟩, ?_⟩ | exact .pin rfl | exact .rowD rfl rowOf_isD | refine .box ?_ | exact .nil | refine .cons ?_ ?_ | exact .d | exact .row rfl rfl | fail)
  · rw [e3 (by assumption) (.inl (by assumption)) hq]
    refine retL_of (le_gen0 (l := []) (b := [(9100, .pin 100 (r 100)), (9102, .pin 102 (r 102)), (100, .box (wcs { leaveM s (sentP s c).id with back := 0, wait := 0 } (.d (hds s.held)) (.row 102 s.seen.length) slot c)), (102, .row 102 2 (rowOf Sn.enc s.seen))]) (fun n => n) ?_ ?_ rfl (by first | rfl | (simp only [wfL, wfs, mpO_namesB, mpO_namesI]; rfl))) (retW isRet_r .nil rfl (by repeat' (first | exact trivial | refine ⟨rfl, ?_⟩)))
    all_goals repeat' (first | exact trivial | refine ⟨⟨_, rfl, ?_⟩, ?_⟩ | exact .pin rfl | exact .rowD rfl rowOf_isD | refine .box ?_ | exact .nil | refine .cons ?_ ?_ | exact .d | exact .row rfl rfl | fail)
  · have ht := t1 (by assumption)
    rw [e2 (by assumption) (.inr (by omega)) hq]
    refine retL_of (le_gen0 (l := []) (b := [(9100, .pin 100 (r 100)), (9102, .pin 102 (r 102)), (100, .box (wcs (leaveM s (sentP s c).id) (.d (hds s.held)) (.row 102 s.seen.length) slot c)), (102, .row 102 2 (rowOf Sn.enc s.seen))]) (fun n => n) ?_ ?_ rfl (by first | rfl | (simp only [wfL, wfs, mpO_namesB, mpO_namesI]; rfl))) (retW isRet_r .nil rfl (by repeat' (first | exact trivial | refine ⟨rfl, ?_⟩)))
    all_goals repeat' (first | exact trivial | refine ⟨⟨_, rfl, ?_⟩, ?_⟩ | exact .pin rfl | exact .rowD rfl rowOf_isD | refine .box ?_ | exact .nil | refine .cons ?_ ?_ | exact .d | exact .row rfl rfl | fail)
  · have ht := t1 (by assumption)
    rw [e3 (by assumption) (.inr (by omega)) hq]
    refine retL_of (le_gen0 (l := []) (b := [(9100, .pin 100 (r 100)), (9102, .pin 102 (r 102)), (100, .box (wcs { leaveM s (sentP s c).id with back := 0, wait := 0 } (.d (hds s.held)) (.row 102 s.seen.length) slot c)), (102, .row 102 2 (rowOf Sn.enc s.seen))]) (fun n => n) ?_ ?_ rfl (by first | rfl | (simp only [wfL, wfs, mpO_namesB, mpO_namesI]; rfl))) (retW isRet_r .nil rfl (by repeat' (first | exact trivial | refine ⟨rfl, ?_⟩)))
    all_goals repeat' (first | exact trivial | refine ⟨⟨_, rfl, ?_⟩, ?_⟩ | exact .pin rfl | exact .rowD rfl rowOf_isD | refine .box ?_ | exact .nil | refine .cons ?_ ?_ | exact .d | exact .row rfl rfl | fail)
  · have ht := t1 (by assumption)
    rw [e4 (by assumption) (by assumption) (by omega) hq, ht]
    refine retL_of (le_gen0 (l := []) (b := [(9100, .pin 100 (r 100)), (9102, .pin 102 (r 102)), (100, .box (wcs { s with trying := (sentP s c).id, tries := s.tries + 1 } (.d (hds s.held)) (.row 102 s.seen.length) slot c)), (102, .row 102 2 (rowOf Sn.enc s.seen))]) (fun n => n) ?_ ?_ rfl (by first | rfl | (simp only [wfL, wfs, mpO_namesB, mpO_namesI]; rfl))) (retW isRet_r .nil rfl (by repeat' (first | exact trivial | refine ⟨rfl, ?_⟩)))
    all_goals repeat' (first | exact trivial | refine ⟨⟨_, rfl, ?_⟩, ?_⟩ | exact .pin rfl | exact .rowD rfl rowOf_isD | refine .box ?_ | exact .nil | refine .cons ?_ ?_ | exact .d | exact .row rfl rfl | fail)
  · have ht := t1 (by assumption)
    rw [e5 (by assumption) (by assumption) (by omega) hq, ht]
    obtain ⟨t, hte⟩ : ∃ t : Sta, t = { s with trying := (sentP s c).id, tries := s.tries + 1, back := min (s.back + 1) 5 } := ⟨_, rfl⟩
    have hts : t.seed = s.seed := by rw [hte]
    have htb : t.back = min (s.back + 1) 5 := by rw [hte]
    rw [← htb] at hpw
    have eX : ({ s with trying := (sentP s c).id, tries := s.tries + 1, back := min (s.back + 1) 5, seed := nextSeed s.seed, wait := nextSeed s.seed / 65536 % 2 ^ (min (s.back + 1) 5).toNat } : Sta) = { t with seed := nextSeed t.seed, wait := nextSeed t.seed / 65536 % 2 ^ t.back.toNat } := by rw [hte]
    rw [eX]
    refine VC.le (σ' := stOf [(0, .c (.ptr 100 0))] [(9100, .pin 100 (r 100)), (9102, .pin 102 (r 102)), (100, .box (wcs { s with trying := (sentP s c).id, tries := s.tries + 1, back := min (s.back + 1) 5 } (.d (hds s.held)) (.row 102 s.seen.length) slot c)), (102, .row 102 2 (rowOf Sn.enc s.seen))]) ?_ ?_
    · refine le_gen0 (fun n => n) ?_ ?_ rfl (by first | rfl | (simp only [wfL, wfs, mpO_namesB, mpO_namesI]; rfl))
      all_goals repeat' (first | exact trivial | refine ⟨⟨_, rfl, ?_⟩, ?_⟩ | exact .c (.ptr rfl) | exact .pin rfl | exact .rowD rfl rowOf_isD | refine .box ?_ | exact .nil | refine .cons ?_ ?_ | exact .d | exact .row rfl rfl | fail)
    rw [← hte]
    repeat' (first
      | (show VR _ _ _ (_ :: _) _ _ _; first | refine x_opF rfl (by first | exact True.intro | omega) ?_ | (show VR _ _ _ (⟨_, .nilCheck _, _, _, _, _⟩ :: _) _ _ _; first | refine vr_nilCheck_ptr (gk rfl) rfl rfl ?_) | (show VR _ _ _ (⟨_, .binOp _ _ _ _ _, _, _, _, _⟩ :: _) _ _ _; first | refine vr_shlI (gk rfl) rfl rfl (by omega) rfl (by omega) ?_))
      | (show VR _ _ _ [] _ _ _; first | refine vr_nil ?_ | refine vr_nil_t (by kernel_rfl) ?_)
      | (show thenQ _ _ _ _; first | refine q_then_n ?_)
      | refine vc_seq ?_
      | refine vc_region ?_ | refine vc_region_t ?_
      | fail)
    refine retL_of (le_gen0 (l := []) (b := [(9100, .pin 100 (r 100)), (9102, .pin 102 (r 102)), (100, .box (wcs { t with seed := nextSeed t.seed, wait := nextSeed t.seed / 65536 % 2 ^ t.back.toNat } (.d (hds s.held)) (.row 102 s.seen.length) slot c)), (102, .row 102 2 (rowOf Sn.enc s.seen))]) (fun n => n) ?_ ?_ rfl (by first | rfl | (simp only [wfL, wfs, mpO_namesB, mpO_namesI]; rfl))) (retW isRet_n .nil rfl (by exact ⟨rfl, rfl, rfl, rfl, trivial⟩))
    all_goals repeat' (first | exact trivial | refine ⟨⟨_, rfl, ?_⟩, ?_⟩ | exact .pin rfl | exact .rowD rfl rowOf_isD | refine .box ?_ | exact .nil | refine .cons ?_ ?_ | exact .d | exact .row rfl rfl | fail)
    exact cw_eq (by rw [Int.one_mul]; rfl)
  · rw [e2 (by assumption) (.inl (by assumption)) hq]
    refine retL_of (le_gen0 (l := []) (b := [(9100, .pin 100 (r 100)), (9102, .pin 102 (r 102)), (100, .box (wcs (leaveM s (sentP s c).id) (.d (hds s.held)) (.row 102 s.seen.length) slot c)), (102, .row 102 2 (rowOf Sn.enc s.seen))]) (fun n => n) ?_ ?_ rfl (by first | rfl | (simp only [wfL, wfs, mpO_namesB, mpO_namesI]; rfl))) (retW isRet_r .nil rfl (by repeat' (first | exact trivial | refine ⟨rfl, ?_⟩)))
    all_goals repeat' (first | exact trivial | refine ⟨⟨_, rfl, ?_⟩, ?_⟩ | exact .pin rfl | exact .rowD rfl rowOf_isD | refine .box ?_ | exact .nil | refine .cons ?_ ?_ | exact .d | exact .row rfl rfl | fail)
  · rw [e3 (by assumption) (.inl (by assumption)) hq]
    refine retL_of (le_gen0 (l := []) (b := [(9100, .pin 100 (r 100)), (9102, .pin 102 (r 102)), (100, .box (wcs { leaveM s (sentP s c).id with back := 0, wait := 0 } (.d (hds s.held)) (.row 102 s.seen.length) slot c)), (102, .row 102 2 (rowOf Sn.enc s.seen))]) (fun n => n) ?_ ?_ rfl (by first | rfl | (simp only [wfL, wfs, mpO_namesB, mpO_namesI]; rfl))) (retW isRet_r .nil rfl (by repeat' (first | exact trivial | refine ⟨rfl, ?_⟩)))
    all_goals repeat' (first | exact trivial | refine ⟨⟨_, rfl, ?_⟩, ?_⟩ | exact .pin rfl | exact .rowD rfl rowOf_isD | refine .box ?_ | exact .nil | refine .cons ?_ ?_ | exact .d | exact .row rfl rfl | fail)
  · have ht := t2 (by assumption)
    rw [e4 (by assumption) (by assumption) (by omega) hq, ht]
    refine retL_of (le_gen0 (l := []) (b := [(9100, .pin 100 (r 100)), (9102, .pin 102 (r 102)), (100, .box (wcs { s with trying := (sentP s c).id, tries := 1 } (.d (hds s.held)) (.row 102 s.seen.length) slot c)), (102, .row 102 2 (rowOf Sn.enc s.seen))]) (fun n => n) ?_ ?_ rfl (by first | rfl | (simp only [wfL, wfs, mpO_namesB, mpO_namesI]; rfl))) (retW isRet_r .nil rfl (by repeat' (first | exact trivial | refine ⟨rfl, ?_⟩)))
    all_goals repeat' (first | exact trivial | refine ⟨⟨_, rfl, ?_⟩, ?_⟩ | exact .pin rfl | exact .rowD rfl rowOf_isD | refine .box ?_ | exact .nil | refine .cons ?_ ?_ | exact .d | exact .row rfl rfl | fail)
  · have ht := t2 (by assumption)
    rw [e5 (by assumption) (by assumption) (by omega) hq, ht]
    obtain ⟨t, hte⟩ : ∃ t : Sta, t = { s with trying := (sentP s c).id, tries := 1, back := min (s.back + 1) 5 } := ⟨_, rfl⟩
    have hts : t.seed = s.seed := by rw [hte]
    have htb : t.back = min (s.back + 1) 5 := by rw [hte]
    rw [← htb] at hpw
    have eX : ({ s with trying := (sentP s c).id, tries := 1, back := min (s.back + 1) 5, seed := nextSeed s.seed, wait := nextSeed s.seed / 65536 % 2 ^ (min (s.back + 1) 5).toNat } : Sta) = { t with seed := nextSeed t.seed, wait := nextSeed t.seed / 65536 % 2 ^ t.back.toNat } := by rw [hte]
    rw [eX]
    refine VC.le (σ' := stOf [(0, .c (.ptr 100 0))] [(9100, .pin 100 (r 100)), (9102, .pin 102 (r 102)), (100, .box (wcs { s with trying := (sentP s c).id, tries := 1, back := min (s.back + 1) 5 } (.d (hds s.held)) (.row 102 s.seen.length) slot c)), (102, .row 102 2 (rowOf Sn.enc s.seen))]) ?_ ?_
    · refine le_gen0 (fun n => n) ?_ ?_ rfl (by first | rfl | (simp only [wfL, wfs, mpO_namesB, mpO_namesI]; rfl))
      all_goals repeat' (first | exact trivial | refine ⟨⟨_, rfl, ?_⟩, ?_⟩ | exact .c (.ptr rfl) | exact .pin rfl | exact .rowD rfl rowOf_isD | refine .box ?_ | exact .nil | refine .cons ?_ ?_ | exact .d | exact .row rfl rfl | fail)
    rw [← hte]
    repeat' (first
      | (show VR _ _ _ (_ :: _) _ _ _; first | refine x_opF rfl (by first | exact True.intro | omega) ?_ | (show VR _ _ _ (⟨_, .nilCheck _, _, _, _, _⟩ :: _) _ _ _; first | refine vr_nilCheck_ptr (gk rfl) rfl rfl ?_) | (show VR _ _ _ (⟨_, .binOp _ _ _ _ _, _, _, _, _⟩ :: _) _ _ _; first | refine vr_shlI (gk rfl) rfl rfl (by omega) rfl (by omega) ?_))
      | (show VR _ _ _ [] _ _ _; first | refine vr_nil ?_ | refine vr_nil_t (by kernel_rfl) ?_)
      | (show thenQ _ _ _ _; first | refine q_then_n ?_)
      | refine vc_seq ?_
      | refine vc_region ?_ | refine vc_region_t ?_
      | fail)
    refine retL_of (le_gen0 (l := []) (b := [(9100, .pin 100 (r 100)), (9102, .pin 102 (r 102)), (100, .box (wcs { t with seed := nextSeed t.seed, wait := nextSeed t.seed / 65536 % 2 ^ t.back.toNat } (.d (hds s.held)) (.row 102 s.seen.length) slot c)), (102, .row 102 2 (rowOf Sn.enc s.seen))]) (fun n => n) ?_ ?_ rfl (by first | rfl | (simp only [wfL, wfs, mpO_namesB, mpO_namesI]; rfl))) (retW isRet_n .nil rfl (by exact ⟨rfl, rfl, rfl, rfl, trivial⟩))
    all_goals repeat' (first | exact trivial | refine ⟨⟨_, rfl, ?_⟩, ?_⟩ | exact .pin rfl | exact .rowD rfl rowOf_isD | refine .box ?_ | exact .nil | refine .cons ?_ ?_ | exact .d | exact .row rfl rfl | fail)
    exact cw_eq (by rw [Int.one_mul]; rfl)
end Go.Proofs
