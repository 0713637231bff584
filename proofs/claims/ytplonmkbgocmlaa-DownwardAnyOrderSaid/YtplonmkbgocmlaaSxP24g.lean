/-
  What functions of the given program hand back, by walks over its code, and plain laws on that. No condition.
-/
import Derived.Test.YtplonmkbgocmlaaSxP24f
import Derived.Test.YtplonmkbgocmlaaSxLibC
-- SXS
-- SXB
-- SXM
namespace Go.Proofs
open Go Go.Sx Go.RowKit
set_option maxRecDepth 4000
set_option linter.unusedSimpArgs false
set_option linter.unusedVariables false
attribute [local irreducible] VR VC thenQ blockQ retL VX

/-! way, Collect. -/
theorem way_fn (lv : Value) (n : Int) : FnS Try.prog 57 [rawA lv, AI n] [] (.fnc 62 [.ptr 3 0, .ptr 2 0]) [(2, .box [.d (.raw lv)]), (3, .box [.d (.int .i64 n)])] := by
  refine FnS.of_body (enters_of Try.func57 (by kernel_rfl) rfl) Try.func57 rfl Try.ntmps57 Try.results57 rfl rfl rfl rfl fun E hS => ?_
  repeat' (first
    | (show VR _ _ _ (_ :: _) _ _ _; first | (show VR _ _ _ (⟨_, .alloc _, _, _, _, _⟩ :: _) _ _ _; first | refine vr_allocArr (gk rfl) rfl rfl (by decide) rfl rfl ?_) | (show VR _ _ _ (⟨_, .load _ _, _, _, _, _⟩ :: _) _ _ _; first | refine vr_loadArr (gk rfl) rfl rfl rfl (by first | assumption | rfl | ((try simp only [lns]); first | assumption | omega)) rfl rfl ?_) | (show VR _ _ _ (⟨_, .store _ _ _, _, _, _, _⟩ :: _) _ _ _; first | refine vr_storeB (gk rfl) rfl rfl rfl (by omega) rfl ?_ | refine vr_storeI (gk rfl) rfl rfl rfl (by first | omega | ((try simp only [lns]); omega)) rfl ?_ | refine vr_storeArr (gk rfl) rfl rfl rfl (by first | assumption | rfl | ((try simp only [lns]); first | assumption | omega)) (by first | assumption | rfl | ((try simp only [lns]); first | assumption | omega)) rfl ?_) | (show VR _ _ _ (⟨_, .indexAddr _ _ _, _, _, _, _⟩ :: _) _ _ _; first | refine vr_indexArrN (gk rfl) rfl rfl rfl rfl rfl (by omega) rfl ?_ | refine vr_indexArr (gk rfl) rfl rfl rfl rfl (by omega) (by omega) rfl ?_ | refine vr_indexBox (gk rfl) rfl rfl rfl (by decide) (by decide) rfl rfl ?_) | (show VR _ _ _ (⟨_, .binOp _ _ _ _ _, _, _, _, _⟩ :: _) _ _ _; first | refine vr_eqlArr (gk rfl) rfl rfl rfl rfl rfl (by first | assumption | rfl | ((try simp only [lns]); first | assumption | omega)) (by first | assumption | rfl | ((try simp only [lns]); first | assumption | omega)) (by kernel_rfl) rfl ?_ | refine vr_eqlStr (gk rfl) rfl rfl rfl rfl ?_ | refine vr_neqStr (gk rfl) rfl rfl rfl rfl ?_ | refine vr_eqlNil (gk rfl) rfl rfl rfl ?_ | refine vr_neqNil (gk rfl) rfl rfl rfl ?_ | refine vr_eqlRd (gk rfl) rfl rfl (by omega) rfl ?_ | refine vr_neqRd (gk rfl) rfl rfl (by omega) rfl ?_) | (show VR _ _ _ (⟨_, .slice _ _ _ _ _, _, _, _, _⟩ :: _) _ _ _; first | refine vr_tailStr (gk rfl) rfl rfl (by omega) rfl ?_) | (show VR _ _ _ (⟨_, .convert _ _ _, _, _, _, _⟩ :: _) _ _ _; first | refine vr_convStr (gk rfl) rfl rfl (by first | rfl | exact rowOf_length.symm | (simp only [lns] <;> omega)) rfl rfl rfl rfl ?_ | refine vr_convNil (gk rfl) rfl rfl rfl rfl rfl ?_) | refine x_opF rfl (by first | exact True.intro | omega) ?_ | (show VR _ _ _ (⟨_, .index _ _ _, _, _, _, _⟩ :: _) _ _ _; first | refine vr_indexStr (m := 0) (gk rfl) rfl rfl rfl (by decide) (by omega) rfl rfl ?_ | refine vr_indexStr (gk rfl) rfl rfl rfl (by omega) (by omega) (by first | exact (Int.toNat_natCast _).symm | rfl) rfl ?_) | (show VR _ _ _ (⟨_, .nilCheck _, _, _, _, _⟩ :: _) _ _ _; first | refine vr_nilCheck_rp (gk rfl) rfl rfl ?_ | refine vr_nilCheck_ptr (gk rfl) rfl rfl ?_ | refine vr_nilCheck_ep (gk rfl) rfl rfl ?_) | refine x_gknow rfl (by assumption) ?_ | (refine x_gsplit rfl ?_ ?_ <;> intro h <;> have hq := h <;> (try simp only [hqs] at hq)))
    | (show VR _ _ _ [] _ _ _; first | refine vr_nil ?_ | refine vr_nil_t (by kernel_rfl) ?_)
    | (show thenQ _ _ _ _; first | refine q_then_n ?_ | refine q_then_x ?_ | refine q_then_r ?_)
    | (show blockQ _ _ _ _; first | refine q_blk_n ?_ | refine q_blk_r ?_ | refine q_blk_x ?_ | refine q_blk_o rfl ?_)
    | refine vc_seq ?_
    | refine vc_region ?_ | refine vc_region_t ?_
    | (show VC _ (.cond _ _ _) _ _; first | refine vc_cond_t rfl ?_ | refine vc_cond_f rfl ?_ | refine x_know rfl (by assumption) ?_ | (refine x_cond rfl ?_ ?_ <;> intro h <;> have hq := h <;> (try simp only [hqs] at hq)))
    | refine vc_ret ?_ | refine vc_exit ?_ | refine vc_block ?_ | refine vc_skip ?_ | refine vc_label ?_)
  exact ⟨isRet_r, [.fnc 62 [.ptr 3 0, .ptr 2 0]], .tmp rfl rfl .nil, rfl, fun p hp => by
    simp only [List.mem_cons, List.not_mem_nil, or_false] at hp
    rcases hp with rfl | rfl <;> rfl⟩
theorem way_raw (lv : Value) (h1 : lv.oneCell' = true) (n : Int) (w : World) :
    Calls Try.prog 57 #[lv, .int .i64 n] w fun e w' => ∃ v, e = .returned v ∧ ∃ bf bl, v = .func (.func 62) #[] #[pv bf, pv bl] ∧ bf < w'.heap.size ∧ bl < w'.heap.size ∧ w'.cell? ⟨bf, 0, none⟩ = some (.int .i64 n) ∧ w'.cell? ⟨bl, 0, none⟩ = some lv ∧ Below w.heap.size w w' := by
  have h := (way_fn lv n).2 w (fun _ => ⟨0, 0, true⟩) (fun _ => False) (fun _ => False) [lv, .int .i64 n] (.cons ⟨rfl, h1⟩ (.cons rfl .nil)) (memAt_empty (fun b hb => hb.elim))
  refine Calls.mono h fun e w' hh => ?_
  obtain ⟨v, ρ, Im, rfl, hm, ⟨us, rfl, hus⟩, _⟩ := hh
  refine ⟨_, rfl, ?_⟩
  cases hus with
  | cons h1 hus =>
    cases hus with
    | cons h2 hus =>
      cases hus
      have e1 := h1
      have e2 := h2
      simp only [RepC] at e1 e2
      subst e1; subst e2
      obtain ⟨hn2, us2, T2, hh2, ha2⟩ := hm.bk 2 _ rfl
      obtain ⟨hn3, us3, T3, hh3, ha3⟩ := hm.bk 3 _ rfl
      obtain ⟨hl2, _⟩ := hm.own 2 _ rfl rfl hn2
      obtain ⟨hl3, _⟩ := hm.own 3 _ rfl rfl hn3
      cases ha2 with
      | cons hv2 ha2 =>
        cases ha2
        cases ha3 with
        | cons hv3 ha3 =>
          cases ha3
          have hv2 := hv2.1
          have hv3 : _ = Value.int .i64 n := hv3
          subst hv2; subst hv3
          exact ⟨_, _, rfl, hl3, hl2, by simp [World.cell?, hh3], by simp [World.cell?, hh2], hm.keep.below (fun b h => h)⟩

theorem collect_raw {own : TypeId → Prop} (h32 : ¬ own 32) (h3 : ¬ own 3) {g : Nat} {lb : Array Value} (eg : ∀ args w, (callFunc g args).run Try.prog w = .ok (.enter g args) w) {S : List Int → Prop} {N : Nat} (hN : N ≤ 1000000) {w : World}
    (hseq : SeqT own Try.prog g lb (fun x : Int => #[.int .i64 x]) S N w) :
    Calls Try.prog 56 #[.func (.func g) #[] lb] w fun e w' => ∃ v, e = .returned v ∧ ∃ xs, S xs ∧ w'.ownsRow w.heap.size 3 1 v xs.length (xs.map fun x => .int .i64 x) ∧ Below w.heap.size w w' := by
  have hc : Calls Try.prog 61 #[.slice none 0 0, .func (.func g) #[] lb] w fun e w' => ∃ v, e = .returned v ∧ ∃ xs, S xs ∧ w'.ownsRow w.heap.size 3 1 v xs.length (xs.map fun x => .int .i64 x) ∧ Below w.heap.size w w' :=
    Calls.mono (appendSeq_calls h32 h3 eg hN hseq) fun e w' ⟨v, xs, h1, h2, h3, _, h5⟩ => ⟨v, h1, xs, h2, h3, h5⟩
  refine (callsIn_wide (n := 3)).1 ?_
  refine callsIn_of_wp Try.func56 rfl trivial ?_ rfl
  simp only [Try.ntmps56, List.size_toArray, List.length_cons, List.length_nil, Nat.reduceAdd, Nat.reduceSub, Array.replicate_succ, Array.replicate_zero, List.push_toArray, List.append_toArray, List.nil_append, List.cons_append]
  gi_wp2
  refine ⟨trivial, callsIn_wide.2 (Calls.mono hc ?_)⟩
  rintro e w' ⟨v, rfl, xs, hS, hrow, hbel⟩
  gi_wp2
  exact ⟨by simp, _, results_tmp rfl _ _ _, v, rfl, xs, hS, hrow, hbel⟩

/-! Reverse. -/
def revK (l : List Int) (k : Nat) : List Int := (List.range l.length).map fun q => if q < k ∨ l.length - k ≤ q then l.getD (l.length - 1 - q) default else l.getD q default
theorem revK_len (l : List Int) (k : Nat) : (revK l k).length = l.length := by simp [revK]
theorem revK_get (l : List Int) (k : Nat) {q : Nat} (h : q < l.length) : (revK l k).getD q default = if q < k ∨ l.length - k ≤ q then l.getD (l.length - 1 - q) default else l.getD q default := by
  simp [revK, List.getD, h]
theorem revK_zero (l : List Int) : revK l 0 = l := by
  refine list_getD (revK_len l 0) fun i hi => ?_
  rw [revK_len] at hi
  rw [revK_get l 0 hi, if_neg (by omega)]
theorem revK_end {l : List Int} {k : Nat} (h : l.length ≤ 2 * k + 1) : revK l k = l.reverse := by
  refine list_getD (by rw [revK_len, List.length_reverse]) fun i hi => ?_
  rw [revK_len] at hi
  have e : l.reverse.getD i default = l.getD (l.length - 1 - i) default := by
    rw [List.getD_eq_getElem?_getD, List.getElem?_reverse hi, ← List.getD_eq_getElem?_getD]
  rw [revK_get l k hi, e]
  split
  · rfl
  · have : l.length - 1 - i = i := by omega
    rw [this]
theorem getD_set {l : List Int} {i j : Nat} {x : Int} : (l.set i x).getD j default = if i = j ∧ j < l.length then x else l.getD j default := by
  rw [List.getD_eq_getElem?_getD, List.getElem?_set]
  by_cases h : i = j
  · subst h
    by_cases h2 : i < l.length
    · simp [h2]
    · simp [h2, List.getD]
  · simp [h]
theorem revK_step {l : List Int} {k : Nat} (h : 2 * k + 1 < l.length) : ((revK l k).set k ((revK l k).getD (l.length - 1 - k) default)).set (l.length - 1 - k) ((revK l k).getD k default) = revK l (k + 1) := by
  refine list_getD (by simp [revK_len]) fun i hi => ?_
  have hi : i < l.length := by simpa [revK_len] using hi
  rw [getD_set, getD_set, List.length_set, revK_len, revK_get l (k + 1) hi, revK_get l k hi, revK_get l k (show k < l.length by omega), revK_get l k (show l.length - 1 - k < l.length by omega)]
  by_cases h1 : l.length - 1 - k = i
  · subst h1
    rw [if_pos ⟨rfl, hi⟩, if_neg (by omega), if_pos (by omega)]
    all_goals (congr 1; try omega)
  · rw [if_neg (by omega)]
    by_cases h2 : k = i
    · subst h2
      rw [if_pos ⟨rfl, hi⟩, if_neg (by omega), if_pos (by omega)]
      all_goals (congr 1; try omega)
    · rw [if_neg (by omega)]
      by_cases h3 : i < k ∨ l.length - k ≤ i
      · rw [if_pos h3, if_pos (by omega)]
      · rw [if_neg h3, if_neg (by omega)]
set_option maxHeartbeats 1000000 in
theorem rev_spec (l : List Int) (hl : l.length ≤ 1000000) : FnW Try.prog 58 [.c (.row 100 l.length)] [(100, .row 3 1 (rowOf encI l))] [100] (.tup []) [(100, .row 3 1 (rowOf encI l.reverse))] := by
  intro r
  simp only [pinsL, List.map_cons, List.map_nil, List.cons_append, List.nil_append, Nat.reduceAdd]
  refine FnS.of_bodyM (enters_of Try.func58 (by kernel_rfl) rfl) Try.func58 rfl Try.ntmps58 Try.results58 rfl (by first | rfl | (simp only [wfRes, wfL, wfArgs, wfs, mpO_namesB, mpO_namesI]; rfl)) rfl fun E => ?_
  refine vc_retL ?_
  repeat' (first
    | (show VR _ _ _ (_ :: _) _ _ _; first | (show VR _ _ _ (⟨_, .alloc _, _, _, _, _⟩ :: _) _ _ _; first | refine vr_allocArr (gk rfl) rfl rfl (by decide) rfl rfl ?_) | (show VR _ _ _ (⟨_, .load _ _, _, _, _, _⟩ :: _) _ _ _; first | refine vr_loadArr (gk rfl) rfl rfl rfl (by first | assumption | rfl | ((try simp only [lns]); first | assumption | omega)) rfl rfl ?_) | (show VR _ _ _ (⟨_, .store _ _ _, _, _, _, _⟩ :: _) _ _ _; first | refine vr_storeB (gk rfl) rfl rfl rfl (by omega) rfl ?_ | refine vr_storeI (gk rfl) rfl rfl rfl (by first | omega | ((try simp only [lns]); omega)) rfl ?_ | refine vr_storeArr (gk rfl) rfl rfl rfl (by first | assumption | rfl | ((try simp only [lns]); first | assumption | omega)) (by first | assumption | rfl | ((try simp only [lns]); first | assumption | omega)) rfl ?_) | (show VR _ _ _ (⟨_, .indexAddr _ _ _, _, _, _, _⟩ :: _) _ _ _; first | refine vr_indexArrN (gk rfl) rfl rfl rfl rfl rfl (by omega) rfl ?_ | refine vr_indexArr (gk rfl) rfl rfl rfl rfl (by omega) (by omega) rfl ?_ | refine vr_indexBox (gk rfl) rfl rfl rfl (by decide) (by decide) rfl rfl ?_) | (show VR _ _ _ (⟨_, .binOp _ _ _ _ _, _, _, _, _⟩ :: _) _ _ _; first | refine vr_eqlArr (gk rfl) rfl rfl rfl rfl rfl (by first | assumption | rfl | ((try simp only [lns]); first | assumption | omega)) (by first | assumption | rfl | ((try simp only [lns]); first | assumption | omega)) (by kernel_rfl) rfl ?_ | refine vr_eqlStr (gk rfl) rfl rfl rfl rfl ?_ | refine vr_neqStr (gk rfl) rfl rfl rfl rfl ?_ | refine vr_eqlNil (gk rfl) rfl rfl rfl ?_ | refine vr_neqNil (gk rfl) rfl rfl rfl ?_ | refine vr_eqlRd (gk rfl) rfl rfl (by omega) rfl ?_ | refine vr_neqRd (gk rfl) rfl rfl (by omega) rfl ?_) | (show VR _ _ _ (⟨_, .slice _ _ _ _ _, _, _, _, _⟩ :: _) _ _ _; first | refine vr_tailStr (gk rfl) rfl rfl (by omega) rfl ?_) | (show VR _ _ _ (⟨_, .convert _ _ _, _, _, _, _⟩ :: _) _ _ _; first | refine vr_convStr (gk rfl) rfl rfl (by first | rfl | exact rowOf_length.symm | (simp only [lns] <;> omega)) rfl rfl rfl rfl ?_ | refine vr_convNil (gk rfl) rfl rfl rfl rfl rfl ?_) | refine x_opF rfl (by first | exact True.intro | omega) ?_ | (show VR _ _ _ (⟨_, .indexAddr _ _ _, _, _, _, _⟩ :: _) _ _ _; first | refine vr_index_rd (gk rfl) rfl rfl rfl rfl rfl (by omega) rfl ?_ | refine vr_index_rdP (gk rfl) rfl rfl rfl rfl rfl (by omega) rfl ?_ | refine vr_index_rdN (gk rfl) rfl rfl rfl rfl (by first | omega | decide) rfl ?_ | refine vr_index_rowO (gk rfl) rfl rfl rfl rfl rfl rfl (by omega) (by omega) rfl ?_ | refine vr_index_row (gk rfl) rfl rfl rfl rfl rfl rfl (by omega) (by omega) rfl ?_ | refine vr_index_rowN (gk rfl) rfl rfl rfl rfl rfl (by omega) (by first | rfl | exact rowOf_length.symm | (simp only [lns] <;> omega)) rfl ?_) | (show VR _ _ _ (⟨_, .call ⟨.builtin .len, _, _⟩, _, _, _, _⟩ :: _) _ _ _; first | refine vr_len_row (gk rfl) rfl rfl (by first | rfl | exact rowOf_length.symm | (simp only [lns] <;> omega)) rfl rfl ?_ | refine vr_len_sub (gk rfl) rfl rfl rfl ?_ | refine vr_len_full (gk rfl) rfl rfl rfl rfl ?_) | (show VR _ _ _ (⟨_, .index _ _ _, _, _, _, _⟩ :: _) _ _ _; first | refine vr_indexStr (m := 0) (gk rfl) rfl rfl rfl (by decide) (by omega) rfl rfl ?_ | refine vr_indexStr (gk rfl) rfl rfl rfl (by omega) (by omega) (by first | exact (Int.toNat_natCast _).symm | rfl) rfl ?_) | (show VR _ _ _ (⟨_, .nilCheck _, _, _, _, _⟩ :: _) _ _ _; first | refine vr_nilCheck_rp (gk rfl) rfl rfl ?_ | refine vr_nilCheck_ptr (gk rfl) rfl rfl ?_ | refine vr_nilCheck_ep (gk rfl) rfl rfl ?_) | (show VR _ _ _ (⟨_, .load _ _, _, _, _, _⟩ :: _) _ _ _; first | refine vr_load_rowO_agg (gk rfl) rfl rfl (by omega) rfl rfl rfl ?_ | refine vr_load_rowO (gk rfl) rfl rfl (by omega) rfl rfl rfl ?_ | refine vr_load_rowS_agg (gk rfl) rfl rfl (by omega) rfl rfl rfl ?_ | refine vr_load_rowS (gk rfl) rfl rfl (by omega) rfl rfl rfl ?_) | (show VR _ _ _ (⟨_, .store _ _ _, _, _, _, _⟩ :: _) _ _ _; first | refine vr_store_rowO (gk rfl) rfl rfl rfl (by omega) rfl rfl rfl ?_ | refine vr_store_rowS (gk rfl) rfl rfl rfl (by omega) rfl rfl rfl ?_) | (show VR _ _ _ (⟨_, .binOp _ _ _ _ _, _, _, _, _⟩ :: _) _ _ _; first | refine x_ariw rfl rfl rfl rfl rfl ?_) | refine x_gknow rfl (by assumption) ?_ | (refine x_gsplit rfl ?_ ?_ <;> intro h <;> have hq := h <;> (try simp only [hqs] at hq)))
    | (show VR _ _ _ [] _ _ _; first | refine vr_nil ?_ | refine vr_nil_t (by kernel_rfl) ?_)
    | (show thenQ _ _ _ _; first | refine q_then_n ?_ | refine q_then_x ?_ | refine q_then_r ?_)
    | (show blockQ _ _ _ _; first | refine q_blk_n ?_ | refine q_blk_r ?_ | refine q_blk_x ?_ | refine q_blk_o rfl ?_)
    | refine vc_seq ?_
    | refine vc_region ?_ | refine vc_region_t ?_
    | (show VC _ (.cond _ _ _) _ _; first | refine vc_cond_t rfl ?_ | refine vc_cond_f rfl ?_ | refine x_know rfl (by assumption) ?_ | (refine x_cond rfl ?_ ?_ <;> intro h <;> have hq := h <;> (try simp only [hqs] at hq)))
    | refine vc_ret ?_ | refine vc_exit ?_ | refine vc_block ?_ | refine vc_skip ?_ | refine vc_label ?_)
  refine vc_loopI (ι := Nat) (fun k => stOf [(0, .c (.row 100 l.length)), (2, AI k), (3, AI ((l.length : Int) - 1 - k))] [(9100, .pin 100 (r 100)), (100, .row 3 1 (rowOf encI (revK l k)))])
    (fun k => 2 * k ≤ l.length + 1) (fun k => l.length + 1 - k) 0 (by omega) ?_ ?_
  · rw [revK_zero]
    refine le_gen0 (fun n => n) ?_ ?_ rfl (by first | rfl | (simp only [wfL, wfs, mpO_namesB, mpO_namesI]; rfl))
    all_goals repeat' (first | exact trivial | refine ⟨⟨_, rfl, ?_⟩, ?_⟩ | exact .c .d | exact .clo | exact .ep | exact .c (.ptr rfl) | exact .rp rfl | exact .c (.mp rfl) | exact .c (.fn rfl) | exact .c (.row rfl rfl) | exact .c .nil | (refine .c (.row rfl ?_); ((try dsimp only); first | rfl | omega | (simp only [lns] <;> omega)); done) | (refine .c (cw_eq ?_); first | rfl | (congr 1; omega); done) | exact .boxD rfl rfl | exact .pin rfl | exact .mapO (fun _ => rfl) rfl | (refine .mapO (fun _ => rfl) ?_; ((try dsimp only); first | rfl | omega | (simp only [lns] <;> omega)); done) | exact .rowD rfl rowOf_isD | exact .rowD (rowOf_append.symm) rowOf_isD | exact .rowD (rowOf_set rfl) rowOf_isD | (refine .rowD ?_ rowOf_isD; rw [rowOf_append]; rfl) | (refine .rowD ?_ rowOf_isD; simp only [rowOf_append, List.append_assoc]; rfl) | refine .agg ?_ | refine .fncC ?_ | refine .box ?_ | exact .nil | refine .cons ?_ ?_ | exact .d | exact .ptr rfl | exact .row rfl rfl | (refine .row rfl ?_; ((try dsimp only); first | rfl | omega | (simp only [lns] <;> omega)); done))
  · intro k hk
    have hkl := revK_len l k
    by_cases hc : 2 * k + 1 < l.length
    · have hdd : decide ((k : Int) < (l.length : Int) - 1 - k) = true := decide_eq_true (by omega)
      have ej : ((l.length : Int) - 1 - k) = ((l.length - 1 - k : Nat) : Int) := by omega
      rw [ej] at hdd ⊢
      repeat' (first
        | (show VR _ _ _ (_ :: _) _ _ _; first | (show VR _ _ _ (⟨_, .alloc _, _, _, _, _⟩ :: _) _ _ _; first | refine vr_allocArr (gk rfl) rfl rfl (by decide) rfl rfl ?_) | (show VR _ _ _ (⟨_, .load _ _, _, _, _, _⟩ :: _) _ _ _; first | refine vr_loadArr (gk rfl) rfl rfl rfl (by first | assumption | rfl | ((try simp only [lns]); first | assumption | omega)) rfl rfl ?_) | (show VR _ _ _ (⟨_, .store _ _ _, _, _, _, _⟩ :: _) _ _ _; first | refine vr_storeB (gk rfl) rfl rfl rfl (by omega) rfl ?_ | refine vr_storeI (gk rfl) rfl rfl rfl (by first | omega | ((try simp only [lns]); omega)) rfl ?_ | refine vr_storeArr (gk rfl) rfl rfl rfl (by first | assumption | rfl | ((try simp only [lns]); first | assumption | omega)) (by first | assumption | rfl | ((try simp only [lns]); first | assumption | omega)) rfl ?_) | (show VR _ _ _ (⟨_, .indexAddr _ _ _, _, _, _, _⟩ :: _) _ _ _; first | refine vr_indexArrN (gk rfl) rfl rfl rfl rfl rfl (by omega) rfl ?_ | refine vr_indexArr (gk rfl) rfl rfl rfl rfl (by omega) (by omega) rfl ?_ | refine vr_indexBox (gk rfl) rfl rfl rfl (by decide) (by decide) rfl rfl ?_) | (show VR _ _ _ (⟨_, .binOp _ _ _ _ _, _, _, _, _⟩ :: _) _ _ _; first | refine vr_eqlArr (gk rfl) rfl rfl rfl rfl rfl (by first | assumption | rfl | ((try simp only [lns]); first | assumption | omega)) (by first | assumption | rfl | ((try simp only [lns]); first | assumption | omega)) (by kernel_rfl) rfl ?_ | refine vr_eqlStr (gk rfl) rfl rfl rfl rfl ?_ | refine vr_neqStr (gk rfl) rfl rfl rfl rfl ?_ | refine vr_eqlNil (gk rfl) rfl rfl rfl ?_ | refine vr_neqNil (gk rfl) rfl rfl rfl ?_ | refine vr_eqlRd (gk rfl) rfl rfl (by omega) rfl ?_ | refine vr_neqRd (gk rfl) rfl rfl (by omega) rfl ?_) | (show VR _ _ _ (⟨_, .slice _ _ _ _ _, _, _, _, _⟩ :: _) _ _ _; first | refine vr_tailStr (gk rfl) rfl rfl (by omega) rfl ?_) | (show VR _ _ _ (⟨_, .convert _ _ _, _, _, _, _⟩ :: _) _ _ _; first | refine vr_convStr (gk rfl) rfl rfl (by first | rfl | exact rowOf_length.symm | (simp only [lns] <;> omega)) rfl rfl rfl rfl ?_ | refine vr_convNil (gk rfl) rfl rfl rfl rfl rfl ?_) | refine x_opF rfl (by first | exact True.intro | omega) ?_ | (show VR _ _ _ (⟨_, .indexAddr _ _ _, _, _, _, _⟩ :: _) _ _ _; first | refine vr_index_rd (gk rfl) rfl rfl rfl rfl rfl (by omega) rfl ?_ | refine vr_index_rdP (gk rfl) rfl rfl rfl rfl rfl (by omega) rfl ?_ | refine vr_index_rdN (gk rfl) rfl rfl rfl rfl (by first | omega | decide) rfl ?_ | refine vr_index_rowO (gk rfl) rfl rfl rfl rfl rfl rfl (by omega) (by omega) rfl ?_ | refine vr_index_row (gk rfl) rfl rfl rfl rfl rfl rfl (by omega) (by omega) rfl ?_ | refine vr_index_rowN (gk rfl) rfl rfl rfl rfl rfl (by omega) (by first | rfl | exact rowOf_length.symm | (simp only [lns] <;> omega)) rfl ?_) | (show VR _ _ _ (⟨_, .call ⟨.builtin .len, _, _⟩, _, _, _, _⟩ :: _) _ _ _; first | refine vr_len_row (gk rfl) rfl rfl (by first | rfl | exact rowOf_length.symm | (simp only [lns] <;> omega)) rfl rfl ?_ | refine vr_len_sub (gk rfl) rfl rfl rfl ?_ | refine vr_len_full (gk rfl) rfl rfl rfl rfl ?_) | (show VR _ _ _ (⟨_, .index _ _ _, _, _, _, _⟩ :: _) _ _ _; first | refine vr_indexStr (m := 0) (gk rfl) rfl rfl rfl (by decide) (by omega) rfl rfl ?_ | refine vr_indexStr (gk rfl) rfl rfl rfl (by omega) (by omega) (by first | exact (Int.toNat_natCast _).symm | rfl) rfl ?_) | (show VR _ _ _ (⟨_, .nilCheck _, _, _, _, _⟩ :: _) _ _ _; first | refine vr_nilCheck_rp (gk rfl) rfl rfl ?_ | refine vr_nilCheck_ptr (gk rfl) rfl rfl ?_ | refine vr_nilCheck_ep (gk rfl) rfl rfl ?_) | (show VR _ _ _ (⟨_, .load _ _, _, _, _, _⟩ :: _) _ _ _; first | refine vr_load_rowO_agg (gk rfl) rfl rfl (by omega) rfl rfl rfl ?_ | refine vr_load_rowO (gk rfl) rfl rfl (by omega) rfl rfl rfl ?_ | refine vr_load_rowS_agg (gk rfl) rfl rfl (by omega) rfl rfl rfl ?_ | refine vr_load_rowS (gk rfl) rfl rfl (by omega) rfl rfl rfl ?_) | (show VR _ _ _ (⟨_, .store _ _ _, _, _, _, _⟩ :: _) _ _ _; first | refine vr_store_rowO (gk rfl) rfl rfl rfl (by omega) rfl rfl rfl ?_ | refine vr_store_rowS (gk rfl) rfl rfl rfl (by omega) rfl rfl rfl ?_) | (show VR _ _ _ (⟨_, .binOp _ _ _ _ _, _, _, _, _⟩ :: _) _ _ _; first | refine x_ariw rfl rfl rfl rfl rfl ?_) | refine x_gknow rfl (by assumption) ?_ | (refine x_gsplit rfl ?_ ?_ <;> intro h <;> have hq := h <;> (try simp only [hqs] at hq)))
        | (show VR _ _ _ [] _ _ _; first | refine vr_nil ?_ | refine vr_nil_t (by kernel_rfl) ?_)
        | (show thenQ _ _ _ _; first | refine q_then_n ?_ | refine q_then_x ?_ | refine q_then_r ?_)
        | (show blockQ _ _ _ _; first | refine q_blk_n ?_ | refine q_blk_r ?_ | refine q_blk_x ?_ | refine q_blk_o rfl ?_)
        | refine vc_seq ?_
        | refine vc_region ?_ | refine vc_region_t ?_
        | (show VC _ (.cond _ _ _) _ _; first | refine vc_cond_t rfl ?_ | refine vc_cond_f rfl ?_ | refine x_know rfl (by assumption) ?_ | (refine x_cond rfl ?_ ?_ <;> intro h <;> have hq := h <;> (try simp only [hqs] at hq)))
        | refine vc_ret ?_ | refine vc_exit ?_ | refine vc_block ?_ | refine vc_skip ?_ | refine vc_label ?_)
      refine ⟨k + 1, by omega, by omega, ?_⟩
      rw [← revK_step hc]
      have e1 : ((l.length : Int) - 1 - (k + 1 : Nat)) = ((l.length - 1 - k : Nat) : Int) - 1 := by omega
      rw [e1]
      refine le_gen0 (fun n => n) ?_ ?_ rfl (by first | rfl | (simp only [wfL, wfs, mpO_namesB, mpO_namesI]; rfl))
      all_goals repeat' (first | exact trivial | refine ⟨⟨_, rfl, ?_⟩, ?_⟩ | exact .c .d | exact .clo | exact .ep | exact .c (.ptr rfl) | exact .rp rfl | exact .c (.mp rfl) | exact .c (.fn rfl) | exact .c (.row rfl rfl) | exact .c .nil | (refine .c (.row rfl ?_); ((try dsimp only); first | rfl | omega | (simp only [lns] <;> omega)); done) | (refine .c (cw_eq ?_); first | rfl | (congr 1; omega); done) | exact .boxD rfl rfl | exact .pin rfl | exact .mapO (fun _ => rfl) rfl | (refine .mapO (fun _ => rfl) ?_; ((try dsimp only); first | rfl | omega | (simp only [lns] <;> omega)); done) | exact .rowD rfl rowOf_isD | exact .rowD (rowOf_append.symm) rowOf_isD | exact .rowD (rowOf_set rfl) rowOf_isD | (refine .rowD ?_ rowOf_isD; rw [rowOf_append]; rfl) | (refine .rowD ?_ rowOf_isD; simp only [rowOf_append, List.append_assoc]; rfl) | refine .agg ?_ | refine .fncC ?_ | refine .box ?_ | exact .nil | refine .cons ?_ ?_ | exact .d | exact .ptr rfl | exact .row rfl rfl | (refine .row rfl ?_; ((try dsimp only); first | rfl | omega | (simp only [lns] <;> omega)); done))
    · have hdd : decide ((k : Int) < (l.length : Int) - 1 - k) = false := decide_eq_false (by omega)
      repeat' (first
        | (show VR _ _ _ (_ :: _) _ _ _; first | (show VR _ _ _ (⟨_, .alloc _, _, _, _, _⟩ :: _) _ _ _; first | refine vr_allocArr (gk rfl) rfl rfl (by decide) rfl rfl ?_) | (show VR _ _ _ (⟨_, .load _ _, _, _, _, _⟩ :: _) _ _ _; first | refine vr_loadArr (gk rfl) rfl rfl rfl (by first | assumption | rfl | ((try simp only [lns]); first | assumption | omega)) rfl rfl ?_) | (show VR _ _ _ (⟨_, .store _ _ _, _, _, _, _⟩ :: _) _ _ _; first | refine vr_storeB (gk rfl) rfl rfl rfl (by omega) rfl ?_ | refine vr_storeI (gk rfl) rfl rfl rfl (by first | omega | ((try simp only [lns]); omega)) rfl ?_ | refine vr_storeArr (gk rfl) rfl rfl rfl (by first | assumption | rfl | ((try simp only [lns]); first | assumption | omega)) (by first | assumption | rfl | ((try simp only [lns]); first | assumption | omega)) rfl ?_) | (show VR _ _ _ (⟨_, .indexAddr _ _ _, _, _, _, _⟩ :: _) _ _ _; first | refine vr_indexArrN (gk rfl) rfl rfl rfl rfl rfl (by omega) rfl ?_ | refine vr_indexArr (gk rfl) rfl rfl rfl rfl (by omega) (by omega) rfl ?_ | refine vr_indexBox (gk rfl) rfl rfl rfl (by decide) (by decide) rfl rfl ?_) | (show VR _ _ _ (⟨_, .binOp _ _ _ _ _, _, _, _, _⟩ :: _) _ _ _; first | refine vr_eqlArr (gk rfl) rfl rfl rfl rfl rfl (by first | assumption | rfl | ((try simp only [lns]); first | assumption | omega)) (by first | assumption | rfl | ((try simp only [lns]); first | assumption | omega)) (by kernel_rfl) rfl ?_ | refine vr_eqlStr (gk rfl) rfl rfl rfl rfl ?_ | refine vr_neqStr (gk rfl) rfl rfl rfl rfl ?_ | refine vr_eqlNil (gk rfl) rfl rfl rfl ?_ | refine vr_neqNil (gk rfl) rfl rfl rfl ?_ | refine vr_eqlRd (gk rfl) rfl rfl (by omega) rfl ?_ | refine vr_neqRd (gk rfl) rfl rfl (by omega) rfl ?_) | (show VR _ _ _ (⟨_, .slice _ _ _ _ _, _, _, _, _⟩ :: _) _ _ _; first | refine vr_tailStr (gk rfl) rfl rfl (by omega) rfl ?_) | (show VR _ _ _ (⟨_, .convert _ _ _, _, _, _, _⟩ :: _) _ _ _; first | refine vr_convStr (gk rfl) rfl rfl (by first | rfl | exact rowOf_length.symm | (simp only [lns] <;> omega)) rfl rfl rfl rfl ?_ | refine vr_convNil (gk rfl) rfl rfl rfl rfl rfl ?_) | refine x_opF rfl (by first | exact True.intro | omega) ?_ | (show VR _ _ _ (⟨_, .indexAddr _ _ _, _, _, _, _⟩ :: _) _ _ _; first | refine vr_index_rd (gk rfl) rfl rfl rfl rfl rfl (by omega) rfl ?_ | refine vr_index_rdP (gk rfl) rfl rfl rfl rfl rfl (by omega) rfl ?_ | refine vr_index_rdN (gk rfl) rfl rfl rfl rfl (by first | omega | decide) rfl ?_ | refine vr_index_rowO (gk rfl) rfl rfl rfl rfl rfl rfl (by omega) (by omega) rfl ?_ | refine vr_index_row (gk rfl) rfl rfl rfl rfl rfl rfl (by omega) (by omega) rfl ?_ | refine vr_index_rowN (gk rfl) rfl rfl rfl rfl rfl (by omega) (by first | rfl | exact rowOf_length.symm | (simp only [lns] <;> omega)) rfl ?_) | (show VR _ _ _ (⟨_, .call ⟨.builtin .len, _, _⟩, _, _, _, _⟩ :: _) _ _ _; first | refine vr_len_row (gk rfl) rfl rfl (by first | rfl | exact rowOf_length.symm | (simp only [lns] <;> omega)) rfl rfl ?_ | refine vr_len_sub (gk rfl) rfl rfl rfl ?_ | refine vr_len_full (gk rfl) rfl rfl rfl rfl ?_) | (show VR _ _ _ (⟨_, .index _ _ _, _, _, _, _⟩ :: _) _ _ _; first | refine vr_indexStr (m := 0) (gk rfl) rfl rfl rfl (by decide) (by omega) rfl rfl ?_ | refine vr_indexStr (gk rfl) rfl rfl rfl (by omega) (by omega) (by first | exact (Int.toNat_natCast _).symm | rfl) rfl ?_) | (show VR _ _ _ (⟨_, .nilCheck _, _, _, _, _⟩ :: _) _ _ _; first | refine vr_nilCheck_rp (gk rfl) rfl rfl ?_ | refine vr_nilCheck_ptr (gk rfl) rfl rfl ?_ | refine vr_nilCheck_ep (gk rfl) rfl rfl ?_) | (show VR _ _ _ (⟨_, .load _ _, _, _, _, _⟩ :: _) _ _ _; first | refine vr_load_rowO_agg (gk rfl) rfl rfl (by omega) rfl rfl rfl ?_ | refine vr_load_rowO (gk rfl) rfl rfl (by omega) rfl rfl rfl ?_ | refine vr_load_rowS_agg (gk rfl) rfl rfl (by omega) rfl rfl rfl ?_ | refine vr_load_rowS (gk rfl) rfl rfl (by omega) rfl rfl rfl ?_) | (show VR _ _ _ (⟨_, .store _ _ _, _, _, _, _⟩ :: _) _ _ _; first | refine vr_store_rowO (gk rfl) rfl rfl rfl (by omega) rfl rfl rfl ?_ | refine vr_store_rowS (gk rfl) rfl rfl rfl (by omega) rfl rfl rfl ?_) | (show VR _ _ _ (⟨_, .binOp _ _ _ _ _, _, _, _, _⟩ :: _) _ _ _; first | refine x_ariw rfl rfl rfl rfl rfl ?_) | refine x_gknow rfl (by assumption) ?_ | (refine x_gsplit rfl ?_ ?_ <;> intro h <;> have hq := h <;> (try simp only [hqs] at hq)))
        | (show VR _ _ _ [] _ _ _; first | refine vr_nil ?_ | refine vr_nil_t (by kernel_rfl) ?_)
        | (show thenQ _ _ _ _; first | refine q_then_n ?_ | refine q_then_x ?_ | refine q_then_r ?_)
        | (show blockQ _ _ _ _; first | refine q_blk_n ?_ | refine q_blk_r ?_ | refine q_blk_x ?_ | refine q_blk_o rfl ?_)
        | refine vc_seq ?_
        | refine vc_region ?_ | refine vc_region_t ?_
        | (show VC _ (.cond _ _ _) _ _; first | refine vc_cond_t rfl ?_ | refine vc_cond_f rfl ?_ | refine x_know rfl (by assumption) ?_ | (refine x_cond rfl ?_ ?_ <;> intro h <;> have hq := h <;> (try simp only [hqs] at hq)))
        | refine vc_ret ?_ | refine vc_exit ?_ | refine vc_block ?_ | refine vc_skip ?_ | refine vc_label ?_)
      rw [← revK_end (show l.length ≤ 2 * k + 1 by omega)]
      refine retL_of (le_gen0 (l := []) (b := [(9100, .pin 100 (r 100)), (100, .row 3 1 (rowOf encI (revK l k)))]) (fun n => n) ?_ ?_ rfl (by first | rfl | (simp only [wfL, wfs, mpO_namesB, mpO_namesI]; rfl))) (retW isRet_n .nil rfl (by repeat' (first | exact trivial | refine ⟨rfl, ?_⟩)))
      all_goals repeat' (first | exact trivial | refine ⟨⟨_, rfl, ?_⟩, ?_⟩ | exact .c .d | exact .clo | exact .ep | exact .c (.ptr rfl) | exact .rp rfl | exact .c (.mp rfl) | exact .c (.fn rfl) | exact .c (.row rfl rfl) | exact .c .nil | (refine .c (.row rfl ?_); ((try dsimp only); first | rfl | omega | (simp only [lns] <;> omega)); done) | (refine .c (cw_eq ?_); first | rfl | (congr 1; omega); done) | exact .boxD rfl rfl | exact .pin rfl | exact .mapO (fun _ => rfl) rfl | (refine .mapO (fun _ => rfl) ?_; ((try dsimp only); first | rfl | omega | (simp only [lns] <;> omega)); done) | exact .rowD rfl rowOf_isD | exact .rowD (rowOf_append.symm) rowOf_isD | exact .rowD (rowOf_set rfl) rowOf_isD | (refine .rowD ?_ rowOf_isD; rw [rowOf_append]; rfl) | (refine .rowD ?_ rowOf_isD; simp only [rowOf_append, List.append_assoc]; rfl) | refine .agg ?_ | refine .fncC ?_ | refine .box ?_ | exact .nil | refine .cons ?_ ?_ | exact .d | exact .ptr rfl | exact .row rfl rfl | (refine .row rfl ?_; ((try dsimp only); first | rfl | omega | (simp only [lns] <;> omega)); done))
end Go.Proofs


