/-
  What functions of the given program hand back, by walks over its code, and plain laws on that. No condition.
-/
import Derived.Test.YtcheghbghehifaaSxP23e
namespace Go.Proofs
open Go Go.Sx
set_option linter.unusedSimpArgs false
set_option linter.unusedVariables false
attribute [local irreducible] VR VC thenQ blockQ

theorem checkNb_ok {l : List Nb} (h : checkNb l = 0) : l.length ≤ 32 ∧ ∀ i, i < l.length → nbErr l i = 0 := by
  unfold checkNb at h
  split at h
  · cases h
  · refine ⟨by omega, fun i hi => ?_⟩
    unfold firstErr at h
    cases hf : (List.range l.length).find? (fun i => nbErr l i != 0) with
    | none =>
      have := List.find?_eq_none.1 hf i (List.mem_range.2 hi)
      simpa using this
    | some j =>
      rw [hf] at h
      have := List.find?_some hf
      simp only [bne_iff_ne, ne_eq] at this
      exact absurd h this
theorem nbErr_ok {l : List Nb} {i : Nat} (h : nbErr l i = 0) : heardB (l.getD i default).node (l.getD i default).epoch (l.getD i default).rank (l.getD i default).slot = true ∧ (0 ≤ (l.getD i default).att ∧ (l.getD i default).att ≤ 255) ∧
    (0 ≤ (l.getD i default).ack ∧ (l.getD i default).ack ≤ (l.getD i default).att) := by
  unfold nbErr at h
  simp only at h
  split at h
  · rename_i hh
    simp only [Bool.and_eq_true, inR_t] at hh
    exact ⟨hh.1.1, hh.1.2, hh.2⟩
  · cases h

def mkLk (l : List Nb) (i : Nat) : Lk := ⟨l.getD i default, i, costC (l.getD i default).att (l.getD i default).ack⟩
def okLk (r : Rk) (x : Lk) : Bool := decide (x.n.node ≠ r.node) && feasB r x.n.epoch x.n.rank && decide (x.path < 65535)
def links (l : List Nb) (r : Rk) : Nat → List Lk
  | 0 => []
  | k + 1 => if okLk r (mkLk l k) = true then links l r k ++ [mkLk l k] else links l r k
theorem links_len (l : List Nb) (r : Rk) : ∀ k, (links l r k).length ≤ k
  | 0 => Nat.le_refl _
  | k + 1 => by
    have := links_len l r k
    unfold links
    split
    · simp; omega
    · omega
theorem better_fnc {σ : St} {L : List Nat} : AR Try.prog σ L (.fnc 65 []) (.clo betterφ) :=
  .fnc .nil (enters_of Try.func65 (by kernel_rfl) rfl) (by rintro _ _ ⟨a, b, rfl, rfl⟩; exact ⟨rfl, better_spec a b⟩)
def bestLk (l : List Nb) (r : Rk) : Lk := minTo (links l r l.length) ((links l r l.length).length - 1)
def hasLk (l : List Nb) (r : Rk) : Bool := decide ((links l r l.length).length ≠ 0)

theorem ret_agg_b {P : Program} {σ : St} {t u nm : Nat} {T : TypeId} {ti : TyI} {cs cs' : List C} {x x' : D} {e : Exit} (he : e = .normal ∨ e = .ret) [ht : TyOK P T ti] (hx : σ (.s t) = some (.v (.c (.ptr nm 0)))) (hb : σ (.b nm) = some (.k (.box cs'))) (hagg : ti.isAgg = true)
    (hl : (cs'.take ti.size).length = ti.size) (hu : σ (.s u) = some (.v (AD x'))) (h : cs = cs'.take ti.size) (h2 : x = x') : retQ P [.cell t T, .tmp u] (.tup [.agg cs, AD x]) [] e σ :=
  ret_agg_d he hx hb hagg hl hu h h2

theorem best_spec (l : List Nb) (r : Rk) (hc : checkNb l = 0) : FnS Try.prog 39 [AD (nbs l), rkA r] [] (.tup [lkA (bestLk l r), AB (hasLk l r)]) [] := by
  obtain ⟨hlen, hall⟩ := checkNb_ok hc
  refine FnS.of_body (enters_of Try.func39 (by kernel_rfl) rfl) Try.func39 rfl Try.ntmps39 Try.results39 rfl rfl rfl rfl fun E hS => ?_
  repeat' (first
    | (show VR _ _ _ (_ :: _) _ _ _; first | refine x_op rfl (by first | exact True.intro | omega) ?_ | (show VR _ _ _ (⟨_, .indexAddr _ _ _, _, _, _, _⟩ :: _) _ _ _; first | refine vr_index_rd (gk rfl) rfl rfl rfl rfl rfl (by omega) rfl ?_ | refine vr_index_rdP (gk rfl) rfl rfl rfl rfl rfl (by omega) rfl ?_ | refine vr_index_rdN (gk rfl) rfl rfl rfl rfl (by omega) rfl ?_ | refine vr_index_row (gk rfl) rfl rfl rfl rfl rfl rfl (by omega) (by omega) rfl ?_ | refine vr_index_rowN (gk rfl) rfl rfl rfl rfl rfl (by omega) (by first | rfl | exact rowOf_length.symm) rfl ?_) | (show VR _ _ _ (⟨_, .call ⟨.builtin .len, _, _⟩, _, _, _, _⟩ :: _) _ _ _; first | refine vr_len_row (gk rfl) rfl rfl (by first | rfl | exact rowOf_length.symm) rfl rfl ?_) | (show VR _ _ _ (⟨_, .call ⟨.builtin .append, _, _⟩, _, _, _, _⟩ :: _) _ _ _; first | refine vr_append_nils0 (gk rfl) rfl rfl (by first | exact .row rfl (by first | rfl | exact rowOf_length.symm) | exact .rd | exact .nils) rfl rfl rfl (by (try dsimp only); omega) rfl rfl ?_ | refine vr_append0 (gk rfl) rfl rfl rfl (by first | rfl | exact rowOf_length.symm) (by first | exact .row rfl (by first | rfl | exact rowOf_length.symm) | exact .rd | exact .nils) rfl rfl rfl (by (try dsimp only); omega) rfl rfl ?_ | refine vr_append1 (gk rfl) rfl rfl rfl (by first | rfl | exact rowOf_length.symm) (by first | exact .row rfl (by first | rfl | exact rowOf_length.symm) | exact .rd | exact .nils) rfl rfl rfl (by (try dsimp only); omega) rfl rfl ?_) | (show VR _ _ _ (⟨_, .binOp _ _ _ _ _, _, _, _, _⟩ :: _) _ _ _; first | refine x_ariw rfl rfl rfl rfl rfl ?_) | (show VR _ _ _ (⟨_, .pick _ _ _, _, _, _, _⟩ :: _) _ _ _; first | refine vr_pick_true (gk rfl) rfl (by assumption) rfl rfl ?_ | refine vr_pick_false (gk rfl) rfl (by assumption) rfl rfl ?_) | refine x_gknow rfl (by assumption) ?_ | (refine x_gsplit rfl ?_ ?_ <;> intro h <;> have hq := h <;> (try simp only [decide_eq_true_eq, decide_eq_false_iff_not, Int.not_lt, Int.not_le, ne_eq, Decidable.not_not, Bool.not_eq_true', Bool.not_eq_false'] at hq)))
    | (show VR _ _ _ [] _ _ _; first | refine vr_nil ?_ | refine vr_nil_t (by kernel_rfl) ?_)
    | (show thenQ _ _ _ _; first | refine q_then_n ?_ | refine q_then_x ?_ | refine q_then_r ?_)
    | (show blockQ _ _ _ _; first | refine q_blk_n ?_ | refine q_blk_r ?_ | refine q_blk_x ?_ | refine q_blk_o rfl ?_)
    | (show VC _ (.seq (.region _ _ _) _) _ _; refine vc_seq ?_)
    | (show VC _ (.seq (.cond _ _ _) _) _ _; refine vc_seq ?_)
    | (show VC _ (.seq .skip _) _ _; refine vc_seq ?_)
    | (show VC _ (.seq (.label _) _) _ _; refine vc_seq ?_)
    | (show VC _ (.seq (.seq (.region _ _ _) (.cond _ _ _)) _) _ _; refine vc_seq ?_)
    | refine vc_region ?_ | refine vc_region_t ?_
    | (show VC _ (.cond _ _ _) _ _; first | refine vc_cond_t rfl ?_ | refine vc_cond_f rfl ?_ | refine x_know rfl (by assumption) ?_ | (refine x_cond rfl ?_ ?_ <;> intro h <;> have hq := h <;> (try simp only [decide_eq_true_eq, decide_eq_false_iff_not, Int.not_lt, Int.not_le, ne_eq, Decidable.not_not, Bool.not_eq_true', Bool.not_eq_false'] at hq)))
    | refine vc_ret ?_ | refine vc_exit ?_ | refine vc_block ?_ | refine vc_skip ?_ | refine vc_label ?_)
  refine vc_cut (stOf [(3, .c (.ptr 3 0)), (4, .c (.ptr 4 0)), (5, AB false), (6, AD (lks (links l r l.length)))] [(3, .box r.cs), (4, .box zero8)]) ?_ ?_
  · repeat' (first
      | (show VR _ _ _ (_ :: _) _ _ _; first | refine x_op rfl (by first | exact True.intro | omega) ?_ | (show VR _ _ _ (⟨_, .indexAddr _ _ _, _, _, _, _⟩ :: _) _ _ _; first | refine vr_index_rd (gk rfl) rfl rfl rfl rfl rfl (by omega) rfl ?_ | refine vr_index_rdP (gk rfl) rfl rfl rfl rfl rfl (by omega) rfl ?_ | refine vr_index_rdN (gk rfl) rfl rfl rfl rfl (by omega) rfl ?_ | refine vr_index_row (gk rfl) rfl rfl rfl rfl rfl rfl (by omega) (by omega) rfl ?_ | refine vr_index_rowN (gk rfl) rfl rfl rfl rfl rfl (by omega) (by first | rfl | exact rowOf_length.symm) rfl ?_) | (show VR _ _ _ (⟨_, .call ⟨.builtin .len, _, _⟩, _, _, _, _⟩ :: _) _ _ _; first | refine vr_len_row (gk rfl) rfl rfl (by first | rfl | exact rowOf_length.symm) rfl rfl ?_) | (show VR _ _ _ (⟨_, .call ⟨.builtin .append, _, _⟩, _, _, _, _⟩ :: _) _ _ _; first | refine vr_append_nils0 (gk rfl) rfl rfl (by first | exact .row rfl (by first | rfl | exact rowOf_length.symm) | exact .rd | exact .nils) rfl rfl rfl (by (try dsimp only); omega) rfl rfl ?_ | refine vr_append0 (gk rfl) rfl rfl rfl (by first | rfl | exact rowOf_length.symm) (by first | exact .row rfl (by first | rfl | exact rowOf_length.symm) | exact .rd | exact .nils) rfl rfl rfl (by (try dsimp only); omega) rfl rfl ?_ | refine vr_append1 (gk rfl) rfl rfl rfl (by first | rfl | exact rowOf_length.symm) (by first | exact .row rfl (by first | rfl | exact rowOf_length.symm) | exact .rd | exact .nils) rfl rfl rfl (by (try dsimp only); omega) rfl rfl ?_) | (show VR _ _ _ (⟨_, .binOp _ _ _ _ _, _, _, _, _⟩ :: _) _ _ _; first | refine x_ariw rfl rfl rfl rfl rfl ?_) | (show VR _ _ _ (⟨_, .pick _ _ _, _, _, _, _⟩ :: _) _ _ _; first | refine vr_pick_true (gk rfl) rfl (by assumption) rfl rfl ?_ | refine vr_pick_false (gk rfl) rfl (by assumption) rfl rfl ?_) | refine x_gknow rfl (by assumption) ?_ | (refine x_gsplit rfl ?_ ?_ <;> intro h <;> have hq := h <;> (try simp only [decide_eq_true_eq, decide_eq_false_iff_not, Int.not_lt, Int.not_le, ne_eq, Decidable.not_not, Bool.not_eq_true', Bool.not_eq_false'] at hq)))
      | (show VR _ _ _ [] _ _ _; first | refine vr_nil ?_ | refine vr_nil_t (by kernel_rfl) ?_)
      | (show thenQ _ _ _ _; first | refine q_then_n ?_ | refine q_then_x ?_ | refine q_then_r ?_)
      | (show blockQ _ _ _ _; first | refine q_blk_n ?_ | refine q_blk_r ?_ | refine q_blk_x ?_ | refine q_blk_o rfl ?_)
      | refine vc_seq ?_
      | refine vc_region ?_ | refine vc_region_t ?_
      | (show VC _ (.cond _ _ _) _ _; first | refine vc_cond_t rfl ?_ | refine vc_cond_f rfl ?_ | refine x_know rfl (by assumption) ?_ | (refine x_cond rfl ?_ ?_ <;> intro h <;> have hq := h <;> (try simp only [decide_eq_true_eq, decide_eq_false_iff_not, Int.not_lt, Int.not_le, ne_eq, Decidable.not_not, Bool.not_eq_true', Bool.not_eq_false'] at hq)))
      | refine vc_ret ?_ | refine vc_exit ?_ | refine vc_block ?_ | refine vc_skip ?_ | refine vc_label ?_)
    refine vc_loopI (ι := Nat × List Lk) (fun p => stOf [(3, .c (.ptr 3 0)), (4, .c (.ptr 4 0)), (5, AB false), (6, .c (.row 44 p.2.length)), (10, AD (nbs l)), (11, AI l.length), (12, AI p.1)] [(3, .box r.cs), (4, .box zero8), (44, .row 61 8 (rowOf Lk.enc p.2))])
      (fun p => p.1 ≤ l.length ∧ p.2 = links l r p.1 ∧ p.2.length ≤ p.1) (fun p => l.length - p.1) (0, []) ⟨Nat.zero_le _, rfl, Nat.zero_le _⟩ ?_ ?_
    · exact (le_nil (t := 6) (nm := 44) (T := 61) (sz := 8) rfl rfl).trans (le_of ⟨rfl, rfl, rfl, rfl, rfl, rfl, rfl, trivial⟩ ⟨rfl, rfl, rfl, trivial⟩ rfl)
    · rintro ⟨k, ls⟩ ⟨h1, h2, h3⟩
      dsimp only at h1 h2 h3 ⊢
      have hatt : k < l.length → (l.getD k default).att ≤ 255 := fun h => (nbErr_ok (hall k h)).2.1.2
      have hrl : (rowOf Lk.enc ls).length = ls.length := rowOf_length
      repeat' (first
        | (show VR _ _ _ (_ :: _) _ _ _; first | refine x_op rfl (by first | exact True.intro | omega) ?_ | (show VR _ _ _ (⟨_, .call ⟨.value _, _, _⟩, _, _, _, _⟩ :: _) _ _ _; first | refine vr_calld (cost_spec _ _ (by omega)) (gk rfl) rfl rfl rfl rfl rfl rfl ?_ | refine vr_calld (feas_spec r _ _) (gk rfl) rfl rfl rfl rfl rfl rfl ?_ | refine vr_calld (path_spec (mkLk l k)) (gk rfl) rfl rfl rfl rfl rfl rfl ?_) | (show VR _ _ _ (⟨_, .indexAddr _ _ _, _, _, _, _⟩ :: _) _ _ _; first | refine vr_index_rd (gk rfl) rfl rfl rfl rfl rfl (by omega) rfl ?_ | refine vr_index_rdP (gk rfl) rfl rfl rfl rfl rfl (by omega) rfl ?_ | refine vr_index_rdN (gk rfl) rfl rfl rfl rfl (by omega) rfl ?_ | refine vr_index_row (gk rfl) rfl rfl rfl rfl rfl rfl (by omega) (by omega) rfl ?_ | refine vr_index_rowN (gk rfl) rfl rfl rfl rfl rfl (by omega) (by first | rfl | exact rowOf_length.symm) rfl ?_) | (show VR _ _ _ (⟨_, .call ⟨.builtin .len, _, _⟩, _, _, _, _⟩ :: _) _ _ _; first | refine vr_len_row (gk rfl) rfl rfl (by first | rfl | exact rowOf_length.symm) rfl rfl ?_) | (show VR _ _ _ (⟨_, .call ⟨.builtin .append, _, _⟩, _, _, _, _⟩ :: _) _ _ _; first | refine vr_append_nils0 (gk rfl) rfl rfl (by first | exact .row rfl (by first | rfl | exact rowOf_length.symm) | exact .rd | exact .nils) rfl rfl rfl (by (try dsimp only); omega) rfl rfl ?_ | refine vr_append0 (gk rfl) rfl rfl rfl (by first | rfl | exact rowOf_length.symm) (by first | exact .row rfl (by first | rfl | exact rowOf_length.symm) | exact .rd | exact .nils) rfl rfl rfl (by (try dsimp only); omega) rfl rfl ?_ | refine vr_append1 (gk rfl) rfl rfl rfl (by first | rfl | exact rowOf_length.symm) (by first | exact .row rfl (by first | rfl | exact rowOf_length.symm) | exact .rd | exact .nils) rfl rfl rfl (by (try dsimp only); omega) rfl rfl ?_) | (show VR _ _ _ (⟨_, .binOp _ _ _ _ _, _, _, _, _⟩ :: _) _ _ _; first | refine x_ariw rfl rfl rfl rfl rfl ?_) | (show VR _ _ _ (⟨_, .pick _ _ _, _, _, _, _⟩ :: _) _ _ _; first | refine vr_pick_true (gk rfl) rfl (by assumption) rfl rfl ?_ | refine vr_pick_false (gk rfl) rfl (by assumption) rfl rfl ?_) | refine x_gknow rfl (by assumption) ?_ | (refine x_gsplit rfl ?_ ?_ <;> intro h <;> have hq := h <;> (try simp only [decide_eq_true_eq, decide_eq_false_iff_not, Int.not_lt, Int.not_le, ne_eq, Decidable.not_not, Bool.not_eq_true', Bool.not_eq_false'] at hq)))
        | (show VR _ _ _ [] _ _ _; first | refine vr_nil ?_ | refine vr_nil_t (by kernel_rfl) ?_)
        | (show thenQ _ _ _ _; first | refine q_then_n ?_ | refine q_then_x ?_ | refine q_then_r ?_)
        | (show blockQ _ _ _ _; first | refine q_blk_n ?_ | refine q_blk_r ?_ | refine q_blk_x ?_ | refine q_blk_o rfl ?_)
        | refine vc_seq ?_
        | refine vc_region ?_ | refine vc_region_t ?_
        | (show VC _ (.cond _ _ _) _ _; first | refine vc_cond_t rfl ?_ | refine vc_cond_f rfl ?_ | refine x_know rfl (by assumption) ?_ | (refine x_cond rfl ?_ ?_ <;> intro h <;> have hq := h <;> (try simp only [decide_eq_true_eq, decide_eq_false_iff_not, Int.not_lt, Int.not_le, ne_eq, Decidable.not_not, Bool.not_eq_true', Bool.not_eq_false'] at hq)))
        | refine vc_ret ?_ | refine vc_exit ?_ | refine vc_block ?_ | refine vc_skip ?_ | refine vc_label ?_)
      · refine ⟨(k + 1, ls ++ [mkLk l k]), ⟨by dsimp only; omega, ?_, by simp; omega⟩, by dsimp only; omega, ?_⟩
        · rw [links, if_pos, ← h2]
          simp_all [okLk, mkLk]
        · refine le_gen (fun n => if n = 44 then 100044 else n) [] hS ⟨⟨_, rfl, .c (.ptr rfl)⟩, ⟨_, rfl, .c (.ptr rfl)⟩, ⟨_, rfl, .c .d⟩, ⟨_, rfl, .c (.row rfl (by simp))⟩, ⟨_, rfl, .c .d⟩, ⟨_, rfl, .c .d⟩, ⟨_, rfl, .c .d⟩, trivial⟩
            ⟨⟨_, rfl, .boxD rfl rfl⟩, ⟨_, rfl, .boxD rfl rfl⟩, ⟨_, rfl, .rowD (by rw [rowOf_append]; rfl) rowOf_isD⟩, trivial⟩ rfl (by simp only [wfL, List.all_cons, List.all_nil, rowOf_blk]; rfl)
      all_goals try (refine ⟨(k + 1, ls), ⟨by dsimp only; omega, ?_, by dsimp only; omega⟩, by dsimp only; omega, le_gen (fun n => n) [] hS ⟨⟨_, rfl, .c (.ptr rfl)⟩, ⟨_, rfl, .c (.ptr rfl)⟩, ⟨_, rfl, .c .d⟩, ⟨_, rfl, .c (.row rfl rfl)⟩, ⟨_, rfl, .c .d⟩, ⟨_, rfl, .c .d⟩, ⟨_, rfl, .c .d⟩, trivial⟩
            ⟨⟨_, rfl, .boxD rfl rfl⟩, ⟨_, rfl, .boxD rfl rfl⟩, ⟨_, rfl, .rowD rfl rowOf_isD⟩, trivial⟩ rfl (by simp only [wfL, List.all_cons, List.all_nil, rowOf_blk]; rfl)⟩
                     rw [links, if_neg, ← h2]
                     simp_all [okLk, mkLk])
      · have e : k = l.length := by omega
        subst e
        subst h2
        exact le_gen (fun n => n) [44] hS ⟨⟨_, rfl, .c (.ptr rfl)⟩, ⟨_, rfl, .c (.ptr rfl)⟩, ⟨_, rfl, .c .d⟩, ⟨_, rfl, .c (.frzOf (by simp) rfl rfl (fun _ => rfl))⟩, trivial⟩ ⟨⟨_, rfl, .boxD rfl rfl⟩, ⟨_, rfl, .boxD rfl rfl⟩, trivial⟩ rfl rfl
  · have hll := links_len l r l.length
    have hz : decide (((links l r l.length).length : Int) = 0) = false → 0 < (links l r l.length).length := fun h => by
      have := of_decide_eq_false h
      omega
    repeat' (first
      | (show VR _ _ _ (_ :: _) _ _ _; first | refine x_op rfl (by first | exact True.intro | omega) ?_ | (show VR _ _ _ (⟨_, .call ⟨.value _, _, _⟩, _, _, _, _⟩ :: _) _ _ _; first | refine vr_calld (min_spec (links l r l.length) (hz (by assumption)) (by omega)) (gk rfl) rfl rfl rfl rfl rfl rfl ?_ | refine vr_call [] (min_spec (links l r l.length) (hz (by assumption)) (by omega)) (gk rfl) rfl (by (repeat' (first | exact .nil | refine .cons ?_ ?_ | exact .of0 (.c .d) | exact .of0 .ep | exact .clo | exact (better_fnc) | exact .of0 (.c .nil) | refine .of0 (.agg ?_) | exact .d | exact .nil | exact .of0 (.c (cr_row (by decide) rfl rfl (by repeat' (first | exact trivial | refine ⟨?_, ?_⟩ | rfl)))))); done) rfl rfl rfl rfl rfl ?_) | (show VR _ _ _ (⟨_, .indexAddr _ _ _, _, _, _, _⟩ :: _) _ _ _; first | refine vr_index_rd (gk rfl) rfl rfl rfl rfl rfl (by omega) rfl ?_ | refine vr_index_rdP (gk rfl) rfl rfl rfl rfl rfl (by omega) rfl ?_ | refine vr_index_rdN (gk rfl) rfl rfl rfl rfl (by omega) rfl ?_ | refine vr_index_row (gk rfl) rfl rfl rfl rfl rfl rfl (by omega) (by omega) rfl ?_ | refine vr_index_rowN (gk rfl) rfl rfl rfl rfl rfl (by omega) (by first | rfl | exact rowOf_length.symm) rfl ?_) | (show VR _ _ _ (⟨_, .call ⟨.builtin .len, _, _⟩, _, _, _, _⟩ :: _) _ _ _; first | refine vr_len_row (gk rfl) rfl rfl (by first | rfl | exact rowOf_length.symm) rfl rfl ?_) | (show VR _ _ _ (⟨_, .call ⟨.builtin .append, _, _⟩, _, _, _, _⟩ :: _) _ _ _; first | refine vr_append_nils0 (gk rfl) rfl rfl (by first | exact .row rfl (by first | rfl | exact rowOf_length.symm) | exact .rd | exact .nils) rfl rfl rfl (by (try dsimp only); omega) rfl rfl ?_ | refine vr_append0 (gk rfl) rfl rfl rfl (by first | rfl | exact rowOf_length.symm) (by first | exact .row rfl (by first | rfl | exact rowOf_length.symm) | exact .rd | exact .nils) rfl rfl rfl (by (try dsimp only); omega) rfl rfl ?_ | refine vr_append1 (gk rfl) rfl rfl rfl (by first | rfl | exact rowOf_length.symm) (by first | exact .row rfl (by first | rfl | exact rowOf_length.symm) | exact .rd | exact .nils) rfl rfl rfl (by (try dsimp only); omega) rfl rfl ?_) | (show VR _ _ _ (⟨_, .binOp _ _ _ _ _, _, _, _, _⟩ :: _) _ _ _; first | refine x_ariw rfl rfl rfl rfl rfl ?_) | (show VR _ _ _ (⟨_, .pick _ _ _, _, _, _, _⟩ :: _) _ _ _; first | refine vr_pick_true (gk rfl) rfl (by assumption) rfl rfl ?_ | refine vr_pick_false (gk rfl) rfl (by assumption) rfl rfl ?_) | refine x_gknow rfl (by assumption) ?_ | (refine x_gsplit rfl ?_ ?_ <;> intro h <;> have hq := h <;> (try simp only [decide_eq_true_eq, decide_eq_false_iff_not, Int.not_lt, Int.not_le, ne_eq, Decidable.not_not, Bool.not_eq_true', Bool.not_eq_false'] at hq)))
      | (show VR _ _ _ [] _ _ _; first | refine vr_nil ?_ | refine vr_nil_t (by kernel_rfl) ?_)
      | (show thenQ _ _ _ _; first | refine q_then_n ?_ | refine q_then_x ?_ | refine q_then_r ?_)
      | (show blockQ _ _ _ _; first | refine q_blk_n ?_ | refine q_blk_r ?_ | refine q_blk_x ?_ | refine q_blk_o rfl ?_)
      | refine vc_seq ?_
      | refine vc_region ?_ | refine vc_region_t ?_
      | (show VC _ (.cond _ _ _) _ _; first | refine vc_cond_t rfl ?_ | refine vc_cond_f rfl ?_ | refine x_know rfl (by assumption) ?_ | (refine x_cond rfl ?_ ?_ <;> intro h <;> have hq := h <;> (try simp only [decide_eq_true_eq, decide_eq_false_iff_not, Int.not_lt, Int.not_le, ne_eq, Decidable.not_not, Bool.not_eq_true', Bool.not_eq_false'] at hq)))
      | refine vc_ret ?_ | refine vc_exit ?_ | refine vc_block ?_ | refine vc_skip ?_ | refine vc_label ?_)
    · refine ret_agg_b isRet_r rfl rfl rfl rfl rfl ?_ ?_
      · have : links l r l.length = [] := List.eq_nil_of_length_eq_zero (by omega)
        rw [bestLk, this]; rfl
      · rw [hasLk, decide_eq_false (by omega)]
    · refine ret_agg_b isRet_r rfl rfl rfl rfl rfl rfl ?_
      rw [hasLk, decide_eq_true (by omega)]
end Go.Proofs

