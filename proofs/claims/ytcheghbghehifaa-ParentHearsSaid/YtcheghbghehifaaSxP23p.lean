/-
  What functions of the given program hand back, by walks over its code, and plain laws on that. No condition.
-/
import Derived.Test.YtcheghbghehifaaSxP23o
namespace Go.Proofs
open Go Go.Sx

/-! ## Selecting: the state stays right, and selecting again changes nothing -/

theorem rk_lose {r : Rk} (h : rkErr r = 0) : rkErr (lose' r) = 0 := by
  unfold lose'
  split
  · rename_i hn
    obtain ⟨h1, h2, h3, h4⟩ := rk_ok h
    refine rk_of h1 h2 ?_ ?_
    · simp only [leastB] at h3 ⊢; exact h3
    · simp only [rightB] at h4 ⊢
      rw [if_neg hn.2] at h4 ⊢
      split at h4
      · simp only [Bool.and_eq_true, decide_eq_true_eq] at h4 ⊢
        simp only [if_true, decide_true, Bool.true_and]
        exact h4.2
      · simp only [Bool.and_eq_true, decide_eq_true_eq] at h4
        simp only [if_true, decide_true, Bool.true_and, Bool.or_eq_true, decide_eq_true_eq]
        left; omega
  · exact h

theorem rk_range {r : Rk} (h : rkErr r = 0) : (0 ≤ r.node ∧ r.node ≤ 31) ∧ 0 ≤ r.epoch ∧ r.epoch ≤ 65535 := by
  obtain ⟨h1, h2, _, _⟩ := rk_ok h
  simp only [nodeB, inR_t] at h1 h2
  exact ⟨h1, h2⟩

/-- What 'adopt' needs to succeed. -/
structure CanAdopt (r : Rk) (fr e k c : Int) : Prop where
  right : rkErr r = 0
  notRoot : r.node ≠ 0
  fr : 0 ≤ fr ∧ fr ≤ 31 ∧ fr ≠ r.node
  adv : (1 ≤ e ∧ e ≤ 65535) ∧ 0 ≤ k ∧ k ≤ 65534
  cost : 1 ≤ c ∧ c ≤ 1023
  feas : r.epoch < e ∨ (e = r.epoch ∧ k < r.least)
  path : k + c < 65535

theorem adopt_yes {r : Rk} {fr e k c : Int} (h : CanAdopt r fr e k c) : adopt' r fr e k c = ({ begin' r e with parent := fr, heard := k, rank := k + c }, 0) := by
  have ha : advB e k = true := by rw [advB_t]; exact h.adv
  have hn : nodeB fr = true := by simp only [nodeB, inR_t]; exact ⟨h.fr.1, h.fr.2.1⟩
  have hc : inR c 1 1023 = true := by rw [inR_t]; exact h.cost
  have hf : feasB r e k = true := by
    have := h.feas
    simp only [feasB, h.right, ha, Bool.and_eq_true, Bool.or_eq_true, decide_eq_true_eq, ne_eq]
    exact ⟨⟨⟨trivial, h.notRoot⟩, trivial⟩, this⟩
  unfold adopt'
  rw [if_neg (by simp [h.right]), if_neg (by simp [ha, hn, hc, h.fr.2.2]), if_neg (by simp [hf]), if_neg (by have := h.path; omega)]
theorem adopt_or (r : Rk) (fr e k c : Int) : CanAdopt r fr e k c ∨ (adopt' r fr e k c).2 ≠ 0 := by
  unfold adopt'
  split
  · right; decide
  · rename_i h1
    split
    · right; decide
    · rename_i h2
      split
      · right; decide
      · rename_i h3
        split
        · right; decide
        · rename_i h4
          left
          simp only [ne_eq, Decidable.not_not] at h1
          simp only [Bool.not_eq_false, Bool.and_eq_true, decide_eq_true_eq, advB_t, inR_t, nodeB] at h2
          simp only [Bool.not_eq_false, feasB, Bool.and_eq_true, decide_eq_true_eq, Bool.or_eq_true] at h3
          exact ⟨h1, h3.1.1.2, ⟨h2.1.1.1.1, h2.1.1.1.2, h2.1.1.2⟩, h2.1.2, h2.2, h3.2, by omega⟩

def adopted (r : Rk) (fr e k c : Int) : Rk := { begin' r e with parent := fr, heard := k, rank := k + c }
theorem begin_le {r : Rk} {e : Int} (h : r.epoch ≤ e) : (begin' r e).epoch = e := by
  unfold begin'; split
  · rfl
  · omega
theorem rk_adopted {r : Rk} {fr e k c : Int} (h : CanAdopt r fr e k c) : rkErr (adopted r fr e k c) = 0 := by
  obtain ⟨h1, h2, h3, h4⟩ := rk_ok h.right
  have hfe := h.feas
  have ha := h.adv
  have hc := h.cost
  have hp := h.path
  have hfr := h.fr
  have hnr := h.notRoot
  have hep : (begin' r e).epoch = e := begin_le (by omega)
  have hnode : (begin' r e).node = r.node := by unfold begin'; split <;> rfl
  have hls : k < (begin' r e).least ∧ inR (begin' r e).least 1 65535 = true := by
    unfold begin'
    split
    · exact ⟨by dsimp only; omega, by dsimp only; decide⟩
    · simp only [leastB, Bool.or_eq_true, Bool.and_eq_true, decide_eq_true_eq] at h3
      have : inR r.least 1 65535 = true := h3.resolve_right (fun q => hnr q.1)
      exact ⟨by omega, this⟩
  refine rk_of ?_ ?_ ?_ ?_
  · show nodeB (begin' r e).node = true; rw [hnode]; exact h1
  · show inR (begin' r e).epoch 0 65535 = true; rw [hep, inR_t]; omega
  · simp only [leastB, adopted, hls.2, Bool.true_or]
  · simp only [rightB, adopted, hnode, hep]
    rw [if_neg hnr, if_neg (by omega)]
    simp only [Bool.and_eq_true, decide_eq_true_eq, nodeB, inR_t, ne_eq]
    have := hls.1
    omega

/-- Adopting the same again changes nothing. -/
theorem can_again {r : Rk} {fr e k c : Int} (h : CanAdopt r fr e k c) : CanAdopt (adopted r fr e k c) fr e k c := by
  have hfe := h.feas
  have hnode : (begin' r e).node = r.node := by unfold begin'; split <;> rfl
  have hep : (begin' r e).epoch = e := begin_le (by omega)
  refine ⟨rk_adopted h, ?_, ?_, h.adv, h.cost, .inr ⟨hep.symm, ?_⟩, h.path⟩
  · show (begin' r e).node ≠ 0; rw [hnode]; exact h.notRoot
  · refine ⟨h.fr.1, h.fr.2.1, ?_⟩
    show fr ≠ (begin' r e).node; rw [hnode]; exact h.fr.2.2
  · show k < (begin' r e).least
    have ha := h.adv
    unfold begin'
    split
    · dsimp only; omega
    · omega
theorem adopted_again {r : Rk} {fr e k c : Int} (h : CanAdopt r fr e k c) : adopted (adopted r fr e k c) fr e k c = adopted r fr e k c := by
  have hfe := h.feas
  have hep : (begin' r e).epoch = e := begin_le (by omega)
  have : begin' (adopted r fr e k c) e = adopted r fr e k c := by
    unfold begin'
    rw [if_neg]
    show ¬ (begin' r e).epoch < e
    omega
  calc adopted (adopted r fr e k c) fr e k c = { begin' (adopted r fr e k c) e with parent := fr, heard := k, rank := k + c } := rfl
    _ = { adopted r fr e k c with parent := fr, heard := k, rank := k + c } := by rw [this]
    _ = adopted r fr e k c := rfl

/-- What 'update' hands back, of a right state with a parent and an entry in range. -/
theorem update_cases {r : Rk} {e k c : Int} (hr : rkErr r = 0) (hp : r.parent ≠ -1) (ha : advB e k = true) (hc : inR c 1 1023 = true) : (update' r e k c).2 = 0 ∧
    ((e < r.epoch ∧ (update' r e k c).1 = r) ∨ (r.epoch ≤ e ∧ CanAdopt r r.parent e k c ∧ (update' r e k c).1 = adopted r r.parent e k c) ∨ (r.epoch ≤ e ∧ (update' r e k c).1 = lose' (begin' r e))) := by
  unfold update'
  rw [if_neg (by simp [hr]), if_neg (by simp [ha, hc]), if_neg hp]
  split
  · exact ⟨rfl, .inl ⟨‹_›, rfl⟩⟩
  · rename_i he
    rcases adopt_or r r.parent e k c with h | h
    · rw [adopt_yes h]
      exact ⟨rfl, .inr (.inl ⟨by omega, h, rfl⟩)⟩
    · rw [if_neg h]
      exact ⟨rfl, .inr (.inr ⟨by omega, rfl⟩)⟩
theorem lose_parent {r : Rk} (h : rkErr r = 0) : (lose' r).parent = -1 := by
  unfold lose'
  split
  · rfl
  · rename_i hn
    obtain ⟨_, _, _, h4⟩ := rk_ok h
    have h0 : r.node = 0 := by
      by_cases hz : r.node = 0
      · exact hz
      · exact absurd ⟨h, hz⟩ hn
    unfold rightB at h4
    rw [if_pos h0] at h4
    simp only [Bool.and_eq_true, decide_eq_true_eq] at h4
    exact h4.1.1.1.2

theorem cost_range {l : List Nb} (h : checkNb l = 0) {k : Nat} (hk : k < l.length) : inR (costC (l.getD k default).att (l.getD k default).ack) 1 1023 = true := by
  have ⟨_, h1, h2⟩ := nbErr_ok ((checkNb_ok h).2 k hk)
  generalize (l.getD k default).att = a at *
  generalize (l.getD k default).ack = b at *
  rw [inR_t]
  unfold costC
  split
  · omega
  · split
    · omega
    · split
      · omega
      · have hb : 0 < b := by omega
        have h3 : 1 ≤ (128 * a + b - 1) / b := by
          rw [Int.le_ediv_iff_mul_le hb]; omega
        omega
theorem adv_range {l : List Nb} (h : checkNb l = 0) {k : Nat} (hk : k < l.length) : advB (l.getD k default).epoch (l.getD k default).rank = true ∧ 0 ≤ (l.getD k default).node ∧ (l.getD k default).node ≤ 31 := by
  have ⟨h0, _, _⟩ := nbErr_ok ((checkNb_ok h).2 k hk)
  simp only [heardB, Bool.and_eq_true, inR_t] at h0
  rw [advB_t]
  exact ⟨⟨h0.1.1.2, h0.1.2⟩, h0.1.1.1⟩

theorem find_at {l : List Nb} (h : checkNb l = 0) {b : Nat} (hb : b < l.length) : foundNb l (l.getD b default).node = true ∧ bsNb l (l.getD b default).node = b := by
  obtain ⟨h1, h2, h3⟩ := bsNb_ok h (l.getD b default).node
  have hge : bsNb l (l.getD b default).node ≤ b := by
    rcases Nat.lt_or_ge b (bsNb l (l.getD b default).node) with hl | hg
    · have := h2 b hl; omega
    · exact hg
  have heq : bsNb l (l.getD b default).node = b := by
    rcases Nat.lt_or_ge (bsNb l (l.getD b default).node) b with hl | hg
    · have := nb_mono h hl hb
      have := h3 _ (Nat.le_refl _) (by omega)
      omega
    · omega
  exact ⟨by rw [found_iff, heq]; exact ⟨hb, rfl⟩, heq⟩

/-- The best one is beaten by none. -/
theorem refB_best {l : List Nb} {r : Rk} : ∀ {k b : Nat}, refB l r k = some b → ∀ i, i < k → okNb r (l.getD i default) = true → beats (l.getD i default) (l.getD b default) = false
  | 0, b, h, _, _, _ => by cases h
  | k + 1, b, h, i, hi, hok => by
    unfold refB at h
    by_cases ho : okNb r (l.getD k default) = true
    · rw [if_pos ho] at h
      cases hr : refB l r k with
      | none =>
        rw [hr] at h
        injection h with h; subst h
        by_cases hik : i = k
        · subst hik; simp [beats]
        · exfalso
          have : ∀ j, refB l r j = none → ∀ i, i < j → okNb r (l.getD i default) = false := by
            intro j
            induction j with
            | zero => intro _ i hi; omega
            | succ j ih =>
              intro hn i hi
              unfold refB at hn
              by_cases hoj : okNb r (l.getD j default) = true
              · rw [if_pos hoj] at hn
                split at hn
                · cases hn
                · split at hn <;> cases hn
              · rw [if_neg hoj] at hn
                by_cases hij : i = j
                · subst hij; simpa using hoj
                · exact ih hn i (by omega)
          rw [this k hr i (by omega)] at hok
          cases hok
      | some b0 =>
        rw [hr] at h
        simp only at h
        split at h
        · rename_i hbt
          injection h with h; subst h
          by_cases hik : i = k
          · subst hik; simp [beats]
          · have h2 := refB_best hr i (by omega) hok
            simp only [beats, Bool.or_eq_true, Bool.and_eq_true, decide_eq_true_eq] at hbt
            simp only [beats, Bool.or_eq_false_iff, Bool.and_eq_false_iff, decide_eq_false_iff_not] at h2 ⊢
            omega
        · rename_i hbt
          injection h with h; subst h
          by_cases hik : i = k
          · subst hik; simpa using hbt
          · exact refB_best hr i (by omega) hok
    · rw [if_neg ho] at h
      by_cases hik : i = k
      · subst hik; exact absurd hok ho
      · exact refB_best h i (by omega) hok
end Go.Proofs

