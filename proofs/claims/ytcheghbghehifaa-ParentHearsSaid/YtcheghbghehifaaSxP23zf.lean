/-
  What functions of the given program hand back, by walks over its code, and plain laws on that. No condition.
-/
import Derived.Test.YtcheghbghehifaaSxP23ze
-- SXU
namespace Go.Proofs
open Go Go.Sx
set_option linter.unusedSimpArgs false
set_option linter.unusedVariables false
attribute [local irreducible] VR VC thenQ blockQ retL

theorem check_of {l : List Nb} (hlen : l.length ≤ 32) (hr : ∀ k, k < l.length → heardB (l.getD k default).node (l.getD k default).epoch (l.getD k default).rank (l.getD k default).slot = true ∧ (0 ≤ (l.getD k default).att ∧ (l.getD k default).att ≤ 255) ∧ 0 ≤ (l.getD k default).ack ∧ (l.getD k default).ack ≤ (l.getD k default).att)
    (hm : ∀ k, 0 < k → k < l.length → (l.getD (k - 1) default).node < (l.getD k default).node) : checkNb l = 0 := by
  unfold checkNb
  rw [if_neg (by omega)]
  refine firstErr_none fun k hk => ?_
  obtain ⟨h1, h2, h3⟩ := hr k hk
  unfold nbErr
  dsimp only
  have ha : inR (l.getD k default).att 0 255 = true := by rw [inR_t]; exact h2
  have hb : inR (l.getD k default).ack 0 (l.getD k default).att = true := by rw [inR_t]; exact h3
  rw [h1, ha, hb]
  simp only [Bool.and_self, if_true]
  rw [if_neg]
  rintro ⟨h0, hle⟩
  have := hm k h0 hk
  omega
theorem ins_getD {l : List Nb} {i j : Nat} {y : Nb} (hi : i ≤ l.length) : (insAt l i y).getD j default = if j < i then l.getD j default else if j = i then y else l.getD (j - 1) default := by
  unfold insAt
  simp only [List.getD_eq_getElem?_getD]
  have hl : (l.take i).length = i := by rw [List.length_take]; omega
  split
  · rw [List.getElem?_append_left (by omega), List.getElem?_take_of_lt (by assumption)]
  · rw [List.getElem?_append_right (by omega), hl]
    split
    · rename_i h; subst h; simp
    · obtain ⟨m, hm⟩ : ∃ m, j - i = m + 1 := ⟨j - i - 1, by omega⟩
      rw [hm, List.getElem?_cons_succ, List.getElem?_drop]
      congr 2
      omega
theorem ins_len {l : List Nb} {i : Nat} {y : Nb} (hi : i ≤ l.length) : (insAt l i y).length = l.length + 1 := by
  simp only [insAt, List.length_append, List.length_take, List.length_cons, List.length_drop]
  omega
theorem node_ge {l : List Nb} (h : checkNb l = 0) : ∀ k, k < l.length → (k : Int) ≤ (l.getD k default).node := by
  intro k
  induction k with
  | zero => intro hk; have := (adv_range h hk).2.1; simpa using this
  | succ k ih =>
    intro hk
    have h1 := ih (by omega)
    have h2 := nb_lt h (i := k + 1) (by omega) hk
    simp only [Nat.add_sub_cancel] at h2
    push_cast
    omega
theorem new_room {l : List Nb} (h : checkNb l = 0) {t : Int} (ht : 0 ≤ t ∧ t ≤ 31) (hf : foundNb l t = false) : l.length ≤ 31 := by
  obtain ⟨b1, b2, b3⟩ := bsNb_ok h t
  have hti : (bsNb l t : Int) ≤ t := by
    rcases Nat.eq_zero_or_pos (bsNb l t) with h0 | h0
    · rw [h0]; simpa using ht.1
    · have h1 := b2 (bsNb l t - 1) (by omega)
      have h2 := node_ge h (bsNb l t - 1) (by omega)
      omega
  by_cases hlt : bsNb l t < l.length
  · have hne : (l.getD (bsNb l t) default).node ≠ t := fun e => by
      have := found_iff.2 ⟨hlt, e⟩
      rw [hf] at this; cases this
    have key : ∀ j, bsNb l t + j < l.length → t + 1 + j ≤ (l.getD (bsNb l t + j) default).node := by
      intro j
      induction j with
      | zero => intro hj; have := b3 _ (Nat.le_refl _) hlt; simp only [Nat.add_zero] at *; omega
      | succ j ih =>
        intro hj
        have h1 := ih (by omega)
        have h2 := nb_lt h (i := bsNb l t + (j + 1)) (by omega) hj
        rw [show bsNb l t + (j + 1) - 1 = bsNb l t + j by omega] at h2
        push_cast
        omega
    have h1 := key (l.length - 1 - bsNb l t) (by omega)
    have h2 := (adv_range h (k := bsNb l t + (l.length - 1 - bsNb l t)) (by omega)).2.2
    omega
  · omega
theorem hear_check {l : List Nb} (h : checkNb l = 0) {t e k s : Int} (hr : heardB t e k s = true) : checkNb (hearL l t e k s) = 0 := by
  obtain ⟨hlen, hall⟩ := checkNb_ok h
  obtain ⟨b1, b2, b3⟩ := bsNb_ok h t
  unfold hearL
  cases hf : foundNb l t with
  | true =>
    obtain ⟨hi, hn⟩ := found_iff.1 hf
    simp only [if_true]
    have hnode : ∀ j, ((l.set (bsNb l t) (adOf (l.getD (bsNb l t) default) e k s)).getD j default).node = (l.getD j default).node := fun j => by
      rw [set_getD hi]; split
      · rename_i e; rw [e]; rfl
      · rfl
    refine check_of (by rw [List.length_set]; omega) (fun j hj => ?_) (fun j h0 hj => ?_)
    · rw [List.length_set] at hj
      have hx := nbErr_ok (hall _ hi)
      rw [set_getD hi]; split
      · refine ⟨?_, hx.2⟩
        show heardB (l.getD (bsNb l t) default).node e k s = true
        rw [hn]; exact hr
      · exact nbErr_ok (hall _ hj)
    · rw [List.length_set] at hj
      rw [hnode, hnode]
      exact nb_lt h h0 hj
  | false =>
    simp only [Bool.false_eq_true, if_false]
    have ht : 0 ≤ t ∧ t ≤ 31 := by simp only [heardB, Bool.and_eq_true, inR_t] at hr; omega
    have hroom := new_room h ht hf
    refine check_of (by rw [ins_len b1]; omega) (fun j hj => ?_) (fun j h0 hj => ?_)
    · rw [ins_len b1] at hj
      rw [ins_getD b1]
      split
      · exact nbErr_ok (hall _ (by omega))
      · split
        · exact ⟨hr, by simp [adOf, newNb], by simp [adOf, newNb]⟩
        · exact nbErr_ok (hall _ (by omega))
    · rw [ins_len b1] at hj
      rw [ins_getD b1, ins_getD b1]
      have hne : bsNb l t < l.length → (l.getD (bsNb l t) default).node ≠ t := fun hlt e => by
        have := found_iff.2 ⟨hlt, e⟩
        rw [hf] at this; cases this
      by_cases h1 : j < bsNb l t
      · rw [if_pos (by omega), if_pos h1]; exact nb_lt h h0 (by omega)
      · by_cases h2 : j = bsNb l t
        · rw [if_pos (by omega), if_neg h1, if_pos h2]
          exact b2 _ (by omega)
        · rw [if_neg (by omega), if_neg h1, if_neg h2]
          by_cases h3 : j - 1 = bsNb l t
          · rw [if_pos h3]
            have h4 := b3 (j - 1) (by omega) (by omega)
            have h5 := hne (by omega)
            rw [← h3] at h5
            show t < _
            omega
          · rw [if_neg h3]
            exact nb_lt h (by omega) (by omega)
end Go.Proofs

