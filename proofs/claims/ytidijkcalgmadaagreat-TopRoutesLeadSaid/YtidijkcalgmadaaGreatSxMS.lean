/-
  What functions of the given program hand back, by walks over its code, and plain laws on that. No condition.
-/
import Derived.Test.YtidijkcalgmadaaGreatSxMR
import Derived.Test.YtidijkcalgmadaaGreatSxMP
set_option linter.unusedSimpArgs false
set_option linter.unusedVariables false
section
namespace Go.Proofs.R
open Go Go.Sx Go.Proofs.P
def AdOK (r : Rk) (e k : Int) : Prop := e < r.epoch \/ (e = r.epoch /\ r.least <= k)
def Mono (r s : Rk) : Prop := r.epoch < s.epoch \/ (r.epoch = s.epoch /\ s.least <= r.least)
theorem AdOK.mono {r s : Rk} {e k : Int} (h : AdOK r e k) (m : Mono r s) : AdOK s e k := by
  unfold AdOK Mono at *
  omega
theorem Mono.refl (r : Rk) : Mono r r := .inr ⟨rfl, Int.le_refl _⟩
theorem Mono.trans {r s t : Rk} (h : Mono r s) (m : Mono s t) : Mono r t := by
  unfold Mono at *
  omega
theorem mono_begin (r : Rk) (e : Int) : Mono r (begin' r e) := by
  unfold begin' Mono
  split
  · left; assumption
  · exact .inr ⟨rfl, Int.le_refl _⟩
end Go.Proofs.R
end
section
namespace Go.Proofs.R
open Go Go.Sx Go.Proofs.P
structure Wk where
  r : Rk
  l : List Nb
  deriving Inhabited
structure Sd where
  nd : Nat
  slot : Nat
  rk : Nat
  ep : Nat
  deriving Inhabited
structure Dd where
  kind : Int
  node : Int
  which : Int
  slot : Int
  deriving Inhabited
def AdAt (L : List Wk) (p e k : Int) : Prop := ∃ j : Nat, j < L.length /\ p = j /\ AdOK (L.getD j default).r e k
structure NL (L : List Wk) (said : List Sd) (slot : Int) : Prop where
  node : ∀ i, i < L.length -> (L.getD i default).r.node = i
  rk : ∀ i, i < L.length -> rkErr (L.getD i default).r = 0
  nb : ∀ i, i < L.length -> checkNb (L.getD i default).l = 0
  slots : ∀ i, i < L.length -> ∀ x ∈ (L.getD i default).l, x.slot <= slot
  ad : ∀ i, i < L.length -> ∀ x ∈ (L.getD i default).l, AdAt L x.node x.epoch x.rank
  sd : ∀ s ∈ said, AdAt L s.nd s.ep s.rk /\ (1 <= s.ep /\ s.ep <= 65535) /\ s.rk <= 65534 /\ (s.slot : Int) <= slot
  par : ∀ i, i < L.length -> (L.getD i default).r.parent ≠ -1 -> AdAt L (L.getD i default).r.parent (L.getD i default).r.epoch (L.getD i default).r.heard
theorem wk_set {L : List Wk} {i j : Nat} {w : Wk} (hi : i < L.length) : (L.set i w).getD j default = if j = i then w else L.getD j default := by
  by_cases h : j = i
  · subst h; simp [List.getD_eq_getElem?_getD, hi]
  · simp [List.getD_eq_getElem?_getD, h, List.getElem?_set_ne (Ne.symm h)]
theorem AdAt.set {L : List Wk} {i : Nat} {w : Wk} (hi : i < L.length) (hm : Mono (L.getD i default).r w.r) {p e k : Int} (h : AdAt L p e k) : AdAt (L.set i w) p e k := by
  obtain ⟨j, hj, hp, ha⟩ := h
  refine ⟨j, by rw [List.length_set]; exact hj, hp, ?_⟩
  rw [wk_set hi]
  split
  · rename_i e; subst e; exact ha.mono hm
  · exact ha
structure Goes (L : List Wk) (slot : Int) (i : Nat) (w : Wk) : Prop where
  node : w.r.node = i
  rk : rkErr w.r = 0
  nb : checkNb w.l = 0
  slots : ∀ x ∈ w.l, x.slot <= slot
  ad : ∀ x ∈ w.l, AdAt L x.node x.epoch x.rank
  mono : Mono (L.getD i default).r w.r
  par : w.r.parent ≠ -1 -> AdAt L w.r.parent w.r.epoch w.r.heard
theorem NL.set {L : List Wk} {said : List Sd} {slot slot2 : Int} (h : NL L said slot) (hs : slot <= slot2) {i : Nat} (hi : i < L.length) {w : Wk} (g : Goes L slot2 i w) : NL (L.set i w) said slot2 := by
  refine ⟨fun j hj => ?_, fun j hj => ?_, fun j hj => ?_, fun j hj => ?_, fun j hj => ?_, fun s hs2 => ?_, fun j hj => ?_⟩
  all_goals try rw [List.length_set] at hj
  all_goals try rw [wk_set hi]
  · split
    · rename_i e; subst e; exact g.node
    · exact h.node j hj
  · split
    · exact g.rk
    · exact h.rk j hj
  · split
    · exact g.nb
    · exact h.nb j hj
  · split
    · exact g.slots
    · exact fun x hx => Int.le_trans (h.slots j hj x hx) hs
  · split
    · exact fun x hx => (g.ad x hx).set hi g.mono
    · exact fun x hx => (h.ad j hj x hx).set hi g.mono
  · obtain ⟨h1, h2, h3, h4⟩ := h.sd s hs2
    exact ⟨h1.set hi g.mono, h2, h3, Int.le_trans h4 hs⟩
  · split
    · exact fun hp => (g.par hp).set hi g.mono
    · exact fun hp => (h.par j hj hp).set hi g.mono
theorem adv_rk {r : Rk} (h : rkErr r = 0) (hk : r.rank ≠ 65535) : (advM r).2.2.2 = 0 /\ (advM r).1 = { r with least := min r.least r.rank } /\ (1 <= r.epoch /\ r.epoch <= 65535) /\ 0 <= r.rank /\ r.rank <= 65534 /\ rkErr (advM r).1 = 0 := by
  obtain ⟨h1, h2, h3, h4⟩ := rk_ok h
  have e : advM r = ({ r with least := min r.least r.rank }, r.epoch, r.rank, 0) := by
    unfold advM
    rw [if_neg (by simp [h]), if_neg hk]
  rw [e]
  simp only [inR_t] at h2
  simp only [leastB, Bool.or_eq_true, Bool.and_eq_true, decide_eq_true_eq, inR_t] at h3
  by_cases h0 : r.node = 0
  · have h4' := h4
    unfold rightB at h4
    rw [if_pos h0] at h4
    simp only [Bool.and_eq_true, decide_eq_true_eq, Bool.or_eq_true] at h4
    refine ⟨rfl, rfl, by omega, by omega, by omega, rk_of h1 (by rw [inR_t]; exact h2) ?_ ?_⟩
    · simp only [leastB, Bool.or_eq_true, Bool.and_eq_true, decide_eq_true_eq, inR_t]
      right; omega
    · unfold rightB
      rw [if_pos h0]
      simp only [Bool.and_eq_true, decide_eq_true_eq, Bool.or_eq_true]
      omega
  · unfold rightB at h4
    rw [if_neg h0] at h4
    by_cases hp : r.parent = -1
    · rw [if_pos hp] at h4
      simp only [Bool.and_eq_true, decide_eq_true_eq] at h4
      exact absurd h4.1.2 hk
    · rw [if_neg hp] at h4
      simp only [Bool.and_eq_true, decide_eq_true_eq, ne_eq] at h4
      refine ⟨rfl, rfl, by omega, by omega, by omega, rk_of h1 (by rw [inR_t]; exact h2) ?_ ?_⟩
      · simp only [leastB, Bool.or_eq_true, Bool.and_eq_true, decide_eq_true_eq, inR_t]
        left; omega
      · unfold rightB
        rw [if_neg h0, if_neg hp]
        simp only [Bool.and_eq_true, decide_eq_true_eq, ne_eq]
        refine ⟨⟨⟨⟨⟨⟨h4.1.1.1.1.1.1, h4.1.1.1.1.1.2⟩, ?_⟩, ?_⟩, ?_⟩, ?_⟩, ?_⟩ <;> omega
theorem ren_rk {r : Rk} (h : rkErr r = 0) : rkErr (if (renM r).2 = 0 then (renM r).1 else r) = 0 /\ (if (renM r).2 = 0 then (renM r).1 else r).node = r.node /\ Mono r (if (renM r).2 = 0 then (renM r).1 else r) /\ ((if (renM r).2 = 0 then (renM r).1 else r).parent = -1 \/ (if (renM r).2 = 0 then (renM r).1 else r) = r) := by
  by_cases hc : r.node = 0 /\ r.epoch ≠ 65535
  · have e : renM r = (begin' r (r.epoch + 1), 0) := by
      unfold renM
      rw [if_neg (by simp [h]), if_neg (by simp [hc.1]), if_neg hc.2]
    rw [e]
    simp only [if_true]
    obtain ⟨h1, h2, h3, h4⟩ := rk_ok h
    simp only [inR_t] at h2
    unfold rightB at h4
    rw [if_pos hc.1] at h4
    simp only [Bool.and_eq_true, decide_eq_true_eq, Bool.or_eq_true] at h4
    have eb : begin' r (r.epoch + 1) = { r with epoch := r.epoch + 1, least := 65535 } := by unfold begin'; rw [if_pos (by omega)]
    refine ⟨?_, begin_node _ _, mono_begin _ _, .inl ?_⟩
    · rw [eb]
      refine rk_of h1 (by rw [inR_t]; show 0 <= r.epoch + 1 /\ r.epoch + 1 <= 65535; omega) ?_ ?_
      · simp [leastB, inR]
      · unfold rightB
        rw [if_pos hc.1]
        simp only [Bool.and_eq_true, decide_eq_true_eq, Bool.or_eq_true]
        exact ⟨⟨⟨⟨by show 1 <= r.epoch + 1; omega, h4.1.1.1.2⟩, h4.1.1.2⟩, h4.1.2⟩, .inr trivial⟩
    · rw [eb]; exact h4.1.1.1.2
  · have e : (renM r).2 ≠ 0 := by
      unfold renM
      rw [if_neg (by simp [h])]
      by_cases h0 : r.node = 0
      · rw [if_neg (by simp [h0]), if_pos (by by_cases h1 : r.epoch = 65535; exact h1; exact absurd ⟨h0, h1⟩ hc)]
        decide
      · rw [if_pos h0]
        decide
    rw [if_neg e]
    exact ⟨h, rfl, Mono.refl r, .inr rfl⟩
theorem startL_at {n i : Nat} (hi : i < n) : (startL n).getD i default = (startM (i : Nat)).1 := by
  unfold startL
  simp [List.getD_eq_getElem?_getD, hi]
theorem start_rk {i : Nat} (hi : i < 32) : rkErr (startM (i : Nat)).1 = 0 /\ (startM (i : Nat)).1.node = i /\ (startM (i : Nat)).1.parent = -1 /\ (startM (i : Nat)).2 = 0 := by
  have hn : nodeB (i : Int) = true := by simp only [nodeB, inR_t]; omega
  unfold startM
  rw [hn]
  simp only [Bool.true_eq_false, if_false]
  by_cases h0 : (i : Int) = 0
  · rw [if_pos h0, h0]
    exact ⟨by decide, rfl, rfl, rfl⟩
  · rw [if_neg h0]
    refine ⟨rk_of hn (by show inR 0 0 65535 = true; decide) (by simp [leastB, inR]) ?_, rfl, rfl, rfl⟩
    unfold rightB
    rw [if_neg h0]
    rfl
end Go.Proofs.R
end
