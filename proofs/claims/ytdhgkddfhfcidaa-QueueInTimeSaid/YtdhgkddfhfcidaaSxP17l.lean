/-
  What functions of the given program hand back, by walks over its code, and plain laws on that. No condition.
-/
import Derived.Test.YtdhgkddfhfcidaaSxP17k
-- SXS
-- SXM
namespace Go.Proofs
open Go Go.Sx
set_option linter.unusedSimpArgs false
set_option linter.unusedVariables false
attribute [local irreducible] VR VC thenQ blockQ retL
/-! What a right queue is. -/
structure OkQ (lim : Int) (l : List Pk) : Prop where
  bnd : 1 ≤ lim ∧ lim ≤ 64
  len : (l.length : Int) ≤ lim
  form : ∀ x ∈ l, formP x = 0
  pair : l.Pairwise fun x y => x.id ≠ y.id ∧ x.prio ≤ y.prio
theorem getD_el {l : List Pk} {k : Nat} (h : k < l.length) : l.getD k default = l[k] := by
  rw [List.getD_eq_getElem?_getD, List.getElem?_eq_getElem h]; rfl
theorem okQ_of {q : Qu} (h : checkQ q = 0) : OkQ q.limit q.packets := by
  obtain ⟨h1, h2, h3⟩ := checkQ_len h
  refine ⟨⟨h1, h2⟩, h3, fun x hx => ?_, List.pairwise_iff_getElem.2 fun i j hi hj hij => ?_⟩
  · obtain ⟨k, hk, rfl⟩ := mem_getD hx
    exact (checkQ_at h hk).1
  · rw [← getD_el hi, ← getD_el hj]
    refine ⟨checkQ_ne h hi hj (by omega), ?_⟩
    have key : ∀ d, i + d < q.packets.length → (q.packets.getD i default).prio ≤ (q.packets.getD (i + d) default).prio := by
      intro d
      induction d with
      | zero => intro _; exact Int.le_refl _
      | succ d ih =>
        intro hd
        have h4 := (checkQ_at h hd).2.2 (by omega)
        rw [show i + (d + 1) - 1 = i + d by omega] at h4
        exact Int.le_trans (ih (by omega)) h4
    have := key (j - i) (by omega)
    rwa [show i + (j - i) = j by omega] at this
theorem okQ_check {lim : Int} {l : List Pk} (h : OkQ lim l) : checkQ ⟨lim, l⟩ = 0 := by
  unfold checkQ
  have h1 := h.bnd
  have h2 := h.len
  rw [if_neg (by simp only [inI]; simp; omega), if_neg (by dsimp only; omega)]
  refine firstErr_none fun k hk => ?_
  dsimp only at hk ⊢
  have hp := List.pairwise_iff_getElem.1 h.pair
  unfold pkErr
  rw [if_neg (by simp only [ne_eq, Decidable.not_not]; exact h.form _ (getD_mem hk)), if_neg ?_, if_neg ?_]
  · rintro ⟨h0, h3⟩
    have := (hp (k - 1) k (by omega) hk (by omega)).2
    rw [getD_el hk, getD_el (show k - 1 < l.length by omega)] at h3
    omega
  · intro ha
    rw [List.any_eq_true] at ha
    obtain ⟨x, hx, he⟩ := ha
    obtain ⟨i, hi, hil, rfl⟩ := mem_take_getD hx
    have := (hp i k hil hk hi).1
    rw [getD_el hk, getD_el hil] at he
    exact this (of_decide_eq_true he)
theorem OkQ.sub {lim : Int} {l m : List Pk} (h : OkQ lim l) (hs : m.Sublist l) : OkQ lim m :=
  ⟨h.bnd, by have := h.len; have := hs.length_le; omega, fun x hx => h.form x (hs.subset hx), h.pair.sublist hs⟩
theorem serve1_sub (l : List Pk) (out : List Dp) (slot to : Int) : (serve1 l out slot to).1.Sublist l := by
  unfold serve1
  have h1 : (freshL l slot).Sublist l := List.filter_sublist
  cases hf : idxTo (freshL l slot) to with
  | none => exact h1
  | some i => exact (List.eraseIdx_sublist _ _).trans h1
theorem serveTo_ok {lim : Int} {l : List Pk} (h : OkQ lim l) (first : Int) (ls : List Int) : ∀ k, OkQ lim (serveTo l first ls k).1
  | 0 => h
  | k + 1 => (serveTo_ok h first ls k).sub (serve1_sub _ _ _ _)
end Go.Proofs
