/-
  What functions of the given program hand back, by walks over its code, and plain laws on that. No condition.
-/
import Derived.Test.YtdhgkddfhfcidaaSxP17k
-- SXS
-- SXM
namespace Go.Proofs
open Go Go.Sx
set_option linter.unusedSimpArgs false
set_option linter.unusedVariables false
attribute [local irreducible] VR VC thenQ blockQ retL

/-! What a right queue is. -/
structure OkQ (lim : Int) (l : List Pk) : Prop where
  bnd : 1 ≤ lim ∧ lim ≤ 64
  len : (l.length : Int) ≤ lim
  form : ∀ x ∈ l, formP x = 0
  pair : l.Pairwise fun x y => x.id ≠ y.id ∧ x.prio ≤ y.prio

theorem getD_el {l : List Pk} {k : Nat} (h : k < l.length) : l.getD k default = l[k] := by
  rw [List.getD_eq_getElem?_getD, List.getElem?_eq_getElem h]; rfl
theorem okQ_of {q : Qu} (h : checkQ q = 0) : OkQ q.limit q.packets := by
  obtain ⟨h1, h2, h3⟩ := checkQ_len h
  refine ⟨⟨h1, h2⟩, h3, fun x hx => ?_, List.pairwise_iff_getElem.2 fun i j hi hj hij => ?_⟩
  · obtain ⟨k, hk, rfl⟩ := mem_getD hx
    exact (checkQ_at h hk).1
  · rw [← getD_el hi, ← getD_el hj]
    refine ⟨checkQ_ne h hi hj (by omega), ?_⟩
    have key : ∀ d, i + d < q.packets.length → (q.packets.getD i default).prio ≤ (q.packets.getD (i + d) default).prio := by
      intro d
      induction d with
      | zero => intro _; exact Int.le_refl _
      | succ d ih =>
        intro hd
        have h4 := (checkQ_at h hd).2.2 (by omega)
        rw [show i + (d + 1) - 1 = i + d by omega] at h4
        exact Int.le_trans (ih (by omega)) h4
    have := key (j - i) (by omega)
    rwa [show i + (j - i) = j by omega] at this
theorem OkQ.sub {lim : Int} {l m : List Pk} (h : OkQ lim l) (hs : m.Sublist l) : OkQ lim m :=
  ⟨h.bnd, by have := h.len; have := hs.length_le; omega, fun x hx => h.form x (hs.subset hx), h.pair.sublist hs⟩
theorem serve1_sub (l : List Pk) (out : List Dp) (slot to : Int) : (serve1 l out slot to).1.Sublist l := by
  unfold serve1
  have h1 : (freshL l slot).Sublist l := List.filter_sublist
  cases hf : idxTo (freshL l slot) to with
  | none => exact h1
  | some i => exact (List.eraseIdx_sublist _ _).trans h1
end Go.Proofs


