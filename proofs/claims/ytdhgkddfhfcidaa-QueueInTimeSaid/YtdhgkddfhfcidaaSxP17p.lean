/-
  What functions of the given program hand back, by walks over its code, and plain laws on that. No condition.
-/
import Derived.Test.YtdhgkddfhfcidaaSxP17o
-- SXS
-- SXM
namespace Go.Proofs
open Go Go.Sx
set_option linter.unusedSimpArgs false
set_option linter.unusedVariables false
attribute [local irreducible] VR VC thenQ blockQ retL
/-! Taking the first packets for a neighbour, one after the other. -/
def restL (l : List Pk) (to : Int) : Nat → List Pk
  | 0 => l
  | k + 1 => match idxTo (restL l to k) to with
    | none => restL l to k
    | some i => (restL l to k).eraseIdx i
theorem restL_ok {lim : Int} {l : List Pk} (h : OkQ lim l) (to : Int) : ∀ k, OkQ lim (restL l to k)
  | 0 => h
  | k + 1 => by
    have h1 := restL_ok h to k
    show OkQ lim (match idxTo (restL l to k) to with | none => restL l to k | some i => (restL l to k).eraseIdx i)
    cases hf : idxTo (restL l to k) to with
    | none => exact h1
    | some i => exact h1.sub (List.eraseIdx_sublist _ _)
theorem filter_first {l : List Pk} {p : Pk → Bool} {i : Nat} (h : fstO l p = some i) : l.filter p = l.getD i default :: (l.eraseIdx i).filter p := by
  obtain ⟨hi, hp, hlt⟩ := fstO_some h
  have e1 : (l.take i).filter p = [] := by
    rw [List.filter_eq_nil_iff]
    intro x hx
    obtain ⟨k, hk, _, rfl⟩ := mem_take_getD hx
    rw [hlt k hk]; simp
  have e2 : l.eraseIdx i = l.take i ++ l.drop (i + 1) := List.eraseIdx_eq_take_drop_succ ..
  conv => lhs; rw [← List.take_append_drop i l, drop_cons hi, List.filter_append, e1]
  rw [e2, List.filter_append, e1, List.nil_append, List.nil_append, List.filter_cons_of_pos hp]
def wantL (l : List Pk) (to : Int) : List Pk := l.filter fun x => decide (x.to = to)
theorem restL_want (l : List Pk) (to : Int) : ∀ k, k ≤ (wantL l to).length → (restL l to k).filter (fun x => decide (x.to = to)) = (wantL l to).drop k ∧ (restL l to k).length + k = l.length
  | 0, _ => ⟨rfl, rfl⟩
  | k + 1, hk => by
    obtain ⟨h1, h2⟩ := restL_want l to k (by omega)
    show (match idxTo (restL l to k) to with | none => restL l to k | some i => (restL l to k).eraseIdx i).filter _ = _ ∧ (match idxTo (restL l to k) to with | none => restL l to k | some i => (restL l to k).eraseIdx i).length + (k + 1) = _
    rw [drop_cons (show k < (wantL l to).length by omega)] at h1
    cases hf : idxTo (restL l to k) to with
    | none =>
      have : (restL l to k).filter (fun x => decide (x.to = to)) = [] := List.filter_eq_nil_iff.2 fun x hx => by rw [fstO_notmem hf x hx]; simp
      rw [this] at h1; cases h1
    | some i =>
      obtain ⟨hi, _, _⟩ := fstO_some hf
      rw [filter_first hf] at h1
      exact ⟨(List.cons.inj h1).2, by rw [List.length_eraseIdx_of_lt hi]; omega⟩
theorem restL_at {l : List Pk} {to : Int} {k : Nat} (hk : k < (wantL l to).length) : ∃ i, idxTo (restL l to k) to = some i ∧ i < (restL l to k).length ∧ (restL l to k).getD i default = (wantL l to).getD k default := by
  obtain ⟨h1, _⟩ := restL_want l to k (by omega)
  rw [drop_cons hk] at h1
  cases hf : idxTo (restL l to k) to with
  | none =>
    have : (restL l to k).filter (fun x => decide (x.to = to)) = [] := List.filter_eq_nil_iff.2 fun x hx => by rw [fstO_notmem hf x hx]; simp
    rw [this] at h1; cases h1
  | some i =>
    obtain ⟨hi, _, _⟩ := fstO_some hf
    rw [filter_first hf] at h1
    exact ⟨i, rfl, hi, (List.cons.inj h1).1⟩
theorem restL_end {l : List Pk} {to : Int} : idxTo (restL l to (wantL l to).length) to = none := by
  obtain ⟨h1, _⟩ := restL_want l to (wantL l to).length (Nat.le_refl _)
  rw [List.drop_length] at h1
  refine fstO_none fun i hi => ?_
  have := List.filter_eq_nil_iff.1 h1 _ (getD_mem hi)
  simpa using this
theorem stale_any {l : List Pk} {slot : Int} {x : Pk} (hx : x ∈ l) : ((staleL l slot).any fun y => decide (x = y)) = staleB x slot := by
  cases h : staleB x slot with
  | true => exact List.any_eq_true.2 ⟨x, List.mem_filter.2 ⟨hx, h⟩, decide_eq_true rfl⟩
  | false =>
    rw [List.any_eq_false]
    intro y hy
    have := (List.mem_filter.1 hy).2
    simp only [decide_eq_true_eq]
    rintro rfl
    rw [h] at this; cases this
theorem fresh_any {l : List Pk} {slot : Int} {x : Pk} (hx : x ∈ l) : ((freshL l slot).any fun y => decide (x = y)) = !staleB x slot := by
  cases h : staleB x slot with
  | false => exact List.any_eq_true.2 ⟨x, List.mem_filter.2 ⟨hx, by rw [h]; rfl⟩, decide_eq_true rfl⟩
  | true =>
    rw [Bool.not_true, List.any_eq_false]
    intro y hy
    have := (List.mem_filter.1 hy).2
    simp only [decide_eq_true_eq]
    rintro rfl
    rw [h] at this; cases this
theorem staleB_nn {x : Pk} {slot : Int} (h : 0 ≤ slot) : staleB x slot = decide (x.life ≤ IntKind.i64.wrap (slot - x.born)) := by simp [staleB, h]
theorem stale_fresh (l : List Pk) (slot : Int) : (freshL l slot).length + (staleL l slot).length = l.length := by
  have := gone_fresh l slot
  unfold goneL at this
  rwa [List.length_map] at this
end Go.Proofs
