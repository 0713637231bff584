/-
  What functions of the given program hand back, by walks over its code, and plain laws on that. No condition.
-/
import Derived.Test.YtcheghbghehifaaSxP23zf
-- SXU
namespace Go.Proofs
open Go Go.Sx
set_option linter.unusedSimpArgs false
set_option linter.unusedVariables false
attribute [local irreducible] VR VC thenQ blockQ retL

theorem idx_of {l : List Nb} (h : checkNb l = 0) {i : Nat} (hi : i < l.length) : idxO l (l.getD i default).node = some i := by
  rw [idx_found h, if_pos (find_at h hi).1, (find_at h hi).2]
theorem hear_facts {l : List Nb} (h : checkNb l = 0) {t e k s : Int} (hr : heardB t e k s = true) :
    ∃ i, i < (hearL l t e k s).length ∧ (hearL l t e k s).getD i default = adOf (hearX l t) e k s ∧ (hearL l t e k s).length ≤ l.length + 1 ∧ ∀ j, j < l.length → (l.getD j default).node ≠ t → ∃ m, m < (hearL l t e k s).length ∧ (hearL l t e k s).getD m default = l.getD j default := by
  obtain ⟨b1, b2, b3⟩ := bsNb_ok h t
  unfold hearL hearX
  cases hf : foundNb l t with
  | true =>
    obtain ⟨hi, hn⟩ := found_iff.1 hf
    simp only [if_true, List.length_set]
    refine ⟨bsNb l t, hi, by rw [set_getD hi, if_pos rfl], by omega, fun j hj hne => ⟨j, hj, ?_⟩⟩
    rw [set_getD hi, if_neg]
    intro e; subst e; exact hne hn
  | false =>
    simp only [Bool.false_eq_true, if_false]
    rw [ins_len b1]
    refine ⟨bsNb l t, by omega, by rw [ins_getD b1, if_neg (by omega), if_pos rfl], Nat.le_refl _, fun j hj hne => ?_⟩
    by_cases hlt : j < bsNb l t
    · exact ⟨j, by omega, by rw [ins_getD b1, if_pos hlt]⟩
    · exact ⟨j + 1, by omega, by rw [ins_getD b1, if_neg (by omega), if_neg (by omega), Nat.add_sub_cancel]⟩
theorem hearX_node {l : List Nb} (t : Int) : (hearX l t).node = t := by
  unfold hearX
  split
  · rename_i hf; exact (found_iff.1 hf).2
  · rfl
theorem atO_hearX {l : List Nb} (h : checkNb l = 0) (t : Int) : atO l t = hearX l t := by
  unfold atO hearX
  rw [idx_found h]
  split
  · rename_i i hi; split at hi
    · injection hi with hi; subst hi; rw [if_pos (by assumption)]
    · cases hi
  · rename_i hi; split at hi
    · cases hi
    · rw [if_neg (by assumption)]
theorem any_of {l : List Nb} {p : Nb → Bool} {i : Nat} (hi : i < l.length) (h : p (l.getD i default) = true) : l.any p = true :=
  List.any_eq_true.2 ⟨l.getD i default, by rw [List.getD_eq_getElem?_getD, List.getElem?_eq_getElem hi]; exact List.getElem_mem hi, h⟩

/-- What the law asks of the list behind an advertisement. -/
structure HearsOK (l n : List Nb) (t e k s age : Int) : Prop where
  chk : checkNb n = 0
  at_ : atO n t = adOf (atO l t) e k s
  has : (n.any fun x => decide (x.node = t)) = true
  rest : ∀ j, j < l.length → (l.getD j default).node ≠ t → (n.any fun y => decide (l.getD j default = y)) = true
  late : ((kept n (s + age) age).any fun y => decide (adOf (atO l t) e k s = y)) = false
  soon : ((kept n (s + age) (age + 1)).any fun y => decide (adOf (atO l t) e k s = y)) = true
  len : n.length ≤ l.length + 1
theorem hears_ok {l : List Nb} (h : checkNb l = 0) {t e k s : Int} (hr : heardB t e k s = true) {age : Int} (ha : 0 ≤ age ∧ age ≤ 65535) : HearsOK l (hearL l t e k s) t e k s age := by
  obtain ⟨i, h1, h2, h3, h4⟩ := hear_facts h hr
  have hc := hear_check h hr
  have hs : 0 ≤ s ∧ s ≤ 1099511627776 := by simp only [heardB, Bool.and_eq_true, inR_t] at hr; omega
  have hnode : ((hearL l t e k s).getD i default).node = t := by rw [h2]; exact hearX_node t
  have hat : atO (hearL l t e k s) t = adOf (hearX l t) e k s := by
    have := idx_of hc h1
    rw [hnode] at this
    unfold atO
    rw [this, ← h2]
  have hw : IntKind.i64.wrap (s + age - s) = age := by
    rw [show s + age - s = age by omega]; exact wrap_i64 (by omega)
  refine ⟨hc, by rw [hat, atO_hearX h], any_of h1 (decide_eq_true hnode), fun j hj hne => ?_, ?_, ?_, h3⟩
  · obtain ⟨m, hm, he⟩ := h4 j hj hne
    exact any_of hm (decide_eq_true he.symm)
  · rw [atO_hearX h, List.any_eq_false]
    intro x hx
    simp only [decide_eq_true_eq]
    rintro rfl
    have := (List.mem_filter.1 hx).2
    have ho : oldB (s + age) age (adOf (hearX l t) e k s) = true := by
      show decide (age ≤ IntKind.i64.wrap (s + age - s)) = true
      rw [hw]; simp
    rw [ho] at this
    cases this
  · rw [atO_hearX h, List.any_eq_true]
    refine ⟨_, List.mem_filter.2 ⟨?_, ?_⟩, decide_eq_true rfl⟩
    · rw [← h2, List.getD_eq_getElem?_getD, List.getElem?_eq_getElem h1]; exact List.getElem_mem h1
    · show (!decide (age + 1 ≤ IntKind.i64.wrap (s + age - s))) = true
      rw [hw]; simp; omega
end Go.Proofs

