/-
  What functions of the given program hand back, by walks over its code, and plain laws on that. No condition.
-/
import Derived.Test.YtplonmkbgocmlaaSxP24o
-- SXS
-- SXB
-- SXM
namespace Go.Proofs
open Go Go.Sx
set_option linter.unusedSimpArgs false
set_option linter.unusedVariables false

/-! What a report that is taken in changes. -/
theorem mem_found {l : List RP} (h : OkR l) {e : RP} (he : e ∈ l) : foundRp l e.node = true ∧ bsRp l e.node < l.length ∧ l.getD (bsRp l e.node) default = e := by
  obtain ⟨i, hi, rfl⟩ := mem_getD he
  obtain ⟨h1, h2, h3⟩ := h.bs (l.getD i default).node
  have : i = bsRp l (l.getD i default).node := by
    rcases Nat.lt_trichotomy i (bsRp l (l.getD i default).node) with h4 | h4 | h4
    · have := h2 i h4; omega
    · exact h4
    · have := h.lt i _ h4 hi
      have := h3 _ (Nat.le_refl _) (by omega); omega
  rw [← this]
  exact ⟨found_iff.2 ⟨by rw [← this]; exact hi, by rw [← this]⟩, hi, rfl⟩
theorem found_mem {l : List RP} {x : Int} (h : foundRp l x = true) : ∃ e ∈ l, e.node = x ∧ parR l x = e.parent := by
  obtain ⟨h1, h2⟩ := found_iff.1 h
  exact ⟨_, getD_mem h1, h2, rfl⟩
theorem found_par {l : List RP} (h : OkR l) {e : RP} (he : e ∈ l) : parR l e.node = e.parent := by
  unfold parR
  rw [(mem_found h he).2.2]
theorem agree_of {l k : List RP} (hl : OkR l) (hk : OkR k) {x : Int} (h : ∀ e : RP, e.node = x → (e ∈ l ↔ e ∈ k)) : foundRp l x = foundRp k x ∧ (foundRp l x = true → parR l x = parR k x) := by
  have key : ∀ {l k : List RP}, OkR k → (∀ e : RP, e.node = x → (e ∈ l → e ∈ k)) → foundRp l x = true → foundRp k x = true ∧ parR l x = parR k x := by
    intro l k hk h hf
    obtain ⟨e, he, hx, hp⟩ := found_mem hf
    have h2 := h e hx he
    rw [← hx]
    refine ⟨(mem_found hk h2).1, ?_⟩
    rw [found_par hk h2, hx, hp]
  refine ⟨?_, fun hf => (key hk (fun e he h2 => (h e he).1 h2) hf).2⟩
  rw [Bool.eq_iff_iff]
  exact ⟨fun hf => (key hk (fun e he h2 => (h e he).1 h2) hf).1, fun hf => (key hl (fun e he h2 => (h e he).2 h2) hf).1⟩
theorem put_ok {l : List RP} {r : RP} (h : (putM l r).2.2 = 0) : OkR l ∧ formR r = 0 := by
  have hc : checkR l = 0 := Classical.not_not.1 fun hc => by rw [putM, if_pos hc] at h; cases h
  have hf : formR r = 0 := Classical.not_not.1 fun hf => by rw [putM, if_neg (by simp [hc]), if_pos hf] at h; exact hf h
  exact ⟨okR_of hc, hf⟩
theorem put_cases {l : List RP} {r : RP} (h : (putM l r).2.2 = 0) :
    (foundRp l r.node = true ∧ r.number ≤ (l.getD (bsRp l r.node) default).number ∧ (putM l r).1 = l ∧ (putM l r).2.1 = false) ∨
    (foundRp l r.node = true ∧ (l.getD (bsRp l r.node) default).number < r.number ∧ (putM l r).1 = l.set (bsRp l r.node) r ∧ (putM l r).2.1 = true) ∨
    (foundRp l r.node = false ∧ (putM l r).1 = insAt l (bsRp l r.node) r ∧ (putM l r).2.1 = true) := by
  obtain ⟨hok, hf⟩ := put_ok h
  have hc := okR_check hok
  unfold putM
  rw [if_neg (by simp [hc]), if_neg (by simp [hf])]
  cases hfo : foundRp l r.node with
  | true =>
    rw [if_pos rfl]
    by_cases hle : r.number ≤ (l.getD (bsRp l r.node) default).number
    · rw [if_pos hle]; exact .inl ⟨rfl, hle, rfl, rfl⟩
    · rw [if_neg hle]; exact .inr (.inl ⟨rfl, by omega, rfl, rfl⟩)
  | false =>
    rw [if_neg (by simp)]
    exact .inr (.inr ⟨rfl, rfl, rfl⟩)
theorem put_agree {l : List RP} {r : RP} (h : (putM l r).2.2 = 0) : OkR (putM l r).1 ∧ ∀ x, x ≠ r.node → foundRp l x = foundRp (putM l r).1 x ∧ (foundRp l x = true → parR l x = parR (putM l r).1 x) := by
  obtain ⟨hok, hf⟩ := put_ok h
  obtain ⟨hb1, _, _⟩ := hok.bs r.node
  rcases put_cases h with ⟨h1, h2, h3, _⟩ | ⟨h1, h2, h3, _⟩ | ⟨h1, h3, _⟩
  · rw [h3]
    exact ⟨hok, fun x _ => ⟨rfl, fun _ => rfl⟩⟩
  · rw [h3]
    obtain ⟨h4, h5⟩ := found_iff.1 h1
    have hk := hok.set h4 h5 hf
    refine ⟨hk, fun x hx => agree_of hok hk fun e he => ⟨fun hm => ?_, fun hm => ?_⟩⟩
    · obtain ⟨i, hi, rfl⟩ := mem_getD hm
      have hne : bsRp l r.node ≠ i := fun e => hx (by rw [← he, ← e]; exact h5)
      have := getD_mem (l := l.set (bsRp l r.node) r) (i := i) (by rw [List.length_set]; exact hi)
      rwa [getD_setR, if_neg (fun h => hne h.1)] at this
    · rcases List.mem_or_eq_of_mem_set hm with h6 | h6
      · exact h6
      · exact absurd (by rw [← he, h6]) hx
  · rw [h3]
    have hk := hok.ins hf h1
    refine ⟨hk, fun x hx => agree_of hok hk fun e he => ⟨fun hm => (mem_insAt hb1).2 (.inr hm), fun hm => ?_⟩⟩
    rcases (mem_insAt hb1).1 hm with h6 | h6
    · exact absurd (by rw [← he, h6]) hx
    · exact h6
theorem wayM_sub (l : List RP) : ∀ (f : Nat) (S : List Int) (n : Int), ∀ x ∈ S, x ∈ wayM l f S n
  | 0, S, n, x, hx => hx
  | f + 1, S, n, x, hx => by
    unfold wayM
    split
    · split
      · exact List.mem_append_left _ hx
      · exact wayM_sub l f _ _ x (List.mem_append_left _ hx)
    · exact hx
theorem wayM_agree {l k : List RP} {m : Int} (h : ∀ x, x ≠ m → foundRp l x = foundRp k x ∧ (foundRp l x = true → parR l x = parR k x)) : ∀ (f : Nat) (S : List Int) (n : Int), m ∉ wayM l f S n → wayM k f S n = wayM l f S n
  | 0, S, n, _ => rfl
  | f + 1, S, n, hm => by
    unfold wayM at hm ⊢
    by_cases hc : nodeB n = true ∧ n ∉ S
    · rw [if_pos hc] at hm ⊢
      rw [if_pos hc]
      have hnm : n ≠ m := by
        intro e
        subst e
        split at hm
        · exact hm (by simp)
        · exact hm (wayM_sub l f _ _ n (by simp))
      obtain ⟨h1, h2⟩ := h n hnm
      rw [← h1]
      by_cases h3 : n = 0 ∨ foundRp l n = false
      · rw [if_pos h3, if_pos h3]
      · rw [if_neg h3] at hm ⊢
        rw [if_neg h3]
        have hft : foundRp l n = true := by
          cases hq : foundRp l n with
          | true => rfl
          | false => exact absurd (.inr hq) h3
        rw [← h2 hft]
        exact wayM_agree h f _ _ hm
    · rw [if_neg hc, if_neg hc]
theorem rouM_ok {l : List RP} {n : Int} (h : OkR l) (hn : 0 ≤ n ∧ n < 32) : rouM l n = if goodL (wayL l n).reverse = true then ((wayL l n).reverse, 0) else ([], 17) := by
  rw [rouM, if_neg (by simp [okR_check h]), if_neg (by rw [nodeB, decide_eq_true hn]; simp)]
theorem old_routes {l k : List RP} {m n : Int} (hl : OkR l) (hk : OkR k) (hn : 0 ≤ n ∧ n < 32) (h : ∀ x, x ≠ m → foundRp l x = foundRp k x ∧ (foundRp l x = true → parR l x = parR k x)) (h0 : (rouM l n).2 = 0) (hm : m ∉ (rouM l n).1) : rouM k n = rouM l n := by
  rw [rouM_ok hl hn] at h0 hm ⊢
  rw [rouM_ok hk hn]
  cases hg : goodL (wayL l n).reverse with
  | true =>
    rw [hg, if_pos rfl] at hm
    have : wayL k n = wayL l n := wayM_agree h 33 [] n (fun hx => hm (List.mem_reverse.2 hx))
    rw [this, hg]
  | false =>
    rw [hg, if_neg (by simp)] at h0
    cases h0

/-! Routes and parents. -/
/-- A way: each node's parent follows it; it ends with 0. -/
structure Way (l : List RP) (w : List Int) : Prop where
  nd : w.Nodup
  rg : ∀ x ∈ w, 0 ≤ x ∧ x < 32
  st : ∀ i, i + 1 < w.length → w.getD i default ≠ 0 ∧ foundRp l (w.getD i default) = true ∧ parR l (w.getD i default) = w.getD (i + 1) default
  pos : 0 < w.length
  last : w.getD (w.length - 1) default = 0
theorem Way.tail {l : List RP} {w : List Int} (h : Way l w) {i : Nat} (hi : i < w.length) : Way l (w.drop i) := by
  have hg : ∀ j, (w.drop i).getD j default = w.getD (i + j) default := fun j => by
    rw [List.getD_eq_getElem?_getD, List.getElem?_drop, ← List.getD_eq_getElem?_getD]
  refine ⟨h.nd.sublist (List.drop_sublist _ _), fun x hx => h.rg x (List.mem_of_mem_drop hx), fun j hj => ?_, by rw [List.length_drop]; omega, ?_⟩
  · rw [List.length_drop] at hj
    rw [hg, hg, show i + (j + 1) = i + j + 1 by omega]
    exact h.st (i + j) (by omega)
  · rw [List.length_drop, hg, show i + (w.length - i - 1) = w.length - 1 by omega]
    exact h.last
theorem Way.len {l : List RP} {w : List Int} (h : Way l w) : w.length ≤ 32 := len_le 32 w h.nd h.rg
end Go.Proofs


