/-
  What functions of the given program hand back, by walks over its code, and plain laws on that. No condition.
-/
import Derived.Test.YtplonmkbgocmlaaSxP24o
-- SXS
-- SXB
-- SXM
namespace Go.Proofs
open Go Go.Sx
set_option linter.unusedSimpArgs false
set_option linter.unusedVariables false
/-! What a report that is taken in changes. -/
theorem mem_found {l : List RP} (h : OkR l) {e : RP} (he : e ∈ l) : foundRp l e.node = true ∧ bsRp l e.node < l.length ∧ l.getD (bsRp l e.node) default = e := by
  obtain ⟨i, hi, rfl⟩ := mem_getD he
  obtain ⟨h1, h2, h3⟩ := h.bs (l.getD i default).node
  have : i = bsRp l (l.getD i default).node := by
    rcases Nat.lt_trichotomy i (bsRp l (l.getD i default).node) with h4 | h4 | h4
    · have := h2 i h4; omega
    · exact h4
    · have := h.lt i _ h4 hi
      have := h3 _ (Nat.le_refl _) (by omega); omega
  rw [← this]
  exact ⟨found_iff.2 ⟨by rw [← this]; exact hi, by rw [← this]⟩, hi, rfl⟩
theorem found_mem {l : List RP} {x : Int} (h : foundRp l x = true) : ∃ e ∈ l, e.node = x ∧ parR l x = e.parent := by
  obtain ⟨h1, h2⟩ := found_iff.1 h
  exact ⟨_, getD_mem h1, h2, rfl⟩
theorem found_par {l : List RP} (h : OkR l) {e : RP} (he : e ∈ l) : parR l e.node = e.parent := by
  unfold parR
  rw [(mem_found h he).2.2]
theorem agree_of {l k : List RP} (hl : OkR l) (hk : OkR k) {x : Int} (h : ∀ e : RP, e.node = x → (e ∈ l ↔ e ∈ k)) : foundRp l x = foundRp k x ∧ (foundRp l x = true → parR l x = parR k x) := by
  have key : ∀ {l k : List RP}, OkR k → (∀ e : RP, e.node = x → (e ∈ l → e ∈ k)) → foundRp l x = true → foundRp k x = true ∧ parR l x = parR k x := by
    intro l k hk h hf
    obtain ⟨e, he, hx, hp⟩ := found_mem hf
    have h2 := h e hx he
    rw [← hx]
    refine ⟨(mem_found hk h2).1, ?_⟩
    rw [found_par hk h2, hx, hp]
  refine ⟨?_, fun hf => (key hk (fun e he h2 => (h e he).1 h2) hf).2⟩
  rw [Bool.eq_iff_iff]
  exact ⟨fun hf => (key hk (fun e he h2 => (h e he).1 h2) hf).1, fun hf => (key hl (fun e he h2 => (h e he).2 h2) hf).1⟩
theorem put_ok {l : List RP} {r : RP} (h : (putM l r).2.2 = 0) : OkR l ∧ formR r = 0 := by
  have hc : checkR l = 0 := Classical.not_not.1 fun hc => by rw [putM, if_pos hc] at h; cases h
  have hf : formR r = 0 := Classical.not_not.1 fun hf => by rw [putM, if_neg (by simp [hc]), if_pos hf] at h; exact hf h
  exact ⟨okR_of hc, hf⟩
theorem put_cases {l : List RP} {r : RP} (h : (putM l r).2.2 = 0) :
    (foundRp l r.node = true ∧ r.number ≤ (l.getD (bsRp l r.node) default).number ∧ (putM l r).1 = l ∧ (putM l r).2.1 = false) ∨
    (foundRp l r.node = true ∧ (l.getD (bsRp l r.node) default).number < r.number ∧ (putM l r).1 = l.set (bsRp l r.node) r ∧ (putM l r).2.1 = true) ∨
    (foundRp l r.node = false ∧ (putM l r).1 = insAt l (bsRp l r.node) r ∧ (putM l r).2.1 = true) := by
  obtain ⟨hok, hf⟩ := put_ok h
  have hc := okR_check hok
  unfold putM
  rw [if_neg (by simp [hc]), if_neg (by simp [hf])]
  cases hfo : foundRp l r.node with
  | true =>
    rw [if_pos rfl]
    by_cases hle : r.number ≤ (l.getD (bsRp l r.node) default).number
    · rw [if_pos hle]; exact .inl ⟨rfl, hle, rfl, rfl⟩
    · rw [if_neg hle]; exact .inr (.inl ⟨rfl, by omega, rfl, rfl⟩)
  | false =>
    rw [if_neg (by simp)]
    exact .inr (.inr ⟨rfl, rfl, rfl⟩)
theorem put_agree {l : List RP} {r : RP} (h : (putM l r).2.2 = 0) : OkR (putM l r).1 ∧ ∀ x, x ≠ r.node → foundRp l x = foundRp (putM l r).1 x ∧ (foundRp l x = true → parR l x = parR (putM l r).1 x) := by
  obtain ⟨hok, hf⟩ := put_ok h
  obtain ⟨hb1, _, _⟩ := hok.bs r.node
  rcases put_cases h with ⟨h1, h2, h3, _⟩ | ⟨h1, h2, h3, _⟩ | ⟨h1, h3, _⟩
  · rw [h3]
    exact ⟨hok, fun x _ => ⟨rfl, fun _ => rfl⟩⟩
  · rw [h3]
    obtain ⟨h4, h5⟩ := found_iff.1 h1
    have hk := hok.set h4 h5 hf
    refine ⟨hk, fun x hx => agree_of hok hk fun e he => ⟨fun hm => ?_, fun hm => ?_⟩⟩
    · obtain ⟨i, hi, rfl⟩ := mem_getD hm
      have hne : bsRp l r.node ≠ i := fun e => hx (by rw [← he, ← e]; exact h5)
      have := getD_mem (l := l.set (bsRp l r.node) r) (i := i) (by rw [List.length_set]; exact hi)
      rwa [getD_setR, if_neg (fun h => hne h.1)] at this
    · rcases List.mem_or_eq_of_mem_set hm with h6 | h6
      · exact h6
      · exact absurd (by rw [← he, h6]) hx
  · rw [h3]
    have hk := hok.ins hf h1
    refine ⟨hk, fun x hx => agree_of hok hk fun e he => ⟨fun hm => (mem_insAt hb1).2 (.inr hm), fun hm => ?_⟩⟩
    rcases (mem_insAt hb1).1 hm with h6 | h6
    · exact absurd (by rw [← he, h6]) hx
    · exact h6
theorem wayM_sub (l : List RP) : ∀ (f : Nat) (S : List Int) (n : Int), ∀ x ∈ S, x ∈ wayM l f S n
  | 0, S, n, x, hx => hx
  | f + 1, S, n, x, hx => by
    unfold wayM
    split
    · split
      · exact List.mem_append_left _ hx
      · exact wayM_sub l f _ _ x (List.mem_append_left _ hx)
    · exact hx
theorem wayM_agree {l k : List RP} {m : Int} (h : ∀ x, x ≠ m → foundRp l x = foundRp k x ∧ (foundRp l x = true → parR l x = parR k x)) : ∀ (f : Nat) (S : List Int) (n : Int), m ∉ wayM l f S n → wayM k f S n = wayM l f S n
  | 0, S, n, _ => rfl
  | f + 1, S, n, hm => by
    unfold wayM at hm ⊢
    by_cases hc : nodeB n = true ∧ n ∉ S
    · rw [if_pos hc] at hm ⊢
      rw [if_pos hc]
      have hnm : n ≠ m := by
        intro e
        subst e
        split at hm
        · exact hm (by simp)
        · exact hm (wayM_sub l f _ _ n (by simp))
      obtain ⟨h1, h2⟩ := h n hnm
      rw [← h1]
      by_cases h3 : n = 0 ∨ foundRp l n = false
      · rw [if_pos h3, if_pos h3]
      · rw [if_neg h3] at hm ⊢
        rw [if_neg h3]
        have hft : foundRp l n = true := by
          cases hq : foundRp l n with
          | true => rfl
          | false => exact absurd (.inr hq) h3
        rw [← h2 hft]
        exact wayM_agree h f _ _ hm
    · rw [if_neg hc, if_neg hc]
theorem rouM_ok {l : List RP} {n : Int} (h : OkR l) (hn : 0 ≤ n ∧ n < 32) : rouM l n = if goodL (wayL l n).reverse = true then ((wayL l n).reverse, 0) else ([], 17) := by
  rw [rouM, if_neg (by simp [okR_check h]), if_neg (by rw [nodeB, decide_eq_true hn]; simp)]
theorem old_routes {l k : List RP} {m n : Int} (hl : OkR l) (hk : OkR k) (hn : 0 ≤ n ∧ n < 32) (h : ∀ x, x ≠ m → foundRp l x = foundRp k x ∧ (foundRp l x = true → parR l x = parR k x)) (h0 : (rouM l n).2 = 0) (hm : m ∉ (rouM l n).1) : rouM k n = rouM l n := by
  rw [rouM_ok hl hn] at h0 hm ⊢
  rw [rouM_ok hk hn]
  cases hg : goodL (wayL l n).reverse with
  | true =>
    rw [hg, if_pos rfl] at hm
    have : wayL k n = wayL l n := wayM_agree h 33 [] n (fun hx => hm (List.mem_reverse.2 hx))
    rw [this, hg]
  | false =>
    rw [hg, if_neg (by simp)] at h0
    cases h0
/-! Routes and parents. -/
/-- A way: each node's parent follows it; it ends with 0. -/
structure Way (l : List RP) (w : List Int) : Prop where
  nd : w.Nodup
  rg : ∀ x ∈ w, 0 ≤ x ∧ x < 32
  st : ∀ i, i + 1 < w.length → w.getD i default ≠ 0 ∧ foundRp l (w.getD i default) = true ∧ parR l (w.getD i default) = w.getD (i + 1) default
  pos : 0 < w.length
  last : w.getD (w.length - 1) default = 0
theorem wayM_pre (l : List RP) : ∀ (f : Nat) (S : List Int) (n : Int), ∃ T, wayM l f S n = S ++ T
  | 0, S, n => ⟨[], by simp [wayM]⟩
  | f + 1, S, n => by
    unfold wayM
    split
    · split
      · exact ⟨[n], rfl⟩
      · obtain ⟨T, hT⟩ := wayM_pre l f (S ++ [n]) (parR l n)
        exact ⟨n :: T, by rw [hT]; simp⟩
    · exact ⟨[], by simp⟩
/-- What the walk adds is a way, if it ends with 0. -/
theorem way_of (l : List RP) : ∀ (f : Nat) (S : List Int) (n : Int) (T : List Int), wayM l f S n = S ++ T → T ≠ [] → (S ++ T).getD ((S ++ T).length - 1) default = 0 → (∀ x ∈ S, x ≠ 0) →
    T.getD 0 default = n ∧ T.getD (T.length - 1) default = 0 ∧ ∀ i, i + 1 < T.length → T.getD i default ≠ 0 ∧ foundRp l (T.getD i default) = true ∧ parR l (T.getD i default) = T.getD (i + 1) default
  | 0, S, n, T, h, hne, _, _ => by
    have : T = [] := by
      have := congrArg List.length h
      simp [wayM] at this
      exact this
    exact absurd this hne
  | f + 1, S, n, T, h, hne, hl, hS => by
    unfold wayM at h
    split at h
    · rename_i hc
      split at h
      · have hT : T = [n] := (List.append_cancel_left h).symm
        subst hT
        refine ⟨rfl, ?_, fun i hi => absurd hi (by simp)⟩
        have e : (S ++ [n]).getD ((S ++ [n]).length - 1) default = n := by
          rw [List.length_append, List.length_cons, List.length_nil, Nat.add_sub_cancel, List.getD_eq_getElem?_getD, List.getElem?_append_right (Nat.le_refl _)]
          simp
        rw [e] at hl
        exact hl
      · rename_i h0
        obtain ⟨T', hT'⟩ := wayM_pre l f (S ++ [n]) (parR l n)
        have hT : T = n :: T' := by
          rw [hT', List.append_assoc] at h
          exact (List.append_cancel_left h).symm
        subst hT
        have hn0 : n ≠ 0 := fun e => h0 (.inl e)
        have hfo : foundRp l n = true := by
          cases hq : foundRp l n with
          | true => rfl
          | false => exact absurd (.inr hq) h0
        have hne' : T' ≠ [] := by
          intro e
          subst e
          have e : (S ++ [n]).getD ((S ++ [n]).length - 1) default = n := by
            rw [List.length_append, List.length_cons, List.length_nil, Nat.add_sub_cancel, List.getD_eq_getElem?_getD, List.getElem?_append_right (Nat.le_refl _)]
            simp
          rw [e] at hl
          exact hn0 hl
        have heq : S ++ n :: T' = (S ++ [n]) ++ T' := by simp
        obtain ⟨h1, h2, h3⟩ := way_of l f (S ++ [n]) (parR l n) T' hT' hne' (by rw [← heq]; exact hl) (fun x hx => by
          rcases List.mem_append.1 hx with hx | hx
          · exact hS x hx
          · rw [List.mem_singleton] at hx; rw [hx]; exact hn0)
        have hpos : 0 < T'.length := by cases T' with
          | nil => exact absurd rfl hne'
          | cons a T' => simp
        refine ⟨rfl, ?_, fun i hi => ?_⟩
        · rw [List.length_cons, show T'.length + 1 - 1 = (T'.length - 1) + 1 by omega]
          exact h2
        · cases i with
          | zero => exact ⟨hn0, hfo, by rw [show (n :: T').getD 0 default = n from rfl, show (n :: T').getD (0 + 1) default = T'.getD 0 default from rfl, h1]⟩
          | succ i =>
            have := h3 i (by simpa using hi)
            exact this
    · have : T = [] := by
        have := congrArg List.length h
        simp at this
        exact this
      exact absurd this hne
theorem way_good {l : List RP} {n : Int} (h : goodL (wayL l n).reverse = true) : Way l (wayL l n) ∧ (wayL l n).getD 0 default = n := by
  obtain ⟨h1, h2, h3⟩ := of_decide_eq_true h
  have hpos : 0 < (wayL l n).length := by
    rcases Nat.eq_zero_or_pos (wayL l n).length with h0 | h0
    · exact absurd (by rw [List.length_eq_zero_iff.1 h0]; rfl) h1
    · exact h0
  have hlast : (wayL l n).getD ((wayL l n).length - 1) default = 0 := by
    rw [List.getD_eq_getElem?_getD, List.getElem?_reverse hpos, ← List.getD_eq_getElem?_getD] at h2
    rw [← h2]; rfl
  obtain ⟨k1, k2, k3⟩ := way_of l 33 [] n (wayL l n) rfl (fun e => by rw [e] at hpos; cases hpos) hlast (fun x hx => by cases hx)
  obtain ⟨m1, m2⟩ := wayL_ok l n
  exact ⟨⟨m1, m2, k3, hpos, hlast⟩, k1⟩
theorem Way.tail {l : List RP} {w : List Int} (h : Way l w) {i : Nat} (hi : i < w.length) : Way l (w.drop i) := by
  have hg : ∀ j, (w.drop i).getD j default = w.getD (i + j) default := fun j => by
    rw [List.getD_eq_getElem?_getD, List.getElem?_drop, ← List.getD_eq_getElem?_getD]
  refine ⟨h.nd.sublist (List.drop_sublist _ _), fun x hx => h.rg x (List.mem_of_mem_drop hx), fun j hj => ?_, by rw [List.length_drop]; omega, ?_⟩
  · rw [List.length_drop] at hj
    rw [hg, hg, show i + (j + 1) = i + j + 1 by omega]
    exact h.st (i + j) (by omega)
  · rw [List.length_drop, hg, show i + (w.length - i - 1) = w.length - 1 by omega]
    exact h.last
theorem Way.walk {l : List RP} : ∀ (w : List Int) (f : Nat) (S : List Int), Way l w → w.length ≤ f → (∀ x ∈ S, x ∉ w) → wayM l f S (w.getD 0 default) = S ++ w
  | [], f, S, h, _, _ => by have := h.pos; cases this
  | a :: w, 0, S, h, hf, _ => by simp at hf
  | a :: w, f + 1, S, h, hf, hS => by
    have ha : 0 ≤ a ∧ a < 32 := h.rg a (by simp)
    have hc : nodeB a = true ∧ a ∉ S := ⟨decide_eq_true ha, fun hx => hS a hx (by simp)⟩
    show wayM l (f + 1) S a = S ++ a :: w
    unfold wayM
    rw [if_pos hc]
    cases w with
    | nil =>
      have h0 : a = 0 := h.last
      rw [if_pos (.inl h0)]
    | cons b w =>
      obtain ⟨h1, h2, h3⟩ := h.st 0 (by simp)
      have h1 : a ≠ 0 := h1
      have h2 : foundRp l a = true := h2
      have h3 : parR l a = b := h3
      rw [if_neg (by simp [h1, h2]), h3]
      have := Way.walk (b :: w) f (S ++ [a]) (h.tail (i := 1) (by simp)) (by simpa using hf) (fun x hx hm => by
        rcases List.mem_append.1 hx with hx | hx
        · exact hS x hx (by simp only [List.mem_cons] at hm ⊢; exact .inr hm)
        · rw [List.mem_singleton] at hx
          subst hx
          exact (List.nodup_cons.1 h.nd).1 hm)
      rw [show (b :: w).getD 0 default = b from rfl] at this
      rw [this]; simp
theorem Way.len {l : List RP} {w : List Int} (h : Way l w) : w.length ≤ 32 := len_le 32 w h.nd h.rg
theorem Way.good {l : List RP} {w : List Int} (h : Way l w) (h9 : w.length ≤ 9) : goodL (wayL l (w.getD 0 default)).reverse = true := by
  have : wayL l (w.getD 0 default) = w := by
    have h1 := Way.walk w 33 [] h (by omega) (fun x hx => by cases hx)
    rw [List.nil_append] at h1
    exact h1
  rw [this]
  refine decide_eq_true ⟨fun e => ?_, ?_, by rw [List.length_reverse]; exact h9⟩
  · have := congrArg List.length e
    rw [List.length_reverse] at this
    have := h.pos
    simp_all
  · rw [List.getD_eq_getElem?_getD, List.getElem?_reverse h.pos, ← List.getD_eq_getElem?_getD]
    exact h.last
end Go.Proofs
