/-
  What functions of the given program hand back, by walks over its code, and plain laws on that. No condition.
-/
import Derived.Test.YtplonmkbgocmlaaSxP24j
-- SXS
-- SXB
-- SXM
namespace Go.Proofs
open Go Go.Sx
set_option maxRecDepth 4000
set_option linter.unusedSimpArgs false
set_option linter.unusedVariables false
attribute [local irreducible] VR VC thenQ blockQ retL
/-! Walk. -/
structure GoodR (r : List Int) : Prop where
  nd : r.Nodup
  rg : ∀ x ∈ r, 0 ≤ x ∧ x < 32
  h0 : r.getD 0 default = 0
  pos : 0 < r.length
  len : r.length ≤ 9
theorem mkS_size {L : List Int} (h : ∀ x ∈ L, 0 ≤ x ∧ x < 32) : (mkS L).size = L.length := by
  rw [← bytesI_len, bytesI_mkS fun x hx => by have := h x hx; omega]
theorem mkS_tail {L : List Int} (h : ∀ x ∈ L, 0 ≤ x ∧ x < 32) : (mkS L).extract 1 (mkS L).size = mkS (L.drop 1) := by
  refine bytesI_inj ?_
  rw [bytesI_tail, bytesI_mkS fun x hx => by have := h x hx; omega, bytesI_mkS fun x hx => by have := h x (List.mem_of_mem_drop hx); omega]
theorem stepM_good {L : List Int} {a : Int} (h1 : L.Nodup) (h2 : ∀ x ∈ L, 0 ≤ x ∧ x < 32) (h3 : 0 < L.length) (h4 : L.length ≤ 8) (ha : 0 ≤ a ∧ a < 32) (hne : L.getD 0 default ≠ a) : stepM (mkS L) a = (L.getD 0 default, mkS (L.drop 1), 0) := by
  have hb : bytesI (mkS L) = L := bytesI_mkS fun x hx => by have := h2 x hx; omega
  have hs := mkS_size h2
  have hr : rightB (mkS L) = true := decide_eq_true ⟨by rw [hb]; exact fun x hx => (h2 x hx).2, by omega, by rw [hb]; exact h1⟩
  have hne0 : mkS L ≠ noS := fun e => by rw [e] at hs; rw [← hs] at h3; cases h3
  have hb0 : bAt (mkS L) 0 = L.getD 0 default := by rw [bytesI_get _ (by omega), hb]
  rw [stepM, if_neg (by rw [hr]; simp), if_neg (by rw [nodeB, decide_eq_true ha]; simp), if_neg hne0, if_neg (by rw [hb0]; exact hne), hb0, mkS_tail h2]
theorem nodup_get {r : List Int} (h : r.Nodup) {i j : Nat} (hi : i < r.length) (hj : j < r.length) (hne : i ≠ j) : r.getD i default ≠ r.getD j default := by
  simp only [List.getD, List.getElem?_eq_getElem hi, List.getElem?_eq_getElem hj, Option.getD_some]
  intro e
  have hp := List.pairwise_iff_getElem.1 h
  rcases Nat.lt_trichotomy i j with h1 | h1 | h1
  · exact hp i j hi hj h1 e
  · exact hne h1
  · exact hp j i hj hi h1 e.symm
theorem goodR_of {l : List RP} {n : Int} (h : goodL (wayL l n).reverse = true) : GoodR (wayL l n).reverse := by
  obtain ⟨h1, h2, h3⟩ := of_decide_eq_true h
  obtain ⟨h4, h5⟩ := wayL_ok l n
  refine ⟨List.pairwise_reverse.2 (h4.imp fun h => h.symm), fun x hx => h5 x (List.mem_reverse.1 hx), h2, ?_, h3⟩
  rcases Nat.eq_zero_or_pos (wayL l n).reverse.length with h0 | h0
  · exact absurd (List.length_eq_zero_iff.1 h0) h1
  · exact h0
end Go.Proofs
