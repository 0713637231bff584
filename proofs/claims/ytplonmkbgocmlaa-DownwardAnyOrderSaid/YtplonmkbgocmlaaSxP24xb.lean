/-
  What functions of the given program hand back, by walks over its code, and plain laws on that. No condition.
-/
import Derived.Test.YtplonmkbgocmlaaSxP24x
import Derived.Test.YtplonmkbgocmlaaSxP24s
namespace Go.Proofs
open Go Go.Sx
theorem prs_of {d : D} (h : HasSh (.sl [.int .u8, .int .u8]) d) : ∃ l : List (Int × Int), (∀ p ∈ l, (0 ≤ p.1 ∧ p.1 < 256) ∧ 0 ≤ p.2 ∧ p.2 < 256) ∧ DLe d (prs l) := by
  unfold HasSh at h
  obtain ⟨n, f, rfl, _, hf⟩ := h
  obtain ⟨l, _, hq, hl⟩ := rd_of encP (fun p => (0 ≤ p.1 ∧ p.1 < 256) ∧ 0 ≤ p.2 ∧ p.2 < 256) (n := n) (sz := 2) (f := f) (fun i hi => by
    have := hf i hi
    simp only [HasShs] at this
    obtain ⟨h0, h1, _⟩ := this
    obtain ⟨a0, e0, w0⟩ : ∃ n, f i 0 = .int .u8 n ∧ (Lit.int .u8 n).wf = true := by unfold HasSh at h0; exact h0
    obtain ⟨a1, e1, w1⟩ : ∃ n, f i 1 = .int .u8 n ∧ (Lit.int .u8 n).wf = true := by unfold HasSh at h1; exact h1
    refine ⟨(a0, a1), ⟨?_, ?_⟩, fun j hj => ?_⟩
    · have := u8_range' w0; omega
    · have := u8_range' w1; omega
    · have : j = 0 ∨ j = 1 := by omega
      rcases this with rfl | rfl
      · rw [show f i 0 = _ from e0]; exact DLe.refl _
      · rw [show f i 1 = _ from e1]; exact DLe.refl _)
  exact ⟨l, hq, hl⟩
theorem ag_of {d : D} (h : HasSh (.sl [.int .u8]) d) : ∃ l : List Int, (∀ x ∈ l, 0 ≤ x ∧ x < 256) ∧ DLe d (rdOf enc8 1 l) := by
  obtain ⟨l, hl, hw⟩ := ints_of h
  refine ⟨l, fun x hx => ?_, hl⟩
  have := u8_range' (hw x hx); omega
theorem arg_sw {a : AV} (h : ∃ ds, a = avOf false ds ∧ HasShL [.sl [.int .u8, .int .u8]] ds) : ∃ l : List (Int × Int), (∀ p ∈ l, (0 ≤ p.1 ∧ p.1 < 256) ∧ 0 ≤ p.2 ∧ p.2 < 256) ∧ ALe (P := Try.prog) a (AD (prs l)) := by
  obtain ⟨ds, rfl, h⟩ := h
  have hl := hasShL_len h
  match ds, hl, h with
  | [d0], _, h =>
    simp only [HasShL] at h
    obtain ⟨l, h1, h2⟩ := prs_of h.1
    exact ⟨l, h1, ALe.of h2⟩
theorem arg_ag {a : AV} (h : ∃ ds, a = avOf false ds ∧ HasShL [.sl [.int .u8]] ds) : ∃ l : List Int, (∀ x ∈ l, 0 ≤ x ∧ x < 256) ∧ ALe (P := Try.prog) a (AD (rdOf enc8 1 l)) := by
  obtain ⟨ds, rfl, h⟩ := h
  have hl := hasShL_len h
  match ds, hl, h with
  | [d0], _, h =>
    simp only [HasShL] at h
    obtain ⟨l, h1, h2⟩ := ag_of h.1
    exact ⟨l, h1, ALe.of h2⟩
end Go.Proofs


