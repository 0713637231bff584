/-
  What functions of the given program hand back, by walks over its code, and plain laws on that. No condition.
-/
import Derived.Test.YtdhgkddfhfcidaaSxP17n
import Derived.Test.YtdhgkddfhfcidaaSxLibB
import Derived.Test.YtdhgkddfhfcidaaRows
namespace Go.Proofs
open Go Go.Sx
abbrev shPk : List Sh := [.int .i64, .int .i64, .int .i64, .int .i64, .int .i64, .str]
theorem pks_of {d : D} (h : HasSh (.sl shPk) d) : ∃ l : List Pk, DLe d (pks l) := by
  unfold HasSh at h
  obtain ⟨n, f, rfl, _, hf⟩ := h
  obtain ⟨l, _, _, hl⟩ := rd_of Pk.enc (fun _ => True) (n := n) (sz := 6) (f := f) (fun i hi => by
    have := hf i hi
    simp only [HasShs] at this
    obtain ⟨h0, h1, h2, h3, h4, h5, _⟩ := this
    obtain ⟨a0, e0, w0⟩ : ∃ n, f i 0 = .int .i64 n ∧ (Lit.int .i64 n).wf = true := by unfold HasSh at h0; exact h0
    obtain ⟨a1, e1, w1⟩ : ∃ n, f i 1 = .int .i64 n ∧ (Lit.int .i64 n).wf = true := by unfold HasSh at h1; exact h1
    obtain ⟨a2, e2, w2⟩ : ∃ n, f i 2 = .int .i64 n ∧ (Lit.int .i64 n).wf = true := by unfold HasSh at h2; exact h2
    obtain ⟨a3, e3, w3⟩ : ∃ n, f i 3 = .int .i64 n ∧ (Lit.int .i64 n).wf = true := by unfold HasSh at h3; exact h3
    obtain ⟨a4, e4, w4⟩ : ∃ n, f i 4 = .int .i64 n ∧ (Lit.int .i64 n).wf = true := by unfold HasSh at h4; exact h4
    obtain ⟨a5, e5, w5⟩ : ∃ n : ByteArray, f i 5 = .str n ∧ n.size ≤ maxLen := by unfold HasSh at h5; exact h5
    refine ⟨⟨a0, a1, a2, a3, a4, a5⟩, trivial, fun j hj => ?_⟩
    have : j = 0 ∨ j = 1 ∨ j = 2 ∨ j = 3 ∨ j = 4 ∨ j = 5 := by omega
    rcases this with rfl | rfl | rfl | rfl | rfl | rfl
    · rw [show f i 0 = _ from e0]; exact DLe.refl _
    · rw [show f i 1 = _ from e1]; exact DLe.refl _
    · rw [show f i 2 = _ from e2]; exact DLe.refl _
    · rw [show f i 3 = _ from e3]; exact DLe.refl _
    · rw [show f i 4 = _ from e4]; exact DLe.refl _
    · rw [show f i 5 = _ from e5]; exact DLe.refl _)
  exact ⟨l, hl⟩
theorem quA_of {a : AV} (h : ∃ ds, a = avOf true ds ∧ HasShL [.int .i64, .sl shPk] ds) : ∃ x : Qu, ALe (P := Try.prog) a (quA x) := by
  obtain ⟨ds, rfl, h⟩ := h
  have hl := hasShL_len h
  match ds, hl, h with
  | [d0, d1], _, h =>
    simp only [HasShL] at h
    obtain ⟨h0, h1, _⟩ := h
    obtain ⟨a0, e0, w0⟩ : ∃ n, d0 = .int .i64 n ∧ (Lit.int .i64 n).wf = true := by unfold HasSh at h0; exact h0
    obtain ⟨a1, e1⟩ := pks_of h1
    exact ⟨⟨a0, a1⟩, ALe.agg (es := [_, _]) (.cons (by rw [e0]; exact DLe.refl _) (.cons e1 .nil))⟩
theorem intsD_of {d : D} (h : HasSh (.sl [.int .i64]) d) : ∃ l : List Int, DLe d (ints l) := by
  obtain ⟨l, hl, _⟩ := ints_of h
  exact ⟨l, hl⟩
end Go.Proofs
namespace Go.Proofs.Ytdhgkddfhfcidaa
theorem Try.own : ownKnob Try.prog.godebug = none := by kernel_rfl
theorem Try.laidOut : laidOutB Try.prog = true := by kernel_rfl
end Go.Proofs.Ytdhgkddfhfcidaa
