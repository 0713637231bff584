/-
  What functions of the given program hand back, by walks over its code, and plain laws on that. No condition.
-/
import Derived.Test.YtplonmkbgocmlaaSxP24l
import Derived.Test.YtplonmkbgocmlaaSxLibB
import Derived.Test.YtplonmkbgocmlaaRows
namespace Go.Proofs
open Go Go.Sx
abbrev shRP : List Sh := [.int .i64, .int .i64, .int .i64]
theorem intsD_of {d : D} (h : HasSh (.sl [.int .i64]) d) : ∃ l : List Int, DLe d (ints l) := by
  obtain ⟨l, hl, _⟩ := ints_of h
  exact ⟨l, hl⟩
theorem rps_of {d : D} (h : HasSh (.sl shRP) d) : ∃ l : List RP, DLe d (rps l) := by
  unfold HasSh at h
  obtain ⟨n, f, rfl, _, hf⟩ := h
  obtain ⟨l, _, _, hl⟩ := rd_of RP.enc (fun _ => True) (n := n) (sz := 3) (f := f) (fun i hi => by
    have := hf i hi
    simp only [HasShs] at this
    obtain ⟨h0, h1, h2, _⟩ := this
    obtain ⟨a0, e0, w0⟩ : ∃ n, f i 0 = .int .i64 n ∧ (Lit.int .i64 n).wf = true := by unfold HasSh at h0; exact h0
    obtain ⟨a1, e1, w1⟩ : ∃ n, f i 1 = .int .i64 n ∧ (Lit.int .i64 n).wf = true := by unfold HasSh at h1; exact h1
    obtain ⟨a2, e2, w2⟩ : ∃ n, f i 2 = .int .i64 n ∧ (Lit.int .i64 n).wf = true := by unfold HasSh at h2; exact h2
    refine ⟨⟨a0, a1, a2⟩, trivial, fun j hj => ?_⟩
    have : j = 0 ∨ j = 1 ∨ j = 2 := by omega
    rcases this with rfl | rfl | rfl
    · rw [show f i 0 = _ from e0]; exact DLe.refl _
    · rw [show f i 1 = _ from e1]; exact DLe.refl _
    · rw [show f i 2 = _ from e2]; exact DLe.refl _)
  exact ⟨l, hl⟩
theorem rpA_of {a : AV} (h : ∃ ds, a = avOf true ds ∧ HasShL shRP ds) : ∃ x : RP, ALe (P := Try.prog) a (rpA x) := by
  obtain ⟨ds, rfl, h⟩ := h
  have hl := hasShL_len h
  match ds, hl, h with
  | [d0, d1, d2], _, h =>
    simp only [HasShL] at h
    obtain ⟨h0, h1, h2, _⟩ := h
    obtain ⟨a0, e0, w0⟩ : ∃ n, d0 = .int .i64 n ∧ (Lit.int .i64 n).wf = true := by unfold HasSh at h0; exact h0
    obtain ⟨a1, e1, w1⟩ : ∃ n, d1 = .int .i64 n ∧ (Lit.int .i64 n).wf = true := by unfold HasSh at h1; exact h1
    obtain ⟨a2, e2, w2⟩ : ∃ n, d2 = .int .i64 n ∧ (Lit.int .i64 n).wf = true := by unfold HasSh at h2; exact h2
    exact ⟨⟨a0, a1, a2⟩, ALe.agg (es := [_, _, _]) (.cons (by rw [e0]; exact DLe.refl _) (.cons (by rw [e1]; exact DLe.refl _) (.cons (by rw [e2]; exact DLe.refl _) .nil)))⟩
end Go.Proofs
namespace Go.Proofs.Ytplonmkbgocmlaa
theorem Try.own : ownKnob Try.prog.godebug = none := by kernel_rfl
theorem Try.laidOut : laidOutB Try.prog = true := by kernel_rfl
end Go.Proofs.Ytplonmkbgocmlaa
