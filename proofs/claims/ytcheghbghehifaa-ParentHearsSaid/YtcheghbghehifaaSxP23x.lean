/-
  What functions of the given program hand back, by walks over its code, and plain laws on that. No condition.
-/
import Derived.Test.YtcheghbghehifaaSxP23o
import Derived.Test.YtcheghbghehifaaSxLibB
import Derived.Test.YtcheghbghehifaaRows
namespace Go.Proofs
open Go Go.Sx

abbrev shNb : List Sh := [.int .i64, .int .i64, .int .i64, .int .i64, .int .i64, .int .i64]
theorem nbs_of {d : D} (h : HasSh (.sl shNb) d) : ∃ l : List Nb, DLe d (nbs l) := by
  unfold HasSh at h
  obtain ⟨n, f, rfl, _, hf⟩ := h
  obtain ⟨l, _, _, hl⟩ := rd_of Nb.enc (fun _ => True) (n := n) (sz := 6) (f := f) (fun i hi => by
    have := hf i hi
    simp only [HasShs, HasSh] at this
    obtain ⟨⟨a0, e0, _⟩, ⟨a1, e1, _⟩, ⟨a2, e2, _⟩, ⟨a3, e3, _⟩, ⟨a4, e4, _⟩, ⟨a5, e5, _⟩, _⟩ := this
    refine ⟨⟨a0, a1, a2, a3, a4, a5⟩, trivial, fun j hj => ?_⟩
    have : j = 0 ∨ j = 1 ∨ j = 2 ∨ j = 3 ∨ j = 4 ∨ j = 5 := by omega
    rcases this with rfl | rfl | rfl | rfl | rfl | rfl
    · rw [show f i 0 = _ from e0]; exact DLe.refl _
    · rw [show f i 1 = _ from e1]; exact DLe.refl _
    · rw [show f i 2 = _ from e2]; exact DLe.refl _
    · rw [show f i 3 = _ from e3]; exact DLe.refl _
    · rw [show f i 4 = _ from e4]; exact DLe.refl _
    · rw [show f i 5 = _ from e5]; exact DLe.refl _)
  exact ⟨l, hl⟩
theorem nbsA_of {a : AV} (h : ∃ ds, a = avOf false ds ∧ HasShL [.sl shNb] ds) : ∃ l : List Nb, ALe (P := Try.prog) a (AD (nbs l)) := by
  obtain ⟨ds, rfl, h⟩ := h
  cases ds with
  | nil => exact h.elim
  | cons d ds =>
    obtain ⟨l, hl⟩ := nbs_of h.1
    exact ⟨l, ALe.of hl⟩
theorem rkA_of {a : AV} (h : ∃ ds, a = avOf true ds ∧ HasShL shNb ds) : ∃ r : Rk, a = rkA r := by
  obtain ⟨ds, rfl, h⟩ := h
  have hl := hasShL_len h
  match ds, hl, h with
  | [d0, d1, d2, d3, d4, d5], _, h =>
    simp only [HasShL, HasSh] at h
    obtain ⟨⟨a0, rfl, _⟩, ⟨a1, rfl, _⟩, ⟨a2, rfl, _⟩, ⟨a3, rfl, _⟩, ⟨a4, rfl, _⟩, ⟨a5, rfl, _⟩, _⟩ := h
    exact ⟨⟨a0, a1, a2, a3, a4, a5⟩, rfl⟩
theorem int_of {k : IntKind} {a : AV} (h : ∃ ds, a = avOf false ds ∧ HasShL [.int k] ds) : ∃ n : Int, a = AD (.int k n) ∧ (Lit.int k n).wf = true := by
  obtain ⟨ds, rfl, h⟩ := h
  cases ds with
  | nil => exact h.elim
  | cons d ds =>
    simp only [HasShL, HasSh] at h
    obtain ⟨⟨n, rfl, hn⟩, _⟩ := h
    exact ⟨n, rfl, hn⟩

end Go.Proofs
namespace Go.Proofs.Ytcheghbghehifaa
theorem Try.own : ownKnob Try.prog.godebug = none := by kernel_rfl
theorem Try.laidOut : laidOutB Try.prog = true := by kernel_rfl
end Go.Proofs.Ytcheghbghehifaa
namespace Go.Proofs
open Go Go.Sx
theorem u16_range {n : Int} (h : (Lit.int .u16 n).wf = true) : 0 ≤ n ∧ n ≤ 65535 := by
  simp only [Lit.wf, Bool.and_eq_true, decide_eq_true_eq] at h
  exact h
end Go.Proofs

