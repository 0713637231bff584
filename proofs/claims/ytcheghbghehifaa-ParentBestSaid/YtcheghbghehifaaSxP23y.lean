/-
  What functions of the given program hand back, by walks over its code, and plain laws on that. No condition.
-/
import Derived.Test.YtcheghbghehifaaSxP23o
import Derived.Test.YtcheghbghehifaaSxLift
import Derived.Test.YtcheghbghehifaaRows
namespace Go.Proofs
open Go Go.Sx

abbrev shNb : List Sh := [.int .i64, .int .i64, .int .i64, .int .i64, .int .i64, .int .i64]
theorem nbs_of {d : D} (h : HasSh (.sl shNb) d) : ∃ l : List Nb, DLe d (nbs l) := by
  unfold HasSh at h
  obtain ⟨n, f, rfl, _, hf⟩ := h
  obtain ⟨l, _, _, hl⟩ := rd_of Nb.enc (fun _ => True) (n := n) (sz := 6) (f := f) (fun i hi => by
    have := hf i hi
    simp only [shNb, HasShs, HasSh] at this
    obtain ⟨⟨a0, e0, _⟩, ⟨a1, e1, _⟩, ⟨a2, e2, _⟩, ⟨a3, e3, _⟩, ⟨a4, e4, _⟩, ⟨a5, e5, _⟩, _⟩ := this
    refine ⟨⟨a0, a1, a2, a3, a4, a5⟩, trivial, fun j hj => ?_⟩
    have : j = 0 ∨ j = 1 ∨ j = 2 ∨ j = 3 ∨ j = 4 ∨ j = 5 := by omega
    rcases this with rfl | rfl | rfl | rfl | rfl | rfl
    · rw [show f i 0 = _ from e0]; exact DLe.refl _
    · rw [show f i 1 = _ from e1]; exact DLe.refl _
    · rw [show f i 2 = _ from e2]; exact DLe.refl _
    · rw [show f i 3 = _ from e3]; exact DLe.refl _
    · rw [show f i 4 = _ from e4]; exact DLe.refl _
    · rw [show f i 5 = _ from e5]; exact DLe.refl _)
  exact ⟨l, hl⟩
theorem nbsA_of {a : AV} (h : ∃ ds, a = avOf false ds ∧ HasShL [.sl shNb] ds) : ∃ l : List Nb, ALe (P := Try.prog) a (AD (nbs l)) := by
  obtain ⟨ds, rfl, h⟩ := h
  cases ds with
  | nil => exact h.elim
  | cons d ds =>
    obtain ⟨l, hl⟩ := nbs_of h.1
    exact ⟨l, ALe.of hl⟩
theorem rkA_of {a : AV} (h : ∃ ds, a = avOf true ds ∧ HasShL shNb ds) : ∃ r : Rk, a = rkA r := by
  obtain ⟨ds, rfl, h⟩ := h
  have hl := hasShL_len h
  match ds, hl, h with
  | [d0, d1, d2, d3, d4, d5], _, h =>
    simp only [HasShL, HasSh] at h
    obtain ⟨⟨a0, rfl, _⟩, ⟨a1, rfl, _⟩, ⟨a2, rfl, _⟩, ⟨a3, rfl, _⟩, ⟨a4, rfl, _⟩, ⟨a5, rfl, _⟩, _⟩ := h
    exact ⟨⟨a0, a1, a2, a3, a4, a5⟩, rfl⟩
theorem int_of {k : IntKind} {a : AV} (h : ∃ ds, a = avOf false ds ∧ HasShL [.int k] ds) : ∃ n : Int, a = AD (.int k n) ∧ (Lit.int k n).wf = true := by
  obtain ⟨ds, rfl, h⟩ := h
  cases ds with
  | nil => exact h.elim
  | cons d ds =>
    simp only [HasShL, HasSh] at h
    obtain ⟨⟨n, rfl, hn⟩, _⟩ := h
    exact ⟨n, rfl, hn⟩

theorem lawS_best : LawS Try.prog 3 [(false, [.sl shNb]), (true, shNb)] := by
  intro xs h
  match xs, h with
  | [a, b], ⟨ha, hb, _⟩ =>
    obtain ⟨l, hl⟩ := nbsA_of ha
    obtain ⟨r, rfl⟩ := rkA_of hb
    exact ⟨_, .cons hl (.cons (.refl _) .nil), lawBest_spec l r⟩
end Go.Proofs
namespace Go.Proofs.Ytcheghbghehifaa
open Go.ChangeShapes Go.WideShapes Go.ChangeAt Go.RowKit Go.Sx
theorem Try.own : ownKnob Try.prog.godebug = none := by kernel_rfl
theorem Try.laidOut : laidOutB Try.prog = true := by kernel_rfl

set_option maxRecDepth 100000 in
theorem parentBest_handed (os : Os) (started : os.Started) (H : Type) (enc : TypeId × Value → H) :
    ReturnsInHanded {} Try.checked os 3 .any (Rows.parentBestSpec.pre6 enc Try.prog Try.f3 Rows.parentBestRow.domain false) (Rows.parentBestSpec.post enc Try.prog Try.f3 false true false false) :=
  law_handed (n := 8) (C := Try.checked) Try.own started (by kernel_rfl) Try.func3
    (ChangeSpec.witness6 (enc := enc) (C := Try.checked) false ⟨#[], #[.slice none 0 0, .agg #[.int .i64 0, .int .i64 0, .int .i64 0, .int .i64 0, .int .i64 0, .int .i64 0]], []⟩ 8 (by kernel_rfl) (by kernel_rfl) (by kernel_rfl) (by kernel_rfl))
    Try.laidOut (by rw [Try.params3]; decide +kernel) rfl (fun ds h => by
      rw [Try.params3] at h
      match ds, h with
      | [_, _], _ => rfl) rfl (by kernel_rfl) (by kernel_rfl) lawS_best

theorem parentBest_holds : Rows.ParentBestSaid :=
  OpenClaim.holds_of_wide 3 Try.f3 rfl rfl rfl rfl rfl rfl rfl ⟨rfl, rfl, rfl, rfl, rfl⟩ rfl rfl rfl rfl rfl (by kernel_rfl) Try.func3 (by kernel_rfl)
    (of_decide_eq_true (by kernel_rfl)) (by unfold Func.isWrapper; first | (rw [if_pos (by decide +kernel)]; kernel_rfl) | (rw [if_neg (by decide +kernel)]; exact ⟨rfl, rfl⟩))
    (fun os started H enc _ => parentBest_handed os started H enc)
end Go.Proofs.Ytcheghbghehifaa

