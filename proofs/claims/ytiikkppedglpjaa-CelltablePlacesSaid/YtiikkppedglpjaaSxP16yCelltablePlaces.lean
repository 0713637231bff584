/-
  Rows.CelltablePlacesSaid: the Go function hopmeshlaw16.CelltablePlaces answers true for every input and leaves its arguments as they were. No condition.
-/
import Derived.Test.YtiikkppedglpjaaSxP16x
import Derived.Test.YtiikkppedglpjaaSxP16s
namespace Go.Proofs
open Go Go.Sx
theorem lawS : LawS Try.prog 7 [(true, [.int .i64, .int .i64, .sl shTC]), (true, [.int .i64, .int .i64, .sl shTC]), (false, [.sl [.int .i64]]), (true, shSpot), (false, [.int .i64])] := by
  intro xs h
  match xs, h with
  | [a0, a1, a2, a3, a4], ⟨h0, h1, h2, h3, h4, _⟩ =>
    obtain ⟨x0, e0⟩ := tbA_of h0
    obtain ⟨x1, e1⟩ := tbA_of h1
    obtain ⟨x2, e2⟩ := arg_sl intsD_of h2
    obtain ⟨x3, e3⟩ := spA_of h3
    obtain ⟨x4, rfl, w4⟩ := arg_int h4
    exact ⟨_, (.cons e0 (.cons e1 (.cons e2 (.cons e3 (.cons (.refl _) .nil))))), lawPlaces_spec x0 x1 x2 x3 x4⟩
end Go.Proofs
namespace Go.Proofs.Ytiikkppedglpjaa
open Go.ChangeShapes Go.WideShapes Go.ChangeAt Go.RowKit Go.Sx
set_option maxRecDepth 100000 in
theorem celltablePlaces_handed (os : Os) (started : os.Started) (H : Type) (enc : TypeId × Value → H) :
    ReturnsInHanded {} Try.checked os 7 .any (Rows.celltablePlacesSpec.pre6 enc Try.prog Try.f7 Rows.celltablePlacesRow.domain false) (Rows.celltablePlacesSpec.post enc Try.prog Try.f7 false true false false) :=
  law_handed (n := 12) (C := Try.checked) Try.own started (by kernel_rfl) Try.func7
    (ChangeSpec.witness6 (enc := enc) (C := Try.checked) false ⟨#[], #[.agg #[.int .i64 0, .int .i64 0, .slice none 0 0], .agg #[.int .i64 0, .int .i64 0, .slice none 0 0], .slice none 0 0, .agg #[.int .i64 0, .int .i64 0], .int .i64 0], []⟩ 8 (by kernel_rfl) (by kernel_rfl) (by kernel_rfl) (by kernel_rfl))
    Try.laidOut (by rw [Try.params7]; decide +kernel) rfl (fun ds h => by
      rw [Try.params7] at h
      match ds, h with
      | [_, _, _, _, _], _ => rfl) rfl (by kernel_rfl) (by kernel_rfl) lawS

theorem celltablePlaces_holds : Rows.CelltablePlacesSaid :=
  OpenClaim.holds_of_wide 7 Try.f7 rfl rfl rfl rfl rfl rfl rfl ⟨rfl, rfl, rfl, rfl, rfl⟩ rfl rfl rfl rfl rfl (by kernel_rfl) Try.func7 (by kernel_rfl)
    (of_decide_eq_true (by kernel_rfl)) (by unfold Func.isWrapper; first | (rw [if_pos (by decide +kernel)]; kernel_rfl) | (rw [if_neg (by decide +kernel)]; exact ⟨rfl, rfl⟩))
    (fun os started H enc _ => celltablePlaces_handed os started H enc)
end Go.Proofs.Ytiikkppedglpjaa

