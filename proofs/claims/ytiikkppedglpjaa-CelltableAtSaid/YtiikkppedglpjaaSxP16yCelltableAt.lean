/-
  Rows.CelltableAtSaid: the Go function hopmeshlaw16.CelltableAt answers true for every input and leaves its arguments as they were. No condition.
-/
import Derived.Test.YtiikkppedglpjaaSxP16x
import Derived.Test.YtiikkppedglpjaaSxP16s
namespace Go.Proofs
open Go Go.Sx
theorem lawS : LawS Try.prog 6 [(true, [.int .i64, .int .i64, .sl shTC]), (false, [.int .i64]), (false, [.int .i64])] := by
  intro xs h
  match xs, h with
  | [a0, a1, a2], ⟨h0, h1, h2, _⟩ =>
    obtain ⟨x0, e0⟩ := tbA_of h0
    obtain ⟨x1, rfl, w1⟩ := arg_int h1
    obtain ⟨x2, rfl, w2⟩ := arg_int h2
    exact ⟨_, (.cons e0 (.cons (.refl _) (.cons (.refl _) .nil))), lawAt_spec x0 x1 x2⟩
end Go.Proofs
namespace Go.Proofs.Ytiikkppedglpjaa
open Go.ChangeShapes Go.WideShapes Go.ChangeAt Go.RowKit Go.Sx
set_option maxRecDepth 100000 in
theorem celltableAt_handed (os : Os) (started : os.Started) (H : Type) (enc : TypeId × Value → H) :
    ReturnsInHanded {} Try.checked os 6 .any (Rows.celltableAtSpec.pre6 enc Try.prog Try.f6 Rows.celltableAtRow.domain false) (Rows.celltableAtSpec.post enc Try.prog Try.f6 false true false false) :=
  law_handed (n := 12) (C := Try.checked) Try.own started (by kernel_rfl) Try.func6
    (ChangeSpec.witness6 (enc := enc) (C := Try.checked) false ⟨#[], #[.agg #[.int .i64 0, .int .i64 0, .slice none 0 0], .int .i64 0, .int .i64 0], []⟩ 8 (by kernel_rfl) (by kernel_rfl) (by kernel_rfl) (by kernel_rfl))
    Try.laidOut (by rw [Try.params6]; decide +kernel) rfl (fun ds h => by
      rw [Try.params6] at h
      match ds, h with
      | [_, _, _], _ => rfl) rfl (by kernel_rfl) (by kernel_rfl) lawS

theorem celltableAt_holds : Rows.CelltableAtSaid :=
  OpenClaim.holds_of_wide 6 Try.f6 rfl rfl rfl rfl rfl rfl rfl ⟨rfl, rfl, rfl, rfl, rfl⟩ rfl rfl rfl rfl rfl (by kernel_rfl) Try.func6 (by kernel_rfl)
    (of_decide_eq_true (by kernel_rfl)) (by unfold Func.isWrapper; first | (rw [if_pos (by decide +kernel)]; kernel_rfl) | (rw [if_neg (by decide +kernel)]; exact ⟨rfl, rfl⟩))
    (fun os started H enc _ => celltableAt_handed os started H enc)
end Go.Proofs.Ytiikkppedglpjaa

