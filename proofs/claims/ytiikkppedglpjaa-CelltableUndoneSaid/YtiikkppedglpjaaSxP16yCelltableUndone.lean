/-
  Rows.CelltableUndoneSaid: the Go function hopmeshlaw16.CelltableUndone answers true for every input and leaves its arguments as they were. No condition.
-/
import Derived.Test.YtiikkppedglpjaaSxP16x
import Derived.Test.YtiikkppedglpjaaSxP16w
namespace Go.Proofs
open Go Go.Sx
theorem lawS : LawS Try.prog 9 [(true, [.int .i64, .int .i64, .sl shTC]), (true, shTC), (true, shTC)] := by
  intro xs h
  match xs, h with
  | [a0, a1, a2], ⟨h0, h1, h2, _⟩ =>
    obtain ⟨x0, e0⟩ := tbA_of h0
    obtain ⟨x1, e1⟩ := tcA_of h1
    obtain ⟨x2, e2⟩ := tcA_of h2
    exact ⟨_, (.cons e0 (.cons e1 (.cons e2 .nil))), lawUndone_spec x0 x1 x2⟩
end Go.Proofs
namespace Go.Proofs.Ytiikkppedglpjaa
open Go.ChangeShapes Go.WideShapes Go.ChangeAt Go.RowKit Go.Sx
set_option maxRecDepth 100000 in
theorem celltableUndone_handed (os : Os) (started : os.Started) (H : Type) (enc : TypeId × Value → H) :
    ReturnsInHanded {} Try.checked os 9 .any (Rows.celltableUndoneSpec.pre6 enc Try.prog Try.f9 Rows.celltableUndoneRow.domain false) (Rows.celltableUndoneSpec.post enc Try.prog Try.f9 false true false false) :=
  law_handed (n := 12) (C := Try.checked) Try.own started (by kernel_rfl) Try.func9
    (ChangeSpec.witness6 (enc := enc) (C := Try.checked) false ⟨#[], #[.agg #[.int .i64 0, .int .i64 0, .slice none 0 0], .agg #[.int .i64 0, .int .i64 0, .int .i64 0, .bool false, .int .i64 0, .int .i64 0], .agg #[.int .i64 0, .int .i64 0, .int .i64 0, .bool false, .int .i64 0, .int .i64 0]], []⟩ 8 (by kernel_rfl) (by kernel_rfl) (by kernel_rfl) (by kernel_rfl))
    Try.laidOut (by rw [Try.params9]; decide +kernel) rfl (fun ds h => by
      rw [Try.params9] at h
      match ds, h with
      | [_, _, _], _ => rfl) rfl (by kernel_rfl) (by kernel_rfl) lawS

theorem celltableUndone_holds : Rows.CelltableUndoneSaid :=
  OpenClaim.holds_of_wide 9 Try.f9 rfl rfl rfl rfl rfl rfl rfl ⟨rfl, rfl, rfl, rfl, rfl⟩ rfl rfl rfl rfl rfl (by kernel_rfl) Try.func9 (by kernel_rfl)
    (of_decide_eq_true (by kernel_rfl)) (by unfold Func.isWrapper; first | (rw [if_pos (by decide +kernel)]; kernel_rfl) | (rw [if_neg (by decide +kernel)]; exact ⟨rfl, rfl⟩))
    (fun os started H enc _ => celltableUndone_handed os started H enc)
end Go.Proofs.Ytiikkppedglpjaa

