/-
  Rows.CelltableOfSaid: the Go function hopmeshlaw16.CelltableOf answers true for every input and leaves its arguments as they were. No condition.
-/
import Derived.Test.YtiikkppedglpjaaSxP16x
import Derived.Test.YtiikkppedglpjaaSxP16s
namespace Go.Proofs
open Go Go.Sx
theorem lawS : LawS Try.prog 4 [(true, [.int .i64, .int .i64, .sl shCE]), (false, [.int .i64])] := by
  intro xs h
  match xs, h with
  | [a0, a1], ⟨h0, h1, _⟩ =>
    obtain ⟨x0, e0⟩ := schA_of h0
    obtain ⟨x1, rfl, w1⟩ := arg_int h1
    exact ⟨_, (.cons e0 (.cons (.refl _) .nil)), lawOf_spec x0 x1⟩
end Go.Proofs
namespace Go.Proofs.Ytiikkppedglpjaa
open Go.ChangeShapes Go.WideShapes Go.ChangeAt Go.RowKit Go.Sx
set_option maxRecDepth 100000 in
theorem celltableOf_handed (os : Os) (started : os.Started) (H : Type) (enc : TypeId × Value → H) :
    ReturnsInHanded {} Try.checked os 4 .any (Rows.celltableOfSpec.pre6 enc Try.prog Try.f4 Rows.celltableOfRow.domain false) (Rows.celltableOfSpec.post enc Try.prog Try.f4 false true false false) :=
  law_handed (n := 12) (C := Try.checked) Try.own started (by kernel_rfl) Try.func4
    (ChangeSpec.witness6 (enc := enc) (C := Try.checked) false ⟨#[], #[.agg #[.int .i64 0, .int .i64 0, .slice none 0 0], .int .i64 0], []⟩ 8 (by kernel_rfl) (by kernel_rfl) (by kernel_rfl) (by kernel_rfl))
    Try.laidOut (by rw [Try.params4]; decide +kernel) rfl (fun ds h => by
      rw [Try.params4] at h
      match ds, h with
      | [_, _], _ => rfl) rfl (by kernel_rfl) (by kernel_rfl) lawS

theorem celltableOf_holds : Rows.CelltableOfSaid :=
  OpenClaim.holds_of_wide 4 Try.f4 rfl rfl rfl rfl rfl rfl rfl ⟨rfl, rfl, rfl, rfl, rfl⟩ rfl rfl rfl rfl rfl (by kernel_rfl) Try.func4 (by kernel_rfl)
    (of_decide_eq_true (by kernel_rfl)) (by unfold Func.isWrapper; first | (rw [if_pos (by decide +kernel)]; kernel_rfl) | (rw [if_neg (by decide +kernel)]; exact ⟨rfl, rfl⟩))
    (fun os started H enc _ => celltableOf_handed os started H enc)
end Go.Proofs.Ytiikkppedglpjaa

