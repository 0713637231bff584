/-
  Rows.DownwardParentsSaid: the Go function hopmeshlaw24.DownwardParents answers true for every input and leaves its arguments as they were. No condition.
-/
import Derived.Test.YtplonmkbgocmlaaSxP24x
import Derived.Test.YtplonmkbgocmlaaSxP24r
namespace Go.Proofs
open Go Go.Sx
theorem lawS : LawS Try.prog 9 [(false, [.sl shRP]), (false, [.int .i64])] := by
  intro xs h
  match xs, h with
  | [a0, a1], ⟨h0, h1, _⟩ =>
    obtain ⟨x0, e0⟩ := arg_sl rps_of h0
    obtain ⟨x1, rfl, w1⟩ := arg_int h1
    exact ⟨_, (.cons e0 (.cons (.refl _) .nil)), lawParents_spec x0 x1⟩
end Go.Proofs
namespace Go.Proofs.Ytplonmkbgocmlaa
open Go.ChangeShapes Go.WideShapes Go.ChangeAt Go.RowKit Go.Sx
set_option maxRecDepth 100000 in
theorem downwardParents_handed (os : Os) (started : os.Started) (H : Type) (enc : TypeId × Value → H) :
    ReturnsInHanded {} Try.checked os 9 .any (Rows.downwardParentsSpec.pre6 enc Try.prog Try.f9 Rows.downwardParentsRow.domain false) (Rows.downwardParentsSpec.post enc Try.prog Try.f9 false true false false) :=
  law_handed (n := 12) (C := Try.checked) Try.own started (by kernel_rfl) Try.func9
    (ChangeSpec.witness6 (enc := enc) (C := Try.checked) false ⟨#[], #[.slice none 0 0, .int .i64 0], []⟩ 8 (by kernel_rfl) (by kernel_rfl) (by kernel_rfl) (by kernel_rfl))
    Try.laidOut (by rw [Try.params9]; decide +kernel) rfl (fun ds h => by
      rw [Try.params9] at h
      match ds, h with
      | [_, _], _ => rfl) rfl (by kernel_rfl) (by kernel_rfl) lawS

theorem downwardParents_holds : Rows.DownwardParentsSaid :=
  OpenClaim.holds_of_wide 9 Try.f9 rfl rfl rfl rfl rfl rfl rfl ⟨rfl, rfl, rfl, rfl, rfl⟩ rfl rfl rfl rfl rfl (by kernel_rfl) Try.func9 (by kernel_rfl)
    (of_decide_eq_true (by kernel_rfl)) (by unfold Func.isWrapper; first | (rw [if_pos (by decide +kernel)]; kernel_rfl) | (rw [if_neg (by decide +kernel)]; exact ⟨rfl, rfl⟩))
    (fun os started H enc _ => downwardParents_handed os started H enc)
end Go.Proofs.Ytplonmkbgocmlaa


