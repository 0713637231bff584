/-
  Rows.DownwardOldSaid: the Go function hopmeshlaw24.DownwardOld answers true for every input and leaves its arguments as they were. No condition.
-/
import Derived.Test.YtplonmkbgocmlaaSxP24x
import Derived.Test.YtplonmkbgocmlaaSxP24q
namespace Go.Proofs
open Go Go.Sx
theorem lawS : LawS Try.prog 7 [(false, [.sl shRP]), (true, shRP)] := by
  intro xs h
  match xs, h with
  | [a0, a1], ⟨h0, h1, _⟩ =>
    obtain ⟨x0, e0⟩ := arg_sl rps_of h0
    obtain ⟨x1, e1⟩ := rpA_of h1
    exact ⟨_, (.cons e0 (.cons e1 .nil)), lawOld_spec x0 x1⟩
end Go.Proofs
namespace Go.Proofs.Ytplonmkbgocmlaa
open Go.ChangeShapes Go.WideShapes Go.ChangeAt Go.RowKit Go.Sx
set_option maxRecDepth 100000 in
theorem downwardOld_handed (os : Os) (started : os.Started) (H : Type) (enc : TypeId × Value → H) :
    ReturnsInHanded {} Try.checked os 7 .any (Rows.downwardOldSpec.pre6 enc Try.prog Try.f7 Rows.downwardOldRow.domain false) (Rows.downwardOldSpec.post enc Try.prog Try.f7 false true false false) :=
  law_handed (n := 12) (C := Try.checked) Try.own started (by kernel_rfl) Try.func7
    (ChangeSpec.witness6 (enc := enc) (C := Try.checked) false ⟨#[], #[.slice none 0 0, .agg #[.int .i64 0, .int .i64 0, .int .i64 0]], []⟩ 8 (by kernel_rfl) (by kernel_rfl) (by kernel_rfl) (by kernel_rfl))
    Try.laidOut (by rw [Try.params7]; decide +kernel) rfl (fun ds h => by
      rw [Try.params7] at h
      match ds, h with
      | [_, _], _ => rfl) rfl (by kernel_rfl) (by kernel_rfl) lawS

theorem downwardOld_holds : Rows.DownwardOldSaid :=
  OpenClaim.holds_of_wide 7 Try.f7 rfl rfl rfl rfl rfl rfl rfl ⟨rfl, rfl, rfl, rfl, rfl⟩ rfl rfl rfl rfl rfl (by kernel_rfl) Try.func7 (by kernel_rfl)
    (of_decide_eq_true (by kernel_rfl)) (by unfold Func.isWrapper; first | (rw [if_pos (by decide +kernel)]; kernel_rfl) | (rw [if_neg (by decide +kernel)]; exact ⟨rfl, rfl⟩))
    (fun os started H enc _ => downwardOld_handed os started H enc)
end Go.Proofs.Ytplonmkbgocmlaa


