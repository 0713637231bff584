/-
  Rows.DownwardHeadersSaid: the Go function hopmeshlaw24.DownwardHeaders answers true for every input and leaves its arguments as they were. No condition.
-/
import Derived.Test.YtplonmkbgocmlaaSxP24x
import Derived.Test.YtplonmkbgocmlaaSxP24m
namespace Go.Proofs
open Go Go.Sx
theorem lawS : LawS Try.prog 4 [(false, [.sl [.int .i64]]), (false, [.str]), (false, [.int .i64])] := by
  intro xs h
  match xs, h with
  | [a0, a1, a2], ⟨h0, h1, h2, _⟩ =>
    obtain ⟨x0, e0⟩ := arg_sl intsD_of h0
    obtain ⟨x1, rfl, w1⟩ := arg_str h1
    obtain ⟨x2, rfl, w2⟩ := arg_int h2
    exact ⟨_, (.cons e0 (.cons (.refl _) (.cons (.refl _) .nil))), lawHeaders_spec x0 x1 x2 w1⟩
end Go.Proofs
namespace Go.Proofs.Ytplonmkbgocmlaa
open Go.ChangeShapes Go.WideShapes Go.ChangeAt Go.RowKit Go.Sx
set_option maxRecDepth 100000 in
theorem downwardHeaders_handed (os : Os) (started : os.Started) (H : Type) (enc : TypeId × Value → H) :
    ReturnsInHanded {} Try.checked os 4 .any (Rows.downwardHeadersSpec.pre6 enc Try.prog Try.f4 Rows.downwardHeadersRow.domain false) (Rows.downwardHeadersSpec.post enc Try.prog Try.f4 false true false false) :=
  law_handed (n := 12) (C := Try.checked) Try.own started (by kernel_rfl) Try.func4
    (ChangeSpec.witness6 (enc := enc) (C := Try.checked) false ⟨#[], #[.slice none 0 0, .string ⟨#[]⟩, .int .i64 0], []⟩ 8 (by kernel_rfl) (by kernel_rfl) (by kernel_rfl) (by kernel_rfl))
    Try.laidOut (by rw [Try.params4]; decide +kernel) rfl (fun ds h => by
      rw [Try.params4] at h
      match ds, h with
      | [_, _, _], _ => rfl) rfl (by kernel_rfl) (by kernel_rfl) lawS

theorem downwardHeaders_holds : Rows.DownwardHeadersSaid :=
  OpenClaim.holds_of_wide 4 Try.f4 rfl rfl rfl rfl rfl rfl rfl ⟨rfl, rfl, rfl, rfl, rfl⟩ rfl rfl rfl rfl rfl (by kernel_rfl) Try.func4 (by kernel_rfl)
    (of_decide_eq_true (by kernel_rfl)) (by unfold Func.isWrapper; first | (rw [if_pos (by decide +kernel)]; kernel_rfl) | (rw [if_neg (by decide +kernel)]; exact ⟨rfl, rfl⟩))
    (fun os started H enc _ => downwardHeaders_handed os started H enc)
end Go.Proofs.Ytplonmkbgocmlaa


