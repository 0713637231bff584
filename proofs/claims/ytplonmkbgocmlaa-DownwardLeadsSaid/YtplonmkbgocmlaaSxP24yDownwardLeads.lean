/-
  Rows.DownwardLeadsSaid: the Go function hopmeshlaw24.DownwardLeads answers true for every input and leaves its arguments as they were. No condition.
-/
import Derived.Test.YtplonmkbgocmlaaSxP24x
import Derived.Test.YtplonmkbgocmlaaSxP24n
namespace Go.Proofs
open Go Go.Sx
theorem lawS : LawS Try.prog 6 [(false, [.sl [.int .i64]])] := by
  intro xs h
  match xs, h with
  | [a0], ⟨h0, _⟩ =>
    obtain ⟨x0, e0⟩ := arg_sl intsD_of h0
    exact ⟨_, (.cons e0 .nil), lawLeads_spec x0⟩
end Go.Proofs
namespace Go.Proofs.Ytplonmkbgocmlaa
open Go.ChangeShapes Go.WideShapes Go.ChangeAt Go.RowKit Go.Sx
set_option maxRecDepth 100000 in
theorem downwardLeads_handed (os : Os) (started : os.Started) (H : Type) (enc : TypeId × Value → H) :
    ReturnsInHanded {} Try.checked os 6 .any (Rows.downwardLeadsSpec.pre6 enc Try.prog Try.f6 Rows.downwardLeadsRow.domain false) (Rows.downwardLeadsSpec.post enc Try.prog Try.f6 false true false false) :=
  law_handed (n := 12) (C := Try.checked) Try.own started (by kernel_rfl) Try.func6
    (ChangeSpec.witness6 (enc := enc) (C := Try.checked) false ⟨#[], #[.slice none 0 0], []⟩ 8 (by kernel_rfl) (by kernel_rfl) (by kernel_rfl) (by kernel_rfl))
    Try.laidOut (by rw [Try.params6]; decide +kernel) rfl (fun ds h => by
      rw [Try.params6] at h
      match ds, h with
      | [_], _ => rfl) rfl (by kernel_rfl) (by kernel_rfl) lawS

theorem downwardLeads_holds : Rows.DownwardLeadsSaid :=
  OpenClaim.holds_of_wide 6 Try.f6 rfl rfl rfl rfl rfl rfl rfl ⟨rfl, rfl, rfl, rfl, rfl⟩ rfl rfl rfl rfl rfl (by kernel_rfl) Try.func6 (by kernel_rfl)
    (of_decide_eq_true (by kernel_rfl)) (by unfold Func.isWrapper; first | (rw [if_pos (by decide +kernel)]; kernel_rfl) | (rw [if_neg (by decide +kernel)]; exact ⟨rfl, rfl⟩))
    (fun os started H enc _ => downwardLeads_handed os started H enc)
end Go.Proofs.Ytplonmkbgocmlaa


