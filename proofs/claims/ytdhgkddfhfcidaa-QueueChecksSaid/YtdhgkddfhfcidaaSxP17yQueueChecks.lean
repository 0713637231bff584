/-
  Rows.QueueChecksSaid: the Go function hopmeshlaw17.QueueChecks answers true for every input and leaves its arguments as they were. No condition.
-/
import Derived.Test.YtdhgkddfhfcidaaSxP17x
import Derived.Test.YtdhgkddfhfcidaaSxP17o
namespace Go.Proofs
open Go Go.Sx
theorem lawS : LawS Try.prog 3 [(true, [.int .i64, .sl shPk])] := by
  intro xs h
  match xs, h with
  | [a0], ⟨h0, _⟩ =>
    obtain ⟨x0, e0⟩ := quA_of h0
    exact ⟨_, (.cons e0 .nil), lawChecks_spec x0⟩
end Go.Proofs
namespace Go.Proofs.Ytdhgkddfhfcidaa
open Go.ChangeShapes Go.WideShapes Go.ChangeAt Go.RowKit Go.Sx
set_option maxRecDepth 100000 in
theorem queueChecks_handed (os : Os) (started : os.Started) (H : Type) (enc : TypeId × Value → H) :
    ReturnsInHanded {} Try.checked os 3 .any (Rows.queueChecksSpec.pre6 enc Try.prog Try.f3 Rows.queueChecksRow.domain false) (Rows.queueChecksSpec.post enc Try.prog Try.f3 false true false false) :=
  law_handed (n := 12) (C := Try.checked) Try.own started (by kernel_rfl) Try.func3
    (ChangeSpec.witness6 (enc := enc) (C := Try.checked) false ⟨#[], #[.agg #[.int .i64 0, .slice none 0 0]], []⟩ 8 (by kernel_rfl) (by kernel_rfl) (by kernel_rfl) (by kernel_rfl))
    Try.laidOut (by rw [Try.params3]; decide +kernel) rfl (fun ds h => by
      rw [Try.params3] at h
      match ds, h with
      | [_], _ => rfl) rfl (by kernel_rfl) (by kernel_rfl) lawS

theorem queueChecks_holds : Rows.QueueChecksSaid :=
  OpenClaim.holds_of_wide 3 Try.f3 rfl rfl rfl rfl rfl rfl rfl ⟨rfl, rfl, rfl, rfl, rfl⟩ rfl rfl rfl rfl rfl (by kernel_rfl) Try.func3 (by kernel_rfl)
    (of_decide_eq_true (by kernel_rfl)) (by unfold Func.isWrapper; first | (rw [if_pos (by decide +kernel)]; kernel_rfl) | (rw [if_neg (by decide +kernel)]; exact ⟨rfl, rfl⟩))
    (fun os started H enc _ => queueChecks_handed os started H enc)
end Go.Proofs.Ytdhgkddfhfcidaa


