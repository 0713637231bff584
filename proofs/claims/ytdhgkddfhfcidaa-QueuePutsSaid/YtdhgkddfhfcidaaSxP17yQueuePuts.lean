/-
  Rows.QueuePutsSaid: the Go function hopmeshlaw17.QueuePuts answers true for every input and leaves its arguments as they were. No condition.
-/
import Derived.Test.YtdhgkddfhfcidaaSxP17x
import Derived.Test.YtdhgkddfhfcidaaSxP17o
namespace Go.Proofs
open Go Go.Sx
theorem lawS : LawS Try.prog 4 [(true, [.int .i64, .sl shPk]), (true, shPk)] := by
  intro xs h
  match xs, h with
  | [a0, a1], ⟨h0, h1, _⟩ =>
    obtain ⟨x0, e0⟩ := quA_of h0
    obtain ⟨x1, e1⟩ := pkA_of h1
    exact ⟨_, (.cons e0 (.cons e1 .nil)), lawPuts_spec x0 x1⟩
end Go.Proofs
namespace Go.Proofs.Ytdhgkddfhfcidaa
open Go.ChangeShapes Go.WideShapes Go.ChangeAt Go.RowKit Go.Sx
set_option maxRecDepth 100000 in
theorem queuePuts_handed (os : Os) (started : os.Started) (H : Type) (enc : TypeId × Value → H) :
    ReturnsInHanded {} Try.checked os 4 .any (Rows.queuePutsSpec.pre6 enc Try.prog Try.f4 Rows.queuePutsRow.domain false) (Rows.queuePutsSpec.post enc Try.prog Try.f4 false true false false) :=
  law_handed (n := 12) (C := Try.checked) Try.own started (by kernel_rfl) Try.func4
    (ChangeSpec.witness6 (enc := enc) (C := Try.checked) false ⟨#[], #[.agg #[.int .i64 0, .slice none 0 0], .agg #[.int .i64 0, .int .i64 0, .int .i64 0, .int .i64 0, .int .i64 0, .string ⟨#[]⟩]], []⟩ 8 (by kernel_rfl) (by kernel_rfl) (by kernel_rfl) (by kernel_rfl))
    Try.laidOut (by rw [Try.params4]; decide +kernel) rfl (fun ds h => by
      rw [Try.params4] at h
      match ds, h with
      | [_, _], _ => rfl) rfl (by kernel_rfl) (by kernel_rfl) lawS

theorem queuePuts_holds : Rows.QueuePutsSaid :=
  OpenClaim.holds_of_wide 4 Try.f4 rfl rfl rfl rfl rfl rfl rfl ⟨rfl, rfl, rfl, rfl, rfl⟩ rfl rfl rfl rfl rfl (by kernel_rfl) Try.func4 (by kernel_rfl)
    (of_decide_eq_true (by kernel_rfl)) (by unfold Func.isWrapper; first | (rw [if_pos (by decide +kernel)]; kernel_rfl) | (rw [if_neg (by decide +kernel)]; exact ⟨rfl, rfl⟩))
    (fun os started H enc _ => queuePuts_handed os started H enc)
end Go.Proofs.Ytdhgkddfhfcidaa


