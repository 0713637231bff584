/-
  Rows.QueueServesSaid: the Go function hopmeshlaw17.QueueServes answers true for every input and leaves its arguments as they were. No condition.
-/
import Derived.Test.YtdhgkddfhfcidaaSxP17x
import Derived.Test.YtdhgkddfhfcidaaSxP17o
namespace Go.Proofs
open Go Go.Sx
theorem lawS : LawS Try.prog 6 [(true, [.int .i64, .sl shPk]), (false, [.int .i64]), (false, [.sl [.int .i64]])] := by
  intro xs h
  match xs, h with
  | [a0, a1, a2], ⟨h0, h1, h2, _⟩ =>
    obtain ⟨x0, e0⟩ := quA_of h0
    obtain ⟨x1, rfl, w1⟩ := arg_int h1
    obtain ⟨x2, e2⟩ := arg_sl intsD_of h2
    exact ⟨_, (.cons e0 (.cons (.refl _) (.cons e2 .nil))), lawServes_spec x0 x1 x2⟩
end Go.Proofs
namespace Go.Proofs.Ytdhgkddfhfcidaa
open Go.ChangeShapes Go.WideShapes Go.ChangeAt Go.RowKit Go.Sx
set_option maxRecDepth 100000 in
theorem queueServes_handed (os : Os) (started : os.Started) (H : Type) (enc : TypeId × Value → H) :
    ReturnsInHanded {} Try.checked os 6 .any (Rows.queueServesSpec.pre6 enc Try.prog Try.f6 Rows.queueServesRow.domain false) (Rows.queueServesSpec.post enc Try.prog Try.f6 false true false false) :=
  law_handed (n := 12) (C := Try.checked) Try.own started (by kernel_rfl) Try.func6
    (ChangeSpec.witness6 (enc := enc) (C := Try.checked) false ⟨#[], #[.agg #[.int .i64 0, .slice none 0 0], .int .i64 0, .slice none 0 0], []⟩ 8 (by kernel_rfl) (by kernel_rfl) (by kernel_rfl) (by kernel_rfl))
    Try.laidOut (by rw [Try.params6]; decide +kernel) rfl (fun ds h => by
      rw [Try.params6] at h
      match ds, h with
      | [_, _, _], _ => rfl) rfl (by kernel_rfl) (by kernel_rfl) lawS

theorem queueServes_holds : Rows.QueueServesSaid :=
  OpenClaim.holds_of_wide 6 Try.f6 rfl rfl rfl rfl rfl rfl rfl ⟨rfl, rfl, rfl, rfl, rfl⟩ rfl rfl rfl rfl rfl (by kernel_rfl) Try.func6 (by kernel_rfl)
    (of_decide_eq_true (by kernel_rfl)) (by unfold Func.isWrapper; first | (rw [if_pos (by decide +kernel)]; kernel_rfl) | (rw [if_neg (by decide +kernel)]; exact ⟨rfl, rfl⟩))
    (fun os started H enc _ => queueServes_handed os started H enc)
end Go.Proofs.Ytdhgkddfhfcidaa


