/-
  Rows.QueueKeepsSaid: the Go function hopmeshlaw17.QueueKeeps answers true for every input and leaves its arguments as they were. No condition.
-/
import Derived.Test.YtdhgkddfhfcidaaSxP17x
import Derived.Test.YtdhgkddfhfcidaaSxP17s
namespace Go.Proofs
open Go Go.Sx
theorem lawS : LawS Try.prog 7 [(false, [.int .u8]), (false, [.sl shPk]), (false, [.int .u16]), (false, [.sl [.int .i64]])] := by
  intro xs h
  match xs, h with
  | [a0, a1, a2, a3], ⟨h0, h1, h2, h3, _⟩ =>
    obtain ⟨x0, rfl, w0⟩ := arg_int h0
    obtain ⟨x1, e1⟩ := arg_sl pks_of h1
    obtain ⟨x2, rfl, w2⟩ := arg_int h2
    obtain ⟨x3, e3⟩ := arg_sl intsD_of h3
    exact ⟨_, (.cons (.refl _) (.cons e1 (.cons (.refl _) (.cons e3 .nil)))), lawKeeps_spec x0 x1 x2 x3 (u8_range' w0) (u16_range' w2)⟩
end Go.Proofs
namespace Go.Proofs.Ytdhgkddfhfcidaa
open Go.ChangeShapes Go.WideShapes Go.ChangeAt Go.RowKit Go.Sx
set_option maxRecDepth 100000 in
theorem queueKeeps_handed (os : Os) (started : os.Started) (H : Type) (enc : TypeId × Value → H) :
    ReturnsInHanded {} Try.checked os 7 .any (Rows.queueKeepsSpec.pre6 enc Try.prog Try.f7 Rows.queueKeepsRow.domain false) (Rows.queueKeepsSpec.post enc Try.prog Try.f7 false true false false) :=
  law_handed (n := 12) (C := Try.checked) Try.own started (by kernel_rfl) Try.func7
    (ChangeSpec.witness6 (enc := enc) (C := Try.checked) false ⟨#[], #[.int .u8 0, .slice none 0 0, .int .u16 0, .slice none 0 0], []⟩ 8 (by kernel_rfl) (by kernel_rfl) (by kernel_rfl) (by kernel_rfl))
    Try.laidOut (by rw [Try.params7]; decide +kernel) rfl (fun ds h => by
      rw [Try.params7] at h
      match ds, h with
      | [_, _, _, _], _ => rfl) rfl (by kernel_rfl) (by kernel_rfl) lawS

theorem queueKeeps_holds : Rows.QueueKeepsSaid :=
  OpenClaim.holds_of_wide 7 Try.f7 rfl rfl rfl rfl rfl rfl rfl ⟨rfl, rfl, rfl, rfl, rfl⟩ rfl rfl rfl rfl rfl (by kernel_rfl) Try.func7 (by kernel_rfl)
    (of_decide_eq_true (by kernel_rfl)) (by unfold Func.isWrapper; first | (rw [if_pos (by decide +kernel)]; kernel_rfl) | (rw [if_neg (by decide +kernel)]; exact ⟨rfl, rfl⟩))
    (fun os started H enc _ => queueKeeps_handed os started H enc)
end Go.Proofs.Ytdhgkddfhfcidaa


