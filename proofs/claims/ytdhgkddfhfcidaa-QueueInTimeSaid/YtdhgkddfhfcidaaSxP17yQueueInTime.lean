/-
  Rows.QueueInTimeSaid: the Go function hopmeshlaw17.QueueInTime answers true for every input and leaves its arguments as they were. No condition.
-/
import Derived.Test.YtdhgkddfhfcidaaSxP17x
import Derived.Test.YtdhgkddfhfcidaaSxP17v
namespace Go.Proofs
open Go Go.Sx
theorem lawS : LawS Try.prog 8 [(true, [.int .i64, .sl shPk]), (false, [.int .u16]), (false, [.sl [.int .i64]]), (false, [.int .i64]), (false, [.int .u8])] := by
  intro xs h
  match xs, h with
  | [a0, a1, a2, a3, a4], ⟨h0, h1, h2, h3, h4, _⟩ =>
    obtain ⟨x0, e0⟩ := quA_of h0
    obtain ⟨x1, rfl, w1⟩ := arg_int h1
    obtain ⟨x2, e2⟩ := arg_sl intsD_of h2
    obtain ⟨x3, rfl, w3⟩ := arg_int h3
    obtain ⟨x4, rfl, w4⟩ := arg_int h4
    exact ⟨_, (.cons e0 (.cons (.refl _) (.cons e2 (.cons (.refl _) (.cons (.refl _) .nil))))), lawInTime_of x0 x1 x2 x3 x4 (u16_range' w1) (u8_range' w4)⟩
end Go.Proofs
namespace Go.Proofs.Ytdhgkddfhfcidaa
open Go.ChangeShapes Go.WideShapes Go.ChangeAt Go.RowKit Go.Sx
set_option maxRecDepth 100000 in
theorem queueInTime_handed (os : Os) (started : os.Started) (H : Type) (enc : TypeId × Value → H) :
    ReturnsInHanded {} Try.checked os 8 .any (Rows.queueInTimeSpec.pre6 enc Try.prog Try.f8 Rows.queueInTimeRow.domain false) (Rows.queueInTimeSpec.post enc Try.prog Try.f8 false true false false) :=
  law_handed (n := 12) (C := Try.checked) Try.own started (by kernel_rfl) Try.func8
    (ChangeSpec.witness6 (enc := enc) (C := Try.checked) false ⟨#[], #[.agg #[.int .i64 0, .slice none 0 0], .int .u16 0, .slice none 0 0, .int .i64 0, .int .u8 0], []⟩ 8 (by kernel_rfl) (by kernel_rfl) (by kernel_rfl) (by kernel_rfl))
    Try.laidOut (by rw [Try.params8]; decide +kernel) rfl (fun ds h => by
      rw [Try.params8] at h
      match ds, h with
      | [_, _, _, _, _], _ => rfl) rfl (by kernel_rfl) (by kernel_rfl) lawS

theorem queueInTime_holds : Rows.QueueInTimeSaid :=
  OpenClaim.holds_of_wide 8 Try.f8 rfl rfl rfl rfl rfl rfl rfl ⟨rfl, rfl, rfl, rfl, rfl⟩ rfl rfl rfl rfl rfl (by kernel_rfl) Try.func8 (by kernel_rfl)
    (of_decide_eq_true (by kernel_rfl)) (by unfold Func.isWrapper; first | (rw [if_pos (by decide +kernel)]; kernel_rfl) | (rw [if_neg (by decide +kernel)]; exact ⟨rfl, rfl⟩))
    (fun os started H enc _ => queueInTime_handed os started H enc)
end Go.Proofs.Ytdhgkddfhfcidaa


