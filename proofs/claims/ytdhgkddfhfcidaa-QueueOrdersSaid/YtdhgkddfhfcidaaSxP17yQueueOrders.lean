/-
  Rows.QueueOrdersSaid: the Go function hopmeshlaw17.QueueOrders answers true for every input and leaves its arguments as they were. No condition.
-/
import Derived.Test.YtdhgkddfhfcidaaSxP17x
import Derived.Test.YtdhgkddfhfcidaaSxP17q
namespace Go.Proofs
open Go Go.Sx
theorem lawS : LawS Try.prog 10 [(true, [.int .i64, .sl shPk]), (false, [.int .i64]), (false, [.int .u16])] := by
  intro xs h
  match xs, h with
  | [a0, a1, a2], ⟨h0, h1, h2, _⟩ =>
    obtain ⟨x0, e0⟩ := quA_of h0
    obtain ⟨x1, rfl, w1⟩ := arg_int h1
    obtain ⟨x2, rfl, w2⟩ := arg_int h2
    exact ⟨_, (.cons e0 (.cons (.refl _) (.cons (.refl _) .nil))), lawOrders_spec x0 x1 x2 (u16_range' w2)⟩
end Go.Proofs
namespace Go.Proofs.Ytdhgkddfhfcidaa
open Go.ChangeShapes Go.WideShapes Go.ChangeAt Go.RowKit Go.Sx
set_option maxRecDepth 100000 in
theorem queueOrders_handed (os : Os) (started : os.Started) (H : Type) (enc : TypeId × Value → H) :
    ReturnsInHanded {} Try.checked os 10 .any (Rows.queueOrdersSpec.pre6 enc Try.prog Try.f10 Rows.queueOrdersRow.domain false) (Rows.queueOrdersSpec.post enc Try.prog Try.f10 false true false false) :=
  law_handed (n := 12) (C := Try.checked) Try.own started (by kernel_rfl) Try.func10
    (ChangeSpec.witness6 (enc := enc) (C := Try.checked) false ⟨#[], #[.agg #[.int .i64 0, .slice none 0 0], .int .i64 0, .int .u16 0], []⟩ 8 (by kernel_rfl) (by kernel_rfl) (by kernel_rfl) (by kernel_rfl))
    Try.laidOut (by rw [Try.params10]; decide +kernel) rfl (fun ds h => by
      rw [Try.params10] at h
      match ds, h with
      | [_, _, _], _ => rfl) rfl (by kernel_rfl) (by kernel_rfl) lawS

theorem queueOrders_holds : Rows.QueueOrdersSaid :=
  OpenClaim.holds_of_wide 10 Try.f10 rfl rfl rfl rfl rfl rfl rfl ⟨rfl, rfl, rfl, rfl, rfl⟩ rfl rfl rfl rfl rfl (by kernel_rfl) Try.func10 (by kernel_rfl)
    (of_decide_eq_true (by kernel_rfl)) (by unfold Func.isWrapper; first | (rw [if_pos (by decide +kernel)]; kernel_rfl) | (rw [if_neg (by decide +kernel)]; exact ⟨rfl, rfl⟩))
    (fun os started H enc _ => queueOrders_handed os started H enc)
end Go.Proofs.Ytdhgkddfhfcidaa


