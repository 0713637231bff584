/-
  Rows.ParentSteadySaid: the Go function hopmeshlaw23.ParentSteady answers true for every input and leaves its arguments as they were. No condition.
-/
import Derived.Test.YtcheghbghehifaaSxP23x
import Derived.Test.YtcheghbghehifaaSxP23q
namespace Go.Proofs
open Go Go.Sx
theorem lawS : LawS Try.prog 5 [(false, [.sl shNb]), (true, shNb), (false, [.int .u16])] := by
  intro xs h
  match xs, h with
  | [a, b, c], ⟨ha, hb, hc, _⟩ =>
    obtain ⟨l, hl⟩ := nbsA_of ha
    obtain ⟨r, rfl⟩ := rkA_of hb
    obtain ⟨m, rfl, hm⟩ := int_of hc
    exact ⟨_, .cons hl (.cons (.refl _) (.cons (.refl _) .nil)), lawSteady_spec l r m (u16_range hm)⟩
end Go.Proofs
namespace Go.Proofs.Ytcheghbghehifaa
open Go.ChangeShapes Go.WideShapes Go.ChangeAt Go.RowKit Go.Sx
set_option maxRecDepth 100000 in
theorem parentSteady_handed (os : Os) (started : os.Started) (H : Type) (enc : TypeId × Value → H) :
    ReturnsInHanded {} Try.checked os 5 .any (Rows.parentSteadySpec.pre6 enc Try.prog Try.f5 Rows.parentSteadyRow.domain false) (Rows.parentSteadySpec.post enc Try.prog Try.f5 false true false false) :=
  law_handed (n := 12) (C := Try.checked) Try.own started (by kernel_rfl) Try.func5
    (ChangeSpec.witness6 (enc := enc) (C := Try.checked) false ⟨#[], #[.slice none 0 0, .agg #[.int .i64 0, .int .i64 0, .int .i64 0, .int .i64 0, .int .i64 0, .int .i64 0], .int .u16 0], []⟩ 8 (by kernel_rfl) (by kernel_rfl) (by kernel_rfl) (by kernel_rfl))
    Try.laidOut (by rw [Try.params5]; decide +kernel) rfl (fun ds h => by
      rw [Try.params5] at h
      match ds, h with
      | [_, _, _], _ => rfl) rfl (by kernel_rfl) (by kernel_rfl) lawS

theorem parentSteady_holds : Rows.ParentSteadySaid :=
  OpenClaim.holds_of_wide 5 Try.f5 rfl rfl rfl rfl rfl rfl rfl ⟨rfl, rfl, rfl, rfl, rfl⟩ rfl rfl rfl rfl rfl (by kernel_rfl) Try.func5 (by kernel_rfl)
    (of_decide_eq_true (by kernel_rfl)) (by unfold Func.isWrapper; first | (rw [if_pos (by decide +kernel)]; kernel_rfl) | (rw [if_neg (by decide +kernel)]; exact ⟨rfl, rfl⟩))
    (fun os started H enc _ => parentSteady_handed os started H enc)
end Go.Proofs.Ytcheghbghehifaa

