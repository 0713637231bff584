/-
  Rows.ParentNearBestSaid: the Go function hopmeshlaw23.ParentNearBest answers true for every input and leaves its arguments as they were. No condition.
-/
import Derived.Test.YtcheghbghehifaaSxP23x
import Derived.Test.YtcheghbghehifaaSxP23r
namespace Go.Proofs
open Go Go.Sx
theorem lawS : LawS Try.prog 6 [(false, [.sl shNb]), (true, shNb), (false, [.int .u16])] := by
  intro xs h
  match xs, h with
  | [a, b, c], ⟨ha, hb, hc, _⟩ =>
    obtain ⟨l, hl⟩ := nbsA_of ha
    obtain ⟨r, rfl⟩ := rkA_of hb
    obtain ⟨m, rfl, hm⟩ := int_of hc
    exact ⟨_, .cons hl (.cons (.refl _) (.cons (.refl _) .nil)), lawNear_spec l r m (u16_range hm)⟩
end Go.Proofs
namespace Go.Proofs.Ytcheghbghehifaa
open Go.ChangeShapes Go.WideShapes Go.ChangeAt Go.RowKit Go.Sx
set_option maxRecDepth 100000 in
theorem parentNearBest_handed (os : Os) (started : os.Started) (H : Type) (enc : TypeId × Value → H) :
    ReturnsInHanded {} Try.checked os 6 .any (Rows.parentNearBestSpec.pre6 enc Try.prog Try.f6 Rows.parentNearBestRow.domain false) (Rows.parentNearBestSpec.post enc Try.prog Try.f6 false true false false) :=
  law_handed (n := 12) (C := Try.checked) Try.own started (by kernel_rfl) Try.func6
    (ChangeSpec.witness6 (enc := enc) (C := Try.checked) false ⟨#[], #[.slice none 0 0, .agg #[.int .i64 0, .int .i64 0, .int .i64 0, .int .i64 0, .int .i64 0, .int .i64 0], .int .u16 0], []⟩ 8 (by kernel_rfl) (by kernel_rfl) (by kernel_rfl) (by kernel_rfl))
    Try.laidOut (by rw [Try.params6]; decide +kernel) rfl (fun ds h => by
      rw [Try.params6] at h
      match ds, h with
      | [_, _, _], _ => rfl) rfl (by kernel_rfl) (by kernel_rfl) lawS

theorem parentNearBest_holds : Rows.ParentNearBestSaid :=
  OpenClaim.holds_of_wide 6 Try.f6 rfl rfl rfl rfl rfl rfl rfl ⟨rfl, rfl, rfl, rfl, rfl⟩ rfl rfl rfl rfl rfl (by kernel_rfl) Try.func6 (by kernel_rfl)
    (of_decide_eq_true (by kernel_rfl)) (by unfold Func.isWrapper; first | (rw [if_pos (by decide +kernel)]; kernel_rfl) | (rw [if_neg (by decide +kernel)]; exact ⟨rfl, rfl⟩))
    (fun os started H enc _ => parentNearBest_handed os started H enc)
end Go.Proofs.Ytcheghbghehifaa

