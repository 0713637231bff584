/-
  Rows.ParentHearsSaid: the Go function hopmeshlaw23.ParentHears answers true for every input and leaves its arguments as they were. No condition.
-/
import Derived.Test.YtcheghbghehifaaSxP23x
import Derived.Test.YtcheghbghehifaaSxP23zh
namespace Go.Proofs
open Go Go.Sx
theorem lawS : LawS Try.prog 10 [(false, [.sl shNb]), (false, [.int .i64]), (false, [.int .i64]), (false, [.int .i64]), (false, [.int .i64]), (false, [.int .u16])] := by
  intro xs h
  match xs, h with
  | [a, b, c, d, e, f], ⟨ha, hb, hc, hd, he, hf, _⟩ =>
    obtain ⟨l, hl⟩ := nbsA_of ha
    obtain ⟨t, rfl, _⟩ := int_of hb
    obtain ⟨e', rfl, _⟩ := int_of hc
    obtain ⟨k, rfl, _⟩ := int_of hd
    obtain ⟨s, rfl, _⟩ := int_of he
    obtain ⟨g, rfl, hg⟩ := int_of hf
    exact ⟨_, .cons hl (.cons (.refl _) (.cons (.refl _) (.cons (.refl _) (.cons (.refl _) (.cons (.refl _) .nil))))), lawHears_spec l t e' k s g (u16_range hg)⟩
end Go.Proofs
namespace Go.Proofs.Ytcheghbghehifaa
open Go.ChangeShapes Go.WideShapes Go.ChangeAt Go.RowKit Go.Sx
set_option maxRecDepth 100000 in
theorem parentHears_handed (os : Os) (started : os.Started) (H : Type) (enc : TypeId × Value → H) :
    ReturnsInHanded {} Try.checked os 10 .any (Rows.parentHearsSpec.pre6 enc Try.prog Try.f10 Rows.parentHearsRow.domain false) (Rows.parentHearsSpec.post enc Try.prog Try.f10 false true false false) :=
  law_handed (n := 12) (C := Try.checked) Try.own started (by kernel_rfl) Try.func10
    (ChangeSpec.witness6 (enc := enc) (C := Try.checked) false ⟨#[], #[.slice none 0 0, .int .i64 0, .int .i64 0, .int .i64 0, .int .i64 0, .int .u16 0], []⟩ 8 (by kernel_rfl) (by kernel_rfl) (by kernel_rfl) (by kernel_rfl))
    Try.laidOut (by rw [Try.params10]; decide +kernel) rfl (fun ds h => by
      rw [Try.params10] at h
      match ds, h with
      | [_, _, _, _, _, _], _ => rfl) rfl (by kernel_rfl) (by kernel_rfl) lawS

theorem parentHears_holds : Rows.ParentHearsSaid :=
  OpenClaim.holds_of_wide 10 Try.f10 rfl rfl rfl rfl rfl rfl rfl ⟨rfl, rfl, rfl, rfl, rfl⟩ rfl rfl rfl rfl rfl (by kernel_rfl) Try.func10 (by kernel_rfl)
    (of_decide_eq_true (by kernel_rfl)) (by unfold Func.isWrapper; first | (rw [if_pos (by decide +kernel)]; kernel_rfl) | (rw [if_neg (by decide +kernel)]; exact ⟨rfl, rfl⟩))
    (fun os started H enc _ => parentHears_handed os started H enc)
end Go.Proofs.Ytcheghbghehifaa

