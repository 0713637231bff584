/-
  Rows.ParentListsSaid: the Go function hopmeshlaw23.ParentLists answers true for every input and leaves its arguments as they were. No condition.
-/
import Derived.Test.YtcheghbghehifaaSxP23x
import Derived.Test.YtcheghbghehifaaSxP23zd
namespace Go.Proofs
open Go Go.Sx
theorem boolA_of {a : AV} (h : ∃ ds, a = avOf false ds ∧ HasShL [.bool] ds) : ∃ b : Bool, a = AB b := by
  obtain ⟨ds, rfl, h⟩ := h
  cases ds with
  | nil => exact h.elim
  | cons d ds =>
    simp only [HasShL, HasSh] at h
    obtain ⟨⟨b, rfl⟩, _⟩ := h
    exact ⟨b, rfl⟩
theorem lawS : LawS Try.prog 9 [(false, [.sl shNb]), (false, [.int .i64]), (false, [.int .i64]), (false, [.int .i64]), (false, [.int .i64]), (false, [.bool])] := by
  intro xs h
  match xs, h with
  | [a, b, c, d, e, f], ⟨ha, hb, hc, hd, he, hf, _⟩ =>
    obtain ⟨l, hl⟩ := nbsA_of ha
    obtain ⟨t, rfl, _⟩ := int_of hb
    obtain ⟨e', rfl, _⟩ := int_of hc
    obtain ⟨k, rfl, _⟩ := int_of hd
    obtain ⟨s, rfl, _⟩ := int_of he
    obtain ⟨b', rfl⟩ := boolA_of hf
    exact ⟨_, .cons hl (.cons (.refl _) (.cons (.refl _) (.cons (.refl _) (.cons (.refl _) (.cons (.refl _) .nil))))), lawLists_spec l t e' k s b'⟩
end Go.Proofs
namespace Go.Proofs.Ytcheghbghehifaa
open Go.ChangeShapes Go.WideShapes Go.ChangeAt Go.RowKit Go.Sx
set_option maxRecDepth 100000 in
theorem parentLists_handed (os : Os) (started : os.Started) (H : Type) (enc : TypeId × Value → H) :
    ReturnsInHanded {} Try.checked os 9 .any (Rows.parentListsSpec.pre6 enc Try.prog Try.f9 Rows.parentListsRow.domain false) (Rows.parentListsSpec.post enc Try.prog Try.f9 false true false false) :=
  law_handed (n := 12) (C := Try.checked) Try.own started (by kernel_rfl) Try.func9
    (ChangeSpec.witness6 (enc := enc) (C := Try.checked) false ⟨#[], #[.slice none 0 0, .int .i64 0, .int .i64 0, .int .i64 0, .int .i64 0, .bool false], []⟩ 8 (by kernel_rfl) (by kernel_rfl) (by kernel_rfl) (by kernel_rfl))
    Try.laidOut (by rw [Try.params9]; decide +kernel) rfl (fun ds h => by
      rw [Try.params9] at h
      match ds, h with
      | [_, _, _, _, _, _], _ => rfl) rfl (by kernel_rfl) (by kernel_rfl) lawS

theorem parentLists_holds : Rows.ParentListsSaid :=
  OpenClaim.holds_of_wide 9 Try.f9 rfl rfl rfl rfl rfl rfl rfl ⟨rfl, rfl, rfl, rfl, rfl⟩ rfl rfl rfl rfl rfl (by kernel_rfl) Try.func9 (by kernel_rfl)
    (of_decide_eq_true (by kernel_rfl)) (by unfold Func.isWrapper; first | (rw [if_pos (by decide +kernel)]; kernel_rfl) | (rw [if_neg (by decide +kernel)]; exact ⟨rfl, rfl⟩))
    (fun os started H enc _ => parentLists_handed os started H enc)
end Go.Proofs.Ytcheghbghehifaa

