/-
  Rows.ParentCostsSaid: the Go function hopmeshlaw23.ParentCosts answers true for every input and leaves its arguments as they were. No condition.
-/
import Derived.Test.YtcheghbghehifaaSxP23x
import Derived.Test.YtcheghbghehifaaSxP23u
namespace Go.Proofs
open Go Go.Sx
theorem ctA_of {a : AV} (h : ∃ ds, a = avOf true ds ∧ HasShL [.int .i64, .int .i64] ds) : ∃ m n : Int, a = .agg [.d (.int .i64 m), .d (.int .i64 n)] := by
  obtain ⟨ds, rfl, h⟩ := h
  have hl := hasShL_len h
  match ds, hl, h with
  | [d0, d1], _, h =>
    simp only [HasShL, HasSh] at h
    obtain ⟨⟨a0, rfl, _⟩, ⟨a1, rfl, _⟩, _⟩ := h
    exact ⟨a0, a1, rfl⟩
theorem lawS : LawS Try.prog 8 [(true, [.int .i64, .int .i64]), (false, [.sl shNb]), (false, [.int .i64]), (false, [.int .i64])] := by
  intro xs h
  match xs, h with
  | [a, b, c, d], ⟨ha, hb, hc, hd, _⟩ =>
    obtain ⟨att, ack, rfl⟩ := ctA_of ha
    obtain ⟨l, hl⟩ := nbsA_of hb
    obtain ⟨s, rfl, _⟩ := int_of hc
    obtain ⟨m, rfl, _⟩ := int_of hd
    exact ⟨_, .cons (.refl _) (.cons hl (.cons (.refl _) (.cons (.refl _) .nil))), lawCosts_spec att ack l s m⟩
end Go.Proofs
namespace Go.Proofs.Ytcheghbghehifaa
open Go.ChangeShapes Go.WideShapes Go.ChangeAt Go.RowKit Go.Sx
set_option maxRecDepth 100000 in
theorem parentCosts_handed (os : Os) (started : os.Started) (H : Type) (enc : TypeId × Value → H) :
    ReturnsInHanded {} Try.checked os 8 .any (Rows.parentCostsSpec.pre6 enc Try.prog Try.f8 Rows.parentCostsRow.domain false) (Rows.parentCostsSpec.post enc Try.prog Try.f8 false true false false) :=
  law_handed (n := 12) (C := Try.checked) Try.own started (by kernel_rfl) Try.func8
    (ChangeSpec.witness6 (enc := enc) (C := Try.checked) false ⟨#[], #[.agg #[.int .i64 0, .int .i64 0], .slice none 0 0, .int .i64 0, .int .i64 0], []⟩ 8 (by kernel_rfl) (by kernel_rfl) (by kernel_rfl) (by kernel_rfl))
    Try.laidOut (by rw [Try.params8]; decide +kernel) rfl (fun ds h => by
      rw [Try.params8] at h
      match ds, h with
      | [_, _, _, _], _ => rfl) rfl (by kernel_rfl) (by kernel_rfl) lawS

theorem parentCosts_holds : Rows.ParentCostsSaid :=
  OpenClaim.holds_of_wide 8 Try.f8 rfl rfl rfl rfl rfl rfl rfl ⟨rfl, rfl, rfl, rfl, rfl⟩ rfl rfl rfl rfl rfl (by kernel_rfl) Try.func8 (by kernel_rfl)
    (of_decide_eq_true (by kernel_rfl)) (by unfold Func.isWrapper; first | (rw [if_pos (by decide +kernel)]; kernel_rfl) | (rw [if_neg (by decide +kernel)]; exact ⟨rfl, rfl⟩))
    (fun os started H enc _ => parentCosts_handed os started H enc)
end Go.Proofs.Ytcheghbghehifaa

