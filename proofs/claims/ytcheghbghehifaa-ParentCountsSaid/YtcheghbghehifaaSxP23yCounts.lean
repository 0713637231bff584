/-
  Rows.ParentCountsSaid: the Go function hopmeshlaw23.ParentCounts answers true for every input and leaves its arguments as they were. No condition.
-/
import Derived.Test.YtcheghbghehifaaSxP23x
import Derived.Test.YtcheghbghehifaaSxP23w
namespace Go.Proofs
open Go Go.Sx
theorem blsA_of {a : AV} (h : ∃ ds, a = avOf false ds ∧ HasShL [.sl [.bool]] ds) : ∃ l : List Bool, ALe (P := Try.prog) a (AD (bls l)) := by
  obtain ⟨ds, rfl, h⟩ := h
  cases ds with
  | nil => exact h.elim
  | cons d ds =>
    have h := h.1
    unfold HasSh at h
    obtain ⟨n, f, rfl, _, hf⟩ := h
    obtain ⟨l, _, _, hl⟩ := rd_of (fun b : Bool => [D.bool b]) (fun _ => True) (n := n) (sz := 1) (f := f) (fun i hi => by
      have := hf i hi
      simp only [HasShs, HasSh] at this
      obtain ⟨⟨b, e0⟩, _⟩ := this
      refine ⟨b, trivial, fun j hj => ?_⟩
      have : j = 0 := by omega
      subst this
      rw [show f i 0 = _ from e0]; exact DLe.refl _)
    exact ⟨l, ALe.of hl⟩
theorem lawS : LawS Try.prog 7 [(false, [.sl shNb]), (false, [.int .i64]), (false, [.sl [.bool]])] := by
  intro xs h
  match xs, h with
  | [a, b, c], ⟨ha, hb, hc, _⟩ =>
    obtain ⟨l, hl⟩ := nbsA_of ha
    obtain ⟨t, rfl, _⟩ := int_of hb
    obtain ⟨bs, hbs⟩ := blsA_of hc
    exact ⟨_, .cons hl (.cons (.refl _) (.cons hbs .nil)), lawCounts_spec l t bs⟩
end Go.Proofs
namespace Go.Proofs.Ytcheghbghehifaa
open Go.ChangeShapes Go.WideShapes Go.ChangeAt Go.RowKit Go.Sx
set_option maxRecDepth 100000 in
theorem parentCounts_handed (os : Os) (started : os.Started) (H : Type) (enc : TypeId × Value → H) :
    ReturnsInHanded {} Try.checked os 7 .any (Rows.parentCountsSpec.pre6 enc Try.prog Try.f7 Rows.parentCountsRow.domain false) (Rows.parentCountsSpec.post enc Try.prog Try.f7 false true false false) :=
  law_handed (n := 12) (C := Try.checked) Try.own started (by kernel_rfl) Try.func7
    (ChangeSpec.witness6 (enc := enc) (C := Try.checked) false ⟨#[], #[.slice none 0 0, .int .i64 0, .slice none 0 0], []⟩ 8 (by kernel_rfl) (by kernel_rfl) (by kernel_rfl) (by kernel_rfl))
    Try.laidOut (by rw [Try.params7]; decide +kernel) rfl (fun ds h => by
      rw [Try.params7] at h
      match ds, h with
      | [_, _, _], _ => rfl) rfl (by kernel_rfl) (by kernel_rfl) lawS

theorem parentCounts_holds : Rows.ParentCountsSaid :=
  OpenClaim.holds_of_wide 7 Try.f7 rfl rfl rfl rfl rfl rfl rfl ⟨rfl, rfl, rfl, rfl, rfl⟩ rfl rfl rfl rfl rfl (by kernel_rfl) Try.func7 (by kernel_rfl)
    (of_decide_eq_true (by kernel_rfl)) (by unfold Func.isWrapper; first | (rw [if_pos (by decide +kernel)]; kernel_rfl) | (rw [if_neg (by decide +kernel)]; exact ⟨rfl, rfl⟩))
    (fun os started H enc _ => parentCounts_handed os started H enc)
end Go.Proofs.Ytcheghbghehifaa

