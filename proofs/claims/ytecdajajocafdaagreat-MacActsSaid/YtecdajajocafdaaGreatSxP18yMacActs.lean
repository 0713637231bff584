/-
  Rows.MacActsSaid: the Go function hopmeshlaw18.MacActs answers true for every input and leaves its arguments as they were. No condition.
-/
import Derived.Test.YtecdajajocafdaaGreatSxP18x
import Derived.Test.YtecdajajocafdaaGreatSxP18xa
namespace Go.Proofs
open Go Go.Sx Go.Proofs.T Go.Proofs.Q
theorem lawS : LawS Tryz.prog 4 [(true, shSta), (false, [.int .i64])] := by
  intro xs h
  match xs, h with
  | [a0, a1], ⟨h0, h1, _⟩ =>
    obtain ⟨x0, e0⟩ := staA_of h0
    obtain ⟨x1, rfl, w1⟩ := arg_int h1
    exact ⟨_, (.cons e0 (.cons (.refl _) .nil)), lawActs_spec x0 x1⟩
end Go.Proofs
namespace Go.Proofs.YtecdajajocafdaaGreat
open Go.ChangeShapes Go.WideShapes Go.ChangeAt Go.RowKit Go.Sx
set_option maxRecDepth 100000 in
theorem macActs_handed (os : Os) (started : os.Started) (H : Type) (enc : TypeId × Value → H) :
    ReturnsInHanded {} Tryz.checked os 4 .any (Rows.macActsSpec.pre6 enc Tryz.prog Tryz.f4 Rows.macActsRow.domain false) (Rows.macActsSpec.post enc Tryz.prog Tryz.f4 false true false false) :=
  law_handed (n := 12) (C := Tryz.checked) Tryz.own started (by kernel_rfl) Tryz.func4
    (ChangeSpec.witness6 (enc := enc) (C := Tryz.checked) false ⟨#[], #[.agg #[.int .i64 0, .int .i64 0, .slice none 0 0, .int .i64 0, .slice none 0 0, .slice none 0 0, .slice none 0 0, .int .i64 0, .int .i64 0, .int .i64 0, .int .i64 0, .int .i64 0, .int .i64 0, .int .i64 0], .int .i64 0], []⟩ 8 (by kernel_rfl) (by kernel_rfl) (by kernel_rfl) (by kernel_rfl))
    Tryz.laidOut (by rw [Tryz.params4]; decide +kernel) rfl (fun ds h => by
      rw [Tryz.params4] at h
      match ds, h with
      | [_, _], _ => rfl) rfl (by kernel_rfl) (by kernel_rfl) lawS

theorem macActs_holds : Rows.MacActsSaid :=
  OpenClaim.holds_of_wide 4 Tryz.f4 rfl rfl rfl rfl rfl rfl rfl ⟨rfl, rfl, rfl, rfl, rfl⟩ rfl rfl rfl rfl rfl (by kernel_rfl) Tryz.func4 (by kernel_rfl)
    (of_decide_eq_true (by kernel_rfl)) (by unfold Func.isWrapper; first | (rw [if_pos (by decide +kernel)]; kernel_rfl) | (rw [if_neg (by decide +kernel)]; exact ⟨rfl, rfl⟩))
    (fun os started H enc _ => macActs_handed os started H enc)
end Go.Proofs.YtecdajajocafdaaGreat


