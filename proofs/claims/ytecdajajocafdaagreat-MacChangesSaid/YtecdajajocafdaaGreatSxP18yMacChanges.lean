/-
  Rows.MacChangesSaid: the Go function hopmeshlaw18.MacChanges answers true for every input and leaves its arguments as they were. No condition.
-/
import Derived.Test.YtecdajajocafdaaGreatSxP18x
import Derived.Test.YtecdajajocafdaaGreatSxP18xb
namespace Go.Proofs
open Go Go.Sx Go.Proofs.T Go.Proofs.Q
theorem lawS : LawS Tryz.prog 8 [(true, shSta), (true, shHd), (true, shPk), (false, [.int .i64])] := by
  intro xs h
  match xs, h with
  | [a0, a1, a2, a3], ⟨h0, h1, h2, h3, _⟩ =>
    obtain ⟨x0, e0⟩ := staA_of h0
    obtain ⟨x1, e1⟩ := hdA_of h1
    obtain ⟨x2, e2⟩ := pkA_of h2
    obtain ⟨x3, rfl, w3⟩ := arg_int h3
    exact ⟨_, (.cons e0 (.cons e1 (.cons e2 (.cons (.refl _) .nil)))), lawChanges_spec x0 x1 x2 x3⟩
end Go.Proofs
namespace Go.Proofs.YtecdajajocafdaaGreat
open Go.ChangeShapes Go.WideShapes Go.ChangeAt Go.RowKit Go.Sx
set_option maxRecDepth 100000 in
theorem macChanges_handed (os : Os) (started : os.Started) (H : Type) (enc : TypeId × Value → H) :
    ReturnsInHanded {} Tryz.checked os 8 .any (Rows.macChangesSpec.pre6 enc Tryz.prog Tryz.f8 Rows.macChangesRow.domain false) (Rows.macChangesSpec.post enc Tryz.prog Tryz.f8 false true false false) :=
  law_handed (n := 12) (C := Tryz.checked) Tryz.own started (by kernel_rfl) Tryz.func8
    (ChangeSpec.witness6 (enc := enc) (C := Tryz.checked) false ⟨#[], #[.agg #[.int .i64 0, .int .i64 0, .slice none 0 0, .int .i64 0, .slice none 0 0, .slice none 0 0, .slice none 0 0, .int .i64 0, .int .i64 0, .int .i64 0, .int .i64 0, .int .i64 0, .int .i64 0, .int .i64 0], .agg #[.int .i64 0, .int .i64 0, .int .i64 0, .string ⟨#[]⟩, .slice none 0 0], .agg #[.int .i64 0, .int .i64 0, .int .i64 0, .int .i64 0, .int .i64 0, .string ⟨#[]⟩], .int .i64 0], []⟩ 8 (by kernel_rfl) (by kernel_rfl) (by kernel_rfl) (by kernel_rfl))
    Tryz.laidOut (by rw [Tryz.params8]; decide +kernel) rfl (fun ds h => by
      rw [Tryz.params8] at h
      match ds, h with
      | [_, _, _, _], _ => rfl) rfl (by kernel_rfl) (by kernel_rfl) lawS

theorem macChanges_holds : Rows.MacChangesSaid :=
  OpenClaim.holds_of_wide 8 Tryz.f8 rfl rfl rfl rfl rfl rfl rfl ⟨rfl, rfl, rfl, rfl, rfl⟩ rfl rfl rfl rfl rfl (by kernel_rfl) Tryz.func8 (by kernel_rfl)
    (of_decide_eq_true (by kernel_rfl)) (by unfold Func.isWrapper; first | (rw [if_pos (by decide +kernel)]; kernel_rfl) | (rw [if_neg (by decide +kernel)]; exact ⟨rfl, rfl⟩))
    (fun os started H enc _ => macChanges_handed os started H enc)
end Go.Proofs.YtecdajajocafdaaGreat


