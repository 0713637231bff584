/-
  Rows.MacStaysSaid: the Go function hopmeshlaw18.MacStays answers true for every input and leaves its arguments as they were. No condition.
-/
import Derived.Test.YtecdajajocafdaaGreatSxP18x
import Derived.Test.YtecdajajocafdaaGreatSxP18xg
namespace Go.Proofs
open Go Go.Sx Go.Proofs.T Go.Proofs.Q
theorem lawS : LawS Tryz.prog 6 [(true, shSta), (false, [.int .i64]), (true, shRs)] := by
  intro xs h
  match xs, h with
  | [a0, a1, a2], ⟨h0, h1, h2, _⟩ =>
    obtain ⟨x0, e0⟩ := staA_of h0
    obtain ⟨x1, rfl, w1⟩ := arg_int h1
    obtain ⟨x2, e2⟩ := rsA_of h2
    exact ⟨_, (.cons e0 (.cons (.refl _) (.cons e2 .nil))), lawStays_spec x0 x1 x2⟩
end Go.Proofs
namespace Go.Proofs.YtecdajajocafdaaGreat
open Go.ChangeShapes Go.WideShapes Go.ChangeAt Go.RowKit Go.Sx
set_option maxRecDepth 100000 in
theorem macStays_handed (os : Os) (started : os.Started) (H : Type) (enc : TypeId × Value → H) :
    ReturnsInHanded {} Tryz.checked os 6 .any (Rows.macStaysSpec.pre6 enc Tryz.prog Tryz.f6 Rows.macStaysRow.domain false) (Rows.macStaysSpec.post enc Tryz.prog Tryz.f6 false true false false) :=
  law_handed (n := 12) (C := Tryz.checked) Tryz.own started (by kernel_rfl) Tryz.func6
    (ChangeSpec.witness6 (enc := enc) (C := Tryz.checked) false ⟨#[], #[.agg #[.int .i64 0, .int .i64 0, .slice none 0 0, .int .i64 0, .slice none 0 0, .slice none 0 0, .slice none 0 0, .int .i64 0, .int .i64 0, .int .i64 0, .int .i64 0, .int .i64 0, .int .i64 0, .int .i64 0], .int .i64 0, .agg #[.bool false, .bool false, .int .i64 0, .int .i64 0, .int .i64 0, .int .i64 0, .int .i64 0, .int .i64 0, .int .i64 0, .int .i64 0, .int .i64 0, .int .i64 0, .int .i64 0, .string ⟨#[]⟩, .int .i64 0]], []⟩ 8 (by kernel_rfl) (by kernel_rfl) (by kernel_rfl) (by kernel_rfl))
    Tryz.laidOut (by rw [Tryz.params6]; decide +kernel) rfl (fun ds h => by
      rw [Tryz.params6] at h
      match ds, h with
      | [_, _, _], _ => rfl) rfl (by kernel_rfl) (by kernel_rfl) lawS

theorem macStays_holds : Rows.MacStaysSaid :=
  OpenClaim.holds_of_wide 6 Tryz.f6 rfl rfl rfl rfl rfl rfl rfl ⟨rfl, rfl, rfl, rfl, rfl⟩ rfl rfl rfl rfl rfl (by kernel_rfl) Tryz.func6 (by kernel_rfl)
    (of_decide_eq_true (by kernel_rfl)) (by unfold Func.isWrapper; first | (rw [if_pos (by decide +kernel)]; kernel_rfl) | (rw [if_neg (by decide +kernel)]; exact ⟨rfl, rfl⟩))
    (fun os started H enc _ => macStays_handed os started H enc)
end Go.Proofs.YtecdajajocafdaaGreat


