/-
  Rows.TopQueueResidenceSaid: the Go function hopmeshtop.TopQueueResidence answers true for every input and leaves its arguments as they were. No condition.
-/
import Derived.Test.YtidijkcalgmadaaGreatSxVx
import Derived.Test.YtidijkcalgmadaaGreatSxVyd
namespace Go.Proofs
open Go Go.Sx Go.Proofs.T Go.Proofs.Q
theorem lawS : LawS Tryz.prog 3 [(false, [.int .u8]), (false, [.sl [.int .u8]]), (false, [.sl shPk]), (false, [.int .u8])] := by
  intro xs h
  match xs, h with
  | [a0, a1, a2, a3], ⟨h0, h1, h2, h3, _⟩ =>
    obtain ⟨x0, rfl, w0⟩ := arg_int h0
    obtain ⟨x1, w1, e1⟩ := arg_u8s h1
    obtain ⟨x2, e2⟩ := arg_pks h2
    obtain ⟨x3, rfl, w3⟩ := arg_int h3
    have r0 := u8_range' w0
    have r3 := u8_range' w3
    exact ⟨_, (.cons (.refl _) (.cons e1 (.cons e2 (.cons (.refl _) .nil)))), lawResidence_spec x0 x1 x2 x3 (by omega) w1 (by omega)⟩
end Go.Proofs
namespace Go.Proofs.YtidijkcalgmadaaGreat
open Go.ChangeShapes Go.WideShapes Go.ChangeAt Go.RowKit Go.Sx
set_option maxRecDepth 100000 in
theorem topQueueResidence_handed (os : Os) (started : os.Started) (H : Type) (enc : TypeId × Value → H) :
    ReturnsInHanded {} Tryz.checked os 3 .any (Rows.topQueueResidenceSpec.pre6 enc Tryz.prog Tryz.f3 Rows.topQueueResidenceRow.domain false) (Rows.topQueueResidenceSpec.post enc Tryz.prog Tryz.f3 false true false false) :=
  law_handed (n := 12) (C := Tryz.checked) Tryz.own started (by kernel_rfl) Tryz.func3
    (ChangeSpec.witness6 (enc := enc) (C := Tryz.checked) false ⟨#[], #[.int .u8 0, .slice none 0 0, .slice none 0 0, .int .u8 0], []⟩ 8 (by kernel_rfl) (by kernel_rfl) (by kernel_rfl) (by kernel_rfl))
    Tryz.laidOut (by rw [Tryz.params3]; decide +kernel) rfl (fun ds h => by
      rw [Tryz.params3] at h
      match ds, h with
      | [_, _, _, _], _ => rfl) rfl (by kernel_rfl) (by kernel_rfl) lawS

theorem topQueueResidence_holds : Rows.TopQueueResidenceSaid :=
  OpenClaim.holds_of_wide 3 Tryz.f3 rfl rfl rfl rfl rfl rfl rfl ⟨rfl, rfl, rfl, rfl, rfl⟩ rfl rfl rfl rfl rfl (by kernel_rfl) Tryz.func3 (by kernel_rfl)
    (of_decide_eq_true (by kernel_rfl)) (by unfold Func.isWrapper; first | (rw [if_pos (by decide +kernel)]; kernel_rfl) | (rw [if_neg (by decide +kernel)]; exact ⟨rfl, rfl⟩))
    (fun os started H enc _ => topQueueResidence_handed os started H enc)
end Go.Proofs.YtidijkcalgmadaaGreat


