/-
  Rows.MacBacksOffSaid: the Go function hopmeshlaw18.MacBacksOff answers true for every input and leaves its arguments as they were. No condition.
-/
import Derived.Test.YtecdajajocafdaaSxO18xc
import Derived.Test.YtecdajajocafdaaSxLibB
import Derived.Test.YtecdajajocafdaaRows
namespace Go.Proofs.Ytecdajajocafdaa
theorem Try.own : ownKnob Try.prog.godebug = none := by kernel_rfl
theorem Try.laidOut : laidOutB Try.prog = true := by kernel_rfl
end Go.Proofs.Ytecdajajocafdaa
namespace Go.Proofs
open Go Go.Sx Go.Proofs.T Go.Proofs.Q
theorem lawS : LawS Try.prog 4 [(false, [.int .u16]), (false, [.int .u8]), (false, [.int .u8])] := by
  intro xs h
  match xs, h with
  | [a0, a1, a2], ⟨h0, h1, h2, _⟩ =>
    obtain ⟨x0, rfl, w0⟩ := arg_int h0
    obtain ⟨x1, rfl, w1⟩ := arg_int h1
    obtain ⟨x2, rfl, w2⟩ := arg_int h2
    exact ⟨_, (.cons (.refl _) (.cons (.refl _) (.cons (.refl _) .nil))), lawBacks_spec x0 x1 x2 (u16_range' w0) (u8_range' w1) (u8_range' w2)⟩
end Go.Proofs
namespace Go.Proofs.Ytecdajajocafdaa
open Go.ChangeShapes Go.WideShapes Go.ChangeAt Go.RowKit Go.Sx
set_option maxRecDepth 100000 in
theorem macBacksOff_handed (os : Os) (started : os.Started) (H : Type) (enc : TypeId × Value → H) :
    ReturnsInHanded {} Try.checked os 4 .any (Rows.macBacksOffSpec.pre6 enc Try.prog Try.f4 Rows.macBacksOffRow.domain false) (Rows.macBacksOffSpec.post enc Try.prog Try.f4 false true false false) :=
  law_handed (n := 12) (C := Try.checked) Try.own started (by kernel_rfl) Try.func4
    (ChangeSpec.witness6 (enc := enc) (C := Try.checked) false ⟨#[], #[.int .u16 0, .int .u8 0, .int .u8 0], []⟩ 8 (by kernel_rfl) (by kernel_rfl) (by kernel_rfl) (by kernel_rfl))
    Try.laidOut (by rw [Try.params4]; decide +kernel) rfl (fun ds h => by
      rw [Try.params4] at h
      match ds, h with
      | [_, _, _], _ => rfl) rfl (by kernel_rfl) (by kernel_rfl) lawS

theorem macBacksOff_holds : Rows.MacBacksOffSaid :=
  OpenClaim.holds_of_wide 4 Try.f4 rfl rfl rfl rfl rfl rfl rfl ⟨rfl, rfl, rfl, rfl, rfl⟩ rfl rfl rfl rfl rfl (by kernel_rfl) Try.func4 (by kernel_rfl)
    (of_decide_eq_true (by kernel_rfl)) (by unfold Func.isWrapper; first | (rw [if_pos (by decide +kernel)]; kernel_rfl) | (rw [if_neg (by decide +kernel)]; exact ⟨rfl, rfl⟩))
    (fun os started H enc _ => macBacksOff_handed os started H enc)
end Go.Proofs.Ytecdajajocafdaa


