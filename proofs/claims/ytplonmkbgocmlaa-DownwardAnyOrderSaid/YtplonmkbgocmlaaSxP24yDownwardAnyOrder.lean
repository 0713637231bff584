/-
  Rows.DownwardAnyOrderSaid: the Go function hopmeshlaw24.DownwardAnyOrder answers true for every input and leaves its arguments as they were. No condition.
-/
import Derived.Test.YtplonmkbgocmlaaSxP24xb
import Derived.Test.YtplonmkbgocmlaaSxP24s
namespace Go.Proofs
open Go Go.Sx
theorem lawS : LawS Try.prog 5 [(false, [.sl shRP]), (false, [.sl [.int .u8, .int .u8]]), (false, [.sl [.int .u8]])] := by
  intro xs h
  match xs, h with
  | [a0, a1, a2], ⟨h0, h1, h2, _⟩ =>
    obtain ⟨x0, e0⟩ := arg_sl rps_of h0
    obtain ⟨x1, w1, e1⟩ := arg_sw h1
    obtain ⟨x2, w2, e2⟩ := arg_ag h2
    exact ⟨_, (.cons e0 (.cons e1 (.cons e2 .nil))), lawAny_spec x0 x1 x2 w1 w2⟩
end Go.Proofs
namespace Go.Proofs.Ytplonmkbgocmlaa
open Go.ChangeShapes Go.WideShapes Go.ChangeAt Go.RowKit Go.Sx
set_option maxRecDepth 100000 in
theorem downwardAnyOrder_handed (os : Os) (started : os.Started) (H : Type) (enc : TypeId × Value → H) :
    ReturnsInHanded {} Try.checked os 5 .any (Rows.downwardAnyOrderSpec.pre6 enc Try.prog Try.f5 Rows.downwardAnyOrderRow.domain false) (Rows.downwardAnyOrderSpec.post enc Try.prog Try.f5 false true false false) :=
  law_handed (n := 12) (C := Try.checked) Try.own started (by kernel_rfl) Try.func5
    (ChangeSpec.witness6 (enc := enc) (C := Try.checked) false ⟨#[], #[.slice none 0 0, .slice none 0 0, .slice none 0 0], []⟩ 8 (by kernel_rfl) (by kernel_rfl) (by kernel_rfl) (by kernel_rfl))
    Try.laidOut (by rw [Try.params5]; decide +kernel) rfl (fun ds h => by
      rw [Try.params5] at h
      match ds, h with
      | [_, _, _], _ => rfl) rfl (by kernel_rfl) (by kernel_rfl) lawS

theorem downwardAnyOrder_holds : Rows.DownwardAnyOrderSaid :=
  OpenClaim.holds_of_wide 5 Try.f5 rfl rfl rfl rfl rfl rfl rfl ⟨rfl, rfl, rfl, rfl, rfl⟩ rfl rfl rfl rfl rfl (by kernel_rfl) Try.func5 (by kernel_rfl)
    (of_decide_eq_true (by kernel_rfl)) (by unfold Func.isWrapper; first | (rw [if_pos (by decide +kernel)]; kernel_rfl) | (rw [if_neg (by decide +kernel)]; exact ⟨rfl, rfl⟩))
    (fun os started H enc _ => downwardAnyOrder_handed os started H enc)
end Go.Proofs.Ytplonmkbgocmlaa


