/-
  What functions of the given program hand back, by walks over its code, and plain laws on that. No condition.
-/
import Derived.Test.YtecdajajocafdaaGreatSxP18l
-- SXS
-- SXM
-- SXN
-- SXP
namespace Go.Proofs
open Go Go.Sx Go.Proofs.T Go.Proofs.Q
set_option maxRecDepth 4000
set_option linter.unusedSimpArgs false
set_option linter.unusedVariables false
attribute [local irreducible] VR VC thenQ blockQ retL

abbrev freshH (l : List Hd) (slot : Int) : List Hd := l.filter fun h => !decide (h.til < slot)
/-! Hold. -/
abbrev findφHd : List DV → DV → Prop := fun ds r => ∃ x y : Hd, ds = [.agg x.enc, .agg y.enc] ∧ r = .d (.int .i64 (cmpI x.flow y.flow))
instance ovl_Hd : Overlaps Tryz.prog 135 :=
  ⟨28, 4, 67, 5, TyOK.slice Tryz.sxty28 rfl, fun w => TyOK.run_size Tryz.sxty67 w, fun args w => run_callFunc_extern Tryz.func135 (by kernel_rfl) (by kernel_rfl) (by kernel_rfl) (by kernel_rfl) args w⟩

abbrev Hd1 (x : Hd) : D := .rd 1 5 fun _ j => (Hd.enc x).getD j .nils
end Go.Proofs


