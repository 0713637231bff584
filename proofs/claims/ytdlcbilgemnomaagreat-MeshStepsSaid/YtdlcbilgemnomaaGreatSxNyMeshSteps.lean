/-
  Rows.MeshStepsSaid: the Go function hopmeshlaw30.MeshSteps answers true for every input and leaves its arguments as they were. No condition.
-/
import Derived.Test.YtdlcbilgemnomaaGreatSxMbe
namespace Go.Proofs.M
open Go Go.Sx Go.Proofs Go.Proofs.T Go.Proofs.Q
theorem lawS : AhD Tryz.prog 7 [(true, Aho), (false, [.sl Ah6]), (false, [.sl Ahn])] := by
  intro xs h
  match xs, h with
  | [a0, a1, a2], ⟨h0, h1, h2, _⟩ =>
    obtain ⟨x0, e0⟩ := Y1 h0
    obtain ⟨x1, e1⟩ := R9 AcD h1
    obtain ⟨x2, e2⟩ := R9 X8 h2
    exact ⟨_, (.cons e0 (.cons e1 (.cons e2 .nil))), Pq x0 x1 x2⟩
end Go.Proofs.M
namespace Go.Proofs.YtdlcbilgemnomaaGreat
open Go.ChangeShapes Go.WideShapes Go.ChangeAt Go.RowKit Go.Sx Go.Proofs.M
set_option maxRecDepth 100000 in
theorem meshSteps_handed (os : Os) (started : os.Started) (H : Type) (enc : TypeId × Value → H) :
    ReturnsInHanded {} Tryz.checked os 7 .any (Rows.meshStepsSpec.pre6 enc Tryz.prog Tryz.f7 Rows.meshStepsRow.domain false) (Rows.meshStepsSpec.post enc Tryz.prog Tryz.f7 false true false false) :=
  Ks (n := 12) (C := Tryz.checked) Tryz.own started (by kernel_rfl) Tryz.func7
    (ChangeSpec.witness6 (enc := enc) (C := Tryz.checked) false ⟨#[], #[.agg #[.slice none 0 0, .int .i64 0, .int .i64 0, .slice none 0 0], .slice none 0 0, .slice none 0 0], []⟩ 8 (by kernel_rfl) (by kernel_rfl) (by kernel_rfl) (by kernel_rfl))
    Tryz.laidOut (by rw [Tryz.params7]; decide +kernel) rfl (fun ds h => by
      rw [Tryz.params7] at h
      match ds, h with
      | [_, _, _], _ => rfl) rfl (by kernel_rfl) (by kernel_rfl) lawS

set_option maxRecDepth 100000 in
theorem meshSteps_J1 : ((Rows.meshStepsRow.inPlace == Tryz.checked.prog.inPlace 7)) = true := by kernel_rfl
set_option maxRecDepth 100000 in
theorem meshSteps_J2 : ((Rows.meshStepsRow.unfollowed == Tryz.checked.prog.unfollowed 7)) = true := by kernel_rfl
set_option maxRecDepth 100000 in
theorem meshSteps_J3 : ((Rows.meshStepsRow.recurses == Tryz.checked.prog.recurses 7)) = true := by kernel_rfl
set_option maxRecDepth 100000 in
theorem meshSteps_J4 : ((Rows.meshStepsRow.named == Tryz.checked.prog.varsNamed 7)) = true := by kernel_rfl
set_option maxRecDepth 100000 in
theorem meshSteps_J5 : ((Rows.meshStepsRow.maps == (Tryz.f7.params.toList ++ Rows.meshStepsSpec.plain.varTypes Tryz.checked.prog).any (Tryz.checked.prog.mapsRec ·))) = true := by kernel_rfl
set_option maxRecDepth 100000 in
theorem meshSteps_J6 : ((Rows.meshStepsRow.ifaces == (Tryz.f7.params.toList ++ Rows.meshStepsSpec.plain.varTypes Tryz.checked.prog).any (Tryz.checked.prog.ifacesRec ·))) = true := by kernel_rfl
set_option maxRecDepth 100000 in
theorem meshSteps_J7 : ((Rows.meshStepsRow.loops == (Tryz.f7.params.toList ++ Rows.meshStepsSpec.plain.varTypes Tryz.checked.prog).any (Tryz.checked.prog.loopsFrom ·))) = true := by kernel_rfl
set_option maxRecDepth 100000 in
theorem meshSteps_J8 : ((Rows.meshStepsRow.wideKeys == (Tryz.f7.params.toList ++ Rows.meshStepsSpec.plain.varTypes Tryz.checked.prog ++ Tryz.f7.resultTypes.toList).any (Tryz.checked.prog.wideKeysFrom ·))) = true := by kernel_rfl
set_option maxRecDepth 100000 in
theorem meshSteps_J9 : ((Rows.meshStepsRow.veiled == (Tryz.f7.params.toList ++ Rows.meshStepsSpec.plain.varTypes Tryz.checked.prog ++ Tryz.f7.resultTypes.toList).any (Tryz.checked.prog.veiledRec ·))) = true := by kernel_rfl
set_option maxRecDepth 100000 in
theorem meshSteps_J10 : (Rows.meshStepsRow.veiledFits Tryz.checked.prog Tryz.f7.params.toList (Tryz.f7.params.toList ++ Rows.meshStepsSpec.plain.varTypes Tryz.checked.prog ++ Tryz.f7.resultTypes.toList)) = true := by kernel_rfl
set_option maxRecDepth 100000 in
theorem meshSteps_joined : joinedFacts Tryz.checked.prog 7 Tryz.f7 Rows.meshStepsSpec Rows.meshStepsRow = true := by
  unfold joinedFacts
  simp only [Bool.and_eq_true]
  and_intros
  · kernel_rfl
  · exact Tryz.laidOut
  · exact J.maps
  · kernel_rfl
  · kernel_rfl
  · kernel_rfl
  · exact J.stops
  · kernel_rfl
  · exact J.stopKnobs
  · exact meshSteps_J1
  · exact meshSteps_J2
  · exact meshSteps_J3
  · exact meshSteps_J4
  · exact meshSteps_J5
  · exact meshSteps_J6
  · kernel_rfl
  · exact meshSteps_J7
  · exact meshSteps_J8
  · kernel_rfl
  · kernel_rfl
  · kernel_rfl
  · kernel_rfl
  · exact J.keys
  · kernel_rfl
  · exact J.heard
  · exact J.enter
  · exact J.lift
  · exact J.make
  · kernel_rfl
  · kernel_rfl
  · exact meshSteps_J9
  · exact meshSteps_J10
theorem meshSteps_holds : Rows.MeshStepsSaid :=
  OpenClaim.holds_of_wide 7 Tryz.f7 rfl rfl rfl rfl rfl rfl rfl ⟨rfl, rfl, rfl, rfl, rfl⟩ rfl rfl rfl rfl rfl (by kernel_rfl) Tryz.func7 meshSteps_joined
    (of_decide_eq_true (by kernel_rfl)) (by unfold Func.isWrapper; first | (rw [if_pos (by decide +kernel)]; kernel_rfl) | (rw [if_neg (by decide +kernel)]; exact ⟨rfl, rfl⟩))
    (fun os started H enc _ => meshSteps_handed os started H enc)
end Go.Proofs.YtdlcbilgemnomaaGreat



