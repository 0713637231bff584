/-
  Rows.MeshRunsSaid: the Go function hopmeshlaw30.MeshRuns answers true for every input and leaves its arguments as they were. No condition.
-/
import Derived.Test.YtdlcbilgemnomaaGreatSxMbe
namespace Go.Proofs.M
open Go Go.Sx Go.Proofs Go.Proofs.T Go.Proofs.Q
theorem lawS : AhD Tryz.prog 4 [(true, Aho), (false, [.int .i64]), (false, [.sl Ah6]), (false, [.sl Ahn])] := by
  intro xs h
  match xs, h with
  | [a0, a1, a2, a3], ⟨h0, h1, h2, h3, _⟩ =>
    obtain ⟨x0, e0⟩ := Y1 h0
    obtain ⟨x1, rfl, _⟩ := Nh h1
    obtain ⟨x2, e2⟩ := R9 AcD h2
    obtain ⟨x3, e3⟩ := R9 X8 h3
    exact ⟨_, (.cons e0 (.cons (.refl _) (.cons e2 (.cons e3 .nil)))), Rh x0 x1 x2 x3⟩
end Go.Proofs.M
namespace Go.Proofs.YtdlcbilgemnomaaGreat
open Go.ChangeShapes Go.WideShapes Go.ChangeAt Go.RowKit Go.Sx Go.Proofs.M
set_option maxRecDepth 100000 in
theorem meshRuns_handed (os : Os) (started : os.Started) (H : Type) (enc : TypeId × Value → H) :
    ReturnsInHanded {} Tryz.checked os 4 .any (Rows.meshRunsSpec.pre6 enc Tryz.prog Tryz.f4 Rows.meshRunsRow.domain false) (Rows.meshRunsSpec.post enc Tryz.prog Tryz.f4 false true false false) :=
  Ks (n := 12) (C := Tryz.checked) Tryz.own started (by kernel_rfl) Tryz.func4
    (ChangeSpec.witness6 (enc := enc) (C := Tryz.checked) false ⟨#[], #[.agg #[.slice none 0 0, .int .i64 0, .int .i64 0, .slice none 0 0], .int .i64 0, .slice none 0 0, .slice none 0 0], []⟩ 8 (by kernel_rfl) (by kernel_rfl) (by kernel_rfl) (by kernel_rfl))
    Tryz.laidOut (by rw [Tryz.params4]; decide +kernel) rfl (fun ds h => by
      rw [Tryz.params4] at h
      match ds, h with
      | [_, _, _, _], _ => rfl) rfl (by kernel_rfl) (by kernel_rfl) lawS

set_option maxRecDepth 100000 in
theorem meshRuns_J1 : ((Rows.meshRunsRow.inPlace == Tryz.checked.prog.inPlace 4)) = true := by kernel_rfl
set_option maxRecDepth 100000 in
theorem meshRuns_J2 : ((Rows.meshRunsRow.unfollowed == Tryz.checked.prog.unfollowed 4)) = true := by kernel_rfl
set_option maxRecDepth 100000 in
theorem meshRuns_J3 : ((Rows.meshRunsRow.recurses == Tryz.checked.prog.recurses 4)) = true := by kernel_rfl
set_option maxRecDepth 100000 in
theorem meshRuns_J4 : ((Rows.meshRunsRow.named == Tryz.checked.prog.varsNamed 4)) = true := by kernel_rfl
set_option maxRecDepth 100000 in
theorem meshRuns_J5 : ((Rows.meshRunsRow.maps == (Tryz.f4.params.toList ++ Rows.meshRunsSpec.plain.varTypes Tryz.checked.prog).any (Tryz.checked.prog.mapsRec ·))) = true := by kernel_rfl
set_option maxRecDepth 100000 in
theorem meshRuns_J6 : ((Rows.meshRunsRow.ifaces == (Tryz.f4.params.toList ++ Rows.meshRunsSpec.plain.varTypes Tryz.checked.prog).any (Tryz.checked.prog.ifacesRec ·))) = true := by kernel_rfl
set_option maxRecDepth 100000 in
theorem meshRuns_J7 : ((Rows.meshRunsRow.loops == (Tryz.f4.params.toList ++ Rows.meshRunsSpec.plain.varTypes Tryz.checked.prog).any (Tryz.checked.prog.loopsFrom ·))) = true := by kernel_rfl
set_option maxRecDepth 100000 in
theorem meshRuns_J8 : ((Rows.meshRunsRow.wideKeys == (Tryz.f4.params.toList ++ Rows.meshRunsSpec.plain.varTypes Tryz.checked.prog ++ Tryz.f4.resultTypes.toList).any (Tryz.checked.prog.wideKeysFrom ·))) = true := by kernel_rfl
set_option maxRecDepth 100000 in
theorem meshRuns_J9 : ((Rows.meshRunsRow.veiled == (Tryz.f4.params.toList ++ Rows.meshRunsSpec.plain.varTypes Tryz.checked.prog ++ Tryz.f4.resultTypes.toList).any (Tryz.checked.prog.veiledRec ·))) = true := by kernel_rfl
set_option maxRecDepth 100000 in
theorem meshRuns_J10 : (Rows.meshRunsRow.veiledFits Tryz.checked.prog Tryz.f4.params.toList (Tryz.f4.params.toList ++ Rows.meshRunsSpec.plain.varTypes Tryz.checked.prog ++ Tryz.f4.resultTypes.toList)) = true := by kernel_rfl
set_option maxRecDepth 100000 in
theorem meshRuns_joined : joinedFacts Tryz.checked.prog 4 Tryz.f4 Rows.meshRunsSpec Rows.meshRunsRow = true := by
  unfold joinedFacts
  simp only [Bool.and_eq_true]
  and_intros
  · kernel_rfl
  · exact Tryz.laidOut
  · exact J.maps
  · kernel_rfl
  · kernel_rfl
  · kernel_rfl
  · exact J.stops
  · kernel_rfl
  · exact J.stopKnobs
  · exact meshRuns_J1
  · exact meshRuns_J2
  · exact meshRuns_J3
  · exact meshRuns_J4
  · exact meshRuns_J5
  · exact meshRuns_J6
  · kernel_rfl
  · exact meshRuns_J7
  · exact meshRuns_J8
  · kernel_rfl
  · kernel_rfl
  · kernel_rfl
  · kernel_rfl
  · exact J.keys
  · kernel_rfl
  · exact J.heard
  · exact J.enter
  · exact J.lift
  · exact J.make
  · kernel_rfl
  · kernel_rfl
  · exact meshRuns_J9
  · exact meshRuns_J10
theorem meshRuns_holds : Rows.MeshRunsSaid :=
  OpenClaim.holds_of_wide 4 Tryz.f4 rfl rfl rfl rfl rfl rfl rfl ⟨rfl, rfl, rfl, rfl, rfl⟩ rfl rfl rfl rfl rfl (by kernel_rfl) Tryz.func4 meshRuns_joined
    (of_decide_eq_true (by kernel_rfl)) (by unfold Func.isWrapper; first | (rw [if_pos (by decide +kernel)]; kernel_rfl) | (rw [if_neg (by decide +kernel)]; exact ⟨rfl, rfl⟩))
    (fun os started H enc _ => meshRuns_handed os started H enc)
end Go.Proofs.YtdlcbilgemnomaaGreat



