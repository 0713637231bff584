/-
  Rows.MeshChecksSaid: the Go function hopmeshlaw30.MeshChecks answers true for every input and leaves its arguments as they were. No condition.
-/
import Derived.Test.YtdlcbilgemnomaaGreatSxMbf
namespace Go.Proofs.M
open Go Go.Sx Go.Proofs Go.Proofs.T Go.Proofs.Q
theorem lawS : AhD Tryz.prog 3 [(true, Aho), (false, [.int .i64]), (false, [.sl Ahn]), (false, [.int .i64]), (false, [.int .i64]), (false, [.int .i64])] := by
  intro xs h
  match xs, h with
  | [a0, a1, a2, a3, a4, a5], ⟨h0, h1, h2, h3, h4, h5, _⟩ =>
    obtain ⟨x0, e0⟩ := Y1 h0
    obtain ⟨x1, rfl, _⟩ := Nh h1
    obtain ⟨x2, e2⟩ := R9 X8 h2
    obtain ⟨x3, rfl, _⟩ := Nh h3
    obtain ⟨x4, rfl, _⟩ := Nh h4
    obtain ⟨x5, rfl, _⟩ := Nh h5
    exact ⟨_, (.cons e0 (.cons (.refl _) (.cons e2 (.cons (.refl _) (.cons (.refl _) (.cons (.refl _) .nil)))))), NJ x0 x1 x2 x3 x4 x5⟩
end Go.Proofs.M
namespace Go.Proofs.YtdlcbilgemnomaaGreat
open Go.ChangeShapes Go.WideShapes Go.ChangeAt Go.RowKit Go.Sx Go.Proofs.M
set_option maxRecDepth 100000 in
theorem meshChecks_handed (os : Os) (started : os.Started) (H : Type) (enc : TypeId × Value → H) :
    ReturnsInHanded {} Tryz.checked os 3 .any (Rows.meshChecksSpec.pre6 enc Tryz.prog Tryz.f3 Rows.meshChecksRow.domain false) (Rows.meshChecksSpec.post enc Tryz.prog Tryz.f3 false true false false) :=
  Ks (n := 12) (C := Tryz.checked) Tryz.own started (by kernel_rfl) Tryz.func3
    (ChangeSpec.witness6 (enc := enc) (C := Tryz.checked) false ⟨#[], #[.agg #[.slice none 0 0, .int .i64 0, .int .i64 0, .slice none 0 0], .int .i64 0, .slice none 0 0, .int .i64 0, .int .i64 0, .int .i64 0], []⟩ 8 (by kernel_rfl) (by kernel_rfl) (by kernel_rfl) (by kernel_rfl))
    Tryz.laidOut (by rw [Tryz.params3]; decide +kernel) rfl (fun ds h => by
      rw [Tryz.params3] at h
      match ds, h with
      | [_, _, _, _, _, _], _ => rfl) rfl (by kernel_rfl) (by kernel_rfl) lawS

set_option maxRecDepth 100000 in
theorem meshChecks_J1 : ((Rows.meshChecksRow.inPlace == Tryz.checked.prog.inPlace 3)) = true := by kernel_rfl
set_option maxRecDepth 100000 in
theorem meshChecks_J2 : ((Rows.meshChecksRow.unfollowed == Tryz.checked.prog.unfollowed 3)) = true := by kernel_rfl
set_option maxRecDepth 100000 in
theorem meshChecks_J3 : ((Rows.meshChecksRow.recurses == Tryz.checked.prog.recurses 3)) = true := by kernel_rfl
set_option maxRecDepth 100000 in
theorem meshChecks_J4 : ((Rows.meshChecksRow.named == Tryz.checked.prog.varsNamed 3)) = true := by kernel_rfl
set_option maxRecDepth 100000 in
theorem meshChecks_J5 : ((Rows.meshChecksRow.maps == (Tryz.f3.params.toList ++ Rows.meshChecksSpec.plain.varTypes Tryz.checked.prog).any (Tryz.checked.prog.mapsRec ·))) = true := by kernel_rfl
set_option maxRecDepth 100000 in
theorem meshChecks_J6 : ((Rows.meshChecksRow.ifaces == (Tryz.f3.params.toList ++ Rows.meshChecksSpec.plain.varTypes Tryz.checked.prog).any (Tryz.checked.prog.ifacesRec ·))) = true := by kernel_rfl
set_option maxRecDepth 100000 in
theorem meshChecks_J7 : ((Rows.meshChecksRow.loops == (Tryz.f3.params.toList ++ Rows.meshChecksSpec.plain.varTypes Tryz.checked.prog).any (Tryz.checked.prog.loopsFrom ·))) = true := by kernel_rfl
set_option maxRecDepth 100000 in
theorem meshChecks_J8 : ((Rows.meshChecksRow.wideKeys == (Tryz.f3.params.toList ++ Rows.meshChecksSpec.plain.varTypes Tryz.checked.prog ++ Tryz.f3.resultTypes.toList).any (Tryz.checked.prog.wideKeysFrom ·))) = true := by kernel_rfl
set_option maxRecDepth 100000 in
theorem meshChecks_J9 : ((Rows.meshChecksRow.veiled == (Tryz.f3.params.toList ++ Rows.meshChecksSpec.plain.varTypes Tryz.checked.prog ++ Tryz.f3.resultTypes.toList).any (Tryz.checked.prog.veiledRec ·))) = true := by kernel_rfl
set_option maxRecDepth 100000 in
theorem meshChecks_J10 : (Rows.meshChecksRow.veiledFits Tryz.checked.prog Tryz.f3.params.toList (Tryz.f3.params.toList ++ Rows.meshChecksSpec.plain.varTypes Tryz.checked.prog ++ Tryz.f3.resultTypes.toList)) = true := by kernel_rfl
set_option maxRecDepth 100000 in
theorem meshChecks_joined : joinedFacts Tryz.checked.prog 3 Tryz.f3 Rows.meshChecksSpec Rows.meshChecksRow = true := by
  unfold joinedFacts
  simp only [Bool.and_eq_true]
  and_intros
  · kernel_rfl
  · exact Tryz.laidOut
  · exact J.maps
  · kernel_rfl
  · kernel_rfl
  · kernel_rfl
  · exact J.stops
  · kernel_rfl
  · exact J.stopKnobs
  · exact meshChecks_J1
  · exact meshChecks_J2
  · exact meshChecks_J3
  · exact meshChecks_J4
  · exact meshChecks_J5
  · exact meshChecks_J6
  · kernel_rfl
  · exact meshChecks_J7
  · exact meshChecks_J8
  · kernel_rfl
  · kernel_rfl
  · kernel_rfl
  · kernel_rfl
  · exact J.keys
  · kernel_rfl
  · exact J.heard
  · exact J.enter
  · exact J.lift
  · exact J.make
  · kernel_rfl
  · kernel_rfl
  · exact meshChecks_J9
  · exact meshChecks_J10
theorem meshChecks_holds : Rows.MeshChecksSaid :=
  OpenClaim.holds_of_wide 3 Tryz.f3 rfl rfl rfl rfl rfl rfl rfl ⟨rfl, rfl, rfl, rfl, rfl⟩ rfl rfl rfl rfl rfl (by kernel_rfl) Tryz.func3 meshChecks_joined
    (of_decide_eq_true (by kernel_rfl)) (by unfold Func.isWrapper; first | (rw [if_pos (by decide +kernel)]; kernel_rfl) | (rw [if_neg (by decide +kernel)]; exact ⟨rfl, rfl⟩))
    (fun os started H enc _ => meshChecks_handed os started H enc)
end Go.Proofs.YtdlcbilgemnomaaGreat



