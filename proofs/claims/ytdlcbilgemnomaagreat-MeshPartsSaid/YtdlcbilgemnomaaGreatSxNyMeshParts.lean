/-
  Rows.MeshPartsSaid: the Go function hopmeshlaw30.MeshParts answers true for every input and leaves its arguments as they were. No condition.
-/
import Derived.Test.YtdlcbilgemnomaaGreatSxMan
namespace Go.Proofs.M
open Go Go.Sx Go.Proofs Go.Proofs.T Go.Proofs.Q
theorem lawS : AdU Tryz.prog 9 [(true, AdI), (false, [.sl AdK]), (false, [.sl AdF]), (false, [.int .u8]), (false, [.int .u8])] := by
  intro xs h
  match xs, h with
  | [a0, a1, a2, a3, a4], ⟨h0, h1, h2, h3, h4, _⟩ =>
    obtain ⟨x0, e0⟩ := Abv h0
    obtain ⟨x1, e1⟩ := X8 AbA h1
    obtain ⟨x2, e2⟩ := X8 Abh h2
    obtain ⟨x3, rfl, w3⟩ := VE h3
    obtain ⟨x4, rfl, w4⟩ := VE h4
    have r3 := Nc w3
    have r4 := Nc w4
    exact ⟨_, (.cons e0 (.cons e1 (.cons e2 (.cons (.refl _) (.cons (.refl _) .nil))))), Mn x0 x1 x2 x3 x4 (by omega) (by omega)⟩
end Go.Proofs.M
namespace Go.Proofs.YtdlcbilgemnomaaGreat
open Go.ChangeShapes Go.WideShapes Go.ChangeAt Go.RowKit Go.Sx Go.Proofs.M
set_option maxRecDepth 100000 in
theorem meshParts_handed (os : Os) (started : os.Started) (H : Type) (enc : TypeId × Value → H) :
    ReturnsInHanded {} Tryz.checked os 9 .any (Rows.meshPartsSpec.pre6 enc Tryz.prog Tryz.f9 Rows.meshPartsRow.domain false) (Rows.meshPartsSpec.post enc Tryz.prog Tryz.f9 false true false false) :=
  Ss (n := 12) (C := Tryz.checked) Tryz.own started (by kernel_rfl) Tryz.func9
    (ChangeSpec.witness6 (enc := enc) (C := Tryz.checked) false ⟨#[], #[.agg #[.slice none 0 0, .int .i64 0, .int .i64 0, .slice none 0 0], .slice none 0 0, .slice none 0 0, .int .u8 0, .int .u8 0], []⟩ 8 (by kernel_rfl) (by kernel_rfl) (by kernel_rfl) (by kernel_rfl))
    Tryz.laidOut (by rw [Tryz.params9]; decide +kernel) rfl (fun ds h => by
      rw [Tryz.params9] at h
      match ds, h with
      | [_, _, _, _, _], _ => rfl) rfl (by kernel_rfl) (by kernel_rfl) lawS

set_option maxRecDepth 100000 in
theorem meshParts_J1 : ((Rows.meshPartsRow.inPlace == Tryz.checked.prog.inPlace 9)) = true := by kernel_rfl
set_option maxRecDepth 100000 in
theorem meshParts_J2 : ((Rows.meshPartsRow.unfollowed == Tryz.checked.prog.unfollowed 9)) = true := by kernel_rfl
set_option maxRecDepth 100000 in
theorem meshParts_J3 : ((Rows.meshPartsRow.recurses == Tryz.checked.prog.recurses 9)) = true := by kernel_rfl
set_option maxRecDepth 100000 in
theorem meshParts_J4 : ((Rows.meshPartsRow.named == Tryz.checked.prog.varsNamed 9)) = true := by kernel_rfl
set_option maxRecDepth 100000 in
theorem meshParts_J5 : ((Rows.meshPartsRow.maps == (Tryz.f9.params.toList ++ Rows.meshPartsSpec.plain.varTypes Tryz.checked.prog).any (Tryz.checked.prog.mapsRec ·))) = true := by kernel_rfl
set_option maxRecDepth 100000 in
theorem meshParts_J6 : ((Rows.meshPartsRow.ifaces == (Tryz.f9.params.toList ++ Rows.meshPartsSpec.plain.varTypes Tryz.checked.prog).any (Tryz.checked.prog.ifacesRec ·))) = true := by kernel_rfl
set_option maxRecDepth 100000 in
theorem meshParts_J7 : ((Rows.meshPartsRow.loops == (Tryz.f9.params.toList ++ Rows.meshPartsSpec.plain.varTypes Tryz.checked.prog).any (Tryz.checked.prog.loopsFrom ·))) = true := by kernel_rfl
set_option maxRecDepth 100000 in
theorem meshParts_J8 : ((Rows.meshPartsRow.wideKeys == (Tryz.f9.params.toList ++ Rows.meshPartsSpec.plain.varTypes Tryz.checked.prog ++ Tryz.f9.resultTypes.toList).any (Tryz.checked.prog.wideKeysFrom ·))) = true := by kernel_rfl
set_option maxRecDepth 100000 in
theorem meshParts_J9 : ((Rows.meshPartsRow.veiled == (Tryz.f9.params.toList ++ Rows.meshPartsSpec.plain.varTypes Tryz.checked.prog ++ Tryz.f9.resultTypes.toList).any (Tryz.checked.prog.veiledRec ·))) = true := by kernel_rfl
set_option maxRecDepth 100000 in
theorem meshParts_J10 : (Rows.meshPartsRow.veiledFits Tryz.checked.prog Tryz.f9.params.toList (Tryz.f9.params.toList ++ Rows.meshPartsSpec.plain.varTypes Tryz.checked.prog ++ Tryz.f9.resultTypes.toList)) = true := by kernel_rfl
set_option maxRecDepth 100000 in
theorem meshParts_joined : joinedFacts Tryz.checked.prog 9 Tryz.f9 Rows.meshPartsSpec Rows.meshPartsRow = true := by
  unfold joinedFacts
  simp only [Bool.and_eq_true]
  and_intros
  · kernel_rfl
  · exact Tryz.laidOut
  · exact J.maps
  · kernel_rfl
  · kernel_rfl
  · kernel_rfl
  · exact J.stops
  · kernel_rfl
  · exact J.stopKnobs
  · exact meshParts_J1
  · exact meshParts_J2
  · exact meshParts_J3
  · exact meshParts_J4
  · exact meshParts_J5
  · exact meshParts_J6
  · kernel_rfl
  · exact meshParts_J7
  · exact meshParts_J8
  · kernel_rfl
  · kernel_rfl
  · kernel_rfl
  · kernel_rfl
  · exact J.keys
  · kernel_rfl
  · exact J.heard
  · exact J.enter
  · exact J.lift
  · exact J.make
  · kernel_rfl
  · kernel_rfl
  · exact meshParts_J9
  · exact meshParts_J10
theorem meshParts_holds : Rows.MeshPartsSaid :=
  OpenClaim.holds_of_wide 9 Tryz.f9 rfl rfl rfl rfl rfl rfl rfl ⟨rfl, rfl, rfl, rfl, rfl⟩ rfl rfl rfl rfl rfl (by kernel_rfl) Tryz.func9 meshParts_joined
    (of_decide_eq_true (by kernel_rfl)) (by unfold Func.isWrapper; first | (rw [if_pos (by decide +kernel)]; kernel_rfl) | (rw [if_neg (by decide +kernel)]; exact ⟨rfl, rfl⟩))
    (fun os started H enc _ => meshParts_handed os started H enc)
end Go.Proofs.YtdlcbilgemnomaaGreat



