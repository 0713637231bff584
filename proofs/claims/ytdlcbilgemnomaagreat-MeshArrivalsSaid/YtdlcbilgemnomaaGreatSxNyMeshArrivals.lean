/-
  Rows.MeshArrivalsSaid: the Go function hopmeshlaw30.MeshArrivals answers true for every input and leaves its arguments as they were. No condition.
-/
import Derived.Test.YtdlcbilgemnomaaGreatSxMam
import Derived.Test.YtdlcbilgemnomaaGreatSxMap
namespace Go.Proofs.M
open Go Go.Sx Go.Proofs Go.Proofs.T Go.Proofs.Q
theorem lawS : AfG Tryz.prog 5 [(false, [.sl AfN]), (false, [.int .u8]), (false, [.sl AfT]), (false, [.sl AfP]), (false, [.int .u8])] := by
  intro xs h
  match xs, h with
  | [a0, a1, a2, a3, a4], ⟨h0, h1, h2, h3, h4, _⟩ =>
    obtain ⟨x0, e0⟩ := AfF Afm h0
    obtain ⟨x1, rfl, w1⟩ := QX h1
    obtain ⟨x2, e2⟩ := AfF Afz h2
    obtain ⟨x3, e3⟩ := AfF Aft h3
    obtain ⟨x4, rfl, w4⟩ := QX h4
    have r1 := JY w1
    have r4 := JY w4
    exact ⟨_, (.cons e0 (.cons (.refl _) (.cons e2 (.cons e3 (.cons (.refl _) .nil))))), Ahc x0 x1 x2 x3 x4 (by omega) (by omega)⟩
end Go.Proofs.M
namespace Go.Proofs.YtdlcbilgemnomaaGreat
open Go.ChangeShapes Go.WideShapes Go.ChangeAt Go.RowKit Go.Sx Go.Proofs.M
set_option maxRecDepth 100000 in
theorem meshArrivals_handed (os : Os) (started : os.Started) (H : Type) (enc : TypeId × Value → H) :
    ReturnsInHanded {} Tryz.checked os 5 .any (Rows.meshArrivalsSpec.pre6 enc Tryz.prog Tryz.f5 Rows.meshArrivalsRow.domain false) (Rows.meshArrivalsSpec.post enc Tryz.prog Tryz.f5 false true false false) :=
  Tp (n := 12) (C := Tryz.checked) Tryz.own started (by kernel_rfl) Tryz.func5
    (ChangeSpec.witness6 (enc := enc) (C := Tryz.checked) false ⟨#[], #[.slice none 0 0, .int .u8 0, .slice none 0 0, .slice none 0 0, .int .u8 0], []⟩ 8 (by kernel_rfl) (by kernel_rfl) (by kernel_rfl) (by kernel_rfl))
    Tryz.laidOut (by rw [Tryz.params5]; decide +kernel) rfl (fun ds h => by
      rw [Tryz.params5] at h
      match ds, h with
      | [_, _, _, _, _], _ => rfl) rfl (by kernel_rfl) (by kernel_rfl) lawS

set_option maxRecDepth 100000 in
theorem meshArrivals_J1 : ((Rows.meshArrivalsRow.inPlace == Tryz.checked.prog.inPlace 5)) = true := by kernel_rfl
set_option maxRecDepth 100000 in
theorem meshArrivals_J2 : ((Rows.meshArrivalsRow.unfollowed == Tryz.checked.prog.unfollowed 5)) = true := by kernel_rfl
set_option maxRecDepth 100000 in
theorem meshArrivals_J3 : ((Rows.meshArrivalsRow.recurses == Tryz.checked.prog.recurses 5)) = true := by kernel_rfl
set_option maxRecDepth 100000 in
theorem meshArrivals_J4 : ((Rows.meshArrivalsRow.named == Tryz.checked.prog.varsNamed 5)) = true := by kernel_rfl
set_option maxRecDepth 100000 in
theorem meshArrivals_J5 : ((Rows.meshArrivalsRow.maps == (Tryz.f5.params.toList ++ Rows.meshArrivalsSpec.plain.varTypes Tryz.checked.prog).any (Tryz.checked.prog.mapsRec ·))) = true := by kernel_rfl
set_option maxRecDepth 100000 in
theorem meshArrivals_J6 : ((Rows.meshArrivalsRow.ifaces == (Tryz.f5.params.toList ++ Rows.meshArrivalsSpec.plain.varTypes Tryz.checked.prog).any (Tryz.checked.prog.ifacesRec ·))) = true := by kernel_rfl
set_option maxRecDepth 100000 in
theorem meshArrivals_J7 : ((Rows.meshArrivalsRow.loops == (Tryz.f5.params.toList ++ Rows.meshArrivalsSpec.plain.varTypes Tryz.checked.prog).any (Tryz.checked.prog.loopsFrom ·))) = true := by kernel_rfl
set_option maxRecDepth 100000 in
theorem meshArrivals_J8 : ((Rows.meshArrivalsRow.wideKeys == (Tryz.f5.params.toList ++ Rows.meshArrivalsSpec.plain.varTypes Tryz.checked.prog ++ Tryz.f5.resultTypes.toList).any (Tryz.checked.prog.wideKeysFrom ·))) = true := by kernel_rfl
set_option maxRecDepth 100000 in
theorem meshArrivals_J9 : ((Rows.meshArrivalsRow.veiled == (Tryz.f5.params.toList ++ Rows.meshArrivalsSpec.plain.varTypes Tryz.checked.prog ++ Tryz.f5.resultTypes.toList).any (Tryz.checked.prog.veiledRec ·))) = true := by kernel_rfl
set_option maxRecDepth 100000 in
theorem meshArrivals_J10 : (Rows.meshArrivalsRow.veiledFits Tryz.checked.prog Tryz.f5.params.toList (Tryz.f5.params.toList ++ Rows.meshArrivalsSpec.plain.varTypes Tryz.checked.prog ++ Tryz.f5.resultTypes.toList)) = true := by kernel_rfl
set_option maxRecDepth 100000 in
theorem meshArrivals_joined : joinedFacts Tryz.checked.prog 5 Tryz.f5 Rows.meshArrivalsSpec Rows.meshArrivalsRow = true := by
  unfold joinedFacts
  simp only [Bool.and_eq_true]
  and_intros
  · kernel_rfl
  · exact Tryz.laidOut
  · exact J.maps
  · kernel_rfl
  · kernel_rfl
  · kernel_rfl
  · exact J.stops
  · kernel_rfl
  · exact J.stopKnobs
  · exact meshArrivals_J1
  · exact meshArrivals_J2
  · exact meshArrivals_J3
  · exact meshArrivals_J4
  · exact meshArrivals_J5
  · exact meshArrivals_J6
  · kernel_rfl
  · exact meshArrivals_J7
  · exact meshArrivals_J8
  · kernel_rfl
  · kernel_rfl
  · kernel_rfl
  · kernel_rfl
  · exact J.keys
  · kernel_rfl
  · exact J.heard
  · exact J.enter
  · exact J.lift
  · exact J.make
  · kernel_rfl
  · kernel_rfl
  · exact meshArrivals_J9
  · exact meshArrivals_J10
theorem meshArrivals_holds : Rows.MeshArrivalsSaid :=
  OpenClaim.holds_of_wide 5 Tryz.f5 rfl rfl rfl rfl rfl rfl rfl ⟨rfl, rfl, rfl, rfl, rfl⟩ rfl rfl rfl rfl rfl (by kernel_rfl) Tryz.func5 meshArrivals_joined
    (of_decide_eq_true (by kernel_rfl)) (by unfold Func.isWrapper; first | (rw [if_pos (by decide +kernel)]; kernel_rfl) | (rw [if_neg (by decide +kernel)]; exact ⟨rfl, rfl⟩))
    (fun os started H enc _ => meshArrivals_handed os started H enc)
end Go.Proofs.YtdlcbilgemnomaaGreat



