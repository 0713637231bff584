/-
  Rows.MeshLineSaid: the Go function hopmeshlaw30.MeshLine answers true for every input and leaves its arguments as they were. No condition.
-/
import Derived.Test.YtdlcbilgemnomaaGreatSxMam
import Derived.Test.YtdlcbilgemnomaaGreatSxMao
namespace Go.Proofs.M
open Go Go.Sx Go.Proofs Go.Proofs.T Go.Proofs.Q
theorem lawS : AfG Tryz.prog 6 [(false, [.int .u8]), (false, [.int .u8]), (false, [.int .u8])] := by
  intro xs h
  match xs, h with
  | [a0, a1, a2], ⟨h0, h1, h2, _⟩ =>
    obtain ⟨x0, rfl, w0⟩ := QX h0
    obtain ⟨x1, rfl, w1⟩ := QX h1
    obtain ⟨x2, rfl, w2⟩ := QX h2
    have r0 := JY w0
    have r1 := JY w1
    have r2 := JY w2
    exact ⟨_, (.cons (.refl _) (.cons (.refl _) (.cons (.refl _) .nil))), OA x0 x1 x2 (by omega) (by omega) (by omega)⟩
end Go.Proofs.M
namespace Go.Proofs.YtdlcbilgemnomaaGreat
open Go.ChangeShapes Go.WideShapes Go.ChangeAt Go.RowKit Go.Sx Go.Proofs.M
set_option maxRecDepth 100000 in
theorem meshLine_handed (os : Os) (started : os.Started) (H : Type) (enc : TypeId × Value → H) :
    ReturnsInHanded {} Tryz.checked os 6 .any (Rows.meshLineSpec.pre6 enc Tryz.prog Tryz.f6 Rows.meshLineRow.domain false) (Rows.meshLineSpec.post enc Tryz.prog Tryz.f6 false true false false) :=
  Tp (n := 12) (C := Tryz.checked) Tryz.own started (by kernel_rfl) Tryz.func6
    (ChangeSpec.witness6 (enc := enc) (C := Tryz.checked) false ⟨#[], #[.int .u8 0, .int .u8 0, .int .u8 0], []⟩ 8 (by kernel_rfl) (by kernel_rfl) (by kernel_rfl) (by kernel_rfl))
    Tryz.laidOut (by rw [Tryz.params6]; decide +kernel) rfl (fun ds h => by
      rw [Tryz.params6] at h
      match ds, h with
      | [_, _, _], _ => rfl) rfl (by kernel_rfl) (by kernel_rfl) lawS

set_option maxRecDepth 100000 in
theorem meshLine_J1 : ((Rows.meshLineRow.inPlace == Tryz.checked.prog.inPlace 6)) = true := by kernel_rfl
set_option maxRecDepth 100000 in
theorem meshLine_J2 : ((Rows.meshLineRow.unfollowed == Tryz.checked.prog.unfollowed 6)) = true := by kernel_rfl
set_option maxRecDepth 100000 in
theorem meshLine_J3 : ((Rows.meshLineRow.recurses == Tryz.checked.prog.recurses 6)) = true := by kernel_rfl
set_option maxRecDepth 100000 in
theorem meshLine_J4 : ((Rows.meshLineRow.named == Tryz.checked.prog.varsNamed 6)) = true := by kernel_rfl
set_option maxRecDepth 100000 in
theorem meshLine_J5 : ((Rows.meshLineRow.maps == (Tryz.f6.params.toList ++ Rows.meshLineSpec.plain.varTypes Tryz.checked.prog).any (Tryz.checked.prog.mapsRec ·))) = true := by kernel_rfl
set_option maxRecDepth 100000 in
theorem meshLine_J6 : ((Rows.meshLineRow.ifaces == (Tryz.f6.params.toList ++ Rows.meshLineSpec.plain.varTypes Tryz.checked.prog).any (Tryz.checked.prog.ifacesRec ·))) = true := by kernel_rfl
set_option maxRecDepth 100000 in
theorem meshLine_J7 : ((Rows.meshLineRow.loops == (Tryz.f6.params.toList ++ Rows.meshLineSpec.plain.varTypes Tryz.checked.prog).any (Tryz.checked.prog.loopsFrom ·))) = true := by kernel_rfl
set_option maxRecDepth 100000 in
theorem meshLine_J8 : ((Rows.meshLineRow.wideKeys == (Tryz.f6.params.toList ++ Rows.meshLineSpec.plain.varTypes Tryz.checked.prog ++ Tryz.f6.resultTypes.toList).any (Tryz.checked.prog.wideKeysFrom ·))) = true := by kernel_rfl
set_option maxRecDepth 100000 in
theorem meshLine_J9 : ((Rows.meshLineRow.veiled == (Tryz.f6.params.toList ++ Rows.meshLineSpec.plain.varTypes Tryz.checked.prog ++ Tryz.f6.resultTypes.toList).any (Tryz.checked.prog.veiledRec ·))) = true := by kernel_rfl
set_option maxRecDepth 100000 in
theorem meshLine_J10 : (Rows.meshLineRow.veiledFits Tryz.checked.prog Tryz.f6.params.toList (Tryz.f6.params.toList ++ Rows.meshLineSpec.plain.varTypes Tryz.checked.prog ++ Tryz.f6.resultTypes.toList)) = true := by kernel_rfl
set_option maxRecDepth 100000 in
theorem meshLine_joined : joinedFacts Tryz.checked.prog 6 Tryz.f6 Rows.meshLineSpec Rows.meshLineRow = true := by
  unfold joinedFacts
  simp only [Bool.and_eq_true]
  and_intros
  · kernel_rfl
  · exact Tryz.laidOut
  · exact J.maps
  · kernel_rfl
  · kernel_rfl
  · kernel_rfl
  · exact J.stops
  · kernel_rfl
  · exact J.stopKnobs
  · exact meshLine_J1
  · exact meshLine_J2
  · exact meshLine_J3
  · exact meshLine_J4
  · exact meshLine_J5
  · exact meshLine_J6
  · kernel_rfl
  · exact meshLine_J7
  · exact meshLine_J8
  · kernel_rfl
  · kernel_rfl
  · kernel_rfl
  · kernel_rfl
  · exact J.keys
  · kernel_rfl
  · exact J.heard
  · exact J.enter
  · exact J.lift
  · exact J.make
  · kernel_rfl
  · kernel_rfl
  · exact meshLine_J9
  · exact meshLine_J10
theorem meshLine_holds : Rows.MeshLineSaid :=
  OpenClaim.holds_of_wide 6 Tryz.f6 rfl rfl rfl rfl rfl rfl rfl ⟨rfl, rfl, rfl, rfl, rfl⟩ rfl rfl rfl rfl rfl (by kernel_rfl) Tryz.func6 meshLine_joined
    (of_decide_eq_true (by kernel_rfl)) (by unfold Func.isWrapper; first | (rw [if_pos (by decide +kernel)]; kernel_rfl) | (rw [if_neg (by decide +kernel)]; exact ⟨rfl, rfl⟩))
    (fun os started H enc _ => meshLine_handed os started H enc)
end Go.Proofs.YtdlcbilgemnomaaGreat



