/-
  Rows.MacFlowsSaid: the Go function hopmeshlaw18.MacFlows answers true for every input and leaves its arguments as they were. No condition.
-/
import Derived.Test.YtecdajajocafdaaGreatSxP18x
import Derived.Test.YtecdajajocafdaaGreatSxP18xe
namespace Go.Proofs
open Go Go.Sx Go.Proofs.T Go.Proofs.Q
theorem fates_of {d : D} (h : HasSh (.sl [.int .u8]) d) : ∃ l : List Int, (∀ x ∈ l, 0 ≤ x ∧ x < 256) ∧ DLe d (rdOf enc8' 1 l) := by
  obtain ⟨l, hl, hw⟩ := ints_of h
  refine ⟨l, fun x hx => ?_, hl⟩
  have := u8_range' (hw x hx); omega
theorem arg_fates {a : AV} (h : ∃ ds, a = avOf false ds ∧ HasShL [.sl [.int .u8]] ds) : ∃ l : List Int, (∀ x ∈ l, 0 ≤ x ∧ x < 256) ∧ ALe (P := Tryz.prog) a (AD (rdOf enc8' 1 l)) := by
  obtain ⟨ds, rfl, h⟩ := h
  have hl := hasShL_len h
  match ds, hl, h with
  | [d0], _, h =>
    simp only [HasShL] at h
    obtain ⟨l, h1, h2⟩ := fates_of h.1
    exact ⟨l, h1, ALe.of h2⟩
theorem lawS : LawS Tryz.prog 7 [(false, [.int .u16]), (false, [.int .u8]), (false, [.str]), (false, [.sl [.int .u8]])] := by
  intro xs h
  match xs, h with
  | [a0, a1, a2, a3], ⟨h0, h1, h2, h3, _⟩ =>
    obtain ⟨x0, rfl, w0⟩ := arg_int h0
    obtain ⟨x1, rfl, w1⟩ := arg_int h1
    obtain ⟨x2, rfl, w2⟩ := arg_str h2
    obtain ⟨x3, w3, e3⟩ := arg_fates h3
    exact ⟨_, (.cons (.refl _) (.cons (.refl _) (.cons (.refl _) (.cons e3 .nil)))), lawFlows_spec x0 x1 x2 x3 (u16_range' w0) (u8_range' w1) w3⟩
end Go.Proofs
namespace Go.Proofs.YtecdajajocafdaaGreat
open Go.ChangeShapes Go.WideShapes Go.ChangeAt Go.RowKit Go.Sx
set_option maxRecDepth 100000 in
theorem macFlows_handed (os : Os) (started : os.Started) (H : Type) (enc : TypeId × Value → H) :
    ReturnsInHanded {} Tryz.checked os 7 .any (Rows.macFlowsSpec.pre6 enc Tryz.prog Tryz.f7 Rows.macFlowsRow.domain false) (Rows.macFlowsSpec.post enc Tryz.prog Tryz.f7 false true false false) :=
  law_handed (n := 12) (C := Tryz.checked) Tryz.own started (by kernel_rfl) Tryz.func7
    (ChangeSpec.witness6 (enc := enc) (C := Tryz.checked) false ⟨#[], #[.int .u16 0, .int .u8 0, .string ⟨#[]⟩, .slice none 0 0], []⟩ 8 (by kernel_rfl) (by kernel_rfl) (by kernel_rfl) (by kernel_rfl))
    Tryz.laidOut (by rw [Tryz.params7]; decide +kernel) rfl (fun ds h => by
      rw [Tryz.params7] at h
      match ds, h with
      | [_, _, _, _], _ => rfl) rfl (by kernel_rfl) (by kernel_rfl) lawS

theorem macFlows_holds : Rows.MacFlowsSaid :=
  OpenClaim.holds_of_wide 7 Tryz.f7 rfl rfl rfl rfl rfl rfl rfl ⟨rfl, rfl, rfl, rfl, rfl⟩ rfl rfl rfl rfl rfl (by kernel_rfl) Tryz.func7 (by kernel_rfl)
    (of_decide_eq_true (by kernel_rfl)) (by unfold Func.isWrapper; first | (rw [if_pos (by decide +kernel)]; kernel_rfl) | (rw [if_neg (by decide +kernel)]; exact ⟨rfl, rfl⟩))
    (fun os started H enc _ => macFlows_handed os started H enc)
end Go.Proofs.YtecdajajocafdaaGreat


