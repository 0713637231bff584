/-
  Rows.TopNoLoopsSaid: the Go function hopmeshtop.TopNoLoops answers true for every input and leaves its arguments as they were. No condition.
-/
import Derived.Test.YtidijkcalgmadaaGreatSxMS
import Derived.Test.YtidijkcalgmadaaGreatSxLibB
import Derived.Test.YtidijkcalgmadaaGreatRows
namespace Go.Proofs.Y
open Go Go.Sx Go.Proofs.R
theorem dds_of {d : D} (h : HasSh (.sl [.int .u8, .int .u8, .int .u8, .int .u8]) d) : ∃ l : List Dd, (∀ x ∈ l, DdOK x) ∧ DLe d (dds l) := by
  unfold HasSh at h
  obtain ⟨n, f, rfl, _, hf⟩ := h
  obtain ⟨l, _, hq, hl⟩ := rd_of Dd.enc DdOK (n := n) (sz := 4) (f := f) (fun i hi => by
    have := hf i hi
    simp only [HasShs, HasSh] at this
    obtain ⟨⟨a0, e0, w0⟩, ⟨a1, e1, w1⟩, ⟨a2, e2, w2⟩, ⟨a3, e3, w3⟩, _⟩ := this
    refine ⟨⟨a0, a1, a2, a3⟩, ⟨u8_range' w0, u8_range' w1, u8_range' w2, u8_range' w3⟩, fun j hj => ?_⟩
    rcases (show j = 0 ∨ j = 1 ∨ j = 2 ∨ j = 3 by omega) with rfl | rfl | rfl | rfl
    · rw [show f i 0 = _ from e0]; exact DLe.refl _
    · rw [show f i 1 = _ from e1]; exact DLe.refl _
    · rw [show f i 2 = _ from e2]; exact DLe.refl _
    · rw [show f i 3 = _ from e3]; exact DLe.refl _)
  exact ⟨l, hq, hl⟩
theorem arg_dds {a : AV} (h : ∃ ds, a = avOf false ds ∧ HasShL [.sl [.int .u8, .int .u8, .int .u8, .int .u8]] ds) : ∃ l : List Dd, (∀ x ∈ l, DdOK x) ∧ ALe (P := Tryz.prog) a (AD (dds l)) := by
  obtain ⟨ds, rfl, h⟩ := h
  have hl := hasShL_len h
  match ds, hl, h with
  | [d0], _, h =>
    simp only [HasShL] at h
    obtain ⟨l, h1, h2⟩ := dds_of h.1
    exact ⟨l, h1, ALe.of h2⟩
theorem lawS : LawS Tryz.prog 5 [(false, [.int .u8]), (false, [.sl [.int .u8, .int .u8, .int .u8, .int .u8]]), (false, [.int .u8])] := by
  intro xs h
  match xs, h with
  | [a0, a1, a2], ⟨h0, h1, h2, _⟩ =>
    obtain ⟨x0, rfl, w0⟩ := arg_int h0
    obtain ⟨x1, w1, e1⟩ := arg_dds h1
    obtain ⟨x2, rfl, w2⟩ := arg_int h2
    exact ⟨_, (.cons (.refl _) (.cons e1 (.cons (.refl _) .nil))), lawNoLoops_spec x0 x2 x1 (u8_range' w0) (u8_range' w2) w1⟩
end Go.Proofs.Y
namespace Go.Proofs.YtidijkcalgmadaaGreat
theorem Tryz.own : ownKnob Tryz.prog.godebug = none := by kernel_rfl
theorem Tryz.laidOut : laidOutB Tryz.prog = true := by kernel_rfl
end Go.Proofs.YtidijkcalgmadaaGreat
namespace Go.Proofs.YtidijkcalgmadaaGreat
open Go.ChangeShapes Go.WideShapes Go.ChangeAt Go.RowKit Go.Sx Go.Proofs.Y
set_option maxRecDepth 100000 in
theorem topNoLoops_handed (os : Os) (started : os.Started) (H : Type) (enc : TypeId × Value → H) :
    ReturnsInHanded {} Tryz.checked os 5 .any (Rows.topNoLoopsSpec.pre6 enc Tryz.prog Tryz.f5 Rows.topNoLoopsRow.domain false) (Rows.topNoLoopsSpec.post enc Tryz.prog Tryz.f5 false true false false) :=
  law_handed (n := 12) (C := Tryz.checked) Tryz.own started (by kernel_rfl) Tryz.func5
    (ChangeSpec.witness6 (enc := enc) (C := Tryz.checked) false ⟨#[], #[.int .u8 0, .slice none 0 0, .int .u8 0], []⟩ 8 (by kernel_rfl) (by kernel_rfl) (by kernel_rfl) (by kernel_rfl))
    Tryz.laidOut (by rw [Tryz.params5]; decide +kernel) rfl (fun ds h => by
      rw [Tryz.params5] at h
      match ds, h with
      | [_, _, _], _ => rfl) rfl (by kernel_rfl) (by kernel_rfl) lawS

theorem topNoLoops_holds : Rows.TopNoLoopsSaid :=
  OpenClaim.holds_of_wide 5 Tryz.f5 rfl rfl rfl rfl rfl rfl rfl ⟨rfl, rfl, rfl, rfl, rfl⟩ rfl rfl rfl rfl rfl (by kernel_rfl) Tryz.func5 (by kernel_rfl)
    (of_decide_eq_true (by kernel_rfl)) (by unfold Func.isWrapper; first | (rw [if_pos (by decide +kernel)]; kernel_rfl) | (rw [if_neg (by decide +kernel)]; exact ⟨rfl, rfl⟩))
    (fun os started H enc _ => topNoLoops_handed os started H enc)
end Go.Proofs.YtidijkcalgmadaaGreat



