/-
  Rows.MacOnceSaid: the Go function hopmeshlaw18.MacOnce answers true for every input and leaves its arguments as they were. No condition.
-/
import Derived.Test.YtecdajajocafdaaSxO18xe
import Derived.Test.YtecdajajocafdaaSxLibB
import Derived.Test.YtecdajajocafdaaRows
namespace Go.Proofs.Ytecdajajocafdaa
theorem Try.own : ownKnob Try.prog.godebug = none := by kernel_rfl
theorem Try.laidOut : laidOutB Try.prog = true := by kernel_rfl
end Go.Proofs.Ytecdajajocafdaa
namespace Go.Proofs
open Go Go.Sx Go.Proofs.T Go.Proofs.Q
theorem fatesO_of {d : D} (h : HasSh (.sl [.int .u8]) d) : ∃ l : List Int, (∀ x ∈ l, 0 ≤ x ∧ x < 256) ∧ DLe d (rdOf encF 1 l) := by
  obtain ⟨l, hl, hw⟩ := ints_of h
  refine ⟨l, fun x hx => ?_, hl⟩
  have := u8_range' (hw x hx); omega
theorem arg_fatesO {a : AV} (h : ∃ ds, a = avOf false ds ∧ HasShL [.sl [.int .u8]] ds) : ∃ l : List Int, (∀ x ∈ l, 0 ≤ x ∧ x < 256) ∧ ALe (P := Try.prog) a (AD (rdOf encF 1 l)) := by
  obtain ⟨ds, rfl, h⟩ := h
  have hl := hasShL_len h
  match ds, hl, h with
  | [d0], _, h =>
    simp only [HasShL] at h
    obtain ⟨l, h1, h2⟩ := fatesO_of h.1
    exact ⟨l, h1, ALe.of h2⟩
theorem strsO_of {d : D} (h : HasSh (.sl [.str]) d) : ∃ l : List ByteArray, DLe d (strs l) := by
  unfold HasSh at h
  obtain ⟨n, f, rfl, _, hf⟩ := h
  obtain ⟨l, _, _, hl⟩ := rd_of (fun x : ByteArray => [D.str x]) (fun _ => True) (n := n) (sz := 1) (f := f) (fun i hi => by
    have := hf i hi
    simp only [HasShs] at this
    obtain ⟨a0, e0⟩ : ∃ s, f i 0 = .str s := by
      have h0 := this.1
      unfold HasSh at h0
      obtain ⟨s, e, _⟩ := h0
      exact ⟨s, e⟩
    refine ⟨a0, trivial, fun j hj => ?_⟩
    have : j = 0 := by omega
    subst this
    rw [show f i 0 = _ from e0]; exact DLe.refl _)
  exact ⟨l, hl⟩
theorem arg_strsO {a : AV} (h : ∃ ds, a = avOf false ds ∧ HasShL [.sl [.str]] ds) : ∃ l : List ByteArray, ALe (P := Try.prog) a (AD (strs l)) := by
  obtain ⟨ds, rfl, h⟩ := h
  have hl := hasShL_len h
  match ds, hl, h with
  | [d0], _, h =>
    simp only [HasShL] at h
    obtain ⟨l, h1⟩ := strsO_of h.1
    exact ⟨l, ALe.of h1⟩
theorem lawS : LawS Try.prog 3 [(false, [.sl [.str]]), (false, [.sl [.int .u8]])] := by
  intro xs h
  match xs, h with
  | [a0, a1], ⟨h0, h1, _⟩ =>
    obtain ⟨x0, e0⟩ := arg_strsO h0
    obtain ⟨x1, w1, e1⟩ := arg_fatesO h1
    exact ⟨_, (.cons e0 (.cons e1 .nil)), lawOnce_spec x0 x1 w1⟩
end Go.Proofs
namespace Go.Proofs.Ytecdajajocafdaa
open Go.ChangeShapes Go.WideShapes Go.ChangeAt Go.RowKit Go.Sx
set_option maxRecDepth 100000 in
theorem macOnce_handed (os : Os) (started : os.Started) (H : Type) (enc : TypeId × Value → H) :
    ReturnsInHanded {} Try.checked os 3 .any (Rows.macOnceSpec.pre6 enc Try.prog Try.f3 Rows.macOnceRow.domain false) (Rows.macOnceSpec.post enc Try.prog Try.f3 false true false false) :=
  law_handed (n := 12) (C := Try.checked) Try.own started (by kernel_rfl) Try.func3
    (ChangeSpec.witness6 (enc := enc) (C := Try.checked) false ⟨#[], #[.slice none 0 0, .slice none 0 0], []⟩ 8 (by kernel_rfl) (by kernel_rfl) (by kernel_rfl) (by kernel_rfl))
    Try.laidOut (by rw [Try.params3]; decide +kernel) rfl (fun ds h => by
      rw [Try.params3] at h
      match ds, h with
      | [_, _], _ => rfl) rfl (by kernel_rfl) (by kernel_rfl) lawS

theorem macOnce_holds : Rows.MacOnceSaid :=
  OpenClaim.holds_of_wide 3 Try.f3 rfl rfl rfl rfl rfl rfl rfl ⟨rfl, rfl, rfl, rfl, rfl⟩ rfl rfl rfl rfl rfl (by kernel_rfl) Try.func3 (by kernel_rfl)
    (of_decide_eq_true (by kernel_rfl)) (by unfold Func.isWrapper; first | (rw [if_pos (by decide +kernel)]; kernel_rfl) | (rw [if_neg (by decide +kernel)]; exact ⟨rfl, rfl⟩))
    (fun os started H enc _ => macOnce_handed os started H enc)
end Go.Proofs.Ytecdajajocafdaa


