/-
  Rows.TopRoutesLeadSaid: the Go function hopmeshtop.TopRoutesLead answers true for every input and leaves its arguments as they were. No condition.
-/
import Derived.Test.YtidijkcalgmadaaGreatSxMX
import Derived.Test.YtidijkcalgmadaaGreatSxLibB
import Derived.Test.YtidijkcalgmadaaGreatRows
namespace Go.Proofs.R
open Go Go.Sx
abbrev shEv : List Sh := [.int .i64, .int .i64, .int .i64, .int .i64]
theorem evs_of {d : D} (h : HasSh (.sl shEv) d) : ∃ l : List Ev, DLe d (evs l) := by
  unfold HasSh at h
  obtain ⟨n, f, rfl, _, hf⟩ := h
  obtain ⟨l, _, _, hl⟩ := rd_of Ev.enc (fun _ => True) (n := n) (sz := 4) (f := f) (fun i hi => by
    have := hf i hi
    simp only [HasShs] at this
    obtain ⟨h0, h1, h2, h3, _⟩ := this
    obtain ⟨a0, e0, w0⟩ : ∃ n, f i 0 = .int .i64 n ∧ (Lit.int .i64 n).wf = true := by unfold HasSh at h0; exact h0
    obtain ⟨a1, e1, w1⟩ : ∃ n, f i 1 = .int .i64 n ∧ (Lit.int .i64 n).wf = true := by unfold HasSh at h1; exact h1
    obtain ⟨a2, e2, w2⟩ : ∃ n, f i 2 = .int .i64 n ∧ (Lit.int .i64 n).wf = true := by unfold HasSh at h2; exact h2
    obtain ⟨a3, e3, w3⟩ : ∃ n, f i 3 = .int .i64 n ∧ (Lit.int .i64 n).wf = true := by unfold HasSh at h3; exact h3
    refine ⟨⟨a0, a1, a2, a3⟩, trivial, fun j hj => ?_⟩
    have : j = 0 ∨ j = 1 ∨ j = 2 ∨ j = 3 := by omega
    rcases this with rfl | rfl | rfl | rfl
    · rw [show f i 0 = _ from e0]; exact DLe.refl _
    · rw [show f i 1 = _ from e1]; exact DLe.refl _
    · rw [show f i 2 = _ from e2]; exact DLe.refl _
    · rw [show f i 3 = _ from e3]; exact DLe.refl _)
  exact ⟨l, hl⟩
theorem evA_of {a : AV} (h : ∃ ds, a = avOf true ds ∧ HasShL shEv ds) : ∃ x : Ev, ALe (P := Tryz.prog) a (evA x) := by
  obtain ⟨ds, rfl, h⟩ := h
  have hl := hasShL_len h
  match ds, hl, h with
  | [d0, d1, d2, d3], _, h =>
    simp only [HasShL] at h
    obtain ⟨h0, h1, h2, h3, _⟩ := h
    obtain ⟨a0, e0, w0⟩ : ∃ n, d0 = .int .i64 n ∧ (Lit.int .i64 n).wf = true := by unfold HasSh at h0; exact h0
    obtain ⟨a1, e1, w1⟩ : ∃ n, d1 = .int .i64 n ∧ (Lit.int .i64 n).wf = true := by unfold HasSh at h1; exact h1
    obtain ⟨a2, e2, w2⟩ : ∃ n, d2 = .int .i64 n ∧ (Lit.int .i64 n).wf = true := by unfold HasSh at h2; exact h2
    obtain ⟨a3, e3, w3⟩ : ∃ n, d3 = .int .i64 n ∧ (Lit.int .i64 n).wf = true := by unfold HasSh at h3; exact h3
    exact ⟨⟨a0, a1, a2, a3⟩, ALe.agg (es := [_, _, _, _]) (.cons (by rw [e0]; exact DLe.refl _) (.cons (by rw [e1]; exact DLe.refl _) (.cons (by rw [e2]; exact DLe.refl _) (.cons (by rw [e3]; exact DLe.refl _) .nil))))⟩
end Go.Proofs.R
namespace Go.Proofs.D
open Go Go.Sx
abbrev shRP : List Sh := [.int .i64, .int .i64, .int .i64]
theorem rps_of {d : D} (h : HasSh (.sl shRP) d) : ∃ l : List RP, DLe d (rps l) := by
  unfold HasSh at h
  obtain ⟨n, f, rfl, _, hf⟩ := h
  obtain ⟨l, _, _, hl⟩ := rd_of RP.enc (fun _ => True) (n := n) (sz := 3) (f := f) (fun i hi => by
    have := hf i hi
    simp only [HasShs] at this
    obtain ⟨h0, h1, h2, _⟩ := this
    obtain ⟨a0, e0, w0⟩ : ∃ n, f i 0 = .int .i64 n ∧ (Lit.int .i64 n).wf = true := by unfold HasSh at h0; exact h0
    obtain ⟨a1, e1, w1⟩ : ∃ n, f i 1 = .int .i64 n ∧ (Lit.int .i64 n).wf = true := by unfold HasSh at h1; exact h1
    obtain ⟨a2, e2, w2⟩ : ∃ n, f i 2 = .int .i64 n ∧ (Lit.int .i64 n).wf = true := by unfold HasSh at h2; exact h2
    refine ⟨⟨a0, a1, a2⟩, trivial, fun j hj => ?_⟩
    have : j = 0 ∨ j = 1 ∨ j = 2 := by omega
    rcases this with rfl | rfl | rfl
    · rw [show f i 0 = _ from e0]; exact DLe.refl _
    · rw [show f i 1 = _ from e1]; exact DLe.refl _
    · rw [show f i 2 = _ from e2]; exact DLe.refl _)
  exact ⟨l, hl⟩
theorem rpA_of {a : AV} (h : ∃ ds, a = avOf true ds ∧ HasShL shRP ds) : ∃ x : RP, ALe (P := Tryz.prog) a (rpA x) := by
  obtain ⟨ds, rfl, h⟩ := h
  have hl := hasShL_len h
  match ds, hl, h with
  | [d0, d1, d2], _, h =>
    simp only [HasShL] at h
    obtain ⟨h0, h1, h2, _⟩ := h
    obtain ⟨a0, e0, w0⟩ : ∃ n, d0 = .int .i64 n ∧ (Lit.int .i64 n).wf = true := by unfold HasSh at h0; exact h0
    obtain ⟨a1, e1, w1⟩ : ∃ n, d1 = .int .i64 n ∧ (Lit.int .i64 n).wf = true := by unfold HasSh at h1; exact h1
    obtain ⟨a2, e2, w2⟩ : ∃ n, d2 = .int .i64 n ∧ (Lit.int .i64 n).wf = true := by unfold HasSh at h2; exact h2
    exact ⟨⟨a0, a1, a2⟩, ALe.agg (es := [_, _, _]) (.cons (by rw [e0]; exact DLe.refl _) (.cons (by rw [e1]; exact DLe.refl _) (.cons (by rw [e2]; exact DLe.refl _) .nil)))⟩
end Go.Proofs.D
namespace Go.Proofs.X
open Go Go.Sx
theorem sws_of {d : D} (h : HasSh (.sl [.int .u8, .int .u8]) d) : ∃ l : List Sw, (∀ p ∈ l, (0 ≤ p.1 ∧ p.1 ≤ 255) ∧ 0 ≤ p.2 ∧ p.2 ≤ 255) ∧ DLe d (sws l) := by
  unfold HasSh at h
  obtain ⟨n, f, rfl, _, hf⟩ := h
  obtain ⟨l, _, hq, hl⟩ := rd_of encW (fun p => (0 ≤ p.1 ∧ p.1 ≤ 255) ∧ 0 ≤ p.2 ∧ p.2 ≤ 255) (n := n) (sz := 2) (f := f) (fun i hi => by
    have := hf i hi
    simp only [HasShs, HasSh] at this
    obtain ⟨⟨a0, e0, w0⟩, ⟨a1, e1, w1⟩, _⟩ := this
    refine ⟨(a0, a1), ⟨u8_range' w0, u8_range' w1⟩, fun j hj => ?_⟩
    rcases (show j = 0 ∨ j = 1 by omega) with rfl | rfl
    · rw [show f i 0 = _ from e0]; exact DLe.refl _
    · rw [show f i 1 = _ from e1]; exact DLe.refl _)
  exact ⟨l, hq, hl⟩
theorem arg_sws {a : AV} (h : ∃ ds, a = avOf false ds ∧ HasShL [.sl [.int .u8, .int .u8]] ds) : ∃ l : List Sw, (∀ p ∈ l, (0 ≤ p.1 ∧ p.1 ≤ 255) ∧ 0 ≤ p.2 ∧ p.2 ≤ 255) ∧ ALe (P := Tryz.prog) a (AD (sws l)) := by
  obtain ⟨ds, rfl, h⟩ := h
  have hl := hasShL_len h
  match ds, hl, h with
  | [d0], _, h =>
    simp only [HasShL] at h
    obtain ⟨l, h1, h2⟩ := sws_of h.1
    exact ⟨l, h1, ALe.of h2⟩
theorem arg_sl1 {α : Type} {F : List α → D} {sh : List Sh} (hF : ∀ {d : D}, HasSh (.sl sh) d → ∃ l : List α, DLe d (F l)) {a : AV} (h : ∃ ds, a = avOf false ds ∧ HasShL [.sl sh] ds) : ∃ l : List α, ALe (P := Tryz.prog) a (AD (F l)) := arg_sl hF h
theorem lawS : LawS Tryz.prog 4 [(false, [.int .u8]), (false, [.sl Go.Proofs.R.shEv]), (false, [.sl Go.Proofs.D.shRP]), (false, [.sl [.int .u8, .int .u8]])] := by
  intro xs h
  match xs, h with
  | [a0, a1, a2, a3], ⟨h0, h1, h2, h3, _⟩ =>
    obtain ⟨x0, rfl, w0⟩ := arg_int h0
    obtain ⟨x1, e1⟩ := arg_sl1 Go.Proofs.R.evs_of h1
    obtain ⟨x2, e2⟩ := arg_sl1 Go.Proofs.D.rps_of h2
    obtain ⟨x3, w3, e3⟩ := arg_sws h3
    exact ⟨_, (.cons (.refl _) (.cons e1 (.cons e2 (.cons e3 .nil)))), lawRoutes_spec x0 x1 x2 x3 (u8_range' w0) w3⟩
end Go.Proofs.X
namespace Go.Proofs.YtidijkcalgmadaaGreat
theorem Tryz.own : ownKnob Tryz.prog.godebug = none := by kernel_rfl
theorem Tryz.laidOut : laidOutB Tryz.prog = true := by kernel_rfl
end Go.Proofs.YtidijkcalgmadaaGreat
namespace Go.Proofs.YtidijkcalgmadaaGreat
open Go.ChangeShapes Go.WideShapes Go.ChangeAt Go.RowKit Go.Sx Go.Proofs.X
set_option maxRecDepth 100000 in
theorem topRoutesLead_handed (os : Os) (started : os.Started) (H : Type) (enc : TypeId × Value → H) :
    ReturnsInHanded {} Tryz.checked os 4 .any (Rows.topRoutesLeadSpec.pre6 enc Tryz.prog Tryz.f4 Rows.topRoutesLeadRow.domain false) (Rows.topRoutesLeadSpec.post enc Tryz.prog Tryz.f4 false true false false) :=
  law_handed (n := 12) (C := Tryz.checked) Tryz.own started (by kernel_rfl) Tryz.func4
    (ChangeSpec.witness6 (enc := enc) (C := Tryz.checked) false ⟨#[], #[.int .u8 0, .slice none 0 0, .slice none 0 0, .slice none 0 0], []⟩ 8 (by kernel_rfl) (by kernel_rfl) (by kernel_rfl) (by kernel_rfl))
    Tryz.laidOut (by rw [Tryz.params4]; decide +kernel) rfl (fun ds h => by
      rw [Tryz.params4] at h
      match ds, h with
      | [_, _, _, _], _ => rfl) rfl (by kernel_rfl) (by kernel_rfl) lawS

theorem topRoutesLead_holds : Rows.TopRoutesLeadSaid :=
  OpenClaim.holds_of_wide 4 Tryz.f4 rfl rfl rfl rfl rfl rfl rfl ⟨rfl, rfl, rfl, rfl, rfl⟩ rfl rfl rfl rfl rfl (by kernel_rfl) Tryz.func4 (by kernel_rfl)
    (of_decide_eq_true (by kernel_rfl)) (by unfold Func.isWrapper; first | (rw [if_pos (by decide +kernel)]; kernel_rfl) | (rw [if_neg (by decide +kernel)]; exact ⟨rfl, rfl⟩))
    (fun os started H enc _ => topRoutesLead_handed os started H enc)
end Go.Proofs.YtidijkcalgmadaaGreat



