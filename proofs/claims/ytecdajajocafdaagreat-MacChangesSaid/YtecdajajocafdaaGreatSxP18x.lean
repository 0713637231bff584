/-
  What functions of the given program hand back, by walks over its code, and plain laws on that. No condition.
-/
import Derived.Test.YtecdajajocafdaaGreatSxP18w
import Derived.Test.YtecdajajocafdaaGreatSxLibB
import Derived.Test.YtecdajajocafdaaGreatRows
namespace Go.Proofs
open Go Go.Sx Go.Proofs.T Go.Proofs.Q
abbrev shTC : List Sh := [.int .i64, .int .i64, .int .i64, .bool, .int .i64, .int .i64]
theorem tcs_of {d : D} (h : HasSh (.sl shTC) d) : ∃ l : List TC, DLe d (tcs l) := by
  unfold HasSh at h
  obtain ⟨n, f, rfl, _, hf⟩ := h
  obtain ⟨l, _, _, hl⟩ := rd_of TC.enc (fun _ => True) (n := n) (sz := 6) (f := f) (fun i hi => by
    have := hf i hi
    simp only [HasShs] at this
    obtain ⟨h0, h1, h2, h3, h4, h5, _⟩ := this
    obtain ⟨a0, e0, w0⟩ : ∃ n, f i 0 = .int .i64 n ∧ (Lit.int .i64 n).wf = true := by unfold HasSh at h0; exact h0
    obtain ⟨a1, e1, w1⟩ : ∃ n, f i 1 = .int .i64 n ∧ (Lit.int .i64 n).wf = true := by unfold HasSh at h1; exact h1
    obtain ⟨a2, e2, w2⟩ : ∃ n, f i 2 = .int .i64 n ∧ (Lit.int .i64 n).wf = true := by unfold HasSh at h2; exact h2
    obtain ⟨a3, e3⟩ : ∃ n, f i 3 = .bool n := by unfold HasSh at h3; exact h3
    obtain ⟨a4, e4, w4⟩ : ∃ n, f i 4 = .int .i64 n ∧ (Lit.int .i64 n).wf = true := by unfold HasSh at h4; exact h4
    obtain ⟨a5, e5, w5⟩ : ∃ n, f i 5 = .int .i64 n ∧ (Lit.int .i64 n).wf = true := by unfold HasSh at h5; exact h5
    refine ⟨⟨a0, a1, a2, a3, a4, a5⟩, trivial, fun j hj => ?_⟩
    have : j = 0 ∨ j = 1 ∨ j = 2 ∨ j = 3 ∨ j = 4 ∨ j = 5 := by omega
    rcases this with rfl | rfl | rfl | rfl | rfl | rfl
    · rw [show f i 0 = _ from e0]; exact DLe.refl _
    · rw [show f i 1 = _ from e1]; exact DLe.refl _
    · rw [show f i 2 = _ from e2]; exact DLe.refl _
    · rw [show f i 3 = _ from e3]; exact DLe.refl _
    · rw [show f i 4 = _ from e4]; exact DLe.refl _
    · rw [show f i 5 = _ from e5]; exact DLe.refl _)
  exact ⟨l, hl⟩
abbrev shPk : List Sh := [.int .i64, .int .i64, .int .i64, .int .i64, .int .i64, .str]
theorem pks_of {d : D} (h : HasSh (.sl shPk) d) : ∃ l : List Pk, DLe d (pks l) := by
  unfold HasSh at h
  obtain ⟨n, f, rfl, _, hf⟩ := h
  obtain ⟨l, _, _, hl⟩ := rd_of Pk.enc (fun _ => True) (n := n) (sz := 6) (f := f) (fun i hi => by
    have := hf i hi
    simp only [HasShs] at this
    obtain ⟨h0, h1, h2, h3, h4, h5, _⟩ := this
    obtain ⟨a0, e0, w0⟩ : ∃ n, f i 0 = .int .i64 n ∧ (Lit.int .i64 n).wf = true := by unfold HasSh at h0; exact h0
    obtain ⟨a1, e1, w1⟩ : ∃ n, f i 1 = .int .i64 n ∧ (Lit.int .i64 n).wf = true := by unfold HasSh at h1; exact h1
    obtain ⟨a2, e2, w2⟩ : ∃ n, f i 2 = .int .i64 n ∧ (Lit.int .i64 n).wf = true := by unfold HasSh at h2; exact h2
    obtain ⟨a3, e3, w3⟩ : ∃ n, f i 3 = .int .i64 n ∧ (Lit.int .i64 n).wf = true := by unfold HasSh at h3; exact h3
    obtain ⟨a4, e4, w4⟩ : ∃ n, f i 4 = .int .i64 n ∧ (Lit.int .i64 n).wf = true := by unfold HasSh at h4; exact h4
    obtain ⟨a5, e5, w5⟩ : ∃ n : ByteArray, f i 5 = .str n ∧ n.size ≤ maxLen := by unfold HasSh at h5; exact h5
    refine ⟨⟨a0, a1, a2, a3, a4, a5⟩, trivial, fun j hj => ?_⟩
    have : j = 0 ∨ j = 1 ∨ j = 2 ∨ j = 3 ∨ j = 4 ∨ j = 5 := by omega
    rcases this with rfl | rfl | rfl | rfl | rfl | rfl
    · rw [show f i 0 = _ from e0]; exact DLe.refl _
    · rw [show f i 1 = _ from e1]; exact DLe.refl _
    · rw [show f i 2 = _ from e2]; exact DLe.refl _
    · rw [show f i 3 = _ from e3]; exact DLe.refl _
    · rw [show f i 4 = _ from e4]; exact DLe.refl _
    · rw [show f i 5 = _ from e5]; exact DLe.refl _)
  exact ⟨l, hl⟩
theorem pkA_of {a : AV} (h : ∃ ds, a = avOf true ds ∧ HasShL shPk ds) : ∃ x : Pk, ALe (P := Tryz.prog) a (pkA x) := by
  obtain ⟨ds, rfl, h⟩ := h
  have hl := hasShL_len h
  match ds, hl, h with
  | [d0, d1, d2, d3, d4, d5], _, h =>
    simp only [HasShL] at h
    obtain ⟨h0, h1, h2, h3, h4, h5, _⟩ := h
    obtain ⟨a0, e0, w0⟩ : ∃ n, d0 = .int .i64 n ∧ (Lit.int .i64 n).wf = true := by unfold HasSh at h0; exact h0
    obtain ⟨a1, e1, w1⟩ : ∃ n, d1 = .int .i64 n ∧ (Lit.int .i64 n).wf = true := by unfold HasSh at h1; exact h1
    obtain ⟨a2, e2, w2⟩ : ∃ n, d2 = .int .i64 n ∧ (Lit.int .i64 n).wf = true := by unfold HasSh at h2; exact h2
    obtain ⟨a3, e3, w3⟩ : ∃ n, d3 = .int .i64 n ∧ (Lit.int .i64 n).wf = true := by unfold HasSh at h3; exact h3
    obtain ⟨a4, e4, w4⟩ : ∃ n, d4 = .int .i64 n ∧ (Lit.int .i64 n).wf = true := by unfold HasSh at h4; exact h4
    obtain ⟨a5, e5, w5⟩ : ∃ n : ByteArray, d5 = .str n ∧ n.size ≤ maxLen := by unfold HasSh at h5; exact h5
    exact ⟨⟨a0, a1, a2, a3, a4, a5⟩, ALe.agg (es := [_, _, _, _, _, _]) (.cons (by rw [e0]; exact DLe.refl _) (.cons (by rw [e1]; exact DLe.refl _) (.cons (by rw [e2]; exact DLe.refl _) (.cons (by rw [e3]; exact DLe.refl _) (.cons (by rw [e4]; exact DLe.refl _) (.cons (by rw [e5]; exact DLe.refl _) .nil))))))⟩
abbrev shHd : List Sh := [.int .i64, .int .i64, .int .i64, .str, .sl [.int .i64]]
theorem hds_of {d : D} (h : HasSh (.sl shHd) d) : ∃ l : List Hd, DLe d (hds l) := by
  unfold HasSh at h
  obtain ⟨n, f, rfl, _, hf⟩ := h
  obtain ⟨l, _, _, hl⟩ := rd_of Hd.enc (fun _ => True) (n := n) (sz := 5) (f := f) (fun i hi => by
    have := hf i hi
    simp only [HasShs] at this
    obtain ⟨h0, h1, h2, h3, h4, _⟩ := this
    obtain ⟨a0, e0, w0⟩ : ∃ n, f i 0 = .int .i64 n ∧ (Lit.int .i64 n).wf = true := by unfold HasSh at h0; exact h0
    obtain ⟨a1, e1, w1⟩ : ∃ n, f i 1 = .int .i64 n ∧ (Lit.int .i64 n).wf = true := by unfold HasSh at h1; exact h1
    obtain ⟨a2, e2, w2⟩ : ∃ n, f i 2 = .int .i64 n ∧ (Lit.int .i64 n).wf = true := by unfold HasSh at h2; exact h2
    obtain ⟨a3, e3, w3⟩ : ∃ n : ByteArray, f i 3 = .str n ∧ n.size ≤ maxLen := by unfold HasSh at h3; exact h3
    obtain ⟨a4, e4, _⟩ := ints_of h4
    refine ⟨⟨a0, a1, a2, a3, a4⟩, trivial, fun j hj => ?_⟩
    have : j = 0 ∨ j = 1 ∨ j = 2 ∨ j = 3 ∨ j = 4 := by omega
    rcases this with rfl | rfl | rfl | rfl | rfl
    · rw [show f i 0 = _ from e0]; exact DLe.refl _
    · rw [show f i 1 = _ from e1]; exact DLe.refl _
    · rw [show f i 2 = _ from e2]; exact DLe.refl _
    · rw [show f i 3 = _ from e3]; exact DLe.refl _
    · exact e4)
  exact ⟨l, hl⟩
theorem hdA_of {a : AV} (h : ∃ ds, a = avOf true ds ∧ HasShL shHd ds) : ∃ x : Hd, ALe (P := Tryz.prog) a (hdA x) := by
  obtain ⟨ds, rfl, h⟩ := h
  have hl := hasShL_len h
  match ds, hl, h with
  | [d0, d1, d2, d3, d4], _, h =>
    simp only [HasShL] at h
    obtain ⟨h0, h1, h2, h3, h4, _⟩ := h
    obtain ⟨a0, e0, w0⟩ : ∃ n, d0 = .int .i64 n ∧ (Lit.int .i64 n).wf = true := by unfold HasSh at h0; exact h0
    obtain ⟨a1, e1, w1⟩ : ∃ n, d1 = .int .i64 n ∧ (Lit.int .i64 n).wf = true := by unfold HasSh at h1; exact h1
    obtain ⟨a2, e2, w2⟩ : ∃ n, d2 = .int .i64 n ∧ (Lit.int .i64 n).wf = true := by unfold HasSh at h2; exact h2
    obtain ⟨a3, e3, w3⟩ : ∃ n : ByteArray, d3 = .str n ∧ n.size ≤ maxLen := by unfold HasSh at h3; exact h3
    obtain ⟨a4, e4, _⟩ := ints_of h4
    exact ⟨⟨a0, a1, a2, a3, a4⟩, ALe.agg (es := [_, _, _, _, _]) (.cons (by rw [e0]; exact DLe.refl _) (.cons (by rw [e1]; exact DLe.refl _) (.cons (by rw [e2]; exact DLe.refl _) (.cons (by rw [e3]; exact DLe.refl _) (.cons (e4) .nil)))))⟩
abbrev shSn : List Sh := [.int .i64, .int .i64]
theorem sns_of {d : D} (h : HasSh (.sl shSn) d) : ∃ l : List Sn, DLe d (sns l) := by
  unfold HasSh at h
  obtain ⟨n, f, rfl, _, hf⟩ := h
  obtain ⟨l, _, _, hl⟩ := rd_of Sn.enc (fun _ => True) (n := n) (sz := 2) (f := f) (fun i hi => by
    have := hf i hi
    simp only [HasShs] at this
    obtain ⟨h0, h1, _⟩ := this
    obtain ⟨a0, e0, w0⟩ : ∃ n, f i 0 = .int .i64 n ∧ (Lit.int .i64 n).wf = true := by unfold HasSh at h0; exact h0
    obtain ⟨a1, e1, w1⟩ : ∃ n, f i 1 = .int .i64 n ∧ (Lit.int .i64 n).wf = true := by unfold HasSh at h1; exact h1
    refine ⟨⟨a0, a1⟩, trivial, fun j hj => ?_⟩
    have : j = 0 ∨ j = 1 := by omega
    rcases this with rfl | rfl
    · rw [show f i 0 = _ from e0]; exact DLe.refl _
    · rw [show f i 1 = _ from e1]; exact DLe.refl _)
  exact ⟨l, hl⟩
abbrev shRs : List Sh := [.bool, .bool, .int .i64, .int .i64, .int .i64, .int .i64, .int .i64, .int .i64, .int .i64, .int .i64, .int .i64, .int .i64, .int .i64, .str, .int .i64]
abbrev shSta : List Sh := [.int .i64, .int .i64, .sl shTC, .int .i64, .sl shPk, .sl shHd, .sl shSn, .int .i64, .int .i64, .int .i64, .int .i64, .int .i64, .int .i64, .int .i64]
theorem int_of {d : D} (h : HasSh (.int .i64) d) : ∃ n, d = .int .i64 n := by
  unfold HasSh at h
  obtain ⟨n, e, _⟩ := h
  exact ⟨n, e⟩
theorem staA_of {a : AV} (h : ∃ ds, a = avOf true ds ∧ HasShL shSta ds) : ∃ x : Sta, ALe (P := Tryz.prog) a (stA x) := by
  obtain ⟨ds, rfl, h⟩ := h
  have hl := hasShL_len h
  match ds, hl, h with
  | [d0, d1, d2, d3, d4, d5, d6, d7, d8, d9, d10, d11, d12, d13], _, h =>
    simp only [HasShL] at h
    obtain ⟨h0, h1, h2, h3, h4, h5, h6, h7, h8, h9, h10, h11, h12, h13, _⟩ := h
    obtain ⟨a0, rfl⟩ := int_of h0
    obtain ⟨a1, rfl⟩ := int_of h1
    obtain ⟨a2, e2⟩ := tcs_of h2
    obtain ⟨a3, rfl⟩ := int_of h3
    obtain ⟨a4, e4⟩ := pks_of h4
    obtain ⟨a5, e5⟩ := hds_of h5
    obtain ⟨a6, e6⟩ := sns_of h6
    obtain ⟨a7, rfl⟩ := int_of h7
    obtain ⟨a8, rfl⟩ := int_of h8
    obtain ⟨a9, rfl⟩ := int_of h9
    obtain ⟨a10, rfl⟩ := int_of h10
    obtain ⟨a11, rfl⟩ := int_of h11
    obtain ⟨a12, rfl⟩ := int_of h12
    obtain ⟨a13, rfl⟩ := int_of h13
    exact ⟨⟨⟨a0, a1, a2⟩, ⟨a3, a4⟩, a5, a6, a7, a8, a9, a10, a11, a12, a13⟩, ALe.agg (es := [_, _, _, _, _, _, _, _, _, _, _, _, _, _])
      (.cons (DLe.refl _) (.cons (DLe.refl _) (.cons e2 (.cons (DLe.refl _) (.cons e4 (.cons e5 (.cons e6 (.cons (DLe.refl _) (.cons (DLe.refl _) (.cons (DLe.refl _) (.cons (DLe.refl _) (.cons (DLe.refl _) (.cons (DLe.refl _) (.cons (DLe.refl _) .nil))))))))))))))⟩
end Go.Proofs
namespace Go.Proofs.YtecdajajocafdaaGreat
theorem Tryz.own : ownKnob Tryz.prog.godebug = none := by kernel_rfl
theorem Tryz.laidOut : laidOutB Tryz.prog = true := by kernel_rfl
end Go.Proofs.YtecdajajocafdaaGreat
