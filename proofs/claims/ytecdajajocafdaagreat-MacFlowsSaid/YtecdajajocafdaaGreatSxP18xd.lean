/-
  What functions of the given program hand back, by walks over its code, and plain laws on that. No condition.
-/
import Derived.Test.YtecdajajocafdaaGreatSxP18xb
import Derived.Test.YtecdajajocafdaaGreatSxP18kc
namespace Go.Proofs
open Go Go.Sx Go.Proofs.T Go.Proofs.Q
set_option linter.unusedVariables false
set_option linter.unusedSimpArgs false

/-! Plain facts of the law Flows: two stations with one control cell each. -/
def cA : TC := ⟨0, 0, 1, true, 2, 9⟩
def cB : TC := ⟨0, 0, 1, false, 1, 9⟩
def t9A : Tb := ⟨1, 2, [cA]⟩
def t9B : Tb := ⟨2, 2, [cB]⟩
def hF (F U : Int) (d : ByteArray) : Hd := ⟨9, F, U, d, []⟩
def flA (F U : Int) (d : ByteArray) (k : Bool) : Sta := { staOf t9A 1 0 with held := [⟨9, F, U, d, if k = true then [2] else []⟩] }
def flB (F U : Int) (d : ByteArray) (k : Bool) : Sta := { staOf t9B 1 0 with held := if k = true then [hF F U d] else [] }
def frX (F : Int) (d : ByteArray) : Ac := ⟨1, 0, 1, 1, 2, 0, F % 256, 9, F, 0, 0, 0, 0, d⟩
def frF (F : Int) (d : ByteArray) : Fr := ⟨1, 1, 2, 0, F % 256, 9, F, 0, 0, 0, 0, d⟩
structure OkF (F U : Int) (d : ByteArray) : Prop where
  f0 : 0 ≤ F
  f1 : F ≤ 65535
  u0 : 0 ≤ U
  u1 : U ≤ 255
  d1 : d.size ≤ 100
theorem new9A : newS t9A 1 0 = (staOf t9A 1 0, 0) := by kernel_rfl
theorem new9B : newS t9B 1 0 = (staOf t9B 1 0, 0) := by kernel_rfl
theorem held1 {F U : Int} {d : ByteArray} (h : OkF F U d) (k : Bool) : heldB [⟨9, F, U, d, if k = true then [2] else []⟩] = true := by
  obtain ⟨f0, f1, u0, u1, d1⟩ := h
  have hr : risingB (if k = true then [2] else []) = true := by cases k <;> rfl
  have hb : badHd [⟨9, F, U, d, if k = true then [2] else []⟩] 0 = false := by
    unfold badHd rangesB
    refine decide_eq_false ?_
    simp only [List.getD_cons_zero, hr]
    have : decide (0 ≤ (9 : Int) ∧ (9 : Int) ≤ 255 ∧ 0 ≤ F ∧ F ≤ 65535 ∧ 0 ≤ U ∧ U ≤ 109951162) = true := decide_eq_true (by omega)
    simp only [this]
    simp
    omega
  unfold heldB
  simp [List.range_succ, hb]
theorem okA {F U : Int} {d : ByteArray} (h : OkF F U d) (k : Bool) : checkS (flA F U d k) = 0 :=
  checkS_good (by kernel_rfl) (by kernel_rfl) (held1 h k) (by kernel_rfl) (by kernel_rfl) (by kernel_rfl)
theorem okB {F U : Int} {d : ByteArray} (h : OkF F U d) (k : Bool) : checkS (flB F U d k) = 0 := by
  refine checkS_good (by kernel_rfl) (by kernel_rfl) ?_ (by kernel_rfl) (by kernel_rfl) (by kernel_rfl)
  cases k
  · kernel_rfl
  · exact held1 h false
theorem at9A (i : Nat) : atM t9A (2 * i) = (cA, true) := by
  have h1 : checkT t9A = 0 := by kernel_rfl
  have h2 : (2 * (i : Int)) % 2 = 0 := by omega
  unfold atM
  rw [if_neg (by omega)]
  have : fstO t9A.cells (fun c => decide (c.slot = 2 * (i : Int) % t9A.len)) = some 0 := by
    simp [fstO, t9A, cA, h2, List.findIdx?_cons]
  rw [this]
  rfl
theorem at9B (i : Nat) : atM t9B (2 * i) = (cB, true) := by
  have h1 : checkT t9B = 0 := by kernel_rfl
  have h2 : (2 * (i : Int)) % 2 = 0 := by omega
  unfold atM
  rw [if_neg (by omega)]
  have : fstO t9B.cells (fun c => decide (c.slot = 2 * (i : Int) % t9B.len)) = some 0 := by
    simp [fstO, t9B, cB, h2, List.findIdx?_cons]
  rw [this]
  rfl
theorem hold9A {F U : Int} {d : ByteArray} (h : OkF F U d) : holdM (staOf t9A 1 0) (hF F U d) = (flA F U d false, 0) := by
  have h1 : checkS (staOf t9A 1 0) = 0 := by kernel_rfl
  have h2 : heldE (hF F U d) = 0 := by
    obtain ⟨f0, f1, u0, u1, d1⟩ := h
    unfold heldE
    rw [if_neg, if_neg (by show ¬ 100 < d.size; omega)]
    unfold rangesB hF
    simp
    exact ⟨by omega, by omega, by omega, by omega, by decide⟩
  unfold holdM
  rw [if_neg (by omega), if_neg (by omega), if_neg (by show ¬ 16 < 1; omega)]
  rfl
theorem hold9B {F U : Int} {d : ByteArray} (h : OkF F U d) : holdM (flB F U d false) (hF F U d) = (flB F U d true, 0) := by
  have h1 := okB h false
  have h2 : heldE (hF F U d) = 0 := by
    obtain ⟨f0, f1, u0, u1, d1⟩ := h
    unfold heldE
    rw [if_neg, if_neg (by show ¬ 100 < d.size; omega)]
    unfold rangesB hF
    simp
    exact ⟨by omega, by omega, by omega, by omega, by decide⟩
  unfold holdM
  rw [if_neg (by omega), if_neg (by omega), if_neg (by show ¬ 16 < 1; omega)]
  rfl
theorem act9 {F U : Int} {d : ByteArray} (k : Bool) (i : Nat) : actM (flA F U d k) (2 * i) cA = if k = false ∧ 2 * (i : Int) ≤ U then frX F d else zAc := by
  have e1 : actM (flA F U d k) (2 * i) cA = offA (ctlA (flA F U d k) (2 * i) cA) 0 := by
    unfold actM rawA
    rw [if_pos (show cA.kind = 1 from rfl)]
    rfl
  have e2 : ctlA (flA F U d k) (2 * i) cA = if U < 2 * (i : Int) ∨ ((if k = true then [2] else []).any fun y => decide ((2 : Int) = y)) = true then zAc else frX F d := rfl
  rw [e1, e2]
  cases k with
  | true =>
    rw [if_pos (.inr (by decide : (([2] : List Int).any fun y => decide ((2 : Int) = y)) = true)), if_neg (by simp)]
    rfl
  | false =>
    by_cases hu : 2 * (i : Int) ≤ U
    · rw [if_neg (by rintro (h | h); · omega
                     · cases h), if_pos ⟨rfl, hu⟩]
      rfl
    · rw [if_pos (.inl (show U < 2 * (i : Int) by omega)), if_neg (fun h => hu h.2)]
      rfl
def rB (F : Int) (d : ByteArray) (b : Bool) : Rs := ⟨false, b, 1, 1, 2, 0, F % 256, 9, F, 0, 0, 0, 0, d, 0⟩
def rA (b : Bool) : Rs := ⟨b, false, 0, 0, 0, 0, 0, 0, 0, 0, 0, 0, 0, ⟨#[]⟩, 0⟩
theorem forF {F U : Int} {d : ByteArray} (h : OkF F U d) : forB (frF F d) 2 = true := by
  obtain ⟨f0, f1, u0, u1, d1⟩ := h
  have hm : 0 ≤ F % 256 ∧ F % 256 ≤ 255 := by omega
  have : checkF (frF F d) = 0 := by
    unfold checkF
    refine if_pos ⟨?_, ?_, ?_⟩
    · unfold fieldsM frF
      simp
      omega
    · unfold fieldsM frF zeroF
      simp
    · unfold inS frF
      exact decide_eq_true (by dsimp only; omega)
  unfold forB
  rw [this]
  rfl
theorem done9B {F U : Int} {d : ByteArray} (h : OkF F U d) (k b : Bool) (i : Nat) : doneM (flB F U d k) (2 * i) cB (rB F d b) = (flB F U d k, if b = true then upOf (frF F d) (!k) else zUp) := by
  have ha : actM (flB F U d k) (2 * i) cB = lisA := by
    unfold actM rawA
    rw [if_pos (show cB.kind = 1 from rfl)]
    unfold ctlA
    rw [if_pos (show cB.send = false from rfl)]
    rfl
  have hw : waitM (flB F U d k) cB = flB F U d k := by
    unfold waitM
    rw [if_neg (by rintro ⟨_, h⟩; cases h)]
  unfold doneM
  rw [ha, if_neg (by rintro ⟨h, _⟩; cases h), if_neg (by intro h; cases h), if_pos (show lisA.kind = 2 from rfl), hw]
  cases b with
  | false => rfl
  | true =>
    rw [if_pos (show (rB F d true).heard = true from rfl), if_pos rfl]
    have hf : forB (frOf (rB F d true)) (flB F U d k).tb.node = true := forF h
    unfold heardM
    rw [if_neg (by rw [hf]; rintro (h | h) <;> cases h), if_pos (show (frOf (rB F d true)).kind = 1 from rfl)]
    cases k with
    | false => rfl
    | true =>
      have : newD (flB F U d true) (frOf (rB F d true)) = false := by
        show decide (F ≠ F) = false
        simp
      rw [this]
      rfl
theorem done9A {F U : Int} {d : ByteArray} (b : Bool) (i : Nat) (hu : 2 * (i : Int) ≤ U) : doneM (flA F U d false) (2 * i) cA (rA b) = (flA F U d b, zUp) := by
  have ha : actM (flA F U d false) (2 * i) cA = frX F d := by rw [act9, if_pos ⟨rfl, hu⟩]
  unfold doneM
  rw [ha, if_pos ⟨rfl, rfl⟩]
  cases b <;> rfl
end Go.Proofs


