/-
  What functions of the given program hand back, by walks over its code, and plain laws on that. No condition.
-/
import Derived.Test.YtidijkcalgmadaaGreatSxVQh
-- SXS
namespace Go.Proofs.Q
open Go Go.Sx
set_option maxRecDepth 4000
set_option linter.unusedSimpArgs false
set_option linter.unusedVariables false
attribute [local irreducible] VR VC thenQ blockQ retL

def aheadN (l : List Pk) (i : Nat) : Nat := ((l.take i).filter fun x => decide (x.to = (l.getD i default).to)).length
def aheadQ (q : Qu) (id : Int) : Int × Int := if checkQ q ≠ 0 then (0, 1) else match idxId q.packets id with
  | none => (0, 7)
  | some i => (((aheadN q.packets i : Nat) : Int), 0)
theorem aheadQ_bad {q : Qu} {to : Int} (h : ¬ checkQ q = 0) : aheadQ q to = (0, 1) := by rw [aheadQ, if_pos h]
theorem aheadQ_none {q : Qu} {to : Int} (h : checkQ q = 0) (hf : idxId q.packets to = none) : aheadQ q to = (0, 7) := by rw [aheadQ, if_neg (by omega), hf]
theorem aheadQ_some {q : Qu} {to : Int} {i : Nat} (h : checkQ q = 0) (hf : idxId q.packets to = some i) : aheadQ q to = (((aheadN q.packets i : Nat) : Int), 0) := by rw [aheadQ, if_neg (by omega), hf]
theorem cnt_step {l : List Pk} {p : Pk → Bool} {k : Nat} (h : k < l.length) : ((l.take (k + 1)).filter p).length = ((l.take k).filter p).length + if p (l.getD k default) = true then 1 else 0 := by
  rw [filter_take h, List.length_append]; split <;> rfl
theorem cnt_le {l : List Pk} {p : Pk → Bool} {k : Nat} : ((l.take k).filter p).length ≤ k := by
  have := List.length_filter_le p (l.take k)
  rw [List.length_take] at this; omega
def boundQ (q : Qu) (id every : Int) : Int × Int := if (aheadQ q id).2 ≠ 0 then (0, (aheadQ q id).2) else if inI every 1 4096 = false then (0, 2) else (every * ((aheadQ q id).1 + 1), 0)
theorem aheadQ_le {q : Qu} {id : Int} (h : (aheadQ q id).2 = 0) : 0 ≤ (aheadQ q id).1 ∧ (aheadQ q id).1 ≤ 64 := by
  by_cases hc : checkQ q = 0
  · cases hf : idxId q.packets id with
    | none => rw [aheadQ_none hc hf] at h; cases h
    | some i =>
      rw [aheadQ_some hc hf]
      have := cnt_le (l := q.packets) (p := fun x => decide (x.to = (q.packets.getD i default).to)) (k := i)
      have hl := checkQ_len hc
      obtain ⟨hi, _, _⟩ := fstO_some hf
      simp only [aheadN]; omega
  · rw [aheadQ_bad hc] at h; cases h
end Go.Proofs.Q


