/-
  What functions of the given program hand back, by walks over its code, and plain laws on that. No condition.
-/
import Derived.Test.YtecdajajocafdaaGreatSxP18rd
-- SXS
-- SXM
-- SXN
namespace Go.Proofs
open Go Go.Sx Go.Proofs.T Go.Proofs.Q
set_option maxRecDepth 4000
set_option linter.unusedSimpArgs false
set_option linter.unusedVariables false
attribute [local irreducible] VR VC thenQ blockQ retL

theorem idx_mem {l : List Pk} {p : Pk} (h : p ∈ l) : ∃ i, idxId l p.id = some i := by
  cases hf : idxId l p.id with
  | some i => exact ⟨i, rfl⟩
  | none =>
    have := fstO_notmem hf p h
    simp at this
theorem offA_kind (a : Ac) (o : Int) : (offA a o).kind = a.kind := by unfold offA; split <;> rfl
theorem offA_fkind (a : Ac) (o : Int) : (offA a o).fkind = a.fkind := by unfold offA; split <;> rfl
/-- What a frame with a packet that is sent tells. -/
theorem act_msg {s : Sta} {slot : Int} {c : TC} (hck : checkS s = 0) (h1 : (actM s slot c).kind = 1) (h2 : ¬ (actM s slot c).fkind = 1) :
    planP s c = (sentP s c, true) ∧ sentP s c ∈ s.qu.packets ∧ actM s slot c = { msgA s (sentP s c) with offset := c.offset } ∧ ((c.kind = 2 ∧ c.send = true ∧ (firstQ s.qu c.peer).2 = true) ∨ (c.kind = 3 ∧ (candI s).isSome = true ∧ s.wait = 0)) := by
  obtain ⟨_, hQ, _, _⟩ := checkS_of hck
  unfold actM at h1 h2 ⊢
  rw [offA_kind] at h1
  rw [offA_fkind] at h2
  unfold rawA at h1 h2 ⊢
  by_cases k1 : c.kind = 1
  · rw [if_pos k1] at h1 h2
    unfold ctlA at h1 h2
    split at h1
    · cases h1
    · rename_i hsd
      rw [if_neg hsd] at h2
      split at h1
      · cases h1
      · rename_i i hh
        rw [hh] at h2
        dsimp only at h2
        split at h1
        · cases h1
        · rename_i hn
          rw [if_neg hn] at h2
          exact absurd rfl h2
  · rw [if_neg k1] at h1 h2 ⊢
    by_cases k2 : c.kind = 2
    · rw [if_pos k2] at h1 h2 ⊢
      unfold agrA at h1 h2 ⊢
      split at h1
      · cases h1
      · rename_i hsd
        have hsd' : c.send = true := by simpa using hsd
        rw [if_neg hsd] at h2 ⊢
        split at h1
        · rename_i hq
          rw [if_pos hq]
          have hs : sentP s c = (firstQ s.qu c.peer).1 := by rw [sentP, if_neg (by omega)]
          refine ⟨?_, ?_, ?_, .inl ⟨k2, hsd', hq⟩⟩
          · rw [planP, if_pos ⟨k2, hsd'⟩, if_pos hq, hs]
          · rw [hs]
            cases hf : idxTo s.qu.packets c.peer with
            | none => rw [firstQ_none hQ hf] at hq; cases hq
            | some i =>
              rw [firstQ_some hQ hf]
              obtain ⟨hi, _, _⟩ := fstO_some hf
              exact getD_mem hi
          · rw [hs]; rfl
        · cases h1
    · rw [if_neg k2] at h1 h2 ⊢
      by_cases k3 : c.kind = 3
      · rw [if_pos k3] at h1 h2 ⊢
        unfold shrA at h1 h2 ⊢
        split at h1
        · rename_i hq
          rw [if_pos hq]
          have hs : sentP s c = pkOf s (candI s) := by rw [sentP, if_pos k3]
          refine ⟨?_, ?_, ?_, .inr ⟨k3, hq⟩⟩
          · rw [planP, if_neg (fun h => k2 h.1), if_pos k3, hs, hq.1]
          · rw [hs]
            cases hf : candI s with
            | none => rw [hf] at hq; cases hq.1
            | some i =>
              obtain ⟨hi, _, _⟩ := fstO_some hf
              exact getD_mem hi
          · rw [hs]; rfl
        · cases h1
      · rw [if_neg k3] at h1; cases h1
end Go.Proofs


