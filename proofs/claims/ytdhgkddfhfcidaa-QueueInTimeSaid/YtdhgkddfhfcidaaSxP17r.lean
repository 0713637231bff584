/-
  What functions of the given program hand back, by walks over its code, and plain laws on that. No condition.
-/
import Derived.Test.YtdhgkddfhfcidaaSxP17p
-- SXS
-- SXM
namespace Go.Proofs
open Go Go.Sx
set_option linter.unusedSimpArgs false
set_option linter.unusedVariables false
attribute [local irreducible] VR VC thenQ blockQ retL

/-! Maps that are sets. -/
def keysM (m : List (Int × Bool)) : List Int := m.map (·.1)
structure SetM (m : List (Int × Bool)) : Prop where
  nodup : (keysM m).Nodup
  tru : ∀ p ∈ m, p.2 = true
theorem SetM.nil : SetM [] := ⟨List.nodup_nil, fun p hp => by cases hp⟩
theorem asc_keys {m : List (Int × Bool)} {a : Int} : (asc m a).isSome = true ↔ a ∈ keysM m := by
  induction m with
  | nil => simp [asc, keysM]
  | cons p m ih =>
    simp only [asc, keysM, List.map_cons, List.mem_cons]
    by_cases e : p.1 = a
    · simp [e]
    · rw [if_neg e, ih]
      constructor
      · exact fun h => .inr h
      · rintro (h | h)
        · exact absurd h.symm e
        · exact h
theorem SetM.get {m : List (Int × Bool)} (h : SetM m) (a : Int) : (asc m a).getD false = decide (a ∈ keysM m) := by
  cases hs : asc m a with
  | none =>
    have : ¬ a ∈ keysM m := fun hm => by have := asc_keys.2 hm; rw [hs] at this; cases this
    simp [this]
  | some v =>
    have h1 : a ∈ keysM m := asc_keys.1 (by rw [hs]; rfl)
    have h2 := h.tru _ (asc_mem hs)
    simp only at h2
    simp [h1, h2]
theorem keys_put {m : List (Int × Bool)} {a : Int} : (a ∈ keysM m → keysM (putA m a true) = keysM m) ∧ (a ∉ keysM m → keysM (putA m a true) = keysM m ++ [a]) := by
  induction m with
  | nil => simp [keysM, putA]
  | cons p m ih =>
    simp only [putA]
    by_cases e : p.1 = a
    · rw [if_pos e]
      simp [keysM, e]
    · rw [if_neg e]
      have e' : ¬ a = p.1 := fun h => e h.symm
      simp only [keysM, List.map_cons, List.mem_cons, e', false_or] at ih ⊢
      exact ⟨fun h => by rw [ih.1 h], fun h => by rw [ih.2 h]; rfl⟩
theorem put_tru {m : List (Int × Bool)} {a : Int} (h : ∀ p ∈ m, p.2 = true) : ∀ p ∈ putA m a true, p.2 = true := by
  induction m with
  | nil => intro p hp; simp only [putA, List.mem_singleton] at hp; subst hp; rfl
  | cons q m ih =>
    intro p hp
    simp only [putA] at hp
    split at hp
    · rcases List.mem_cons.1 hp with rfl | hp
      · rfl
      · exact h p (List.mem_cons_of_mem _ hp)
    · rcases List.mem_cons.1 hp with rfl | hp
      · exact h _ List.mem_cons_self
      · exact ih (fun x hx => h x (List.mem_cons_of_mem _ hx)) p hp
theorem SetM.put {m : List (Int × Bool)} (h : SetM m) (a : Int) : SetM (putA m a true) := by
  refine ⟨?_, put_tru h.tru⟩
  by_cases ha : a ∈ keysM m
  · rw [keys_put.1 ha]; exact h.nodup
  · rw [keys_put.2 ha, List.nodup_append]
    exact ⟨h.nodup, by simp, fun x hx y hy => by simp at hy; subst hy; exact fun e => ha (e ▸ hx)⟩
/-! Every ID that came in is in the queue, or has left: one or the other. -/
structure Inv3 (inn out : List (Int × Bool)) (ids : List Int) : Prop where
  si : SetM inn
  so : SetM out
  nodup : ids.Nodup
  mem : ∀ a, a ∈ keysM inn ↔ a ∈ keysM out ∨ a ∈ ids
  dis : ∀ a ∈ ids, a ∉ keysM out
  len : inn.length = out.length + ids.length
theorem Inv3.nil : Inv3 [] [] [] := ⟨SetM.nil, SetM.nil, List.nodup_nil, fun a => by simp, (fun a ha => absurd ha (List.not_mem_nil)), rfl⟩
/-! What Put leaves. -/
def idsP (l : List Pk) : List Int := l.map Pk.id
def idsD (l : List Dp) : List Int := l.map Dp.id
theorem OkQ.nodup {lim : Int} {l : List Pk} (h : OkQ lim l) : (idsP l).Nodup := by
  unfold idsP List.Nodup
  rw [List.pairwise_map]
  exact h.pair.imp fun h => h.1
/-! What Serve leaves. -/
theorem serve1_perm (l : List Pk) (out : List Dp) (slot to : Int) : (idsP (serve1 l out slot to).1 ++ idsD (serve1 l out slot to).2).Perm (idsP l ++ idsD out) := by
  have h1 : (idsP (freshL l slot) ++ idsD (goneL l slot)).Perm (idsP l) := by
    have e : idsD (goneL l slot) = idsP (staleL l slot) := by unfold idsD goneL idsP; rw [List.map_map]; rfl
    rw [e]
    unfold idsP freshL staleL
    rw [← List.map_append]
    refine List.Perm.map _ ?_
    have := List.filter_append_perm (fun x : Pk => staleB x slot) l
    exact List.perm_append_comm.trans this
  have h0 : (idsP (freshL l slot) ++ idsD (out ++ goneL l slot)).Perm (idsP l ++ idsD out) := by
    unfold idsD at h1 ⊢
    rw [List.map_append]
    refine ((List.perm_append_comm (l₁ := out.map Dp.id)).append_left _).trans ?_
    rw [← List.append_assoc]
    exact h1.append_right _
  unfold serve1
  cases hf : idxTo (freshL l slot) to with
  | none => exact h0
  | some i =>
    obtain ⟨hi, _, _⟩ := fstO_some hf
    refine List.Perm.trans ?_ h0
    have h2 : (idsP ((freshL l slot).eraseIdx i) ++ [((freshL l slot).getD i default).id]).Perm (idsP (freshL l slot)) := by
      rw [getD_el hi]
      have e3 : (freshL l slot).eraseIdx i = (freshL l slot).take i ++ (freshL l slot).drop (i + 1) := List.eraseIdx_eq_take_drop_succ ..
      have e4 : freshL l slot = (freshL l slot).take i ++ (freshL l slot)[i] :: (freshL l slot).drop (i + 1) := by
        conv => lhs; rw [← List.take_append_drop i (freshL l slot), List.drop_eq_getElem_cons hi]
      have : ((freshL l slot)[i] :: (freshL l slot).eraseIdx i).Perm (freshL l slot) := by
        rw [e3]; conv => rhs; rw [e4]
        exact List.perm_middle.symm
      exact List.perm_append_comm.trans (this.map Pk.id)
    show (idsP ((freshL l slot).eraseIdx i) ++ idsD (out ++ goneL l slot ++ [dpS ((freshL l slot).getD i default) slot])).Perm _
    have e : idsD (out ++ goneL l slot ++ [dpS ((freshL l slot).getD i default) slot]) = idsD (out ++ goneL l slot) ++ [((freshL l slot).getD i default).id] := by unfold idsD; rw [List.map_append]; rfl
    rw [e]
    refine ((List.perm_append_comm (l₁ := idsD (out ++ goneL l slot))).append_left _).trans ?_
    rw [← List.append_assoc]
    exact h2.append_right _
theorem serveTo_perm (l : List Pk) (first : Int) (ls : List Int) : ∀ k, (idsP (serveTo l first ls k).1 ++ idsD (serveTo l first ls k).2).Perm (idsP l)
  | 0 => by simp [serveTo, idsD]
  | k + 1 => (serve1_perm _ _ _ _).trans (serveTo_perm l first ls k)
end Go.Proofs


