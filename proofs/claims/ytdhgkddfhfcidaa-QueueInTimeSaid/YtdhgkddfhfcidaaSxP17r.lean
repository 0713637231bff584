/-
  What functions of the given program hand back, by walks over its code, and plain laws on that. No condition.
-/
import Derived.Test.YtdhgkddfhfcidaaSxP17p
-- SXS
-- SXM
namespace Go.Proofs
open Go Go.Sx
set_option linter.unusedSimpArgs false
set_option linter.unusedVariables false
attribute [local irreducible] VR VC thenQ blockQ retL
/-! Maps that are sets. -/
def keysM (m : List (Int × Bool)) : List Int := m.map (·.1)
structure SetM (m : List (Int × Bool)) : Prop where
  nodup : (keysM m).Nodup
  tru : ∀ p ∈ m, p.2 = true
theorem SetM.nil : SetM [] := ⟨List.nodup_nil, fun p hp => by cases hp⟩
theorem asc_keys {m : List (Int × Bool)} {a : Int} : (asc m a).isSome = true ↔ a ∈ keysM m := by
  induction m with
  | nil => simp [asc, keysM]
  | cons p m ih =>
    simp only [asc, keysM, List.map_cons, List.mem_cons]
    by_cases e : p.1 = a
    · simp [e]
    · rw [if_neg e, ih]
      constructor
      · exact fun h => .inr h
      · rintro (h | h)
        · exact absurd h.symm e
        · exact h
theorem SetM.get {m : List (Int × Bool)} (h : SetM m) (a : Int) : (asc m a).getD false = decide (a ∈ keysM m) := by
  cases hs : asc m a with
  | none =>
    have : ¬ a ∈ keysM m := fun hm => by have := asc_keys.2 hm; rw [hs] at this; cases this
    simp [this]
  | some v =>
    have h1 : a ∈ keysM m := asc_keys.1 (by rw [hs]; rfl)
    have h2 := h.tru _ (asc_mem hs)
    simp only at h2
    simp [h1, h2]
theorem keys_put {m : List (Int × Bool)} {a : Int} : (a ∈ keysM m → keysM (putA m a true) = keysM m) ∧ (a ∉ keysM m → keysM (putA m a true) = keysM m ++ [a]) := by
  induction m with
  | nil => simp [keysM, putA]
  | cons p m ih =>
    simp only [putA]
    by_cases e : p.1 = a
    · rw [if_pos e]
      simp [keysM, e]
    · rw [if_neg e]
      have e' : ¬ a = p.1 := fun h => e h.symm
      simp only [keysM, List.map_cons, List.mem_cons, e', false_or] at ih ⊢
      exact ⟨fun h => by rw [ih.1 h], fun h => by rw [ih.2 h]; rfl⟩
theorem put_tru {m : List (Int × Bool)} {a : Int} (h : ∀ p ∈ m, p.2 = true) : ∀ p ∈ putA m a true, p.2 = true := by
  induction m with
  | nil => intro p hp; simp only [putA, List.mem_singleton] at hp; subst hp; rfl
  | cons q m ih =>
    intro p hp
    simp only [putA] at hp
    split at hp
    · rcases List.mem_cons.1 hp with rfl | hp
      · rfl
      · exact h p (List.mem_cons_of_mem _ hp)
    · rcases List.mem_cons.1 hp with rfl | hp
      · exact h _ List.mem_cons_self
      · exact ih (fun x hx => h x (List.mem_cons_of_mem _ hx)) p hp
theorem SetM.put {m : List (Int × Bool)} (h : SetM m) (a : Int) : SetM (putA m a true) := by
  refine ⟨?_, put_tru h.tru⟩
  by_cases ha : a ∈ keysM m
  · rw [keys_put.1 ha]; exact h.nodup
  · rw [keys_put.2 ha, List.nodup_append]
    exact ⟨h.nodup, by simp, fun x hx y hy => by simp at hy; subst hy; exact fun e => ha (e ▸ hx)⟩
theorem SetM.put_mem {m : List (Int × Bool)} (_h : SetM m) {a b : Int} : b ∈ keysM (putA m a true) ↔ b = a ∨ b ∈ keysM m := by
  by_cases ha : a ∈ keysM m
  · rw [keys_put.1 ha]
    exact ⟨.inr, fun h => h.elim (fun e => e ▸ ha) id⟩
  · rw [keys_put.2 ha]; simp [or_comm]
theorem put_len {m : List (Int × Bool)} {a : Int} : (putA m a true).length = if a ∈ keysM m then m.length else m.length + 1 := by
  have h1 : ∀ m : List (Int × Bool), m.length = (keysM m).length := fun m => by simp [keysM]
  by_cases ha : a ∈ keysM m
  · rw [if_pos ha, h1, keys_put.1 ha, ← h1]
  · rw [if_neg ha, h1, keys_put.2 ha, List.length_append, ← h1]; rfl
theorem keys_del {m : List (Int × Bool)} {a : Int} : keysM (delA m a) = (keysM m).erase a := by
  induction m with
  | nil => rfl
  | cons p m ih =>
    simp only [delA, keysM, List.map_cons] at ih ⊢
    by_cases e : p.1 = a
    · rw [if_pos e, e, List.erase_cons_head]
    · rw [if_neg e, List.map_cons, ih, List.erase_cons_tail (by simpa using e)]
theorem del_sub {m : List (Int × Bool)} {a : Int} : ∀ p ∈ delA m a, p ∈ m := by
  induction m with
  | nil => intro p hp; cases hp
  | cons q m ih =>
    intro p hp
    simp only [delA] at hp
    split at hp
    · exact List.mem_cons_of_mem _ hp
    · rcases List.mem_cons.1 hp with rfl | hp
      · exact List.mem_cons_self
      · exact List.mem_cons_of_mem _ (ih p hp)
theorem SetM.del {m : List (Int × Bool)} (h : SetM m) (a : Int) : SetM (delA m a) := ⟨by rw [keys_del]; exact h.nodup.erase a, fun p hp => h.tru p (del_sub p hp)⟩
theorem SetM.del_mem {m : List (Int × Bool)} (h : SetM m) {a b : Int} : b ∈ keysM (delA m a) ↔ b ≠ a ∧ b ∈ keysM m := by
  rw [keys_del, h.nodup.mem_erase_iff]
theorem SetM.del_len {m : List (Int × Bool)} (_h : SetM m) {a : Int} : (delA m a).length = if a ∈ keysM m then m.length - 1 else m.length := by
  have h1 : ∀ m : List (Int × Bool), m.length = (keysM m).length := fun m => by simp [keysM]
  rw [h1, keys_del, List.length_erase, ← h1]
/-! Every ID that came in is in the queue, or has left: one or the other. -/
structure Inv3 (inn out : List (Int × Bool)) (ids : List Int) : Prop where
  si : SetM inn
  so : SetM out
  nodup : ids.Nodup
  mem : ∀ a, a ∈ keysM inn ↔ a ∈ keysM out ∨ a ∈ ids
  dis : ∀ a ∈ ids, a ∉ keysM out
  len : inn.length = out.length + ids.length
theorem Inv3.nil : Inv3 [] [] [] := ⟨SetM.nil, SetM.nil, List.nodup_nil, fun a => by simp, (fun a ha => absurd ha (List.not_mem_nil)), rfl⟩
theorem Inv3.perm {inn out : List (Int × Bool)} {ids ids' : List Int} (h : Inv3 inn out ids) (hp : ids.Perm ids') : Inv3 inn out ids' :=
  ⟨h.si, h.so, hp.nodup_iff.1 h.nodup, fun a => by rw [h.mem, hp.mem_iff], fun a ha => h.dis a (hp.mem_iff.2 ha), by rw [h.len, hp.length_eq]⟩
theorem Inv3.leave {inn out : List (Int × Bool)} {a : Int} {ids : List Int} (h : Inv3 inn out (a :: ids)) : (asc out a).getD false = false ∧ (asc inn a).getD false = true ∧ Inv3 inn (putA out a true) ids := by
  have h1 : a ∉ keysM out := h.dis a List.mem_cons_self
  have h2 : a ∈ keysM inn := (h.mem a).2 (.inr List.mem_cons_self)
  obtain ⟨h3, h4⟩ := List.nodup_cons.1 h.nodup
  refine ⟨by rw [h.so.get]; simp [h1], by rw [h.si.get]; simp [h2], ⟨h.si, h.so.put a, h4, fun b => ?_, fun b hb hm => ?_, ?_⟩⟩
  · rw [h.mem, h.so.put_mem, List.mem_cons]
    constructor
    · rintro (h | h | h)
      · exact .inl (.inr h)
      · exact .inl (.inl h)
      · exact .inr h
    · rintro ((h | h) | h)
      · exact .inr (.inl h)
      · exact .inl h
      · exact .inr (.inr h)
  · rcases h.so.put_mem.1 hm with rfl | hm
    · exact h3 hb
    · exact h.dis b (List.mem_cons_of_mem _ hb) hm
  · rw [put_len, if_neg h1, h.len, List.length_cons]; omega
theorem Inv3.come {inn out : List (Int × Bool)} {a : Int} {ids : List Int} (h : Inv3 inn out ids) (ha : a ∉ ids) : ((asc inn a).getD false && !(asc out a).getD false) = false ∧ Inv3 (putA inn a true) (delA out a) (a :: ids) := by
  refine ⟨?_, ⟨h.si.put a, h.so.del a, List.nodup_cons.2 ⟨ha, h.nodup⟩, fun b => ?_, fun b hb hm => ?_, ?_⟩⟩
  · rw [h.si.get, h.so.get]
    by_cases hi : a ∈ keysM inn
    · have : a ∈ keysM out := ((h.mem a).1 hi).resolve_right ha
      simp [this]
    · simp [hi]
  · rw [h.si.put_mem, h.so.del_mem, h.mem, List.mem_cons]
    constructor
    · rintro (h | h | h)
      · exact .inr (.inl h)
      · by_cases e : b = a
        · exact .inr (.inl e)
        · exact .inl ⟨e, h⟩
      · exact .inr (.inr h)
    · rintro (⟨_, h⟩ | h | h)
      · exact .inr (.inl h)
      · exact .inl h
      · exact .inr (.inr h)
  · obtain ⟨h1, h2⟩ := h.so.del_mem.1 hm
    rcases List.mem_cons.1 hb with rfl | hb
    · exact h1 rfl
    · exact h.dis b hb h2
  · rw [put_len, h.so.del_len, List.length_cons]
    have hl := h.len
    by_cases hi : a ∈ keysM inn
    · have ho : a ∈ keysM out := ((h.mem a).1 hi).resolve_right ha
      rw [if_pos hi, if_pos ho]
      have : 0 < out.length := by
        have := List.length_pos_of_mem ho
        simpa [keysM] using this
      omega
    · have ho : a ∉ keysM out := fun h' => hi ((h.mem a).2 (.inl h'))
      rw [if_neg hi, if_neg ho]; omega
/-! What Put leaves. -/
def idsP (l : List Pk) : List Int := l.map Pk.id
def idsD (l : List Dp) : List Int := l.map Dp.id
theorem OkQ.nodup {lim : Int} {l : List Pk} (h : OkQ lim l) : (idsP l).Nodup := by
  unfold idsP List.Nodup
  rw [List.pairwise_map]
  exact h.pair.imp fun h => h.1
theorem insAt_perm (l : List Pk) (i : Nat) (p : Pk) : (insAt l i p).Perm (p :: l) := by
  unfold insAt
  exact (List.perm_middle).trans (by rw [List.take_append_drop])
theorem okQ_ins {lim : Int} {l : List Pk} {p : Pk} (h : OkQ lim l) (hp : formP p = 0) (hi : p.id ∉ idsP l) (hl : (l.length : Int) + 1 ≤ lim) : OkQ lim (insAt l (atP l p.prio) p) := by
  have hpw := List.pairwise_iff_getElem.1 h.pair
  have hne : ∀ x ∈ l, x.id ≠ p.id := fun x hx e => hi (List.mem_map.2 ⟨x, hx, e⟩)
  have hlo : ∀ x ∈ l.take (atP l p.prio), x.prio ≤ p.prio := fun x hx => by
    obtain ⟨k, hk, hkl, rfl⟩ := mem_take_getD hx
    unfold atP at hk
    cases hf : fstO l fun x => decide (p.prio < x.prio) with
    | none =>
      have := of_decide_eq_false (fstO_notmem hf _ (getD_mem hkl)); omega
    | some j =>
      rw [hf] at hk
      have := of_decide_eq_false ((fstO_some hf).2.2 k hk); omega
  have hhi : ∀ y ∈ l.drop (atP l p.prio), p.prio ≤ y.prio := fun y hy => by
    unfold atP at hy
    cases hf : fstO l fun x => decide (p.prio < x.prio) with
    | none => rw [hf] at hy; simp at hy
    | some j =>
      rw [hf] at hy
      obtain ⟨hj, hpj, _⟩ := fstO_some hf
      have hpj := of_decide_eq_true hpj
      obtain ⟨k, hk, rfl⟩ := List.getElem_of_mem hy
      rw [Option.getD_some, List.length_drop] at hk
      simp only [Option.getD_some, List.getElem_drop]
      rw [getD_el hj] at hpj
      rcases Nat.eq_zero_or_pos k with rfl | h0
      · simp only [Nat.add_zero]; omega
      · have := (hpw j (j + k) hj (by omega) (by omega)).2
        omega
  refine ⟨h.bnd, by rw [(insAt_perm l _ p).length_eq, List.length_cons]; omega, fun x hx => ?_, ?_⟩
  · rcases List.mem_cons.1 ((insAt_perm l _ p).mem_iff.1 hx) with rfl | hx
    · exact hp
    · exact h.form x hx
  · unfold insAt
    rw [List.pairwise_append]
    refine ⟨h.pair.sublist (List.take_sublist _ _), List.pairwise_cons.2 ⟨fun y hy => ⟨fun e => hne y (List.mem_of_mem_drop hy) e.symm, hhi y hy⟩, h.pair.sublist (List.drop_sublist _ _)⟩, fun x hx y hy => ?_⟩
    rcases List.mem_cons.1 hy with rfl | hy
    · exact ⟨hne x (List.mem_of_mem_take hx), hlo x hx⟩
    · have hp2 := h.pair
      rw [← List.take_append_drop (atP l p.prio) l, List.pairwise_append] at hp2
      exact hp2.2.2 x hx y hy
theorem putQ_ok {q : Qu} {p : Pk} (hc : checkQ q = 0) (h : (putQ q p).2.2 = 0) : p.id ∉ idsP q.packets ∧ (putQ q p).1.limit = q.limit ∧ OkQ q.limit (putQ q p).1.packets ∧
    (idsP (putQ q p).2.1 ++ idsP (putQ q p).1.packets).Perm (p.id :: idsP q.packets) := by
  have hok := okQ_of hc
  have hl := checkQ_len hc
  unfold putQ at h ⊢
  rw [if_neg (by omega)] at h ⊢
  by_cases hf : formP p = 0
  · rw [if_neg (by omega)] at h ⊢
    by_cases ha : (q.packets.any fun x => decide (x.id = p.id)) = true
    · rw [if_pos ha] at h; cases h
    · rw [if_neg ha] at h ⊢
      have hi : p.id ∉ idsP q.packets := fun hm => by
        obtain ⟨x, hx, e⟩ := List.mem_map.1 hm
        exact ha (List.any_eq_true.2 ⟨x, hx, decide_eq_true e⟩)
      by_cases hfull : (q.packets.length : Int) = q.limit
      · rw [if_pos hfull] at h ⊢
        by_cases hpr : (q.packets.getD (q.packets.length - 1) default).prio ≤ p.prio
        · rw [if_pos hpr] at h; cases h
        · rw [if_neg hpr]
          have hsub : OkQ q.limit (q.packets.take (q.packets.length - 1)) := hok.sub (List.take_sublist _ _)
          have hi' : p.id ∉ idsP (q.packets.take (q.packets.length - 1)) := fun hm => by
            obtain ⟨x, hx, e⟩ := List.mem_map.1 hm
            exact hi (List.mem_map.2 ⟨x, List.mem_of_mem_take hx, e⟩)
          refine ⟨hi, rfl, okQ_ins hsub hf hi' (by rw [List.length_take]; omega), ?_⟩
          have e1 : q.packets.take (q.packets.length - 1) ++ [q.packets.getD (q.packets.length - 1) default] = q.packets := by
            have := take_getD (l := q.packets) (i := q.packets.length - 1) (by omega)
            rw [← this, List.take_of_length_le (by omega)]
          have h2 : (idsP (insAt (q.packets.take (q.packets.length - 1)) (atP (q.packets.take (q.packets.length - 1)) p.prio) p)).Perm (p.id :: idsP (q.packets.take (q.packets.length - 1))) := (insAt_perm _ _ p).map Pk.id
          have h3 : (idsP [q.packets.getD (q.packets.length - 1) default] ++ idsP (q.packets.take (q.packets.length - 1))).Perm (idsP q.packets) := by
            have : (idsP (q.packets.take (q.packets.length - 1)) ++ idsP [q.packets.getD (q.packets.length - 1) default]) = idsP q.packets := by unfold idsP; rw [← List.map_append, e1]
            rw [← this]
            exact List.perm_append_comm
          exact (h2.append_left _).trans (List.perm_middle.trans (h3.cons _))
      · rw [if_neg hfull]
        refine ⟨hi, rfl, okQ_ins hok hf hi (by omega), ?_⟩
        exact (insAt_perm _ _ p).map Pk.id
  · rw [if_pos hf] at h; exact absurd h hf
/-! What Serve leaves. -/
theorem serve1_perm (l : List Pk) (out : List Dp) (slot to : Int) : (idsP (serve1 l out slot to).1 ++ idsD (serve1 l out slot to).2).Perm (idsP l ++ idsD out) := by
  have h1 : (idsP (freshL l slot) ++ idsD (goneL l slot)).Perm (idsP l) := by
    have e : idsD (goneL l slot) = idsP (staleL l slot) := by unfold idsD goneL idsP; rw [List.map_map]; rfl
    rw [e]
    unfold idsP freshL staleL
    rw [← List.map_append]
    refine List.Perm.map _ ?_
    have := List.filter_append_perm (fun x : Pk => staleB x slot) l
    exact List.perm_append_comm.trans this
  have h0 : (idsP (freshL l slot) ++ idsD (out ++ goneL l slot)).Perm (idsP l ++ idsD out) := by
    unfold idsD at h1 ⊢
    rw [List.map_append]
    refine ((List.perm_append_comm (l₁ := out.map Dp.id)).append_left _).trans ?_
    rw [← List.append_assoc]
    exact h1.append_right _
  unfold serve1
  cases hf : idxTo (freshL l slot) to with
  | none => exact h0
  | some i =>
    obtain ⟨hi, _, _⟩ := fstO_some hf
    refine List.Perm.trans ?_ h0
    have h2 : (idsP ((freshL l slot).eraseIdx i) ++ [((freshL l slot).getD i default).id]).Perm (idsP (freshL l slot)) := by
      rw [getD_el hi]
      have e3 : (freshL l slot).eraseIdx i = (freshL l slot).take i ++ (freshL l slot).drop (i + 1) := List.eraseIdx_eq_take_drop_succ ..
      have e4 : freshL l slot = (freshL l slot).take i ++ (freshL l slot)[i] :: (freshL l slot).drop (i + 1) := by
        conv => lhs; rw [← List.take_append_drop i (freshL l slot), List.drop_eq_getElem_cons hi]
      have : ((freshL l slot)[i] :: (freshL l slot).eraseIdx i).Perm (freshL l slot) := by
        rw [e3]; conv => rhs; rw [e4]
        exact List.perm_middle.symm
      exact List.perm_append_comm.trans (this.map Pk.id)
    show (idsP ((freshL l slot).eraseIdx i) ++ idsD (out ++ goneL l slot ++ [dpS ((freshL l slot).getD i default) slot])).Perm _
    have e : idsD (out ++ goneL l slot ++ [dpS ((freshL l slot).getD i default) slot]) = idsD (out ++ goneL l slot) ++ [((freshL l slot).getD i default).id] := by unfold idsD; rw [List.map_append]; rfl
    rw [e]
    refine ((List.perm_append_comm (l₁ := idsD (out ++ goneL l slot))).append_left _).trans ?_
    rw [← List.append_assoc]
    exact h2.append_right _
theorem serveTo_perm (l : List Pk) (first : Int) (ls : List Int) : ∀ k, (idsP (serveTo l first ls k).1 ++ idsD (serveTo l first ls k).2).Perm (idsP l)
  | 0 => by simp [serveTo, idsD]
  | k + 1 => (serve1_perm _ _ _ _).trans (serveTo_perm l first ls k)
end Go.Proofs
