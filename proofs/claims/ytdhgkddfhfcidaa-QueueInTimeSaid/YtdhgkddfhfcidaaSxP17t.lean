/-
  What functions of the given program hand back, by walks over its code, and plain laws on that. No condition.
-/
import Derived.Test.YtdhgkddfhfcidaaSxP17s
-- SXS
-- SXM
namespace Go.Proofs
open Go Go.Sx
set_option linter.unusedSimpArgs false
set_option linter.unusedVariables false
attribute [local irreducible] VR VC thenQ blockQ retL

/-! What Serve keeps and when a packet leaves. -/
abbrev SL (l : List Pk) (first : Int) (ls : List Int) (k : Nat) : List Pk := (serveTo l first ls k).1
abbrev SD (l : List Pk) (first : Int) (ls : List Int) (k : Nat) : List Dp := (serveTo l first ls k).2
section
variable {l : List Pk} {first : Int} {ls : List Int} {lim : Int}
theorem SL_fresh (k : Nat) : (SL l first ls (k + 1)).Sublist (freshL (SL l first ls k) (first + k)) := by
  show (serve1 _ _ _ _).1.Sublist _
  unfold serve1
  cases hf : idxTo (freshL (serveTo l first ls k).1 (first + k)) (ls.getD k default) with
  | none => exact List.Sublist.refl _
  | some i => exact List.eraseIdx_sublist _ _
theorem SL_mono {j k : Nat} (h : j ≤ k) : (SL l first ls k).Sublist (SL l first ls j) := by
  induction k with
  | zero => have : j = 0 := by omega
            subst this; exact List.Sublist.refl _
  | succ k ih =>
    rcases Nat.lt_or_ge k j with h1 | h1
    · have : j = k + 1 := by omega
      subst this; exact List.Sublist.refl _
    · exact (serve1_sub _ _ _ _).trans (ih h1)
theorem SD_mono {j k : Nat} (h : j ≤ k) : ∀ x ∈ SD l first ls j, x ∈ SD l first ls k := by
  induction k with
  | zero => have : j = 0 := by omega
            subst this; exact fun x hx => hx
  | succ k ih =>
    rcases Nat.lt_or_ge k j with h1 | h1
    · have : j = k + 1 := by omega
      subst this; exact fun x hx => hx
    · intro x hx
      have := ih h1 x hx
      show x ∈ (serve1 _ _ _ _).2
      unfold serve1
      cases hf : idxTo (freshL (serveTo l first ls k).1 (first + k)) (ls.getD k default) with
      | none => exact List.mem_append_left _ this
      | some i => exact List.mem_append_left _ (List.mem_append_left _ this)
/-- In slot t the packet p leaves for its neighbour. -/
def Dep (l : List Pk) (first : Int) (ls : List Int) (t : Nat) (p : Pk) : Prop := ∃ i, idxTo (freshL (SL l first ls t) (first + t)) (ls.getD t default) = some i ∧ (freshL (SL l first ls t) (first + t)).getD i default = p
theorem SD_of (k : Nat) : ∀ x ∈ SD l first ls k, (∃ t, t < k ∧ x.slot = first + t) ∧ (x.dropped = false → ∃ t p, t < k ∧ Dep l first ls t p ∧ x = dpS p (first + t)) := by
  induction k with
  | zero => intro x hx; cases hx
  | succ k ih =>
    intro x hx
    have hx : x ∈ (serve1 (serveTo l first ls k).1 (serveTo l first ls k).2 (first + k) (ls.getD k default)).2 := hx
    have hold : x ∈ SD l first ls k → (∃ t, t < k + 1 ∧ x.slot = first + t) ∧ (x.dropped = false → ∃ t p, t < k + 1 ∧ Dep l first ls t p ∧ x = dpS p (first + t)) := fun h => by
      obtain ⟨⟨t, h1, h2⟩, h3⟩ := ih x h
      exact ⟨⟨t, by omega, h2⟩, fun hd => by obtain ⟨t, p, h4, h5⟩ := h3 hd; exact ⟨t, p, by omega, h5⟩⟩
    have hgone : x ∈ goneL (serveTo l first ls k).1 (first + k) → (∃ t, t < k + 1 ∧ x.slot = first + t) ∧ (x.dropped = false → ∃ t p, t < k + 1 ∧ Dep l first ls t p ∧ x = dpS p (first + t)) := fun h => by
      obtain ⟨p, _, rfl⟩ := List.mem_map.1 h
      exact ⟨⟨k, by omega, rfl⟩, fun hd => by cases hd⟩
    unfold serve1 at hx
    cases hf : idxTo (freshL (serveTo l first ls k).1 (first + k)) (ls.getD k default) with
    | none =>
      rw [hf] at hx
      rcases List.mem_append.1 hx with h | h
      · exact hold h
      · exact hgone h
    | some i =>
      rw [hf] at hx
      rcases List.mem_append.1 hx with h | h
      · rcases List.mem_append.1 h with h | h
        · exact hold h
        · exact hgone h
      · rw [List.mem_singleton] at h
        subst h
        exact ⟨⟨k, by omega, rfl⟩, fun _ => ⟨k, _, by omega, ⟨i, hf, rfl⟩, rfl⟩⟩
theorem Dep.mem {t : Nat} {p : Pk} (h : Dep l first ls t p) : p ∈ freshL (SL l first ls t) (first + t) ∧ p.to = ls.getD t default := by
  obtain ⟨i, h1, rfl⟩ := h
  obtain ⟨h2, h3, _⟩ := fstO_some h1
  exact ⟨getD_mem h2, of_decide_eq_true h3⟩
theorem Dep.fresh {t : Nat} {p : Pk} (h : Dep l first ls t p) : staleB p (first + t) = false ∧ p ∈ SL l first ls t := by
  have h1 := List.mem_filter.1 h.mem.1
  exact ⟨by simpa using h1.2, h1.1⟩
theorem SL_last {k : Nat} {p : Pk} (h : p ∈ SL l first ls (k + 1)) : staleB p (first + k) = false := by
  have := (List.mem_filter.1 ((SL_fresh k).subset h)).2
  simpa using this
theorem id_inj (hok : OkQ lim l) {x y : Pk} (hx : x ∈ l) (hy : y ∈ l) (h : x.id = y.id) : x = y := by
  obtain ⟨i, hi, rfl⟩ := List.getElem_of_mem hx
  obtain ⟨j, hj, rfl⟩ := List.getElem_of_mem hy
  have hp := List.pairwise_iff_getElem.1 hok.pair
  rcases Nat.lt_trichotomy i j with h1 | h1 | h1
  · exact absurd h (hp i j hi hj h1).1
  · subst h1; rfl
  · exact absurd h.symm (hp j i hj hi h1).1
theorem SL_in (k : Nat) : (SL l first ls k).Sublist l := SL_mono (j := 0) (Nat.zero_le _)
theorem mem_SL (hok : OkQ lim l) {p : Pk} (hp : p ∈ l) {k : Nat} (h : p.id ∈ idsP (SL l first ls k)) : p ∈ SL l first ls k := by
  obtain ⟨x, hx, e⟩ := List.mem_map.1 h
  rw [← id_inj hok ((SL_in k).subset hx) hp e]
  exact hx
theorem left_or (hok : OkQ lim l) {p : Pk} (hp : p ∈ l) (k : Nat) : p ∈ SL l first ls k ∨ p.id ∈ idsD (SD l first ls k) := by
  have := (serveTo_perm l first ls k).mem_iff.2 (List.mem_map.2 ⟨p, hp, rfl⟩ : p.id ∈ idsP l)
  rcases List.mem_append.1 this with h | h
  · exact .inl (mem_SL hok hp h)
  · exact .inr h
theorem ids_nodup (hok : OkQ lim l) (k : Nat) : (idsP (SL l first ls k) ++ idsD (SD l first ls k)).Nodup := (serveTo_perm l first ls k).nodup_iff.2 hok.nodup
theorem dep_inj (hok : OkQ lim l) {k : Nat} {i j : Nat} (hi : i < (SD l first ls k).length) (hj : j < (SD l first ls k).length) (h : ((SD l first ls k).getD i default).id = ((SD l first ls k).getD j default).id) : i = j := by
  have hn := (List.nodup_append.1 (ids_nodup (first := first) (ls := ls) hok k)).2.1
  have hp := List.pairwise_iff_getElem.1 hn
  have hli : i < (idsD (SD l first ls k)).length := by simpa [idsD] using hi
  have hlj : j < (idsD (SD l first ls k)).length := by simpa [idsD] using hj
  have ei : (idsD (SD l first ls k))[i] = ((SD l first ls k).getD i default).id := by simp [idsD, List.getD_eq_getElem?_getD, List.getElem?_eq_getElem hi]
  have ej : (idsD (SD l first ls k))[j] = ((SD l first ls k).getD j default).id := by simp [idsD, List.getD_eq_getElem?_getD, List.getElem?_eq_getElem hj]
  rcases Nat.lt_trichotomy i j with h1 | h1 | h1
  · exact absurd (by rw [ei, ej]; exact h) (hp i j hli hlj h1)
  · exact h1
  · exact absurd (by rw [ei, ej]; exact h.symm) (hp j i hlj hli h1)
/-- x stands in front of y. -/
def Bef (l : List Pk) (x y : Pk) : Prop := ∃ i j, i < j ∧ j < l.length ∧ l.getD i default = x ∧ l.getD j default = y
theorem bef_pair {m : List Pk} (h : m.Sublist l) : m.Pairwise (Bef l) := by
  refine List.Pairwise.sublist h ?_
  rw [List.pairwise_iff_getElem]
  exact fun i j hi hj hij => ⟨i, j, hij, hj, getD_el hi, getD_el hj⟩
theorem bef_ne (hok : OkQ lim l) {i j : Nat} (hi : i < l.length) (hj : j < l.length) : l.getD i default = l.getD j default → i = j := fun h => by
  have hp := List.pairwise_iff_getElem.1 hok.pair
  rw [getD_el hi, getD_el hj] at h
  rcases Nat.lt_trichotomy i j with h1 | h1 | h1
  · exact absurd (congrArg Pk.id h) (hp i j hi hj h1).1
  · exact h1
  · exact absurd (congrArg Pk.id h.symm) (hp j i hj hi h1).1
theorem first_bef {m : List Pk} (h : m.Sublist l) {to : Int} {i : Nat} (hf : idxTo m to = some i) {x : Pk} (hx : x ∈ m) (hto : x.to = to) : m.getD i default = x ∨ Bef l (m.getD i default) x := by
  obtain ⟨h1, _, h3⟩ := fstO_some hf
  obtain ⟨j, hj, rfl⟩ := mem_getD hx
  rcases Nat.lt_trichotomy i j with h4 | h4 | h4
  · refine .inr ?_
    rw [getD_el h1, getD_el hj]
    exact List.pairwise_iff_getElem.1 (bef_pair h) i j h1 hj h4
  · subst h4; exact .inl rfl
  · exact absurd hto (of_decide_eq_false (h3 j h4))
theorem fresh_in (k : Nat) : (freshL (SL l first ls k) (first + k)).Sublist l := (List.filter_sublist).trans (SL_in k)
theorem dep_order (hok : OkQ lim l) {i j ti tj : Nat} (hij : i < j) (hj : j < l.length) (hi' : Dep l first ls ti (l.getD i default)) (hj' : Dep l first ls tj (l.getD j default)) (hto : (l.getD i default).to = (l.getD j default).to) : ti < tj := by
  rcases Nat.lt_or_ge ti tj with h | h
  · exact h
  exfalso
  have hpi : l.getD i default ∈ SL l first ls tj := (SL_mono h).subset hi'.fresh.2
  have hst : staleB (l.getD i default) (first + tj) = false := by
    rcases Nat.lt_or_ge tj ti with h1 | h1
    · exact SL_last ((SL_mono (show tj + 1 ≤ ti by omega)).subset hi'.fresh.2)
    · have : ti = tj := by omega
      subst this; exact hi'.fresh.1
  have hmem : l.getD i default ∈ freshL (SL l first ls tj) (first + tj) := List.mem_filter.2 ⟨hpi, by rw [hst]; rfl⟩
  have hto2 := hj'.mem.2
  obtain ⟨a, h1, h2⟩ := hj'
  rcases first_bef (fresh_in tj) h1 hmem (by rw [hto, hto2]) with h3 | ⟨a', b', h4, h5, h6, h7⟩
  · rw [h2] at h3
    have := bef_ne hok hj (by omega) h3
    omega
  · rw [h2] at h6
    have e1 := bef_ne hok (show a' < l.length by omega) hj h6
    have e2 := bef_ne hok h5 (show i < l.length by omega) h7
    omega

theorem mem_take {m : List Pk} {i : Nat} {x : Pk} : x ∈ m.take i ↔ ∃ k, k < i ∧ k < m.length ∧ x = m.getD k default := by
  refine ⟨mem_take_getD, fun ⟨k, h1, h2, h3⟩ => ?_⟩
  subst h3
  rw [getD_el h2]
  exact List.mem_iff_getElem.2 ⟨k, by rw [List.length_take]; omega, List.getElem_take⟩

/-! The bound. -/
def inB (l : List Pk) (to : Int) (k0 : Nat) (x : Pk) : Bool := decide (x.to = to) && decide (x.id ∈ idsP (l.take (k0 + 1)))
def cntB (l : List Pk) (to : Int) (k0 : Nat) (m : List Pk) : Nat := (m.filter (inB l to k0)).length
theorem cntB_sub {to : Int} {k0 : Nat} {m m' : List Pk} (h : m.Sublist m') : cntB l to k0 m ≤ cntB l to k0 m' := (h.filter _).length_le
theorem cntB_erase {to : Int} {k0 : Nat} {m : List Pk} {i : Nat} (hi : i < m.length) (h : inB l to k0 (m.getD i default) = true) : cntB l to k0 (m.eraseIdx i) + 1 = cntB l to k0 m := by
  have e : m.eraseIdx i = m.take i ++ m.drop (i + 1) := List.eraseIdx_eq_take_drop_succ ..
  unfold cntB
  conv => rhs; rw [← List.take_append_drop i m, drop_cons hi, List.filter_append, List.filter_cons_of_pos h]
  rw [e, List.filter_append, List.length_append, List.length_append, List.length_cons]; omega
theorem cntB_zero (hok : OkQ lim l) {k0 : Nat} (h0 : k0 < l.length) : cntB l (l.getD k0 default).to k0 l ≤ aheadN l k0 + 1 := by
  have hp := hok.nodup
  have e1 : (l.drop (k0 + 1)).filter (inB l (l.getD k0 default).to k0) = [] := by
    rw [List.filter_eq_nil_iff]
    intro x hx
    have : x.id ∉ idsP (l.take (k0 + 1)) := fun hm => by
      have e : idsP l = idsP (l.take (k0 + 1)) ++ idsP (l.drop (k0 + 1)) := by unfold idsP; rw [← List.map_append, List.take_append_drop]
      rw [e] at hp
      exact (List.nodup_append.1 hp).2.2 _ hm _ (List.mem_map.2 ⟨x, hx, rfl⟩) rfl
    simp [inB, this]
  have e2 : cntB l (l.getD k0 default).to k0 l = ((l.take (k0 + 1)).filter (inB l (l.getD k0 default).to k0)).length := by
    unfold cntB
    conv => lhs; rw [← List.take_append_drop (k0 + 1) l]
    rw [List.filter_append, List.length_append]
    rw [List.take_append_drop]
    rw [e1]; simp
  rw [e2, filter_take h0, List.length_append]
  have e3 : ((l.take k0).filter (inB l (l.getD k0 default).to k0)).length ≤ aheadN l k0 := by
    unfold aheadN
    rw [← List.countP_eq_length_filter, ← List.countP_eq_length_filter]
    refine List.countP_mono_left fun x _ h => ?_
    simp only [inB, Bool.and_eq_true] at h
    exact h.1
  have : (if inB l (l.getD k0 default).to k0 (l.getD k0 default) = true then [l.getD k0 default] else []).length ≤ 1 := by split <;> simp
  omega
theorem cntB_step (hok : OkQ lim l) {k0 t : Nat} (h0 : k0 < l.length) (hs : ls.getD t default = (l.getD k0 default).to) (hm : l.getD k0 default ∈ SL l first ls (t + 1)) :
    cntB l (l.getD k0 default).to k0 (SL l first ls (t + 1)) + 1 ≤ cntB l (l.getD k0 default).to k0 (SL l first ls t) := by
  have hmf : l.getD k0 default ∈ freshL (SL l first ls t) (first + t) := (SL_fresh t).subset hm
  have hsub : (freshL (SL l first ls t) (first + t)).Sublist (SL l first ls t) := List.filter_sublist
  cases hf : idxTo (freshL (SL l first ls t) (first + t)) (ls.getD t default) with
  | none => exact absurd hs.symm (by have := fstO_notmem hf _ hmf; exact of_decide_eq_false this)
  | some i =>
    have e : SL l first ls (t + 1) = (freshL (SL l first ls t) (first + t)).eraseIdx i := by
      show (serve1 _ _ _ _).1 = _
      unfold serve1
      show (match idxTo (freshL (SL l first ls t) (first + t)) (ls.getD t default) with
        | none => (freshL (SL l first ls t) (first + t), _)
        | some i => ((freshL (SL l first ls t) (first + t)).eraseIdx i, _)).1 = _
      rw [hf]
    obtain ⟨h1, h2, _⟩ := fstO_some hf
    rw [e]
    have := cntB_erase (l := l) (to := (l.getD k0 default).to) (k0 := k0) h1 ?_
    · have := cntB_sub (l := l) (to := (l.getD k0 default).to) (k0 := k0) hsub
      omega
    · have hlt : (freshL (SL l first ls t) (first + t)).getD i default ∈ l.take (k0 + 1) := by
        rcases first_bef (fresh_in t) hf hmf hs.symm with h3 | ⟨a, b, h4, h5, h6, h7⟩
        · rw [h3]
          exact mem_take.2 ⟨k0, by omega, h0, rfl⟩
        · have e2 := bef_ne hok h5 h0 h7
          rw [← h6]
          exact mem_take.2 ⟨a, by omega, by omega, rfl⟩
      have h4 := of_decide_eq_true h2
      simp only [inB, Bool.and_eq_true, decide_eq_true_eq]
      exact ⟨by rw [h4, hs], List.mem_map.2 ⟨_, hlt, rfl⟩⟩
/-- Each of every successive services has one for the neighbour. -/
def steadyB (l : List Int) (to : Int) (e : Nat) : Bool := (List.range (l.length + 1 - e)).all fun i => ((l.drop i).take e).any fun y => decide (to = y)
theorem steady_at {m : List Int} {to : Int} {e i : Nat} (h : steadyB m to e = true) (hi : i + e ≤ m.length) : ∃ t, i ≤ t ∧ t < i + e ∧ m.getD t default = to := by
  have := List.all_eq_true.1 h i (List.mem_range.2 (by omega))
  obtain ⟨y, hy, e1⟩ := List.any_eq_true.1 this
  obtain ⟨j, hj, rfl⟩ := List.getElem_of_mem hy
  rw [List.length_take, List.length_drop] at hj
  refine ⟨i + j, by omega, by omega, ?_⟩
  rw [of_decide_eq_true e1, List.getElem_take, List.getElem_drop, List.getD_eq_getElem?_getD, List.getElem?_eq_getElem (by omega)]
  rfl
theorem in_time (hok : OkQ lim l) {k0 e : Nat} (h0 : k0 < l.length) (hb : e * (aheadN l k0 + 1) ≤ ls.length) (hst : steadyB (ls.take (e * (aheadN l k0 + 1))) (l.getD k0 default).to e = true) :
    l.getD k0 default ∉ SL l first ls (e * (aheadN l k0 + 1)) := by
  intro hm
  have key : ∀ j, j ≤ aheadN l k0 + 1 → cntB l (l.getD k0 default).to k0 (SL l first ls (e * j)) + j ≤ aheadN l k0 + 1 := by
    intro j
    induction j with
    | zero => intro _; exact cntB_zero hok h0
    | succ j ih =>
      intro hj
      have ih := ih (by omega)
      have hle : e * (j + 1) ≤ e * (aheadN l k0 + 1) := Nat.mul_le_mul_left _ hj
      have hmul : e * (j + 1) = e * j + e := Nat.mul_succ e j
      obtain ⟨t, h1, h2, h3⟩ := steady_at hst (i := e * j) (by rw [List.length_take]; omega)
      have h3 : ls.getD t default = (l.getD k0 default).to := by
        rw [← h3, List.getD_eq_getElem?_getD, List.getD_eq_getElem?_getD, List.getElem?_take_of_lt (by omega)]
      have h4 := cntB_step (first := first) (ls := ls) hok h0 h3 ((SL_mono (show t + 1 ≤ e * (aheadN l k0 + 1) by omega)).subset hm)
      have h5 := cntB_sub (l := l) (to := (l.getD k0 default).to) (k0 := k0) (SL_mono (l := l) (first := first) (ls := ls) h1)
      have h6 := cntB_sub (l := l) (to := (l.getD k0 default).to) (k0 := k0) (SL_mono (l := l) (first := first) (ls := ls) (show t + 1 ≤ e * (j + 1) by omega))
      omega
  have := key (aheadN l k0 + 1) (Nat.le_refl _)
  have hpos : 0 < cntB l (l.getD k0 default).to k0 (SL l first ls (e * (aheadN l k0 + 1))) := by
    unfold cntB
    refine List.length_pos_of_mem (List.mem_filter.2 ⟨hm, ?_⟩)
    simp only [inB, Bool.and_eq_true, decide_eq_true_eq, true_and]
    exact List.mem_map.2 ⟨_, mem_take.2 ⟨k0, by omega, h0, rfl⟩, rfl⟩
  omega
end
end Go.Proofs


