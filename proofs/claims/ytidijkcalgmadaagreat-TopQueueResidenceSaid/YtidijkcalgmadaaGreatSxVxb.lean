/-
  What functions of the given program hand back, by walks over its code, and plain laws on that. No condition.
-/
import Derived.Test.YtidijkcalgmadaaGreatSxVxa
namespace Go.Proofs
open Go Go.Sx Go.Proofs.T Go.Proofs.Q
set_option linter.unusedVariables false
set_option linter.unusedSimpArgs false

/-! How many packets for the node 2 are ahead of one. -/
def twB (a : Int) (y : Pk) : Bool := decide (y.id ≠ a)
def to2 (y : Pk) : Bool := decide (y.to = 2)
def ahA (l : List Pk) (a : Int) : Nat := ((l.takeWhile (twB a)).filter to2).length
theorem tw_filter {p : Pk → Bool} (a : Int) : ∀ (l : List Pk), (∀ y ∈ l, y.id = a → p y = true) → (l.filter p).takeWhile (twB a) = (l.takeWhile (twB a)).filter p
  | [], _ => rfl
  | y :: l, h => by
    have ih := tw_filter (p := p) a l fun z hz => h z (List.mem_cons_of_mem _ hz)
    by_cases hy : y.id = a
    · have hp := h y (List.mem_cons_self ..) hy
      have ht : twB a y = false := by simp [twB, hy]
      rw [List.filter_cons_of_pos hp, List.takeWhile_cons, List.takeWhile_cons, ht]
      rfl
    · have ht : twB a y = true := by simp [twB, hy]
      rw [List.takeWhile_cons (a := y) (l := l), ht]
      cases hp : p y with
      | true =>
        rw [List.filter_cons_of_pos hp, List.takeWhile_cons, ht, if_pos rfl, if_pos rfl, List.filter_cons_of_pos hp, ih]
      | false =>
        rw [List.filter_cons_of_neg (by rw [hp]; simp), if_pos rfl, List.filter_cons_of_neg (by rw [hp]; simp), ih]
theorem ah_filter_le {p : Pk → Bool} {l : List Pk} {a : Int} (h : ∀ y ∈ l, y.id = a → p y = true) : ahA (l.filter p) a ≤ ahA l a := by
  unfold ahA
  rw [tw_filter a l h, List.filter_filter]
  have e : (l.takeWhile (twB a)).filter (fun x => to2 x && p x) = ((l.takeWhile (twB a)).filter to2).filter p := by
    rw [List.filter_filter]
    exact congrArg (fun f => List.filter f _) (funext fun x => Bool.and_comm ..)
  rw [e]
  exact List.length_filter_le _ _
theorem first_tw {l : List Pk} {a : Int} {i : Nat} (hf : idxTo l 2 = some i) (hu : ∀ y ∈ l, y.id = a → y.to = 2) (hne : (l.getD i default).id ≠ a) : l.getD i default ∈ (l.takeWhile (twB a)).filter to2 := by
  obtain ⟨hi, h1, h2⟩ := fstO_some hf
  have h1 := of_decide_eq_true h1
  refine List.mem_filter.2 ⟨?_, decide_eq_true h1⟩
  have e : l = l.take i ++ l.getD i default :: l.drop (i + 1) := by
    conv => lhs; rw [← List.take_append_drop i l, drop_cons hi]
  have ht : twB a (l.getD i default) = true := by simp only [twB]; exact decide_eq_true hne
  have hall : ∀ y ∈ l.take i, twB a y = true := by
    intro y hy
    obtain ⟨k, hk, hkl, rfl⟩ := mem_take_getD hy
    refine decide_eq_true fun he => ?_
    have := hu _ (getD_mem hkl) he
    exact of_decide_eq_false (h2 k hk) this
  have key : l.takeWhile (twB a) = l.take i ++ l.getD i default :: (l.drop (i + 1)).takeWhile (twB a) := by
    conv => lhs; rw [e]
    rw [List.takeWhile_append_of_pos hall, List.takeWhile_cons, ht]
    rfl
  rw [key]
  exact List.mem_append_right _ (List.mem_cons_self ..)
theorem ah_serve {l : List Pk} {a : Int} {i : Nat} (hf : idxTo l 2 = some i) (hu : ∀ y ∈ l, y.id = a → y.to = 2) (hne : (l.getD i default).id ≠ a) :
    ahA (l.filter fun x => decide (x.id ≠ (l.getD i default).id)) a + 1 ≤ ahA l a := by
  have hm := first_tw hf hu hne
  unfold ahA
  rw [tw_filter (p := fun x => decide (x.id ≠ (l.getD i default).id)) a l fun y _ hy => decide_eq_true fun e => hne (e.symm.trans hy), List.filter_filter]
  have e : (l.takeWhile (twB a)).filter (fun x => to2 x && decide (x.id ≠ (l.getD i default).id)) = ((l.takeWhile (twB a)).filter to2).filter fun x => decide (x.id ≠ (l.getD i default).id) := by
    rw [List.filter_filter]
    exact congrArg (fun f => List.filter f _) (funext fun x => Bool.and_comm ..)
  rw [e]
  have := List.length_filter_lt_length_iff_exists (l := (l.takeWhile (twB a)).filter to2) (p := fun x => decide (x.id ≠ (l.getD i default).id))
  exact this.2 ⟨_, hm, by simp⟩

/-! A run of slots. -/
def stepL (l : List Pk) (slot : Int) (sv : Bool) : List Pk := if sv = true then match idxTo (freshL l slot) 2 with
    | none => freshL l slot
    | some i => (freshL l slot).filter fun x => decide (x.id ≠ ((freshL l slot).getD i default).id)
  else freshL l slot
theorem stepL_sub (l : List Pk) (slot : Int) (sv : Bool) : (stepL l slot sv).Sublist (freshL l slot) := by
  unfold stepL
  split
  · split
    · exact List.Sublist.refl _
    · exact List.filter_sublist
  · exact List.Sublist.refl _
def runL (l : List Pk) (first : Int) (srv : Nat → Bool) : Nat → List Pk
  | 0 => l
  | k + 1 => stepL (runL l first srv k) (first + k) (srv k)
def svc (srv : Nat → Bool) : Nat → Nat
  | 0 => 0
  | k + 1 => svc srv k + if srv k = true then 1 else 0
theorem runL_sub (l : List Pk) (first : Int) (srv : Nat → Bool) : ∀ k, (runL l first srv k).Sublist l
  | 0 => List.Sublist.refl _
  | k + 1 => ((stepL_sub _ _ _).trans List.filter_sublist).trans (runL_sub l first srv k)
theorem run_ahead {l : List Pk} {first : Int} {srv : Nat → Bool} {x : Pk} (hx2 : x.to = 2) (huq : ∀ y ∈ l, y.id = x.id → y = x) : ∀ k, x ∈ runL l first srv k → ahA (runL l first srv k) x.id + svc srv k ≤ ahA l x.id
  | 0, _ => Nat.le_refl _
  | k + 1, h => by
    have hfr : x ∈ freshL (runL l first srv k) (first + k) := (stepL_sub _ _ _).subset h
    have hk : x ∈ runL l first srv k := List.filter_sublist.subset hfr
    have ih := run_ahead hx2 huq k hk
    have huk : ∀ y ∈ runL l first srv k, y.id = x.id → y = x := fun y hy => huq y ((runL_sub l first srv k).subset hy)
    have hle : ahA (freshL (runL l first srv k) (first + k)) x.id ≤ ahA (runL l first srv k) x.id := ah_filter_le fun y hy he => by
      have := huk y hy he
      subst this
      exact (List.mem_filter.1 hfr).2
    have huf : ∀ y ∈ freshL (runL l first srv k) (first + k), y.id = x.id → y.to = 2 := fun y hy he => by rw [huk y (List.filter_sublist.subset hy) he]; exact hx2
    show ahA (stepL (runL l first srv k) (first + k) (srv k)) x.id + (svc srv k + if srv k = true then 1 else 0) ≤ _
    have h' : x ∈ stepL (runL l first srv k) (first + k) (srv k) := h
    unfold stepL at h' ⊢
    by_cases hs : srv k = true
    · rw [if_pos hs] at h' ⊢
      rw [if_pos hs]
      cases hf : idxTo (freshL (runL l first srv k) (first + k)) 2 with
      | none =>
        have := fstO_notmem hf x hfr
        simp [hx2] at this
      | some i =>
        rw [hf] at h'
        have hne := of_decide_eq_true (List.mem_filter.1 h').2
        have := ah_serve hf huf (fun e => hne e.symm)
        dsimp only
        omega
    · rw [if_neg hs, if_neg hs]
      omega
theorem run_life {l : List Pk} {first : Int} {srv : Nat → Bool} {x : Pk} (hb : 0 ≤ x.born ∧ x.born ≤ 1099511627776) (hf : 0 ≤ first ∧ first ≤ 255) {k : Nat} (hk : k < 200) (h : x ∈ runL l first srv (k + 1)) : first + k < x.born + x.life := by
  have hfr : x ∈ freshL (runL l first srv k) (first + k) := (stepL_sub _ _ _).subset h
  have hns := (List.mem_filter.1 hfr).2
  have hw : IntKind.i64.wrap (first + (k : Int) - x.born) = first + (k : Int) - x.born := wrap_i64 (by omega)
  simp only [staleB, hw, Bool.not_eq_true', Bool.and_eq_false_iff, decide_eq_false_iff_not] at hns
  omega
theorem svc_add (srv : Nat → Bool) (a : Nat) : ∀ b, svc srv (a + b) ≥ svc srv a
  | 0 => Nat.le_refl _
  | b + 1 => by
    have := svc_add srv a b
    show svc srv (a + b) + _ ≥ _
    omega
theorem svc_hit {srv : Nat → Bool} {a j : Nat} (h : srv (a + j) = true) : svc srv (a + (j + 1)) ≥ svc srv a + 1 := by
  have := svc_add srv a j
  show svc srv (a + j) + (if srv (a + j) = true then 1 else 0) ≥ _
  rw [if_pos h]; omega
/-- If each window of g slots has a service, then g * n slots have n. -/
theorem svc_win {srv : Nat → Bool} {g : Nat} (h : ∀ m, ∃ j, j < g ∧ srv (m + j) = true) : ∀ n, svc srv (g * n) ≥ n
  | 0 => Nat.zero_le _
  | n + 1 => by
    have ih := svc_win h n
    obtain ⟨j, hj, hs⟩ := h (g * n)
    have h1 := svc_hit hs
    have h2 := svc_add srv (g * n + (j + 1)) (g - (j + 1))
    have e : g * n + (j + 1) + (g - (j + 1)) = g * (n + 1) := by rw [Nat.mul_succ]; omega
    rw [e] at h2
    omega
/-- A packet for the node 2 is gone behind the slots of its bound. -/
theorem run_bound {l : List Pk} {first : Int} {srv : Nat → Bool} {x : Pk} {g : Nat} (hx2 : x.to = 2) (huq : ∀ y ∈ l, y.id = x.id → y = x) (hw : ∀ m, ∃ j, j < g ∧ srv (m + j) = true) {k : Nat} (h : x ∈ runL l first srv k) : k < g * (ahA l x.id + 1) := by
  have h1 := run_ahead hx2 huq k h
  have h2 := svc_win hw (ahA l x.id + 1)
  rcases Nat.lt_or_ge k (g * (ahA l x.id + 1)) with h3 | h3
  · exact h3
  · have := svc_add srv (g * (ahA l x.id + 1)) (k - g * (ahA l x.id + 1))
    rw [Nat.add_sub_cancel' h3] at this
    omega
theorem ahA_aheadN {l : List Pk} {i : Nat} (hi : i < l.length) (h2 : (l.getD i default).to = 2) (hu : ∀ j, j < i → (l.getD j default).id ≠ (l.getD i default).id) : ahA l (l.getD i default).id = aheadN l i := by
  have e : l = l.take i ++ l.getD i default :: l.drop (i + 1) := by
    conv => lhs; rw [← List.take_append_drop i l, drop_cons hi]
  have hall : ∀ y ∈ l.take i, twB (l.getD i default).id y = true := by
    intro y hy
    obtain ⟨k, hk, hkl, rfl⟩ := mem_take_getD hy
    exact decide_eq_true (hu k hk)
  have hx : twB (l.getD i default).id (l.getD i default) = false := by simp [twB]
  have key : l.takeWhile (twB (l.getD i default).id) = l.take i := by
    generalize twB (l.getD i default).id = q at hall hx
    conv => lhs; rw [e]
    rw [List.takeWhile_append_of_pos hall, List.takeWhile_cons, hx, if_neg (by simp), List.append_nil]
  unfold ahA aheadN
  rw [key, h2]
  rfl
end Go.Proofs


