/-
  What functions of the given program hand back, by walks over its code, and plain laws on that. No condition.
-/
import Derived.Test.YtiikkppedglpjaaSxP16w
namespace Go.Proofs
open Go Go.Sx

/-! ## What a mask says -/
theorem bitB_test (n o : Nat) : bitB n o = n.testBit o := by
  rw [Nat.testBit_eq_decide_div_mod_eq, bitB, Int.toNat_natCast, Int.toNat_natCast]
theorem clr_bit {n a o : Nat} (hn : n < 65536) (ha : a < 16) (ho : o < 16) : (if n / 2 ^ a % 2 = 1 then n - 2 ^ a else n).testBit o = (n.testBit o && decide (o ≠ a)) := by
  have hp : 2 ^ a ≤ 2 ^ 15 := Nat.pow_le_pow_right (by decide) (by omega)
  have e : (BitVec.ofNat 64 n &&& ~~~BitVec.ofNat 64 (2 ^ a)).toNat = if n / 2 ^ a % 2 = 1 then n - 2 ^ a else n := by
    rw [bv_andNot, BitVec.toNat_sub, BitVec.toNat_and, BitVec.toNat_ofNat, BitVec.toNat_ofNat, Nat.mod_eq_of_lt (a := n) (by omega), Nat.mod_eq_of_lt (a := 2 ^ a) (by omega), and_pow]
    split
    · rename_i h
      have : 2 ^ a ≤ n := by
        rcases Nat.lt_or_ge n (2 ^ a) with h1 | h1
        · rw [Nat.div_eq_of_lt h1] at h; cases h
        · exact h1
      generalize 2 ^ a = p at *
      omega
    · omega
  rw [← e, BitVec.testBit_toNat, BitVec.getLsbD_and, BitVec.getLsbD_not, BitVec.getLsbD_ofNat, BitVec.getLsbD_ofNat, Nat.testBit_two_pow]
  rw [decide_eq_true (show o < 64 by omega)]
  cases n.testBit o <;> simp [eq_comm]
theorem clr1_bit {n a : Int} {o : Nat} (hn : 0 ≤ n ∧ n < 65536) (ha : 0 ≤ a ∧ a < 16) (ho : o < 16) : bitB (clr1 n a) o = (bitB n o && decide ((o : Int) ≠ a)) := by
  obtain ⟨m, rfl⟩ : ∃ m : Nat, n = m := ⟨n.toNat, by omega⟩
  obtain ⟨b, rfl⟩ : ∃ b : Nat, a = b := ⟨a.toNat, by omega⟩
  have h := clr_bit (n := m) (a := b) (o := o) (by omega) (by omega) ho
  have e : clr1 m b = ((if m / 2 ^ b % 2 = 1 then m - 2 ^ b else m : Nat) : Int) := by
    unfold clr1
    rw [Int.toNat_natCast, Int.toNat_natCast]
    split
    · rename_i hb
      have : 2 ^ b ≤ m := by
        rcases Nat.lt_or_ge m (2 ^ b) with h1 | h1
        · rw [Nat.div_eq_of_lt h1] at hb; cases hb
        · exact h1
      rw [Int.natCast_sub this]; simp
    · rfl
  rw [e, bitB_test, bitB_test, h]
  congr 1
  rw [decide_eq_decide]; omega
theorem maskTo_bit {s : Sch} (hs : rightS s = true) {k : Nat} (hk : k ≤ s.cells.length) (i o : Nat) (hi : i < s.len.toNat) (ho : o < 16) :
    bitB ((maskTo s k).getD i default) o = (decide ((o : Int) < s.offs) && !((s.cells.take k).any fun c => decide (c.slot = i ∧ c.offset = o))) := by
  obtain ⟨b1, b2, b3, b4, b5, b6⟩ := right_ok hs
  induction k with
  | zero =>
    have e : (maskTo s 0).getD i default = ((2 ^ s.offs.toNat - 1 : Nat) : Int) := by
      have h1 : 1 ≤ 2 ^ s.offs.toNat := Nat.one_le_two_pow
      simp only [maskTo, List.take_zero, List.foldl_nil, List.getD_eq_getElem?_getD, List.getElem?_replicate, hi, if_true, Option.getD_some]
      rw [Int.natCast_sub h1]; simp
    rw [e, bitB_test, Nat.testBit_two_pow_sub_one]
    simp only [List.take_zero, List.any_nil, Bool.not_false, Bool.and_true]
    rw [decide_eq_decide]; omega
  | succ k ih =>
    have ih := ih (by omega)
    have hr := maskTo_range hs (k := k) (by omega)
    have hb := badC_f.1 (b6 k (by omega))
    rw [maskTo_succ (by omega), take_getD (by omega), List.any_append, List.any_cons, List.any_nil, Bool.or_false]
    rw [List.getD_eq_getElem?_getD, List.getElem?_set, maskTo_len]
    generalize s.cells.getD k default = c at hb ⊢
    split
    · rename_i hci
      rw [if_pos (by omega), Option.getD_some, clr1_bit (hr _ (by omega)) (by omega) ho, hci, ih]
      have : (c.slot = i ∧ c.offset = o) ↔ (o : Int) = c.offset := by omega
      by_cases hco : (o : Int) = c.offset
      · rw [decide_eq_true (this.2 hco), decide_eq_false (by omega : ¬ (o : Int) ≠ c.offset)]; simp
      · rw [decide_eq_false (fun h => hco (this.1 h)), decide_eq_true hco]; simp
    · rename_i hci
      rw [← List.getD_eq_getElem?_getD, ih, decide_eq_false (by omega : ¬ (c.slot = i ∧ c.offset = o))]; simp

/-! ## How many cells the tables have -/
def cntN (s : Sch) (k : Nat) (i : Nat) : Nat := ((s.cells.take k).filter fun c => decide (c.frm = (i : Int) ∨ c.to = (i : Int))).length
theorem ofTo_cnt {s : Sch} {i : Nat} : ∀ {k : Nat} {l : List TC}, k ≤ s.cells.length → ofTo i s k = some l → l.length = cntN s k i
  | 0, l, _, h => by injection h with h; subst h; rfl
  | k + 1, l, hk, h => by
    unfold ofTo at h
    split at h
    · cases h
    · rename_i l0 h0
      have ih := ofTo_cnt (by omega) h0
      unfold cntN
      rw [filter_take (by omega)]
      split at h
      · rename_i hc
        injection h with h; subst h
        rw [if_neg, List.append_nil]
        · exact ih
        · unfold ofCell at hc
          split at hc
          · cases hc
          · split at hc
            · cases hc
            · rename_i h1 h2; rw [decide_eq_true_eq]; rintro (h | h)
              · exact h1 h
              · exact h2 h
      · rename_i x hc
        split at h
        · cases h
        · injection h with h; subst h
          rw [ins_len, ih, if_pos, List.length_append]
          · rfl
          · unfold ofCell at hc
            split at hc
            · rename_i h1; exact decide_eq_true (.inl h1)
            · split at hc
              · rename_i h1 h2; exact decide_eq_true (.inr h2)
              · cases hc
theorem sum_add (f g : Nat → Nat) (n : Nat) : ((List.range n).map fun i => f i + g i).sum = ((List.range n).map f).sum + ((List.range n).map g).sum := by
  induction n with
  | zero => rfl
  | succ n ih => simp only [List.range_succ, List.map_append, List.sum_append, ih, List.map_cons, List.map_nil, List.sum_cons, List.sum_nil]; omega
theorem sum_zero (n : Nat) : ((List.range n).map fun _ => 0).sum = 0 := by
  induction n with
  | zero => rfl
  | succ n ih => simp only [List.range_succ, List.map_append, List.sum_append, ih, List.map_cons, List.map_nil, List.sum_cons, List.sum_nil]; rfl
theorem sum_one (a n : Nat) (h : a < n) : ((List.range n).map fun i => if a = i then 1 else 0).sum = 1 := by
  induction n with
  | zero => omega
  | succ n ih =>
    simp only [List.range_succ, List.map_append, List.sum_append, List.map_cons, List.map_nil, List.sum_cons, List.sum_nil]
    by_cases ha : a = n
    · subst ha
      have : ((List.range a).map fun i => if a = i then 1 else 0) = (List.range a).map fun _ => 0 := List.map_congr_left fun i hi => if_neg (by have := List.mem_range.1 hi; omega)
      rw [this, sum_zero, if_pos rfl]; rfl
    · rw [ih (by omega), if_neg ha]; rfl
theorem sum_cnt {s : Sch} (hs : rightS s = true) {k : Nat} (hk : k ≤ s.cells.length) {N : Nat} (hN : 32 ≤ N) : ((List.range N).map (cntN s k)).sum = 2 * k := by
  obtain ⟨b1, b2, b3, b4, b5, b6⟩ := right_ok hs
  induction k with
  | zero =>
    have : cntN s 0 = fun _ => 0 := by funext i; rfl
    rw [this, sum_zero]
  | succ k ih =>
    have ih := ih (by omega)
    have hb := badC_f.1 (b6 k (by omega))
    have e : (List.range N).map (cntN s (k + 1)) = (List.range N).map fun i => cntN s k i + ((if (s.cells.getD k default).frm.toNat = i then 1 else 0) + if (s.cells.getD k default).to.toNat = i then 1 else 0) := by
      refine List.map_congr_left fun i hi => ?_
      unfold cntN
      rw [filter_take (by omega), List.length_append]
      generalize s.cells.getD k default = c at hb ⊢
      congr 1
      by_cases h1 : c.frm = i
      · rw [if_pos (by simp [h1]), if_pos (by omega), if_neg (by omega)]; rfl
      · by_cases h2 : c.to = i
        · rw [if_pos (by simp [h2]), if_neg (by omega), if_pos (by omega)]; rfl
        · rw [if_neg (by simp [h1, h2]), if_neg (by omega), if_neg (by omega)]; rfl
    rw [e, sum_add, sum_add, sum_one _ _ (by omega), sum_one _ _ (by omega), ih]
    omega
/-- The cell of a schedule that a table's cell comes from. -/
def backC (i : Int) (x : TC) : CE := if x.send = true then ⟨x.slot, x.offset, i, x.peer, x.flow⟩ else ⟨x.slot, x.offset, x.peer, i, x.flow⟩
theorem ofTo_mem {s : Sch} {i : Int} : ∀ {k : Nat} {l : List TC}, k ≤ s.cells.length → ofTo i s k = some l → ∀ x ∈ l, x.kind = 1 ∧ backC i x ∈ s.cells
  | 0, l, _, h => by injection h with h; subst h; intro x hx; cases hx
  | k + 1, l, hk, h => by
    unfold ofTo at h
    split at h
    · cases h
    · rename_i l0 h0
      have ih := ofTo_mem (by omega) h0
      split at h
      · injection h with h; subst h; exact ih
      · rename_i y hc
        split at h
        · cases h
        · injection h with h; subst h
          intro x hx
          rcases mem_ins.1 hx with e | hx
          · subst e
            have hm := getD_mem (l := s.cells) (i := k) (by omega)
            unfold ofCell at hc
            generalize s.cells.getD k default = c at hc hm
            split at hc
            · rename_i h1
              injection hc with hc; subst hc; subst h1
              exact ⟨rfl, hm⟩
            · split at hc
              · rename_i h1 h2
                injection hc with hc; subst hc; subst h2
                exact ⟨rfl, hm⟩
              · cases hc
          · exact ih x hx
theorem ofM_cases {s : Sch} (hs : rightS s = true) {i : Nat} (hi : i < 32) : (ofM s i).2 = 16 ∨ ((ofM s i).2 = 0 ∧ (ofM s i).1.cells.length = cntN s s.cells.length i ∧ ∀ x ∈ (ofM s i).1.cells, x.kind = 1 ∧ backC i x ∈ s.cells) := by
  have hn : nodeB i = true := by unfold nodeB; exact decide_eq_true (by omega)
  unfold ofM
  rw [if_neg (by rw [hs]; simp), if_neg (by rw [hn]; simp)]
  cases h : ofTo i s s.cells.length with
  | none => exact .inl rfl
  | some l => exact .inr ⟨rfl, ofTo_cnt (Nat.le_refl _) h, ofTo_mem (Nat.le_refl _) h⟩
theorem cntN_le (s : Sch) (k i : Nat) : cntN s k i ≤ s.cells.length := by
  have := List.length_filter_le (fun c : CE => decide (c.frm = (i : Int) ∨ c.to = (i : Int))) (s.cells.take k)
  rw [List.length_take] at this
  unfold cntN; omega
end Go.Proofs


