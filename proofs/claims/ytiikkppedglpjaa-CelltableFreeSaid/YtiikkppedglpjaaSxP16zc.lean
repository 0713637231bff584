/-
  What functions of the given program hand back, by walks over its code, and plain laws on that. No condition.
-/
import Derived.Test.YtiikkppedglpjaaSxP16w
namespace Go.Proofs
open Go Go.Sx

theorem candS_ok {t : Tb} {f : List Int} {k : Nat} {x : Spot} (h : candS t f k = some x) : fitsB t f x = true ∧ x.slot = k := by
  unfold candS at h
  rw [Option.map_eq_some_iff] at h
  obtain ⟨o, ho, rfl⟩ := h
  exact ⟨by simpa using List.find?_some ho, rfl⟩
theorem candTo_ok (t : Tb) (f : List Int) : ∀ k, (∀ x ∈ candTo t f k, fitsB t f x = true ∧ 0 ≤ x.slot ∧ x.slot < k) ∧ ∀ i j, i < j → j < (candTo t f k).length → ((candTo t f k).getD i default).slot < ((candTo t f k).getD j default).slot := by
  intro k
  induction k with
  | zero => exact ⟨fun x hx => (by cases hx), fun i j _ hj => absurd hj (by simp [candTo])⟩
  | succ k ih =>
    obtain ⟨ih1, ih2⟩ := ih
    rw [candTo_succ]
    cases hc : candS t f k with
    | none =>
      simp only [Option.toList, List.append_nil]
      exact ⟨fun x hx => by have := ih1 x hx; exact ⟨this.1, this.2.1, by omega⟩, ih2⟩
    | some y =>
      obtain ⟨h1, h2⟩ := candS_ok hc
      simp only [Option.toList]
      refine ⟨fun x hx => ?_, fun i j hij hj => ?_⟩
      · rcases List.mem_append.1 hx with hx | hx
        · have := ih1 x hx; exact ⟨this.1, this.2.1, by omega⟩
        · rw [List.mem_singleton] at hx
          subst hx
          exact ⟨h1, by omega, by omega⟩
      · rw [List.length_append, List.length_singleton] at hj
        have e1 : (candTo t f k ++ [y]).getD i default = (candTo t f k).getD i default := by
          rw [List.getD_eq_getElem?_getD, List.getElem?_append_left (by omega), ← List.getD_eq_getElem?_getD]
        rw [e1]
        rcases Nat.lt_or_ge j (candTo t f k).length with h3 | h3
        · rw [List.getD_eq_getElem?_getD (i := j), List.getElem?_append_left h3, ← List.getD_eq_getElem?_getD]; exact ih2 i j hij h3
        · have : j = (candTo t f k).length := by omega
          rw [List.getD_eq_getElem?_getD (i := j), List.getElem?_append_right (by omega), show j - (candTo t f k).length = 0 by omega]
          have := ih1 _ (getD_mem (l := candTo t f k) (i := i) (by omega))
          simp only [List.getElem?_cons_zero, Option.getD_some]
          omega
/-- Further cells are added, one after the other. -/
def adds (T : Tb) (mk : Nat → TC) : Nat → Tb
  | 0 => T
  | k + 1 => (addM (adds T mk k) (mk k)).1
structure AddsOK (T : Tb) (mk : Nat → TC) (n : Nat) : Prop where
  ck : checkT T = 0
  len : T.cells.length + n < 512
  form : ∀ k, k < n → formE (mk k) T.node T.len = 0
  free : ∀ k, k < n → ∀ x ∈ T.cells, x.slot ≠ (mk k).slot
  up : ∀ j k, j < k → k < n → (mk j).slot < (mk k).slot
theorem adds_ok {T : Tb} {mk : Nat → TC} {n : Nat} (h : AddsOK T mk n) : ∀ {k : Nat}, k ≤ n → checkT (adds T mk k) = 0 ∧ (adds T mk k).node = T.node ∧ (adds T mk k).len = T.len ∧ (adds T mk k).cells.length = T.cells.length + k ∧
    (∀ x, x ∈ (adds T mk k).cells ↔ x ∈ T.cells ∨ ∃ j, j < k ∧ x = mk j) ∧ (k < n → addM (adds T mk k) (mk k) = (adds T mk (k + 1), 0)) := by
  have step : ∀ {k : Nat}, k < n → checkT (adds T mk k) = 0 → (adds T mk k).node = T.node → (adds T mk k).len = T.len → (adds T mk k).cells.length = T.cells.length + k → (∀ x, x ∈ (adds T mk k).cells ↔ x ∈ T.cells ∨ ∃ j, j < k ∧ x = mk j) →
      addM (adds T mk k) (mk k) = (⟨(adds T mk k).node, (adds T mk k).len, insS (adds T mk k).cells (mk k)⟩, 0) := by
    intro k hk h1 h2 h3 h4 h5
    refine addM_of h1 (by rw [h2, h3]; exact h.form k hk) ((found_f (checkT_srt h1)).2 fun x hx hh => ?_) (by have := h.len; omega)
    rcases (h5 x).1 hx with hx | ⟨j, hj, rfl⟩
    · exact h.free k hk x hx hh.1
    · have := h.up j k hj hk; omega
  intro k
  induction k with
  | zero =>
    intro hk
    have b : ∀ x, x ∈ (adds T mk 0).cells ↔ x ∈ T.cells ∨ ∃ j, j < 0 ∧ x = mk j := fun x => ⟨fun hx => .inl hx, fun hx => hx.elim id fun ⟨j, hj, _⟩ => absurd hj (Nat.not_lt_zero _)⟩
    refine ⟨h.ck, rfl, rfl, rfl, b, fun h0 => ?_⟩
    have e := step h0 h.ck rfl rfl rfl b
    rw [e]
    show _ = ((addM (adds T mk 0) (mk 0)).1, 0)
    rw [e]
  | succ k ih =>
    intro hk
    obtain ⟨i1, i2, i3, i4, i5, i6⟩ := ih (by omega)
    have e := step (by omega) i1 i2 i3 i4 i5
    have e1 : adds T mk (k + 1) = ⟨(adds T mk k).node, (adds T mk k).len, insS (adds T mk k).cells (mk k)⟩ := by
      show (addM (adds T mk k) (mk k)).1 = _
      rw [e]
    have c1 : checkT (adds T mk (k + 1)) = 0 := by
      have := add_check (t := adds T mk k) (c := mk k) (by rw [e])
      exact this
    have c2 : (adds T mk (k + 1)).node = T.node := by rw [e1]; exact i2
    have c3 : (adds T mk (k + 1)).len = T.len := by rw [e1]; exact i3
    have c4 : (adds T mk (k + 1)).cells.length = T.cells.length + (k + 1) := by rw [e1]; dsimp only; rw [ins_len, i4]; omega
    have c5 : ∀ x, x ∈ (adds T mk (k + 1)).cells ↔ x ∈ T.cells ∨ ∃ j, j < k + 1 ∧ x = mk j := by
      intro x
      rw [e1]
      dsimp only
      rw [mem_ins, i5]
      constructor
      · rintro (hx | hx | ⟨j, hj, hx⟩)
        · exact .inr ⟨k, by omega, hx⟩
        · exact .inl hx
        · exact .inr ⟨j, by omega, hx⟩
      · rintro (hx | ⟨j, hj, hx⟩)
        · exact .inr (.inl hx)
        · by_cases hjk : j = k
          · subst hjk; exact .inl hx
          · exact .inr (.inr ⟨j, by omega, hx⟩)
    refine ⟨c1, c2, c3, c4, c5, fun hk1 => ?_⟩
    have e2 := step hk1 c1 c2 c3 c4 c5
    rw [e2]
    show _ = ((addM (adds T mk (k + 1)) (mk (k + 1))).1, 0)
    rw [e2]
theorem adds_at {T : Tb} {mk : Nat → TC} {n : Nat} (h : AddsOK T mk n) {k : Nat} (hk : k < n) (h0 : 0 ≤ (mk k).slot ∧ (mk k).slot < T.len) : atM (adds T mk (k + 1)) ((mk k).slot + T.len) = (mk k, true) := by
  obtain ⟨c1, c2, c3, c4, c5, _⟩ := adds_ok h (k := k + 1) (by omega)
  have hm : ((mk k).slot + T.len) % (adds T mk (k + 1)).len = (mk k).slot := by rw [c3, Int.add_emod_right, Int.emod_eq_of_lt h0.1 h0.2]
  have h1 : ∃ i, fstO (adds T mk (k + 1)).cells (fun c => decide (c.slot = (mk k).slot)) = some i := by
    cases hf : fstO (adds T mk (k + 1)).cells (fun c => decide (c.slot = (mk k).slot)) with
    | some i => exact ⟨i, rfl⟩
    | none => exact absurd rfl (of_decide_eq_false (fstO_notmem hf (mk k) ((c5 _).2 (.inr ⟨k, by omega, rfl⟩))))
  obtain ⟨i, hi⟩ := h1
  obtain ⟨hil, his, _⟩ := fstO_some hi
  have hsl := of_decide_eq_true his
  have hx := (c5 _).1 (getD_mem hil)
  rw [atM, if_neg (by omega), hm, hi]
  dsimp only
  congr 1
  rcases hx with hx | ⟨j, hj, e⟩
  · exact absurd hsl (h.free k hk _ hx)
  · by_cases hjk : j = k
    · rw [e, hjk]
    · have := h.up j k (by omega) hk
      rw [e] at hsl; omega
theorem adds_used {T : Tb} {mk : Nat → TC} {n : Nat} (h : AddsOK T mk n) {k : Nat} (hk : k < n) : usedB (adds T mk (k + 1)) (mk k).slot = true := by
  obtain ⟨c1, c2, c3, c4, c5, _⟩ := adds_ok h (k := k + 1) (by omega)
  exact List.any_eq_true.2 ⟨mk k, (c5 _).2 (.inr ⟨k, by omega, rfl⟩), decide_eq_true rfl⟩
theorem adds_between {T : Tb} {mk : Nat → TC} {n : Nat} (h : AddsOK T mk n) {p : Int} (hb : betweenM T p = []) (hm : ∀ k, k < n → (mk k).kind = 2 ∧ (mk k).peer = p) : betweenM (adds T mk n) p = (List.range n).map mk := by
  obtain ⟨c1, c2, c3, c4, c5, _⟩ := adds_ok h (Nat.le_refl n)
  rw [betweenM, if_neg (by omega)]
  rw [betweenM, if_neg (by have := h.ck; omega)] at hb
  refine srt_ext ?_ ?_ fun x => ?_
  · have hs := checkT_srt c1
    have hp : (adds T mk n).cells.Pairwise fun a b => lessB a b = true := by
      rw [List.pairwise_iff_getElem]
      intro i j hi hj hij
      have := hs i j hij hj
      simpa [List.getD_eq_getElem?_getD, hi, hj] using this
    have hp2 := hp.filter fun c => decide (c.kind = 2 ∧ c.peer = p)
    rw [List.pairwise_iff_getElem] at hp2
    intro i j hij hj
    have := hp2 i j (by omega) hj hij
    rw [List.getD_eq_getElem?_getD, List.getD_eq_getElem?_getD, List.getElem?_eq_getElem hj, List.getElem?_eq_getElem (Nat.lt_trans hij hj)]
    exact this
  · intro i j hij hj
    rw [List.length_map, List.length_range] at hj
    have g : ∀ i, i < n → ((List.range n).map mk).getD i default = mk i := fun i hi => by
      rw [List.getD_eq_getElem?_getD, List.getElem?_map, List.getElem?_range hi]; rfl
    rw [g i (by omega), g j hj, lessB_iff]
    exact .inl (h.up i j hij hj)
  · rw [List.mem_filter, c5, List.mem_map]
    constructor
    · rintro ⟨hx | ⟨j, hj, rfl⟩, h2⟩
      · have : x ∈ T.cells.filter fun c => decide (c.kind = 2 ∧ c.peer = p) := List.mem_filter.2 ⟨hx, h2⟩
        rw [hb] at this; cases this
      · exact ⟨j, List.mem_range.2 hj, rfl⟩
    · rintro ⟨j, hj, rfl⟩
      have hj := List.mem_range.1 hj
      exact ⟨.inr ⟨j, hj, rfl⟩, decide_eq_true (hm j hj)⟩

/-- The cells that are added at a node of a link, and at the other one. -/
def cK (l : List Spot) (peer : Int) (k : Nat) : TC := ⟨(l.getD k default).slot, (l.getD k default).offset, 2, decide ((k : Int) % 2 = 0), peer, -1⟩
def dK (l : List Spot) (self : Int) (k : Nat) : TC := ⟨(l.getD k default).slot, (l.getD k default).offset, 2, !decide ((k : Int) % 2 = 0), self, -1⟩
theorem fitsB_t {t : Tb} {f : List Int} {s : Spot} (h : fitsB t f s = true) : maskedB f t.len = true ∧ 0 ≤ s.slot ∧ s.slot < t.len ∧ 0 ≤ s.offset ∧ s.offset < 16 ∧ bitB (f.getD s.slot.toNat default) s.offset = true ∧ usedB t s.slot = false := by
  simp only [fitsB, Bool.and_eq_true, decide_eq_true_eq, Bool.not_eq_true'] at h
  exact ⟨h.1.1.1.2, h.1.1.2.1, h.1.1.2.2.1, h.1.1.2.2.2.1, h.1.1.2.2.2.2, h.1.2, h.2⟩
theorem mem_take {α : Type} {l : List α} {n : Nat} {x : α} (h : x ∈ l.take n) : x ∈ l := List.mem_of_mem_take h
theorem cand_ok {t : Tb} {f : List Int} {n : Int} : (∀ k, k < (candM t f n).length → fitsB t f ((candM t f n).getD k default) = true) ∧ ∀ i j, i < j → j < (candM t f n).length → ((candM t f n).getD i default).slot < ((candM t f n).getD j default).slot := by
  unfold candM
  split
  · exact ⟨fun k hk => absurd hk (by simp), fun i j _ hj => absurd hj (by simp)⟩
  · obtain ⟨h1, h2⟩ := candTo_ok t f t.len.toNat
    refine ⟨fun k hk => (h1 _ (mem_take (getD_mem hk))).1, fun i j hij hj => ?_⟩
    rw [List.length_take] at hj
    have g : ∀ i, i < n.toNat → ((candTo t f t.len.toNat).take n.toNat).getD i default = (candTo t f t.len.toNat).getD i default := fun i hi => by
      rw [List.getD_eq_getElem?_getD, List.getElem?_take, if_pos hi, ← List.getD_eq_getElem?_getD]
    rw [g i (by omega), g j (by omega)]
    exact h2 i j hij (by omega)
theorem cand_take {t : Tb} {f : List Int} {n : Int} (hn : 0 ≤ n) (h : checkT t = 0) : candM t f n = (candM t f 512).take (candM t f n).length ∧ ((candM t f n).length : Int) = min n (candM t f 512).length ∧ ((f.length : Int) ≠ t.len → (candM t f 512).length = 0) ∧ (candM t f n).length ≤ t.len.toNat := by
  have hl := checkT_len h
  have hcl := candTo_len t f t.len.toNat
  unfold candM
  split
  · refine ⟨rfl, ?_, fun _ => rfl, Nat.zero_le _⟩
    simp; omega
  · rename_i hm
    have hall : (candTo t f t.len.toNat).take (512 : Int).toNat = candTo t f t.len.toNat := List.take_of_length_le (by omega)
    rw [hall]
    refine ⟨?_, ?_, fun hf => ?_, ?_⟩
    · rw [List.length_take]
      rcases Nat.le_total n.toNat (candTo t f t.len.toNat).length with h1 | h1
      · rw [Nat.min_eq_left h1]
      · rw [Nat.min_eq_right h1, List.take_of_length_le h1, List.take_of_length_le (Nat.le_refl _)]
    · rw [List.length_take]; omega
    · exfalso
      have : maskedB f t.len = true := by
        cases hb : maskedB f t.len with
        | true => rfl
        | false => exact absurd (.inr hb) hm
      exact hf (maskedB_t this).1
    · rw [List.length_take]; omega
theorem formE_agreed {c : TC} {self len : Int} (h1 : c.kind = 2) (h2 : c.flow = -1) (h3 : 0 ≤ c.slot ∧ c.slot < len) (h4 : 0 ≤ c.offset ∧ c.offset < 16) (h5 : nodeB c.peer = true) (h6 : c.peer ≠ self) : formE c self len = 0 := by
  unfold formE
  rw [if_neg (by omega), if_neg (by omega), if_neg]
  rw [h5]; simp; omega
theorem own_ok {t : Tb} {f : List Int} {n peer : Int} (hn : 0 ≤ n) (h : checkT t = 0) (hf : fewT t = true) (hp : nodeB peer = true) (hne : peer ≠ t.node) : AddsOK t (cK (candM t f n) peer) (candM t f n).length := by
  have h40 := few40 hf h
  have hl := checkT_len h
  have hlen : t.len ≤ 64 := by simp only [fewT, Bool.and_eq_true, decide_eq_true_eq] at hf; omega
  have hcl := (cand_take (f := f) hn h).2.2.2
  obtain ⟨h1, h2⟩ := cand_ok (t := t) (f := f) (n := n)
  refine ⟨h, by omega, fun k hk => ?_, fun k hk x hx e => ?_, fun j k hjk hk => h2 j k hjk hk⟩
  · obtain ⟨_, f1, f2, f3, f4, _, _⟩ := fitsB_t (h1 k hk)
    exact formE_agreed rfl rfl ⟨f1, f2⟩ ⟨f3, f4⟩ hp hne
  · obtain ⟨_, _, _, _, _, _, f5⟩ := fitsB_t (h1 k hk)
    have : usedB t (cK (candM t f n) peer k).slot = true := List.any_eq_true.2 ⟨x, hx, decide_eq_true e⟩
    rw [show usedB t (cK (candM t f n) peer k).slot = false from f5] at this
    cases this
theorem other_ok {t : Tb} {f : List Int} {n peer : Int} (hn : 0 ≤ n) (h : checkT t = 0) (hf : fewT t = true) (hp : nodeB peer = true) (hne : peer ≠ t.node) : AddsOK ⟨peer, t.len, []⟩ (dK (candM t f n) t.node) (candM t f n).length := by
  have hl := checkT_len h
  have hlen : t.len ≤ 64 := by simp only [fewT, Bool.and_eq_true, decide_eq_true_eq] at hf; omega
  have hcl := (cand_take (f := f) hn h).2.2.2
  obtain ⟨h1, h2⟩ := cand_ok (t := t) (f := f) (n := n)
  refine ⟨checkT_iff.2 ⟨hp, hl.2.1, hl.2.2.1, Nat.zero_le _, fun x hx => (by cases hx), fun i j _ hj => absurd hj (Nat.not_lt_zero _)⟩, by dsimp only [List.length]; omega, fun k hk => ?_, fun k hk x hx => (by cases hx), fun j k hjk hk => h2 j k hjk hk⟩
  obtain ⟨_, f1, f2, f3, f4, _, _⟩ := fitsB_t (h1 k hk)
  exact formE_agreed rfl rfl ⟨f1, f2⟩ ⟨f3, f4⟩ hl.2.2.2 fun e => hne e.symm
theorem free_mirror {t : Tb} {f : List Int} {n peer : Int} (hn : 0 ≤ n) (h : checkT t = 0) (hf : fewT t = true) (hp : nodeB peer = true) (hne : peer ≠ t.node) (hb : betweenM t peer = []) :
    mirB (adds t (cK (candM t f n) peer) (candM t f n).length) (adds ⟨peer, t.len, []⟩ (dK (candM t f n) t.node) (candM t f n).length) = true ∧ mirB (adds ⟨peer, t.len, []⟩ (dK (candM t f n) t.node) (candM t f n).length) (adds t (cK (candM t f n) peer) (candM t f n).length) = true := by
  have o1 := own_ok (f := f) hn h hf hp hne
  have o2 := other_ok (f := f) hn h hf hp hne
  obtain ⟨a1, a2, a3, _⟩ := adds_ok o1 (Nat.le_refl _)
  obtain ⟨b1, b2, b3, _⟩ := adds_ok o2 (Nat.le_refl _)
  have e1 := adds_between o1 hb fun k _ => ⟨rfl, rfl⟩
  have e2 := adds_between o2 (p := t.node) (by rw [betweenM, if_neg (by have := o2.ck; omega)]; rfl) fun k _ => ⟨rfl, rfl⟩
  have g : ∀ (mk : Nat → TC) (m i : Nat), i < m → ((List.range m).map mk).getD i default = mk i := fun mk m i hi => by
    rw [List.getD_eq_getElem?_getD, List.getElem?_map, List.getElem?_range hi]; rfl
  have hq : ∀ (mk mk' : Nat → TC) (m : Nat), (∀ i, i < m → oppB (mk i) (mk' i) = true) → eqFTC oppB ((List.range m).map mk) ((List.range m).map mk') = true := fun mk mk' m hh => by
    unfold eqFTC
    rw [List.length_map, List.length_map, decide_eq_true rfl, List.length_range, anyR_none fun i hi => by rw [g mk m i hi, g mk' m i hi, hh i hi]; rfl]
    rfl
  refine ⟨?_, ?_⟩
  · unfold mirB
    rw [b2, a2, e1, e2, hq _ _ _ fun i _ => ?_, decide_eq_true ⟨a1, b1, fun e => hne e.symm, a3.trans b3.symm⟩]
    · rfl
    · simp [oppB, cK, dK]
  · unfold mirB
    rw [b2, a2, e1, e2, hq _ _ _ fun i _ => ?_, decide_eq_true ⟨b1, a1, hne, b3.trans a3.symm⟩]
    · rfl
    · simp [oppB, cK, dK]
end Go.Proofs


