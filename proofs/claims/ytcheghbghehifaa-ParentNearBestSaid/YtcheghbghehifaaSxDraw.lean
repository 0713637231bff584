/-
  Sx, part 2: a region that draws its order. If the steps of the text's order read and write keys that do not clash with those of any step that they are not ordered with, every order comes to the same state.
-/
import Derived.Test.YtcheghbghehifaaSxCore
namespace Go.Sx
open Go Go.RowKit

/-! ## Updates, off a key and on a key -/

theorem St.upds_off {U : Upds} {k : Key} (h : k ∉ U.map (·.1)) : ∀ σ : St, σ.upds U k = σ k := by
  induction U with
  | nil => intro σ; rfl
  | cons p U ih =>
    intro σ
    obtain ⟨k', x⟩ := p
    simp only [List.map_cons, List.mem_cons, not_or] at h
    show (σ.upd k' x).upds U k = σ k
    rw [ih h.2, St.upd_other _ _ (Ne.symm h.1)]

theorem St.upds_on {U : Upds} {k : Key} : ∀ σ σ' : St, (k ∈ U.map (·.1) ∨ σ k = σ' k) → σ.upds U k = σ'.upds U k := by
  induction U with
  | nil => intro σ σ' h; rcases h with h | h; · cases h
           · exact h
  | cons p U ih =>
    intro σ σ' h
    obtain ⟨k', x⟩ := p
    show (σ.upd k' x).upds U k = (σ'.upd k' x).upds U k
    refine ih _ _ ?_
    by_cases hk : k' = k
    · subst hk; right; rw [St.upd_same, St.upd_same]
    · rcases h with h | h
      · left
        simp only [List.map_cons, List.mem_cons] at h
        exact h.resolve_left (Ne.symm hk)
      · right; rw [St.upd_other _ _ hk, St.upd_other _ _ hk]; exact h

/-- Steps, one after the other. -/
def appl (U : Nat → Upds) : List Nat → St → St
  | [], σ => σ
  | i :: L, σ => appl U L (σ.upds (U i))

def writes (U : Nat → Upds) (k : Key) (i : Nat) : Bool := decide (k ∈ (U i).map (·.1))

theorem appl_append (U : Nat → Upds) (L M : List Nat) (σ : St) : appl U (L ++ M) σ = appl U M (appl U L σ) := by
  induction L generalizing σ with
  | nil => rfl
  | cons i L ih => exact ih _

theorem appl_filter (U : Nat → Upds) (k : Key) : ∀ (L : List Nat) (σ σ' : St), σ k = σ' k → appl U L σ k = appl U (L.filter (writes U k)) σ' k
  | [], _, _, h => h
  | i :: L, σ, σ', h => by
    by_cases hw : writes U k i = true
    · rw [List.filter_cons_of_pos hw]
      exact appl_filter U k L _ _ (St.upds_on _ _ (.inr h))
    · rw [List.filter_cons_of_neg hw]
      refine appl_filter U k L _ _ ?_
      rw [St.upds_off (by simpa [writes] using hw)]
      exact h

theorem appl_congr (U : Nat → Upds) (k : Key) {L M : List Nat} (σ : St) (h : L.filter (writes U k) = M.filter (writes U k)) : appl U L σ k = appl U M σ k := by
  rw [appl_filter U k L σ σ rfl, appl_filter U k M σ σ rfl, h]

theorem filter_range_lt (n i : Nat) (hi : i ≤ n) (q : Nat → Bool) : (List.range n).filter (fun j => decide (j < i) && q j) = (List.range i).filter q := by
  obtain ⟨m, rfl⟩ := Nat.exists_eq_add_of_le hi
  rw [List.range_add, List.filter_append]
  have h1 : (List.range i).filter (fun j => decide (j < i) && q j) = (List.range i).filter q := List.filter_congr fun j hj => by simp [List.mem_range.1 hj]
  have h2 : ((List.range m).map (i + ·)).filter (fun j => decide (j < i) && q j) = [] := by
    rw [List.filter_eq_nil_iff]
    intro j hj
    obtain ⟨x, _, rfl⟩ := List.mem_map.1 hj
    have : ¬ i + x < i := by omega
    simp [this]
  rw [h1, h2, List.append_nil]

theorem filter_range_last (n i : Nat) (hi : i < n) (p : Nat → Bool) (h1 : p i = true) (h2 : ∀ j, i < j → p j = false) : (List.range n).filter p = (List.range i).filter p ++ [i] := by
  obtain ⟨m, rfl⟩ := Nat.exists_eq_add_of_le (show i + 1 ≤ n from hi)
  rw [List.range_add, List.filter_append, List.range_succ, List.filter_append]
  have h3 : ((List.range m).map (i + 1 + ·)).filter p = [] := by
    rw [List.filter_eq_nil_iff]
    intro j hj
    obtain ⟨x, _, rfl⟩ := List.mem_map.1 hj
    simp [h2 (i + 1 + x) (by omega)]
  rw [h3, List.append_nil]
  simp [h1]

/-! ## The check -/

/-- Of each operation: all that come before it in every order. -/
def ancs : List Oper → List (List Nat) → List (List Nat)
  | [], acc => acc
  | o :: l, acc => ancs l (acc ++ [(o.after.toList.filter (Region.binds .any)).flatMap fun e => e.on :: acc.getD e.on []])

def edgesOK (l : List Oper) : Bool := (List.range l.length).all fun j => ((l[j]?).map fun o => o.after.toList.all fun e => !Region.binds .any e || Nat.blt e.on j).getD true

def disj (a b : List Key) : Bool := a.all fun k => b.all fun k' => !(k.beq k')

theorem disj_spec {a b : List Key} (h : disj a b = true) : ∀ k ∈ a, k ∉ b := by
  intro k hk hb
  simp only [disj, List.all_eq_true] at h
  have := h k hk k hb
  rw [Key.beq_iff.2 rfl] at this
  cases this

def chkPairs (an : List (List Nat)) (tr : List (List Key × List Key)) : Bool :=
  (List.range tr.length).all fun j => (List.range j).all fun i =>
    (an.getD j []).contains i || (disj (tr.getD i ([], [])).1 (tr.getD j ([], [])).2 && disj (tr.getD i ([], [])).2 (tr.getD j ([], [])).2 && disj (tr.getD i ([], [])).2 (tr.getD j ([], [])).1)

def chk (l : List Oper) (tr : List (List Key × List Key)) : Bool := edgesOK l && chkPairs (ancs l []) tr

/-- Downward closed. -/
def DC (l : List Oper) (S : Nat → Bool) : Prop := ∀ j o, l[j]? = some o → S j = true → ∀ e ∈ o.after, Region.binds .any e = true → S e.on = true

theorem ancs_spec {l0 : List Oper} {S : Nat → Bool} (hS : DC l0 S) : ∀ (l : List Oper) (pre : List Oper) (acc : List (List Nat)), l0 = pre ++ l → acc.length = pre.length →
    (∀ j, j < acc.length → S j = true → ∀ i ∈ acc.getD j [], S i = true) → ∀ j, j < (ancs l acc).length → S j = true → ∀ i ∈ (ancs l acc).getD j [], S i = true
  | [], _, _, _, _, h => h
  | o :: l, pre, acc, h0, hl, h => by
    refine ancs_spec hS l (pre ++ [o]) _ (by rw [h0]; simp) (by simp [hl]) fun j hj hSj i hi => ?_
    rcases Nat.lt_or_ge j acc.length with hlt | hge
    · rw [List.getD_eq_getElem?_getD, List.getElem?_append_left hlt, ← List.getD_eq_getElem?_getD] at hi
      exact h j hlt hSj i hi
    · have hje : j = acc.length := by simp at hj; omega
      subst hje
      simp only [List.getD_eq_getElem?_getD, List.getElem?_append_right (Nat.le_refl _), Nat.sub_self, List.getElem?_cons_zero, Option.getD_some] at hi
      obtain ⟨e, he, hie⟩ := List.mem_flatMap.1 hi
      obtain ⟨he1, he2⟩ := List.mem_filter.1 he
      have hSe : S e.on = true := hS acc.length o (by rw [h0, hl]; simp) hSj e (by simpa using he1) he2
      rcases List.mem_cons.1 hie with rfl | hie
      · exact hSe
      · rcases Nat.lt_or_ge e.on acc.length with hlt | hge
        · exact h e.on hlt hSe i (by rw [List.getD_eq_getElem?_getD]; exact hie)
        · rw [List.getElem?_eq_none hge] at hie
          simp at hie

theorem ancs_length : ∀ (l : List Oper) (acc : List (List Nat)), (ancs l acc).length = acc.length + l.length
  | [], acc => by simp [ancs]
  | o :: l, acc => by rw [ancs, ancs_length l]; simp; omega

/-! ## Every order -/

structure Lex {P : Program} {N : Nat} (E : Env P N) (l : List Oper) (R U : Nat → Upds) (σ : St) : Prop where
  acts : ∀ i o, l[i]? = some o → Acts E l.toArray o (R i) (U i)
  reads : ∀ i, i < l.length → ∀ p ∈ R i, appl U (List.range i) σ p.1 = p.2
  edges : ∀ j o, l[j]? = some o → ∀ e ∈ o.after, Region.binds .any e = true → e.on < j
  tail : ∀ j, l.length ≤ j → ∀ k, k ∉ (U j).map (·.1)
  apart : ∀ i j, i < j → j < l.length → i ∈ (ancs l []).getD j [] ∨
    ((∀ k ∈ (R i).map (·.1), k ∉ (U j).map (·.1)) ∧ (∀ k ∈ (U i).map (·.1), k ∉ (U j).map (·.1)) ∧ (∀ k ∈ (U i).map (·.1), k ∉ (R j).map (·.1)))

def addS (S : Nat → Bool) (i : Nat) : Nat → Bool := fun j => S j || Nat.beq j i

section
variable {P : Program} {N : Nat} {E : Env P N} {l : List Oper} {R U : Nat → Upds} {σ : St}

theorem DC.add {S : Nat → Bool} (hS : DC l S) {i : Nat} {o : Oper} (ho : l[i]? = some o) (hall : ∀ e ∈ o.after, Region.binds .any e = true → S e.on = true) : DC l (addS S i) := by
  intro j oj hj hSj e he hb
  simp only [addS, Bool.or_eq_true] at hSj ⊢
  rcases hSj with h | h
  · exact .inl (hS j oj hj h e he hb)
  · have : j = i := by simpa using h
    subst this
    rw [ho] at hj
    injection hj with hj
    subst hj
    exact .inl (hall e he hb)

theorem anc_in {S : Nat → Bool} (hS : DC l S) {i j : Nat} (hj : j < l.length) (hSj : S j = true) (hi : i ∈ (ancs l []).getD j []) : S i = true :=
  ancs_spec hS l [] [] rfl rfl (by intro j hj; simp at hj) j (by rw [ancs_length]; simpa using hj) hSj i hi

theorem Lex.read (h : Lex E l R U σ) {S : Nat → Bool} (hS : DC l S) {i : Nat} {o : Oper} (ho : l[i]? = some o) (hSi : S i = false) (hall : ∀ e ∈ o.after, Region.binds .any e = true → S e.on = true) :
    ∀ p ∈ R i, appl U ((List.range l.length).filter S) σ p.1 = p.2 := by
  intro p hp
  have hin : i < l.length := (List.getElem?_eq_some_iff.1 ho).1
  rw [← h.reads i hin p hp]
  apply appl_congr
  have hk : p.1 ∈ (R i).map (·.1) := List.mem_map.2 ⟨p, hp, rfl⟩
  rw [← filter_range_lt l.length i (by omega) (writes U p.1), List.filter_filter]
  refine List.filter_congr fun j hj => ?_
  have hjl := List.mem_range.1 hj
  by_cases hw : writes U p.1 j = true
  · have hwj : p.1 ∈ (U j).map (·.1) := by simpa [writes] using hw
    simp only [hw, Bool.and_true, Bool.true_and]
    rcases Nat.lt_trichotomy j i with hji | hji | hji
    · have : S j = true := by
        rcases h.apart j i hji hin with ha | ⟨_, _, hx⟩
        · have := anc_in (hS.add ho hall) hin (by simp [addS]) ha
          simp only [addS, Bool.or_eq_true] at this
          rcases this with h' | h'
          · exact h'
          · have : j = i := by simpa using h'
            omega
        · exact absurd hk (hx _ hwj)
      simp [this, hji]
    · subst hji; simp [hSi]
    · have : S j = false := by
        cases hSj : S j with
        | false => rfl
        | true =>
          rcases h.apart i j hji hjl with ha | ⟨hx, _, _⟩
          · have := anc_in hS hjl hSj ha
            rw [hSi] at this; cases this
          · exact absurd hwj (hx _ hk)
      simp [this, Nat.not_lt.2 (Nat.le_of_lt hji)]
  · have : writes U p.1 j = false := by simpa using hw
    simp [this]

theorem Lex.write (h : Lex E l R U σ) {S : Nat → Bool} (hS : DC l S) {i : Nat} {o : Oper} (ho : l[i]? = some o) (hSi : S i = false) :
    (appl U ((List.range l.length).filter S) σ).upds (U i) = appl U ((List.range l.length).filter (addS S i)) σ := by
  have hin : i < l.length := (List.getElem?_eq_some_iff.1 ho).1
  funext k
  by_cases hk : k ∈ (U i).map (·.1)
  · rw [appl_filter U k ((List.range l.length).filter (addS S i)) σ σ rfl, List.filter_filter,
      filter_range_last l.length i hin (fun a => writes U k a && addS S i a) (by simp [writes, addS, hk]) ?_, appl_append]
    · exact St.upds_on _ _ (.inl hk)
    · intro j hij
      rcases Nat.lt_or_ge j l.length with hjl | hjl
      · cases hw : writes U k j with
        | false => simp
        | true =>
          have hwj : k ∈ (U j).map (·.1) := by simpa [writes] using hw
          have : S j = false := by
            cases hSj : S j with
            | false => rfl
            | true =>
              rcases h.apart i j hij hjl with ha | ⟨_, hx, _⟩
              · have := anc_in hS hjl hSj ha
                rw [hSi] at this; cases this
              · exact absurd hwj (hx _ hk)
          have hne : Nat.beq j i = false := by
            cases hb : Nat.beq j i with
            | false => rfl
            | true => have : j = i := by simpa using hb
                      omega
          simp [addS, this, hne]
      · cases hw : writes U k j with
        | false => simp
        | true =>
          exact absurd (by simpa [writes] using hw) (h.tail j hjl k)
  · rw [St.upds_off hk]
    apply appl_congr
    rw [List.filter_filter, List.filter_filter]
    refine List.filter_congr fun j _ => ?_
    by_cases hji : j = i
    · subst hji
      have : writes U k j = false := by simp [writes, hk]
      simp [this]
    · have hne : Nat.beq j i = false := by
        cases hb : Nat.beq j i with
        | false => rfl
        | true => exact absurd (by simpa using hb) hji
      simp [addS, hne]

def inS (listed : Array Bool) : Nat → Bool := fun j => listed.getD j false

theorem inS_set {listed : Array Bool} {i : Nat} (hi : i < listed.size) : inS (listed.setIfInBounds i true) = addS (inS listed) i := by
  funext j
  unfold inS addS
  by_cases hji : j = i
  · subst hji; simp [hi]
  · have hne : Nat.beq j i = false := by
      cases hb : Nat.beq j i with
      | false => rfl
      | true => exact absurd (by simpa using hb) hji
    rw [getD_set_ne false (Ne.symm hji), hne, Bool.or_false]

theorem all_listed (h : Lex E l R U σ) {listed : Array Bool} (hsz : listed.size = l.length) (hnone : Region.ready .any l.toArray listed = []) : ∀ j, j < l.length → inS listed j = true := by
  intro j
  induction j using Nat.strongRecOn with
  | _ j ih =>
    intro hj
    cases hS : inS listed j with
    | true => rfl
    | false =>
      exfalso
      have : j ∈ Region.ready .any l.toArray listed := by
        rw [mem_ready]
        have hjl : j < listed.size := by omega
        refine ⟨?_, l[j], by simp [hj], fun e he hb => ?_⟩
        · unfold inS at hS
          simp [hjl] at hS ⊢
          exact hS
        · have hlt := h.edges j l[j] (by simp [hj]) e he hb
          exact ih e.on hlt (by omega)
      rw [hnone] at this
      cases this

theorem Lex.any (h : Lex E l R U σ) {Q : Exit → Act → World → Prop} (hQ : ∀ a w, Sat E (appl U (List.range l.length) σ) a w → Q .normal a w) :
    ∀ (fuel : Nat) (listed : Array Bool) (a : Act) (w : World), listed.size = l.length → DC l (inS listed) → ((List.range l.length).filter fun j => !inS listed j).length ≤ fuel →
      Sat E (appl U ((List.range l.length).filter (inS listed)) σ) a w → wpAny P .any l.toArray Q fuel listed a w := by
  have full : ∀ (listed : Array Bool), (∀ j, j < l.length → inS listed j = true) → (List.range l.length).filter (inS listed) = List.range l.length := fun listed hall =>
    List.filter_eq_self.2 fun j hj => hall j (List.mem_range.1 hj)
  intro fuel
  induction fuel with
  | zero =>
    intro listed a w hsz hS hc hsat
    have hall : ∀ j, j < l.length → inS listed j = true := by
      intro j hj
      cases hSj : inS listed j with
      | true => rfl
      | false =>
        have hnil : (List.range l.length).filter (fun j => !inS listed j) = [] := List.eq_nil_of_length_eq_zero (by omega)
        have := List.filter_eq_nil_iff.1 hnil j (List.mem_range.2 hj)
        simp [hSj] at this
    refine ⟨?_, hQ a w (by rw [← full listed hall]; exact hsat)⟩
    rw [List.eq_nil_iff_forall_not_mem]
    intro i hi
    obtain ⟨h0, o, ho, _⟩ := mem_ready.1 hi
    have hin : i < l.length := by simpa using (Array.getElem?_eq_some_iff.1 ho).1
    have := hall i hin
    unfold inS at this
    have hil : i < listed.size := by omega
    simp [hil] at h0 this
    rw [h0] at this
    cases this
  | succ fuel ih =>
    intro listed a w hsz hS hc hsat
    refine ⟨fun hnone => hQ a w (by rw [← full listed (all_listed h hsz hnone)]; exact hsat), fun i hi => ?_⟩
    obtain ⟨h0, o, ho, hall⟩ := mem_ready.1 hi
    have ho' : l[i]? = some o := by simpa using ho
    have hin : i < l.length := (List.getElem?_eq_some_iff.1 ho').1
    have hil : i < listed.size := by omega
    have hSi : inS listed i = false := by
      unfold inS
      simp [hil] at h0 ⊢
      exact h0
    have hact := h.acts i o ho' _ a w (wpAny P .any l.toArray Q fuel (listed.setIfInBounds i true)) Q hsat (h.read hS ho' hSi hall) (fun a' w' h' => ?_)
    · unfold wpOp
      rw [ho]
      exact hact
    · rw [h.write hS ho' hSi] at h'
      refine ih _ a' w' (by simpa using hsz) ?_ ?_ ?_
      · rw [inS_set hil]; exact hS.add ho' hall
      · rw [inS_set hil]
        have hsub : (List.range l.length).filter (fun j => !addS (inS listed) i j) = ((List.range l.length).filter fun j => !inS listed j).filter (fun j => !(Nat.beq j i)) := by
          rw [List.filter_filter]
          refine List.filter_congr fun j _ => ?_
          simp only [addS]
          cases inS listed j <;> cases Nat.beq j i <;> rfl
        rw [hsub]
        have hlt : (((List.range l.length).filter fun j => !inS listed j).filter (fun j => !(Nat.beq j i))).length < ((List.range l.length).filter fun j => !inS listed j).length := by
          rw [List.length_filter_lt_length_iff_exists]
          refine ⟨i, List.mem_filter.2 ⟨List.mem_range.2 hin, by simp [hSi]⟩, ?_⟩
          simp
        omega
      · rw [inS_set hil]; exact h'
end

/-! ## From the steps in the text's order -/

theorem appl_succ (U : Nat → Upds) (L : List Nat) (σ : St) : appl U (L.map (· + 1)) σ = appl (fun i => U (i + 1)) L σ := by
  induction L generalizing σ with
  | nil => rfl
  | cons i L ih => exact ih _

theorem appl_ext {U U' : Nat → Upds} (h : ∀ i, U i = U' i) (L : List Nat) (σ : St) : appl U L σ = appl U' L σ := by
  have : U = U' := funext h
  rw [this]

theorem Runs.recs {P : Program} {N : Nat} {E : Env P N} {ops : Array Oper} {rest : List Oper} {σ σ' : St} {tr : List (List Key × List Key)} (h : Runs E ops rest σ tr σ') :
    ∃ recs : List (Upds × Upds), recs.length = rest.length ∧ tr = recs.map (fun r => (r.1.map (·.1), r.2.map (·.1))) ∧
      (∀ (i : Nat) (o : Oper) (r : Upds × Upds), rest[i]? = some o → recs[i]? = some r → Acts E ops o r.1 r.2) ∧
      (∀ (i : Nat) (r : Upds × Upds), recs[i]? = some r → ∀ p ∈ r.1, appl (fun i => (recs.getD i ([], [])).2) (List.range i) σ p.1 = p.2) ∧
      σ' = appl (fun i => (recs.getD i ([], [])).2) (List.range recs.length) σ := by
  induction h with
  | nil => exact ⟨[], rfl, rfl, by simp, by simp, rfl⟩
  | cons hact hR _ ih =>
    rename_i o rest σ R U tr σ' _
    obtain ⟨recs, h1, h2, h3, h4, h5⟩ := ih
    refine ⟨(R, U) :: recs, by simp [h1], by simp [h2], fun i o' r hi hr => ?_, fun i r hr p hp => ?_, ?_⟩
    · cases i with
      | zero => simp at hi hr; subst hi; subst hr; exact hact
      | succ i => exact h3 i o' r (by simpa using hi) (by simpa using hr)
    · cases i with
      | zero => simp at hr; subst hr; exact hR p hp
      | succ i =>
        rw [List.range_succ_eq_map]
        show appl _ ((List.range i).map Nat.succ) (σ.upds U) p.1 = p.2
        have := appl_succ (fun i => (((R, U) :: recs).getD i ([], [])).2) (List.range i) (σ.upds U)
        have hs : (List.range i).map Nat.succ = (List.range i).map (· + 1) := rfl
        rw [hs, this]
        have := h4 i r (by simpa using hr) p hp
        simpa using this
    · rw [h5, List.length_cons, List.range_succ_eq_map]
      show _ = appl _ ((List.range recs.length).map Nat.succ) (σ.upds U)
      have := appl_succ (fun i => (((R, U) :: recs).getD i ([], [])).2) (List.range recs.length) (σ.upds U)
      have hs : (List.range recs.length).map Nat.succ = (List.range recs.length).map (· + 1) := rfl
      rw [hs, this]
      exact appl_ext (fun i => by simp) _ _

theorem lex_of_runs {P : Program} {N : Nat} {E : Env P N} {l : List Oper} {σ σ' : St} {tr : List (List Key × List Key)} (h : Runs E l.toArray l σ tr σ') (hchk : chk l tr = true) :
    ∃ R U, Lex E l R U σ ∧ σ' = appl U (List.range l.length) σ := by
  obtain ⟨recs, h1, h2, h3, h4, h5⟩ := h.recs
  simp only [chk, Bool.and_eq_true] at hchk
  obtain ⟨hedge, hpair⟩ := hchk
  have hget : ∀ i, i < l.length → ∃ r, recs[i]? = some r := fun i hi => ⟨recs[i]'(by omega), List.getElem?_eq_getElem (by omega)⟩
  refine ⟨fun i => (recs.getD i ([], [])).1, fun i => (recs.getD i ([], [])).2, ⟨?_, ?_, ?_, ?_, ?_⟩, by rw [← h1]; exact h5⟩
  · intro i o ho
    obtain ⟨r, hr⟩ := hget i (List.getElem?_eq_some_iff.1 ho).1
    have := h3 i o r ho hr
    simpa [List.getD_eq_getElem?_getD, hr] using this
  · intro i hi p hp
    obtain ⟨r, hr⟩ := hget i hi
    exact h4 i r hr p (by simpa [List.getD_eq_getElem?_getD, hr] using hp)
  · intro j o hj e he hb
    simp only [edgesOK, List.all_eq_true] at hedge
    have := hedge j (List.mem_range.2 (List.getElem?_eq_some_iff.1 hj).1)
    rw [hj] at this
    simp only [Option.map_some, Option.getD_some, List.all_eq_true] at this
    have := this e (by simpa using he)
    simpa [hb] using this
  · intro j hj k
    have : recs.getD j ([], []) = ([], []) := by rw [List.getD_eq_getElem?_getD, List.getElem?_eq_none (by omega)]; rfl
    simp only [this]
    simp
  · intro i j hij hj
    simp only [chkPairs, List.all_eq_true] at hpair
    have := hpair j (List.mem_range.2 (by rw [h2]; simp; omega)) i (List.mem_range.2 hij)
    have htr : ∀ i, tr.getD i ([], []) = ((recs.getD i ([], [])).1.map (·.1), (recs.getD i ([], [])).2.map (·.1)) := by
      intro i
      rw [h2]
      simp only [List.getD_eq_getElem?_getD, List.getElem?_map]
      cases recs[i]? <;> rfl
    simp only [Bool.or_eq_true, Bool.and_eq_true, htr] at this
    rcases this with ha | ⟨⟨hb, hc⟩, hd⟩
    · exact .inl (by simpa using ha)
    · exact .inr ⟨disj_spec hb, disj_spec hc, disj_spec hd⟩

theorem wp_region_draw_runs {P : Program} {N : Nat} {E : Env P N} {id : Nat} {l : List Oper} {σ σ' : St} {tr : List (List Key × List Key)} (hm : P.follows .mixedOrders = true) (h : Runs E l.toArray l σ tr σ') (hchk : chk l tr = true)
    {Q : Exit → Act → World → Prop} (hQ : ∀ a w, Sat E σ' a w → Q .normal a w) {a : Act} {w : World} (hs : Sat E σ a w) : (Code.region id l.toArray true).wp P Q a w := by
  obtain ⟨R, U, hL, rfl⟩ := lex_of_runs h hchk
  obtain ⟨ρ, Im, hsat⟩ := hs
  have hnone : ∀ j, inS (Array.replicate l.toArray.size false) j = false := by
    intro j
    unfold inS
    rcases Nat.lt_or_ge j l.length with hj | hj
    · simp [hj]
    · simp [hj]
  refine wp_region_any hm (Lex.any hL hQ _ _ _ _ (by simp) ?_ ?_ ?_)
  · intro j o _ hj
    rw [hnone] at hj
    cases hj
  · refine Nat.le_trans (List.length_filter_le _ _) ?_
    simp
  · have : (List.range l.length).filter (inS (Array.replicate l.toArray.size false)) = [] := List.filter_eq_nil_iff.2 fun j _ => by rw [hnone]; simp
    rw [this]
    exact ⟨ρ, Im, hsat.drew⟩

end Go.Sx
