/-
  Sx, part 13: struct and slice literals.
-/
import Derived.Test.YtcheghbghehifaaSxAuto
namespace Go.Sx
open Go Go.RowKit

/-! ## Filling cells -/

theorem foldl_set {α : Type} (off : Nat) : ∀ (vs : List α) (k : Nat) (cs : List α), off + k + vs.length ≤ cs.length →
    (vs.zipIdx k).foldl (fun (c : Array α) (p : α × Nat) => c.setIfInBounds (off + p.2) p.1) cs.toArray = (putC cs (off + k) vs).toArray
  | [], k, cs, _ => by simp [putC]
  | v :: vs, k, cs, h => by
    simp only [List.length_cons] at h
    rw [List.zipIdx_cons, List.foldl_cons]
    have h1 : cs.toArray.setIfInBounds (off + k) v = (cs.set (off + k) v).toArray := by simp
    rw [h1, foldl_set off vs (k + 1) _ (by simp; omega)]
    congr 1
    simp only [putC]
    have hlt : off + k < cs.length := by omega
    rw [show off + (k + 1) = off + k + 1 by omega, List.take_succ_eq_append_getElem (by simpa using hlt)]
    simp only [List.getElem_set_self, List.take_set_of_le (Nat.le_refl _), List.length_cons, List.append_assoc]
    rw [List.drop_set_of_lt (by omega)]
    simp only [List.cons_append, List.nil_append]
    rw [show off + k + 1 + vs.length = off + k + (vs.length + 1) by omega]

/-- 'Instr.fill', of what the cells are said to hold. -/
def fillC (place : Nat → Option (Nat × Nat)) (cs : List C) : List (Nat × List C) → Option (List C)
  | [] => some cs
  | (i, vs) :: rest =>
    match place i with
    | none => none
    | some (off, size) => bif Nat.beq vs.length size && Nat.ble (off + vs.length) cs.length then fillC place (putC cs off vs) rest else none

theorem fillC_ok {ρ : Nat → RI} {w : World} {Im : Nat → Prop} {place : Nat → Option (Nat × Nat)} {ps : List (Nat × List C)} {qs : List (Nat × Value)}
    (hp : All2 (fun (p : Nat × List C) (q : Nat × Value) => p.1 = q.1 ∧ ∃ us : List Value, q.2.cells = us.toArray ∧ All2 (RepC ρ w Im) p.2 us) ps qs) :
    ∀ {cs cs' : List C} {us : List Value}, All2 (RepC ρ w Im) cs us → fillC place cs ps = some cs' → ∃ us' : List Value, Instr.fill place us.toArray qs = some us'.toArray ∧ All2 (RepC ρ w Im) cs' us' := by
  induction hp with
  | nil => intro cs cs' us ha h; injection h with h; subst h; exact ⟨us, rfl, ha⟩
  | @cons p q ps qs h1 _ ih =>
    intro cs cs' us ha h
    obtain ⟨i, vs⟩ := p
    obtain ⟨i', v⟩ := q
    obtain ⟨hi, ws, hc, hw⟩ := h1
    simp only at hi hc hw
    subst hi
    simp only [fillC] at h
    cases hpl : place i with
    | none => rw [hpl] at h; cases h
    | some os =>
      obtain ⟨off, size⟩ := os
      rw [hpl] at h
      simp only at h
      cases hb : (Nat.beq vs.length size && Nat.ble (off + vs.length) cs.length) with
      | false => rw [hb] at h; cases h
      | true =>
        rw [hb] at h
        simp only [Bool.and_eq_true, Nat.ble_eq] at hb
        have hb1 := Nat.eq_of_beq_eq_true hb.1
        have hl1 := hw.length
        have hl2 := ha.length
        obtain ⟨us', h3, h4⟩ := ih (all2_put ha off hw) h
        refine ⟨us', ?_, h4⟩
        rw [Instr.fill, hpl]
        simp only [hc, List.size_toArray]
        rw [if_neg (by simp; omega)]
        have hf := foldl_set off ws 0 us (by omega)
        have hz : ws.toArray.zipIdx = (ws.zipIdx 0).toArray := by simp
        rw [hz]
        simp only [List.foldl_toArray, Nat.add_zero] at hf ⊢
        simpa [hf] using h3

/-- The parts of a literal, as they are said. -/
def evP (σ : St) : List (Nat × Operand) → Option (List (Nat × List C))
  | [] => some []
  | (i, x) :: l => match ev σ x, evP σ l with
    | some v, some vs => (match v.cells with
      | some cs => some ((i, cs) :: vs)
      | none => none)
    | _, _ => none

def evPA (σ : St) : List (Nat × Operand) → List AV
  | [] => []
  | (_, x) :: l => ((ev σ x).getD (.tup [])) :: evPA σ l

section
variable {P : Program} {N : Nat} {E : Env P N} {σ : St} {a : Act} {w : World} {ρ : Nat → RI} {Im : Nat → Prop}

theorem evP_L : ∀ {l : List (Nat × Operand)} {ps : List (Nat × List C)}, evP σ l = some ps → evL σ (l.map (·.2)) = some (evPA σ l)
  | [], ps, h => rfl
  | (i, x) :: l, ps, h => by
    simp only [evP] at h
    cases hx : ev σ x with
    | none => simp [hx] at h
    | some v =>
      cases hl : evP σ l with
      | none => simp [hx, hl] at h
      | some vs => simp [evL, evPA, hx, evP_L hl]

theorem evP_of {σ' : St} : ∀ {l : List (Nat × Operand)} {ps : List (Nat × List C)}, evP σ l = some ps → evL σ' (l.map (·.2)) = some (evPA σ l) → evP σ' l = some ps
  | [], ps, h, _ => h
  | (i, x) :: l, ps, h, h' => by
    simp only [evP] at h ⊢
    cases hx : ev σ x with
    | none => simp [hx] at h
    | some v =>
      cases hl : evP σ l with
      | none => simp [hx, hl] at h
      | some vs =>
        simp only [List.map_cons, evPA, hx, Option.getD_some] at h'
        obtain ⟨v', vs', he, h1, h2⟩ := evL_cons h'
        injection he with e1 e2
        subst e1; subst e2
        rw [h1, evP_of hl h2]
        simpa [hx, hl] using h

theorem evP_ok (hs : SatAt E σ a w ρ Im) : ∀ {l : List (Nat × Operand)} {ps : List (Nat × List C)}, evP σ l = some ps →
    All2 (fun (p : Nat × List C) (q : Nat × Value) => p.1 = q.1 ∧ ∃ us : List Value, q.2.cells = us.toArray ∧ All2 (RepC ρ w Im) p.2 us) ps (l.map fun p => (p.1, a.eval p.2)) ∧
      ∀ nm, (ps.any fun p => p.2.any (·.mentions nm)) = true → σ (.b nm) ≠ none
  | [], ps, h => by injection h with h; subst h; exact ⟨.nil, fun nm h => by cases h⟩
  | (i, x) :: l, ps, h => by
    simp only [evP] at h
    cases hx : ev σ x with
    | none => simp [hx] at h
    | some v =>
      cases hl : evP σ l with
      | none => simp [hx, hl] at h
      | some vs =>
        simp only [hx, hl] at h
        cases hc : v.cells with
        | none => simp [hc] at h
        | some cs =>
          simp only [hc, Option.some.injEq] at h
          subst h
          obtain ⟨hr, hm⟩ := ev_ok hs hx
          obtain ⟨us, h1, h2⟩ := AV.cells_ok hr hc
          obtain ⟨h3, h4⟩ := evP_ok hs hl
          refine ⟨.cons ⟨rfl, us, h1, h2⟩ h3, fun nm hn => ?_⟩
          simp only [List.any_cons, Bool.or_eq_true] at hn
          rcases hn with hn | hn
          · exact hm nm (by rw [AV.cells_mentions hc]; exact hn)
          · exact h4 nm hn
end

/-- What stands in a filled struct stood in the zero or in a part. -/
theorem fillC_mentions {place : Nat → Option (Nat × Nat)} {nm : Nat} : ∀ {ps : List (Nat × List C)} {cs cs' : List C}, fillC place cs ps = some cs' → cs'.any (·.mentions nm) = true →
    cs.any (·.mentions nm) = true ∨ (ps.any fun p => p.2.any (·.mentions nm)) = true
  | [], cs, cs', h, hm => by injection h with h; subst h; exact .inl hm
  | (i, vs) :: ps, cs, cs', h, hm => by
    simp only [fillC] at h
    cases hpl : place i with
    | none => rw [hpl] at h; cases h
    | some os =>
      obtain ⟨off, size⟩ := os
      rw [hpl] at h
      simp only at h
      cases hb : (Nat.beq vs.length size && Nat.ble (off + vs.length) cs.length) with
      | false => rw [hb] at h; cases h
      | true =>
        rw [hb] at h
        simp only [List.any_cons, Bool.or_eq_true]
        rcases fillC_mentions h hm with h1 | h1
        · simp only [putC, List.any_append, Bool.or_eq_true] at h1
          rcases h1 with (h1 | h1) | h1
          · exact .inl (any_sub (fun c hc => List.mem_of_mem_take hc) h1)
          · exact .inr (.inl h1)
          · exact .inl (any_sub (fun c hc => List.mem_of_mem_drop hc) h1)
        · exact .inr (.inr h1)

/-- Sizes of the fields' types. -/
class FSz (P : Program) (l : List (Nat × TypeId)) (m : outParam (List (Nat × Nat))) : Prop where
  run : ∀ (w : World) (fs : List Field), fs.map (fun f => (f.offset, f.type)) = l → (fs.mapM (fun f => do pure (f.offset, ← sizeOf f.type) : Field → Sem (Nat × Nat))).run P w = .ok m w

instance FSz.nil {P : Program} : FSz P [] [] where
  run := fun w fs hf => by
    have : fs = [] := by simpa using hf
    subst this; rfl

instance FSz.cons {P : Program} {o t : Nat} {ti : TyI} {l : List (Nat × TypeId)} {m : List (Nat × Nat)} [ht : TyOK P t ti] [ih : FSz P l m] : FSz P ((o, t) :: l) ((o, ti.size) :: m) where
  run := fun w fs hf => by
    cases fs with
    | nil => cases hf
    | cons f fs =>
      simp only [List.map_cons, List.cons.injEq, Prod.mk.injEq] at hf
      obtain ⟨⟨rfl, rfl⟩, hf⟩ := hf
      simp only [List.mapM_cons, Sem.run_bind, ht.run_size, Result.andThen_ok, Sem.run_pure, ih.run w fs hf]

section
variable {P : Program} {N : Nat} {E : Env P N} {ops : Array Oper} {dr : Bool} {rest : List Oper} {σ : St} {tr : Trace} {K : St → Prop}
  {d : Nat} {t yt ty te : TypeId} {pos : String} {af : Array Edge} {gd : Option (Nat × Bool)} {gR : Upds} {x y z : Operand} {ti ei : TyI}

theorem vr_build {fl : List (Nat × TypeId)} {sz : List (Nat × Nat)} {zs cs : List C} {parts : List (Nat × Operand)} {ps : List (Nat × List C)} [ht : TyOK P t ti] (hg : GOK N ops σ gd gR) (hk : ti.k = .struct fl) [hsz : FSz P fl sz]
    (hz : zeroCs ti.zero = some zs) (hps : evP σ parts = some ps) (hf : fillC (sz[·]?) zs ps = some cs) (hN : Nat.blt d N = true)
    (k : VR E ops dr rest (σ.set d (.agg cs)) ((gR.map (·.1) ++ opLK (parts.map (·.2)), [.s d]) :: tr) K) : VR E ops dr (⟨some d, .build t parts.toArray, ty, pos, af, gd⟩ :: rest) σ tr K := by
  refine vr_val (x := .agg cs) (R := opLR (parts.map (·.2)) (evPA σ parts)) hg rfl hN (fun σ' a w ρ Im hs hR => ?_) (opLR_ok (evP_L hps)) (opLR_keys (evP_L hps)) k
  have h1 := evP_of hps (evL_of (evP_L hps) hR)
  obtain ⟨h2, h3⟩ := evP_ok hs h1
  obtain ⟨hz1, hz2⟩ := zeroCs_ok (ρ := ρ) (w := w) (Im := Im) hz
  obtain ⟨us', h4, h5⟩ := fillC_ok h2 hz1 hf
  rw [Array.toArray_toList] at h4
  obtain ⟨fs, hu, hfl⟩ := ht.struct hk
  refine ⟨.agg us'.toArray, ?_, ⟨us', rfl, h5⟩, fun nm hm => ?_⟩
  · have hm : (fs.mapM (fun f => do pure (f.offset, ← sizeOf f.type) : Field → Sem (Nat × Nat))).run P w = .ok sz.toArray w := by
      rw [Array.mapM_eq_mapM_toList]
      simp only [Sem.run_map, hsz.run w fs.toList hfl, Result.andThen_ok]
    have hpl : (fun (i : Nat) => sz.toArray[i]?) = (fun (i : Nat) => sz[i]?) := by funext i; simp
    have hparts : (parts.toArray.map fun (p : Nat × Operand) => (p.1, a.eval p.2)).toList = parts.map fun p => (p.1, a.eval p.2) := by simp
    simp only [execOp, Instr.build, Sem.run_bind, ht.run_zero, Result.andThen_ok, run_underlying hu, hm, hpl]
    have : (fun (x : Nat × Operand) => match x with | (i, x) => (i, a.eval x)) = fun (p : Nat × Operand) => (p.1, a.eval p.2) := by funext p; rfl
    rw [this, hparts, h4]
    rfl
  · rcases fillC_mentions hf hm with h | h
    · rw [hz2] at h; cases h
    · exact h3 nm h
end
end Go.Sx
