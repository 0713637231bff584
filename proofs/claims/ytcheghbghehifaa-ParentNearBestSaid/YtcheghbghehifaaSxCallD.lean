/-
  Sx, part 10: lending of own rows and boxes; function values handed on; the rules of calls.
-/
import Derived.Test.YtcheghbghehifaaSxCallC
namespace Go.Sx
open Go Go.RowKit

theorem flatten_get {α : Type} {sz : Nat} : ∀ {xs : List (List α)}, (∀ x ∈ xs, x.length = sz) → ∀ {i : Nat} {x : List α}, xs[i]? = some x → ∀ j, j < sz → xs.flatten[i * sz + j]? = x[j]?
  | [], _, i, x, h, _, _ => by simp at h
  | y :: ys, hl, 0, x, h, j, hj => by
    simp at h
    subst h
    rw [List.flatten_cons, Nat.zero_mul, Nat.zero_add, List.getElem?_append_left (by rw [hl y (by simp)]; exact hj)]
  | y :: ys, hl, i + 1, x, h, j, hj => by
    have hy : y.length = sz := hl y (by simp)
    rw [List.flatten_cons, List.getElem?_append_right (by rw [hy, Nat.succ_mul]; omega), hy]
    have : (i + 1) * sz + j - sz = i * sz + j := by rw [Nat.succ_mul]; omega
    rw [this]
    exact flatten_get (fun x hx => hl x (by simp [hx])) (by simpa using h) j hj

/-- What the caller holds, and what the callee reads it as: an own row may be lent as a slice to read. -/
inductive CR (σ : St) (L : List Nat) : C → C → Prop where
  | d {x : D} : CR σ L (.d x) (.d x)
  | nil {sz : Nat} {f : Nat → Nat → D} : CR σ L (.d .nils) (.d (.rd 0 sz f))
  | row {nm n T sz : Nat} {xs : List (List C)} {f : Nat → Nat → D} : nm ∈ L → σ (.b nm) = some (.k (.row T sz xs)) → n ≤ xs.length →
      (∀ (i : Nat) (x : List C), i < n → xs[i]? = some x → ∀ j, j < sz → x[j]? = some (.d (f i j))) → CR σ L (.row nm n) (.d (.rd n sz f))

inductive AR0 (σ : St) (L : List Nat) : AV → AV → Prop where
  | c {x y : C} : CR σ L x y → AR0 σ L (.c x) (.c y)
  | agg {cs cs' : List C} : All2 (CR σ L) cs cs' → AR0 σ L (.agg cs) (.agg cs')
  | ep {g : Nat → D} {m : Nat} : AR0 σ L (.ep g m) (.ep g m)
  | ptr {nm off : Nat} {cs : List C} {g : Nat → D} {m : Nat} : nm ∈ L → σ (.b nm) = some (.k (.box cs)) → (∀ j, j < m → cs[off + j]? = some (.d (g j))) → AR0 σ L (.c (.ptr nm off)) (.ep g m)

def DV.toAV : DV → AV
  | .d x => .c (.d x)
  | .agg xs => .agg (xs.map .d)

inductive AR (P : Program) (σ : St) (L : List Nat) : AV → AV → Prop where
  | of0 {x y : AV} : AR0 σ L x y → AR P σ L x y
  | clo {φ : List DV → DV → Prop} : AR P σ L (.clo φ) (.clo φ)
  | fnc {g : FuncId} {caps : List C} {eps : List AV} {φ : List DV → DV → Prop} : All2 (fun c y => AR0 σ L (.c c) y) caps eps → Enters P g →
      (∀ args res, φ args res → res.flat = true ∧ FnS P g (args.map DV.toAV ++ eps) [] res.toAV []) → AR P σ L (.fnc g caps) (.clo φ)

/-- The blocks that may be read: the immutable ones, and those that are lent. -/
def lentIm (σ : St) (ρ : Nat → RI) (Im : Nat → Prop) (L : List Nat) (b : Nat) : Prop :=
  Im b ∨ ∃ nm ∈ L, ∃ bk, σ (.b nm) = some (.k bk) ∧ bk.live = true ∧ (ρ nm).isNil = false ∧ (ρ nm).blk = b

section
variable {P : Program} {N : Nat} {E : Env P N} {σ : St} {a : Act} {w : World} {ρ ρ' : Nat → RI} {Im : Nat → Prop} {L : List Nat}

theorem CR.ok (hs : SatAt E σ a w ρ Im) {x y : C} {v : Value} (h : CR σ L x y) (hr : RepC ρ w Im x v) : RepC ρ' w (lentIm σ ρ Im L) y v := by
  cases h with
  | d => exact RepD.keep (fun b hb => ⟨.inl hb, rfl⟩) hr
  | nil =>
    have hr : v = .slice none 0 0 := hr
    exact ⟨by simp [maxLen], none, 0, hr, Nat.le_refl _, fun h => absurd h (Nat.lt_irrefl 0)⟩
  | @row nm n T sz xs f hL hb hn hf =>
    have hbk := hs.bk nm _ hb
    simp only [RepC] at hr
    unfold BlkOK at hbk
    cases hnil : (ρ nm).isNil with
    | true =>
      simp only [hnil, if_true] at hbk hr
      subst hbk
      have hn0 : n = 0 := by simpa using hn
      subst hn0
      subst hr
      exact ⟨by simp [maxLen], none, 0, rfl, by omega, fun h => absurd h (by omega)⟩
    | false =>
      simp only [hnil, Bool.false_eq_true, if_false] at hbk hr
      obtain ⟨us, spare, hh, ha, hlen, hcap, hle, hmax⟩ := hbk
      subst hr
      refine ⟨by omega, _, _, rfl, by omega, fun _ => ⟨_, _, rfl, .inr ⟨nm, hL, _, hb, rfl, hnil, rfl⟩, fun i hi j hj => ?_⟩⟩
      have hix : xs[i]? = some (xs[i]'(by omega)) := List.getElem?_eq_getElem (by omega)
      have hc := hf i _ hi hix j hj
      have hfl := flatten_get hlen hix j hj
      rw [hc] at hfl
      obtain ⟨u, hu, hru⟩ := ha.get hfl
      refine ⟨u, ?_, RepD.keep (w := w) (fun b hb => ⟨.inl hb, rfl⟩) hru⟩
      have hlt : i * sz + j < us.length := (List.getElem?_eq_some_iff.1 hu).1
      simp [World.cell?, hh, List.getElem?_append_left hlt, hu]

theorem AR0.ok {E' : Env P 0} (hs : SatAt E σ a w ρ Im) {x y : AV} {v : Value} (h : AR0 σ L x y) (hr : RepA E ρ w Im x v) : RepA E' ρ' w (lentIm σ ρ Im L) y v := by
  cases h with
  | c hc => exact CR.ok hs hc hr
  | agg hc =>
    obtain ⟨us, rfl, ha⟩ := hr
    refine ⟨us, rfl, ?_⟩
    clear E'
    induction hc generalizing us with
    | nil => cases ha; exact .nil
    | cons h1 _ ih => cases ha with
      | cons hr ha => exact .cons (CR.ok hs h1 hr) (ih _ ha)
  | ep =>
    obtain ⟨b, o, rfl, hb, hx⟩ := hr
    refine ⟨b, o, rfl, .inl hb, fun j hj => ?_⟩
    obtain ⟨u, hu, hru⟩ := hx j hj
    exact ⟨u, hu, RepD.keep (w := w) (fun b hb => ⟨.inl hb, rfl⟩) hru⟩
  | @ptr nm off cs g m hL hb hf =>
    have he : v = .pointer (some ⟨(ρ nm).blk, off, none⟩) := hr
    obtain ⟨hnil, us, T, hh, ha⟩ := hs.bk nm _ hb
    refine ⟨_, _, he, .inr ⟨nm, hL, _, hb, rfl, hnil, rfl⟩, fun j hj => ?_⟩
    obtain ⟨u, hu, hru⟩ := ha.get (hf j hj)
    refine ⟨u, ?_, RepD.keep (w := w) (fun b hb => ⟨.inl hb, rfl⟩) hru⟩
    simp [World.cell?, hh, hu]

theorem lentIm_lt (hs : SatAt E σ a w ρ Im) : ∀ b, lentIm σ ρ Im L b → b < w.heap.size := by
  intro b hb
  rcases hb with hb | ⟨nm, _, bk, h1, h2, h3, rfl⟩
  · exact (hs.im b hb).2.1
  · exact (hs.own nm bk h1 h2 h3).1

theorem RepDV.toAV {E' : Env P N} {x : DV} {v : Value} (h : RepDV w Im x v) : RepA E' ρ w Im x.toAV v := by
  cases x with
  | d x => exact h
  | agg xs => obtain ⟨us, rfl, ha⟩ := h; exact ⟨us, rfl, all2_map ha fun _ _ _ h' => h'⟩

theorem RepDV.ofAV {E' : Env P N} {x : DV} {v : Value} (h : RepA E' ρ w Im x.toAV v) : RepDV w Im x v := by
  cases x with
  | d x => exact h
  | agg xs =>
    obtain ⟨us, rfl, ha⟩ := h
    refine ⟨us, rfl, ?_⟩
    clear E'
    induction xs generalizing us with
    | nil => cases ha; exact .nil
    | cons x xs ih => cases ha with
      | cons hr ha => exact .cons hr (ih _ ha)

theorem memAt_empty {w : World} {ρ : Nat → RI} {Im S0 : Nat → Prop} (h : ∀ b, Im b → b < w.heap.size) : MemAt (⟨w, Im, S0⟩ : Env P 0) (stOf [] []) w ρ Im :=
  ⟨fun nm b hb => by simp [stOf, lookL] at hb, fun nm b hb => by simp [stOf, lookL] at hb, fun n1 n2 b1 b2 h1 => by simp [stOf, lookL] at h1,
    fun b hb => ⟨.inl hb, h b hb, fun nm bk hk => by simp [stOf, lookL] at hk⟩, Keep.refl _ _⟩

theorem AR.ok (hs : SatAt E σ a w ρ Im) {x y : AV} {v : Value} (h : AR P σ L x y) (hr : RepA E ρ w Im x v) : RepA (⟨w, lentIm σ ρ Im L, fun _ => False⟩ : Env P 0) ρ' w (lentIm σ ρ Im L) y v := by
  cases h with
  | of0 h => exact AR0.ok hs h hr
  | clo =>
    have hr : CloOK P E.w0 E.S0 _ v := hr
    exact hr.later fun w1 hk => hs.keep.step hk.os hk.tape hk.output hk.size fun b hb _ => hk.block b (Nat.lt_of_lt_of_le hb hs.keep.size) (fun h => h)
  | @fnc g caps eps φ hcaps hen hφ =>
    obtain ⟨us, rfl, ha⟩ := hr
    refine ⟨g, us.toArray, rfl, hen, fun args res hargs => ⟨(hφ args res hargs).1, fun w1 Im1 hk hIm1 vs hvs => ?_⟩⟩
    obtain ⟨hflat, _, hF⟩ := hφ args res hargs
    let ImX : Nat → Prop := fun b => Im1 b ∨ lentIm σ ρ Im L b
    have hX : ∀ b, ImX b → b < w1.heap.size := fun b hb => by
      rcases hb with hb | hb
      · exact hIm1 b hb
      · exact Nat.lt_of_lt_of_le (lentIm_lt hs b hb) hk.size
    have heps : All2 (RepA (⟨w1, ImX, fun _ => False⟩ : Env P 0) ρ w1 ImX) eps us := by
      have h1 : All2 (RepA (⟨w1, ImX, fun _ => False⟩ : Env P 0) ρ w (lentIm σ ρ Im L)) eps us := by
        clear hvs hargs hF hφ
        induction hcaps generalizing us with
        | nil => cases ha; exact .nil
        | cons h1 _ ih => cases ha with
          | cons hr ha => exact .cons (AR0.ok hs h1 hr) (ih _ ha)
      exact h1.imp fun _ _ _ h' => RepA.keep (fun b hb => ⟨.inr hb, hk.block b (lentIm_lt hs b hb) (fun h => h)⟩) (fun _ _ => rfl) h'
    have hargs' : All2 (RepA (⟨w1, ImX, fun _ => False⟩ : Env P 0) ρ w1 ImX) (args.map DV.toAV) vs :=
      all2_map hvs fun x _ v h' => RepA.keep (fun b hb => ⟨.inl hb, rfl⟩) (fun _ _ => rfl) (RepDV.toAV (E' := (⟨w1, ImX, fun _ => False⟩ : Env P 0)) (ρ := ρ) h')
    have hc := hF w1 ρ ImX (fun _ => False) (vs ++ us) (hargs'.append heps) (memAt_empty hX)
    have : vs.toArray ++ us.toArray = (vs ++ us).toArray := by simp
    rw [this]
    refine hc.mono fun e w' ⟨r, ρ2, Im2, he, hm, hres, _⟩ => ⟨r, he, RepDV.flat hflat (RepDV.ofAV hres), hm.keep.below (fun _ h => h)⟩

/-! ## Lists of operands -/

def evL (σ : St) : List Operand → Option (List AV)
  | [] => some []
  | x :: l => match ev σ x, evL σ l with
    | some v, some vs => some (v :: vs)
    | _, _ => none

def opLR : List Operand → List AV → Upds
  | x :: l, v :: vs => opR x v ++ opLR l vs
  | _, _ => []

def opLK : List Operand → List Key
  | [] => []
  | x :: l => opK x ++ opLK l

theorem evL_cons {x : Operand} {l : List Operand} {as : List AV} (h : evL σ (x :: l) = some as) : ∃ v vs, as = v :: vs ∧ ev σ x = some v ∧ evL σ l = some vs := by
  simp only [evL] at h
  split at h
  · rename_i v vs h1 h2
    injection h with h
    exact ⟨v, vs, h.symm, h1, h2⟩
  · cases h

theorem opLR_keys : ∀ {xs : List Operand} {as : List AV}, evL σ xs = some as → (opLR xs as).map (·.1) = opLK xs
  | [], as, h => by injection h with h; subst h; rfl
  | x :: l, as, h => by
    obtain ⟨v, vs, rfl, _, h2⟩ := evL_cons h
    simp only [opLR, opLK, List.map_append, opR_keys, opLR_keys h2]

theorem opLR_ok : ∀ {xs : List Operand} {as : List AV}, evL σ xs = some as → ∀ p ∈ opLR xs as, σ p.1 = p.2
  | [], as, h => by injection h with h; subst h; intro p hp; cases hp
  | x :: l, as, h => by
    obtain ⟨v, vs, rfl, h1, h2⟩ := evL_cons h
    exact reads_append (opR_ok h1) (opLR_ok h2)

theorem evL_of {σ' : St} : ∀ {xs : List Operand} {as : List AV}, evL σ xs = some as → (∀ p ∈ opLR xs as, σ' p.1 = p.2) → evL σ' xs = some as
  | [], as, h, _ => h
  | x :: l, as, h, hR => by
    obtain ⟨v, vs, rfl, h1, h2⟩ := evL_cons h
    have e1 := ev_of h1 (σ' := σ') fun p hp => hR p (List.mem_append_left _ hp)
    have e2 := evL_of h2 (σ' := σ') fun p hp => hR p (List.mem_append_right _ hp)
    simp only [evL, e1, e2]

theorem evL_ok (hs : SatAt E σ a w ρ Im) : ∀ {xs : List Operand} {as : List AV}, evL σ xs = some as → All2 (RepA E ρ w Im) as (xs.map a.eval)
  | [], as, h => by injection h with h; subst h; exact .nil
  | x :: l, as, h => by
    obtain ⟨v, vs, rfl, h1, h2⟩ := evL_cons h
    exact .cons (ev_ok hs h1).1 (evL_ok hs h2)
end

theorem CR.of_same {σ σ' : St} {L : List Nat} (hL : ∀ nm ∈ L, σ' (.b nm) = σ (.b nm)) {x y : C} (h : CR σ L x y) : CR σ' L x y := by
  cases h with
  | d => exact .d
  | nil => exact .nil
  | row h1 h2 h3 h4 => exact .row h1 (by rw [hL _ h1]; exact h2) h3 h4

theorem AR0.of_same {σ σ' : St} {L : List Nat} (hL : ∀ nm ∈ L, σ' (.b nm) = σ (.b nm)) {x y : AV} (h : AR0 σ L x y) : AR0 σ' L x y := by
  cases h with
  | c h => exact .c (h.of_same hL)
  | agg h => exact .agg (h.imp fun _ _ _ h' => h'.of_same hL)
  | ep => exact .ep
  | ptr h1 h2 h3 => exact .ptr h1 (by rw [hL _ h1]; exact h2) h3

theorem AR.of_same {P : Program} {σ σ' : St} {L : List Nat} (hL : ∀ nm ∈ L, σ' (.b nm) = σ (.b nm)) {x y : AV} (h : AR P σ L x y) : AR P σ' L x y := by
  cases h with
  | of0 h => exact .of0 (h.of_same hL)
  | clo => exact .clo
  | fnc h1 h2 h3 => exact .fnc (h1.imp fun _ _ _ h' => h'.of_same hL) h2 h3

section
variable {P : Program} {N : Nat} {E : Env P N} {ops : Array Oper} {dr : Bool} {rest : List Oper} {σ : St} {tr : Trace} {K : St → Prop}
  {d : Nat} {ty : TypeId} {pos : String} {af : Array Edge} {gd : Option (Nat × Bool)} {gR : Upds}

theorem vr_call {g : FuncId} {xs : List Operand} {ats : Array TypeId} {as cargs : List AV} {res : AV} {bo : List (Nat × Blk)} (L : List Nat) (hF : FnS P g cargs [] res bo) (hg : GOK N ops σ gd gR) (hxs : evL σ xs = some as)
    (hAR : All2 (AR P σ L) as cargs) (hfl : (L.isEmpty || (res.flat && bo.all fun p => p.2.flat)) = true) (hpl : res.plain = true) (hwf : wfRes res bo = true)
    (hfresh : (bo.all fun p => (σ (.b (1000 * d + p.1))).isNone) = true) (hN : Nat.blt d N = true)
    (k : VR E ops dr rest ((σ.upds (newB (1000 * d) bo)).set d (res.shift (1000 * d)))
      ((gR.map (·.1) ++ (opLK xs ++ (L.map Key.b ++ bo.map fun p => Key.b (1000 * d + p.1))), (newB (1000 * d) bo).map (·.1) ++ [.s d]) :: tr) K) :
    VR E ops dr (⟨some d, .call ⟨.value (.func g), xs.toArray, ats⟩, ty, pos, af, gd⟩ :: rest) σ tr K := by
  have hupds : ∀ (U V : Upds) (s : St), s.upds (U ++ V) = (s.upds U).upds V := by
    intro U V
    induction U with
    | nil => intro s; rfl
    | cons p U ih => intro s; exact ih _
  refine vr_do (R := opLR xs as ++ (L.map (fun nm => (.b nm, σ (.b nm))) ++ bo.map fun p => (.b (1000 * d + p.1), none))) (U := newB (1000 * d) bo ++ [(.s d, some (.v (res.shift (1000 * d))))])
    (kr := opLK xs ++ (L.map Key.b ++ bo.map fun p => Key.b (1000 * d + p.1))) (ku := (newB (1000 * d) bo).map (·.1) ++ [.s d]) hg (fun σ' a w ρ Im hs hR K Q hK => ?_)
    (reads_append (opLR_ok hxs) (reads_append (fun p hp => by obtain ⟨nm, _, rfl⟩ := List.mem_map.1 hp; rfl) (fun p hp => by
      obtain ⟨q, hq, rfl⟩ := List.mem_map.1 hp
      have := List.all_eq_true.1 hfresh q hq
      simpa using this))) (by simp [opLR_keys hxs, List.map_append, Function.comp_def]) (by simp) (by rw [hupds]; exact k)
  have h1 := evL_of hxs fun p hp => hR p (List.mem_append_left _ hp)
  have hL : ∀ nm ∈ L, σ' (.b nm) = σ (.b nm) := fun nm hnm => hR (.b nm, σ (.b nm)) (List.mem_append_right _ (List.mem_append_left _ (List.mem_map.2 ⟨nm, hnm, rfl⟩)))
  have hfr : ∀ p ∈ bo, σ' (.b (1000 * d + p.1)) = none := fun p hp => hR (.b (1000 * d + p.1), none) (List.mem_append_right _ (List.mem_append_right _ (List.mem_map.2 ⟨p, hp, rfl⟩)))
  have hargs := evL_ok hs h1
  have hcargs : All2 (RepA (⟨w, lentIm σ' ρ Im L, fun _ => False⟩ : Env P 0) ρ w (lentIm σ' ρ Im L)) cargs (xs.map a.eval) := by
    have hAR' : All2 (AR P σ' L) as cargs := hAR.imp fun _ _ _ h => h.of_same hL
    clear hAR h1 hxs hF k hR
    generalize xs.map a.eval = vs at hargs
    induction hAR' generalizing vs with
    | nil => cases hargs; exact .nil
    | cons h1 _ ih => cases hargs with
      | cons hr hargs => exact .cons (h1.ok hs hr) (ih _ hargs)
  obtain ⟨hen, hcall⟩ := hF
  have hc := hcall w ρ (lentIm σ' ρ Im L) (fun _ => False) (xs.map a.eval) hcargs (memAt_empty (lentIm_lt hs))
  unfold Oper.wp
  have hrun : (execOp a.eval ⟨some d, .call ⟨.value (.func g), xs.toArray, ats⟩, ty, pos, af, gd⟩).run P w = .ok (.enter g (xs.map a.eval).toArray) w := by
    have he : a.eval (.func g) = .func (.func g) #[] #[] := rfl
    simp only [execOp, resolve, Sem.run_bind, he, Deferred.ofValue, Sem.run_pure, Result.andThen_ok, invoke]
    have : (#[] ++ (xs.toArray.map a.eval) ++ #[] : Array Value) = (xs.map a.eval).toArray := by simp
    rw [this]
    exact hen _ _
  rw [hrun, Oper.upon_enter]
  refine hc.mono fun e w' ⟨v, ρ', Im', he, hm, hres, _⟩ => ?_
  subst he
  have hfl' : (∀ b, lentIm σ' ρ Im L b → Im b) ∨ (res.flat = true ∧ bo.all (fun p => p.2.flat) = true) := by
    simp only [Bool.or_eq_true, Bool.and_eq_true] at hfl
    rcases hfl with hl | hl
    · left
      intro b hb
      have : L = [] := by simpa using hl
      subst this
      rcases hb with hb | ⟨nm, hnm, _⟩
      · exact hb
      · cases hnm
    · exact .inr hl
  obtain ⟨ρ'', Im'', hs'', hr'', hm''⟩ := hs.after (k := 1000 * d) hm hres hfl' hpl hwf hfr
  refine hK _ _ ⟨ρ'', Im'', ?_⟩
  rw [hupds]
  exact hs''.put (by simpa using hN) hr'' hm''

end
end Go.Sx
