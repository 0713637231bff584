/-
  Sx, part 3: the judgements over code and operations, and the rules of the plain operations (numbers, tests, moves).
-/
import Derived.Test.YtcheghbghehifaaSxDraw
namespace Go.Sx
open Go Go.RowKit

/-! ## Operands -/

def constAV : Value → Option AV
  | .int k n => some (.c (.d (.int k n)))
  | .bool b => some (.c (.d (.bool b)))
  | .string s => some (.c (.d (.str s)))
  | .slice none 0 0 => some (.c (.d .nils))
  | .pointer none => some (.c (.d (.raw (.pointer none))))
  | .nilFunc => some (.c (.d (.raw .nilFunc)))
  | .nilIface => some (.c (.d (.raw .nilIface)))
  | .map none => some (.c (.d (.raw (.map none))))
  | _ => none

def ev (σ : St) : Operand → Option AV
  | .tmp t => match σ (.s t) with
    | some (.v x) => some x
    | _ => none
  | .const v => constAV v
  | .global _ => none
  | .func f => some (.fnc f [])

/-- What reading an operand asks of the state; the keys that it looks at. -/
def opR : Operand → AV → Upds
  | .tmp t, v => [(.s t, some (.v v))]
  | _, _ => []
def opK : Operand → List Key
  | .tmp t => [.s t]
  | _ => []

theorem opR_keys (x : Operand) (v : AV) : (opR x v).map (·.1) = opK x := by cases x <;> rfl

theorem opR_ok {σ : St} {x : Operand} {v : AV} (h : ev σ x = some v) : ∀ p ∈ opR x v, σ p.1 = p.2 := by
  intro p hp
  cases x with
  | tmp t =>
    simp only [opR, List.mem_singleton] at hp
    subst hp
    simp only [ev] at h
    split at h
    · rename_i y hy; injection h with h; subst h; exact hy
    · cases h
  | _ => simp [opR] at hp

theorem ev_of {σ σ' : St} {x : Operand} {v : AV} (h : ev σ x = some v) (hR : ∀ p ∈ opR x v, σ' p.1 = p.2) : ev σ' x = some v := by
  cases x with
  | tmp t =>
    have := hR (.s t, some (.v v)) (by simp [opR])
    simp only [ev]
    simp only at this
    rw [this]
  | const c => exact h
  | global g => exact h
  | func f => exact h

theorem constAV_ok {P : Program} {N : Nat} {E : Env P N} {ρ : Nat → RI} {w : World} {Im : Nat → Prop} {c : Value} {v : AV} (h : constAV c = some v) : RepA E ρ w Im v c ∧ ∀ nm, v.mentions nm = false := by
  unfold constAV at h
  split at h <;> first
    | (injection h with h; subst h; exact ⟨rfl, fun _ => rfl⟩)
    | (injection h with h; subst h; exact ⟨⟨rfl, rfl⟩, fun _ => rfl⟩)
    | cases h

theorem ev_ok {P : Program} {N : Nat} {E : Env P N} {σ : St} {a : Act} {w : World} {ρ : Nat → RI} {Im : Nat → Prop} (h : SatAt E σ a w ρ Im) {x : Operand} {v : AV} (hx : ev σ x = some v) :
    RepA E ρ w Im v (a.eval x) ∧ ∀ nm, v.mentions nm = true → σ (.b nm) ≠ none := by
  cases x with
  | tmp t =>
    simp only [ev] at hx
    split at hx
    · rename_i y hy
      injection hx with hx; subst hx
      exact ⟨h.fr t y hy, fun nm hm => h.wf _ _ hy nm hm⟩
    · cases hx
  | const c =>
    obtain ⟨h1, h2⟩ := constAV_ok (E := E) (ρ := ρ) (w := w) (Im := Im) hx
    exact ⟨h1, fun nm hm => by rw [h2] at hm; cases hm⟩
  | global g => cases hx
  | func f =>
    injection hx with hx; subst hx
    exact ⟨⟨[], rfl, .nil⟩, fun nm hm => by cases hm⟩

/-! ## Judgements -/

def St.set (σ : St) (d : Nat) (x : AV) : St := σ.upd (.s d) (some (.v x))

abbrev Trace := List (List Key × List Key)

/-- The rest of a region: it comes, step by step, to a state of K. -/
def VR {P : Program} {N : Nat} (E : Env P N) (ops : Array Oper) (dr : Bool) (rest : List Oper) (σ : St) (tr : Trace) (K : St → Prop) : Prop :=
  ∃ tr' σ', Runs E ops rest σ tr' σ' ∧ (dr = true → chk ops.toList (tr.reverse ++ tr') = true) ∧ K σ'

/-- A piece of code: from the state σ it comes to an exit and a state of Q. -/
def VC {P : Program} {N : Nat} (E : Env P N) (c : Code) (Q : Exit → St → Prop) (σ : St) : Prop :=
  ∀ a w, Sat E σ a w → c.wp P (fun e a' w' => ∃ σ', Sat E σ' a' w' ∧ Q e σ') a w

/-- Less is said. -/
def Le {P : Program} {N : Nat} (E : Env P N) (σ σ' : St) : Prop := ∀ a w, Sat E σ a w → Sat E σ' a w

section
variable {P : Program} {N : Nat} {E : Env P N} {ops : Array Oper} {dr : Bool} {rest : List Oper} {σ : St} {tr : Trace} {K : St → Prop}

theorem vr_nil (hK : K σ) : VR E ops false [] σ tr K := ⟨[], σ, .nil, (fun h => by cases h), hK⟩
theorem vr_nil_t (h : chk ops.toList tr.reverse = true) (hK : K σ) : VR E ops true [] σ tr K := ⟨[], σ, .nil, (fun _ => by simpa using h), hK⟩

theorem vr_step {o : Oper} {R U : Upds} (hact : Acts E ops o R U) (hR : ∀ p ∈ R, σ p.1 = p.2) {kr ku : List Key} (hkr : R.map (·.1) = kr) (hku : U.map (·.1) = ku)
    (h : VR E ops dr rest (σ.upds U) ((kr, ku) :: tr) K) : VR E ops dr (o :: rest) σ tr K := by
  obtain ⟨tr', σ', hr, hc, hK⟩ := h
  subst hkr; subst hku
  exact ⟨_, σ', .cons hact hR hr, fun hd => by simpa using hc hd, hK⟩

theorem yielded_ok {a : Act} {w : World} {ρ : Nat → RI} {Im : Nat → Prop} (hs : SatAt E σ a w ρ Im) {j g : Nat} {og : Oper} (hj : ops[j]? = some og) (hd : og.dst = some g) {b : Bool} (hb : σ (.s g) = some (.v (.c (.d (.bool b))))) (hN : g < N) :
    yielded ops a.tmps j = some b := by
  have h1 : a.tmps.getD g undef = .bool b := hs.fr g _ hb
  have h2 : a.tmps[g]? = some (.bool b) := by
    have hg : g < a.tmps.size := by rw [hs.size]; exact hN
    simp [hg] at h1 ⊢
    exact h1
  simp [yielded, hj, hd, h2]

end

/-- The operation's guard lets it by; what that asks of the state. -/
inductive GOK (N : Nat) (ops : Array Oper) (σ : St) : Option (Nat × Bool) → Upds → Prop where
  | none : GOK N ops σ none []
  | some {j g : Nat} {og : Oper} {want b : Bool} : ops[j]? = some og → og.dst = some g → σ (.s g) = some (.v (.c (.d (.bool b)))) → b = want → Nat.blt g N = true →
      GOK N ops σ (some (j, want)) [(.s g, some (.v (.c (.d (.bool b)))))]

section
variable {P : Program} {N : Nat} {E : Env P N} {ops : Array Oper} {dr : Bool} {rest : List Oper} {σ : St} {tr : Trace} {K : St → Prop}

theorem GOK.reads {gd : Option (Nat × Bool)} {gR : Upds} (h : GOK N ops σ gd gR) : ∀ p ∈ gR, σ p.1 = p.2 := by
  cases h with
  | none => intro p hp; cases hp
  | some h1 h2 h3 h4 h5 => intro p hp; rw [List.mem_singleton] at hp; subst hp; exact h3

theorem GOK.wanted {o : Oper} {gR : Upds} (h : GOK N ops σ o.guard gR) {σ' : St} {a : Act} {w : World} {ρ : Nat → RI} {Im : Nat → Prop} (hs : SatAt E σ' a w ρ Im) (hR : ∀ p ∈ gR, σ' p.1 = p.2) :
    Region.wanted o (yielded ops a.tmps) = true := by
  obtain ⟨dst, op, ty, pos, af, gd⟩ := o
  simp only at h
  cases h with
  | none => rfl
  | some h1 h2 h3 h4 h5 =>
    have hb := hR _ (List.mem_singleton.2 rfl)
    have hy := yielded_ok hs h1 h2 hb (by simpa using h5)
    simp [Region.wanted, hy, h4]

theorem acts_of {o : Oper} {gR R U : Upds} (hg : GOK N ops σ o.guard gR)
    (h : ∀ (σ : St) (a : Act) (w : World) (ρ : Nat → RI) (Im : Nat → Prop), SatAt E σ a w ρ Im → (∀ p ∈ R, σ p.1 = p.2) → ∀ (K : Act → World → Prop) (Q : Exit → Act → World → Prop), (∀ a' w', Sat E (σ.upds U) a' w' → K a' w') → o.wp P a w K Q) :
    Acts E ops o (gR ++ R) U := by
  intro σ a w K Q hs hR hK
  obtain ⟨ρ, Im, hs⟩ := hs
  rw [if_pos (hg.wanted hs fun p hp => hR p (List.mem_append_left _ hp))]
  exact .inl (h σ a w ρ Im hs (fun p hp => hR p (List.mem_append_right _ hp)) K Q hK)

theorem reads_append {R R' : Upds} (h : ∀ p ∈ R, σ p.1 = p.2) (h' : ∀ p ∈ R', σ p.1 = p.2) : ∀ p ∈ R ++ R', σ p.1 = p.2 := by
  intro p hp
  rcases List.mem_append.1 hp with hp | hp
  · exact h p hp
  · exact h' p hp

/-- A step whose operation is let by. -/
theorem vr_do {o : Oper} {gR R U : Upds} (hg : GOK N ops σ o.guard gR)
    (h : ∀ (σ : St) (a : Act) (w : World) (ρ : Nat → RI) (Im : Nat → Prop), SatAt E σ a w ρ Im → (∀ p ∈ R, σ p.1 = p.2) → ∀ (K : Act → World → Prop) (Q : Exit → Act → World → Prop), (∀ a' w', Sat E (σ.upds U) a' w' → K a' w') → o.wp P a w K Q)
    (hR : ∀ p ∈ R, σ p.1 = p.2) {kr ku : List Key} (hkr : R.map (·.1) = kr) (hku : U.map (·.1) = ku) (k : VR E ops dr rest (σ.upds U) ((gR.map (·.1) ++ kr, ku) :: tr) K) : VR E ops dr (o :: rest) σ tr K :=
  vr_step (acts_of hg h) (reads_append hg.reads hR) (by rw [List.map_append, hkr]) hku k

/-- An operation that yields a value and leaves the world alone. -/
theorem vr_val {o : Oper} {d : Nat} {x : AV} {gR R : Upds} (hg : GOK N ops σ o.guard gR) (hd : o.dst = some d) (hN : Nat.blt d N = true)
    (h : ∀ (σ : St) (a : Act) (w : World) (ρ : Nat → RI) (Im : Nat → Prop), SatAt E σ a w ρ Im → (∀ p ∈ R, σ p.1 = p.2) →
      ∃ v, (execOp a.eval o).run P w = .ok (.value v) w ∧ RepA E ρ w Im x v ∧ ∀ nm, x.mentions nm = true → σ (.b nm) ≠ none)
    (hR : ∀ p ∈ R, σ p.1 = p.2) {kr : List Key} (hkr : R.map (·.1) = kr) (k : VR E ops dr rest (σ.set d x) ((gR.map (·.1) ++ kr, [.s d]) :: tr) K) : VR E ops dr (o :: rest) σ tr K := by
  refine vr_do (U := [(.s d, some (.v x))]) hg (fun σ a w ρ Im hs hR K Q hK => ?_) hR hkr rfl k
  obtain ⟨v, hrun, hrep, hm⟩ := h σ a w ρ Im hs hR
  unfold Oper.wp
  rw [hrun]
  show K (a.put o.dst v) w
  rw [hd]
  exact hK _ _ ⟨ρ, Im, hs.put (by simpa using hN) hrep hm⟩

theorem vr_un {o : Oper} {d : Nat} {x : Operand} {vx v : AV} {gR : Upds} (hg : GOK N ops σ o.guard gR) (hd : o.dst = some d) (hx : ev σ x = some vx) (hN : Nat.blt d N = true)
    (h : ∀ (σ : St) (a : Act) (w : World) (ρ : Nat → RI) (Im : Nat → Prop), SatAt E σ a w ρ Im → RepA E ρ w Im vx (a.eval x) →
      ∃ u, (execOp a.eval o).run P w = .ok (.value u) w ∧ RepA E ρ w Im v u) (hm : ∀ nm, v.mentions nm = true → vx.mentions nm = true)
    (k : VR E ops dr rest (σ.set d v) ((gR.map (·.1) ++ opK x, [.s d]) :: tr) K) : VR E ops dr (o :: rest) σ tr K :=
  vr_val (R := opR x vx) hg hd hN (fun σ a w ρ Im hs hR => by
    have hx' := ev_of hx hR
    obtain ⟨hr, hmx⟩ := ev_ok hs hx'
    obtain ⟨u, h1, h2⟩ := h σ a w ρ Im hs hr
    exact ⟨u, h1, h2, fun nm hn => hmx nm (hm nm hn)⟩) (opR_ok hx) (opR_keys x vx) k

theorem vr_bin {o : Oper} {d : Nat} {x y : Operand} {vx vy v : AV} {gR : Upds} (hg : GOK N ops σ o.guard gR) (hd : o.dst = some d) (hx : ev σ x = some vx) (hy : ev σ y = some vy) (hN : Nat.blt d N = true)
    (h : ∀ (σ : St) (a : Act) (w : World) (ρ : Nat → RI) (Im : Nat → Prop), SatAt E σ a w ρ Im → RepA E ρ w Im vx (a.eval x) → RepA E ρ w Im vy (a.eval y) →
      ∃ u, (execOp a.eval o).run P w = .ok (.value u) w ∧ RepA E ρ w Im v u) (hm : ∀ nm, v.mentions nm = true → vx.mentions nm = true ∨ vy.mentions nm = true)
    (k : VR E ops dr rest (σ.set d v) ((gR.map (·.1) ++ (opK x ++ opK y), [.s d]) :: tr) K) : VR E ops dr (o :: rest) σ tr K :=
  vr_val (R := opR x vx ++ opR y vy) hg hd hN (fun σ a w ρ Im hs hR => by
    have hx' := ev_of hx (fun p hp => hR p (List.mem_append_left _ hp))
    have hy' := ev_of hy (fun p hp => hR p (List.mem_append_right _ hp))
    obtain ⟨hr, hmx⟩ := ev_ok hs hx'
    obtain ⟨hr', hmy⟩ := ev_ok hs hy'
    obtain ⟨u, h1, h2⟩ := h σ a w ρ Im hs hr hr'
    exact ⟨u, h1, h2, fun nm hn => (hm nm hn).elim (hmx nm) (hmy nm)⟩) (reads_append (opR_ok hx) (opR_ok hy)) (by rw [List.map_append, opR_keys, opR_keys]) k
end

/-! ## Code -/

def thenQ (next : St → Prop) (Q : Exit → St → Prop) : Exit → St → Prop
  | .normal, σ => next σ
  | e, σ => Q e σ

def blockQ (id : Nat) (Q : Exit → St → Prop) : Exit → St → Prop
  | .exit id', σ => if id' = id then Q .normal σ else Q (.exit id') σ
  | e, σ => Q e σ

section
variable {P : Program} {N : Nat} {E : Env P N} {σ : St} {Q : Exit → St → Prop}

theorem Le.refl (σ : St) : Le E σ σ := fun _ _ h => h
theorem Le.trans {σ₁ σ₂ σ₃ : St} (h : Le E σ₁ σ₂) (k : Le E σ₂ σ₃) : Le E σ₁ σ₃ := fun a w hs => k a w (h a w hs)
theorem VC.le {c : Code} {σ' : St} (h : Le E σ σ') (k : VC E c Q σ') : VC E c Q σ := fun a w hs => k a w (h a w hs)
theorem VC.mono {c : Code} {Q' : Exit → St → Prop} (k : VC E c Q σ) (hQ : ∀ e σ, Q e σ → Q' e σ) : VC E c Q' σ :=
  fun a w hs => wp_mono (k a w hs) fun e _ _ ⟨σ', h1, h2⟩ => ⟨σ', h1, hQ e σ' h2⟩

theorem vc_skip (h : Q .normal σ) : VC E .skip Q σ := fun _ _ hs => wp_skip ⟨σ, hs, h⟩
theorem vc_label {l : Nat} (h : Q .normal σ) : VC E (.label l) Q σ := fun _ _ hs => wp_label ⟨σ, hs, h⟩
theorem vc_ret (h : Q .ret σ) : VC E .ret Q σ := fun _ _ hs => wp_ret ⟨σ, hs, h⟩
theorem vc_exit {id : Nat} (h : Q (.exit id) σ) : VC E (.exit id) Q σ := fun _ _ hs => wp_exit ⟨σ, hs, h⟩
theorem vc_seq {x y : Code} (h : VC E x (thenQ (VC E y Q) Q) σ) : VC E (.seq x y) Q σ := fun a w hs =>
  wp_seq (wp_mono (h a w hs) fun e a' w' ⟨σ', h1, h2⟩ => by
    cases e with
    | normal => exact h2 a' w' h1
    | _ => exact ⟨σ', h1, h2⟩)
theorem vc_block {id : Nat} {c : Code} (h : VC E c (blockQ id Q) σ) : VC E (.block id c) Q σ := fun a w hs =>
  wp_block (wp_mono (h a w hs) fun e a' w' ⟨σ', h1, h2⟩ => by
    cases e with
    | exit id' =>
      simp only [blockQ] at h2
      simp only [Exit.inBlock]
      split
      · rename_i he; rw [if_pos he] at h2; exact ⟨σ', h1, h2⟩
      · rename_i he; rw [if_neg he] at h2; exact ⟨σ', h1, h2⟩
    | _ => exact ⟨σ', h1, h2⟩)
theorem vc_cond {c : Operand} {x y : Code} {b : Bool} (hc : ev σ c = some (.c (.d (.bool b)))) (ht : b = true → VC E x Q σ) (hf : b = false → VC E y Q σ) : VC E (.cond c x y) Q σ := fun a w hs => by
  obtain ⟨ρ, Im, hs'⟩ := hs
  have he : a.eval c = .bool b := (ev_ok hs' hc).1
  cases b with
  | true => exact wp_cond_true he (ht rfl a w ⟨ρ, Im, hs'⟩)
  | false => exact wp_cond_false he (hf rfl a w ⟨ρ, Im, hs'⟩)
theorem vc_region {id : Nat} {l : List Oper} (h : VR E l.toArray false l σ [] (Q .normal)) : VC E (.region id l.toArray false) Q σ := fun a w hs => by
  obtain ⟨tr, σ', hr, _, hK⟩ := h
  exact wp_region_lit (wpList_of_runs hr (fun a' w' h' => ⟨σ', h', hK⟩) a w hs)

class Mixed (P : Program) : Prop where
  out : P.follows .mixedOrders = true

theorem vc_region_t [hm : Mixed P] {id : Nat} {l : List Oper} (h : VR E l.toArray true l σ [] (Q .normal)) : VC E (.region id l.toArray true) Q σ := fun a w hs => by
  obtain ⟨tr, σ', hr, hc, hK⟩ := h
  exact wp_region_draw_runs hm.out hr (by simpa using hc rfl) (fun a' w' h' => ⟨σ', h', hK⟩) hs

theorem vc_loop {ι : Type} {c : Code} (I : ι → St) (μ : ι → Nat) (i₀ : ι) (h₀ : Le E σ (I i₀))
    (round : ∀ i, VC E c (thenQ (fun σ' => ∃ j, Le E σ' (I j) ∧ μ j < μ i) Q) (I i)) : VC E (.loop c) Q σ := by
  intro a w hs b k cs
  have key : ∀ n i a w, μ i = n → Sat E (I i) a w →
      ∃ e a' w', (∃ σ', Sat E σ' a' w' ∧ Q e σ') ∧ Arrives P (lone (b.at a (.code c :: .inLoop c :: k)) cs w) b k cs e a' w' := by
    intro n
    induction n using Nat.strongRecOn with
    | _ n ih =>
      intro i a w hn hI
      obtain ⟨e, a₁, w₁, ⟨σ₁, hs₁, hq⟩, harr⟩ := round i a w hI b (.inLoop c :: k) cs
      cases e with
      | normal =>
        obtain ⟨j, hle, hlt⟩ := hq
        obtain ⟨e₂, a₂, w₂, hq₂, harr₂⟩ := ih (μ j) (hn ▸ hlt) j a₁ w₁ rfl (hle a₁ w₁ hs₁)
        exact ⟨e₂, a₂, w₂, hq₂, .of_steps (Steps.trans harr (.one step_inLoop)) harr₂⟩
      | exit id => exact ⟨_, a₁, w₁, ⟨σ₁, hs₁, hq⟩, .pass (x := .inLoop c) rfl (fun _ _ => .inl (by simp)) harr⟩
      | goto l => exact ⟨_, a₁, w₁, ⟨σ₁, hs₁, hq⟩, .pass (x := .inLoop c) rfl (fun _ _ => .inl (by simp)) harr⟩
      | ret => exact ⟨_, a₁, w₁, ⟨σ₁, hs₁, hq⟩, .pass (x := .inLoop c) rfl (fun _ _ => .inl (by simp)) harr⟩
      | panic ch => exact ⟨_, a₁, w₁, ⟨σ₁, hs₁, hq⟩, .pass (x := .inLoop c) rfl (fun _ _ => .inl (by simp)) harr⟩
      | outgrown => exact ⟨_, a₁, w₁, ⟨σ₁, hs₁, hq⟩, .pass (x := .inLoop c) rfl (fun _ _ => .inl (by simp)) harr⟩
  obtain ⟨e, a', w', hq, harr⟩ := key _ i₀ a w rfl (h₀ a w hs)
  exact ⟨e, a', w', hq, .of_steps (.one step_loop) harr⟩
end

/-- The guard is not decided: both cases. -/
theorem vr_split {P : Program} {N : Nat} {E : Env P N} {ops : Array Oper} {dr : Bool} {rest : List Oper} {σ : St} {tr : Trace} {K : St → Prop} (b : Bool)
    (ht : b = true → VR E ops dr rest σ tr K) (hf : b = false → VR E ops dr rest σ tr K) : VR E ops dr rest σ tr K := by
  cases b with
  | true => exact ht rfl
  | false => exact hf rfl

end Go.Sx
