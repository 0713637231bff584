/-
  Sx, part 12: small rules for scripts: exits, splits on guards, tests that are decided.
-/
import Derived.Test.YtcheghbghehifaaSxSlice
namespace Go.Sx
open Go Go.RowKit

section
variable {next : St → Prop} {Q : Exit → St → Prop} {σ : St} {id id' : Nat}
theorem q_then_n (h : next σ) : thenQ next Q .normal σ := h
theorem q_then_x (h : Q (.exit id) σ) : thenQ next Q (.exit id) σ := h
theorem q_then_r (h : Q .ret σ) : thenQ next Q .ret σ := h
theorem q_blk_n (h : Q .normal σ) : blockQ id Q .normal σ := h
theorem q_blk_r (h : Q .ret σ) : blockQ id Q .ret σ := h
theorem q_blk_x (h : Q .normal σ) : blockQ id Q (.exit id) σ := by
  show (if id = id then Q .normal σ else Q (.exit id) σ)
  rw [if_pos rfl]; exact h
theorem q_blk_o (hne : Nat.beq id' id = false) (h : Q (.exit id') σ) : blockQ id Q (.exit id') σ := by
  show (if id' = id then Q .normal σ else Q (.exit id') σ)
  have : id' ≠ id := fun e => by subst e; simp at hne
  rw [if_neg this]; exact h
end

section
variable {P : Program} {N : Nat} {E : Env P N} {σ : St} {Q : Exit → St → Prop}
theorem vc_cond_t {c : Operand} {x y : Code} (hc : ev σ c = some (AB true)) (h : VC E x Q σ) : VC E (.cond c x y) Q σ := vc_cond hc (fun _ => h) (fun h => by cases h)
theorem vc_cond_f {c : Operand} {x y : Code} (hc : ev σ c = some (AB false)) (h : VC E y Q σ) : VC E (.cond c x y) Q σ := vc_cond hc (fun h => by cases h) (fun _ => h)
end

section
variable {P : Program} {N : Nat} {E : Env P N} {ops : Array Oper} {dr : Bool} {rest : List Oper} {σ : St} {tr : Trace} {K : St → Prop}
  {d : Nat} {dst : Option Tmp} {op : Op} {ty : TypeId} {pos : String} {af : Array Edge}

theorem put_undef {σ : St} {a : Act} {w : World} (h : Sat E σ a w) {d : Nat} (hd : Nat.blt d N = true) : Sat E (σ.upd (.s d) (some (.v (.tup [])))) (a.put (some d) undef) w := by
  obtain ⟨ρ, Im, h⟩ := h
  exact ⟨ρ, Im, h.put (by simpa using hd) ⟨[], rfl, .nil⟩ (fun nm hm => by cases hm)⟩

/-- What a guard reads. -/
inductive GNo (σ : St) (g : Nat) (want : Bool) : AV → Prop where
  | b {b : Bool} : σ (.s g) = some (.v (AB b)) → b = !want → GNo σ g want (AB b)
  | u : σ (.s g) = some (.v (.tup [])) → GNo σ g want (.tup [])

theorem not_wanted {o : Oper} {j g : Nat} {og : Oper} {want : Bool} {x : AV} {σ : St} {a : Act} {w : World} (hs : Sat E σ a w) (hj : ops[j]? = some og) (hd : og.dst = some g) (hgd : o.guard = some (j, want)) (h : GNo σ g want x) (hN : Nat.blt g N = true) :
    Region.wanted o (yielded ops a.tmps) = false := by
  obtain ⟨ρ, Im, hs'⟩ := hs
  have hN' : g < N := by simpa using hN
  cases h with
  | b hb hw =>
    have hy := yielded_ok hs' hj hd hb hN'
    subst hw
    simp only [Region.wanted, hgd, hy]
    cases want <;> rfl
  | u hb =>
    have h1 : a.tmps.getD g undef = .tuple #[] := by
      obtain ⟨us, hu, ha⟩ := hs'.fr g _ hb
      cases ha
      exact hu
    have h2 : a.tmps[g]? = some (.tuple #[]) := by
      have hg : g < a.tmps.size := by rw [hs'.size]; exact hN'
      simp [hg] at h1 ⊢
      exact h1
    have hy : yielded ops a.tmps j = none := by simp [yielded, hj, hd, h2]
    simp [Region.wanted, hgd, hy]

/-- The operation is passed over. -/
theorem vr_skip {j g : Nat} {og : Oper} {want : Bool} {x : AV} (hj : ops[j]? = some og) (hd : og.dst = some g) (h : GNo σ g want x) (hN : Nat.blt g N = true) (hN2 : Nat.blt d N = true)
    (k : VR E ops dr rest (σ.set d (.tup [])) (([.s g], [.s d]) :: tr) K) : VR E ops dr (⟨some d, op, ty, pos, af, some (j, want)⟩ :: rest) σ tr K := by
  have hx : σ (.s g) = some (.v x) := by cases h <;> assumption
  refine vr_step (R := [(.s g, some (.v x))]) (U := [(.s d, some (.v (.tup [])))]) ?_ (by intro p hp; rw [List.mem_singleton] at hp; subst hp; exact hx) rfl rfl k
  intro σ' a w K Q hs hR hK
  have hx' := hR _ (List.mem_singleton.2 rfl)
  have h' : GNo σ' g want x := by
    cases h with
    | b _ hw => exact .b hx' hw
    | u _ => exact .u hx'
  rw [if_neg (by rw [not_wanted hs hj hd rfl h' hN]; simp)]
  exact hK _ _ (put_undef hs hN2)

/-- .. one that has no slot. -/
theorem vr_skip0 {j g : Nat} {og : Oper} {want : Bool} {x : AV} (hj : ops[j]? = some og) (hd : og.dst = some g) (h : GNo σ g want x) (hN : Nat.blt g N = true)
    (k : VR E ops dr rest σ (([.s g], []) :: tr) K) : VR E ops dr (⟨none, op, ty, pos, af, some (j, want)⟩ :: rest) σ tr K := by
  have hx : σ (.s g) = some (.v x) := by cases h <;> assumption
  refine vr_step (R := [(.s g, some (.v x))]) (U := []) ?_ (by intro p hp; rw [List.mem_singleton] at hp; subst hp; exact hx) rfl rfl k
  intro σ' a w K Q hs hR hK
  have hx' := hR _ (List.mem_singleton.2 rfl)
  have h' : GNo σ' g want x := by
    cases h with
    | b _ hw => exact .b hx' hw
    | u _ => exact .u hx'
  rw [if_neg (by rw [not_wanted hs hj hd rfl h' hN]; simp)]
  exact hK _ _ hs

theorem vr_gsplit {j g : Nat} {og : Oper} {b want : Bool} (_hj : ops[j]? = some og) (_hd : og.dst = some g) (_hb : σ (.s g) = some (.v (AB b)))
    (ht : b = true → VR E ops dr (⟨dst, op, ty, pos, af, some (j, want)⟩ :: rest) σ tr K) (hf : b = false → VR E ops dr (⟨dst, op, ty, pos, af, some (j, want)⟩ :: rest) σ tr K) :
    VR E ops dr (⟨dst, op, ty, pos, af, some (j, want)⟩ :: rest) σ tr K := by
  cases b with
  | true => exact ht rfl
  | false => exact hf rfl
end


/-! ## Weaker states, loops, ends -/

def hasS (σ : St) : List (Nat × AV) → Prop
  | [] => True
  | p :: l => σ (.s p.1) = some (.v p.2) ∧ hasS σ l
def hasB (σ : St) : List (Nat × Blk) → Prop
  | [] => True
  | p :: l => σ (.b p.1) = some (.k p.2) ∧ hasB σ l

theorem hasS_look {σ : St} : ∀ {l : List (Nat × AV)}, hasS σ l → ∀ {n : Nat} {x : AV}, lookL l n = some x → σ (.s n) = some (.v x)
  | [], _, _, _, h => by cases h
  | p :: l, hs, n, x, h => by
    simp only [lookL] at h
    cases hb : Nat.beq p.1 n with
    | true =>
      rw [hb] at h
      have e : p.1 = n := by simpa using hb
      have e2 : p.2 = x := by simpa using h
      rw [← e, ← e2]; exact hs.1
    | false => rw [hb] at h; exact hasS_look hs.2 h
theorem hasB_look {σ : St} : ∀ {l : List (Nat × Blk)}, hasB σ l → ∀ {n : Nat} {x : Blk}, lookL l n = some x → σ (.b n) = some (.k x)
  | [], _, _, _, h => by cases h
  | p :: l, hs, n, x, h => by
    simp only [lookL] at h
    cases hb : Nat.beq p.1 n with
    | true =>
      rw [hb] at h
      have e : p.1 = n := by simpa using hb
      have e2 : p.2 = x := by simpa using h
      rw [← e, ← e2]; exact hs.1
    | false => rw [hb] at h; exact hasB_look hs.2 h

section
variable {P : Program} {N : Nat} {E : Env P N} {σ : St} {Q : Exit → St → Prop}

/-- What is written out, of what holds. -/
theorem le_of {l : List (Nat × AV)} {b : List (Nat × Blk)} (hs : hasS σ l) (hb : hasB σ b) (hwf : wfL l b = true) : Le E σ (stOf l b) := by
  intro a w ⟨ρ, Im, h⟩
  have hsb : ∀ n x, stOf l b (.b n) = some (.k x) → σ (.b n) = some (.k x) := fun n x hx => by
    simp only [stOf, Option.map_eq_some_iff] at hx
    obtain ⟨y, hy, e⟩ := hx
    injection e with e; subst e
    exact hasB_look hb hy
  refine ⟨ρ, Im, fun t x hx => ?_, fun n x hx => h.bk n x (hsb n x hx), fun n x hx => h.own n x (hsb n x hx), fun n1 n2 b1 b2 h1 h2 => h.inj n1 n2 b1 b2 (hsb _ _ h1) (hsb _ _ h2),
    fun c hc => ⟨(h.im c hc).1, (h.im c hc).2.1, fun n x hx => (h.im c hc).2.2 n x (hsb _ _ hx)⟩, stOf_wf hwf, h.defers, h.size, h.keep⟩
  simp only [stOf, Option.map_eq_some_iff] at hx
  obtain ⟨y, hy, e⟩ := hx
  injection e with e; subst e
  exact h.fr t y (hasS_look hs hy)

theorem vc_loopI {ι : Type} {c : Code} (I : ι → St) (Inv : ι → Prop) (μ : ι → Nat) (i₀ : ι) (hi : Inv i₀) (h₀ : Le E σ (I i₀))
    (round : ∀ i, Inv i → VC E c (thenQ (fun σ' => ∃ j, Inv j ∧ μ j < μ i ∧ Le E σ' (I j)) Q) (I i)) : VC E (.loop c) Q σ := by
  refine vc_loop (ι := { i // Inv i }) (fun i => I i.1) (fun i => μ i.1) ⟨i₀, hi⟩ h₀ fun i => (round i.1 i.2).mono fun e s h => ?_
  cases e with
  | normal =>
    obtain ⟨j, h1, h2, h3⟩ := h
    exact ⟨⟨j, h1⟩, h3, h2⟩
  | _ => exact h

/-- A slice's length is no more than the model bears. -/
theorem vc_bound {c : Code} {t n sz : Nat} {f : Nat → Nat → D} (hx : σ (.s t) = some (.v (AD (.rd n sz f)))) (h : n ≤ 9223372036854775807 → VC E c Q σ) : VC E c Q σ := by
  intro a w hs
  obtain ⟨ρ, Im, hs'⟩ := hs
  have hr : RepD w Im (.rd n sz f) (a.tmps.getD t undef) := hs'.fr t _ hx
  exact h (by have := hr.1; simpa [maxLen] using this) a w ⟨ρ, Im, hs'⟩
end

section
variable {P : Program} {σ : St} {t u v : Nat} {e : Exit}
theorem isRet_r : Exit.ret = .normal ∨ Exit.ret = .ret := .inr rfl
theorem isRet_n : Exit.normal = .normal ∨ Exit.normal = .ret := .inl rfl

theorem ret_bool {b b' : Bool} (he : e = .normal ∨ e = .ret) (hx : σ (.s t) = some (.v (AB b'))) (h : b = b') : retQ P [.tmp t] (AB b) [] e σ :=
  ⟨he, [AB b'], .tmp rfl hx .nil, by rw [h]; rfl, fun p hp => by cases hp⟩
theorem ret_int {k : IntKind} {b b' : Int} (he : e = .normal ∨ e = .ret) (hx : σ (.s t) = some (.v (AD (.int k b')))) (h : b = b') : retQ P [.tmp t] (AD (.int k b)) [] e σ :=
  ⟨he, [AD (.int k b')], .tmp rfl hx .nil, by rw [h]; rfl, fun p hp => by cases hp⟩
theorem ret_d {x x' : D} (he : e = .normal ∨ e = .ret) (hx : σ (.s t) = some (.v (AD x'))) (h : x = x') : retQ P [.tmp t] (AD x) [] e σ :=
  ⟨he, [AD x'], .tmp rfl hx .nil, by rw [h]; rfl, fun p hp => by cases hp⟩
theorem ret_d2 {x x' y y' : D} (he : e = .normal ∨ e = .ret) (hx : σ (.s t) = some (.v (AD x'))) (hy : σ (.s u) = some (.v (AD y'))) (h : x = x') (k : y = y') : retQ P [.tmp t, .tmp u] (.tup [AD x, AD y]) [] e σ :=
  ⟨he, [AD x', AD y'], .tmp rfl hx (.tmp rfl hy .nil), by rw [h, k]; rfl, fun p hp => by cases hp⟩
theorem ret_d3 {x x' y y' z z' : D} (he : e = .normal ∨ e = .ret) (hx : σ (.s t) = some (.v (AD x'))) (hy : σ (.s u) = some (.v (AD y'))) (hz : σ (.s v) = some (.v (AD z'))) (h : x = x') (k : y = y') (l : z = z') :
    retQ P [.tmp t, .tmp u, .tmp v] (.tup [AD x, AD y, AD z]) [] e σ :=
  ⟨he, [AD x', AD y', AD z'], .tmp rfl hx (.tmp rfl hy (.tmp rfl hz .nil)), by rw [h, k, l]; rfl, fun p hp => by cases hp⟩
end

/-! ## A typed list as a slice to read -/

def rdOf {α : Type} [Inhabited α] (enc : α → List D) (sz : Nat) (l : List α) : D := .rd l.length sz (fun i j => (enc (l.getD i default)).getD j .nils)

/-- The first code that is not nought. -/
def firstErr (n : Nat) (f : Nat → Int) : Int := ((List.range n).find? (fun i => f i != 0)).elim 0 f

theorem firstErr_none {n : Nat} {f : Nat → Int} (h : ∀ i, i < n → f i = 0) : firstErr n f = 0 := by
  have : (List.range n).find? (fun i => f i != 0) = none := List.find?_eq_none.2 fun i hi => by simp [h i (List.mem_range.1 hi)]
  rw [firstErr, this]; rfl

theorem firstErr_hit {n k : Nat} {f : Nat → Int} (h : ∀ i, i < k → f i = 0) (hk : k < n) (hne : f k ≠ 0) : firstErr n f = f k := by
  have : (List.range n).find? (fun i => f i != 0) = some k := by
    rw [List.find?_range_eq_some]
    exact ⟨by simp [hne], List.mem_range.2 hk, fun j hj => by simp [h j hj]⟩
  rw [firstErr, this]; rfl
end Go.Sx
