/-
  Sx, part 8: a call of a named function, by what it does. Own rows and boxes may be lent to it for reading.
-/
import Derived.Test.YtcheghbghehifaaSxCall
namespace Go.Sx
open Go Go.RowKit

/-! ## Shifted names -/

def C.shift (k : Nat) : C → C
  | .d x => .d x
  | .ptr n o => .ptr (k + n) o
  | .row n m => .row (k + n) m

def AV.shift0 (k : Nat) : AV → AV
  | .c x => .c (x.shift k)
  | .agg cs => .agg (cs.map (C.shift k))
  | .tup vs => .tup vs
  | .ep g m => .ep g m
  | .rp n sz i o => .rp (k + n) sz i o
  | .clo φ => .clo φ
  | .fnc f caps => .fnc f (caps.map (C.shift k))

def AV.shift (k : Nat) : AV → AV
  | .tup vs => .tup (vs.map (AV.shift0 k))
  | x => x.shift0 k

def Blk.shift (k : Nat) : Blk → Blk
  | .box cs => .box (cs.map (C.shift k))
  | .row T sz xs => .row T sz (xs.map fun cs => cs.map (C.shift k))
  | .dead => .dead

/-! ## What does not hang on the immutable blocks; what holds no function -/

def C.flat : C → Bool
  | .d x => x.flat
  | _ => true
def AV.flat0 : AV → Bool
  | .c x => x.flat
  | .agg cs => cs.all C.flat
  | .rp _ _ _ _ => true
  | _ => false
def AV.flat : AV → Bool
  | .tup vs => vs.all AV.flat0
  | x => x.flat0
def Blk.flat : Blk → Bool
  | .box cs => cs.all C.flat
  | .row _ _ xs => xs.all fun cs => cs.all C.flat
  | .dead => true
def AV.plain0 : AV → Bool
  | .c _ => true
  | .agg _ => true
  | .ep _ _ => true
  | .rp _ _ _ _ => true
  | _ => false
def AV.plain : AV → Bool
  | .tup vs => vs.all AV.plain0
  | x => x.plain0

section
variable {ρ ρ' : Nat → RI} {w w' : World} {Im Im' : Nat → Prop} {k : Nat}

/-- Either the immutable blocks stay immutable, or nothing hangs on them. -/
def Carries (w w' : World) (Im Im' : Nat → Prop) (fl : Bool) : Prop := fl = true ∨ ∀ b, Im b → Im' b ∧ w'.heap[b]? = w.heap[b]?

theorem Carries.d {x : D} {v : Value} (hc : Carries w w' Im Im' x.flat) (h : RepD w Im x v) : RepD w' Im' x v := by
  rcases hc with hf | hk
  · exact RepD.flat hf h
  · exact RepD.keep hk h

theorem C.shift_ok {c : C} {v : Value} (hc : Carries w w' Im Im' c.flat) (hρ : ∀ n ∈ c.names, ρ' (k + n) = ρ n) (h : RepC ρ w Im c v) : RepC ρ' w' Im' (c.shift k) v := by
  cases c with
  | d x => exact Carries.d hc h
  | ptr n o => simp only [RepC, C.shift] at h ⊢; rw [hρ n (by simp [C.names])]; exact h
  | row n m => simp only [RepC, C.shift] at h ⊢; rw [hρ n (by simp [C.names])]; exact h

theorem all2_map {α α' β : Type} {R : α → β → Prop} {S : α' → β → Prop} {f : α → α'} {l : List α} {l' : List β} (h : All2 R l l') (hRS : ∀ a ∈ l, ∀ b, R a b → S (f a) b) : All2 S (l.map f) l' := by
  induction h with
  | nil => exact .nil
  | cons hr _ ih => exact .cons (hRS _ (by simp) _ hr) (ih fun a ha => hRS a (by simp [ha]))

theorem Carries.sub {x y : Bool} (h : Carries w w' Im Im' x) (hxy : x = true → y = true) : Carries w w' Im Im' y := h.imp hxy id

theorem Cs.shift_ok {cs : List C} {us : List Value} (hc : Carries w w' Im Im' (cs.all C.flat)) (hρ : ∀ n ∈ cs.flatMap C.names, ρ' (k + n) = ρ n) (h : All2 (RepC ρ w Im) cs us) : All2 (RepC ρ' w' Im') (cs.map (C.shift k)) us :=
  all2_map h fun c hcs _ h' => C.shift_ok (hc.sub fun ha => List.all_eq_true.1 ha c hcs) (fun n hn => hρ n (List.mem_flatMap.2 ⟨c, hcs, hn⟩)) h'

theorem AV.shift_ok0 {P : Program} {N N' : Nat} {E : Env P N} {E' : Env P N'} {x : AV} {v : Value} (hp : x.plain0 = true) (hc : Carries w w' Im Im' x.flat0) (hρ : ∀ n ∈ x.names0, ρ' (k + n) = ρ n) (h : RepA0 E ρ w Im x v) : RepA0 E' ρ' w' Im' (x.shift0 k) v := by
  cases x with
  | c x => exact C.shift_ok hc hρ h
  | agg cs => obtain ⟨us, rfl, ha⟩ := h; exact ⟨us, rfl, Cs.shift_ok hc hρ ha⟩
  | tup vs => cases hp
  | ep g m =>
    obtain ⟨b, o, rfl, hb, hx⟩ := h
    rcases hc with hf | hk
    · cases hf
    · refine ⟨b, o, rfl, (hk b hb).1, fun j hj => ?_⟩
      obtain ⟨u, hu, hru⟩ := hx j hj
      exact ⟨u, (World.cell?_of_block (hk b hb).2).trans hu, RepD.keep hk hru⟩
  | rp n sz i o => simp only [RepA0, AV.shift0] at h ⊢; rw [hρ n (by simp [AV.names0])]; exact h
  | clo φ => cases hp
  | fnc f caps => cases hp

theorem AV.shift_ok {P : Program} {N N' : Nat} {E : Env P N} {E' : Env P N'} {x : AV} {v : Value} (hp : x.plain = true) (hc : Carries w w' Im Im' x.flat) (hρ : ∀ n ∈ x.names, ρ' (k + n) = ρ n) (h : RepA E ρ w Im x v) : RepA E' ρ' w' Im' (x.shift k) v := by
  cases x with
  | tup vs =>
    obtain ⟨us, rfl, ha⟩ := h
    simp only [AV.plain, List.all_eq_true] at hp
    exact ⟨us, rfl, all2_map ha fun y hy _ h' => AV.shift_ok0 (hp y hy) (hc.sub fun hf => List.all_eq_true.1 hf y hy) (fun n hn => hρ n (List.mem_flatMap.2 ⟨y, hy, hn⟩)) h'⟩
  | c x => exact AV.shift_ok0 (E := E) (E' := E') (x := .c x) hp hc hρ h
  | agg cs => exact AV.shift_ok0 (E := E) (E' := E') (x := .agg cs) hp hc hρ h
  | ep g m => exact AV.shift_ok0 (E := E) (E' := E') (x := .ep g m) hp hc hρ h
  | rp n sz i o => exact AV.shift_ok0 (E := E) (E' := E') (x := .rp n sz i o) hp hc hρ h
  | clo φ => cases hp
  | fnc f caps => cases hp

theorem Blk.shift_ok {b : Blk} {n : Nat} (hc : Carries w w' Im Im' b.flat) (hn : ρ' (k + n) = ρ n) (hh : (ρ n).isNil = false → b.live = true → w'.heap[(ρ n).blk]? = w.heap[(ρ n).blk]?) (hρ : ∀ m ∈ b.names, ρ' (k + m) = ρ m) (h : BlkOK ρ w Im n b) : BlkOK ρ' w' Im' (k + n) (b.shift k) := by
  cases b with
  | box cs =>
    obtain ⟨hnil, us, T, h1, h2⟩ := h
    exact ⟨by rw [hn]; exact hnil, us, T, by rw [hn, hh hnil rfl]; exact h1, Cs.shift_ok hc hρ h2⟩
  | row T sz xs =>
    unfold BlkOK at h
    unfold BlkOK Blk.shift
    simp only
    rw [hn]
    cases hnil : (ρ n).isNil with
    | true => simp only [hnil, if_true] at h ⊢; rw [h]; rfl
    | false =>
      simp only [hnil, Bool.false_eq_true, if_false] at h ⊢
      obtain ⟨us, spare, h1, h2, h3, h4, h5, h6⟩ := h
      refine ⟨us, spare, by rw [hh hnil rfl]; exact h1, ?_, ?_, h4, by simpa using h5, h6⟩
      · have hfl : (xs.map fun cs => cs.map (C.shift k)).flatten = xs.flatten.map (C.shift k) := by
          rw [← List.map_flatten]
        rw [hfl]
        refine Cs.shift_ok (hc.sub fun hf => ?_) (fun m hm => hρ m ?_) h2
        · simp only [Blk.flat, List.all_eq_true] at hf ⊢
          intro c hc'
          obtain ⟨l, hl, hcl⟩ := List.mem_flatten.1 hc'
          exact hf l hl c hcl
        · obtain ⟨c, hc', hmc⟩ := List.mem_flatMap.1 hm
          obtain ⟨l, hl, hcl⟩ := List.mem_flatten.1 hc'
          exact List.mem_flatMap.2 ⟨l, hl, List.mem_flatMap.2 ⟨c, hcl, hmc⟩⟩
      · intro x hx
        obtain ⟨y, hy, rfl⟩ := List.mem_map.1 hx
        simpa using h3 y hy
  | dead => trivial
end

/-! ## New blocks of a call -/

def newB (k : Nat) (bo : List (Nat × Blk)) : Upds := bo.map fun p => (.b (k + p.1), some (.k (p.2.shift k)))

def nodupB : List (Nat × Blk) → Bool
  | [] => true
  | p :: l => (lookL l p.1).isNone && nodupB l

theorem upds_newB_s (k : Nat) (t : Nat) : ∀ (bo : List (Nat × Blk)) (σ : St), σ.upds (newB k bo) (.s t) = σ (.s t)
  | [], _ => rfl
  | p :: l, σ => by
    show (σ.upd (.b (k + p.1)) _).upds (newB k l) (.s t) = _
    rw [upds_newB_s k t l, St.upd_other _ _ (by intro e; cases e)]

theorem upds_newB_old (k n : Nat) : ∀ (bo : List (Nat × Blk)) (σ : St), (∀ p ∈ bo, k + p.1 ≠ n) → σ.upds (newB k bo) (.b n) = σ (.b n)
  | [], _, _ => rfl
  | p :: l, σ, h => by
    show (σ.upd (.b (k + p.1)) _).upds (newB k l) (.b n) = _
    rw [upds_newB_old k n l _ (fun q hq => h q (by simp [hq])), St.upd_other _ _ (by intro e; injection e with e; exact h p (by simp) e)]

theorem upds_newB_new (k : Nat) : ∀ (bo : List (Nat × Blk)) (σ : St), nodupB bo = true → ∀ n b, lookL bo n = some b → σ.upds (newB k bo) (.b (k + n)) = some (.k (b.shift k))
  | [], _, _, _, _, h => by cases h
  | p :: l, σ, hnd, n, b, h => by
    obtain ⟨m, y⟩ := p
    simp only [nodupB, Bool.and_eq_true] at hnd
    show (σ.upd (.b (k + m)) _).upds (newB k l) (.b (k + n)) = _
    by_cases hmn : m = n
    · subst hmn
      have hy : y = b := by
        simp only [lookL] at h
        have : Nat.beq m m = true := by simp
        rw [this] at h
        simpa using h
      subst hy
      rw [upds_newB_old]
      · rw [St.upd_same]
      · intro q hq e
        have hqm : q.1 = m := by omega
        have : (lookL l m).isNone = true := hnd.1
        have hsome : (lookL l m).isSome = true := by
          clear h
          induction l with
          | nil => cases hq
          | cons r l ih =>
            simp only [lookL]
            by_cases hr : r.1 = m
            · have : Nat.beq r.1 m = true := by simp [hr]
              rw [this]; rfl
            · have hb : Nat.beq r.1 m = false := by
                cases hb : Nat.beq r.1 m with
                | false => rfl
                | true => exact absurd (by simpa using hb) hr
              rw [hb]
              simp only [cond_false]
              rcases List.mem_cons.1 hq with rfl | hq
              · exact absurd hqm hr
              · simp only [lookL, hb, cond_false] at this
                exact ih ⟨this, by simp only [nodupB, Bool.and_eq_true] at hnd; exact hnd.2.2⟩ hq this
        rw [Option.isNone_iff_eq_none] at this
        rw [this] at hsome
        cases hsome
    · have h' : lookL l n = some b := by
        simp only [lookL] at h
        have hb : Nat.beq m n = false := by
          cases hb : Nat.beq m n with
          | false => rfl
          | true => exact absurd (by simpa using hb) hmn
        rw [hb] at h
        exact h
      exact upds_newB_new k l _ hnd.2 n b h'

theorem lookL_of_mem {l : List (Nat × Blk)} {p : Nat × Blk} (h : p ∈ l) : (lookL l p.1).isSome = true := by
  induction l with
  | nil => cases h
  | cons r l ih =>
    simp only [lookL]
    cases hb : Nat.beq r.1 p.1 with
    | true => rfl
    | false =>
      simp only [cond_false]
      rcases List.mem_cons.1 h with rfl | h
      · simp at hb
      · exact ih h

/-- A result and the new blocks speak of new blocks alone. -/
def wfRes (res : AV) (bo : List (Nat × Blk)) : Bool :=
  res.shallow && (res.names.all fun n => (lookL bo n).isSome) && (bo.all fun p => p.2.names.all fun n => (lookL bo n).isSome) && nodupB bo

end Go.Sx
