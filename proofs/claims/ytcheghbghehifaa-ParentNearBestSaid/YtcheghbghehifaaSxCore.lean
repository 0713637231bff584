/-
  Sx, part 1: abstract values and states over the kit's calculus ('Code.wp', 'Calls'): what a frame's slots and the call's own blocks hold, said of a world by 'Sat'. No program is named here.
-/
import Derived.WalkKit
import Derived.Orders
namespace Go.Sx
open Go Go.RowKit

/-! ## Abstract values -/

/-- Immutable data: what one cell holds. 'rd n sz f': a slice of n elements, of sz cells each, that nobody writes; cell j of element i reads 'f i j'. -/
inductive D where
  | int (k : IntKind) (n : Int)
  | bool (b : Bool)
  | str (s : ByteArray)
  | nils
  | rd (n sz : Nat) (f : Nat → Nat → D)
  | raw (v : Value)
  deriving Inhabited

/-- What one cell of the call's own memory holds: data, a pointer to an own box, a slice on an own row. -/
inductive C where
  | d (x : D)
  | ptr (nm off : Nat)
  | row (nm n : Nat)
  deriving Inhabited

/-- An immutable value: one cell, or a struct's cells. -/
inductive DV where
  | d (x : D)
  | agg (xs : List D)
  deriving Inhabited

/-- What a slot holds. -/
inductive AV where
  | c (x : C)
  | agg (cs : List C)
  | tup (vs : List AV)
  | ep (g : Nat → D) (m : Nat)
  | rp (nm sz idx off : Nat)
  | clo (φ : List DV → DV → Prop)
  | fnc (f : FuncId) (caps : List C)
  deriving Inhabited

/-- An own block: a box (a variable, a struct), a row (the elements of an own slice), or one that is no longer spoken of. -/
inductive Blk where
  | box (cs : List C)
  | row (T sz : Nat) (xs : List (List C))
  | dead

def Blk.live : Blk → Bool
  | .dead => false
  | _ => true

/-- Which real block a name stands for; the capacity of a row; is the row's slice nil? -/
structure RI where
  blk : Nat
  cap : Nat
  isNil : Bool

/-! ## What a value is in a world -/

def RepD (w : World) (Im : Nat → Prop) : D → Value → Prop
  | .int k n, v => v = .int k n
  | .bool b, v => v = .bool b
  | .str s, v => v = .string s
  | .nils, v => v = .slice none 0 0
  | .raw u, v => v = u ∧ u.oneCell' = true
  | .rd n sz f, v => n ≤ maxLen ∧ ∃ a c, v = .slice a n c ∧ n ≤ c ∧
      (0 < n → ∃ b o, a = some ⟨b, o, none⟩ ∧ Im b ∧ ∀ i, i < n → ∀ j, j < sz → ∃ u, w.cell? ⟨b, o + (i * sz + j), none⟩ = some u ∧ RepD w Im (f i j) u)

theorem RepD.keep {w w' : World} {Im Im' : Nat → Prop} (h : ∀ b, Im b → Im' b ∧ w'.heap[b]? = w.heap[b]?) : ∀ {x : D} {v : Value}, RepD w Im x v → RepD w' Im' x v
  | .int _ _, _, hr => hr
  | .bool _, _, hr => hr
  | .str _, _, hr => hr
  | .nils, _, hr => hr
  | .raw _, _, hr => hr
  | .rd n sz f, v, hr => by
    obtain ⟨hn, a, c, rfl, hc, hcell⟩ := hr
    refine ⟨hn, a, c, rfl, hc, fun h0 => ?_⟩
    obtain ⟨b, o, rfl, hb, hx⟩ := hcell h0
    refine ⟨b, o, rfl, (h b hb).1, fun i hi j hj => ?_⟩
    obtain ⟨u, hu, hru⟩ := hx i hi j hj
    exact ⟨u, (World.cell?_of_block (h b hb).2).trans hu, RepD.keep h hru⟩

theorem RepD.one {w : World} {Im : Nat → Prop} {x : D} {v : Value} (h : RepD w Im x v) : v.oneCell' = true := by
  cases x with
  | int k n => rw [show v = _ from h]; rfl
  | bool b => rw [show v = _ from h]; rfl
  | str s => rw [show v = _ from h]; rfl
  | nils => rw [show v = _ from h]; rfl
  | raw u => obtain ⟨rfl, h1⟩ := h; exact h1
  | rd n sz f => obtain ⟨_, a, c, rfl, _⟩ := h; rfl

def RepC (ρ : Nat → RI) (w : World) (Im : Nat → Prop) : C → Value → Prop
  | .d x, v => RepD w Im x v
  | .ptr nm off, v => v = .pointer (some ⟨(ρ nm).blk, off, none⟩)
  | .row nm n, v => v = if (ρ nm).isNil then .slice none 0 0 else .slice (some ⟨(ρ nm).blk, 0, none⟩) n (ρ nm).cap

def C.mentions (nm : Nat) : C → Bool
  | .d _ => false
  | .ptr n _ => Nat.beq n nm
  | .row n _ => Nat.beq n nm

theorem RepC.keep {ρ ρ' : Nat → RI} {w w' : World} {Im Im' : Nat → Prop} (h : ∀ b, Im b → Im' b ∧ w'.heap[b]? = w.heap[b]?) {x : C} {v : Value}
    (hρ : ∀ nm, x.mentions nm = true → ρ' nm = ρ nm) (hr : RepC ρ w Im x v) : RepC ρ' w' Im' x v := by
  cases x with
  | d x => exact RepD.keep h hr
  | ptr nm off => simp only [RepC] at hr ⊢; rw [hρ nm (by simp [C.mentions])]; exact hr
  | row nm n => simp only [RepC] at hr ⊢; rw [hρ nm (by simp [C.mentions])]; exact hr

theorem RepC.one {ρ : Nat → RI} {w : World} {Im : Nat → Prop} {x : C} {v : Value} (h : RepC ρ w Im x v) : v.oneCell' = true := by
  cases x with
  | d x => exact RepD.one h
  | ptr nm off => rw [show v = _ from h]; rfl
  | row nm n => rw [show v = _ from h]; split <;> rfl

/-- Two lists, element by element. -/
inductive All2 {α β : Type} (R : α → β → Prop) : List α → List β → Prop where
  | nil : All2 R [] []
  | cons {a b l l'} : R a b → All2 R l l' → All2 R (a :: l) (b :: l')

theorem All2.length {α β : Type} {R : α → β → Prop} {l : List α} {l' : List β} (h : All2 R l l') : l.length = l'.length := by
  induction h with
  | nil => rfl
  | cons _ _ ih => simp [ih]

theorem All2.imp {α β : Type} {R S : α → β → Prop} {l : List α} {l' : List β} (h : All2 R l l') (hRS : ∀ a ∈ l, ∀ b, R a b → S a b) : All2 S l l' := by
  induction h with
  | nil => exact .nil
  | cons hr _ ih => exact .cons (hRS _ (by simp) _ hr) (ih fun a ha b => hRS a (by simp [ha]) b)

theorem All2.get {α β : Type} {R : α → β → Prop} {l : List α} {l' : List β} (h : All2 R l l') {i : Nat} {a : α} (ha : l[i]? = some a) : ∃ b, l'[i]? = some b ∧ R a b := by
  induction h generalizing i with
  | nil => simp at ha
  | cons hr _ ih =>
    cases i with
    | zero => simp at ha; subst ha; exact ⟨_, rfl, hr⟩
    | succ i => exact ih (by simpa using ha)

theorem All2.of_get {α β : Type} {R : α → β → Prop} : ∀ {l : List α} {l' : List β}, l.length = l'.length → (∀ (i : Nat) (a : α) (b : β), l[i]? = some a → l'[i]? = some b → R a b) → All2 R l l'
  | [], [], _, _ => .nil
  | [], _ :: _, h, _ => by simp at h
  | _ :: _, [], h, _ => by simp at h
  | a :: l, b :: l', h, hr => .cons (hr 0 a b rfl rfl) (All2.of_get (by simpa using h) fun i a' b' h1 h2 => hr (i + 1) a' b' (by simpa using h1) (by simpa using h2))

theorem All2.append {α β : Type} {R : α → β → Prop} {l : List α} {l' : List β} (h : All2 R l l') {m : List α} {m' : List β} (k : All2 R m m') : All2 R (l ++ m) (l' ++ m') := by
  induction h with
  | nil => exact k
  | cons hr _ ih => exact .cons hr ih

def RepDV (w : World) (Im : Nat → Prop) : DV → Value → Prop
  | .d x, v => RepD w Im x v
  | .agg xs, v => ∃ us : List Value, v = .agg us.toArray ∧ All2 (RepD w Im) xs us

theorem RepDV.keep {w w' : World} {Im Im' : Nat → Prop} (h : ∀ b, Im b → Im' b ∧ w'.heap[b]? = w.heap[b]?) {x : DV} {v : Value} (hr : RepDV w Im x v) : RepDV w' Im' x v := by
  cases x with
  | d x => exact RepD.keep h hr
  | agg xs => obtain ⟨us, rfl, ha⟩ := hr; exact ⟨us, rfl, ha.imp fun _ _ _ h' => RepD.keep h h'⟩

/-! ## The call's surroundings -/

/-- What stays fixed while one body runs: the program, the world in which the call began, which old blocks the arguments may be read from ('Im0'), which old blocks the call may write ('S0'), the number of slots. -/
structure Env (P : Program) (N : Nat) where
  w0 : World
  Im0 : Nat → Prop
  S0 : Nat → Prop

/-- Old memory is as it was, but for the blocks that the call may write. -/
structure Keep (w0 : World) (S0 : Nat → Prop) (w : World) : Prop where
  os : w.os = w0.os
  tape : w.tape = w0.tape
  output : w.output = w0.output
  size : w0.heap.size ≤ w.heap.size
  block : ∀ b, b < w0.heap.size → ¬ S0 b → w.heap[b]? = w0.heap[b]?

theorem Keep.refl (w : World) (S : Nat → Prop) : Keep w S w := ⟨rfl, rfl, rfl, Nat.le_refl _, fun _ _ _ => rfl⟩
theorem Keep.below {w w' : World} {S : Nat → Prop} (h : Keep w S w') (hS : ∀ b, ¬ S b) : Below w.heap.size w w' := ⟨h.os, h.tape, h.output, h.size, fun k hk => h.block k hk (hS k)⟩
theorem Keep.of_below {w w' : World} {S : Nat → Prop} (h : Below w.heap.size w w') : Keep w S w' := ⟨h.os, h.tape, h.output, h.size, fun k hk _ => h.block k hk⟩
/-- One step more: the new world is as the old one, but for blocks that may be written. -/
theorem Keep.step {w0 w w' : World} {S : Nat → Prop} (h : Keep w0 S w) (os : w'.os = w.os) (tape : w'.tape = w.tape) (output : w'.output = w.output) (size : w.heap.size ≤ w'.heap.size)
    (block : ∀ b, b < w0.heap.size → ¬ S b → w'.heap[b]? = w.heap[b]?) : Keep w0 S w' :=
  ⟨os.trans h.os, tape.trans h.tape, output.trans h.output, Nat.le_trans h.size size, fun b hb hS => (block b hb hS).trans (h.block b hb hS)⟩

/-- Does what is said of the datum hang on the blocks that it may lie in? -/
def D.flat : D → Bool
  | .rd _ _ _ => false
  | _ => true

def DV.flat : DV → Bool
  | .d x => x.flat
  | .agg xs => xs.all (·.flat)

theorem RepD.flat {w w' : World} {Im Im' : Nat → Prop} {x : D} {v : Value} (hf : x.flat = true) (h : RepD w Im x v) : RepD w' Im' x v := by
  cases x <;> first | exact h | cases hf

theorem RepDV.flat {w w' : World} {Im Im' : Nat → Prop} {x : DV} {v : Value} (hf : x.flat = true) (h : RepDV w Im x v) : RepDV w' Im' x v := by
  cases x with
  | d x => exact RepD.flat hf h
  | agg xs =>
    obtain ⟨us, rfl, ha⟩ := h
    simp only [DV.flat, List.all_eq_true] at hf
    exact ⟨us, rfl, ha.imp fun x hx _ h' => RepD.flat (hf x hx) h'⟩

/-- What a function value does, called with immutable values, in whatever world that has kept the call's old memory: it hands back a flat value, and turns nothing. -/
def CloOK (P : Program) (w0 : World) (S0 : Nat → Prop) (φ : List DV → DV → Prop) (v : Value) : Prop :=
  ∃ g caps, v = .func (.func g) #[] caps ∧ (∀ (args : Array Value) (w : World), (callFunc g args).run P w = .ok (.enter g args) w) ∧
    ∀ args res, φ args res → res.flat = true ∧ ∀ (w : World) (Im : Nat → Prop), Keep w0 S0 w → (∀ b, Im b → b < w.heap.size) → ∀ vs : List Value, All2 (RepDV w Im) args vs →
      Calls P g (vs.toArray ++ caps) w fun e w' => ∃ r, e = .returned r ∧ RepDV w' Im res r ∧ Below w.heap.size w w'

theorem CloOK.later {P : Program} {w0 w1 : World} {S0 S1 : Nat → Prop} {φ : List DV → DV → Prop} {v : Value} (h : CloOK P w0 S0 φ v) (hk : ∀ w, Keep w1 S1 w → Keep w0 S0 w) : CloOK P w1 S1 φ v := by
  obtain ⟨g, caps, h1, h2, h3⟩ := h
  exact ⟨g, caps, h1, h2, fun args res hφ => ⟨(h3 args res hφ).1, fun w Im hw => (h3 args res hφ).2 w Im (hk w hw)⟩⟩

def RepA0 {P : Program} {N : Nat} (E : Env P N) (ρ : Nat → RI) (w : World) (Im : Nat → Prop) : AV → Value → Prop
  | .c x, v => RepC ρ w Im x v
  | .agg cs, v => ∃ us : List Value, v = .agg us.toArray ∧ All2 (RepC ρ w Im) cs us
  | .tup _, _ => False
  | .ep g m, v => ∃ b o, v = .pointer (some ⟨b, o, none⟩) ∧ Im b ∧ ∀ j, j < m → ∃ u, w.cell? ⟨b, o + j, none⟩ = some u ∧ RepD w Im (g j) u
  | .rp nm sz idx off, v => v = .pointer (some ⟨(ρ nm).blk, idx * sz + off, none⟩)
  | .clo φ, v => CloOK P E.w0 E.S0 φ v
  | .fnc f caps, v => ∃ us : List Value, v = .func (.func f) #[] us.toArray ∧ All2 (RepC ρ w Im) caps us

def RepA {P : Program} {N : Nat} (E : Env P N) (ρ : Nat → RI) (w : World) (Im : Nat → Prop) : AV → Value → Prop
  | .tup vs, v => ∃ us : List Value, v = .tuple us.toArray ∧ All2 (RepA0 E ρ w Im) vs us
  | x, v => RepA0 E ρ w Im x v

def AV.mentions0 (nm : Nat) : AV → Bool
  | .c x => x.mentions nm
  | .agg cs => cs.any (·.mentions nm)
  | .tup _ => true
  | .ep _ _ => false
  | .rp n _ _ _ => Nat.beq n nm
  | .clo _ => false
  | .fnc _ caps => caps.any (·.mentions nm)

def AV.mentions (nm : Nat) : AV → Bool
  | .tup vs => vs.any (·.mentions0 nm)
  | x => x.mentions0 nm

def Blk.mentions (nm : Nat) : Blk → Bool
  | .box cs => cs.any (·.mentions nm)
  | .row _ _ xs => xs.any fun cs => cs.any (·.mentions nm)
  | .dead => false

theorem RepA0.keep {P : Program} {N : Nat} {E : Env P N} {ρ ρ' : Nat → RI} {w w' : World} {Im Im' : Nat → Prop} (h : ∀ b, Im b → Im' b ∧ w'.heap[b]? = w.heap[b]?) {x : AV} {v : Value}
    (hρ : ∀ nm, x.mentions0 nm = true → ρ' nm = ρ nm) (hr : RepA0 E ρ w Im x v) : RepA0 E ρ' w' Im' x v := by
  cases x with
  | c x => exact RepC.keep h hρ hr
  | agg cs =>
    obtain ⟨us, rfl, ha⟩ := hr
    exact ⟨us, rfl, ha.imp fun c hc u h' => RepC.keep h (fun nm hm => hρ nm (by simp only [AV.mentions0, List.any_eq_true]; exact ⟨c, hc, hm⟩)) h'⟩
  | tup vs => exact hr
  | ep g m =>
    obtain ⟨b, o, rfl, hb, hx⟩ := hr
    refine ⟨b, o, rfl, (h b hb).1, fun j hj => ?_⟩
    obtain ⟨u, hu, hru⟩ := hx j hj
    exact ⟨u, (World.cell?_of_block (h b hb).2).trans hu, RepD.keep h hru⟩
  | rp nm sz idx off => simp only [RepA0] at hr ⊢; rw [hρ nm (by simp [AV.mentions0])]; exact hr
  | clo φ => exact hr
  | fnc f caps =>
    obtain ⟨us, rfl, ha⟩ := hr
    exact ⟨us, rfl, ha.imp fun c hc u h' => RepC.keep h (fun nm hm => hρ nm (by simp only [AV.mentions0, List.any_eq_true]; exact ⟨c, hc, hm⟩)) h'⟩

theorem RepA.keep {P : Program} {N : Nat} {E : Env P N} {ρ ρ' : Nat → RI} {w w' : World} {Im Im' : Nat → Prop} (h : ∀ b, Im b → Im' b ∧ w'.heap[b]? = w.heap[b]?) {x : AV} {v : Value}
    (hρ : ∀ nm, x.mentions nm = true → ρ' nm = ρ nm) (hr : RepA E ρ w Im x v) : RepA E ρ' w' Im' x v := by
  cases x with
  | tup vs =>
    obtain ⟨us, rfl, ha⟩ := hr
    exact ⟨us, rfl, ha.imp fun c hc u h' => RepA0.keep h (fun nm hm => hρ nm (by simp only [AV.mentions, List.any_eq_true]; exact ⟨c, hc, hm⟩)) h'⟩
  | c x => exact RepA0.keep (E := E) (x := .c x) h hρ hr
  | agg cs => exact RepA0.keep (E := E) (x := .agg cs) h hρ hr
  | ep g m => exact RepA0.keep (E := E) (x := .ep g m) h hρ hr
  | rp nm sz idx off => exact RepA0.keep (E := E) (x := .rp nm sz idx off) h hρ hr
  | clo φ => exact RepA0.keep (E := E) (x := .clo φ) h hρ hr
  | fnc f caps => exact RepA0.keep (E := E) (x := .fnc f caps) h hρ hr

theorem RepA.of0 {P : Program} {N : Nat} {E : Env P N} {ρ : Nat → RI} {w : World} {Im : Nat → Prop} {x : AV} {v : Value} (h : RepA0 E ρ w Im x v) : RepA E ρ w Im x v := by
  cases x <;> first | exact h | exact h.elim

/-- What a block is in a world. -/
def BlkOK (ρ : Nat → RI) (w : World) (Im : Nat → Prop) (nm : Nat) : Blk → Prop
  | .box cs => (ρ nm).isNil = false ∧ ∃ (us : List Value) (T : TypeId), w.heap[(ρ nm).blk]? = some (.cells us.toArray T (0, 0)) ∧ All2 (RepC ρ w Im) cs us
  | .row T sz xs => if (ρ nm).isNil = true then xs = [] else
      ∃ (us spare : List Value), w.heap[(ρ nm).blk]? = some (.cells (us ++ spare).toArray T (0, 0)) ∧ All2 (RepC ρ w Im) xs.flatten us ∧
        (∀ x ∈ xs, x.length = sz) ∧ us.length + spare.length = (ρ nm).cap * sz ∧ xs.length ≤ (ρ nm).cap ∧ (ρ nm).cap ≤ maxLen
  | .dead => True

theorem BlkOK.keep {ρ ρ' : Nat → RI} {w w' : World} {Im Im' : Nat → Prop} (h : ∀ b, Im b → Im' b ∧ w'.heap[b]? = w.heap[b]?) {nm : Nat} {x : Blk}
    (hn : ρ' nm = ρ nm) (hb : (ρ nm).isNil = false → x.live = true → w'.heap[(ρ nm).blk]? = w.heap[(ρ nm).blk]?) (hρ : ∀ n, x.mentions n = true → ρ' n = ρ n) (hr : BlkOK ρ w Im nm x) : BlkOK ρ' w' Im' nm x := by
  cases x with
  | box cs =>
    obtain ⟨hnil, us, T, hh, ha⟩ := hr
    refine ⟨by rw [hn]; exact hnil, us, T, by rw [hn, hb hnil rfl]; exact hh, ha.imp fun c hc u h' => RepC.keep h (fun n hm => hρ n (by simp only [Blk.mentions, List.any_eq_true]; exact ⟨c, hc, hm⟩)) h'⟩
  | row T sz xs =>
    unfold BlkOK at hr ⊢
    rw [hn]
    cases hnil : (ρ nm).isNil with
    | true => simp only [hnil, if_true] at hr ⊢; exact hr
    | false =>
      simp only [hnil, Bool.false_eq_true, if_false] at hr ⊢
      obtain ⟨us, spare, hh, ha, hrest⟩ := hr
      refine ⟨us, spare, by rw [hb hnil rfl]; exact hh, ha.imp fun c hc u h' => RepC.keep h (fun n hm => hρ n ?_) h', hrest⟩
      obtain ⟨l, hl, hcl⟩ := List.mem_flatten.1 hc
      simp only [Blk.mentions, List.any_eq_true]
      exact ⟨l, hl, c, hcl, hm⟩
  | dead => trivial

/-! ## States -/

inductive Key where
  | s (t : Nat)
  | b (n : Nat)
  deriving DecidableEq

def Key.beq : Key → Key → Bool
  | .s m, .s n => Nat.beq m n
  | .b m, .b n => Nat.beq m n
  | _, _ => false

theorem Key.beq_iff {k k' : Key} : k.beq k' = true ↔ k = k' := by
  cases k <;> cases k' <;> simp [Key.beq]

inductive Item where
  | v (x : AV)
  | k (b : Blk)

def Item.mentions (nm : Nat) : Item → Bool
  | .v x => x.mentions nm
  | .k b => b.mentions nm

abbrev St := Key → Option Item

def St.upd (σ : St) (k : Key) (x : Option Item) : St := fun k' => bif k.beq k' then x else σ k'

theorem St.upd_same (σ : St) (k : Key) (x : Option Item) : σ.upd k x k = x := by
  have : k.beq k = true := Key.beq_iff.2 rfl
  simp [St.upd, this]

theorem St.upd_other (σ : St) {k k' : Key} (x : Option Item) (h : k ≠ k') : σ.upd k x k' = σ k' := by
  have : k.beq k' = false := by
    cases hb : k.beq k' with
    | false => rfl
    | true => exact absurd (Key.beq_iff.1 hb) h
  simp [St.upd, this]

abbrev Upds := List (Key × Option Item)

def St.upds (σ : St) : Upds → St
  | [] => σ
  | (k, x) :: U => (σ.upd k x).upds U

/-- The state is true of the frame and the world. -/
structure SatAt {P : Program} {N : Nat} (E : Env P N) (σ : St) (a : Act) (w : World) (ρ : Nat → RI) (Im : Nat → Prop) : Prop where
  fr : ∀ t x, σ (.s t) = some (.v x) → RepA E ρ w Im x (a.tmps.getD t undef)
  bk : ∀ nm b, σ (.b nm) = some (.k b) → BlkOK ρ w Im nm b
  own : ∀ nm b, σ (.b nm) = some (.k b) → b.live = true → (ρ nm).isNil = false → (ρ nm).blk < w.heap.size ∧ (E.S0 (ρ nm).blk ∨ E.w0.heap.size ≤ (ρ nm).blk)
  inj : ∀ n1 n2 b1 b2, σ (.b n1) = some (.k b1) → σ (.b n2) = some (.k b2) → b1.live = true → b2.live = true → (ρ n1).isNil = false → (ρ n2).isNil = false → n1 ≠ n2 → (ρ n1).blk ≠ (ρ n2).blk
  im : ∀ b, Im b → (E.Im0 b ∨ E.w0.heap.size ≤ b) ∧ b < w.heap.size ∧ ∀ nm bk, σ (.b nm) = some (.k bk) → bk.live = true → (ρ nm).isNil = false → (ρ nm).blk ≠ b
  wf : ∀ k it, σ k = some it → ∀ nm, it.mentions nm = true → σ (.b nm) ≠ none
  defers : a.defers = []
  size : a.tmps.size = N
  keep : Keep E.w0 E.S0 w

def Sat {P : Program} {N : Nat} (E : Env P N) (σ : St) (a : Act) (w : World) : Prop := ∃ ρ Im, SatAt E σ a w ρ Im

/-- A slot is written; the world and the names are as they were. -/
theorem SatAt.put {P : Program} {N : Nat} {E : Env P N} {σ : St} {a : Act} {w : World} {ρ : Nat → RI} {Im : Nat → Prop} (h : SatAt E σ a w ρ Im) {d : Nat} (hd : d < N) {x : AV} {v : Value} (hr : RepA E ρ w Im x v)
    (hm : ∀ nm, x.mentions nm = true → σ (.b nm) ≠ none) : SatAt E (σ.upd (.s d) (some (.v x))) (a.put (some d) v) w ρ Im where
  fr := by
    intro t y hy
    by_cases hdt : d = t
    · subst hdt
      rw [St.upd_same] at hy
      injection hy with hy; injection hy with hy; subst hy
      have hsz : d < a.tmps.size := by rw [h.size]; exact hd
      simpa [Act.put, hsz] using hr
    · rw [St.upd_other _ _ (by intro e; injection e with e; exact hdt e)] at hy
      have := h.fr t y hy
      simpa [Act.put, Array.getElem?_setIfInBounds_ne hdt] using this
  bk := fun nm b hb => h.bk nm b (by rwa [St.upd_other _ _ (by intro e; cases e)] at hb)
  own := fun nm b hb => h.own nm b (by rwa [St.upd_other _ _ (by intro e; cases e)] at hb)
  inj := fun n1 n2 b1 b2 h1 h2 => h.inj n1 n2 b1 b2 (by rwa [St.upd_other _ _ (by intro e; cases e)] at h1) (by rwa [St.upd_other _ _ (by intro e; cases e)] at h2)
  im := fun b hb => ⟨(h.im b hb).1, (h.im b hb).2.1, fun nm bk hk => (h.im b hb).2.2 nm bk (by rwa [St.upd_other _ _ (by intro e; cases e)] at hk)⟩
  wf := by
    intro k it hk nm hnm
    rw [St.upd_other _ _ (by intro e; cases e)]
    by_cases hkd : (Key.s d) = k
    · subst hkd
      rw [St.upd_same] at hk
      injection hk with hk; subst hk
      exact hm nm hnm
    · rw [St.upd_other _ _ hkd] at hk
      exact h.wf k it hk nm hnm
  defers := by simpa [Act.put] using h.defers
  size := by simpa [Act.put] using h.size
  keep := h.keep

/-- A slot is forgotten. -/
theorem SatAt.drop {P : Program} {N : Nat} {E : Env P N} {σ : St} {a : Act} {w : World} {ρ : Nat → RI} {Im : Nat → Prop} (h : SatAt E σ a w ρ Im) (d : Nat) (v : Value) :
    SatAt E (σ.upd (.s d) none) (a.put (some d) v) w ρ Im where
  fr := by
    intro t y hy
    by_cases hdt : d = t
    · subst hdt
      rw [St.upd_same] at hy
      cases hy
    · rw [St.upd_other _ _ (by intro e; injection e with e; exact hdt e)] at hy
      have := h.fr t y hy
      simpa [Act.put, Array.getElem?_setIfInBounds_ne hdt] using this
  bk := fun nm b hb => h.bk nm b (by rwa [St.upd_other _ _ (by intro e; cases e)] at hb)
  own := fun nm b hb => h.own nm b (by rwa [St.upd_other _ _ (by intro e; cases e)] at hb)
  inj := fun n1 n2 b1 b2 h1 h2 => h.inj n1 n2 b1 b2 (by rwa [St.upd_other _ _ (by intro e; cases e)] at h1) (by rwa [St.upd_other _ _ (by intro e; cases e)] at h2)
  im := fun b hb => ⟨(h.im b hb).1, (h.im b hb).2.1, fun nm bk hk => (h.im b hb).2.2 nm bk (by rwa [St.upd_other _ _ (by intro e; cases e)] at hk)⟩
  wf := by
    intro k it hk nm hnm
    rw [St.upd_other _ _ (by intro e; cases e)]
    by_cases hkd : (Key.s d) = k
    · subst hkd
      rw [St.upd_same] at hk
      cases hk
    · rw [St.upd_other _ _ hkd] at hk
      exact h.wf k it hk nm hnm
  defers := by simpa [Act.put] using h.defers
  size := by simpa [Act.put] using h.size
  keep := h.keep

/-- The world's count of draws has moved on. -/
theorem SatAt.drew {P : Program} {N : Nat} {E : Env P N} {σ : St} {a : Act} {w : World} {ρ : Nat → RI} {Im : Nat → Prop} (h : SatAt E σ a w ρ Im) : SatAt E σ a { w with drawn := w.drawn + 1 } ρ Im where
  fr := fun t x hx => RepA.keep (w := w) (w' := { w with drawn := w.drawn + 1 }) (fun _ hb => ⟨hb, rfl⟩) (fun _ _ => rfl) (h.fr t x hx)
  bk := fun nm b hb => BlkOK.keep (w := w) (w' := { w with drawn := w.drawn + 1 }) (fun _ hb => ⟨hb, rfl⟩) rfl (fun _ _ => rfl) (fun _ _ => rfl) (h.bk nm b hb)
  own := h.own
  inj := h.inj
  im := h.im
  wf := h.wf
  defers := h.defers
  size := h.size
  keep := h.keep.step rfl rfl rfl (Nat.le_refl _) (fun _ _ _ => rfl)

/-! ## Steps of a region -/

/-- Operation 'o' of the region 'ops': it needs that the state has 'R'; it writes 'U'. -/
def Acts {P : Program} {N : Nat} (E : Env P N) (ops : Array Oper) (o : Oper) (R U : Upds) : Prop :=
  ∀ (σ : St) (a : Act) (w : World) (K : Act → World → Prop) (Q : Exit → Act → World → Prop), Sat E σ a w → (∀ p ∈ R, σ p.1 = p.2) → (∀ a' w', Sat E (σ.upds U) a' w' → K a' w') →
    if Region.wanted o (yielded ops a.tmps) then o.wp P a w K Q ∨ (o.asks P a w ∧ LetsOut Q) else K (a.put o.dst undef) w

/-- The steps of a region in the order of the text; 'tr': for each the keys that it reads and writes. -/
inductive Runs {P : Program} {N : Nat} (E : Env P N) (ops : Array Oper) : List Oper → St → List (List Key × List Key) → St → Prop where
  | nil {σ} : Runs E ops [] σ [] σ
  | cons {o rest σ R U tr σ'} : Acts E ops o R U → (∀ p ∈ R, σ p.1 = p.2) → Runs E ops rest (σ.upds U) tr σ' → Runs E ops (o :: rest) σ ((R.map (·.1), U.map (·.1)) :: tr) σ'

theorem wpList_of_runs {P : Program} {N : Nat} {E : Env P N} {ops : Array Oper} {rest : List Oper} {σ σ' : St} {tr : List (List Key × List Key)} (hr : Runs E ops rest σ tr σ') {Q : Exit → Act → World → Prop}
    (hQ : ∀ a w, Sat E σ' a w → Q .normal a w) : ∀ a w, Sat E σ a w → wpList P ops Q rest a w := by
  induction hr with
  | nil => exact fun a w h => hQ a w h
  | cons hact hR _ ih =>
    intro a w h
    have := hact _ a w (wpList P ops Q _) Q h hR (fun a' w' h' => ih hQ a' w' h')
    unfold wpList
    exact this

end Go.Sx
