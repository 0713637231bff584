/-
  Sx, part 7: what a function does ('FnS'), from its body; a call by what the callee does.
-/
import Derived.Test.YtcheghbghehifaaSxMemB
namespace Go.Sx
open Go Go.RowKit

/-! ## Names -/

def C.names : C → List Nat
  | .d _ => []
  | .ptr n _ => [n]
  | .row n _ => [n]

def AV.names0 : AV → List Nat
  | .c x => x.names
  | .agg cs => cs.flatMap C.names
  | .tup _ => []
  | .ep _ _ => []
  | .rp n _ _ _ => [n]
  | .clo _ => []
  | .fnc _ caps => caps.flatMap C.names

def AV.notTup : AV → Bool
  | .tup _ => false
  | _ => true

def AV.names : AV → List Nat
  | .tup vs => vs.flatMap AV.names0
  | x => x.names0

def Blk.names : Blk → List Nat
  | .box cs => cs.flatMap C.names
  | .row _ _ xs => xs.flatMap fun cs => cs.flatMap C.names
  | .dead => []

theorem C.mem_names {nm : Nat} {c : C} (h : c.mentions nm = true) : nm ∈ c.names := by
  cases c with
  | d x => cases h
  | ptr n o => have : n = nm := by simpa [C.mentions] using h
               simp [C.names, this]
  | row n o => have : n = nm := by simpa [C.mentions] using h
               simp [C.names, this]

theorem Cs.mem_names {nm : Nat} {cs : List C} (h : cs.any (·.mentions nm) = true) : nm ∈ cs.flatMap C.names := by
  rw [List.any_eq_true] at h
  obtain ⟨c, hc, hm⟩ := h
  exact List.mem_flatMap.2 ⟨c, hc, c.mem_names hm⟩

theorem AV.mem_names0 {nm : Nat} {x : AV} (ht : x.notTup = true) (h : x.mentions0 nm = true) : nm ∈ x.names0 := by
  cases x with
  | c x => exact x.mem_names h
  | agg cs => exact Cs.mem_names h
  | tup vs => cases ht
  | ep g m => cases h
  | rp n sz i o => have : n = nm := by simpa [AV.mentions0] using h
                   simp [AV.names0, this]
  | clo φ => cases h
  | fnc f caps => exact Cs.mem_names h

/-- A value in which no tuple stands in a tuple. -/
def AV.shallow : AV → Bool
  | .tup vs => vs.all (·.notTup)
  | _ => true

theorem AV.mem_names {nm : Nat} {x : AV} (hs : x.shallow = true) (h : x.mentions nm = true) : nm ∈ x.names := by
  cases x with
  | tup vs =>
    simp only [AV.mentions, List.any_eq_true] at h
    obtain ⟨y, hy, hm⟩ := h
    simp only [AV.shallow, List.all_eq_true] at hs
    exact List.mem_flatMap.2 ⟨y, hy, AV.mem_names0 (hs y hy) hm⟩
  | c x => exact AV.mem_names0 (x := .c x) rfl h
  | agg cs => exact AV.mem_names0 (x := .agg cs) rfl h
  | ep g m => exact AV.mem_names0 (x := .ep g m) rfl h
  | rp n sz i o => exact AV.mem_names0 (x := .rp n sz i o) rfl h
  | clo φ => exact AV.mem_names0 (x := .clo φ) rfl h
  | fnc f caps => exact AV.mem_names0 (x := .fnc f caps) rfl h

theorem Blk.mem_names {nm : Nat} {b : Blk} (h : b.mentions nm = true) : nm ∈ b.names := by
  cases b with
  | box cs => exact Cs.mem_names h
  | row T sz xs =>
    simp only [Blk.mentions, List.any_eq_true] at h
    obtain ⟨cs, hcs, hm⟩ := h
    exact List.mem_flatMap.2 ⟨cs, hcs, Cs.mem_names (List.any_eq_true.2 hm)⟩
  | dead => cases h

def lookL {α : Type} : List (Nat × α) → Nat → Option α
  | [], _ => none
  | (n, x) :: l, m => bif Nat.beq n m then some x else lookL l m

/-- A state that is written out. -/
def stOf (l : List (Nat × AV)) (b : List (Nat × Blk)) : St
  | .s t => (lookL l t).map .v
  | .b n => (lookL b n).map .k

/-- Every name that is spoken of stands among the blocks. -/
def wfL (l : List (Nat × AV)) (b : List (Nat × Blk)) : Bool :=
  (l.all fun p => p.2.shallow && p.2.names.all fun n => (lookL b n).isSome) && b.all fun p => p.2.names.all fun n => (lookL b n).isSome

theorem lookL_mem {α : Type} {l : List (Nat × α)} {n : Nat} {x : α} (h : lookL l n = some x) : (n, x) ∈ l := by
  induction l with
  | nil => cases h
  | cons p l ih =>
    obtain ⟨m, y⟩ := p
    simp only [lookL] at h
    cases hb : Nat.beq m n with
    | true =>
      rw [hb] at h
      have : m = n := by simpa using hb
      subst this
      simp only [cond_true, Option.some.injEq] at h
      subst h
      exact List.mem_cons_self
    | false =>
      rw [hb] at h
      exact List.mem_cons_of_mem _ (ih h)

theorem stOf_wf {l : List (Nat × AV)} {b : List (Nat × Blk)} (h : wfL l b = true) : ∀ k it, stOf l b k = some it → ∀ nm, it.mentions nm = true → stOf l b (.b nm) ≠ none := by
  simp only [wfL, Bool.and_eq_true, List.all_eq_true] at h
  intro k it hk nm hm
  have key : ∀ n, (lookL b n).isSome = true → stOf l b (.b n) ≠ none := fun n hn => by
    simp only [stOf]
    cases hl : lookL b n with
    | none => rw [hl] at hn; cases hn
    | some x => simp
  cases k with
  | s t =>
    simp only [stOf, Option.map_eq_some_iff] at hk
    obtain ⟨x, hx, rfl⟩ := hk
    have := h.1 _ (lookL_mem hx)
    exact key nm (this.2 nm (AV.mem_names this.1 hm))
  | b n =>
    simp only [stOf, Option.map_eq_some_iff] at hk
    obtain ⟨x, hx, rfl⟩ := hk
    exact key nm (h.2 _ (lookL_mem hx) nm (Blk.mem_names hm))

/-! ## What a function does -/

/-- The blocks of a state, in a world. -/
structure MemAt {P : Program} {N : Nat} (E : Env P N) (σ : St) (w : World) (ρ : Nat → RI) (Im : Nat → Prop) : Prop where
  bk : ∀ nm b, σ (.b nm) = some (.k b) → BlkOK ρ w Im nm b
  own : ∀ nm b, σ (.b nm) = some (.k b) → b.live = true → (ρ nm).isNil = false → (ρ nm).blk < w.heap.size ∧ (E.S0 (ρ nm).blk ∨ E.w0.heap.size ≤ (ρ nm).blk)
  inj : ∀ n1 n2 b1 b2, σ (.b n1) = some (.k b1) → σ (.b n2) = some (.k b2) → b1.live = true → b2.live = true → (ρ n1).isNil = false → (ρ n2).isNil = false → n1 ≠ n2 → (ρ n1).blk ≠ (ρ n2).blk
  im : ∀ b, Im b → (E.Im0 b ∨ E.w0.heap.size ≤ b) ∧ b < w.heap.size ∧ ∀ nm bk, σ (.b nm) = some (.k bk) → bk.live = true → (ρ nm).isNil = false → (ρ nm).blk ≠ b
  keep : Keep E.w0 E.S0 w

def Enters (P : Program) (f : FuncId) : Prop := ∀ (args : Array Value) (w : World), (callFunc f args).run P w = .ok (.enter f args) w

theorem enters_of {P : Program} {f : FuncId} {fn : Func} {c : Code} (hf : P.funcs[f]? = some fn) (hname : (fn.name == "runtime.NumGoroutine") = false) (hb : fn.body = some c) : Enters P f := by
  intro args w
  have h1 : fn.name ≠ "runtime.NumGoroutine" := by simpa using hname
  simp [callFunc, hf, h1, hb]

/-- Called with these arguments and these blocks, f hands back 'res' and leaves the blocks 'bout' (names of 'bin': those blocks, or what became of them; other names: new ones); all other old memory stays. -/
def FnS (P : Program) (f : FuncId) (args : List AV) (bin : List (Nat × Blk)) (res : AV) (bout : List (Nat × Blk)) : Prop :=
  Enters P f ∧ ∀ (w : World) (ρ : Nat → RI) (Im S0 : Nat → Prop) (vs : List Value),
    All2 (RepA (⟨w, Im, S0⟩ : Env P 0) ρ w Im) args vs → MemAt (⟨w, Im, S0⟩ : Env P 0) (stOf [] bin) w ρ Im →
    Calls P f vs.toArray w fun e w' => ∃ v ρ' Im', e = .returned v ∧ MemAt (⟨w, Im, S0⟩ : Env P 0) (stOf [] bout) w' ρ' Im' ∧ RepA (⟨w, Im, S0⟩ : Env P 0) ρ' w' Im' res v ∧
      (∀ n cs, (n, Blk.box cs) ∈ bin → (∃ cs', (n, Blk.box cs') ∈ bout) → ρ' n = ρ n)

/-- The results, as a body's end reads them off its state. -/
inductive ResOK (P : Program) (σ : St) : List ResultVar → List AV → Prop where
  | nil : ResOK P σ [] []
  | tmp {t : Nat} {x : AV} {rs : List ResultVar} {xs : List AV} : x.notTup = true → σ (.s t) = some (.v x) → ResOK P σ rs xs → ResOK P σ (.tmp t :: rs) (x :: xs)
  | agg {t T : Nat} {ti : TyI} {nm off : Nat} {cs : List C} {rs : List ResultVar} {xs : List AV} [ht : TyOK P T ti] : σ (.s t) = some (.v (.c (.ptr nm off))) → σ (.b nm) = some (.k (.box cs)) → ti.isAgg = true →
      ((cs.drop off).take ti.size).length = ti.size → ResOK P σ rs xs → ResOK P σ (.cell t T :: rs) (.agg ((cs.drop off).take ti.size) :: xs)
  | cell {t T : Nat} {ti : TyI} {nm off : Nat} {cs : List C} {c : C} {rs : List ResultVar} {xs : List AV} [ht : TyOK P T ti] : σ (.s t) = some (.v (.c (.ptr nm off))) → σ (.b nm) = some (.k (.box cs)) → ti.isAgg = false →
      cs[off]? = some c → ResOK P σ rs xs → ResOK P σ (.cell t T :: rs) (.c c :: xs)

def resAV : List AV → AV
  | [x] => x
  | xs => .tup xs

theorem RepA.to0 {P : Program} {N : Nat} {E : Env P N} {ρ : Nat → RI} {w : World} {Im : Nat → Prop} {x : AV} {v : Value} (hn : x.notTup = true) (h : RepA E ρ w Im x v) : RepA0 E ρ w Im x v := by
  cases x <;> first | exact h | cases hn

def resRead (tmps : Array Value) : ResultVar → Sem Value
  | .tmp t => pure (tmps.getD t undef)
  | .cell x t => do loadVar t (← asAddr (tmps.getD x undef))

theorem results_eq (fn : Func) (tmps : Array Value) : results fn tmps = (do
    let vs ← fn.results.mapM (resRead tmps)
    pure (if h : vs.size = 1 then vs[0] else .tuple vs)) := by
  unfold results
  congr 2

theorem ResOK.run {P : Program} {N : Nat} {E : Env P N} {σ : St} {a : Act} {w : World} {ρ : Nat → RI} {Im : Nat → Prop} (hs : SatAt E σ a w ρ Im) {rs : List ResultVar} {xs : List AV} (h : ResOK P σ rs xs) :
    ∃ us : List Value, (rs.mapM (resRead a.tmps)).run P w = .ok us w ∧ All2 (RepA0 E ρ w Im) xs us := by
  induction h with
  | nil => exact ⟨[], rfl, .nil⟩
  | @tmp t x rs xs hn hx _ ih =>
    obtain ⟨us, h1, h2⟩ := ih
    refine ⟨_ :: us, ?_, .cons (RepA.to0 hn (hs.fr _ _ hx)) h2⟩
    have h0 : (resRead a.tmps (.tmp t)).run P w = .ok (a.tmps.getD t undef) w := rfl
    simp only [List.mapM_cons, Sem.run_bind, Sem.run_pure, Result.andThen_ok, h1, h0]
  | @agg t T ti nm off cs rs xs ht hx hb hagg hl _ ih =>
    obtain ⟨us, h1, h2⟩ := ih
    have he : a.tmps.getD t undef = .pointer (some ⟨(ρ nm).blk, off, none⟩) := hs.fr _ _ hx
    obtain ⟨_, ws, T', hh, ha⟩ := hs.bk nm _ hb
    have hp := all2_part ha off ti.size
    have hlen : ((ws.drop off).take ti.size).length = ti.size := by rw [← hp.length]; exact hl
    have hcells := run_loadCells_list (P := P) w ⟨(ρ nm).blk, off, none⟩ ((ws.drop off).take ti.size) (fun j v hv => by
      refine cells_heap hh off j v ?_
      rw [List.getElem?_take] at hv
      split at hv
      · exact hv
      · cases hv)
    rw [hlen] at hcells
    refine ⟨_ :: us, ?_, .cons ⟨_, rfl, hp⟩ h2⟩
    have h0 : (resRead a.tmps (.cell t T)).run P w = .ok (.agg ((ws.drop off).take ti.size).toArray) w := by
      simp only [resRead, he, asAddr, loadVar, Sem.run_bind, Sem.run_pure, Result.andThen_ok, ht.run_agg, hagg, if_true, ht.run_size, hcells]
    simp only [List.mapM_cons, Sem.run_bind, Sem.run_pure, Result.andThen_ok, h1, h0]
  | @cell t T ti nm off cs c rs xs ht hx hb hagg hc _ ih =>
    obtain ⟨us, h1, h2⟩ := ih
    have he : a.tmps.getD t undef = .pointer (some ⟨(ρ nm).blk, off, none⟩) := hs.fr _ _ hx
    obtain ⟨_, ws, T', hh, ha⟩ := hs.bk nm _ hb
    obtain ⟨u, hu, hru⟩ := ha.get hc
    have hcell : w.cell? ⟨(ρ nm).blk, off, none⟩ = some u := by simp [World.cell?, hh, hu]
    refine ⟨u :: us, ?_, .cons hru h2⟩
    have h0 : (resRead a.tmps (.cell t T)).run P w = .ok u w := by
      simp only [resRead, he, asAddr, loadVar, Sem.run_bind, Sem.run_pure, Result.andThen_ok, ht.run_agg, hagg, Bool.false_eq_true, if_false, run_load, hcell]
    simp only [List.mapM_cons, Sem.run_bind, Sem.run_pure, Result.andThen_ok, h1, h0]

theorem ResOK.results {P : Program} {N : Nat} {E : Env P N} {σ : St} {a : Act} {w : World} {ρ : Nat → RI} {Im : Nat → Prop} (hs : SatAt E σ a w ρ Im) {fn : Func} {rs : List ResultVar} (hrs : fn.results = rs.toArray) {xs : List AV} (h : ResOK P σ rs xs) :
    ∃ v, (results fn a.tmps).run P w = .ok v w ∧ RepA E ρ w Im (resAV xs) v := by
  obtain ⟨us, h1, h2⟩ := h.run hs
  rw [results_eq, hrs]
  have h3 : (rs.toArray.mapM (resRead a.tmps)).run P w = .ok us.toArray w := by
    rw [Array.mapM_eq_mapM_toList]
    simp only [Sem.run_map, h1, Result.andThen_ok]
  simp only [Sem.run_bind, h3, Result.andThen_ok, Sem.run_pure]
  refine ⟨_, rfl, ?_⟩
  cases h2 with
  | nil => exact ⟨[], by simp, .nil⟩
  | cons hr h2 =>
    cases h2 with
    | nil => simpa [resAV] using RepA.of0 hr
    | cons hr' h2 =>
      rename_i x u x' u' l l'
      rw [dif_neg (by simp)]
      exact ⟨_, rfl, .cons hr (.cons hr' h2)⟩

/-- The exit of a body. -/
def retQ (P : Program) (rs : List ResultVar) (res : AV) (bout : List (Nat × Blk)) (e : Exit) (σ : St) : Prop :=
  (e = .normal ∨ e = .ret) ∧ ∃ xs, ResOK P σ rs xs ∧ res = resAV xs ∧ ∀ p ∈ bout, σ (.b p.1) = some (.k p.2)

def argSt (args : List AV) (bin : List (Nat × Blk)) : St
  | .s t => (args[t]?).map .v
  | .b n => (lookL bin n).map .k

def wfArgs (args : List AV) (bin : List (Nat × Blk)) : Bool :=
  (args.all fun x => x.shallow && x.names.all fun n => (lookL bin n).isSome) && bin.all fun p => p.2.names.all fun n => (lookL bin n).isSome

theorem argSt_wf {args : List AV} {b : List (Nat × Blk)} (h : wfArgs args b = true) : ∀ k it, argSt args b k = some it → ∀ nm, it.mentions nm = true → argSt args b (.b nm) ≠ none := by
  simp only [wfArgs, Bool.and_eq_true, List.all_eq_true] at h
  intro k it hk nm hm
  have key : ∀ n, (lookL b n).isSome = true → argSt args b (.b n) ≠ none := fun n hn => by
    simp only [argSt]
    cases hl : lookL b n with
    | none => rw [hl] at hn; cases hn
    | some x => simp
  cases k with
  | s t =>
    simp only [argSt, Option.map_eq_some_iff] at hk
    obtain ⟨x, hx, rfl⟩ := hk
    have := h.1 _ (List.mem_of_getElem? hx)
    exact key nm (this.2 nm (AV.mem_names this.1 hm))
  | b n =>
    simp only [argSt, Option.map_eq_some_iff] at hk
    obtain ⟨x, hx, rfl⟩ := hk
    exact key nm (h.2 _ (lookL_mem hx) nm (Blk.mem_names hm))

theorem RepA.env {P : Program} {N N' : Nat} {E : Env P N} {E' : Env P N'} (hw : E'.w0 = E.w0) (hS : E'.S0 = E.S0) {ρ : Nat → RI} {w : World} {Im : Nat → Prop} {x : AV} {v : Value} (h : RepA E ρ w Im x v) : RepA E' ρ w Im x v := by
  have h0 : ∀ {x : AV} {v : Value}, RepA0 E ρ w Im x v → RepA0 E' ρ w Im x v := by
    intro x v h
    cases x with
    | clo φ => simp only [RepA0] at h ⊢; rw [hw, hS]; exact h
    | _ => exact h
  cases x with
  | tup vs => obtain ⟨us, rfl, ha⟩ := h; exact ⟨us, rfl, ha.imp fun _ _ _ h' => h0 h'⟩
  | c x => exact h0 (x := .c x) h
  | agg cs => exact h0 (x := .agg cs) h
  | ep g m => exact h0 (x := .ep g m) h
  | rp n sz i o => exact h0 (x := .rp n sz i o) h
  | clo φ => exact h0 (x := .clo φ) h
  | fnc f caps => exact h0 (x := .fnc f caps) h

/-- A value that is no function value. -/
def AV.noClo : AV → Bool
  | .clo _ => false
  | .tup vs => vs.all fun | .clo _ => false | _ => true
  | _ => true

theorem RepA.envS {P : Program} {N N' : Nat} {E : Env P N} {E' : Env P N'} (hk : ∀ w, Keep E'.w0 E'.S0 w → Keep E.w0 E.S0 w) {ρ : Nat → RI} {w : World} {Im : Nat → Prop} {x : AV} {v : Value} (h : RepA E ρ w Im x v) : RepA E' ρ w Im x v := by
  have h0 : ∀ {x : AV} {v : Value}, RepA0 E ρ w Im x v → RepA0 E' ρ w Im x v := by
    intro x v h
    cases x with
    | clo φ => exact CloOK.later h hk
    | _ => exact h
  cases x with
  | tup vs => obtain ⟨us, rfl, ha⟩ := h; exact ⟨us, rfl, ha.imp fun _ _ _ h' => h0 h'⟩
  | c x => exact h0 (x := .c x) h
  | agg cs => exact h0 (x := .agg cs) h
  | ep g m => exact h0 (x := .ep g m) h
  | rp n sz i o => exact h0 (x := .rp n sz i o) h
  | clo φ => exact h0 (x := .clo φ) h
  | fnc f caps => exact h0 (x := .fnc f caps) h

theorem RepA.envP {P : Program} {N N' : Nat} {E : Env P N} {E' : Env P N'} {ρ : Nat → RI} {w : World} {Im : Nat → Prop} {x : AV} {v : Value} (hp : x.noClo = true) (h : RepA E ρ w Im x v) : RepA E' ρ w Im x v := by
  cases x with
  | tup vs =>
    obtain ⟨us, rfl, ha⟩ := h
    refine ⟨us, rfl, ha.imp fun y hy _ h' => ?_⟩
    have := List.all_eq_true.1 hp y hy
    cases y <;> first | exact h' | cases this
  | clo φ => cases hp
  | _ => exact h

theorem FnS.of_body {P : Program} {f : FuncId} {fn : Func} {c : Code} {N : Nat} {args : List AV} {bin : List (Nat × Blk)} {res : AV} {bout : List (Nat × Blk)} {rs : List ResultVar}
    (hen : Enters P f) (hf : P.funcs[f]? = some fn) (hb : fn.body = some c) (hnt : fn.ntmps = N) (hrs : fn.results = rs.toArray) (hlen : Nat.ble args.length N = true) (hwf : wfArgs args bin = true)
    (hbin : bin = []) (hnc : res.noClo = true) (h : ∀ E : Env P N, (∀ b, ¬ E.S0 b) → VC E c (retQ P rs res bout) (argSt args bin)) : FnS P f args bin res bout := by
  subst hbin
  refine ⟨hen, fun w ρ Im S0 vs hargs hmem => ?_⟩
  refine calls_of_wp hf hb ?_
  have hl : vs.length = args.length := hargs.length.symm
  have hle : args.length ≤ N := by simpa using hlen
  have hkeep : ∀ w', Keep w (fun _ => False) w' → Keep w S0 w' := fun w' hk => ⟨hk.os, hk.tape, hk.output, hk.size, fun b hb _ => hk.block b hb (fun h => h)⟩
  have hsat : SatAt (⟨w, Im, fun _ => False⟩ : Env P N) (argSt args []) { tmps := vs.toArray ++ Array.replicate (fn.ntmps - vs.toArray.size) undef, defers := [] } w ρ Im := by
    refine ⟨fun t x hx => ?_, fun nm b hb => ?_, fun nm b hb => ?_, fun n1 n2 b1 b2 h1 => ?_, fun b hb => ⟨(hmem.im b hb).1, (hmem.im b hb).2.1, fun nm bk hk => ?_⟩, argSt_wf hwf, rfl, by simp [hnt]; omega, Keep.refl _ _⟩
    · simp only [argSt, Option.map_eq_some_iff] at hx
      obtain ⟨y, hy, he⟩ := hx
      injection he with he
      subst he
      obtain ⟨u, hu, hr⟩ := hargs.get hy
      have ht : t < vs.length := (List.getElem?_eq_some_iff.1 hu).1
      have : (vs.toArray ++ Array.replicate (fn.ntmps - vs.toArray.size) undef).getD t undef = u := by
        rw [Array.getD_eq_getD_getElem?, Array.getElem?_append_left (by simpa using ht)]
        simp [hu]
      rw [this]
      exact RepA.envS hkeep hr
    · simp [argSt, lookL] at hb
    · simp [argSt, lookL] at hb
    · simp [argSt, lookL] at h1
    · simp [argSt, lookL] at hk
  refine wp_mono (h _ (fun _ h => h) _ w ⟨ρ, Im, hsat⟩) fun e a' w' ⟨σ', ⟨ρ', Im', hs'⟩, he, xs, hres, hx, hbo⟩ => ?_
  obtain ⟨v, hv1, hv2⟩ := hres.results hs' hrs
  have hfin : a'.defers = [] ∧ ∃ v, (results fn a'.tmps).run P w' = .ok v w' ∧ ∃ v' ρ' Im', Ending.returned v = .returned v' ∧ MemAt (⟨w, Im, S0⟩ : Env P 0) (stOf [] bout) w' ρ' Im' ∧ RepA (⟨w, Im, S0⟩ : Env P 0) ρ' w' Im' res v' ∧
      (∀ n cs, (n, Blk.box cs) ∈ ([] : List (Nat × Blk)) → (∃ cs', (n, Blk.box cs') ∈ bout) → ρ' n = ρ n) := by
    have hst : ∀ nm b, stOf [] bout (.b nm) = some (.k b) → σ' (.b nm) = some (.k b) := fun nm b hb => by
      simp only [stOf, Option.map_eq_some_iff] at hb
      obtain ⟨x, hx, he⟩ := hb
      injection he with he
      subst he
      exact hbo _ (lookL_mem hx)
    refine ⟨hs'.defers, v, hv1, v, ρ', Im', rfl, ⟨fun nm b hb => hs'.bk nm b (hst nm b hb), fun nm b hb hl hn => ⟨(hs'.own nm b (hst nm b hb) hl hn).1, (hs'.own nm b (hst nm b hb) hl hn).2.imp (fun h => h.elim) id⟩, fun n1 n2 b1 b2 h1 h2 => hs'.inj n1 n2 b1 b2 (hst _ _ h1) (hst _ _ h2),
      fun b hb => ⟨(hs'.im b hb).1, (hs'.im b hb).2.1, fun nm bk hk => (hs'.im b hb).2.2 nm bk (hst _ _ hk)⟩, hkeep _ hs'.keep⟩, ?_, fun n cs hn => by cases hn⟩
    subst hx
    exact RepA.envP hnc hv2
  rcases he with rfl | rfl
  · exact hfin
  · exact hfin

end Go.Sx
