/-
  What functions of the given program hand back, by walks over its code, and plain laws on that. No condition.
-/
import Derived.Test.YtplonmkbgocmlaaSxLibB
import Derived.MapKept
import Derived.ChangeKeysEq
import Derived.Laws.BytesString
import Derived.Laws.MakeOwn
import Derived.Laws.Strings
import Derived.Laws.Slices
import Derived.RangeFuncFrom
import Derived.Deep.LoopGhost
/-
  Sx: calls of functions that write own blocks that are lent to them (boxes, rows, maps): the callee's names stand for the caller's, a kept block keeps its name.
-/
namespace Go.Sx
open Go Go.RowKit
/-! ## Names turned by a function -/

def C.ren (g : Nat → Nat) : C → C
  | .d x => .d x
  | .ptr n o => .ptr (g n) o
  | .row n m => .row (g n) m
  | .fn f n o => .fn f (g n) o
  | .mp n => .mp (g n)
def AV.ren0 (g : Nat → Nat) : AV → AV
  | .c x => .c (x.ren g)
  | .agg cs => .agg (cs.map (C.ren g))
  | .tup vs => .tup vs
  | .ep g m => .ep g m
  | .rp n sz i o => .rp (g n) sz i o
  | .sub n sz i o => .sub (g n) sz i o
  | .clo φ => .clo φ
  | .fnc f caps => .fnc f (caps.map (C.ren g))
def AV.ren (g : Nat → Nat) : AV → AV
  | .tup vs => .tup (vs.map (AV.ren0 g))
  | x => x.ren0 g
def Blk.ren (g : Nat → Nat) : Blk → Blk
  | .box cs => .box (cs.map (C.ren g))
  | .row T sz xs => .row T sz (xs.map fun cs => cs.map (C.ren g))
  | .full T sz cp xs spare => .full T sz cp (xs.map fun cs => cs.map (C.ren g)) spare
  | .map es => .map (es.map fun p => (p.1, p.2.ren g))
  | .pin n B => .pin (g n) B
  | .dead => .dead
theorem C.ren_names (g : Nat → Nat) (c : C) : (c.ren g).names = c.names.map g := by cases c <;> rfl
theorem Cs.ren_names (g : Nat → Nat) (cs : List C) : (cs.map (C.ren g)).flatMap C.names = (cs.flatMap C.names).map g := by
  rw [List.flatMap_map, List.map_flatMap]
  exact congrArg (fun f => List.flatMap f cs) (funext fun c => C.ren_names g c)
theorem Blk.ren_names (g : Nat → Nat) (b : Blk) : (b.ren g).names = b.names.map g := by
  have h1 : ∀ xs : List (List C), (xs.map fun cs => cs.map (C.ren g)).flatMap (fun cs => cs.flatMap C.names) = (xs.flatMap fun cs => cs.flatMap C.names).map g := fun xs => by
    rw [List.flatMap_map, List.map_flatMap]
    exact congrArg (fun f => List.flatMap f xs) (funext fun cs => Cs.ren_names g cs)
  cases b with
  | box cs => exact Cs.ren_names g cs
  | row T sz xs => exact h1 xs
  | full T sz cp xs spare => exact h1 xs
  | map es =>
    show (es.map fun p => (p.1, p.2.ren g)).flatMap (fun p => p.2.names) = (es.flatMap fun p => p.2.names).map g
    rw [List.flatMap_map, List.map_flatMap]
    exact congrArg (fun f => List.flatMap f es) (funext fun p => C.ren_names g p.2)
  | pin n B => rfl
  | dead => rfl
/-- A value that hangs on no function value that is only known by what it does. -/
def AV.plainW0 : AV → Bool
  | .fnc _ _ => true
  | x => x.plain0
def AV.plainW : AV → Bool
  | .tup vs => vs.all AV.plainW0
  | x => x.plainW0
section
variable {ρ ρ' : Nat → RI} {w w' : World} {Im Im' : Nat → Prop} {g : Nat → Nat}
theorem C.ren_ok {c : C} {v : Value} (hc : Carries w w' Im Im' c.flat) (hρ : ∀ n ∈ c.names, ρ' (g n) = ρ n) (h : RepC ρ w Im c v) : RepC ρ' w' Im' (c.ren g) v := by
  cases c with
  | d x => exact Carries.d hc h
  | ptr n o => simp only [RepC, C.ren] at h ⊢; rw [hρ n (by simp [C.names])]; exact h
  | row n m => simp only [RepC, C.ren] at h ⊢; rw [hρ n (by simp [C.names])]; exact h
  | fn f n o => simp only [RepC, C.ren] at h ⊢; rw [hρ n (by simp [C.names])]; exact h
  | mp n => simp only [RepC, C.ren] at h ⊢; rw [hρ n (by simp [C.names])]; exact h
theorem Cs.ren_ok {cs : List C} {us : List Value} (hc : Carries w w' Im Im' (cs.all C.flat)) (hρ : ∀ n ∈ cs.flatMap C.names, ρ' (g n) = ρ n) (h : All2 (RepC ρ w Im) cs us) : All2 (RepC ρ' w' Im') (cs.map (C.ren g)) us :=
  all2_map h fun c hcs _ h' => C.ren_ok (hc.sub fun ha => List.all_eq_true.1 ha c hcs) (fun n hn => hρ n (List.mem_flatMap.2 ⟨c, hcs, hn⟩)) h'
theorem AV.ren_ok0 {P : Program} {N N' : Nat} {E : Env P N} {E' : Env P N'} {x : AV} {v : Value} (hp : x.plainW0 = true) (hc : Carries w w' Im Im' x.flat0) (hρ : ∀ n ∈ x.names0, ρ' (g n) = ρ n) (h : RepA0 E ρ w Im x v) : RepA0 E' ρ' w' Im' (x.ren0 g) v := by
  cases x with
  | c x => exact C.ren_ok hc hρ h
  | agg cs => obtain ⟨us, rfl, ha⟩ := h; exact ⟨us, rfl, Cs.ren_ok hc hρ ha⟩
  | tup vs => cases hp
  | ep g m =>
    obtain ⟨b, o, rfl, hb, hx⟩ := h
    rcases hc with hf | hk
    · cases hf
    · refine ⟨b, o, rfl, (hk b hb).1, fun j hj => ?_⟩
      obtain ⟨u, hu, hru⟩ := hx j hj
      exact ⟨u, (World.cell?_of_block (hk b hb).2).trans hu, RepD.keep hk hru⟩
  | rp n sz i o => simp only [RepA0, AV.ren0] at h ⊢; rw [hρ n (by simp [AV.names0])]; exact h
  | sub n sz i o => cases hp
  | clo φ => cases hp
  | fnc f caps => obtain ⟨us, rfl, ha⟩ := h; exact ⟨us, rfl, Cs.ren_ok (hc.sub fun hf => by cases hf) hρ ha⟩
theorem AV.ren_ok {P : Program} {N N' : Nat} {E : Env P N} {E' : Env P N'} {x : AV} {v : Value} (hp : x.plainW = true) (hc : Carries w w' Im Im' x.flat) (hρ : ∀ n ∈ x.names, ρ' (g n) = ρ n) (h : RepA E ρ w Im x v) : RepA E' ρ' w' Im' (x.ren g) v := by
  cases x with
  | tup vs =>
    obtain ⟨us, rfl, ha⟩ := h
    simp only [AV.plainW, List.all_eq_true] at hp
    exact ⟨us, rfl, all2_map ha fun y hy _ h' => AV.ren_ok0 (hp y hy) (hc.sub fun hf => List.all_eq_true.1 hf y hy) (fun n hn => hρ n (List.mem_flatMap.2 ⟨y, hy, hn⟩)) h'⟩
  | c x => exact AV.ren_ok0 (E := E) (E' := E') (x := .c x) hp hc hρ h
  | agg cs => exact AV.ren_ok0 (E := E) (E' := E') (x := .agg cs) hp hc hρ h
  | ep g m => exact AV.ren_ok0 (E := E) (E' := E') (x := .ep g m) hp hc hρ h
  | rp n sz i o => exact AV.ren_ok0 (E := E) (E' := E') (x := .rp n sz i o) hp hc hρ h
  | sub n sz i o => cases hp
  | clo φ => cases hp
  | fnc f caps => exact AV.ren_ok0 (E := E) (E' := E') (x := .fnc f caps) hp hc hρ h
theorem Blk.ren_ok {b : Blk} {n : Nat} (hc : Carries w w' Im Im' b.flat) (hn : ρ' (g n) = ρ n) (hh : (ρ n).isNil = false → b.live = true → w'.heap[(ρ n).blk]? = w.heap[(ρ n).blk]?) (hρ : ∀ m ∈ b.names, ρ' (g m) = ρ m) (h : BlkOK ρ w Im n b) : BlkOK ρ' w' Im' (g n) (b.ren g) := by
  cases b with
  | box cs =>
    obtain ⟨hnil, us, T, h1, h2⟩ := h
    exact ⟨by rw [hn]; exact hnil, us, T, by rw [hn, hh hnil rfl]; exact h1, Cs.ren_ok hc hρ h2⟩
  | row T sz xs =>
    unfold BlkOK at h
    unfold BlkOK Blk.ren
    simp only
    rw [hn]
    cases hnil : (ρ n).isNil with
    | true => simp only [hnil, if_true] at h ⊢; rw [h]; rfl
    | false =>
      simp only [hnil, Bool.false_eq_true, if_false] at h ⊢
      obtain ⟨us, spare, h1, h2, h3, h4, h5, h6⟩ := h
      refine ⟨us, spare, by rw [hh hnil rfl]; exact h1, ?_, ?_, h4, by simpa using h5, h6⟩
      · have hfl : (xs.map fun cs => cs.map (C.ren g)).flatten = xs.flatten.map (C.ren g) := by
          rw [← List.map_flatten]
        rw [hfl]
        refine Cs.ren_ok (hc.sub fun hf => ?_) (fun m hm => hρ m ?_) h2
        · simp only [Blk.flat, List.all_eq_true] at hf ⊢
          intro c hc'
          obtain ⟨l, hl, hcl⟩ := List.mem_flatten.1 hc'
          exact hf l hl c hcl
        · obtain ⟨c, hc', hmc⟩ := List.mem_flatMap.1 hm
          obtain ⟨l, hl, hcl⟩ := List.mem_flatten.1 hc'
          exact List.mem_flatMap.2 ⟨l, hl, List.mem_flatMap.2 ⟨c, hcl, hmc⟩⟩
      · intro x hx
        obtain ⟨y, hy, rfl⟩ := List.mem_map.1 hx
        simpa using h3 y hy
  | full T sz cp xs spare =>
    obtain ⟨hnil, hcap, us, h1, h2, h3, h4, h5, h6⟩ := h
    refine ⟨by rw [hn]; exact hnil, by rw [hn]; exact hcap, us, by rw [hn, hh hnil rfl]; exact h1, ?_, ?_, h4, by simpa using h5, h6⟩
    · have hfl : (xs.map fun cs => cs.map (C.ren g)).flatten = xs.flatten.map (C.ren g) := by
        rw [← List.map_flatten]
      rw [hfl]
      refine Cs.ren_ok (hc.sub fun hf => ?_) (fun m hm => hρ m ?_) h2
      · simp only [Blk.flat, List.all_eq_true] at hf ⊢
        intro c hc'
        obtain ⟨l, hl, hcl⟩ := List.mem_flatten.1 hc'
        exact hf l hl c hcl
      · obtain ⟨c, hc', hmc⟩ := List.mem_flatMap.1 hm
        obtain ⟨l, hl, hcl⟩ := List.mem_flatten.1 hc'
        exact List.mem_flatMap.2 ⟨l, hl, List.mem_flatMap.2 ⟨c, hcl, hmc⟩⟩
    · intro x hx
      obtain ⟨y, hy, rfl⟩ := List.mem_map.1 hx
      simpa using h3 y hy
  | map es =>
    obtain ⟨hnil, arr, clock, h1, h2⟩ := h
    exact ⟨by rw [hn]; exact hnil, arr, clock, by rw [hn, hh hnil rfl]; exact h1, all2_map h2 fun p hp e h' => ⟨h'.1, C.ren_ok (hc.sub fun hf => List.all_eq_true.1 hf p hp) (fun m hm => hρ m (List.mem_flatMap.2 ⟨p, hp, hm⟩)) h'.2⟩⟩
  | pin m B =>
    have := hρ m (by simp [Blk.names])
    show ρ' (g m) = B
    rw [this]; exact h
  | dead => trivial
end
/-! ## New blocks of a call, by such names -/

def newW (g : Nat → Nat) (bo : List (Nat × Blk)) : Upds := bo.map fun p => (.b (g p.1), some (.k (p.2.ren g)))
theorem upds_newW_s (g : Nat → Nat) (t : Nat) : ∀ (bo : List (Nat × Blk)) (σ : St), σ.upds (newW g bo) (.s t) = σ (.s t)
  | [], _ => rfl
  | p :: bo, σ => (upds_newW_s g t bo _).trans (St.upd_other _ _ (by intro e; cases e))
theorem upds_newW_old (g : Nat → Nat) (q : Nat) : ∀ (bo : List (Nat × Blk)) (σ : St), (∀ p ∈ bo, g p.1 ≠ q) → σ.upds (newW g bo) (.b q) = σ (.b q)
  | [], _, _ => rfl
  | p :: bo, σ, h => (upds_newW_old g q bo _ fun r hr => h r (by simp [hr])).trans (St.upd_other _ _ (by intro e; injection e with e; exact h p (by simp) e))
theorem upds_newW_new (g : Nat → Nat) : ∀ (bo : List (Nat × Blk)) (σ : St), (∀ p ∈ bo, ∀ q ∈ bo, g p.1 = g q.1 → p.1 = q.1) → nodupB bo = true → ∀ n b, lookL bo n = some b → σ.upds (newW g bo) (.b (g n)) = some (.k (b.ren g))
  | [], _, _, _, _, _, h => by cases h
  | p :: bo, σ, hi, hd, n, b, h => by
    simp only [nodupB, Bool.and_eq_true] at hd
    simp only [lookL] at h
    cases hb : Nat.beq p.1 n with
    | true =>
      rw [hb] at h
      have e : p.1 = n := by simpa using hb
      have e2 : p.2 = b := by simpa using h
      subst e; subst e2
      refine (upds_newW_old g (g p.1) bo _ fun r hr he => ?_).trans (St.upd_same _ _ _)
      have he := hi r (by simp [hr]) p (by simp) he
      have hn : lookL bo p.1 = none := by simpa using hd.1
      obtain ⟨r1, r2⟩ := r
      simp only at he
      subst he
      have := lookL_of_mem hr
      rw [hn] at this
      cases this
    | false =>
      rw [hb] at h
      exact upds_newW_new g bo _ (fun x hx y hy => hi x (by simp [hx]) y (by simp [hy])) hd.2 n b h
section
variable {P : Program} {N : Nat} {E : Env P N} {σ : St} {a : Act} {w w' : World} {ρ ρ' : Nat → RI} {Im Im' ImL : Nat → Prop}
theorem find_isSome {bo : List (Nat × Blk)} {g : Nat → Nat} {q : Nat} {p : Nat × Blk} (h : bo.find? (fun p => Nat.beq (g p.1) q) = some p) : p ∈ bo ∧ g p.1 = q :=
  ⟨List.mem_of_find?_eq_some h, by have := List.find?_some h; simpa using this⟩
theorem SatAt.afterW (h : SatAt E σ a w ρ Im) {S : Nat → Prop} (hS1 : ∀ n b, σ (.b n) = some (.k b) → b.live = true → (ρ n).isNil = false → ¬ S (ρ n).blk) (hS2 : ∀ b, Im b → ¬ S b) (hS3 : ∀ b, S b → E.S0 b ∨ E.w0.heap.size ≤ b) {bo : List (Nat × Blk)} {res : AV} {v : Value} {g : Nat → Nat} (hm : MemAt (⟨w, ImL, S⟩ : Env P 0) (stOf [] bo) w' ρ' Im')
    (hr : RepA (⟨w, ImL, S⟩ : Env P 0) ρ' w' Im' res v) (hfl : (∀ b, ImL b → Im b) ∨ (res.flat = true ∧ bo.all (fun p => p.2.flat) = true)) (hpl : res.plainW = true)
    (hwf : wfRes res bo = true) (hinj : ∀ p ∈ bo, ∀ q ∈ bo, g p.1 = g q.1 → p.1 = q.1)
    (hfresh : ∀ p ∈ bo, σ (.b (g p.1)) = none ∨ (σ (.b (g p.1)) = some (.k .dead) ∧ ρ' p.1 = ρ (g p.1))) :
    ∃ ρ'' Im'', SatAt E (σ.upds (newW g bo)) a w' ρ'' Im'' ∧ RepA E ρ'' w' Im'' (res.ren g) v ∧ ∀ nm, (res.ren g).mentions nm = true → σ.upds (newW g bo) (.b nm) ≠ none := by
  simp only [wfRes, Bool.and_eq_true, List.all_eq_true] at hwf
  obtain ⟨⟨⟨hsh, hresn⟩, hbon⟩, hnd⟩ := hwf
  let look : Nat → Option (Nat × Blk) := fun q => bo.find? (fun p => Nat.beq (g p.1) q)
  let ρ'' : Nat → RI := fun q => match look q with | some p => ρ' p.1 | none => ρ q
  let Im'' : Nat → Prop := fun b => Im b ∨ (Im' b ∧ w.heap.size ≤ b)
  have hkeep : Keep w S w' := hm.keep
  have hsize : w.heap.size ≤ w'.heap.size := hkeep.size
  have hblk : ∀ b, b < w.heap.size → ¬ S b → w'.heap[b]? = w.heap[b]? := fun b hb hS => hkeep.block b hb hS
  have hmemL : ∀ n, (lookL bo n).isSome = true → ∃ p ∈ bo, p.1 = n := fun n hn => by
    obtain ⟨b, hb⟩ := Option.isSome_iff_exists.1 hn
    exact ⟨_, lookL_mem hb, rfl⟩
  have hnewρ : ∀ n, (lookL bo n).isSome = true → ρ'' (g n) = ρ' n := fun n hn => by
    obtain ⟨p, hp, rfl⟩ := hmemL n hn
    have : ∃ q, look (g p.1) = some q := by
      cases hl : look (g p.1) with
      | some q => exact ⟨q, rfl⟩
      | none =>
        have := List.find?_eq_none.1 hl p hp
        simp at this
    obtain ⟨q, hq⟩ := this
    obtain ⟨h1, h2⟩ := find_isSome hq
    show (match look (g p.1) with | some p => ρ' p.1 | none => ρ (g p.1)) = _
    rw [hq]
    simp only
    rw [hinj q h1 p hp h2]
  have holdρ : ∀ n, σ (.b n) ≠ none → ρ'' n = ρ n := fun n hn => by
    show (match look n with | some p => ρ' p.1 | none => ρ n) = _
    cases hl : look n with
    | none => rfl
    | some p =>
      obtain ⟨h1, h2⟩ := find_isSome hl
      rcases hfresh p h1 with h3 | ⟨_, h3⟩
      · rw [h2] at h3; exact absurd h3 hn
      · rw [h2] at h3; exact h3
  have hσ : ∀ n, look n = none → σ.upds (newW g bo) (.b n) = σ (.b n) := fun n hn => upds_newW_old g n bo σ fun p hp e => by
    have := List.find?_eq_none.1 hn p hp
    simp [e] at this
  have hσn : ∀ n b, lookL bo n = some b → σ.upds (newW g bo) (.b (g n)) = some (.k (b.ren g)) := upds_newW_new g bo σ hinj hnd
  have hIm'' : ∀ b, Im b → Im'' b ∧ w'.heap[b]? = w.heap[b]? := fun b hb => ⟨.inl hb, hblk b (h.im b hb).2.1 (hS2 b hb)⟩
  have hcar : ∀ fl, ((res.flat = true ∧ bo.all (fun p => p.2.flat) = true) → fl = true) → Carries w' w' Im' Im'' fl := fun fl hf => by
    rcases hfl with hl | hl
    · right
      intro b hb
      refine ⟨?_, rfl⟩
      rcases (hm.im b hb).1 with h1 | h1
      · exact .inl (hl b h1)
      · exact .inr ⟨hb, h1⟩
    · exact .inl (hf hl)
  -- a live item of the new state: an old one, or a new one
  have hcase : ∀ n b, σ.upds (newW g bo) (.b n) = some (.k b) → (look n = none ∧ σ (.b n) = some (.k b)) ∨ ∃ m b', n = g m ∧ lookL bo m = some b' ∧ b = b'.ren g := fun n b hb => by
    cases hi : look n with
    | none => rw [hσ n hi] at hb; exact .inl ⟨rfl, hb⟩
    | some p =>
      obtain ⟨h1, h2⟩ := find_isSome hi
      have hb' := lookL_of_mem h1
      obtain ⟨b', hb'⟩ := Option.isSome_iff_exists.1 hb'
      have := hσn p.1 b' hb'
      rw [h2, hb] at this
      injection this with this; injection this with this
      exact .inr ⟨p.1, b', h2.symm, hb', this⟩
  have hst : ∀ m b', lookL bo m = some b' → stOf [] bo (.b m) = some (.k b') := fun m b' hb => by simp [stOf, hb]
  have hlive : ∀ b : Blk, (b.ren g).live = b.live := fun b => by cases b <;> rfl
  have hnot : ∀ n b, σ (.b n) = some (.k b) → look n = none → ∀ m b', lookL bo m = some b' → n ≠ g m := fun n b _ hl m b' hb' e => by
    have := List.find?_eq_none.1 hl _ (lookL_mem hb')
    simp [e] at this
  refine ⟨ρ'', Im'', ⟨fun t x hx => ?_, fun n b hb => ?_, fun n b hb hl hn => ?_, fun n1 n2 b1 b2 h1 h2 l1 l2 i1 i2 hne => ?_, fun b hb => ?_, fun kk it hk n hn => ?_, h.defers, h.size, ?_⟩, ?_, fun nm hn => ?_⟩
  · rw [upds_newW_s] at hx
    exact RepA.keep hIm'' (fun n hn => holdρ n (h.wf _ _ hx n hn)) (h.fr t x hx)
  · rcases hcase n b hb with ⟨_, hb0⟩ | ⟨m, b', rfl, hb', rfl⟩
    · exact BlkOK.keep hIm'' (holdρ n (by rw [hb0]; simp)) (fun hnil hl => hblk _ (h.own n b hb0 hl hnil).1 (hS1 n b hb0 hl hnil)) (fun n' hn' => holdρ n' (h.wf _ _ hb0 n' hn')) (h.bk n b hb0)
    · refine Blk.ren_ok (hcar _ fun hf => ?_) (hnewρ m (by rw [hb']; rfl)) (fun _ _ => rfl) (fun n hn => hnewρ n (hbon _ (lookL_mem hb') n hn)) (hm.bk m b' (hst m b' hb'))
      exact List.all_eq_true.1 hf.2 _ (lookL_mem hb')
  · rcases hcase n b hb with ⟨_, hb0⟩ | ⟨m, b', rfl, hb', rfl⟩
    · rw [holdρ n (by rw [hb0]; simp)] at hn ⊢
      obtain ⟨h1, h2⟩ := h.own n b hb0 hl hn
      exact ⟨by omega, h2⟩
    · rw [hnewρ m (by rw [hb']; rfl)] at hn ⊢
      rw [hlive] at hl
      obtain ⟨h1, h2⟩ := hm.own m b' (hst m b' hb') hl hn
      rcases h2 with h2 | h2
      · exact ⟨h1, hS3 _ h2⟩
      · have : w.heap.size ≤ (ρ' m).blk := h2
        exact ⟨h1, .inr (Nat.le_trans h.keep.size this)⟩
  · rcases hcase n1 b1 h1 with ⟨_, hb1⟩ | ⟨m1, c1, rfl, hc1, rfl⟩ <;> rcases hcase n2 b2 h2 with ⟨_, hb2⟩ | ⟨m2, c2, rfl, hc2, rfl⟩
    · rw [holdρ n1 (by rw [hb1]; simp)] at i1 ⊢
      rw [holdρ n2 (by rw [hb2]; simp)] at i2 ⊢
      exact h.inj n1 n2 b1 b2 hb1 hb2 l1 l2 i1 i2 hne
    · rw [holdρ n1 (by rw [hb1]; simp)] at i1 ⊢
      rw [hnewρ m2 (by rw [hc2]; rfl)] at i2 ⊢
      rw [hlive] at l2
      have e1 := (h.own n1 b1 hb1 l1 i1).1
      rcases (hm.own m2 c2 (hst m2 c2 hc2) l2 i2).2 with e2 | e2
      · exact fun e => hS1 n1 b1 hb1 l1 i1 (by rw [e]; exact e2)
      · have : w.heap.size ≤ (ρ' m2).blk := e2
        omega
    · rw [hnewρ m1 (by rw [hc1]; rfl)] at i1 ⊢
      rw [holdρ n2 (by rw [hb2]; simp)] at i2 ⊢
      rw [hlive] at l1
      have e1 := (h.own n2 b2 hb2 l2 i2).1
      rcases (hm.own m1 c1 (hst m1 c1 hc1) l1 i1).2 with e2 | e2
      · exact fun e => hS1 n2 b2 hb2 l2 i2 (by rw [← e]; exact e2)
      · have : w.heap.size ≤ (ρ' m1).blk := e2
        omega
    · rw [hnewρ m1 (by rw [hc1]; rfl)] at i1 ⊢
      rw [hnewρ m2 (by rw [hc2]; rfl)] at i2 ⊢
      rw [hlive] at l1 l2
      exact hm.inj m1 m2 c1 c2 (hst _ _ hc1) (hst _ _ hc2) l1 l2 i1 i2 (fun e => hne (by rw [e]))
  · rcases hb with hb | ⟨hb, hge⟩
    · obtain ⟨h1, h2, h3⟩ := h.im b hb
      refine ⟨h1, by omega, fun n bk hk hl hn => ?_⟩
      rcases hcase n bk hk with ⟨_, hb0⟩ | ⟨m, c, rfl, hc, rfl⟩
      · rw [holdρ n (by rw [hb0]; simp)] at hn ⊢
        exact h3 n bk hb0 hl hn
      · rw [hnewρ m (by rw [hc]; rfl)] at hn ⊢
        rw [hlive] at hl
        rcases (hm.own m c (hst m c hc) hl hn).2 with e2 | e2
        · exact fun e => hS2 b hb (by rw [← e]; exact e2)
        · have : w.heap.size ≤ (ρ' m).blk := e2
          omega
    · obtain ⟨h1, h2, h3⟩ := hm.im b hb
      refine ⟨.inr (Nat.le_trans h.keep.size hge), h2, fun n bk hk hl hn => ?_⟩
      rcases hcase n bk hk with ⟨_, hb0⟩ | ⟨m, c, rfl, hc, rfl⟩
      · rw [holdρ n (by rw [hb0]; simp)] at hn ⊢
        have := (h.own n bk hb0 hl hn).1
        omega
      · rw [hnewρ m (by rw [hc]; rfl)] at hn ⊢
        rw [hlive] at hl
        exact h3 m c (hst m c hc) hl hn
  · have hkept : ∀ q, σ (.b q) ≠ none → σ.upds (newW g bo) (.b q) ≠ none := fun q hq => by
      cases hl : look q with
      | none => rw [hσ q hl]; exact hq
      | some p =>
        obtain ⟨h1, h2⟩ := find_isSome hl
        obtain ⟨b', hb'⟩ := Option.isSome_iff_exists.1 (lookL_of_mem h1)
        rw [← h2, hσn p.1 b' hb']; simp
    cases kk with
    | s t => rw [upds_newW_s] at hk; exact hkept n (h.wf _ _ hk n hn)
    | b n' =>
      cases it with
      | v x =>
        cases hl : look n' with
        | none => rw [hσ n' hl] at hk; exact hkept n (h.wf _ _ hk n hn)
        | some p =>
          obtain ⟨h1, h2⟩ := find_isSome hl
          obtain ⟨b', hb'⟩ := Option.isSome_iff_exists.1 (lookL_of_mem h1)
          rw [← h2, hσn p.1 b' hb'] at hk
          injection hk with hk; cases hk
      | k b =>
        rcases hcase n' b hk with ⟨_, hb0⟩ | ⟨m, b', rfl, hb', rfl⟩
        · exact hkept n (h.wf _ _ hb0 n hn)
        · have := Blk.mem_names hn
          rw [Blk.ren_names] at this
          obtain ⟨q, hq, rfl⟩ := List.mem_map.1 this
          obtain ⟨c, hc⟩ := Option.isSome_iff_exists.1 (hbon _ (lookL_mem hb') q hq)
          rw [hσn q c hc]; simp
  · exact h.keep.step hkeep.os hkeep.tape hkeep.output hsize (fun b hb hE => hblk b (by have := h.keep.size; omega) (fun hS => (hS3 b hS).elim hE (fun h => by omega)))
  · exact AV.ren_ok hpl (hcar _ fun hf => hf.1) (fun n hn => hnewρ n (hresn n hn)) hr
  · have hnn : ∃ q ∈ res.names, nm = g q := by
      have hcs : ∀ cs : List C, (cs.map (C.ren g)).any (·.mentions nm) = true → ∃ q ∈ cs.flatMap C.names, nm = g q := fun cs hcs => by
        have := Cs.mem_names hcs
        rw [Cs.ren_names] at this
        obtain ⟨q, hq, e⟩ := List.mem_map.1 this
        exact ⟨q, hq, e.symm⟩
      have h0 : ∀ y : AV, y.plainW0 = true → (y.ren0 g).mentions0 nm = true → ∃ q ∈ y.names0, nm = g q := fun y hp hy => by
        cases y with
        | c x =>
          obtain ⟨q, hq, e⟩ := hcs [x] (by simpa [AV.mentions0, AV.ren0] using hy)
          exact ⟨q, by simpa [AV.names0] using hq, e⟩
        | agg cs => exact hcs cs hy
        | tup vs => cases hp
        | ep g m => cases hy
        | rp n sz i o => have : g n = nm := by simpa [AV.mentions0, AV.ren0] using hy
                         exact ⟨n, by simp [AV.names0], this.symm⟩
        | sub n sz i o => cases hp
        | clo φ => cases hp
        | fnc f caps => exact hcs caps hy
      cases res with
      | tup vs =>
        simp only [AV.ren, AV.mentions, List.any_map, List.any_eq_true] at hn
        obtain ⟨y, hy, hm⟩ := hn
        simp only [AV.plainW, List.all_eq_true] at hpl
        obtain ⟨q, hq, e⟩ := h0 y (hpl y hy) hm
        exact ⟨q, List.mem_flatMap.2 ⟨y, hy, hq⟩, e⟩
      | c x => exact h0 (.c x) hpl hn
      | agg cs => exact h0 (.agg cs) hpl hn
      | ep g m => exact h0 (.ep g m) hpl hn
      | rp n sz i o => exact h0 (.rp n sz i o) hpl hn
      | sub n sz i o => cases hpl
      | clo φ => cases hpl
      | fnc f caps => exact h0 (.fnc f caps) hpl hn
    obtain ⟨q, hq, rfl⟩ := hnn
    obtain ⟨b, hb⟩ := Option.isSome_iff_exists.1 (hresn q hq)
    rw [hσn q b hb]
    simp
end
/-! ## A call -/

/-- Ghost items that say what names stand for. -/
def pinsL (K : List Nat) (r : Nat → RI) : List (Nat × Blk) := K.map fun n => (9000 + n, .pin n (r n))
/-- As FnS; the blocks of K are where they were. -/
def FnW (P : Program) (f : FuncId) (args : List AV) (bin : List (Nat × Blk)) (K : List Nat) (res : AV) (bout : List (Nat × Blk)) : Prop :=
  ∀ r : Nat → RI, FnS P f args (pinsL K r ++ bin) res (pinsL K r ++ bout)
inductive AX (P : Program) (σ : St) (f : Nat → Nat) (L : List Nat) : AV → AV → Prop where
  | w {x y : AV} : AW σ f L x y → y.noClo = true → AX P σ f L x y
  | r {x y : AV} : AR P σ L x y → AX P σ f L x y
theorem CW.of_same {σ σ' : St} {f : Nat → Nat} {L : List Nat} (hL : ∀ nm ∈ L, σ' (.b nm) = σ (.b nm)) {x y : C} (h : CW σ f L x y) : CW σ' f L x y := by
  cases h with
  | d => exact .d
  | nil => exact .nil
  | ptr h => exact .ptr h
  | row h h' => exact .row h h'
  | fn h => exact .fn h
  | mp h => exact .mp h
  | imp h => exact .imp h
  | frz h1 h2 h3 h4 => exact .frz h1 (by rw [hL _ h1]; exact h2) h3 h4
theorem AW.of_same {σ σ' : St} {f : Nat → Nat} {L : List Nat} (hL : ∀ nm ∈ L, σ' (.b nm) = σ (.b nm)) {x y : AV} (h : AW σ f L x y) : AW σ' f L x y := by
  cases h with
  | c h => exact .c (h.of_same hL)
  | agg h => exact .agg (h.imp fun _ _ _ h => h.of_same hL)
  | ep => exact .ep
  | rp h => exact .rp h
  | sub h => exact .sub h
  | clo => exact .clo
  | fnc => exact .fnc
  | fncC h => exact .fncC (h.imp fun _ _ _ h => h.of_same hL)
theorem BW.of_same {σ σ' : St} {f : Nat → Nat} {L : List Nat} (hL : ∀ nm ∈ L, σ' (.b nm) = σ (.b nm)) {x y : Blk} (h : BW σ f L x y) : BW σ' f L x y := by
  have hh : ∀ {xs ys : List (List C)}, All2 (All2 (CW σ f L)) xs ys → All2 (All2 (CW σ' f L)) xs ys := fun h => h.imp fun _ _ _ h => h.imp fun _ _ _ h => h.of_same hL
  cases h with
  | box h => exact .box (h.imp fun _ _ _ h => h.of_same hL)
  | row h => exact .row (hh h)
  | full h => exact .full (hh h)
  | shut n h => exact .shut n (hh h)
  | trunc n h => exact .trunc n (hh h)
  | map h => exact .map (h.imp fun _ _ _ h => ⟨h.1, h.2.of_same hL⟩)
  | pin h => exact .pin h
theorem AX.of_same {P : Program} {σ σ' : St} {f : Nat → Nat} {L : List Nat} (hL : ∀ nm ∈ L, σ' (.b nm) = σ (.b nm)) {x y : AV} (h : AX P σ f L x y) : AX P σ' f L x y := by
  cases h with
  | w h h' => exact .w (h.of_same hL) h'
  | r h => exact .r (h.of_same hL)
theorem hasBW_mem {σ : St} {f : Nat → Nat} {L : List Nat} : ∀ {l : List (Nat × Blk)}, hasBW σ f L l → ∀ p ∈ l, ∃ y, σ (.b (f p.1)) = some (.k y) ∧ BW σ f L y p.2
  | q :: l, h, p, hp => by
    rcases List.mem_cons.1 hp with rfl | hp
    · exact h.1
    · exact hasBW_mem h.2 p hp
theorem hasBW_of_same {σ σ' : St} {f : Nat → Nat} {L : List Nat} (hL : ∀ nm ∈ L, σ' (.b nm) = σ (.b nm)) : ∀ {l : List (Nat × Blk)}, hasBW σ f L l → (∀ p ∈ l, σ' (.b (f p.1)) = σ (.b (f p.1))) → hasBW σ' f L l
  | [], _, _ => trivial
  | p :: l, h, hk => ⟨by obtain ⟨y, h1, h2⟩ := h.1; exact ⟨y, by rw [hk p (by simp)]; exact h1, h2.of_same hL⟩, hasBW_of_same hL h.2 fun q hq => hk q (by simp [hq])⟩
theorem lookL_app {α : Type} : ∀ (l m : List (Nat × α)) (n : Nat), lookL (l ++ m) n = (lookL l n).or (lookL m n)
  | [], m, n => by simp [lookL]
  | (k, x) :: l, m, n => by
    simp only [List.cons_append, lookL]
    cases Nat.beq k n with
    | true => rfl
    | false => exact lookL_app l m n
theorem lookL_pins {K : List Nat} {r : Nat → RI} {q : Nat} {b : Blk} (h : lookL (pinsL K r) q = some b) : ∃ n ∈ K, q = 9000 + n ∧ b = .pin n (r n) := by
  have := lookL_mem h
  simp only [pinsL, List.mem_map] at this
  obtain ⟨n, hn, e⟩ := this
  injection e with e1 e2
  exact ⟨n, hn, e1.symm, e2.symm⟩
theorem SatAt.kills {P : Program} {N : Nat} {E : Env P N} {a : Act} {w : World} {ρ : Nat → RI} {Im : Nat → Prop} : ∀ (l : List Nat) {σ : St}, SatAt E σ a w ρ Im → SatAt E (σ.upds (l.map fun n => (Key.b n, some (Item.k .dead)))) a w ρ Im
  | [], _, h => h
  | n :: l, _, h => SatAt.kills l (h.kill n)
theorem kills_in : ∀ (l : List Nat) (σ : St) (n : Nat), n ∈ l → σ.upds (l.map fun n => (Key.b n, some (Item.k .dead))) (.b n) = some (.k .dead)
  | m :: l, σ, n, h => by
    by_cases hl : n ∈ l
    · exact kills_in l _ n hl
    · have : n = m := by rcases List.mem_cons.1 h with h | h; exact h; exact absurd h hl
      subst this
      have hk : ∀ (l : List Nat) (σ : St), n ∉ l → σ.upds (l.map fun n => (Key.b n, some (Item.k .dead))) (.b n) = σ (.b n) := by
        intro l
        induction l with
        | nil => intro σ _; rfl
        | cons m l ih => intro σ hn; exact (ih _ fun h => hn (by simp [h])).trans (St.upd_other _ _ (by intro e; injection e with e; exact hn (by simp [e])))
      exact (hk l _ hl).trans (St.upd_same _ _ _)
theorem kills_out : ∀ (l : List Nat) (σ : St) (n : Nat), n ∉ l → σ.upds (l.map fun n => (Key.b n, some (Item.k .dead))) (.b n) = σ (.b n)
  | [], _, _, _ => rfl
  | m :: l, σ, n, h => (kills_out l _ n fun hn => h (by simp [hn])).trans (St.upd_other _ _ (by intro e; injection e with e; exact h (by simp [e])))
/-- The callee's names behind the call: the kept ones have their old names, the others are new. -/
def memN : List Nat → Nat → Bool
  | [], _ => false
  | m :: l, n => (m == n) || memN l n
theorem memN_iff : ∀ {l : List Nat} {n : Nat}, memN l n = true ↔ n ∈ l
  | [], n => by simp [memN]
  | m :: l, n => by
    rw [memN, Bool.or_eq_true, memN_iff (l := l), List.mem_cons]
    constructor
    · rintro (h | h)
      · exact .inl (by have := of_decide_eq_true (show decide (m = n) = true from by simpa using h); exact this.symm)
      · exact .inr h
    · rintro (h | h)
      · exact .inl (by subst h; simp)
      · exact .inr h
def nmL : List (Nat × Nat) → Nat → Nat
  | [], n => n
  | (a, b) :: l, n => bif a == n then b else nmL l n
def gW (f : Nat → Nat) (K : List Nat) (d n : Nat) : Nat := bif memN K n then f n else 1000 * d + n
def injW (g : Nat → Nat) : List (Nat × Blk) → Bool
  | [] => true
  | p :: l => l.all (fun q => Nat.beq p.1 q.1 || !Nat.beq (g p.1) (g q.1)) && injW g l
theorem injW_ok {g : Nat → Nat} : ∀ {l : List (Nat × Blk)}, injW g l = true → ∀ p ∈ l, ∀ q ∈ l, g p.1 = g q.1 → p.1 = q.1
  | p :: l, h, x, hx, y, hy, e => by
    simp only [injW, Bool.and_eq_true, List.all_eq_true, Bool.or_eq_true, Bool.not_eq_true'] at h
    rcases List.mem_cons.1 hx with e1 | h1 <;> rcases List.mem_cons.1 hy with e2 | h2
    · rw [e1, e2]
    · subst e1
      rcases h.1 y h2 with h3 | h3
      · simpa using h3
      · rw [e] at h3; simp at h3
    · subst e2
      rcases h.1 x h1 with h3 | h3
      · have : y.1 = x.1 := by simpa using h3
        exact this.symm
      · rw [e] at h3; simp at h3
    · exact injW_ok h.2 x h1 y h2 e
section
variable {P : Program} {N : Nat} {E : Env P N} {ops : Array Oper} {dr : Bool} {rest : List Oper} {σ : St} {tr : Trace} {K : St → Prop}
  {d : Nat} {ty : TypeId} {pos : String} {af : Array Edge} {gd : Option (Nat × Bool)} {gR : Upds}
theorem AX.ok {a : Act} {w : World} {ρ : Nat → RI} {Im : Nat → Prop} {f : Nat → Nat} {L : List Nat} (hs : SatAt E σ a w ρ Im) {S : Nat → Prop} (hS1 : ∀ b, lentIm σ ρ Im L b → ¬ S b) (hS3 : ∀ b, S b → E.S0 b ∨ E.w0.heap.size ≤ b) {x y : AV} {v : Value} (h : AX P σ f L x y) (hr : RepA E ρ w Im x v) :
    RepA (⟨w, lentIm σ ρ Im L, S⟩ : Env P 0) (fun n => ρ (f n)) w (lentIm σ ρ Im L) y v := by
  cases h with
  | w h h' => exact RepA.envP h' (h.ok hs hr)
  | r h => exact AR.okS hs hS1 hS3 h hr
/-- A call of a function (or of a function value that is known) that is lent own blocks, and may write them. 'f': which of the caller's blocks the callee's names stand for; L: rows that it may read; KK: blocks that are where they were. -/
theorem vr_callW {fid : FuncId} {y : Operand} {caps : List C} {xs : List Operand} {ats : Array TypeId} {as cargs : List AV} {res res' : AV} {bin bo : List (Nat × Blk)} {U : Upds} (f : Nat → Nat) (L KK : List Nat) (hF : FnW P fid cargs bin KK res bo) (hg : GOK N ops σ gd gR)
    (hy : ev σ y = some (.fnc fid caps)) (hxs : evL σ xs = some as) (hA : All2 (AX P σ f L) (as ++ caps.map AV.c) cargs) (hB : hasBW σ f L bin) (hi : injOK f L bin = true) (hlive : (bin.all fun p => p.2.live && Nat.blt p.1 9000) = true)
    (hK : (KK.all fun n => (lookL bin n).isSome) = true) (hfl : (L.isEmpty || (res.flat && bo.all fun p => p.2.flat)) = true) (hpl : res.plainW = true) (hwf : wfRes res bo = true) (hbo : (bo.all fun p => Nat.blt p.1 9000) = true)
    (hgi : injW (gW f KK d) bo = true) (hfresh : (bo.all fun p => memN KK p.1 || (σ (.b (1000 * d + p.1))).isNone) = true) (hU : newW (gW f KK d) bo = U) (hres : res.ren (gW f KK d) = res') (hN : Nat.blt d N = true)
    (k : VR E ops dr rest (((σ.upds ((bin.map fun p => f p.1).map fun n => (Key.b n, some (Item.k .dead)))).upds U).set d res')
      ((gR.map (·.1) ++ (opK y ++ (opLK xs ++ ((bin.map fun p => Key.b (f p.1)) ++ (L.map Key.b ++ bo.map fun p => Key.b (gW f KK d p.1))))), (bin.map fun p => Key.b (f p.1)) ++ (U.map (·.1) ++ [.s d])) :: tr) K) :
    VR E ops dr (⟨some d, .call ⟨.value y, xs.toArray, ats⟩, ty, pos, af, gd⟩ :: rest) σ tr K := by
  subst hU; subst hres
  have hupds : ∀ (U V : Upds) (s : St), s.upds (U ++ V) = (s.upds U).upds V := by
    intro U V
    induction U with
    | nil => intro s; rfl
    | cons p U ih => intro s; exact ih _
  have hkeys : ∀ l : List (Nat × Blk), ((l.map fun p => f p.1).map fun n => (Key.b n, some (Item.k .dead))).map (·.1) = l.map fun p => Key.b (f p.1) := fun l => by simp [Function.comp_def]
  refine vr_do (R := opR y (.fnc fid caps) ++ (opLR xs as ++ ((bin.map fun p => (Key.b (f p.1), σ (.b (f p.1)))) ++ (L.map (fun nm => (Key.b nm, σ (.b nm))) ++ bo.map fun p => (Key.b (gW f KK d p.1), σ (.b (gW f KK d p.1)))))))
    (U := ((bin.map fun p => f p.1).map fun n => (Key.b n, some (Item.k .dead))) ++ (newW (gW f KK d) bo ++ [(.s d, some (.v (res.ren (gW f KK d))))]))
    (kr := opK y ++ (opLK xs ++ ((bin.map fun p => Key.b (f p.1)) ++ (L.map Key.b ++ bo.map fun p => Key.b (gW f KK d p.1))))) (ku := (bin.map fun p => Key.b (f p.1)) ++ ((newW (gW f KK d) bo).map (·.1) ++ [.s d])) hg (fun σ' a w ρ Im hs hR Kk Q hKk => ?_)
    (reads_append (opR_ok hy) (reads_append (opLR_ok hxs) (reads_append (fun p hp => by obtain ⟨q, _, rfl⟩ := List.mem_map.1 hp; rfl) (reads_append (fun p hp => by obtain ⟨nm, _, rfl⟩ := List.mem_map.1 hp; rfl) (fun p hp => by obtain ⟨nm, _, rfl⟩ := List.mem_map.1 hp; rfl)))))
    (by simp [opR_keys, opLR_keys hxs, List.map_append, Function.comp_def]) (by rw [List.map_append, hkeys]; simp) (by rw [hupds, hupds]; exact k)
  obtain ⟨us, hfv, hcaps⟩ := (ev_ok hs (ev_of hy fun p hp => hR p (List.mem_append_left _ hp))).1
  have h1 := evL_of hxs fun p hp => hR p (List.mem_append_right _ (List.mem_append_left _ hp))
  have hBs : ∀ p ∈ bin, σ' (.b (f p.1)) = σ (.b (f p.1)) := fun p hp => hR (.b (f p.1), σ (.b (f p.1))) (List.mem_append_right _ (List.mem_append_right _ (List.mem_append_left _ (List.mem_map.2 ⟨p, hp, rfl⟩))))
  have hL : ∀ nm ∈ L, σ' (.b nm) = σ (.b nm) := fun nm hnm => hR (.b nm, σ (.b nm)) (List.mem_append_right _ (List.mem_append_right _ (List.mem_append_right _ (List.mem_append_left _ (List.mem_map.2 ⟨nm, hnm, rfl⟩)))))
  have hfr : ∀ p ∈ bo, σ' (.b (gW f KK d p.1)) = σ (.b (gW f KK d p.1)) := fun p hp => hR (.b (gW f KK d p.1), σ (.b (gW f KK d p.1))) (List.mem_append_right _ (List.mem_append_right _ (List.mem_append_right _ (List.mem_append_right _ (List.mem_map.2 ⟨p, hp, rfl⟩)))))
  have hB' := hasBW_of_same hL hB hBs
  have hlv : ∀ p ∈ bin, p.2.live = true ∧ p.1 < 9000 := fun p hp => by
    have := List.all_eq_true.1 hlive p hp
    simp only [Bool.and_eq_true] at this
    exact ⟨this.1, by simpa using this.2⟩
  let S : Nat → Prop := fun b => ∃ p ∈ bin, (ρ (f p.1)).isNil = false ∧ b = (ρ (f p.1)).blk
  have hlook : ∀ p ∈ bin, ∃ x, lookL bin p.1 = some x := fun p hp => Option.isSome_iff_exists.1 (lookL_of_mem hp)
  have hS1 : ∀ b, lentIm σ' ρ Im L b → ¬ S b := fun b hb1 hS => by
    obtain ⟨p, hp, hnil, rfl⟩ := hS
    obtain ⟨z, hz, hw⟩ := hasBW_mem hB' p hp
    have hzl := hw.live (hlv p hp).1
    rcases hb1 with hb1 | ⟨q, hq, bk, g1, g2, g3, g4⟩
    · exact (hs.im _ hb1).2.2 _ z hz hzl hnil rfl
    · obtain ⟨x, hx⟩ := hlook p hp
      exact hs.inj _ _ z bk hz g1 hzl g2 hnil g3 (injOK_L hi hx q hq) g4.symm
  have hS3 : ∀ b, S b → E.S0 b ∨ E.w0.heap.size ≤ b := fun b hS => by
    obtain ⟨p, hp, hnil, rfl⟩ := hS
    obtain ⟨z, hz, hw⟩ := hasBW_mem hB' p hp
    exact (hs.own _ z hz (hw.live (hlv p hp).1) hnil).2
  have hargs := (evL_ok hs h1).append (all2_map (f := AV.c) hcaps fun x _ v h => h)
  have hcargs : All2 (RepA (⟨w, lentIm σ' ρ Im L, S⟩ : Env P 0) (fun n => ρ (f n)) w (lentIm σ' ρ Im L)) cargs (xs.map a.eval ++ us) := by
    have hA' : All2 (AX P σ' f L) (as ++ caps.map AV.c) cargs := hA.imp fun _ _ _ h => h.of_same hL
    exact all2_comp hA' hargs fun _ _ _ h1 h2 => h1.ok hs hS1 hS3 h2
  have hsb : ∀ n x, lookL bin n = some x → ∃ z, σ' (.b (f n)) = some (.k z) ∧ BW σ' f L z x := fun n x hx => hasBW_look hB' hx
  have hlvL : ∀ n x, lookL bin n = some x → x.live = true := fun n x hx => (hlv _ (lookL_mem hx)).1
  have hmem : MemAt (⟨w, lentIm σ' ρ Im L, S⟩ : Env P 0) (stOf [] (pinsL KK (fun n => ρ (f n)) ++ bin)) w (fun n => ρ (f n)) (lentIm σ' ρ Im L) := by
    have hone : ∀ q b, stOf [] (pinsL KK (fun n => ρ (f n)) ++ bin) (.b q) = some (.k b) → (∃ n, b = .pin n (ρ (f n))) ∨ lookL bin q = some b := fun q b hq => by
      simp only [stOf, lookL_app] at hq
      cases h0 : lookL (pinsL KK (fun n => ρ (f n))) q with
      | some b' =>
        rw [h0] at hq
        simp only [Option.or, Option.map_some, Option.some.injEq] at hq
        injection hq with hq
        subst hq
        obtain ⟨n, _, _, rfl⟩ := lookL_pins h0
        exact .inl ⟨n, rfl⟩
      | none =>
        rw [h0] at hq
        simp only [Option.or, Option.map_eq_some_iff] at hq
        obtain ⟨x, hx, e⟩ := hq
        injection e with e; subst e
        exact .inr hx
    have hl : ∀ q b, stOf [] (pinsL KK (fun n => ρ (f n)) ++ bin) (.b q) = some (.k b) → b.live = true → lookL bin q = some b := fun q b hq hb => by
      rcases hone q b hq with ⟨n, rfl⟩ | h
      · cases hb
      · exact h
    refine ⟨fun q b hq => ?_, fun q b hq hl1 hn => ?_, fun n1 n2 b1 b2 q1 q2 l1 l2 i1 i2 hne => ?_, fun b hb1 => ⟨.inl hb1, lentIm_lt hs b hb1, fun q bk hq hl1 hn e => ?_⟩, Keep.refl _ _⟩
    · rcases hone q b hq with ⟨n, rfl⟩ | h
      · rfl
      · obtain ⟨z, hz, hw⟩ := hsb q b h
        exact hw.ok hs (hs.bk _ z hz)
    · have hx := hl q b hq hl1
      obtain ⟨z, hz, hw⟩ := hsb q b hx
      exact ⟨(hs.own _ z hz (hw.live hl1) hn).1, .inl ⟨_, lookL_mem hx, hn, rfl⟩⟩
    · have hx1 := hl _ _ q1 l1
      have hx2 := hl _ _ q2 l2
      obtain ⟨z1, hz1, hw1⟩ := hsb _ _ hx1
      obtain ⟨z2, hz2, hw2⟩ := hsb _ _ hx2
      exact hs.inj _ _ z1 z2 hz1 hz2 (hw1.live l1) (hw2.live l2) i1 i2 (injOK_ne hi hx1 hx2 hne)
    · have hx := hl _ _ hq hl1
      exact hS1 b hb1 ⟨_, lookL_mem hx, hn, e.symm⟩
  obtain ⟨hen, hcall⟩ := hF fun n => ρ (f n)
  have hc := hcall w (fun n => ρ (f n)) (lentIm σ' ρ Im L) S (xs.map a.eval ++ us) hcargs hmem
  unfold Oper.wp
  have hrun : (execOp a.eval ⟨some d, .call ⟨.value y, xs.toArray, ats⟩, ty, pos, af, gd⟩).run P w = .ok (.enter fid (xs.map a.eval ++ us).toArray) w := by
    have he : a.eval y = .func (.func fid) #[] us.toArray := hfv
    simp only [execOp, resolve, Sem.run_bind, he, Deferred.ofValue, Sem.run_pure, Result.andThen_ok, invoke]
    have : (#[] ++ (xs.toArray.map a.eval) ++ us.toArray : Array Value) = (xs.map a.eval ++ us).toArray := by simp
    rw [this]
    exact hen _ _
  rw [hrun, Oper.upon_enter]
  refine hc.mono fun e w' ⟨v, ρ', Im', he, hm, hresv, _⟩ => ?_
  subst he
  have hfl' : (∀ b, lentIm σ' ρ Im L b → Im b) ∨ (res.flat = true ∧ bo.all (fun p => p.2.flat) = true) := by
    simp only [Bool.or_eq_true, Bool.and_eq_true] at hfl
    rcases hfl with hl | hl
    · left
      intro b hb
      have : L = [] := by simpa using hl
      subst this
      rcases hb with hb | ⟨nm, hnm, _⟩
      · exact hb
      · cases hnm
    · exact .inr hl
  have hbo' : ∀ n x, lookL bo n = some x → stOf [] (pinsL KK (fun n => ρ (f n)) ++ bo) (.b n) = some (.k x) := fun n x hx => by
    have hn : n < 9000 := by
      have := List.all_eq_true.1 hbo _ (lookL_mem hx)
      simpa using this
    simp only [stOf, lookL_app]
    cases h0 : lookL (pinsL KK (fun n => ρ (f n))) n with
    | some b' => obtain ⟨m, _, e, _⟩ := lookL_pins h0; omega
    | none => simp [hx]
  have hm' : MemAt (⟨w, lentIm σ' ρ Im L, S⟩ : Env P 0) (stOf [] bo) w' ρ' Im' := by
    have hst : ∀ n x, stOf [] bo (.b n) = some (.k x) → stOf [] (pinsL KK (fun n => ρ (f n)) ++ bo) (.b n) = some (.k x) := fun n x hx => by
      simp only [stOf, Option.map_eq_some_iff] at hx
      obtain ⟨y, hy, e⟩ := hx
      injection e with e; subst e
      exact hbo' n y hy
    exact ⟨fun n b hb => hm.bk n b (hst n b hb), fun n b hb => hm.own n b (hst n b hb), fun n1 n2 b1 b2 h1 h2 => hm.inj n1 n2 b1 b2 (hst _ _ h1) (hst _ _ h2), fun b hb => ⟨(hm.im b hb).1, (hm.im b hb).2.1, fun n bk hk => (hm.im b hb).2.2 n bk (hst _ _ hk)⟩, hm.keep⟩
  have hpin : ∀ n, n ∈ KK → ρ' n = ρ (f n) := fun n hn => by
    have hlk : ∀ l : List Nat, n ∈ l → lookL (pinsL l fun n => ρ (f n)) (9000 + n) = some (.pin n (ρ (f n))) := by
      intro l
      induction l with
      | nil => intro h; cases h
      | cons m l ih =>
        intro h
        show (bif Nat.beq (9000 + m) (9000 + n) then _ else _) = _
        by_cases e : m = n
        · subst e; simp
        · have : Nat.beq (9000 + m) (9000 + n) = false := by
            cases hb : Nat.beq (9000 + m) (9000 + n) with
            | false => rfl
            | true => have := Nat.eq_of_beq_eq_true hb; omega
          rw [this]
          exact ih (by rcases List.mem_cons.1 h with h | h; exact absurd h.symm e; exact h)
    have := hm.bk (9000 + n) (.pin n (ρ (f n))) (by simp only [stOf, lookL_app, hlk KK hn]; rfl)
    exact this
  have hs1 := hs.kills (bin.map fun p => f p.1)
  have hdead : ∀ n, n ∈ KK → σ'.upds ((bin.map fun p => f p.1).map fun n => (Key.b n, some (Item.k .dead))) (.b (f n)) = some (.k .dead) := fun n hn => by
    refine kills_in _ _ _ ?_
    have := List.all_eq_true.1 hK n hn
    obtain ⟨x, hx⟩ := Option.isSome_iff_exists.1 this
    exact List.mem_map.2 ⟨_, lookL_mem hx, rfl⟩
  obtain ⟨ρ'', Im'', hs'', hr'', hm''⟩ := hs1.afterW (g := gW f KK d) (S := S) (fun n b hn hl hnil hS => by
      obtain ⟨p, hp, hpn, e⟩ := hS
      by_cases hin : n ∈ bin.map fun p => f p.1
      · rw [kills_in _ _ _ hin] at hn
        injection hn with hn; injection hn with hn; subst hn
        cases hl
      · rw [kills_out _ _ _ hin] at hn
        obtain ⟨z, hz, hw⟩ := hasBW_mem hB' p hp
        exact hs.inj n _ b z hn hz hl (hw.live (hlv p hp).1) hnil hpn (fun e => hin (List.mem_map.2 ⟨p, hp, e.symm⟩)) e) (fun b hb1 hS => hS1 b (.inl hb1) hS) hS3 hm' hresv hfl' hpl hwf (injW_ok hgi) (fun p hp => by
      by_cases hk : memN KK p.1 = true
      · have hkm : p.1 ∈ KK := memN_iff.1 hk
        have e : gW f KK d p.1 = f p.1 := by simp [gW, hk]
        rw [e]
        exact .inr ⟨hdead _ hkm, hpin _ hkm⟩
      · have hkm : memN KK p.1 = false := by simpa using hk
        have e : gW f KK d p.1 = 1000 * d + p.1 := by simp [gW, hkm]
        have hn : σ' (.b (gW f KK d p.1)) = none := by
          rw [hfr p hp, e]
          have := List.all_eq_true.1 hfresh p hp
          simpa [hkm] using this
        left
        by_cases hin : gW f KK d p.1 ∈ bin.map fun p => f p.1
        · obtain ⟨q, hq, e⟩ := List.mem_map.1 hin
          obtain ⟨z, hz, _⟩ := hasBW_mem hB' q hq
          rw [← e] at hn
          rw [hz] at hn; cases hn
        · rw [kills_out _ _ _ hin]; exact hn)
  refine hKk _ _ ⟨ρ'', Im'', ?_⟩
  rw [hupds, hupds]
  exact hs''.put (by simpa using hN) hr'' hm''
end
theorem rowOf_ren {α : Type} {enc : α → List D} {l : List α} {g : Nat → Nat} : (rowOf enc l).map (fun cs => cs.map (C.ren g)) = rowOf enc l := by
  simp only [rowOf, List.map_map]
  refine List.map_congr_left fun a _ => ?_
  simp only [Function.comp_def, List.map_map]
  exact List.map_congr_left fun x _ => rfl
/-- A return, of whatever results and blocks. -/
theorem retW {P : Program} {σ : St} {rs : List ResultVar} {xs : List AV} {res : AV} {bout : List (Nat × Blk)} {e : Exit} (he : e = .normal ∨ e = .ret) (h : ResOK P σ rs xs) (hx : res = resAV xs) (hb : hasB σ bout) : retQ P rs res bout e σ := by
  refine ⟨he, xs, h, hx, ?_⟩
  have key : ∀ l : List (Nat × Blk), hasB σ l → ∀ p ∈ l, σ (.b p.1) = some (.k p.2) := by
    intro l
    induction l with
    | nil => intro _ p hp; cases hp
    | cons q l ih =>
      intro h p hp
      rcases List.mem_cons.1 hp with rfl | hp
      · exact h.1
      · exact ih h.2 p hp
  exact key bout hb
/-- Elements that hang on no blocks. -/
class FlatE {α : Type} (enc : α → List D) : Prop where
  flat : ∀ x, (enc x).all D.flat = true
theorem rowOf_flatB {α : Type} {enc : α → List D} [h : FlatE enc] {l : List α} {T sz : Nat} : (Blk.row T sz (rowOf enc l)).flat = true := rowOf_flat h.flat
instance : FlatE (fun n : Int => [D.int .i64 n]) := ⟨fun _ => rfl⟩
end Go.Sx
/-
  Sx: maps that the call makes: their keys are numbers or arrays of numbers.
-/
namespace Go.Sx
set_option linter.unusedSimpArgs false
set_option linter.unusedVariables false
open Go Go.RowKit
def idxK {γ : Type} : List (List Int × γ) → List Int → Option Nat
  | [], _ => none
  | p :: es, a => if p.1 = a then some 0 else (idxK es a).map (· + 1)
/-- A key's type: numbers (n = 1), or arrays of n numbers. -/
class KeyTy (P : Program) (t : TypeId) (n : outParam Nat) : Prop where
  check : ∀ (w : World) (em : Bool) (a : List Int), a.length = n → (Instr.checkKey em 10000 t (kv a)).run P w = .ok () w
  find : ∀ (w : World) (a : List Int) (es : List MapEntry) (ks : List (List Int)), a.length = n → (∀ k ∈ ks, k.length = n) → All2 (fun k (e : MapEntry) => e.key = kv k) ks es →
    (Instr.findKey t (kv a) es).run P w = .ok ((idxK (ks.map fun k => (k, ())) a).bind fun i => (es[i]?).map fun e => (i, e.val)) w
section
variable {P : Program} {N : Nat} {E : Env P N} {ops : Array Oper} {dr : Bool} {rest : List Oper} {σ : St} {tr : Trace} {K : St → Prop}
  {d : Nat} {t kt et ty : TypeId} {pos : String} {af : Array Edge} {gd : Option (Nat × Bool)} {gR : Upds} {x y z : Operand} {ti ei : TyI} {nm n : Nat} {es : List (List Int × C)} {vk vv : AV} {a : List Int}
end
/-! ## Typed maps -/

class KeyF {κ : Type} (kf : κ → List Int) (n : outParam Nat) : Prop where
  inj : ∀ a b, kf a = kf b → a = b
  len : ∀ a, (kf a).length = n
def k1 (a : Int) : List Int := [a]
def k2 (p : Int × Int) : List Int := [p.1, p.2]
instance : KeyF k1 1 := ⟨fun a b h => by simpa [k1] using h, fun _ => rfl⟩
instance : KeyF k2 2 := ⟨fun a b h => by
  simp only [k2, List.cons.injEq, and_true] at h
  exact Prod.ext h.1 h.2, fun _ => rfl⟩
def cfB (b : Bool) : C := .d (.bool b)
def cfI (n : Int) : C := .d (.int .i64 n)
def mpO {κ ν : Type} (kf : κ → List Int) (cf : ν → C) (l : List (κ × ν)) : List (List Int × C) := l.map fun p => (kf p.1, cf p.2)
section
variable {κ ν : Type} [DecidableEq κ]
variable {kf : κ → List Int} {cf : ν → C} {n : Nat} [hk : KeyF kf n]
include hk
end
section
variable {P : Program} {N : Nat} {E : Env P N} {ops : Array Oper} {dr : Bool} {rest : List Oper} {σ : St} {tr : Trace} {K : St → Prop}
  {d : Nat} {t kt et ty : TypeId} {pos : String} {af : Array Edge} {gd : Option (Nat × Bool)} {gR : Upds} {x y z : Operand} {ti ei : TyI} {nm n : Nat} {a b c : Int}
end
/-! ## A map's block in what is weakened -/
theorem BW.mapO {κ ν : Type} {kf : κ → List Int} {cf : ν → C} {l l' : List (κ × ν)} {σ : St} {f : Nat → Nat} {L : List Nat} (hd : ∀ v, (cf v).isD = true) (h : l = l') : BW σ f L (.map (mpO kf cf l)) (.map (mpO kf cf l')) := by
  subst h
  refine .map ?_
  unfold mpO
  induction l with
  | nil => exact .nil
  | cons p l ih =>
    refine .cons ⟨rfl, ?_⟩ ih
    have := hd p.2
    show CW σ f L (cf p.2) (cf p.2)
    generalize cf p.2 = c at this
    cases c with
    | d x => exact .d
    | _ => cases this
theorem mpO_names {κ ν : Type} {kf : κ → List Int} {cf : ν → C} {l : List (κ × ν)} (hd : ∀ v, (cf v).names = []) : (Blk.map (mpO kf cf l)).names = [] := by
  simp only [Blk.names, mpO, List.flatMap_map, hd]
  induction l with
  | nil => rfl
  | cons _ _ ih => exact ih
theorem mpO_ren {κ ν : Type} {kf : κ → List Int} {cf : ν → C} {l : List (κ × ν)} {g : Nat → Nat} (hd : ∀ v, (cf v).ren g = cf v) : (mpO kf cf l).map (fun p => (p.1, p.2.ren g)) = mpO kf cf l := by
  simp only [mpO, List.map_map, Function.comp_def, hd]
theorem mpO_renB {κ : Type} {kf : κ → List Int} {l : List (κ × Bool)} {g : Nat → Nat} : (mpO kf cfB l).map (fun p => (p.1, p.2.ren g)) = mpO kf cfB l := mpO_ren fun _ => rfl
theorem mpO_renI {κ : Type} {kf : κ → List Int} {l : List (κ × Int)} {g : Nat → Nat} : (mpO kf cfI l).map (fun p => (p.1, p.2.ren g)) = mpO kf cfI l := mpO_ren fun _ => rfl
theorem mpO_namesB {κ : Type} {kf : κ → List Int} {l : List (κ × Bool)} : (Blk.map (mpO kf cfB l)).names = [] := mpO_names fun _ => rfl
theorem mpO_namesI {κ : Type} {kf : κ → List Int} {l : List (κ × Int)} : (Blk.map (mpO kf cfI l)).names = [] := mpO_names fun _ => rfl
end Go.Sx
/-
  Sx: arrays that are built from their parts.
-/
namespace Go.Sx
set_option linter.unusedSimpArgs false
set_option linter.unusedVariables false
open Go Go.RowKit
section
variable {P : Program} {N : Nat} {E : Env P N} {ops : Array Oper} {dr : Bool} {rest : List Oper} {σ : St} {tr : Trace} {K : St → Prop}
  {d : Nat} {t yt ty te : TypeId} {pos : String} {af : Array Edge} {gd : Option (Nat × Bool)} {gR : Upds} {x y z : Operand} {ti ei : TyI}
end
section
variable {P : Program} {N : Nat} {E : Env P N} {σ : St} {Q : Exit → St → Prop}
end
end Go.Sx
/-
  Sx: arrays of bools as variables (rows of one cell an element), strings (an element, a tail, compared, out of bytes), slices that are made.
-/
namespace Go.Sx
set_option linter.unusedSimpArgs false
set_option linter.unusedVariables false
open Go Go.RowKit
abbrev encB (b : Bool) : List D := [.bool b]
abbrev encI (n : Int) : List D := [.int .i64 n]
abbrev enc8 (n : Int) : List D := [.int .u8 n]
abbrev bsC (V : List Bool) : List C := V.map fun b => C.d (.bool b)
instance : FlatE encB := ⟨fun _ => rfl⟩
instance : FlatE enc8 := ⟨fun _ => rfl⟩
theorem flatB : ∀ (V : List Bool), (rowOf encB V).flatten = bsC V
  | [] => rfl
  | b :: V => by
    have := flatB V
    simp only [rowOf, List.map_cons, List.flatten_cons, encB, List.map_nil] at this ⊢
    rw [this]; rfl
theorem bs_all2 {ρ : Nat → RI} {w : World} {Im : Nat → Prop} : ∀ (V : List Bool), All2 (RepC ρ w Im) (bsC V) (V.map Value.bool)
  | [] => .nil
  | b :: V => .cons rfl (bs_all2 V)
theorem bs_eq {ρ : Nat → RI} {w : World} {Im : Nat → Prop} : ∀ {V : List Bool} {us : List Value}, All2 (RepC ρ w Im) (bsC V) us → us = V.map Value.bool
  | [], _, h => by cases h; rfl
  | b :: V, _, h => by
    cases h with
    | cons h1 h2 =>
      rw [bs_eq h2]
      have h1 : _ = Value.bool b := h1
      rw [h1]; rfl
theorem i8_all2 {ρ : Nat → RI} {w : World} {Im : Nat → Prop} : ∀ (V : List Int), All2 (RepC ρ w Im) (V.map fun n => C.d (.int .u8 n)) (V.map (Value.int .u8))
  | [] => .nil
  | b :: V => .cons rfl (i8_all2 V)
section
variable {P : Program} {N : Nat} {E : Env P N} {ops : Array Oper} {dr : Bool} {rest : List Oper} {σ : St} {tr : Trace} {K : St → Prop}
  {d : Nat} {t yt ty te s : TypeId} {pos : String} {af : Array Edge} {gd : Option (Nat × Bool)} {gR : Upds} {x y z : Operand} {ti ei si : TyI}
/-- A new row in slot d, named d, with these cells; the slot holds the address of its first element. -/
theorem sat_arr {a : Act} {w : World} {ρ : Nat → RI} {Im : Nat → Prop} (h : SatAt E σ a w ρ Im) (hN : d < N) (hfresh : σ (.b d) = none) {n : Nat} (hmax : n ≤ maxLen) {V : List Bool} (hV : V.length = n) :
    Sat E ((σ.upd (.b d) (some (.k (.row t 1 (rowOf encB V))))).upd (.s d) (some (.v (.rp d 1 0 0)))) (a.put (some d) (.pointer (some ⟨w.heap.size, 0, none⟩))) (w.alloc (.cells (V.map Value.bool).toArray t)) := by
  have hnew : setR ρ d ⟨w.heap.size, n, false⟩ d = ⟨w.heap.size, n, false⟩ := by simp [setR]
  have h1 : SatAt E (σ.upd (.b d) (some (.k (.row t 1 (rowOf encB V))))) a (w.alloc (.cells (V.map Value.bool).toArray t)) (setR ρ d ⟨w.heap.size, n, false⟩) Im := by
    refine h.newblk hfresh _ n ?_ (fun m hm => ?_)
    · unfold BlkOK
      rw [hnew]
      simp only [Bool.false_eq_true, if_false]
      refine ⟨V.map Value.bool, [], by rw [List.append_nil]; exact heap_alloc_new w _, ?_, ?_, ?_, ?_, hmax⟩
      · rw [flatB]
        exact bs_all2 V
      · intro x hx
        obtain ⟨b, _, rfl⟩ := List.mem_map.1 hx
        rfl
      · simp [hV]
      · rw [rowOf_length, hV]; exact Nat.le_refl _
    · exfalso
      simp only [Blk.mentions, List.any_eq_true] at hm
      obtain ⟨x, hx, c, hc, hcm⟩ := hm
      obtain ⟨b, _, rfl⟩ := List.mem_map.1 hx
      simp only [encB, List.map_cons, List.map_nil, List.mem_singleton] at hc
      subst hc
      cases hcm
  refine ⟨_, _, h1.put hN ?_ ?_⟩
  · show _ = _
    rw [hnew]
  · intro nm hn
    have : d = nm := by simpa [AV.mentions, AV.mentions0] using hn
    subst this
    rw [St.upd_same]
    simp
theorem vr_allocArr {n : Nat} [ht : TyOK P t ti] (hg : GOK N ops σ gd gR) (hk : ti.k = .array n te) (hz : ti.zero.cells = ((List.replicate n false).map Value.bool).toArray) (hmax : n ≤ maxLen) (hfresh : σ (.b d) = none) (hN : Nat.blt d N = true)
    (k : VR E ops dr rest ((σ.upd (.b d) (some (.k (.row t 1 (rowOf encB (List.replicate n false)))))).set d (.rp d 1 0 0)) ((gR.map (·.1) ++ [.b d], [.b d, .s d]) :: tr) K) : VR E ops dr (⟨some d, .alloc t, ty, pos, af, gd⟩ :: rest) σ tr K := by
  refine vr_do (R := [(.b d, none)]) (U := [(.b d, some (.k (.row t 1 (rowOf encB (List.replicate n false))))), (.s d, some (.v (.rp d 1 0 0)))]) hg (fun σ a w ρ Im hs hR K Q hK => ?_) (by intro p hp; rw [List.mem_singleton] at hp; subst hp; exact hfresh) rfl rfl k
  have hf : σ (.b d) = none := hR _ (List.mem_singleton.2 rfl)
  unfold Oper.wp
  have hrun : (execOp a.eval ⟨some d, .alloc t, ty, pos, af, gd⟩).run P w = .ok (.value (.pointer (some ⟨w.heap.size, 0, none⟩))) (w.alloc (.cells ti.zero.cells t)) := by
    simp only [execOp, Instr.alloc, Sem.run_bind, ht.run_zero, Result.andThen_ok, newVar, newRow, run_newObj, Sem.run_pure]
    rfl
  rw [hrun]
  refine hK _ _ ?_
  have := sat_arr (t := t) hs (by simpa using hN) hf hmax (V := List.replicate n false) (List.length_replicate)
  rw [← hz] at this
  exact this
/-- The address of an array's element. -/
theorem vr_indexArr {nm n : Nat} {kd : IntKind} {i : Int} [ht : TyOK P t ti] [het : TyOK P te ei] (hg : GOK N ops σ gd gR) (hx : ev σ x = some (.rp nm 1 0 0)) (hy : ev σ y = some (AD (.int kd i)))
    (hk : ti.k = .array n te) (hsz : ei.size = 1) (h1 : 0 ≤ i) (h2 : i < n) (hN : Nat.blt d N = true)
    (k : VR E ops dr rest (σ.set d (.rp nm 1 i.toNat 0)) ((gR.map (·.1) ++ (opK x ++ opK y), [.s d]) :: tr) K) : VR E ops dr (⟨some d, .indexAddr t x y, ty, pos, af, gd⟩ :: rest) σ tr K :=
  vr_bin (v := .rp nm 1 i.toNat 0) hg rfl hx hy hN (fun _ a w ρ Im _ h h' => by
    have he : a.eval x = .pointer (some ⟨(ρ nm).blk, 0 * 1 + 0, none⟩) := h
    have he' : a.eval y = .int kd i := h'
    refine ⟨.pointer (some ⟨(ρ nm).blk, i.toNat * 1 + 0, none⟩), ?_, rfl⟩
    simp [execOp, he, he', Instr.indexAt, Instr.sureAddr, asIntOf, run_underlying (ht.array hk), h1, h2, het.run_size, hsz, Addr.add_lit]) (fun nm' h => .inl h) k
theorem vr_indexArrN {nm n m : Nat} {kd : IntKind} {i : Int} [ht : TyOK P t ti] [het : TyOK P te ei] (hg : GOK N ops σ gd gR) (hx : ev σ x = some (.rp nm 1 0 0)) (hy : ev σ y = some (AD (.int kd i)))
    (hk : ti.k = .array n te) (hsz : ei.size = 1) (hi : i = (m : Int)) (h2 : m < n) (hN : Nat.blt d N = true)
    (k : VR E ops dr rest (σ.set d (.rp nm 1 m 0)) ((gR.map (·.1) ++ (opK x ++ opK y), [.s d]) :: tr) K) : VR E ops dr (⟨some d, .indexAddr t x y, ty, pos, af, gd⟩ :: rest) σ tr K :=
  vr_indexArr hg hx hy hk hsz (by omega) (by omega) hN (by subst hi; exact k)
theorem arr_heap {a : Act} {w : World} {ρ : Nat → RI} {Im : Nat → Prop} (hs : SatAt E σ a w ρ Im) {nm T : Nat} {V : List Bool} (hb : σ (.b nm) = some (.k (.row T 1 (rowOf encB V)))) (hne : V ≠ []) :
    (ρ nm).isNil = false ∧ ∃ spare : List Value, w.heap[(ρ nm).blk]? = some (.cells (V.map Value.bool ++ spare).toArray T (0, 0)) ∧ V.length + spare.length = (ρ nm).cap ∧ V.length ≤ (ρ nm).cap ∧ (ρ nm).cap ≤ maxLen := by
  obtain ⟨hnil, us, spare, hh, ha, _, hcap, hle, hmax⟩ := row_heap hs hb (by cases V with
    | nil => exact absurd rfl hne
    | cons b V => intro e; cases e)
  rw [flatB] at ha
  have hus : us = V.map Value.bool := bs_eq ha
  subst hus
  rw [rowOf_length] at hle
  exact ⟨hnil, spare, hh, by simpa using hcap, hle, hmax⟩
theorem bs_nomention (V : List Bool) (nm : Nat) : ((bsC V).any fun c => c.mentions nm) = false := by
  rw [List.any_eq_false]
  intro c hc
  obtain ⟨b, _, rfl⟩ := List.mem_map.1 hc
  simp [C.mentions]
/-- A whole array is read. -/
theorem vr_loadArr {nm T : Nat} {V : List Bool} [ht : TyOK P t ti] (hg : GOK N ops σ gd gR) (hx : ev σ x = some (.rp nm 1 0 0)) (hb : σ (.b nm) = some (.k (.row T 1 (rowOf encB V)))) (hagg : ti.isAgg = true) (hl : V.length = ti.size) (hne : Nat.blt 0 ti.size = true) (hN : Nat.blt d N = true)
    (k : VR E ops dr rest (σ.set d (.agg (bsC V))) ((gR.map (·.1) ++ (opK x ++ [.b nm]), [.s d]) :: tr) K) : VR E ops dr (⟨some d, .load t x, ty, pos, af, gd⟩ :: rest) σ tr K := by
  refine vr_val (x := .agg (bsC V)) (R := opR x (.rp nm 1 0 0) ++ [(.b nm, some (.k (.row T 1 (rowOf encB V))))]) hg rfl hN (fun σ a w ρ Im hs hR => ?_)
    (reads_append (opR_ok hx) (by intro p hp; rw [List.mem_singleton] at hp; subst hp; exact hb)) (by rw [List.map_append, opR_keys]; rfl) k
  have hb' : σ (.b nm) = some (.k (.row T 1 (rowOf encB V))) := hR (.b nm, _) (by simp)
  obtain ⟨hr, _⟩ := ev_ok hs (ev_of hx fun p hp => hR p (List.mem_append_left _ hp))
  have he : a.eval x = .pointer (some ⟨(ρ nm).blk, 0, none⟩) := hr
  obtain ⟨_, spare, hh, _⟩ := arr_heap hs hb' (fun e => by rw [e] at hl; simp at hl hne; omega)
  refine ⟨.agg (V.map Value.bool).toArray, ?_, ⟨_, rfl, bs_all2 V⟩, fun n hn => ?_⟩
  · have hcells := run_loadCells_list (P := P) w ⟨(ρ nm).blk, 0, none⟩ (V.map Value.bool) (fun j v hv => by
      refine cells_heap hh 0 j v ?_
      rw [List.drop_zero, List.getElem?_append_left (List.getElem?_eq_some_iff.1 hv).1]
      exact hv)
    rw [List.length_map, hl] at hcells
    simp [execOp, he, Instr.loadAt, Instr.sureAddr, loadVar, ht.run_agg, hagg, ht.run_size, hcells]
  · have : ((bsC V).any fun c => c.mentions n) = true := hn
    rw [bs_nomention] at this; cases this
/-- A whole array is written. -/
theorem vr_storeArr {nm T : Nat} {V W : List Bool} [ht : TyOK P t ti] (hg : GOK N ops σ gd gR) (hx : ev σ x = some (.rp nm 1 0 0)) (hy : ev σ y = some (.agg (bsC W))) (hb : σ (.b nm) = some (.k (.row T 1 (rowOf encB V))))
    (hl : W.length = ti.size) (hl2 : W.length = V.length) (hne : Nat.blt 0 ti.size = true)
    (k : VR E ops dr rest (σ.upd (.b nm) (some (.k (.row T 1 (rowOf encB W))))) ((gR.map (·.1) ++ (opK x ++ (opK y ++ [.b nm])), [.b nm]) :: tr) K) : VR E ops dr (⟨none, .store t x y, ty, pos, af, gd⟩ :: rest) σ tr K := by
  refine vr_do (R := opR x (.rp nm 1 0 0) ++ (opR y (.agg (bsC W)) ++ [(.b nm, some (.k (.row T 1 (rowOf encB V))))])) (U := [(.b nm, some (.k (.row T 1 (rowOf encB W))))]) hg (fun σ a w ρ Im hs hR K Q hK => ?_)
    (reads_append (opR_ok hx) (reads_append (opR_ok hy) (by intro p hp; rw [List.mem_singleton] at hp; subst hp; exact hb))) (by rw [List.map_append, List.map_append, opR_keys, opR_keys]; rfl) rfl k
  have hb' : σ (.b nm) = some (.k (.row T 1 (rowOf encB V))) := hR (.b nm, _) (by simp)
  obtain ⟨hr, _⟩ := ev_ok hs (ev_of hx fun p hp => hR p (List.mem_append_left _ hp))
  obtain ⟨hr', _⟩ := ev_ok hs (ev_of hy fun p hp => hR p (List.mem_append_right _ (List.mem_append_left _ hp)))
  have he : a.eval x = .pointer (some ⟨(ρ nm).blk, 0, none⟩) := hr
  obtain ⟨us, he', hus⟩ := hr'
  have hus := bs_eq hus
  subst hus
  have hne' : V ≠ [] := fun e => by rw [e] at hl2; simp at hl2 hne; rw [hl2] at hl; simp at hl; omega
  obtain ⟨hnil, spare, hh, hcap, hle, hmax⟩ := arr_heap hs hb' hne'
  have hst := run_storeCells_at P (ρ nm).blk 0 T (W.map Value.bool) 0 (V.map Value.bool ++ spare).toArray w hh (by simp; omega) (fun v hv => by
    obtain ⟨b, _, rfl⟩ := List.mem_map.1 hv; rfl)
  have hput : ((V.map Value.bool ++ spare).toArray.toList.take (0 + 0) ++ W.map Value.bool ++ (V.map Value.bool ++ spare).toArray.toList.drop (0 + 0 + (W.map Value.bool).length)).toArray = (W.map Value.bool ++ spare).toArray := by
    congr 1
    simp only [Nat.add_zero, List.take_zero, List.nil_append, Nat.zero_add, List.length_map, hl2]
    rw [List.drop_append_of_le_length (by simp), List.drop_of_length_le (by simp)]; rfl
  rw [hput] at hst
  unfold Oper.wp
  have hrun : (execOp a.eval ⟨none, .store t x y, ty, pos, af, gd⟩).run P w = .ok .skip (w.setRow (ρ nm).blk (W.map Value.bool ++ spare).toArray) := by
    have hsz : (a.eval y).cells.size = ti.size := by rw [he']; simp [Value.cells, hl]
    have htl : (a.eval y).cells.toList = W.map Value.bool := by rw [he']; simp [Value.cells]
    simp [execOp, he, Instr.storeAt, Instr.sureAddr, storeVar, ht.run_size, hsz, htl] at hst ⊢
    rw [hst]
    rfl
  rw [hrun]
  refine hK _ _ ⟨ρ, Im, ?_⟩
  refine hs.setblk hb' rfl hnil _ ?_ (fun n hn => ?_)
  · unfold BlkOK
    simp only [hnil, Bool.false_eq_true, if_false]
    refine ⟨W.map Value.bool, spare, setRow_heap w _ _ _ T _ hh, by rw [flatB]; exact bs_all2 W, ?_, ?_, ?_, hmax⟩
    · intro x hx
      obtain ⟨b, _, rfl⟩ := List.mem_map.1 hx
      rfl
    · rw [List.length_map, hl2]; simpa using hcap
    · rw [rowOf_length, hl2]; exact hle
  · exfalso
    simp only [Blk.mentions, List.any_eq_true] at hn
    obtain ⟨x, hx, c, hc, hcm⟩ := hn
    obtain ⟨b, _, rfl⟩ := List.mem_map.1 hx
    simp only [encB, List.map_cons, List.map_nil, List.mem_singleton] at hc
    subst hc
    cases hcm
theorem eqItems_bools (dp e : Nat) (he : P.underlying e = some .bool) (hc : P.cellsOf e = 1) (V W : List Bool) (w : World) : ∀ (is : List Nat), (∀ i ∈ is, i < V.length ∧ i < W.length) →
    (Op.eqItems (dp + 1) e (P.cellsOf e) (V.map Value.bool).toArray (W.map Value.bool).toArray is).run P w = .ok (is.all fun i => V.getD i false == W.getD i false) w
  | [], _ => rfl
  | i :: is, h => by
    obtain ⟨h1, h2⟩ := h i (by simp)
    have px : (part e (V.map Value.bool).toArray (i * P.cellsOf e)).run P w = .ok (.bool (V.getD i false)) w := by
      simp [part, isAgg, run_underlying he, hc, List.getD, List.getElem?_eq_getElem h1]
    have py : (part e (W.map Value.bool).toArray (i * P.cellsOf e)).run P w = .ok (.bool (W.getD i false)) w := by
      simp [part, isAgg, run_underlying he, hc, List.getD, List.getElem?_eq_getElem h2]
    simp only [Op.eqItems, Sem.run_bind, px, py, Result.andThen_ok, run_equalIn_bool' w _ e _ _ he, List.all_cons]
    cases hb : (V.getD i false == W.getD i false)
    · simp
    · simp only [Bool.not_true, Bool.false_eq_true, if_false, Bool.true_and]
      exact eqItems_bools dp e he hc V W w is fun j hj => h j (by simp [hj])
theorem all_getD {V W : List Bool} (h : V.length = W.length) : ((List.range V.length).all fun i => V.getD i false == W.getD i false) = decide (V = W) := by
  rw [Bool.eq_iff_iff]
  simp only [List.all_eq_true, List.mem_range, beq_iff_eq, decide_eq_true_eq]
  constructor
  · intro hx
    refine List.ext_getElem h fun i h1 h2 => ?_
    have := hx i h1
    simpa [List.getD, List.getElem?_eq_getElem h1, List.getElem?_eq_getElem h2] using this
  · rintro rfl i _; rfl
/-- An element is written. -/
theorem vr_storeB {nm T m : Nat} {V : List Bool} {b : Bool} [ht : TyOK P t ti] (hg : GOK N ops σ gd gR) (hx : ev σ x = some (.rp nm 1 m 0)) (hy : ev σ y = some (AB b)) (hb : σ (.b nm) = some (.k (.row T 1 (rowOf encB V)))) (hm : m < V.length) (hl : 1 = ti.size)
    (k : VR E ops dr rest (σ.upd (.b nm) (some (.k (.row T 1 (rowOf encB (V.set m b)))))) ((gR.map (·.1) ++ (opK x ++ (opK y ++ [.b nm])), [.b nm]) :: tr) K) : VR E ops dr (⟨none, .store t x y, ty, pos, af, gd⟩ :: rest) σ tr K := by
  refine vr_store_row (cs := [C.d (.bool (V.getD m default))]) (vs := [C.d (.bool b)]) hg hx hy hb (rowOf_get hm) rfl hl rfl ?_
  have : (rowOf encB V).set m (putC [C.d (.bool (V.getD m default))] 0 [C.d (.bool b)]) = rowOf encB (V.set m b) := rowOf_set rfl
  rw [this]
  exact k
theorem vr_storeI {nm T m : Nat} {V : List Int} {b : Int} [ht : TyOK P t ti] (hg : GOK N ops σ gd gR) (hx : ev σ x = some (.rp nm 1 m 0)) (hy : ev σ y = some (AD (.int .i64 b))) (hb : σ (.b nm) = some (.k (.row T 1 (rowOf encI V)))) (hm : m < V.length) (hl : 1 = ti.size)
    (k : VR E ops dr rest (σ.upd (.b nm) (some (.k (.row T 1 (rowOf encI (V.set m b)))))) ((gR.map (·.1) ++ (opK x ++ (opK y ++ [.b nm])), [.b nm]) :: tr) K) : VR E ops dr (⟨none, .store t x y, ty, pos, af, gd⟩ :: rest) σ tr K := by
  refine vr_store_row (cs := [C.d (.int .i64 (V.getD m default))]) (vs := [C.d (.int .i64 b)]) hg hx hy hb (rowOf_get hm) rfl hl rfl ?_
  have : (rowOf encI V).set m (putC [C.d (.int .i64 (V.getD m default))] 0 [C.d (.int .i64 b)]) = rowOf encI (V.set m b) := rowOf_set rfl
  rw [this]
  exact k
/-- The address of an element of an array in a box. -/
theorem vr_indexBox {nm off n m : Nat} {kd : IntKind} {i : Int} [ht : TyOK P t ti] [het : TyOK P te ei] (hg : GOK N ops σ gd gR) (hx : ev σ x = some (.c (.ptr nm off))) (hy : ev σ y = some (AD (.int kd i)))
    (hk : ti.k = .array n te) (h1 : 0 ≤ i) (h2 : i < n) (hm : m = i.toNat * ei.size) (hN : Nat.blt d N = true)
    (k : VR E ops dr rest (σ.set d (.c (.ptr nm (off + m)))) ((gR.map (·.1) ++ (opK x ++ opK y), [.s d]) :: tr) K) : VR E ops dr (⟨some d, .indexAddr t x y, ty, pos, af, gd⟩ :: rest) σ tr K :=
  vr_bin (v := .c (.ptr nm (off + m))) hg rfl hx hy hN (fun _ a w ρ Im _ h h' => by
    have he : a.eval x = .pointer (some ⟨(ρ nm).blk, off, none⟩) := h
    have he' : a.eval y = .int kd i := h'
    refine ⟨.pointer (some ⟨(ρ nm).blk, off + m, none⟩), ?_, rfl⟩
    subst hm
    simp [execOp, he, he', Instr.indexAt, Instr.sureAddr, asIntOf, run_underlying (ht.array hk), h1, h2, het.run_size, Addr.add_lit]) (fun nm' h => .inl h) k
/-- Two arrays of bools are compared. -/
theorem vr_eqlArr {V W : List Bool} {n : Nat} [ht : TyOK P t ti] [het : TyOK P te ei] (hg : GOK N ops σ gd gR) (hx : ev σ x = some (.agg (bsC V))) (hy : ev σ y = some (.agg (bsC W))) (hk : ti.k = .array n te) (hek : ei.k = .bool) (hsz : ei.size = 1)
    (h1 : V.length = n) (h2 : W.length = n) (hgt : P.eqGuardType P.depth t = false) (hN : Nat.blt d N = true)
    (k : VR E ops dr rest (σ.set d (AB (decide (V = W)))) ((gR.map (·.1) ++ (opK x ++ opK y), [.s d]) :: tr) K) : VR E ops dr (⟨some d, .binOp .eql t x y yt, ty, pos, af, gd⟩ :: rest) σ tr K :=
  vr_bin (v := AB (decide (V = W))) hg rfl hx hy hN (fun _ ac w _ Im _ h h' => by
    obtain ⟨us, hu, ha⟩ := h
    obtain ⟨vs, hv, hb⟩ := h'
    have e1 := bs_eq ha
    have e2 := bs_eq hb
    subst e1; subst e2
    refine ⟨.bool (decide (V = W)), ?_, rfl⟩
    obtain ⟨i, hi, hi2, _⟩ := het.get
    have hc : P.cellsOf te = 1 := by simp [Program.cellsOf, hi, hi2, hsz]
    have hq := run_equalIn_array (P := P) w 9999 (V.map Value.bool).toArray (W.map Value.bool).toArray (ht.array hk) hi
    rw [eqItems_bools 9998 te (het.bool hek) hc V W w _ (fun i hi => by simp at hi; omega), ← h1, all_getD (h1.trans h2.symm)] at hq
    simp only [execOp, hu, hv, Sem.run_bind, run_eqGuard_agg w .eql t x y _ _ hgt, Result.andThen_ok, run_eql_struct, hq, Sem.run_pure]) (fun _ h => by cases h) k
/-! ## Strings -/

/-- Byte i of a string. -/
def bAt (s : ByteArray) (i : Nat) : Int := ((s.data.toList.getD i 0).toNat : Int)
theorem vr_indexStr {s : ByteArray} {kd : IntKind} {i : Int} {m : Nat} [ht : TyOK P t ti] (hg : GOK N ops σ gd gR) (hx : ev σ x = some (AD (.str s))) (hy : ev σ y = some (AD (.int kd i)))
    (hk : ti.k = .string) (h1 : 0 ≤ i) (h2 : i < s.size) (hm : m = i.toNat) (hN : Nat.blt d N = true)
    (k : VR E ops dr rest (σ.set d (AD (.int .u8 (bAt s m)))) ((gR.map (·.1) ++ (opK x ++ opK y), [.s d]) :: tr) K) : VR E ops dr (⟨some d, .index t x y, ty, pos, af, gd⟩ :: rest) σ tr K :=
  vr_bin (v := AD (.int .u8 (bAt s m))) hg rfl hx hy hN (fun _ a w ρ Im _ h h' => by
    have he : a.eval x = .string s := h
    have he' : a.eval y = .int kd i := h'
    refine ⟨.int .u8 (bAt s m), ?_, rfl⟩
    subst hm
    have hlt : i.toNat < s.size := by omega
    have hb : bAt s i.toNat = ((s[i.toNat]'hlt).toNat : Int) := by
      unfold bAt
      rw [List.getD_eq_getElem?_getD, Array.getElem?_toList]
      have : i.toNat < s.data.size := hlt
      rw [Array.getElem?_eq_getElem this]; rfl
    simp only [execOp, he, he', run_index_string w t s kd i (ht.string hk), h1, h2, and_self, dif_pos, Sem.run_bind, Result.andThen_ok, Sem.run_pure, hb]) (fun nm' h => by cases h) k
/-- A string without its first byte. -/
theorem vr_tailStr {s : ByteArray} [ht : TyOK P t ti] (hg : GOK N ops σ gd gR) (hx : ev σ x = some (AD (.str s))) (hk : ti.k = .string) (h : 1 ≤ s.size) (hN : Nat.blt d N = true)
    (k : VR E ops dr rest (σ.set d (AD (.str (s.extract 1 s.size)))) ((gR.map (·.1) ++ opK x, [.s d]) :: tr) K) : VR E ops dr (⟨some d, .slice t x (some (.const (.int .i64 1))) none none, ty, pos, af, gd⟩ :: rest) σ tr K :=
  vr_un (v := AD (.str (s.extract 1 s.size))) hg rfl hx hN (fun _ a w ρ Im _ h0 => by
    have he : a.eval x = .string s := h0
    refine ⟨.string (s.extract 1 s.size), ?_, rfl⟩
    have hq := run_slice_string_l (P := P) w t s (ht.string hk) .i64 1 (by decide) (by omega)
    have hq' : (Instr.slice t (.string s) (some (.int .i64 1)) none none).run P w = .ok (.string (s.extract 1 s.size)) w := hq
    have hsa : (Instr.sliceAt t (.string s) (some (.int .i64 1)) none none).run P w = .ok (.string (s.extract 1 s.size)) w := by
      simp only [Instr.sliceAt, Sem.run_bind, run_underlying (ht.string hk), Result.andThen_ok, hq']
    have h1 : (some (Operand.const (.int .i64 1))).map a.eval = some (.int .i64 1) := rfl
    simp only [execOp, he, h1, Option.map_none, Sem.run_bind, hsa, Result.andThen_ok, Sem.run_pure]) (fun nm' h => by cases h) k
theorem bytes_beq (a b : ByteArray) : (a.toList == b.toList) = decide (a = b) := by
  rw [← beq_toListBytes]
  cases a with | mk x =>
  cases b with | mk y =>
  show (x == y) = _
  by_cases e : x = y
  · subst e; simp
  · simp [e]
theorem run_eql_str {w : World} {a b : ByteArray} (hu : P.underlying t = some .string) : (binOp .eql t (.string a) (.string b)).run P w = .ok (.bool (decide (a = b))) w := by
  simp only [binOp, Op.stringOp, Sem.run_pure, bytes_beq]
theorem vr_eqlStr {s1 s2 : ByteArray} [ht : TyOK P t ti] (hg : GOK N ops σ gd gR) (hx : ev σ x = some (AD (.str s1))) (hy : ev σ y = some (AD (.str s2))) (hk : ti.k = .string) (hN : Nat.blt d N = true)
    (k : VR E ops dr rest (σ.set d (AB (decide (s1 = s2)))) ((gR.map (·.1) ++ (opK x ++ opK y), [.s d]) :: tr) K) : VR E ops dr (⟨some d, .binOp .eql t x y yt, ty, pos, af, gd⟩ :: rest) σ tr K :=
  vr_bin (v := AB (decide (s1 = s2))) hg rfl hx hy hN (fun _ ac w _ Im _ h h' => by
    have h : ac.eval x = .string s1 := h
    have h' : ac.eval y = .string s2 := h'
    refine ⟨.bool (decide (s1 = s2)), ?_, rfl⟩
    simp [execOp, h, h', eqGuard, run_eql_str (ht.string hk)]) (fun _ h => by cases h) k
theorem run_neq_str {w : World} {a b : ByteArray} (hu : P.underlying t = some .string) : (binOp .neq t (.string a) (.string b)).run P w = .ok (.bool (decide (a ≠ b))) w := by
  simp only [binOp, Op.stringOp, Sem.run_pure, bytes_beq]
  by_cases e : a = b <;> simp [e]
theorem vr_neqStr {s1 s2 : ByteArray} [ht : TyOK P t ti] (hg : GOK N ops σ gd gR) (hx : ev σ x = some (AD (.str s1))) (hy : ev σ y = some (AD (.str s2))) (hk : ti.k = .string) (hN : Nat.blt d N = true)
    (k : VR E ops dr rest (σ.set d (AB (decide (s1 ≠ s2)))) ((gR.map (·.1) ++ (opK x ++ opK y), [.s d]) :: tr) K) : VR E ops dr (⟨some d, .binOp .neq t x y yt, ty, pos, af, gd⟩ :: rest) σ tr K :=
  vr_bin (v := AB (decide (s1 ≠ s2))) hg rfl hx hy hN (fun _ ac w _ Im _ h h' => by
    have h : ac.eval x = .string s1 := h
    have h' : ac.eval y = .string s2 := h'
    refine ⟨.bool (decide (s1 ≠ s2)), ?_, rfl⟩
    simp [execOp, h, h', eqGuard, run_neq_str (ht.string hk)]) (fun _ h => by cases h) k
/-- The string with these bytes. -/
def mkS (L : List Int) : ByteArray := L.foldl (fun r n => r.push (UInt8.ofNat n.toNat)) ByteArray.empty
theorem flat8 : ∀ (V : List Int), (rowOf enc8 V).flatten = V.map fun n => C.d (.int .u8 n)
  | [] => rfl
  | b :: V => by
    have := flat8 V
    simp only [rowOf, List.map_cons, List.flatten_cons, enc8, List.map_nil] at this ⊢
    rw [this]; rfl
theorem eq8 {ρ : Nat → RI} {w : World} {Im : Nat → Prop} : ∀ {V : List Int} {us : List Value}, All2 (RepC ρ w Im) (V.map fun n => C.d (.int .u8 n)) us → us = V.map (Value.int .u8)
  | [], _, h => by cases h; rfl
  | b :: V, _, h => by
    cases h with
    | cons h1 h2 =>
      rw [eq8 h2]
      have h1 : _ = Value.int .u8 b := h1
      rw [h1]; rfl
/-- A string out of an own row of bytes. -/
theorem vr_convStr {nm T n : Nat} {L : List Int} [hs : TyOK P s si] [het : TyOK P te ei] [ht : TyOK P t ti] (hg : GOK N ops σ gd gR) (hx : ev σ x = some (.c (.row nm n))) (hb : σ (.b nm) = some (.k (.row T 1 (rowOf enc8 L)))) (hn : n = L.length)
    (hsk : si.k = .slice te) (hek : ei.k = .int .u8) (htk : ti.k = .string) (hN : Nat.blt d N = true)
    (k : VR E ops dr rest (σ.set d (AD (.str (mkS L)))) ((gR.map (·.1) ++ (opK x ++ [.b nm]), [.s d]) :: tr) K) : VR E ops dr (⟨some d, .convert s t x, ty, pos, af, gd⟩ :: rest) σ tr K := by
  refine vr_val (x := AD (.str (mkS L))) (R := opR x (.c (.row nm n)) ++ [(.b nm, some (.k (.row T 1 (rowOf enc8 L))))]) hg rfl hN (fun σ a w ρ Im hs' hR => ?_)
    (reads_append (opR_ok hx) (by intro p hp; rw [List.mem_singleton] at hp; subst hp; exact hb)) (by rw [List.map_append, opR_keys]; rfl) k
  have hb' : σ (.b nm) = some (.k (.row T 1 (rowOf enc8 L))) := hR (.b nm, _) (by simp)
  obtain ⟨hr, _⟩ := ev_ok hs' (ev_of hx fun p hp => hR p (List.mem_append_left _ hp))
  have he : a.eval x = if (ρ nm).isNil then .slice none 0 0 else .slice (some ⟨(ρ nm).blk, 0, none⟩) n (ρ nm).cap := hr
  refine ⟨.string (mkS L), ?_, rfl, fun n hn => by cases hn⟩
  have hbk := hs'.bk nm _ hb'
  unfold BlkOK at hbk
  cases hnil : (ρ nm).isNil with
  | true =>
    simp only [hnil, if_true] at hbk he
    have hL : L = [] := by cases L with
      | nil => rfl
      | cons a l => cases hbk
    subst hL
    simp [execOp, he, run_convert_bytes_string w s t te none 0 0 (hs.slice hsk) (het.int hek) (ht.string htk), Conv.bytesToString]
    rfl
  | false =>
    simp only [hnil, Bool.false_eq_true, if_false] at hbk he
    obtain ⟨us, spare, hh, ha, _⟩ := hbk
    rw [flat8] at ha
    have hus := eq8 ha
    subst hus
    have hcells := run_loadCells_list (P := P) w ⟨(ρ nm).blk, 0, none⟩ (L.map (Value.int .u8)) (fun j v hv => by
      refine cells_heap hh 0 j v ?_
      rw [List.drop_zero, List.getElem?_append_left (List.getElem?_eq_some_iff.1 hv).1]
      exact hv)
    rw [List.length_map, ← hn] at hcells
    have hq := run_bytesToString (P := P) w ⟨(ρ nm).blk, 0, none⟩ n (ρ nm).cap L hcells
    simp [execOp, he, run_convert_bytes_string w s t te _ n _ (hs.slice hsk) (het.int hek) (ht.string htk), hq]
    rfl
theorem vr_convNil [hs : TyOK P s si] [het : TyOK P te ei] [ht : TyOK P t ti] (hg : GOK N ops σ gd gR) (hx : ev σ x = some (AD .nils))
    (hsk : si.k = .slice te) (hek : ei.k = .int .u8) (htk : ti.k = .string) (hN : Nat.blt d N = true)
    (k : VR E ops dr rest (σ.set d (AD (.str (mkS [])))) ((gR.map (·.1) ++ opK x, [.s d]) :: tr) K) : VR E ops dr (⟨some d, .convert s t x, ty, pos, af, gd⟩ :: rest) σ tr K :=
  vr_un (v := AD (.str (mkS []))) hg rfl hx hN (fun _ a w ρ Im _ h0 => by
    have he : a.eval x = .slice none 0 0 := h0
    refine ⟨.string (mkS []), ?_, rfl⟩
    simp [execOp, he, run_convert_bytes_string w s t te none 0 0 (hs.slice hsk) (het.int hek) (ht.string htk), Conv.bytesToString]
    rfl) (fun nm' h => by cases h) k
/-! ## Is a slice nil? -/

theorem vr_eqlNil [ht : TyOK P t ti] (hg : GOK N ops σ gd gR) (hx : ev σ x = some (AD .nils)) (hk : ti.k = .slice te) (hN : Nat.blt d N = true)
    (k : VR E ops dr rest (σ.set d (AB true)) ((gR.map (·.1) ++ opK x, [.s d]) :: tr) K) : VR E ops dr (⟨some d, .binOp .eql t x (.const (.slice none 0 0)) yt, ty, pos, af, gd⟩ :: rest) σ tr K :=
  vr_un (v := AB true) hg rfl hx hN (fun _ a w ρ Im _ h0 => by
    have he : a.eval x = .slice none 0 0 := h0
    refine ⟨.bool true, ?_, rfl⟩
    have h1 : a.eval (.const (.slice none 0 0)) = .slice none 0 0 := rfl
    have h2 := run_eql_nil (P := P) (w := w) (t := t) hk none 0 0
    simp [execOp, he, h1, eqGuard, binOp, h2]) (fun nm' h => by cases h) k
theorem vr_neqNil [ht : TyOK P t ti] (hg : GOK N ops σ gd gR) (hx : ev σ x = some (AD .nils)) (hk : ti.k = .slice te) (hN : Nat.blt d N = true)
    (k : VR E ops dr rest (σ.set d (AB false)) ((gR.map (·.1) ++ opK x, [.s d]) :: tr) K) : VR E ops dr (⟨some d, .binOp .neq t x (.const (.slice none 0 0)) yt, ty, pos, af, gd⟩ :: rest) σ tr K :=
  vr_un (v := AB false) hg rfl hx hN (fun _ a w ρ Im _ h0 => by
    have he : a.eval x = .slice none 0 0 := h0
    refine ⟨.bool false, ?_, rfl⟩
    have h1 : a.eval (.const (.slice none 0 0)) = .slice none 0 0 := rfl
    have h2 := run_eql_nil (P := P) (w := w) (t := t) hk none 0 0
    simp [execOp, he, h1, eqGuard, binOp, h2]) (fun nm' h => by cases h) k
theorem vr_eqlRd {n sz : Nat} {f : Nat → Nat → D} [ht : TyOK P t ti] (hg : GOK N ops σ gd gR) (hx : ev σ x = some (AD (.rd n sz f))) (hk : ti.k = .slice te) (h : 0 < n) (hN : Nat.blt d N = true)
    (k : VR E ops dr rest (σ.set d (AB false)) ((gR.map (·.1) ++ opK x, [.s d]) :: tr) K) : VR E ops dr (⟨some d, .binOp .eql t x (.const (.slice none 0 0)) yt, ty, pos, af, gd⟩ :: rest) σ tr K :=
  vr_un (v := AB false) hg rfl hx hN (fun _ a w ρ Im _ h0 => by
    obtain ⟨_, ao, c, he, hc, hcell⟩ := h0
    obtain ⟨b, o, rfl, _⟩ := hcell h
    refine ⟨.bool false, ?_, rfl⟩
    have h1 : a.eval (.const (.slice none 0 0)) = .slice none 0 0 := rfl
    have h2 := run_eql_nil (P := P) (w := w) (t := t) hk (some ⟨b, o, none⟩) n c
    simp [execOp, he, h1, eqGuard, binOp, h2]) (fun nm' h => by cases h) k
theorem vr_neqRd {n sz : Nat} {f : Nat → Nat → D} [ht : TyOK P t ti] (hg : GOK N ops σ gd gR) (hx : ev σ x = some (AD (.rd n sz f))) (hk : ti.k = .slice te) (h : 0 < n) (hN : Nat.blt d N = true)
    (k : VR E ops dr rest (σ.set d (AB true)) ((gR.map (·.1) ++ opK x, [.s d]) :: tr) K) : VR E ops dr (⟨some d, .binOp .neq t x (.const (.slice none 0 0)) yt, ty, pos, af, gd⟩ :: rest) σ tr K :=
  vr_un (v := AB true) hg rfl hx hN (fun _ a w ρ Im _ h0 => by
    obtain ⟨_, ao, c, he, hc, hcell⟩ := h0
    obtain ⟨b, o, rfl, _⟩ := hcell h
    refine ⟨.bool true, ?_, rfl⟩
    have h1 : a.eval (.const (.slice none 0 0)) = .slice none 0 0 := rfl
    have h2 := run_eql_nil (P := P) (w := w) (t := t) hk (some ⟨b, o, none⟩) n c
    simp [execOp, he, h1, eqGuard, binOp, h2]) (fun nm' h => by cases h) k
/-! ## A slice of noughts -/

theorem made8 (n : Nat) : madeCells (Value.int .u8 0).cells n = ((List.replicate n (0 : Int)).map (Value.int .u8)).toArray := by
  unfold madeCells
  apply Array.ext'
  simp [Value.cells]
  refine List.ext_getElem (by simp) fun i h1 h2 => ?_
  simp [Nat.mod_one]
theorem vr_make8 {n : Nat} {kd : IntKind} {i : Int} [ht : TyOK P t ti] [het : TyOK P te ei] (hg : GOK N ops σ gd gR) (hx : ev σ x = some (AD (.int kd i))) (hk : ti.k = .slice te) (hsz : ei.size = 1) (hby : ei.bytes = 1) (hz : ei.zero = .int .u8 0)
    (h0 : 0 ≤ i) (hn : n = i.toNat) (hmax : n ≤ 16777216) (hfresh : σ (.b d) = none) (hN : Nat.blt d N = true)
    (k : VR E ops dr rest ((σ.upd (.b d) (some (.k (.row te 1 (rowOf enc8 (List.replicate n 0)))))).set d (.c (.row d n))) ((gR.map (·.1) ++ (opK x ++ [.b d]), [.b d, .s d]) :: tr) K) : VR E ops dr (⟨some d, .makeSlice t x x, ty, pos, af, gd⟩ :: rest) σ tr K := by
  refine vr_do (R := opR x (AD (.int kd i)) ++ [(.b d, none)]) (U := [(.b d, some (.k (.row te 1 (rowOf enc8 (List.replicate n 0))))), (.s d, some (.v (.c (.row d n))))]) hg (fun σ a w ρ Im hs hR K Q hK => ?_)
    (reads_append (opR_ok hx) (by intro p hp; rw [List.mem_singleton] at hp; subst hp; exact hfresh)) (by rw [List.map_append, opR_keys]; rfl) rfl k
  have hf : σ (.b d) = none := hR (.b d, none) (by simp)
  obtain ⟨hr, _⟩ := ev_ok hs (ev_of hx fun p hp => hR p (List.mem_append_left _ hp))
  have he : a.eval x = .int kd i := hr
  have hi : i = (n : Int) := by omega
  clear hn
  subst hi
  obtain ⟨inf, hi1, hi2, hi3, hi4⟩ := het.get
  have hmk := run_make (P := P) w t te inf ei.zero (ht.slice hk) hi1 hi4 kd kd (n : Int) (n : Int) (by omega) (by omega) (by rw [hi3, hby]; omega) (by omega)
  rw [hi2, hsz, hz, Nat.mul_one, made8, Int.toNat_natCast] at hmk
  unfold Oper.wp
  have hrun : (execOp a.eval ⟨some d, .makeSlice t x x, ty, pos, af, gd⟩).run P w = .ok (.value (.slice (some ⟨w.heap.size, 0, none⟩) n n)) (w.alloc (.cells ((List.replicate n (0 : Int)).map (Value.int .u8)).toArray te)) := by
    simp [execOp, he, hmk]
  rw [hrun]
  refine hK _ _ ?_
  have hnew : setR ρ d ⟨w.heap.size, n, false⟩ d = ⟨w.heap.size, n, false⟩ := by simp [setR]
  have h1 : SatAt E (σ.upd (.b d) (some (.k (.row te 1 (rowOf enc8 (List.replicate n 0)))))) a (w.alloc (.cells ((List.replicate n (0 : Int)).map (Value.int .u8)).toArray te)) (setR ρ d ⟨w.heap.size, n, false⟩) Im := by
    refine hs.newblk hf _ n ?_ (fun m hm => ?_)
    · unfold BlkOK
      rw [hnew]
      simp only [Bool.false_eq_true, if_false]
      refine ⟨(List.replicate n (0 : Int)).map (Value.int .u8), [], by rw [List.append_nil]; exact heap_alloc_new w _, ?_, ?_, ?_, ?_, ?_⟩
      · rw [flat8]
        exact i8_all2 _
      · intro x hx
        obtain ⟨b, _, rfl⟩ := List.mem_map.1 hx
        rfl
      · simp
      · rw [rowOf_length]; simp
      · show n ≤ maxLen; unfold maxLen; omega
    · exfalso
      simp only [Blk.mentions, List.any_eq_true] at hm
      obtain ⟨x, hx, c, hc, hcm⟩ := hm
      obtain ⟨b, _, rfl⟩ := List.mem_map.1 hx
      simp only [enc8, List.map_cons, List.map_nil, List.mem_singleton] at hc
      subst hc
      cases hcm
  refine ⟨_, _, h1.put (by simpa using hN) ?_ ?_⟩
  · show _ = _
    rw [hnew]; rfl
  · intro nm hn
    have : d = nm := by simpa [AV.mentions, AV.mentions0, C.mentions] using hn
    subst this
    rw [St.upd_same]
    simp
end
end Go.Sx
/-
  Sx: an own row's element of several cells is written; the row stays a typed one.
-/
namespace Go.Sx
set_option linter.unusedSimpArgs false
set_option linter.unusedVariables false
open Go Go.RowKit
section
variable {P : Program} {N : Nat} {E : Env P N} {ops : Array Oper} {dr : Bool} {rest : List Oper} {σ : St} {tr : Trace} {K : St → Prop}
  {d : Nat} {t yt ty te s : TypeId} {pos : String} {af : Array Edge} {gd : Option (Nat × Bool)} {gR : Upds} {x y z : Operand} {ti ei si : TyI}
/-- An element of several cells is written. -/
theorem vr_storeG {α : Type} [Inhabited α] (enc : α → List D) {V : List α} {b : α} {nm T sz m : Nat} [ht : TyOK P t ti] (hg : GOK N ops σ gd gR) (hx : ev σ x = some (.rp nm sz m 0)) (hy : ev σ y = some (.agg ((enc b).map C.d))) (hb : σ (.b nm) = some (.k (.row T sz (rowOf enc V)))) (hm : m < V.length)
    (hl : ∀ a, (enc a).length = ti.size)
    (k : VR E ops dr rest (σ.upd (.b nm) (some (.k (.row T sz (rowOf enc (V.set m b)))))) ((gR.map (·.1) ++ (opK x ++ (opK y ++ [.b nm])), [.b nm]) :: tr) K) : VR E ops dr (⟨none, .store t x y, ty, pos, af, gd⟩ :: rest) σ tr K := by
  have hlv : ((enc b).map C.d).length = ti.size := by rw [List.length_map]; exact hl b
  have hlc : ((enc (V.getD m default)).map C.d).length = ti.size := by rw [List.length_map]; exact hl _
  refine vr_store_row (cs := (enc (V.getD m default)).map C.d) (vs := (enc b).map C.d) hg hx hy hb (rowOf_get hm) rfl hlv (by simp [hl]) ?_
  have : (rowOf enc V).set m (putC ((enc (V.getD m default)).map C.d) 0 ((enc b).map C.d)) = rowOf enc (V.set m b) := by
    have hp : putC ((enc (V.getD m default)).map C.d) 0 ((enc b).map C.d) = (enc b).map C.d := by
      unfold putC
      rw [List.take_zero, List.nil_append, Nat.zero_add, List.drop_of_length_le (by omega), List.append_nil]
    rw [hp]
    exact rowOf_set rfl
  rw [this]
  exact k
end
end Go.Sx
/-
  Sx: a region that holds a call of a range's yield: its pieces ahead and behind are walked by 'VR', the call by the round's word.
-/
namespace Go.Sx
open Go Go.RowKit
variable {P : Program} {N : Nat} {E : Env P N}
theorem oper_in {n : Nat} {o : Oper} {a : Act} {w : World} {K : Act → World → Prop} {Q : Exit → Act → World → Prop} (h : o.wp P a w K Q) : o.wpIn Fence.wide n P a w K Q := by
  refine ⟨fun _ _ => trivial, ?_⟩
  show Oper.uponIn Fence.wide n P o a K Q ((execOp a.eval o).run P w)
  unfold Oper.wp at h
  revert h
  generalize (execOp a.eval o).run P w = r
  intro h
  rcases r with ⟨x, w'⟩ | ⟨x, w'⟩
  · cases x
    case enter f args => exact ⟨(fun h => by cases h), callsIn_wide.2 h⟩
    case row r args => exact ⟨(fun h => by cases h), fun c cs _ => by obtain ⟨v, w2, h1, h2⟩ := h c cs; exact ⟨v, w2, h1, stepsIn_wide.2 h2⟩⟩
    case value => exact h
    case skip => exact h
    case defer => exact h
    all_goals exact False.elim h
  · cases x
    case panic => exact h
    all_goals exact False.elim h
theorem list_in {n : Nat} {ops : Array Oper} {pre rest : List Oper} {σ σ' : St} {tr : List (List Key × List Key)} (hr : Runs E ops pre σ tr σ') {Q : Exit → Act → World → Prop} (hno : ¬ LetsOut Q)
    (hQ : ∀ a w, Sat E σ' a w → wpListIn Fence.wide n P ops Q rest a w) : ∀ a w, Sat E σ a w → wpListIn Fence.wide n P ops Q (pre ++ rest) a w := by
  induction hr with
  | nil => exact fun a w h => hQ a w h
  | cons hact hR _ ih =>
    intro a w h
    have := hact _ a w (wpListIn Fence.wide n P ops Q _) Q h hR (fun a' w' h' => ih hQ a' w' h')
    rw [List.cons_append]
    unfold wpListIn
    split
    · rename_i hw
      rw [if_pos hw] at this
      rcases this with h1 | ⟨_, h2⟩
      · exact oper_in h1
      · exact absurd h2 hno
    · rename_i hw
      rw [if_neg hw] at this
      exact ⟨fun _ _ => trivial, this⟩
end Go.Sx
/-
  Sx: a range over a function whose iterator writes cells of its own: the iterator's contract 'SeqT' and the law of the loop. (The kit's 'SeqStopsK' lets an iterator turn walks' objects alone.)
-/
namespace Go.Sx
open Go Go.RowKit
variable {P : Program}
/-- The world has moved on; blocks of which p is true may have turned. -/
structure Turn (p : Nat → Obj → Prop) (W W' : World) : Prop where
  os : W'.os = W.os
  tape : W'.tape = W.tape
  output : W'.output = W.output
  size : W.heap.size ≤ W'.heap.size
  block : ∀ b o, W.heap[b]? = some o → ¬ p b o → W'.heap[b]? = some o
def OwnCells (own : TypeId → Prop) (o : Obj) : Prop := ∃ us T fz, o = .cells us T fz ∧ own T
def itP (B : Nat) (own : TypeId → Prop) (b : Nat) (o : Obj) : Prop := B ≤ b ∧ OwnCells own o
def loP (B : Nat) (own : TypeId → Prop) (b : Nat) (o : Obj) : Prop := B ≤ b ∧ (o.isCells = false ∨ OwnCells own o)
def rdP (B : Nat) (own : TypeId → Prop) (b : Nat) (o : Obj) : Prop := B ≤ b ∧ ¬ OwnCells own o
theorem Turn.refl (p : Nat → Obj → Prop) (W : World) : Turn p W W := ⟨rfl, rfl, rfl, Nat.le_refl _, fun _ _ h _ => h⟩
theorem Turn.trans {p : Nat → Obj → Prop} {A B C : World} (h : Turn p A B) (k : Turn p B C) : Turn p A C :=
  ⟨k.os.trans h.os, k.tape.trans h.tape, k.output.trans h.output, Nat.le_trans h.size k.size, fun b o hb hp => k.block b o (h.block b o hb hp) hp⟩
theorem Turn.mono {p q : Nat → Obj → Prop} {A B : World} (h : Turn p A B) (hpq : ∀ b o, p b o → q b o) : Turn q A B :=
  ⟨h.os, h.tape, h.output, h.size, fun b o hb hq => h.block b o hb fun hp => hq (hpq b o hp)⟩
theorem Turn.alloc (p : Nat → Obj → Prop) (W : World) (o : Obj) : Turn p W (W.alloc o) := by
  have hg := World.grownBy_alloc W o none
  exact ⟨hg.os, hg.tape, hg.output, hg.size, fun b o' hb _ => (hg.block b (Array.getElem?_eq_some_iff.1 hb).1 (by simp)).trans hb⟩
theorem Turn.grown {p : Nat → Obj → Prop} {W W' : World} {row : Option Nat} (hg : W.grownBy W' row) (hp : ∀ r o, row = some r → W.heap[r]? = some o → p r o) : Turn p W W' :=
  ⟨hg.os, hg.tape, hg.output, hg.size, fun b o hb hn => (hg.block b (Array.getElem?_eq_some_iff.1 hb).1 (fun e => hn (hp b o e.symm hb))).trans hb⟩
theorem Turn.putObj {p : Nat → Obj → Prop} {W : World} {l : Nat} {o : Obj} (o' : Obj) (h : W.heap[l]? = some o) (hp : p l o) : Turn p W (W.putObj l o') :=
  Turn.grown (grownBy_putObj' W l o') (fun r o2 e hr => by cases e; rw [h] at hr; cases hr; exact hp)
theorem Turn.below {p : Nat → Obj → Prop} {W W' : World} {B : Nat} (h : Turn p W W') (hB : B ≤ W.heap.size) (hp : ∀ b o, p b o → B ≤ b) : Below B W W' :=
  ⟨h.os, h.tape, h.output, h.size, fun b hb => by
    have hlt : b < W.heap.size := by omega
    have hs : W.heap[b]? = some W.heap[b] := Array.getElem?_eq_getElem hlt
    exact (h.block b _ hs fun hq => by have := hp _ _ hq; omega).trans hs.symm⟩
/-- An iterator that may write cells of its own (of the types 'own'), and reads whatever lies below the caller's heap's size and its own cells. -/
def SeqT {α : Type} (own : TypeId → Prop) (P : Program) (g : Nat) (lb : Array Value) (encs : α → Array Value) (S : List α → Prop) (N : Nat) (w : World) : Prop :=
  ∀ (l : Nat) (J : List α → World → Prop) (W : World), Below w.heap.size w W → (∀ s W0 W1, J s W0 → Turn (itP W.heap.size own) W0 W1 → J s W1) →
    (∀ m pre x W1, J pre W1 → pre.length < N → YieldAt Fence.wide m P l (encs x) W1 fun e W' => e = .returned (.bool true) ∧ J (pre ++ [x]) W' ∧ Turn (rdP w.heap.size own) W1 W') →
    J [] W →
    Calls P g (#[.func (.yield l) #[] #[]] ++ lb) W fun e W' => (∃ v, e = .returned v) ∧ ∃ xs, S xs ∧ J xs W'
theorem wpIn_rangeFunc_T {α : Type} {n : Nat} {own : TypeId → Prop} {g : Operand} {ps : Array Tmp} {assign body : Code} {Q : Exit → Act → World → Prop} {a : Act} {w : World}
    {gf : Nat} {lb : Array Value} (hg : a.eval g = .func (.func gf) #[] lb) (eg : ∀ args w, (callFunc gf args).run P w = .ok (.enter gf args) w)
    {encs : α → Array Value} {S : List α → Prop} {N : Nat} {w0 : World} (hseq : SeqT own P gf lb encs S N w0) (hb0 : Below w0.heap.size w0 w) (hps : ∀ x, (encs x).size = ps.size)
    (I : List α → World → Prop) (hI : ∀ s W0 W1, I s W0 → Turn (loP w.heap.size own) W0 W1 → I s W1) (h0 : I [] w) (a₁ : α → Act)
    (hassign : ∀ (l m : Nat) (x : α) (W : World) (K : Act → World → Prop), K (a₁ x) W →
      assign.wpIn (Fence.wide.inRound l) m P (Exit.then K (fun _ _ _ => False)) { tmps := (ps.zip (encs x)).foldl (fun t (p, v) => t.setIfInBounds p v) a.tmps, defers := [] } W)
    (hbody : ∀ (l m : Nat) (pre : List α) (x : α) (W : World), I pre W → pre.length < N → body.wpIn (Fence.wide.inRound l) m P (fun e _ W' => e = .normal ∧ KeepsOthers W W' ∧ Turn (rdP w0.heap.size own) W W' ∧ I (pre ++ [x]) W') (a₁ x) W)
    (hdone : ∀ (D : Nat) (xs : List α) (W : World), w.heap.size ≤ D → S xs → I xs W → W.heap[D]? = some (.deferred (some [])) → Q .normal { a with defers := { target := .collected D, args := #[] } :: a.defers } W) :
    (Code.rangeFunc g ps assign body).wpIn Fence.wide n P Q a w := by
  refine wpIn_rangeFunc ?_
  intro fn hfn
  obtain ⟨rec, hrec⟩ : ∃ rec : LoopState → Option Code → Loop, rec = fun st pe => { state := st, pending := pe, fn, tmps := a.tmps, params := ps, assign, body, defers := w.heap.size } := ⟨_, rfl⟩
  obtain ⟨W1, hW1⟩ : ∃ W1, (w.alloc (.deferred (some []))).alloc (.loop (rec .ready none)) = W1 := ⟨_, rfl⟩
  have hL1 : W1.heap[w.heap.size + 1]? = some (.loop (rec .ready none)) := by
    rw [← hW1]; have := World.alloc_heap_new (w.alloc (.deferred (some []))) (.loop (rec .ready none)); rwa [World.size_alloc] at this
  have hK1 : W1.heap[w.heap.size]? = some (.deferred (some [])) := by
    rw [← hW1]; exact (Below.heap_alloc _ _ _ (by simp)).trans (World.alloc_heap_new w _)
  have ht1 : ∀ p, Turn p w W1 := fun p => by rw [← hW1]; exact (Turn.alloc p _ _).trans (Turn.alloc p _ _)
  have hsz : w.heap.size ≤ W1.heap.size := (ht1 (fun _ _ => False)).size
  have hb1 : Below w0.heap.size w0 W1 := hb0.trans ((ht1 (fun _ _ => False)).below hb0.size (fun _ _ h => h.elim))
  have noc : ∀ {st pe}, ¬ OwnCells own (.loop (rec st pe)) := by rintro st pe ⟨_, _, _, e, _⟩; cases e
  have nod : ∀ {ds}, ¬ OwnCells own (.deferred ds) := by rintro ds ⟨_, _, _, e, _⟩; cases e
  have hput : ∀ {s W st pe} (o' : Obj), I s W → W.heap[w.heap.size + 1]? = some (.loop (rec st pe)) → I s (W.putObj (w.heap.size + 1) o') := fun o' hs hl => hI _ _ _ hs (Turn.putObj o' hl ⟨by omega, .inl rfl⟩)
  refine ⟨w.heap.size + 1, [{ target := .collected w.heap.size, args := #[] }], W1, { target := .fn (.func gf) lb, args := #[.func (.yield (w.heap.size + 1)) #[] #[]] }, W1, gf,
    #[.func (.yield (w.heap.size + 1)) #[] #[]] ++ lb, W1, ?_, ?_, fun _ _ => trivial, ?_, (fun h => by cases h), ?_⟩
  · rw [← hW1, hrec]; exact run_enterLoop_outer _ _ _ _ _
  · simp only [resolve, hg]
    simp [go_sem]
  · simp [invoke, go_sem, eg]
  · refine callsIn_wide.2 ((hseq (w.heap.size + 1)
      (fun pre W => I pre W ∧ W.heap[w.heap.size + 1]? = some (.loop (rec .ready none)) ∧ W.heap[w.heap.size]? = some (.deferred (some [])))
      W1 hb1
      (fun s A B hs ht => ⟨hI s A B hs.1 (ht.mono fun b o h => ⟨by have := h.1; omega, .inr h.2⟩), ht.block _ _ hs.2.1 (fun h => noc h.2), ht.block _ _ hs.2.2 (fun h => nod h.2)⟩)
      ?_ ⟨hI _ _ _ h0 (ht1 _), hL1, hK1⟩).mono ?_)
    · rintro m pre x W ⟨hi, hl, hk⟩ hlen
      have hlt : w.heap.size + 1 < W.heap.size := (Array.getElem?_eq_some_iff.1 hl).1
      have hy := run_yield (P := P) (args := encs x) hl (by rw [hrec]; exact hps x)
      rw [hrec] at hy
      refine ⟨fn, _, assign, body, hy, roundIn_of_wpIn hfn (hassign _ m x W _ ⟨_, run_beginRound hl (by rw [hrec]), ?_⟩)⟩
      have hl2 : (W.putObj (w.heap.size + 1) (.loop { rec .ready none with state := .busy })).heap[w.heap.size + 1]? = some (.loop { rec .ready none with state := .busy }) := World.putObj_heap_same hlt
      have hk2 : (W.putObj (w.heap.size + 1) (.loop { rec .ready none with state := .busy })).heap[w.heap.size]? = some (.deferred (some [])) := (World.putObj_heap_other (by omega)).trans hk
      have hn0 : w0.heap.size ≤ w.heap.size + 1 := by have := hb0.size; omega
      have hw2 : Turn (rdP w0.heap.size own) W (W.putObj (w.heap.size + 1) (.loop { rec .ready none with state := .busy })) := Turn.putObj _ hl ⟨hn0, noc⟩
      refine wpIn_mono (hbody _ m pre x _ (hput _ hi hl) hlen) ?_
      rintro e a3 W3 ⟨rfl, hk3, ht3, hi3⟩
      have hl3 := hk3.same _ _ hl2 rfl
      have hr := run_endRound (P := P) none hl3
      have he : ({ rec .ready none with state := .busy } : Loop) = rec .busy none := by rw [hrec]
      rw [he] at hl3
      refine ⟨_, _, hr, rfl, ⟨?_, ?_, ?_⟩, hw2.trans (ht3.trans (Turn.putObj _ hl3 ⟨hn0, noc⟩))⟩
      · exact hput _ hi3 hl3
      · have := World.putObj_heap_same (o := .loop (rec .ready none)) (Array.getElem?_eq_some_iff.1 hl3).1
        rw [hrec] at this ⊢; exact this
      · exact (World.putObj_heap_other (by omega)).trans (hk3.same _ _ hk2 rfl)
    · rintro e W2 ⟨⟨v, rfl⟩, xs, hS, hi, hl, hk⟩
      exact ⟨none, _, by have := run_endLoop (P := P) hl (by rw [hrec]; simp); rw [hrec] at this; exact this, hdone _ xs _ (Nat.le_refl _) hS (hput _ hi hl) ((World.putObj_heap_other (by omega)).trans hk)⟩
end Go.Sx
/-
  Sx: an iterator's own body: states over changing starts (after each yield the walk begins anew), loads by bare addresses, a region that holds a yield.
-/
namespace Go.Sx
set_option linter.unusedSimpArgs false
set_option linter.unusedVariables false
open Go Go.RowKit
section
variable {P : Program} {N : Nat}
/-- Code, with a word on the frame and the world behind it. -/
def VX (E : Env P N) (c : Code) (R : Exit → Act → World → Prop) (σ : St) : Prop := ∀ a w, Sat E σ a w → c.wp P R a w
theorem VX.run {E : Env P N} {c : Code} {R : Exit → Act → World → Prop} {σ : St} (h : VX E c R σ) {a : Act} {w : World} (hs : Sat E σ a w) : c.wp P R a w := h a w hs
theorem VX.mk {E : Env P N} {c : Code} {R : Exit → Act → World → Prop} {σ : St} (h : ∀ a w, Sat E σ a w → c.wp P R a w) : VX E c R σ := h
theorem vx_of {E : Env P N} {c : Code} {R : Exit → Act → World → Prop} {σ : St} (h : VC E c (fun e σ' => ∀ a w, Sat E σ' a w → R e a w) σ) : VX E c R σ :=
  fun a w hs => wp_mono (h a w hs) fun e a' w' ⟨σ', h1, h2⟩ => h2 a' w' h1
theorem vx_seq {E : Env P N} {x y : Code} {R : Exit → Act → World → Prop} {σ : St} (h : VC E x (thenQ (fun σ' => VX E y R σ') (fun e σ' => ∀ a w, Sat E σ' a w → R e a w)) σ) : VX E (.seq x y) R σ := fun a w hs =>
  wp_seq (wp_mono (h a w hs) fun e a' w' ⟨σ', h1, h2⟩ => by
    cases e with
    | normal => exact h2 a' w' h1
    | _ => exact h2 a' w' h1)
theorem VX.le {E : Env P N} {c : Code} {R : Exit → Act → World → Prop} {σ σ' : St} (h : Le E σ σ') (k : VX E c R σ') : VX E c R σ := fun a w hs => k a w (h a w hs)
/-- A cell of old memory that stays, and what it holds. -/
def Cell0 (E : Env P N) (b o : Nat) (x : D) : Prop :=
  (∃ v, E.w0.cell? ⟨b, o, none⟩ = some v ∧ RepD E.w0 E.Im0 x v) ∧ b < E.w0.heap.size ∧ ¬ E.S0 b ∧ ∀ b', E.Im0 b' → b' < E.w0.heap.size ∧ ¬ E.S0 b'
theorem SatAt.more {E : Env P N} {σ : St} {a : Act} {w : World} {ρ : Nat → RI} {Im : Nat → Prop} (h : SatAt E σ a w ρ Im) (h0 : ∀ b', E.Im0 b' → b' < E.w0.heap.size ∧ ¬ E.S0 b') : SatAt E σ a w ρ (fun b => Im b ∨ E.Im0 b) where
  fr := fun t x hx => RepA.keep (fun _ hb => ⟨.inl hb, rfl⟩) (fun _ _ => rfl) (h.fr t x hx)
  bk := fun nm b hb => BlkOK.keep (fun _ hb => ⟨.inl hb, rfl⟩) rfl (fun _ _ => rfl) (fun _ _ => rfl) (h.bk nm b hb)
  own := h.own
  inj := h.inj
  im := fun b hb => by
    rcases hb with hb | hb
    · exact h.im b hb
    · obtain ⟨h1, h2⟩ := h0 b hb
      refine ⟨.inl hb, by have := h.keep.size; omega, fun nm bk hk hl hn e => ?_⟩
      rcases (h.own nm bk hk hl hn).2 with h3 | h3
      · rw [e] at h3; exact h2 h3
      · omega
  wf := h.wf
  defers := h.defers
  size := h.size
  keep := h.keep
theorem vr_loadRaw {E : Env P N} {ops : Array Oper} {dr : Bool} {rest : List Oper} {σ : St} {tr : Trace} {K : St → Prop} {d : Nat} {t ty : TypeId} {pos : String} {af : Array Edge} {gd : Option (Nat × Bool)} {gR : Upds} {x : Operand} {ti : TyI}
    {b o : Nat} {z : D} [ht : TyOK P t ti] (hg : GOK N ops σ gd gR) (hx : ev σ x = some (AD (.raw (.pointer (some ⟨b, o, none⟩))))) (hc : Cell0 E b o z) (hagg : ti.isAgg = false) (hN : Nat.blt d N = true)
    (k : VR E ops dr rest (σ.set d (AD z)) ((gR.map (·.1) ++ opK x, [.s d]) :: tr) K) : VR E ops dr (⟨some d, .load t x, ty, pos, af, gd⟩ :: rest) σ tr K := by
  refine vr_do (R := opR x (AD (.raw (.pointer (some ⟨b, o, none⟩))))) (U := [(.s d, some (.v (AD z)))]) hg (fun σ a w ρ Im hs hR K Q hK => ?_) (opR_ok hx) (opR_keys x _) rfl k
  have hx' := ev_of hx hR
  obtain ⟨hr, _⟩ := ev_ok hs hx'
  have he : a.eval x = .pointer (some ⟨b, o, none⟩) := hr.1
  obtain ⟨⟨v, hv, hrep⟩, hlt, hns, him⟩ := hc
  have hcell : w.cell? ⟨b, o, none⟩ = some v := (World.cell?_of_block (hs.keep.block b hlt hns)).trans hv
  unfold Oper.wp
  have hrun : (execOp a.eval ⟨some d, .load t x, ty, pos, af, gd⟩).run P w = .ok (.value v) w := by
    simp [execOp, he, Instr.loadAt, Instr.sureAddr, loadVar, ht.run_agg, hagg, hcell]
  rw [hrun]
  refine hK _ _ ⟨ρ, _, (hs.more him).put (by simpa using hN) ?_ (fun nm hn => by cases hn)⟩
  exact RepD.keep (fun b' hb' => ⟨.inr hb', hs.keep.block b' (him b' hb').1 (him b' hb').2⟩) hrep
/-- A state whose slots are flat and that has one own block, an array: it may be read as one that begins now. -/
def flatR (nm : Nat) : AV → Bool
  | .c (.d x) => x.flat
  | .rp n _ _ _ => Nat.beq n nm
  | _ => false
theorem sat_rebase {E : Env P N} {l : List (Nat × AV)} {nm T : Nat} {V : List Bool} {a : Act} {w : World} (hs : Sat E (stOf l [(nm, .row T 1 (rowOf encB V))]) a w) (hV : V ≠ []) (hl : (l.all fun p => flatR nm p.2) = true) :
    ∃ vb spare, w.heap[vb]? = some (.cells (V.map Value.bool ++ spare).toArray T (0, 0)) ∧ (E.S0 vb ∨ E.w0.heap.size ≤ vb) ∧ vb < w.heap.size ∧ Keep E.w0 E.S0 w ∧
      ∀ (w' : World) (Im0 : Nat → Prop), w'.heap[vb]? = w.heap[vb]? → (∀ b, Im0 b → b < w'.heap.size ∧ b ≠ vb) → Sat (⟨w', Im0, fun b => b = vb⟩ : Env P N) (stOf l [(nm, .row T 1 (rowOf encB V))]) a w' := by
  obtain ⟨ρ, Im, h⟩ := hs
  have hb : stOf l [(nm, .row T 1 (rowOf encB V))] (.b nm) = some (.k (.row T 1 (rowOf encB V))) := by simp [stOf, lookL]
  have hone : ∀ n bk, stOf l [(nm, .row T 1 (rowOf encB V))] (.b n) = some (.k bk) → n = nm ∧ bk = .row T 1 (rowOf encB V) := by
    intro n bk hk
    simp only [stOf, lookL] at hk
    cases hbq : Nat.beq nm n with
    | true =>
      rw [hbq] at hk
      simp at hk
      exact ⟨by simpa using (Nat.eq_of_beq_eq_true hbq).symm, hk.symm⟩
    | false => rw [hbq] at hk; simp at hk
  obtain ⟨hnil, spare, hh, hcap, hle, hmax⟩ := arr_heap h hb hV
  have hlt := h.own nm _ hb rfl hnil
  refine ⟨(ρ nm).blk, spare, hh, hlt.2, hlt.1, h.keep, fun w' Im0 hw' hI => ⟨ρ, Im0, ?_⟩⟩
  refine ⟨fun t x hx => ?_, fun n bk hk => ?_, fun n bk hk hl2 hn => ?_, fun n1 n2 b1 b2 h1 h2 _ _ _ _ hne => ?_, fun b hb' => ⟨.inl hb', (hI b hb').1, fun n bk hk _ _ e => ?_⟩, h.wf, h.defers, h.size, Keep.refl _ _⟩
  · have hx0 := h.fr t x hx
    have hm : flatR nm x = true := by
      simp only [stOf, Option.map_eq_some_iff] at hx
      obtain ⟨y, hy, e⟩ := hx
      injection e with e; subst e
      exact List.all_eq_true.1 hl _ (lookL_mem hy)
    cases x with
    | c c =>
      cases c with
      | d y => exact RepD.flat hm hx0
      | _ => cases hm
    | rp n sz i o => exact hx0
    | _ => cases hm
  · obtain ⟨rfl, rfl⟩ := hone n bk hk
    have := h.bk n _ hb
    unfold BlkOK at this ⊢
    simp only [hnil, Bool.false_eq_true, if_false] at this ⊢
    obtain ⟨us, sp, h1, h2, h3⟩ := this
    refine ⟨us, sp, by rw [hw']; exact h1, ?_, h3⟩
    rw [flatB] at h2 ⊢
    rw [bs_eq h2]
    exact bs_all2 V
  · obtain ⟨rfl, rfl⟩ := hone n bk hk
    refine ⟨?_, .inl rfl⟩
    have : w'.heap[(ρ n).blk]? ≠ none := by rw [hw', hh]; simp
    have h2 : ¬ w'.heap.size ≤ (ρ n).blk := fun hle => this (Array.getElem?_eq_none_iff.2 hle)
    show (ρ n).blk < w'.heap.size
    omega
  · exact absurd ((hone n1 b1 h1).1.trans (hone n2 b2 h2).1.symm) hne
  · obtain ⟨rfl, rfl⟩ := hone n bk hk
    exact (hI b hb').2 e.symm
/-- The world behind a walk that writes nothing old but cells of its own types. -/
theorem turn_of_keep {own : TypeId → Prop} {B : Nat} {w0 w : World} {S : Nat → Prop} (h : Keep w0 S w) (hS : ∀ b, S b → B ≤ b ∧ ∃ us T fz, w0.heap[b]? = some (.cells us T fz) ∧ own T) : Turn (itP B own) w0 w :=
  ⟨h.os, h.tape, h.output, h.size, fun b o hb hn => (h.block b (Array.getElem?_eq_some_iff.1 hb).1 (fun hs => hn (by
    obtain ⟨h1, us, T, fz, h2, h3⟩ := hS b hs
    rw [hb] at h2; cases h2
    exact ⟨h1, us, T, fz, rfl, h3⟩))).trans hb⟩
/-- A region's first piece. -/
theorem list_vr {E : Env P N} {n : Nat} {ops : Array Oper} {pre rest : List Oper} {σ : St} {Q : Exit → Act → World → Prop} (hno : ¬ LetsOut Q) (h : VR E ops false pre σ [] (fun σ' => ∀ a w, Sat E σ' a w → wpListIn Fence.wide n P ops Q rest a w)) :
    ∀ a w, Sat E σ a w → wpListIn Fence.wide n P ops Q (pre ++ rest) a w := by
  obtain ⟨tr, σ', hr, _, hK⟩ := h
  exact list_in hr hno hK
/-- A call of yield. -/
theorem yield_in {n : Nat} {ops : Array Oper} {rest : List Oper} {Q : Exit → Act → World → Prop} {a : Act} {w : World} {d : Nat} {f x : Operand} {ats : Array TypeId} {ty : TypeId} {pos : String} {af : Array Edge} {gd : Option (Nat × Bool)} {l : Nat} {v : Value} {R : World → Prop}
    (hw : Region.wanted ⟨some d, .call ⟨.value f, #[x], ats⟩, ty, pos, af, gd⟩ (yielded ops a.tmps) = true) (hf : a.eval f = .func (.yield l) #[] #[]) (hx : a.eval x = v)
    (hy : YieldAt Fence.wide (n - 1) P l #[v] w fun e W' => e = .returned (.bool true) ∧ R W')
    (hK : ∀ w', R w' → wpListIn Fence.wide n P ops Q rest (a.put (some d) (.bool true)) w') : wpListIn Fence.wide n P ops Q (⟨some d, .call ⟨.value f, #[x], ats⟩, ty, pos, af, gd⟩ :: rest) a w := by
  unfold wpListIn
  rw [if_pos hw]
  refine ⟨fun _ _ => trivial, ?_⟩
  obtain ⟨fn, tmps, assign, body, hrun, hround⟩ := hy
  have hr : (Oper.semAt Fence.wide.round a.eval ⟨some d, .call ⟨.value f, #[x], ats⟩, ty, pos, af, gd⟩).run P w = .ok (.round l fn tmps assign body) w := by
    show (execOp a.eval ⟨some d, .call ⟨.value f, #[x], ats⟩, ty, pos, af, gd⟩).run P w = _
    obtain ⟨tv, htv⟩ : ∃ t : Value, t = a.eval f := ⟨_, rfl⟩
    generalize a.eval = ev0 at hf hx
    simp [execOp, hf, hx, resolve, invoke, go_sem, hrun]
  rw [hr, Oper.uponIn_round]
  refine ⟨(fun h => by cases h), hround.mono fun e w' h => ?_⟩
  obtain ⟨rfl, h2⟩ := h
  exact hK w' h2
theorem K_le {E : Env P N} {σ σ' : St} {G : Act → World → Prop} (h : Le E σ σ') (k : ∀ a w, Sat E σ' a w → G a w) : ∀ a w, Sat E σ a w → G a w := fun a w hs => k a w (h a w hs)
theorem list_cut {n : Nat} {ops : Array Oper} {l pre rest : List Oper} {Q : Exit → Act → World → Prop} {a : Act} {w : World} (k : Nat) (h1 : l.take k = pre) (h2 : l.drop k = rest) (h : wpListIn Fence.wide n P ops Q (pre ++ rest) a w) : wpListIn Fence.wide n P ops Q l a w := by
  subst h1; subst h2
  rwa [List.take_append_drop] at h
/-- A call's beginning. -/
theorem sat_args {w : World} {ρ : Nat → RI} {Im S0 : Nat → Prop} {args : List AV} {vs : List Value} {nt : Nat} (hargs : All2 (RepA (⟨w, Im, S0⟩ : Env P N) ρ w Im) args vs) (hwf : wfArgs args [] = true) (hlen : args.length ≤ N) (hnt : nt = N) (hIm : ∀ b, Im b → b < w.heap.size) :
    Sat (⟨w, Im, S0⟩ : Env P N) (argSt args []) { tmps := vs.toArray ++ Array.replicate (nt - vs.toArray.size) undef, defers := [] } w := by
  have hl : vs.length = args.length := hargs.length.symm
  refine ⟨ρ, Im, fun t x hx => ?_, fun nm b hb => ?_, fun nm b hb => ?_, fun n1 n2 b1 b2 h1 => ?_, fun b hb => ⟨.inl hb, hIm b hb, fun nm bk hk => ?_⟩, argSt_wf hwf, rfl, by simp [hnt]; omega, Keep.refl _ _⟩
  · simp only [argSt, Option.map_eq_some_iff] at hx
    obtain ⟨y, hy, he⟩ := hx
    injection he with he
    subst he
    obtain ⟨u, hu, hr⟩ := hargs.get hy
    have ht : t < vs.length := (List.getElem?_eq_some_iff.1 hu).1
    have : (vs.toArray ++ Array.replicate (nt - vs.toArray.size) undef).getD t undef = u := by
      rw [Array.getD_eq_getD_getElem?, Array.getElem?_append_left (by simpa using ht)]
      simp [hu]
    rw [this]
    exact hr
  · simp [argSt, lookL] at hb
  · simp [argSt, lookL] at hb
  · simp [argSt, lookL] at h1
  · simp [argSt, lookL] at hk
/-- A plain call, by a bare contract. -/
theorem call_in {n : Nat} {ops : Array Oper} {rest : List Oper} {Q : Exit → Act → World → Prop} {a : Act} {w : World} {d : Nat} {op : Op} {ty : TypeId} {pos : String} {af : Array Edge} {g : FuncId} {vs : Array Value} {R : Value → World → Prop}
    (hrun : (execOp a.eval ⟨some d, op, ty, pos, af, none⟩).run P w = .ok (.enter g vs) w) (hc : Calls P g vs w fun e w' => ∃ v, e = .returned v ∧ R v w')
    (hK : ∀ v w', R v w' → wpListIn Fence.wide n P ops Q rest (a.put (some d) v) w') : wpListIn Fence.wide n P ops Q (⟨some d, op, ty, pos, af, none⟩ :: rest) a w := by
  unfold wpListIn
  rw [if_pos (show Region.wanted (⟨some d, op, ty, pos, af, none⟩ : Oper) (yielded ops a.tmps) = true from rfl)]
  refine oper_in ?_
  unfold Oper.wp
  rw [hrun]
  show Calls P g vs w _
  refine Calls.mono hc fun e w' h => ?_
  obtain ⟨v, rfl, h2⟩ := h
  exact hK v w' h2
/-- New blocks only. -/
theorem SatAt.grow {E : Env P N} {σ : St} {a : Act} {w w' : World} {ρ : Nat → RI} {Im : Nat → Prop} (h : SatAt E σ a w ρ Im) (hb : Below w.heap.size w w') : SatAt E σ a w' ρ Im where
  fr := fun t x hx => RepA.keep (fun b hI => ⟨hI, hb.block b (h.im b hI).2.1⟩) (fun _ _ => rfl) (h.fr t x hx)
  bk := fun nm b hk => BlkOK.keep (fun b hI => ⟨hI, hb.block b (h.im b hI).2.1⟩) rfl (fun hn hl => hb.block _ (h.own nm b hk hl hn).1) (fun _ _ => rfl) (h.bk nm b hk)
  own := fun nm b hk hl hn => ⟨Nat.lt_of_lt_of_le (h.own nm b hk hl hn).1 hb.size, (h.own nm b hk hl hn).2⟩
  inj := h.inj
  im := fun b hI => ⟨(h.im b hI).1, Nat.lt_of_lt_of_le (h.im b hI).2.1 hb.size, (h.im b hI).2.2⟩
  wf := h.wf
  defers := h.defers
  size := h.size
  keep := h.keep.step hb.os hb.tape hb.output hb.size (fun b hlt hS => hb.block b (Nat.lt_of_lt_of_le hlt h.keep.size))
/-- A block that lies beyond what was there is an own one from now on. -/
theorem SatAt.addB {E : Env P N} {σ : St} {a : Act} {w w' : World} {ρ : Nat → RI} {Im : Nat → Prop} (h : SatAt E σ a w ρ Im) (hb : Below w.heap.size w w') {nm : Nat} (hfresh : σ (.b nm) = none) (r : RI) (hr : r.isNil = true ∨ (w.heap.size ≤ r.blk ∧ r.blk < w'.heap.size)) {blk : Blk}
    (hk : BlkOK (setR ρ nm r) w' Im nm blk) (hm : ∀ n, blk.mentions n = false) :
    SatAt E (σ.upd (.b nm) (some (.k blk))) a w' (setR ρ nm r) Im := by
  have hg := h.grow hb
  have hρ : ∀ n, σ (.b n) ≠ none → setR ρ nm r n = ρ n := fun n hn => by
    unfold setR
    rw [if_neg (fun e => hn (by rw [e]; exact hfresh))]
  have hnew : setR ρ nm r nm = r := by simp [setR]
  have hother : ∀ n b, σ.upd (.b nm) (some (.k blk)) (.b n) = some (.k b) → n ≠ nm → σ (.b n) = some (.k b) := fun n b hb hn => by
    rwa [St.upd_other _ _ (by intro e; injection e with e; exact hn e.symm)] at hb
  refine ⟨fun t x hx => ?_, fun n b hb' => ?_, fun n b hb' hl hn => ?_, fun n1 n2 b1 b2 h1 h2 l1 l2 i1 i2 hne => ?_, fun b hb' => ⟨(hg.im b hb').1, (hg.im b hb').2.1, fun n bk hk' hl hn => ?_⟩, fun k it hk' n hn => ?_, hg.defers, hg.size, hg.keep⟩
  · rw [St.upd_other _ _ (by intro e; cases e)] at hx
    exact RepA.keep (fun _ hb => ⟨hb, rfl⟩) (fun n hn => hρ n (h.wf _ _ hx n hn)) (hg.fr t x hx)
  · by_cases hn : n = nm
    · subst hn
      rw [St.upd_same] at hb'
      injection hb' with hb'; injection hb' with hb'; subst hb'
      exact hk
    · have hb0 := hother n b hb' hn
      exact BlkOK.keep (fun _ hb => ⟨hb, rfl⟩) (hρ n (by rw [hb0]; simp)) (fun _ _ => rfl) (fun n' hn' => hρ n' (h.wf _ _ hb0 n' hn')) (hg.bk n b hb0)
  · by_cases he : n = nm
    · subst he
      rw [hnew] at hn ⊢
      rcases hr with hr | hr
      · rw [hr] at hn; cases hn
      · refine ⟨hr.2, .inr ?_⟩
        have := h.keep.size
        omega
    · have hb0 := hother n b hb' he
      rw [hρ n (by rw [hb0]; simp)] at hn ⊢
      exact hg.own n b hb0 hl hn
  · by_cases e1 : n1 = nm
    · subst e1
      have e2 : n2 ≠ n1 := fun e => hne e.symm
      have hb0 := hother n2 b2 h2 e2
      rw [hρ n2 (by rw [hb0]; simp)] at i2 ⊢
      rw [hnew] at i1 ⊢
      have := (h.own n2 b2 hb0 l2 i2).1
      rcases hr with hr | hr
      · rw [hr] at i1; cases i1
      · omega
    · have hb1 := hother n1 b1 h1 e1
      rw [hρ n1 (by rw [hb1]; simp)] at i1 ⊢
      by_cases e2 : n2 = nm
      · subst e2
        rw [hnew] at i2 ⊢
        have := (h.own n1 b1 hb1 l1 i1).1
        rcases hr with hr | hr
        · rw [hr] at i2; cases i2
        · omega
      · have hb2 := hother n2 b2 h2 e2
        rw [hρ n2 (by rw [hb2]; simp)] at i2 ⊢
        exact h.inj n1 n2 b1 b2 hb1 hb2 l1 l2 i1 i2 hne
  · by_cases he : n = nm
    · subst he
      rw [hnew] at hn ⊢
      have := (h.im b hb').2.1
      rcases hr with hr | hr
      · rw [hr] at hn; cases hn
      · omega
    · have hb0 := hother n bk hk' he
      rw [hρ n (by rw [hb0]; simp)] at hn ⊢
      exact (h.im b hb').2.2 n bk hb0 hl hn
  · by_cases he : n = nm
    · subst he; rw [St.upd_same]; simp
    · rw [St.upd_other _ _ (by intro e; injection e with e; exact he e.symm)]
      by_cases hkn : (Key.b nm) = k
      · subst hkn
        rw [St.upd_same] at hk'
        injection hk' with hk'; subst hk'
        have := hm n
        rw [show blk.mentions n = true from hn] at this
        cases this
      · rw [St.upd_other _ _ hkn] at hk'
        exact h.wf k it hk' n hn
theorem i64_all2 {ρ : Nat → RI} {w : World} {Im : Nat → Prop} : ∀ (V : List Int), All2 (RepC ρ w Im) (rowOf encI V).flatten (V.map (Value.int .i64))
  | [] => .nil
  | b :: V => .cons rfl (i64_all2 V)
theorem rows_of_owns {w : World} {base T n : Nat} {v : Value} {xs : List Int} (h : w.ownsRow base T 1 v n (xs.map (Value.int .i64))) :
    ∃ r : RI, v = (if r.isNil then .slice none 0 0 else .slice (some ⟨r.blk, 0, none⟩) n r.cap) ∧ (r.isNil = true ∨ (base ≤ r.blk ∧ r.blk < w.heap.size)) ∧ n = xs.length ∧
      ∀ (ρ : Nat → RI) (Im : Nat → Prop) (nm : Nat), BlkOK (setR ρ nm r) w Im nm (.row T 1 (rowOf encI xs)) := by
  obtain ⟨hl, h⟩ := h
  have hn : n = xs.length := by simpa using hl.symm
  rcases h with ⟨rfl, h0⟩ | ⟨g, cap, cur, rfl, hg, hh, hle, hmax, hsz, htk⟩
  · refine ⟨⟨0, 0, true⟩, rfl, .inl rfl, hn, fun ρ Im nm => ?_⟩
    have : xs = [] := List.length_eq_zero_iff.1 (by omega)
    subst this
    unfold BlkOK
    simp [setR, rowOf]
  · refine ⟨⟨g, cap, false⟩, rfl, .inr ⟨hg, (Array.getElem?_eq_some_iff.1 hh).1⟩, hn, fun ρ Im nm => ?_⟩
    have hnew : setR ρ nm ⟨g, cap, false⟩ nm = ⟨g, cap, false⟩ := by simp [setR]
    unfold BlkOK
    rw [hnew]
    simp only [Bool.false_eq_true, if_false]
    refine ⟨xs.map (Value.int .i64), cur.toList.drop n, ?_, ?_, ?_, ?_, ?_, hmax⟩
    · rw [hh]
      congr 2
      rw [Nat.mul_one] at htk
      rw [← htk, List.take_append_drop]
    · exact i64_all2 xs
    · intro x hx
      obtain ⟨b, _, rfl⟩ := List.mem_map.1 hx
      rfl
    · simp only [List.length_map, List.length_drop, Array.length_toList]
      omega
    · rw [rowOf_length, ← hn]; exact hle
theorem VC.mk {E : Env P N} {c : Code} {Q : Exit → St → Prop} {σ : St} (h : ∀ a w, Sat E σ a w → c.wp P (fun e a' w' => ∃ σ', Sat E σ' a' w' ∧ Q e σ') a w) : VC E c Q σ := h
theorem thenQ_out {next : St → Prop} {Q : Exit → St → Prop} {σ : St} (h : thenQ next Q .outgrown σ) : Q .outgrown σ := h
theorem call_run {w : World} {a : Act} {d : Nat} {g : FuncId} {xs : List Operand} {ats : Array TypeId} {ty : TypeId} {pos : String} {af : Array Edge} {gd : Option (Nat × Bool)} (hen : Enters P g) :
    (execOp a.eval ⟨some d, .call ⟨.value (.func g), xs.toArray, ats⟩, ty, pos, af, gd⟩).run P w = .ok (.enter g (xs.map a.eval).toArray) w := by
  have he : a.eval (.func g) = .func (.func g) #[] #[] := rfl
  simp only [execOp, resolve, Sem.run_bind, he, Deferred.ofValue, Sem.run_pure, Result.andThen_ok, invoke]
  have : (#[] ++ (xs.toArray.map a.eval) ++ #[] : Array Value) = (xs.map a.eval).toArray := by simp
  rw [this]
  exact hen _ _
end
end Go.Sx
