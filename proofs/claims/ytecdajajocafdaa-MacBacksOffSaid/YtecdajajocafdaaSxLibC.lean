/-
  What functions of the given program hand back, by walks over its code, and plain laws on that. No condition.
-/
import Derived.Test.YtecdajajocafdaaSxLibB
import Derived.MapKept
import Derived.ChangeKeysEq
import Derived.Laws.BytesString
import Derived.Laws.MakeOwn
import Derived.Laws.Strings
import Derived.Laws.Slices
import Derived.RangeFuncFrom
import Derived.Deep.LoopGhost
/-
  Sx: calls of functions that write own blocks that are lent to them (boxes, rows, maps): the callee's names stand for the caller's, a kept block keeps its name.
-/
namespace Go.Sx
open Go Go.RowKit
/-! ## Names turned by a function -/

def C.ren (g : Nat → Nat) : C → C
  | .d x => .d x
  | .ptr n o => .ptr (g n) o
  | .row n m => .row (g n) m
  | .fn f n o => .fn f (g n) o
  | .mp n => .mp (g n)
def AV.ren0 (g : Nat → Nat) : AV → AV
  | .c x => .c (x.ren g)
  | .agg cs => .agg (cs.map (C.ren g))
  | .tup vs => .tup vs
  | .ep g m => .ep g m
  | .rp n sz i o => .rp (g n) sz i o
  | .sub n sz i o => .sub (g n) sz i o
  | .clo φ => .clo φ
  | .fnc f caps => .fnc f (caps.map (C.ren g))
def AV.ren (g : Nat → Nat) : AV → AV
  | .tup vs => .tup (vs.map (AV.ren0 g))
  | x => x.ren0 g
def Blk.ren (g : Nat → Nat) : Blk → Blk
  | .box cs => .box (cs.map (C.ren g))
  | .row T sz xs => .row T sz (xs.map fun cs => cs.map (C.ren g))
  | .full T sz cp xs spare => .full T sz cp (xs.map fun cs => cs.map (C.ren g)) spare
  | .map es => .map (es.map fun p => (p.1, p.2.ren g))
  | .pin n B => .pin (g n) B
  | .dead => .dead
theorem C.ren_names (g : Nat → Nat) (c : C) : (c.ren g).names = c.names.map g := by cases c <;> rfl
theorem Cs.ren_names (g : Nat → Nat) (cs : List C) : (cs.map (C.ren g)).flatMap C.names = (cs.flatMap C.names).map g := by
  rw [List.flatMap_map, List.map_flatMap]
  exact congrArg (fun f => List.flatMap f cs) (funext fun c => C.ren_names g c)
theorem Blk.ren_names (g : Nat → Nat) (b : Blk) : (b.ren g).names = b.names.map g := by
  have h1 : ∀ xs : List (List C), (xs.map fun cs => cs.map (C.ren g)).flatMap (fun cs => cs.flatMap C.names) = (xs.flatMap fun cs => cs.flatMap C.names).map g := fun xs => by
    rw [List.flatMap_map, List.map_flatMap]
    exact congrArg (fun f => List.flatMap f xs) (funext fun cs => Cs.ren_names g cs)
  cases b with
  | box cs => exact Cs.ren_names g cs
  | row T sz xs => exact h1 xs
  | full T sz cp xs spare => exact h1 xs
  | map es =>
    show (es.map fun p => (p.1, p.2.ren g)).flatMap (fun p => p.2.names) = (es.flatMap fun p => p.2.names).map g
    rw [List.flatMap_map, List.map_flatMap]
    exact congrArg (fun f => List.flatMap f es) (funext fun p => C.ren_names g p.2)
  | pin n B => rfl
  | dead => rfl
/-- A value that hangs on no function value that is only known by what it does. -/
def AV.plainW0 : AV → Bool
  | .fnc _ _ => true
  | x => x.plain0
def AV.plainW : AV → Bool
  | .tup vs => vs.all AV.plainW0
  | x => x.plainW0
section
variable {ρ ρ' : Nat → RI} {w w' : World} {Im Im' : Nat → Prop} {g : Nat → Nat}
theorem C.ren_ok {c : C} {v : Value} (hc : Carries w w' Im Im' c.flat) (hρ : ∀ n ∈ c.names, ρ' (g n) = ρ n) (h : RepC ρ w Im c v) : RepC ρ' w' Im' (c.ren g) v := by
  cases c with
  | d x => exact Carries.d hc h
  | ptr n o => simp only [RepC, C.ren] at h ⊢; rw [hρ n (by simp [C.names])]; exact h
  | row n m => simp only [RepC, C.ren] at h ⊢; rw [hρ n (by simp [C.names])]; exact h
  | fn f n o => simp only [RepC, C.ren] at h ⊢; rw [hρ n (by simp [C.names])]; exact h
  | mp n => simp only [RepC, C.ren] at h ⊢; rw [hρ n (by simp [C.names])]; exact h
theorem Cs.ren_ok {cs : List C} {us : List Value} (hc : Carries w w' Im Im' (cs.all C.flat)) (hρ : ∀ n ∈ cs.flatMap C.names, ρ' (g n) = ρ n) (h : All2 (RepC ρ w Im) cs us) : All2 (RepC ρ' w' Im') (cs.map (C.ren g)) us :=
  all2_map h fun c hcs _ h' => C.ren_ok (hc.sub fun ha => List.all_eq_true.1 ha c hcs) (fun n hn => hρ n (List.mem_flatMap.2 ⟨c, hcs, hn⟩)) h'
theorem AV.ren_ok0 {P : Program} {N N' : Nat} {E : Env P N} {E' : Env P N'} {x : AV} {v : Value} (hp : x.plainW0 = true) (hc : Carries w w' Im Im' x.flat0) (hρ : ∀ n ∈ x.names0, ρ' (g n) = ρ n) (h : RepA0 E ρ w Im x v) : RepA0 E' ρ' w' Im' (x.ren0 g) v := by
  cases x with
  | c x => exact C.ren_ok hc hρ h
  | agg cs => obtain ⟨us, rfl, ha⟩ := h; exact ⟨us, rfl, Cs.ren_ok hc hρ ha⟩
  | tup vs => cases hp
  | ep g m =>
    obtain ⟨b, o, rfl, hb, hx⟩ := h
    rcases hc with hf | hk
    · cases hf
    · refine ⟨b, o, rfl, (hk b hb).1, fun j hj => ?_⟩
      obtain ⟨u, hu, hru⟩ := hx j hj
      exact ⟨u, (World.cell?_of_block (hk b hb).2).trans hu, RepD.keep hk hru⟩
  | rp n sz i o => simp only [RepA0, AV.ren0] at h ⊢; rw [hρ n (by simp [AV.names0])]; exact h
  | sub n sz i o => cases hp
  | clo φ => cases hp
  | fnc f caps => obtain ⟨us, rfl, ha⟩ := h; exact ⟨us, rfl, Cs.ren_ok (hc.sub fun hf => by cases hf) hρ ha⟩
theorem AV.ren_ok {P : Program} {N N' : Nat} {E : Env P N} {E' : Env P N'} {x : AV} {v : Value} (hp : x.plainW = true) (hc : Carries w w' Im Im' x.flat) (hρ : ∀ n ∈ x.names, ρ' (g n) = ρ n) (h : RepA E ρ w Im x v) : RepA E' ρ' w' Im' (x.ren g) v := by
  cases x with
  | tup vs =>
    obtain ⟨us, rfl, ha⟩ := h
    simp only [AV.plainW, List.all_eq_true] at hp
    exact ⟨us, rfl, all2_map ha fun y hy _ h' => AV.ren_ok0 (hp y hy) (hc.sub fun hf => List.all_eq_true.1 hf y hy) (fun n hn => hρ n (List.mem_flatMap.2 ⟨y, hy, hn⟩)) h'⟩
  | c x => exact AV.ren_ok0 (E := E) (E' := E') (x := .c x) hp hc hρ h
  | agg cs => exact AV.ren_ok0 (E := E) (E' := E') (x := .agg cs) hp hc hρ h
  | ep g m => exact AV.ren_ok0 (E := E) (E' := E') (x := .ep g m) hp hc hρ h
  | rp n sz i o => exact AV.ren_ok0 (E := E) (E' := E') (x := .rp n sz i o) hp hc hρ h
  | sub n sz i o => cases hp
  | clo φ => cases hp
  | fnc f caps => exact AV.ren_ok0 (E := E) (E' := E') (x := .fnc f caps) hp hc hρ h
theorem Blk.ren_ok {b : Blk} {n : Nat} (hc : Carries w w' Im Im' b.flat) (hn : ρ' (g n) = ρ n) (hh : (ρ n).isNil = false → b.live = true → w'.heap[(ρ n).blk]? = w.heap[(ρ n).blk]?) (hρ : ∀ m ∈ b.names, ρ' (g m) = ρ m) (h : BlkOK ρ w Im n b) : BlkOK ρ' w' Im' (g n) (b.ren g) := by
  cases b with
  | box cs =>
    obtain ⟨hnil, us, T, h1, h2⟩ := h
    exact ⟨by rw [hn]; exact hnil, us, T, by rw [hn, hh hnil rfl]; exact h1, Cs.ren_ok hc hρ h2⟩
  | row T sz xs =>
    unfold BlkOK at h
    unfold BlkOK Blk.ren
    simp only
    rw [hn]
    cases hnil : (ρ n).isNil with
    | true => simp only [hnil, if_true] at h ⊢; rw [h]; rfl
    | false =>
      simp only [hnil, Bool.false_eq_true, if_false] at h ⊢
      obtain ⟨us, spare, h1, h2, h3, h4, h5, h6⟩ := h
      refine ⟨us, spare, by rw [hh hnil rfl]; exact h1, ?_, ?_, h4, by simpa using h5, h6⟩
      · have hfl : (xs.map fun cs => cs.map (C.ren g)).flatten = xs.flatten.map (C.ren g) := by
          rw [← List.map_flatten]
        rw [hfl]
        refine Cs.ren_ok (hc.sub fun hf => ?_) (fun m hm => hρ m ?_) h2
        · simp only [Blk.flat, List.all_eq_true] at hf ⊢
          intro c hc'
          obtain ⟨l, hl, hcl⟩ := List.mem_flatten.1 hc'
          exact hf l hl c hcl
        · obtain ⟨c, hc', hmc⟩ := List.mem_flatMap.1 hm
          obtain ⟨l, hl, hcl⟩ := List.mem_flatten.1 hc'
          exact List.mem_flatMap.2 ⟨l, hl, List.mem_flatMap.2 ⟨c, hcl, hmc⟩⟩
      · intro x hx
        obtain ⟨y, hy, rfl⟩ := List.mem_map.1 hx
        simpa using h3 y hy
  | full T sz cp xs spare =>
    obtain ⟨hnil, hcap, us, h1, h2, h3, h4, h5, h6⟩ := h
    refine ⟨by rw [hn]; exact hnil, by rw [hn]; exact hcap, us, by rw [hn, hh hnil rfl]; exact h1, ?_, ?_, h4, by simpa using h5, h6⟩
    · have hfl : (xs.map fun cs => cs.map (C.ren g)).flatten = xs.flatten.map (C.ren g) := by
        rw [← List.map_flatten]
      rw [hfl]
      refine Cs.ren_ok (hc.sub fun hf => ?_) (fun m hm => hρ m ?_) h2
      · simp only [Blk.flat, List.all_eq_true] at hf ⊢
        intro c hc'
        obtain ⟨l, hl, hcl⟩ := List.mem_flatten.1 hc'
        exact hf l hl c hcl
      · obtain ⟨c, hc', hmc⟩ := List.mem_flatMap.1 hm
        obtain ⟨l, hl, hcl⟩ := List.mem_flatten.1 hc'
        exact List.mem_flatMap.2 ⟨l, hl, List.mem_flatMap.2 ⟨c, hcl, hmc⟩⟩
    · intro x hx
      obtain ⟨y, hy, rfl⟩ := List.mem_map.1 hx
      simpa using h3 y hy
  | map es =>
    obtain ⟨hnil, arr, clock, h1, h2⟩ := h
    exact ⟨by rw [hn]; exact hnil, arr, clock, by rw [hn, hh hnil rfl]; exact h1, all2_map h2 fun p hp e h' => ⟨h'.1, C.ren_ok (hc.sub fun hf => List.all_eq_true.1 hf p hp) (fun m hm => hρ m (List.mem_flatMap.2 ⟨p, hp, hm⟩)) h'.2⟩⟩
  | pin m B =>
    have := hρ m (by simp [Blk.names])
    show ρ' (g m) = B
    rw [this]; exact h
  | dead => trivial
end
/-! ## New blocks of a call, by such names -/

def newW (g : Nat → Nat) (bo : List (Nat × Blk)) : Upds := bo.map fun p => (.b (g p.1), some (.k (p.2.ren g)))
theorem upds_newW_s (g : Nat → Nat) (t : Nat) : ∀ (bo : List (Nat × Blk)) (σ : St), σ.upds (newW g bo) (.s t) = σ (.s t)
  | [], _ => rfl
  | p :: bo, σ => (upds_newW_s g t bo _).trans (St.upd_other _ _ (by intro e; cases e))
theorem upds_newW_old (g : Nat → Nat) (q : Nat) : ∀ (bo : List (Nat × Blk)) (σ : St), (∀ p ∈ bo, g p.1 ≠ q) → σ.upds (newW g bo) (.b q) = σ (.b q)
  | [], _, _ => rfl
  | p :: bo, σ, h => (upds_newW_old g q bo _ fun r hr => h r (by simp [hr])).trans (St.upd_other _ _ (by intro e; injection e with e; exact h p (by simp) e))
theorem upds_newW_new (g : Nat → Nat) : ∀ (bo : List (Nat × Blk)) (σ : St), (∀ p ∈ bo, ∀ q ∈ bo, g p.1 = g q.1 → p.1 = q.1) → nodupB bo = true → ∀ n b, lookL bo n = some b → σ.upds (newW g bo) (.b (g n)) = some (.k (b.ren g))
  | [], _, _, _, _, _, h => by cases h
  | p :: bo, σ, hi, hd, n, b, h => by
    simp only [nodupB, Bool.and_eq_true] at hd
    simp only [lookL] at h
    cases hb : Nat.beq p.1 n with
    | true =>
      rw [hb] at h
      have e : p.1 = n := by simpa using hb
      have e2 : p.2 = b := by simpa using h
      subst e; subst e2
      refine (upds_newW_old g (g p.1) bo _ fun r hr he => ?_).trans (St.upd_same _ _ _)
      have he := hi r (by simp [hr]) p (by simp) he
      have hn : lookL bo p.1 = none := by simpa using hd.1
      obtain ⟨r1, r2⟩ := r
      simp only at he
      subst he
      have := lookL_of_mem hr
      rw [hn] at this
      cases this
    | false =>
      rw [hb] at h
      exact upds_newW_new g bo _ (fun x hx y hy => hi x (by simp [hx]) y (by simp [hy])) hd.2 n b h
section
variable {P : Program} {N : Nat} {E : Env P N} {σ : St} {a : Act} {w w' : World} {ρ ρ' : Nat → RI} {Im Im' ImL : Nat → Prop}
theorem find_isSome {bo : List (Nat × Blk)} {g : Nat → Nat} {q : Nat} {p : Nat × Blk} (h : bo.find? (fun p => Nat.beq (g p.1) q) = some p) : p ∈ bo ∧ g p.1 = q :=
  ⟨List.mem_of_find?_eq_some h, by have := List.find?_some h; simpa using this⟩
theorem SatAt.afterW (h : SatAt E σ a w ρ Im) {S : Nat → Prop} (hS1 : ∀ n b, σ (.b n) = some (.k b) → b.live = true → (ρ n).isNil = false → ¬ S (ρ n).blk) (hS2 : ∀ b, Im b → ¬ S b) (hS3 : ∀ b, S b → E.S0 b ∨ E.w0.heap.size ≤ b) {bo : List (Nat × Blk)} {res : AV} {v : Value} {g : Nat → Nat} (hm : MemAt (⟨w, ImL, S⟩ : Env P 0) (stOf [] bo) w' ρ' Im')
    (hr : RepA (⟨w, ImL, S⟩ : Env P 0) ρ' w' Im' res v) (hfl : (∀ b, ImL b → Im b) ∨ (res.flat = true ∧ bo.all (fun p => p.2.flat) = true)) (hpl : res.plainW = true)
    (hwf : wfRes res bo = true) (hinj : ∀ p ∈ bo, ∀ q ∈ bo, g p.1 = g q.1 → p.1 = q.1)
    (hfresh : ∀ p ∈ bo, σ (.b (g p.1)) = none ∨ (σ (.b (g p.1)) = some (.k .dead) ∧ ρ' p.1 = ρ (g p.1))) :
    ∃ ρ'' Im'', SatAt E (σ.upds (newW g bo)) a w' ρ'' Im'' ∧ RepA E ρ'' w' Im'' (res.ren g) v ∧ ∀ nm, (res.ren g).mentions nm = true → σ.upds (newW g bo) (.b nm) ≠ none := by
  simp only [wfRes, Bool.and_eq_true, List.all_eq_true] at hwf
  obtain ⟨⟨⟨hsh, hresn⟩, hbon⟩, hnd⟩ := hwf
  let look : Nat → Option (Nat × Blk) := fun q => bo.find? (fun p => Nat.beq (g p.1) q)
  let ρ'' : Nat → RI := fun q => match look q with | some p => ρ' p.1 | none => ρ q
  let Im'' : Nat → Prop := fun b => Im b ∨ (Im' b ∧ w.heap.size ≤ b)
  have hkeep : Keep w S w' := hm.keep
  have hsize : w.heap.size ≤ w'.heap.size := hkeep.size
  have hblk : ∀ b, b < w.heap.size → ¬ S b → w'.heap[b]? = w.heap[b]? := fun b hb hS => hkeep.block b hb hS
  have hmemL : ∀ n, (lookL bo n).isSome = true → ∃ p ∈ bo, p.1 = n := fun n hn => by
    obtain ⟨b, hb⟩ := Option.isSome_iff_exists.1 hn
    exact ⟨_, lookL_mem hb, rfl⟩
  have hnewρ : ∀ n, (lookL bo n).isSome = true → ρ'' (g n) = ρ' n := fun n hn => by
    obtain ⟨p, hp, rfl⟩ := hmemL n hn
    have : ∃ q, look (g p.1) = some q := by
      cases hl : look (g p.1) with
      | some q => exact ⟨q, rfl⟩
      | none =>
        have := List.find?_eq_none.1 hl p hp
        simp at this
    obtain ⟨q, hq⟩ := this
    obtain ⟨h1, h2⟩ := find_isSome hq
    show (match look (g p.1) with | some p => ρ' p.1 | none => ρ (g p.1)) = _
    rw [hq]
    simp only
    rw [hinj q h1 p hp h2]
  have holdρ : ∀ n, σ (.b n) ≠ none → ρ'' n = ρ n := fun n hn => by
    show (match look n with | some p => ρ' p.1 | none => ρ n) = _
    cases hl : look n with
    | none => rfl
    | some p =>
      obtain ⟨h1, h2⟩ := find_isSome hl
      rcases hfresh p h1 with h3 | ⟨_, h3⟩
      · rw [h2] at h3; exact absurd h3 hn
      · rw [h2] at h3; exact h3
  have hσ : ∀ n, look n = none → σ.upds (newW g bo) (.b n) = σ (.b n) := fun n hn => upds_newW_old g n bo σ fun p hp e => by
    have := List.find?_eq_none.1 hn p hp
    simp [e] at this
  have hσn : ∀ n b, lookL bo n = some b → σ.upds (newW g bo) (.b (g n)) = some (.k (b.ren g)) := upds_newW_new g bo σ hinj hnd
  have hIm'' : ∀ b, Im b → Im'' b ∧ w'.heap[b]? = w.heap[b]? := fun b hb => ⟨.inl hb, hblk b (h.im b hb).2.1 (hS2 b hb)⟩
  have hcar : ∀ fl, ((res.flat = true ∧ bo.all (fun p => p.2.flat) = true) → fl = true) → Carries w' w' Im' Im'' fl := fun fl hf => by
    rcases hfl with hl | hl
    · right
      intro b hb
      refine ⟨?_, rfl⟩
      rcases (hm.im b hb).1 with h1 | h1
      · exact .inl (hl b h1)
      · exact .inr ⟨hb, h1⟩
    · exact .inl (hf hl)
  -- a live item of the new state: an old one, or a new one
  have hcase : ∀ n b, σ.upds (newW g bo) (.b n) = some (.k b) → (look n = none ∧ σ (.b n) = some (.k b)) ∨ ∃ m b', n = g m ∧ lookL bo m = some b' ∧ b = b'.ren g := fun n b hb => by
    cases hi : look n with
    | none => rw [hσ n hi] at hb; exact .inl ⟨rfl, hb⟩
    | some p =>
      obtain ⟨h1, h2⟩ := find_isSome hi
      have hb' := lookL_of_mem h1
      obtain ⟨b', hb'⟩ := Option.isSome_iff_exists.1 hb'
      have := hσn p.1 b' hb'
      rw [h2, hb] at this
      injection this with this; injection this with this
      exact .inr ⟨p.1, b', h2.symm, hb', this⟩
  have hst : ∀ m b', lookL bo m = some b' → stOf [] bo (.b m) = some (.k b') := fun m b' hb => by simp [stOf, hb]
  have hlive : ∀ b : Blk, (b.ren g).live = b.live := fun b => by cases b <;> rfl
  have hnot : ∀ n b, σ (.b n) = some (.k b) → look n = none → ∀ m b', lookL bo m = some b' → n ≠ g m := fun n b _ hl m b' hb' e => by
    have := List.find?_eq_none.1 hl _ (lookL_mem hb')
    simp [e] at this
  refine ⟨ρ'', Im'', ⟨fun t x hx => ?_, fun n b hb => ?_, fun n b hb hl hn => ?_, fun n1 n2 b1 b2 h1 h2 l1 l2 i1 i2 hne => ?_, fun b hb => ?_, fun kk it hk n hn => ?_, h.defers, h.size, ?_⟩, ?_, fun nm hn => ?_⟩
  · rw [upds_newW_s] at hx
    exact RepA.keep hIm'' (fun n hn => holdρ n (h.wf _ _ hx n hn)) (h.fr t x hx)
  · rcases hcase n b hb with ⟨_, hb0⟩ | ⟨m, b', rfl, hb', rfl⟩
    · exact BlkOK.keep hIm'' (holdρ n (by rw [hb0]; simp)) (fun hnil hl => hblk _ (h.own n b hb0 hl hnil).1 (hS1 n b hb0 hl hnil)) (fun n' hn' => holdρ n' (h.wf _ _ hb0 n' hn')) (h.bk n b hb0)
    · refine Blk.ren_ok (hcar _ fun hf => ?_) (hnewρ m (by rw [hb']; rfl)) (fun _ _ => rfl) (fun n hn => hnewρ n (hbon _ (lookL_mem hb') n hn)) (hm.bk m b' (hst m b' hb'))
      exact List.all_eq_true.1 hf.2 _ (lookL_mem hb')
  · rcases hcase n b hb with ⟨_, hb0⟩ | ⟨m, b', rfl, hb', rfl⟩
    · rw [holdρ n (by rw [hb0]; simp)] at hn ⊢
      obtain ⟨h1, h2⟩ := h.own n b hb0 hl hn
      exact ⟨by omega, h2⟩
    · rw [hnewρ m (by rw [hb']; rfl)] at hn ⊢
      rw [hlive] at hl
      obtain ⟨h1, h2⟩ := hm.own m b' (hst m b' hb') hl hn
      rcases h2 with h2 | h2
      · exact ⟨h1, hS3 _ h2⟩
      · have : w.heap.size ≤ (ρ' m).blk := h2
        exact ⟨h1, .inr (Nat.le_trans h.keep.size this)⟩
  · rcases hcase n1 b1 h1 with ⟨_, hb1⟩ | ⟨m1, c1, rfl, hc1, rfl⟩ <;> rcases hcase n2 b2 h2 with ⟨_, hb2⟩ | ⟨m2, c2, rfl, hc2, rfl⟩
    · rw [holdρ n1 (by rw [hb1]; simp)] at i1 ⊢
      rw [holdρ n2 (by rw [hb2]; simp)] at i2 ⊢
      exact h.inj n1 n2 b1 b2 hb1 hb2 l1 l2 i1 i2 hne
    · rw [holdρ n1 (by rw [hb1]; simp)] at i1 ⊢
      rw [hnewρ m2 (by rw [hc2]; rfl)] at i2 ⊢
      rw [hlive] at l2
      have e1 := (h.own n1 b1 hb1 l1 i1).1
      rcases (hm.own m2 c2 (hst m2 c2 hc2) l2 i2).2 with e2 | e2
      · exact fun e => hS1 n1 b1 hb1 l1 i1 (by rw [e]; exact e2)
      · have : w.heap.size ≤ (ρ' m2).blk := e2
        omega
    · rw [hnewρ m1 (by rw [hc1]; rfl)] at i1 ⊢
      rw [holdρ n2 (by rw [hb2]; simp)] at i2 ⊢
      rw [hlive] at l1
      have e1 := (h.own n2 b2 hb2 l2 i2).1
      rcases (hm.own m1 c1 (hst m1 c1 hc1) l1 i1).2 with e2 | e2
      · exact fun e => hS1 n2 b2 hb2 l2 i2 (by rw [← e]; exact e2)
      · have : w.heap.size ≤ (ρ' m1).blk := e2
        omega
    · rw [hnewρ m1 (by rw [hc1]; rfl)] at i1 ⊢
      rw [hnewρ m2 (by rw [hc2]; rfl)] at i2 ⊢
      rw [hlive] at l1 l2
      exact hm.inj m1 m2 c1 c2 (hst _ _ hc1) (hst _ _ hc2) l1 l2 i1 i2 (fun e => hne (by rw [e]))
  · rcases hb with hb | ⟨hb, hge⟩
    · obtain ⟨h1, h2, h3⟩ := h.im b hb
      refine ⟨h1, by omega, fun n bk hk hl hn => ?_⟩
      rcases hcase n bk hk with ⟨_, hb0⟩ | ⟨m, c, rfl, hc, rfl⟩
      · rw [holdρ n (by rw [hb0]; simp)] at hn ⊢
        exact h3 n bk hb0 hl hn
      · rw [hnewρ m (by rw [hc]; rfl)] at hn ⊢
        rw [hlive] at hl
        rcases (hm.own m c (hst m c hc) hl hn).2 with e2 | e2
        · exact fun e => hS2 b hb (by rw [← e]; exact e2)
        · have : w.heap.size ≤ (ρ' m).blk := e2
          omega
    · obtain ⟨h1, h2, h3⟩ := hm.im b hb
      refine ⟨.inr (Nat.le_trans h.keep.size hge), h2, fun n bk hk hl hn => ?_⟩
      rcases hcase n bk hk with ⟨_, hb0⟩ | ⟨m, c, rfl, hc, rfl⟩
      · rw [holdρ n (by rw [hb0]; simp)] at hn ⊢
        have := (h.own n bk hb0 hl hn).1
        omega
      · rw [hnewρ m (by rw [hc]; rfl)] at hn ⊢
        rw [hlive] at hl
        exact h3 m c (hst m c hc) hl hn
  · have hkept : ∀ q, σ (.b q) ≠ none → σ.upds (newW g bo) (.b q) ≠ none := fun q hq => by
      cases hl : look q with
      | none => rw [hσ q hl]; exact hq
      | some p =>
        obtain ⟨h1, h2⟩ := find_isSome hl
        obtain ⟨b', hb'⟩ := Option.isSome_iff_exists.1 (lookL_of_mem h1)
        rw [← h2, hσn p.1 b' hb']; simp
    cases kk with
    | s t => rw [upds_newW_s] at hk; exact hkept n (h.wf _ _ hk n hn)
    | b n' =>
      cases it with
      | v x =>
        cases hl : look n' with
        | none => rw [hσ n' hl] at hk; exact hkept n (h.wf _ _ hk n hn)
        | some p =>
          obtain ⟨h1, h2⟩ := find_isSome hl
          obtain ⟨b', hb'⟩ := Option.isSome_iff_exists.1 (lookL_of_mem h1)
          rw [← h2, hσn p.1 b' hb'] at hk
          injection hk with hk; cases hk
      | k b =>
        rcases hcase n' b hk with ⟨_, hb0⟩ | ⟨m, b', rfl, hb', rfl⟩
        · exact hkept n (h.wf _ _ hb0 n hn)
        · have := Blk.mem_names hn
          rw [Blk.ren_names] at this
          obtain ⟨q, hq, rfl⟩ := List.mem_map.1 this
          obtain ⟨c, hc⟩ := Option.isSome_iff_exists.1 (hbon _ (lookL_mem hb') q hq)
          rw [hσn q c hc]; simp
  · exact h.keep.step hkeep.os hkeep.tape hkeep.output hsize (fun b hb hE => hblk b (by have := h.keep.size; omega) (fun hS => (hS3 b hS).elim hE (fun h => by omega)))
  · exact AV.ren_ok hpl (hcar _ fun hf => hf.1) (fun n hn => hnewρ n (hresn n hn)) hr
  · have hnn : ∃ q ∈ res.names, nm = g q := by
      have hcs : ∀ cs : List C, (cs.map (C.ren g)).any (·.mentions nm) = true → ∃ q ∈ cs.flatMap C.names, nm = g q := fun cs hcs => by
        have := Cs.mem_names hcs
        rw [Cs.ren_names] at this
        obtain ⟨q, hq, e⟩ := List.mem_map.1 this
        exact ⟨q, hq, e.symm⟩
      have h0 : ∀ y : AV, y.plainW0 = true → (y.ren0 g).mentions0 nm = true → ∃ q ∈ y.names0, nm = g q := fun y hp hy => by
        cases y with
        | c x =>
          obtain ⟨q, hq, e⟩ := hcs [x] (by simpa [AV.mentions0, AV.ren0] using hy)
          exact ⟨q, by simpa [AV.names0] using hq, e⟩
        | agg cs => exact hcs cs hy
        | tup vs => cases hp
        | ep g m => cases hy
        | rp n sz i o => have : g n = nm := by simpa [AV.mentions0, AV.ren0] using hy
                         exact ⟨n, by simp [AV.names0], this.symm⟩
        | sub n sz i o => cases hp
        | clo φ => cases hp
        | fnc f caps => exact hcs caps hy
      cases res with
      | tup vs =>
        simp only [AV.ren, AV.mentions, List.any_map, List.any_eq_true] at hn
        obtain ⟨y, hy, hm⟩ := hn
        simp only [AV.plainW, List.all_eq_true] at hpl
        obtain ⟨q, hq, e⟩ := h0 y (hpl y hy) hm
        exact ⟨q, List.mem_flatMap.2 ⟨y, hy, hq⟩, e⟩
      | c x => exact h0 (.c x) hpl hn
      | agg cs => exact h0 (.agg cs) hpl hn
      | ep g m => exact h0 (.ep g m) hpl hn
      | rp n sz i o => exact h0 (.rp n sz i o) hpl hn
      | sub n sz i o => cases hpl
      | clo φ => cases hpl
      | fnc f caps => exact h0 (.fnc f caps) hpl hn
    obtain ⟨q, hq, rfl⟩ := hnn
    obtain ⟨b, hb⟩ := Option.isSome_iff_exists.1 (hresn q hq)
    rw [hσn q b hb]
    simp
end
/-! ## A call -/

/-- Ghost items that say what names stand for. -/
def pinsL (K : List Nat) (r : Nat → RI) : List (Nat × Blk) := K.map fun n => (9000 + n, .pin n (r n))
/-- As FnS; the blocks of K are where they were. -/
def FnW (P : Program) (f : FuncId) (args : List AV) (bin : List (Nat × Blk)) (K : List Nat) (res : AV) (bout : List (Nat × Blk)) : Prop :=
  ∀ r : Nat → RI, FnS P f args (pinsL K r ++ bin) res (pinsL K r ++ bout)
inductive AX (P : Program) (σ : St) (f : Nat → Nat) (L : List Nat) : AV → AV → Prop where
  | w {x y : AV} : AW σ f L x y → y.noClo = true → AX P σ f L x y
  | r {x y : AV} : AR P σ L x y → AX P σ f L x y
theorem CW.of_same {σ σ' : St} {f : Nat → Nat} {L : List Nat} (hL : ∀ nm ∈ L, σ' (.b nm) = σ (.b nm)) {x y : C} (h : CW σ f L x y) : CW σ' f L x y := by
  cases h with
  | d => exact .d
  | nil => exact .nil
  | ptr h => exact .ptr h
  | row h h' => exact .row h h'
  | fn h => exact .fn h
  | mp h => exact .mp h
  | imp h => exact .imp h
  | frz h1 h2 h3 h4 => exact .frz h1 (by rw [hL _ h1]; exact h2) h3 h4
  | cr h => exact .cr (h.of_same hL)
theorem AW.of_same {σ σ' : St} {f : Nat → Nat} {L : List Nat} (hL : ∀ nm ∈ L, σ' (.b nm) = σ (.b nm)) {x y : AV} (h : AW σ f L x y) : AW σ' f L x y := by
  cases h with
  | c h => exact .c (h.of_same hL)
  | agg h => exact .agg (h.imp fun _ _ _ h => h.of_same hL)
  | ep => exact .ep
  | rp h => exact .rp h
  | sub h => exact .sub h
  | clo => exact .clo
  | fnc => exact .fnc
  | fncC h => exact .fncC (h.imp fun _ _ _ h => h.of_same hL)
theorem BW.of_same {σ σ' : St} {f : Nat → Nat} {L : List Nat} (hL : ∀ nm ∈ L, σ' (.b nm) = σ (.b nm)) {x y : Blk} (h : BW σ f L x y) : BW σ' f L x y := by
  have hh : ∀ {xs ys : List (List C)}, All2 (All2 (CW σ f L)) xs ys → All2 (All2 (CW σ' f L)) xs ys := fun h => h.imp fun _ _ _ h => h.imp fun _ _ _ h => h.of_same hL
  cases h with
  | box h => exact .box (h.imp fun _ _ _ h => h.of_same hL)
  | row h => exact .row (hh h)
  | full h => exact .full (hh h)
  | shut n h => exact .shut n (hh h)
  | trunc n h => exact .trunc n (hh h)
  | map h => exact .map (h.imp fun _ _ _ h => ⟨h.1, h.2.of_same hL⟩)
  | pin h => exact .pin h
theorem AX.of_same {P : Program} {σ σ' : St} {f : Nat → Nat} {L : List Nat} (hL : ∀ nm ∈ L, σ' (.b nm) = σ (.b nm)) {x y : AV} (h : AX P σ f L x y) : AX P σ' f L x y := by
  cases h with
  | w h h' => exact .w (h.of_same hL) h'
  | r h => exact .r (h.of_same hL)
theorem hasBW_mem {σ : St} {f : Nat → Nat} {L : List Nat} : ∀ {l : List (Nat × Blk)}, hasBW σ f L l → ∀ p ∈ l, ∃ y, σ (.b (f p.1)) = some (.k y) ∧ BW σ f L y p.2
  | q :: l, h, p, hp => by
    rcases List.mem_cons.1 hp with rfl | hp
    · exact h.1
    · exact hasBW_mem h.2 p hp
theorem hasBW_of_same {σ σ' : St} {f : Nat → Nat} {L : List Nat} (hL : ∀ nm ∈ L, σ' (.b nm) = σ (.b nm)) : ∀ {l : List (Nat × Blk)}, hasBW σ f L l → (∀ p ∈ l, σ' (.b (f p.1)) = σ (.b (f p.1))) → hasBW σ' f L l
  | [], _, _ => trivial
  | p :: l, h, hk => ⟨by obtain ⟨y, h1, h2⟩ := h.1; exact ⟨y, by rw [hk p (by simp)]; exact h1, h2.of_same hL⟩, hasBW_of_same hL h.2 fun q hq => hk q (by simp [hq])⟩
theorem lookL_app {α : Type} : ∀ (l m : List (Nat × α)) (n : Nat), lookL (l ++ m) n = (lookL l n).or (lookL m n)
  | [], m, n => by simp [lookL]
  | (k, x) :: l, m, n => by
    simp only [List.cons_append, lookL]
    cases Nat.beq k n with
    | true => rfl
    | false => exact lookL_app l m n
theorem lookL_pins {K : List Nat} {r : Nat → RI} {q : Nat} {b : Blk} (h : lookL (pinsL K r) q = some b) : ∃ n ∈ K, q = 9000 + n ∧ b = .pin n (r n) := by
  have := lookL_mem h
  simp only [pinsL, List.mem_map] at this
  obtain ⟨n, hn, e⟩ := this
  injection e with e1 e2
  exact ⟨n, hn, e1.symm, e2.symm⟩
theorem SatAt.kills {P : Program} {N : Nat} {E : Env P N} {a : Act} {w : World} {ρ : Nat → RI} {Im : Nat → Prop} : ∀ (l : List Nat) {σ : St}, SatAt E σ a w ρ Im → SatAt E (σ.upds (l.map fun n => (Key.b n, some (Item.k .dead)))) a w ρ Im
  | [], _, h => h
  | n :: l, _, h => SatAt.kills l (h.kill n)
theorem kills_in : ∀ (l : List Nat) (σ : St) (n : Nat), n ∈ l → σ.upds (l.map fun n => (Key.b n, some (Item.k .dead))) (.b n) = some (.k .dead)
  | m :: l, σ, n, h => by
    by_cases hl : n ∈ l
    · exact kills_in l _ n hl
    · have : n = m := by rcases List.mem_cons.1 h with h | h; exact h; exact absurd h hl
      subst this
      have hk : ∀ (l : List Nat) (σ : St), n ∉ l → σ.upds (l.map fun n => (Key.b n, some (Item.k .dead))) (.b n) = σ (.b n) := by
        intro l
        induction l with
        | nil => intro σ _; rfl
        | cons m l ih => intro σ hn; exact (ih _ fun h => hn (by simp [h])).trans (St.upd_other _ _ (by intro e; injection e with e; exact hn (by simp [e])))
      exact (hk l _ hl).trans (St.upd_same _ _ _)
theorem kills_out : ∀ (l : List Nat) (σ : St) (n : Nat), n ∉ l → σ.upds (l.map fun n => (Key.b n, some (Item.k .dead))) (.b n) = σ (.b n)
  | [], _, _, _ => rfl
  | m :: l, σ, n, h => (kills_out l _ n fun hn => h (by simp [hn])).trans (St.upd_other _ _ (by intro e; injection e with e; exact h (by simp [e])))
/-- Own rows are only read from now on. -/
theorem SatAt.freeze {P : Program} {N : Nat} {E : Env P N} {σ : St} {a : Act} {w : World} {ρ : Nat → RI} {Im : Nat → Prop} (hs : SatAt E σ a w ρ Im) (hS : ∀ b, ¬ E.S0 b) (L : List Nat) :
    SatAt E (σ.upds (L.map fun n => (Key.b n, some (Item.k .dead)))) a w ρ (lentIm σ ρ Im L) := by
  have h := hs.kills L
  have hsub : ∀ b, Im b → lentIm σ ρ Im L b ∧ w.heap[b]? = w.heap[b]? := fun b hb => ⟨.inl hb, rfl⟩
  refine ⟨fun t x hx => RepA.keep hsub (fun _ _ => rfl) (h.fr t x hx), fun n b hb => BlkOK.keep hsub rfl (fun _ _ => rfl) (fun _ _ => rfl) (h.bk n b hb), h.own, h.inj, fun b hb => ?_, h.wf, h.defers, h.size, h.keep⟩
  refine ⟨?_, lentIm_lt hs b hb, fun n bk hn hl hnil => ?_⟩
  · rcases hb with hb | ⟨nm, _, bk, h1, h2, h3, rfl⟩
    · exact (hs.im b hb).1
    · rcases (hs.own nm bk h1 h2 h3).2 with h4 | h4
      · exact absurd h4 (hS _)
      · exact .inr h4
  · by_cases hin : n ∈ L
    · rw [kills_in _ _ _ hin] at hn
      injection hn with hn; injection hn with hn; subst hn
      cases hl
    · rw [kills_out _ _ _ hin] at hn
      rcases hb with hb | ⟨nm, hnm, bk', h1, h2, h3, rfl⟩
      · exact (hs.im b hb).2.2 n bk hn hl hnil
      · exact hs.inj n nm bk bk' hn h1 hl h2 hnil h3 (fun e => hin (by rw [e]; exact hnm))
/-- The callee's names behind the call: the kept ones have their old names, the others are new. -/
def memN : List Nat → Nat → Bool
  | [], _ => false
  | m :: l, n => (m == n) || memN l n
theorem memN_iff : ∀ {l : List Nat} {n : Nat}, memN l n = true ↔ n ∈ l
  | [], n => by simp [memN]
  | m :: l, n => by
    rw [memN, Bool.or_eq_true, memN_iff (l := l), List.mem_cons]
    constructor
    · rintro (h | h)
      · exact .inl (by have := of_decide_eq_true (show decide (m = n) = true from by simpa using h); exact this.symm)
      · exact .inr h
    · rintro (h | h)
      · exact .inl (by subst h; simp)
      · exact .inr h
def nmL : List (Nat × Nat) → Nat → Nat
  | [], n => n
  | (a, b) :: l, n => bif a == n then b else nmL l n
def gW (f : Nat → Nat) (K : List Nat) (d n : Nat) : Nat := bif memN K n then f n else 1000 * d + n
def injW (g : Nat → Nat) : List (Nat × Blk) → Bool
  | [] => true
  | p :: l => l.all (fun q => Nat.beq p.1 q.1 || !Nat.beq (g p.1) (g q.1)) && injW g l
theorem injW_ok {g : Nat → Nat} : ∀ {l : List (Nat × Blk)}, injW g l = true → ∀ p ∈ l, ∀ q ∈ l, g p.1 = g q.1 → p.1 = q.1
  | p :: l, h, x, hx, y, hy, e => by
    simp only [injW, Bool.and_eq_true, List.all_eq_true, Bool.or_eq_true, Bool.not_eq_true'] at h
    rcases List.mem_cons.1 hx with e1 | h1 <;> rcases List.mem_cons.1 hy with e2 | h2
    · rw [e1, e2]
    · subst e1
      rcases h.1 y h2 with h3 | h3
      · simpa using h3
      · rw [e] at h3; simp at h3
    · subst e2
      rcases h.1 x h1 with h3 | h3
      · have : y.1 = x.1 := by simpa using h3
        exact this.symm
      · rw [e] at h3; simp at h3
    · exact injW_ok h.2 x h1 y h2 e
section
variable {P : Program} {N : Nat} {E : Env P N} {ops : Array Oper} {dr : Bool} {rest : List Oper} {σ : St} {tr : Trace} {K : St → Prop}
  {d : Nat} {ty : TypeId} {pos : String} {af : Array Edge} {gd : Option (Nat × Bool)} {gR : Upds}
theorem AX.ok {a : Act} {w : World} {ρ : Nat → RI} {Im : Nat → Prop} {f : Nat → Nat} {L : List Nat} (hs : SatAt E σ a w ρ Im) {S : Nat → Prop} (hS1 : ∀ b, lentIm σ ρ Im L b → ¬ S b) (hS3 : ∀ b, S b → E.S0 b ∨ E.w0.heap.size ≤ b) {x y : AV} {v : Value} (h : AX P σ f L x y) (hr : RepA E ρ w Im x v) :
    RepA (⟨w, lentIm σ ρ Im L, S⟩ : Env P 0) (fun n => ρ (f n)) w (lentIm σ ρ Im L) y v := by
  cases h with
  | w h h' => exact RepA.envP h' (h.ok hs hr)
  | r h => exact AR.okS hs hS1 hS3 h hr
/-- A call of a function (or of a function value that is known) that is lent own blocks, and may write them. 'f': which of the caller's blocks the callee's names stand for; L: rows that it may read; KK: blocks that are where they were. -/
theorem vr_callW {fid : FuncId} {y : Operand} {caps : List C} {xs : List Operand} {ats : Array TypeId} {as cargs : List AV} {res res' : AV} {bin bo : List (Nat × Blk)} {U : Upds} (f : Nat → Nat) (L KK : List Nat) (hF : FnW P fid cargs bin KK res bo) (hg : GOK N ops σ gd gR)
    (hy : ev σ y = some (.fnc fid caps)) (hxs : evL σ xs = some as) (hA : All2 (AX P σ f L) (as ++ caps.map AV.c) cargs) (hB : hasBW σ f L bin) (hi : injOK f L bin = true) (hlive : (bin.all fun p => p.2.live && Nat.blt p.1 9000) = true)
    (hK : (KK.all fun n => (lookL bin n).isSome) = true) (hfl : (L.isEmpty || (res.flat && bo.all fun p => p.2.flat)) = true) (hpl : res.plainW = true) (hwf : wfRes res bo = true) (hbo : (bo.all fun p => Nat.blt p.1 9000) = true)
    (hgi : injW (gW f KK d) bo = true) (hfresh : (bo.all fun p => memN KK p.1 || (σ (.b (1000 * d + p.1))).isNone) = true) (hU : newW (gW f KK d) bo = U) (hres : res.ren (gW f KK d) = res') (hN : Nat.blt d N = true)
    (k : VR E ops dr rest (((σ.upds ((bin.map fun p => f p.1).map fun n => (Key.b n, some (Item.k .dead)))).upds U).set d res')
      ((gR.map (·.1) ++ (opK y ++ (opLK xs ++ ((bin.map fun p => Key.b (f p.1)) ++ (L.map Key.b ++ bo.map fun p => Key.b (gW f KK d p.1))))), (bin.map fun p => Key.b (f p.1)) ++ (U.map (·.1) ++ [.s d])) :: tr) K) :
    VR E ops dr (⟨some d, .call ⟨.value y, xs.toArray, ats⟩, ty, pos, af, gd⟩ :: rest) σ tr K := by
  subst hU; subst hres
  have hupds : ∀ (U V : Upds) (s : St), s.upds (U ++ V) = (s.upds U).upds V := by
    intro U V
    induction U with
    | nil => intro s; rfl
    | cons p U ih => intro s; exact ih _
  have hkeys : ∀ l : List (Nat × Blk), ((l.map fun p => f p.1).map fun n => (Key.b n, some (Item.k .dead))).map (·.1) = l.map fun p => Key.b (f p.1) := fun l => by simp [Function.comp_def]
  refine vr_do (R := opR y (.fnc fid caps) ++ (opLR xs as ++ ((bin.map fun p => (Key.b (f p.1), σ (.b (f p.1)))) ++ (L.map (fun nm => (Key.b nm, σ (.b nm))) ++ bo.map fun p => (Key.b (gW f KK d p.1), σ (.b (gW f KK d p.1)))))))
    (U := ((bin.map fun p => f p.1).map fun n => (Key.b n, some (Item.k .dead))) ++ (newW (gW f KK d) bo ++ [(.s d, some (.v (res.ren (gW f KK d))))]))
    (kr := opK y ++ (opLK xs ++ ((bin.map fun p => Key.b (f p.1)) ++ (L.map Key.b ++ bo.map fun p => Key.b (gW f KK d p.1))))) (ku := (bin.map fun p => Key.b (f p.1)) ++ ((newW (gW f KK d) bo).map (·.1) ++ [.s d])) hg (fun σ' a w ρ Im hs hR Kk Q hKk => ?_)
    (reads_append (opR_ok hy) (reads_append (opLR_ok hxs) (reads_append (fun p hp => by obtain ⟨q, _, rfl⟩ := List.mem_map.1 hp; rfl) (reads_append (fun p hp => by obtain ⟨nm, _, rfl⟩ := List.mem_map.1 hp; rfl) (fun p hp => by obtain ⟨nm, _, rfl⟩ := List.mem_map.1 hp; rfl)))))
    (by simp [opR_keys, opLR_keys hxs, List.map_append, Function.comp_def]) (by rw [List.map_append, hkeys]; simp) (by rw [hupds, hupds]; exact k)
  obtain ⟨us, hfv, hcaps⟩ := (ev_ok hs (ev_of hy fun p hp => hR p (List.mem_append_left _ hp))).1
  have h1 := evL_of hxs fun p hp => hR p (List.mem_append_right _ (List.mem_append_left _ hp))
  have hBs : ∀ p ∈ bin, σ' (.b (f p.1)) = σ (.b (f p.1)) := fun p hp => hR (.b (f p.1), σ (.b (f p.1))) (List.mem_append_right _ (List.mem_append_right _ (List.mem_append_left _ (List.mem_map.2 ⟨p, hp, rfl⟩))))
  have hL : ∀ nm ∈ L, σ' (.b nm) = σ (.b nm) := fun nm hnm => hR (.b nm, σ (.b nm)) (List.mem_append_right _ (List.mem_append_right _ (List.mem_append_right _ (List.mem_append_left _ (List.mem_map.2 ⟨nm, hnm, rfl⟩)))))
  have hfr : ∀ p ∈ bo, σ' (.b (gW f KK d p.1)) = σ (.b (gW f KK d p.1)) := fun p hp => hR (.b (gW f KK d p.1), σ (.b (gW f KK d p.1))) (List.mem_append_right _ (List.mem_append_right _ (List.mem_append_right _ (List.mem_append_right _ (List.mem_map.2 ⟨p, hp, rfl⟩)))))
  have hB' := hasBW_of_same hL hB hBs
  have hlv : ∀ p ∈ bin, p.2.live = true ∧ p.1 < 9000 := fun p hp => by
    have := List.all_eq_true.1 hlive p hp
    simp only [Bool.and_eq_true] at this
    exact ⟨this.1, by simpa using this.2⟩
  let S : Nat → Prop := fun b => ∃ p ∈ bin, (ρ (f p.1)).isNil = false ∧ b = (ρ (f p.1)).blk
  have hlook : ∀ p ∈ bin, ∃ x, lookL bin p.1 = some x := fun p hp => Option.isSome_iff_exists.1 (lookL_of_mem hp)
  have hS1 : ∀ b, lentIm σ' ρ Im L b → ¬ S b := fun b hb1 hS => by
    obtain ⟨p, hp, hnil, rfl⟩ := hS
    obtain ⟨z, hz, hw⟩ := hasBW_mem hB' p hp
    have hzl := hw.live (hlv p hp).1
    rcases hb1 with hb1 | ⟨q, hq, bk, g1, g2, g3, g4⟩
    · exact (hs.im _ hb1).2.2 _ z hz hzl hnil rfl
    · obtain ⟨x, hx⟩ := hlook p hp
      exact hs.inj _ _ z bk hz g1 hzl g2 hnil g3 (injOK_L hi hx q hq) g4.symm
  have hS3 : ∀ b, S b → E.S0 b ∨ E.w0.heap.size ≤ b := fun b hS => by
    obtain ⟨p, hp, hnil, rfl⟩ := hS
    obtain ⟨z, hz, hw⟩ := hasBW_mem hB' p hp
    exact (hs.own _ z hz (hw.live (hlv p hp).1) hnil).2
  have hargs := (evL_ok hs h1).append (all2_map (f := AV.c) hcaps fun x _ v h => h)
  have hcargs : All2 (RepA (⟨w, lentIm σ' ρ Im L, S⟩ : Env P 0) (fun n => ρ (f n)) w (lentIm σ' ρ Im L)) cargs (xs.map a.eval ++ us) := by
    have hA' : All2 (AX P σ' f L) (as ++ caps.map AV.c) cargs := hA.imp fun _ _ _ h => h.of_same hL
    exact all2_comp hA' hargs fun _ _ _ h1 h2 => h1.ok hs hS1 hS3 h2
  have hsb : ∀ n x, lookL bin n = some x → ∃ z, σ' (.b (f n)) = some (.k z) ∧ BW σ' f L z x := fun n x hx => hasBW_look hB' hx
  have hlvL : ∀ n x, lookL bin n = some x → x.live = true := fun n x hx => (hlv _ (lookL_mem hx)).1
  have hmem : MemAt (⟨w, lentIm σ' ρ Im L, S⟩ : Env P 0) (stOf [] (pinsL KK (fun n => ρ (f n)) ++ bin)) w (fun n => ρ (f n)) (lentIm σ' ρ Im L) := by
    have hone : ∀ q b, stOf [] (pinsL KK (fun n => ρ (f n)) ++ bin) (.b q) = some (.k b) → (∃ n, b = .pin n (ρ (f n))) ∨ lookL bin q = some b := fun q b hq => by
      simp only [stOf, lookL_app] at hq
      cases h0 : lookL (pinsL KK (fun n => ρ (f n))) q with
      | some b' =>
        rw [h0] at hq
        simp only [Option.or, Option.map_some, Option.some.injEq] at hq
        injection hq with hq
        subst hq
        obtain ⟨n, _, _, rfl⟩ := lookL_pins h0
        exact .inl ⟨n, rfl⟩
      | none =>
        rw [h0] at hq
        simp only [Option.or, Option.map_eq_some_iff] at hq
        obtain ⟨x, hx, e⟩ := hq
        injection e with e; subst e
        exact .inr hx
    have hl : ∀ q b, stOf [] (pinsL KK (fun n => ρ (f n)) ++ bin) (.b q) = some (.k b) → b.live = true → lookL bin q = some b := fun q b hq hb => by
      rcases hone q b hq with ⟨n, rfl⟩ | h
      · cases hb
      · exact h
    refine ⟨fun q b hq => ?_, fun q b hq hl1 hn => ?_, fun n1 n2 b1 b2 q1 q2 l1 l2 i1 i2 hne => ?_, fun b hb1 => ⟨.inl hb1, lentIm_lt hs b hb1, fun q bk hq hl1 hn e => ?_⟩, Keep.refl _ _⟩
    · rcases hone q b hq with ⟨n, rfl⟩ | h
      · rfl
      · obtain ⟨z, hz, hw⟩ := hsb q b h
        exact hw.ok hs (hs.bk _ z hz)
    · have hx := hl q b hq hl1
      obtain ⟨z, hz, hw⟩ := hsb q b hx
      exact ⟨(hs.own _ z hz (hw.live hl1) hn).1, .inl ⟨_, lookL_mem hx, hn, rfl⟩⟩
    · have hx1 := hl _ _ q1 l1
      have hx2 := hl _ _ q2 l2
      obtain ⟨z1, hz1, hw1⟩ := hsb _ _ hx1
      obtain ⟨z2, hz2, hw2⟩ := hsb _ _ hx2
      exact hs.inj _ _ z1 z2 hz1 hz2 (hw1.live l1) (hw2.live l2) i1 i2 (injOK_ne hi hx1 hx2 hne)
    · have hx := hl _ _ hq hl1
      exact hS1 b hb1 ⟨_, lookL_mem hx, hn, e.symm⟩
  obtain ⟨hen, hcall⟩ := hF fun n => ρ (f n)
  have hc := hcall w (fun n => ρ (f n)) (lentIm σ' ρ Im L) S (xs.map a.eval ++ us) hcargs hmem
  unfold Oper.wp
  have hrun : (execOp a.eval ⟨some d, .call ⟨.value y, xs.toArray, ats⟩, ty, pos, af, gd⟩).run P w = .ok (.enter fid (xs.map a.eval ++ us).toArray) w := by
    have he : a.eval y = .func (.func fid) #[] us.toArray := hfv
    simp only [execOp, resolve, Sem.run_bind, he, Deferred.ofValue, Sem.run_pure, Result.andThen_ok, invoke]
    have : (#[] ++ (xs.toArray.map a.eval) ++ us.toArray : Array Value) = (xs.map a.eval ++ us).toArray := by simp
    rw [this]
    exact hen _ _
  rw [hrun, Oper.upon_enter]
  refine hc.mono fun e w' ⟨v, ρ', Im', he, hm, hresv, _⟩ => ?_
  subst he
  have hfl' : (∀ b, lentIm σ' ρ Im L b → Im b) ∨ (res.flat = true ∧ bo.all (fun p => p.2.flat) = true) := by
    simp only [Bool.or_eq_true, Bool.and_eq_true] at hfl
    rcases hfl with hl | hl
    · left
      intro b hb
      have : L = [] := by simpa using hl
      subst this
      rcases hb with hb | ⟨nm, hnm, _⟩
      · exact hb
      · cases hnm
    · exact .inr hl
  have hbo' : ∀ n x, lookL bo n = some x → stOf [] (pinsL KK (fun n => ρ (f n)) ++ bo) (.b n) = some (.k x) := fun n x hx => by
    have hn : n < 9000 := by
      have := List.all_eq_true.1 hbo _ (lookL_mem hx)
      simpa using this
    simp only [stOf, lookL_app]
    cases h0 : lookL (pinsL KK (fun n => ρ (f n))) n with
    | some b' => obtain ⟨m, _, e, _⟩ := lookL_pins h0; omega
    | none => simp [hx]
  have hm' : MemAt (⟨w, lentIm σ' ρ Im L, S⟩ : Env P 0) (stOf [] bo) w' ρ' Im' := by
    have hst : ∀ n x, stOf [] bo (.b n) = some (.k x) → stOf [] (pinsL KK (fun n => ρ (f n)) ++ bo) (.b n) = some (.k x) := fun n x hx => by
      simp only [stOf, Option.map_eq_some_iff] at hx
      obtain ⟨y, hy, e⟩ := hx
      injection e with e; subst e
      exact hbo' n y hy
    exact ⟨fun n b hb => hm.bk n b (hst n b hb), fun n b hb => hm.own n b (hst n b hb), fun n1 n2 b1 b2 h1 h2 => hm.inj n1 n2 b1 b2 (hst _ _ h1) (hst _ _ h2), fun b hb => ⟨(hm.im b hb).1, (hm.im b hb).2.1, fun n bk hk => (hm.im b hb).2.2 n bk (hst _ _ hk)⟩, hm.keep⟩
  have hpin : ∀ n, n ∈ KK → ρ' n = ρ (f n) := fun n hn => by
    have hlk : ∀ l : List Nat, n ∈ l → lookL (pinsL l fun n => ρ (f n)) (9000 + n) = some (.pin n (ρ (f n))) := by
      intro l
      induction l with
      | nil => intro h; cases h
      | cons m l ih =>
        intro h
        show (bif Nat.beq (9000 + m) (9000 + n) then _ else _) = _
        by_cases e : m = n
        · subst e; simp
        · have : Nat.beq (9000 + m) (9000 + n) = false := by
            cases hb : Nat.beq (9000 + m) (9000 + n) with
            | false => rfl
            | true => have := Nat.eq_of_beq_eq_true hb; omega
          rw [this]
          exact ih (by rcases List.mem_cons.1 h with h | h; exact absurd h.symm e; exact h)
    have := hm.bk (9000 + n) (.pin n (ρ (f n))) (by simp only [stOf, lookL_app, hlk KK hn]; rfl)
    exact this
  have hs1 := hs.kills (bin.map fun p => f p.1)
  have hdead : ∀ n, n ∈ KK → σ'.upds ((bin.map fun p => f p.1).map fun n => (Key.b n, some (Item.k .dead))) (.b (f n)) = some (.k .dead) := fun n hn => by
    refine kills_in _ _ _ ?_
    have := List.all_eq_true.1 hK n hn
    obtain ⟨x, hx⟩ := Option.isSome_iff_exists.1 this
    exact List.mem_map.2 ⟨_, lookL_mem hx, rfl⟩
  obtain ⟨ρ'', Im'', hs'', hr'', hm''⟩ := hs1.afterW (g := gW f KK d) (S := S) (fun n b hn hl hnil hS => by
      obtain ⟨p, hp, hpn, e⟩ := hS
      by_cases hin : n ∈ bin.map fun p => f p.1
      · rw [kills_in _ _ _ hin] at hn
        injection hn with hn; injection hn with hn; subst hn
        cases hl
      · rw [kills_out _ _ _ hin] at hn
        obtain ⟨z, hz, hw⟩ := hasBW_mem hB' p hp
        exact hs.inj n _ b z hn hz hl (hw.live (hlv p hp).1) hnil hpn (fun e => hin (List.mem_map.2 ⟨p, hp, e.symm⟩)) e) (fun b hb1 hS => hS1 b (.inl hb1) hS) hS3 hm' hresv hfl' hpl hwf (injW_ok hgi) (fun p hp => by
      by_cases hk : memN KK p.1 = true
      · have hkm : p.1 ∈ KK := memN_iff.1 hk
        have e : gW f KK d p.1 = f p.1 := by simp [gW, hk]
        rw [e]
        exact .inr ⟨hdead _ hkm, hpin _ hkm⟩
      · have hkm : memN KK p.1 = false := by simpa using hk
        have e : gW f KK d p.1 = 1000 * d + p.1 := by simp [gW, hkm]
        have hn : σ' (.b (gW f KK d p.1)) = none := by
          rw [hfr p hp, e]
          have := List.all_eq_true.1 hfresh p hp
          simpa [hkm] using this
        left
        by_cases hin : gW f KK d p.1 ∈ bin.map fun p => f p.1
        · obtain ⟨q, hq, e⟩ := List.mem_map.1 hin
          obtain ⟨z, hz, _⟩ := hasBW_mem hB' q hq
          rw [← e] at hn
          rw [hz] at hn; cases hn
        · rw [kills_out _ _ _ hin]; exact hn)
  refine hKk _ _ ⟨ρ'', Im'', ?_⟩
  rw [hupds, hupds]
  exact hs''.put (by simpa using hN) hr'' hm''
/-- As 'vr_callW'; the rows of L are only read from now on (so the results may hang on them). -/
theorem vr_callZ {fid : FuncId} {y : Operand} {caps : List C} {xs : List Operand} {ats : Array TypeId} {as cargs : List AV} {res res' : AV} {bin bo : List (Nat × Blk)} {U : Upds} (f : Nat → Nat) (L KK : List Nat) (hF : FnW P fid cargs bin KK res bo) (hg : GOK N ops σ gd gR)
    (hy : ev σ y = some (.fnc fid caps)) (hxs : evL σ xs = some as) (hA : All2 (AX P σ f L) (as ++ caps.map AV.c) cargs) (hB : hasBW σ f L bin) (hi : injOK f L bin = true) (hlive : (bin.all fun p => p.2.live && Nat.blt p.1 9000) = true)
    (hK : (KK.all fun n => (lookL bin n).isSome) = true) (hS0 : ∀ b, ¬ E.S0 b) (hpl : res.plainW = true) (hwf : wfRes res bo = true) (hbo : (bo.all fun p => Nat.blt p.1 9000) = true)
    (hLs : (L.all fun n => (σ (.b n)).isSome) = true) (hgi : injW (gW f KK d) bo = true) (hfresh : (bo.all fun p => memN KK p.1 || (σ (.b (1000 * d + p.1))).isNone) = true) (hU : newW (gW f KK d) bo = U) (hres : res.ren (gW f KK d) = res') (hN : Nat.blt d N = true)
    (k : VR E ops dr rest (((σ.upds ((L ++ bin.map fun p => f p.1).map fun n => (Key.b n, some (Item.k .dead)))).upds U).set d res')
      ((gR.map (·.1) ++ (opK y ++ (opLK xs ++ ((bin.map fun p => Key.b (f p.1)) ++ (L.map Key.b ++ bo.map fun p => Key.b (gW f KK d p.1))))), (L ++ bin.map fun p => f p.1).map Key.b ++ (U.map (·.1) ++ [.s d])) :: tr) K) :
    VR E ops dr (⟨some d, .call ⟨.value y, xs.toArray, ats⟩, ty, pos, af, gd⟩ :: rest) σ tr K := by
  subst hU; subst hres
  have hupds : ∀ (U V : Upds) (s : St), s.upds (U ++ V) = (s.upds U).upds V := by
    intro U V
    induction U with
    | nil => intro s; rfl
    | cons p U ih => intro s; exact ih _
  have hkeys : ∀ l : List Nat, (l.map fun n => (Key.b n, some (Item.k .dead))).map (·.1) = l.map Key.b := fun l => by simp [Function.comp_def]
  refine vr_do (R := opR y (.fnc fid caps) ++ (opLR xs as ++ ((bin.map fun p => (Key.b (f p.1), σ (.b (f p.1)))) ++ (L.map (fun nm => (Key.b nm, σ (.b nm))) ++ bo.map fun p => (Key.b (gW f KK d p.1), σ (.b (gW f KK d p.1)))))))
    (U := ((L ++ bin.map fun p => f p.1).map fun n => (Key.b n, some (Item.k .dead))) ++ (newW (gW f KK d) bo ++ [(.s d, some (.v (res.ren (gW f KK d))))]))
    (kr := opK y ++ (opLK xs ++ ((bin.map fun p => Key.b (f p.1)) ++ (L.map Key.b ++ bo.map fun p => Key.b (gW f KK d p.1))))) (ku := (L ++ bin.map fun p => f p.1).map Key.b ++ ((newW (gW f KK d) bo).map (·.1) ++ [.s d])) hg (fun σ' a w ρ Im hs hR Kk Q hKk => ?_)
    (reads_append (opR_ok hy) (reads_append (opLR_ok hxs) (reads_append (fun p hp => by obtain ⟨q, _, rfl⟩ := List.mem_map.1 hp; rfl) (reads_append (fun p hp => by obtain ⟨nm, _, rfl⟩ := List.mem_map.1 hp; rfl) (fun p hp => by obtain ⟨nm, _, rfl⟩ := List.mem_map.1 hp; rfl)))))
    (by simp [opR_keys, opLR_keys hxs, List.map_append, Function.comp_def]) (by rw [List.map_append, hkeys]; simp) (by rw [hupds, hupds]; exact k)
  obtain ⟨us, hfv, hcaps⟩ := (ev_ok hs (ev_of hy fun p hp => hR p (List.mem_append_left _ hp))).1
  have h1 := evL_of hxs fun p hp => hR p (List.mem_append_right _ (List.mem_append_left _ hp))
  have hBs : ∀ p ∈ bin, σ' (.b (f p.1)) = σ (.b (f p.1)) := fun p hp => hR (.b (f p.1), σ (.b (f p.1))) (List.mem_append_right _ (List.mem_append_right _ (List.mem_append_left _ (List.mem_map.2 ⟨p, hp, rfl⟩))))
  have hL : ∀ nm ∈ L, σ' (.b nm) = σ (.b nm) := fun nm hnm => hR (.b nm, σ (.b nm)) (List.mem_append_right _ (List.mem_append_right _ (List.mem_append_right _ (List.mem_append_left _ (List.mem_map.2 ⟨nm, hnm, rfl⟩)))))
  have hfr : ∀ p ∈ bo, σ' (.b (gW f KK d p.1)) = σ (.b (gW f KK d p.1)) := fun p hp => hR (.b (gW f KK d p.1), σ (.b (gW f KK d p.1))) (List.mem_append_right _ (List.mem_append_right _ (List.mem_append_right _ (List.mem_append_right _ (List.mem_map.2 ⟨p, hp, rfl⟩)))))
  have hB' := hasBW_of_same hL hB hBs
  have hLn : ∀ n ∈ L, σ' (.b n) ≠ none := fun n hn => by
    rw [hL n hn]
    have := List.all_eq_true.1 hLs n hn
    exact fun e => by rw [e] at this; cases this
  have hlv : ∀ p ∈ bin, p.2.live = true ∧ p.1 < 9000 := fun p hp => by
    have := List.all_eq_true.1 hlive p hp
    simp only [Bool.and_eq_true] at this
    exact ⟨this.1, by simpa using this.2⟩
  let S : Nat → Prop := fun b => ∃ p ∈ bin, (ρ (f p.1)).isNil = false ∧ b = (ρ (f p.1)).blk
  have hlook : ∀ p ∈ bin, ∃ x, lookL bin p.1 = some x := fun p hp => Option.isSome_iff_exists.1 (lookL_of_mem hp)
  have hS1 : ∀ b, lentIm σ' ρ Im L b → ¬ S b := fun b hb1 hS => by
    obtain ⟨p, hp, hnil, rfl⟩ := hS
    obtain ⟨z, hz, hw⟩ := hasBW_mem hB' p hp
    have hzl := hw.live (hlv p hp).1
    rcases hb1 with hb1 | ⟨q, hq, bk, g1, g2, g3, g4⟩
    · exact (hs.im _ hb1).2.2 _ z hz hzl hnil rfl
    · obtain ⟨x, hx⟩ := hlook p hp
      exact hs.inj _ _ z bk hz g1 hzl g2 hnil g3 (injOK_L hi hx q hq) g4.symm
  have hS3 : ∀ b, S b → E.S0 b ∨ E.w0.heap.size ≤ b := fun b hS => by
    obtain ⟨p, hp, hnil, rfl⟩ := hS
    obtain ⟨z, hz, hw⟩ := hasBW_mem hB' p hp
    exact (hs.own _ z hz (hw.live (hlv p hp).1) hnil).2
  have hargs := (evL_ok hs h1).append (all2_map (f := AV.c) hcaps fun x _ v h => h)
  have hcargs : All2 (RepA (⟨w, lentIm σ' ρ Im L, S⟩ : Env P 0) (fun n => ρ (f n)) w (lentIm σ' ρ Im L)) cargs (xs.map a.eval ++ us) := by
    have hA' : All2 (AX P σ' f L) (as ++ caps.map AV.c) cargs := hA.imp fun _ _ _ h => h.of_same hL
    exact all2_comp hA' hargs fun _ _ _ h1 h2 => h1.ok hs hS1 hS3 h2
  have hsb : ∀ n x, lookL bin n = some x → ∃ z, σ' (.b (f n)) = some (.k z) ∧ BW σ' f L z x := fun n x hx => hasBW_look hB' hx
  have hlvL : ∀ n x, lookL bin n = some x → x.live = true := fun n x hx => (hlv _ (lookL_mem hx)).1
  have hmem : MemAt (⟨w, lentIm σ' ρ Im L, S⟩ : Env P 0) (stOf [] (pinsL KK (fun n => ρ (f n)) ++ bin)) w (fun n => ρ (f n)) (lentIm σ' ρ Im L) := by
    have hone : ∀ q b, stOf [] (pinsL KK (fun n => ρ (f n)) ++ bin) (.b q) = some (.k b) → (∃ n, b = .pin n (ρ (f n))) ∨ lookL bin q = some b := fun q b hq => by
      simp only [stOf, lookL_app] at hq
      cases h0 : lookL (pinsL KK (fun n => ρ (f n))) q with
      | some b' =>
        rw [h0] at hq
        simp only [Option.or, Option.map_some, Option.some.injEq] at hq
        injection hq with hq
        subst hq
        obtain ⟨n, _, _, rfl⟩ := lookL_pins h0
        exact .inl ⟨n, rfl⟩
      | none =>
        rw [h0] at hq
        simp only [Option.or, Option.map_eq_some_iff] at hq
        obtain ⟨x, hx, e⟩ := hq
        injection e with e; subst e
        exact .inr hx
    have hl : ∀ q b, stOf [] (pinsL KK (fun n => ρ (f n)) ++ bin) (.b q) = some (.k b) → b.live = true → lookL bin q = some b := fun q b hq hb => by
      rcases hone q b hq with ⟨n, rfl⟩ | h
      · cases hb
      · exact h
    refine ⟨fun q b hq => ?_, fun q b hq hl1 hn => ?_, fun n1 n2 b1 b2 q1 q2 l1 l2 i1 i2 hne => ?_, fun b hb1 => ⟨.inl hb1, lentIm_lt hs b hb1, fun q bk hq hl1 hn e => ?_⟩, Keep.refl _ _⟩
    · rcases hone q b hq with ⟨n, rfl⟩ | h
      · rfl
      · obtain ⟨z, hz, hw⟩ := hsb q b h
        exact hw.ok hs (hs.bk _ z hz)
    · have hx := hl q b hq hl1
      obtain ⟨z, hz, hw⟩ := hsb q b hx
      exact ⟨(hs.own _ z hz (hw.live hl1) hn).1, .inl ⟨_, lookL_mem hx, hn, rfl⟩⟩
    · have hx1 := hl _ _ q1 l1
      have hx2 := hl _ _ q2 l2
      obtain ⟨z1, hz1, hw1⟩ := hsb _ _ hx1
      obtain ⟨z2, hz2, hw2⟩ := hsb _ _ hx2
      exact hs.inj _ _ z1 z2 hz1 hz2 (hw1.live l1) (hw2.live l2) i1 i2 (injOK_ne hi hx1 hx2 hne)
    · have hx := hl _ _ hq hl1
      exact hS1 b hb1 ⟨_, lookL_mem hx, hn, e.symm⟩
  obtain ⟨hen, hcall⟩ := hF fun n => ρ (f n)
  have hc := hcall w (fun n => ρ (f n)) (lentIm σ' ρ Im L) S (xs.map a.eval ++ us) hcargs hmem
  unfold Oper.wp
  have hrun : (execOp a.eval ⟨some d, .call ⟨.value y, xs.toArray, ats⟩, ty, pos, af, gd⟩).run P w = .ok (.enter fid (xs.map a.eval ++ us).toArray) w := by
    have he : a.eval y = .func (.func fid) #[] us.toArray := hfv
    simp only [execOp, resolve, Sem.run_bind, he, Deferred.ofValue, Sem.run_pure, Result.andThen_ok, invoke]
    have : (#[] ++ (xs.toArray.map a.eval) ++ us.toArray : Array Value) = (xs.map a.eval ++ us).toArray := by simp
    rw [this]
    exact hen _ _
  rw [hrun, Oper.upon_enter]
  refine hc.mono fun e w' ⟨v, ρ', Im', he, hm, hresv, _⟩ => ?_
  subst he
  have hbo' : ∀ n x, lookL bo n = some x → stOf [] (pinsL KK (fun n => ρ (f n)) ++ bo) (.b n) = some (.k x) := fun n x hx => by
    have hn : n < 9000 := by
      have := List.all_eq_true.1 hbo _ (lookL_mem hx)
      simpa using this
    simp only [stOf, lookL_app]
    cases h0 : lookL (pinsL KK (fun n => ρ (f n))) n with
    | some b' => obtain ⟨m, _, e, _⟩ := lookL_pins h0; omega
    | none => simp [hx]
  have hm' : MemAt (⟨w, lentIm σ' ρ Im L, S⟩ : Env P 0) (stOf [] bo) w' ρ' Im' := by
    have hst : ∀ n x, stOf [] bo (.b n) = some (.k x) → stOf [] (pinsL KK (fun n => ρ (f n)) ++ bo) (.b n) = some (.k x) := fun n x hx => by
      simp only [stOf, Option.map_eq_some_iff] at hx
      obtain ⟨y, hy, e⟩ := hx
      injection e with e; subst e
      exact hbo' n y hy
    exact ⟨fun n b hb => hm.bk n b (hst n b hb), fun n b hb => hm.own n b (hst n b hb), fun n1 n2 b1 b2 h1 h2 => hm.inj n1 n2 b1 b2 (hst _ _ h1) (hst _ _ h2), fun b hb => ⟨(hm.im b hb).1, (hm.im b hb).2.1, fun n bk hk => (hm.im b hb).2.2 n bk (hst _ _ hk)⟩, hm.keep⟩
  have hpin : ∀ n, n ∈ KK → ρ' n = ρ (f n) := fun n hn => by
    have hlk : ∀ l : List Nat, n ∈ l → lookL (pinsL l fun n => ρ (f n)) (9000 + n) = some (.pin n (ρ (f n))) := by
      intro l
      induction l with
      | nil => intro h; cases h
      | cons m l ih =>
        intro h
        show (bif Nat.beq (9000 + m) (9000 + n) then _ else _) = _
        by_cases e : m = n
        · subst e; simp
        · have : Nat.beq (9000 + m) (9000 + n) = false := by
            cases hb : Nat.beq (9000 + m) (9000 + n) with
            | false => rfl
            | true => have := Nat.eq_of_beq_eq_true hb; omega
          rw [this]
          exact ih (by rcases List.mem_cons.1 h with h | h; exact absurd h.symm e; exact h)
    have := hm.bk (9000 + n) (.pin n (ρ (f n))) (by simp only [stOf, lookL_app, hlk KK hn]; rfl)
    exact this
  have hs1 := (hs.freeze hS0 L).kills (bin.map fun p => f p.1)
  rw [← hupds, ← List.map_append] at hs1
  have hdead : ∀ n, n ∈ KK → σ'.upds ((L ++ bin.map fun p => f p.1).map fun n => (Key.b n, some (Item.k .dead))) (.b (f n)) = some (.k .dead) := fun n hn => by
    refine kills_in _ _ _ ?_
    have := List.all_eq_true.1 hK n hn
    obtain ⟨x, hx⟩ := Option.isSome_iff_exists.1 this
    exact List.mem_append_right _ (List.mem_map.2 ⟨_, lookL_mem hx, rfl⟩)
  obtain ⟨ρ'', Im'', hs'', hr'', hm''⟩ := hs1.afterW (g := gW f KK d) (S := S) (fun n b hn hl hnil hS => by
      obtain ⟨p, hp, hpn, e⟩ := hS
      by_cases hin : n ∈ L ++ bin.map fun p => f p.1
      · rw [kills_in _ _ _ hin] at hn
        injection hn with hn; injection hn with hn; subst hn
        cases hl
      · rw [kills_out _ _ _ hin] at hn
        obtain ⟨z, hz, hw⟩ := hasBW_mem hB' p hp
        exact hs.inj n _ b z hn hz hl (hw.live (hlv p hp).1) hnil hpn (fun e => hin (List.mem_append_right _ (List.mem_map.2 ⟨p, hp, e.symm⟩))) e) (fun b hb1 hS => hS1 b hb1 hS) hS3 hm' hresv (.inl fun b hb => hb) hpl hwf (injW_ok hgi) (fun p hp => by
      by_cases hk : memN KK p.1 = true
      · have hkm : p.1 ∈ KK := memN_iff.1 hk
        have e : gW f KK d p.1 = f p.1 := by simp [gW, hk]
        rw [e]
        exact .inr ⟨hdead _ hkm, hpin _ hkm⟩
      · have hkm : memN KK p.1 = false := by simpa using hk
        have e : gW f KK d p.1 = 1000 * d + p.1 := by simp [gW, hkm]
        have hn : σ' (.b (gW f KK d p.1)) = none := by
          rw [hfr p hp, e]
          have := List.all_eq_true.1 hfresh p hp
          simpa [hkm] using this
        left
        by_cases hin : gW f KK d p.1 ∈ L ++ bin.map fun p => f p.1
        · rcases List.mem_append.1 hin with hin | hin
          · exact absurd hn (hLn _ hin)
          · obtain ⟨q, hq, e⟩ := List.mem_map.1 hin
            obtain ⟨z, hz, _⟩ := hasBW_mem hB' q hq
            rw [← e] at hn
            rw [hz] at hn; cases hn
        · rw [kills_out _ _ _ hin]; exact hn)
  refine hKk _ _ ⟨ρ'', Im'', ?_⟩
  rw [hupds, hupds]
  exact hs''.put (by simpa using hN) hr'' hm''
end
theorem rowOf_ren {α : Type} {enc : α → List D} {l : List α} {g : Nat → Nat} : (rowOf enc l).map (fun cs => cs.map (C.ren g)) = rowOf enc l := by
  simp only [rowOf, List.map_map]
  refine List.map_congr_left fun a _ => ?_
  simp only [Function.comp_def, List.map_map]
  exact List.map_congr_left fun x _ => rfl
/-- A return, of whatever results and blocks. -/
theorem retW {P : Program} {σ : St} {rs : List ResultVar} {xs : List AV} {res : AV} {bout : List (Nat × Blk)} {e : Exit} (he : e = .normal ∨ e = .ret) (h : ResOK P σ rs xs) (hx : res = resAV xs) (hb : hasB σ bout) : retQ P rs res bout e σ := by
  refine ⟨he, xs, h, hx, ?_⟩
  have key : ∀ l : List (Nat × Blk), hasB σ l → ∀ p ∈ l, σ (.b p.1) = some (.k p.2) := by
    intro l
    induction l with
    | nil => intro _ p hp; cases hp
    | cons q l ih =>
      intro h p hp
      rcases List.mem_cons.1 hp with rfl | hp
      · exact h.1
      · exact ih h.2 p hp
  exact key bout hb
theorem ret_agg_ddL {P : Program} {σ : St} {t u v nm : Nat} {T : TypeId} {ti : TyI} {cs cs' : List C} {x x' y y' : D} {e : Exit} (he : e = .normal ∨ e = .ret) [ht : TyOK P T ti] (hx : σ (.s t) = some (.v (.c (.ptr nm 0)))) (hb : σ (.b nm) = some (.k (.box cs'))) (hagg : ti.isAgg = true)
    (hl : (cs'.take ti.size).length = ti.size) (hu : σ (.s u) = some (.v (AD x'))) (hv : σ (.s v) = some (.v (AD y'))) (h : cs = cs'.take ti.size) (h2 : x = x') (h3 : y = y') : retQ P [.cell t T, .tmp u, .tmp v] (.tup [.agg cs, AD x, AD y]) [] e σ :=
  ⟨he, [.agg ((cs'.drop 0).take ti.size), AD x', AD y'], .agg hx hb hagg hl (.tmp rfl hu (.tmp rfl hv .nil)), by rw [h, h2, h3]; rfl, fun p hp => by cases hp⟩
theorem ret_agg_agg_dL {P : Program} {σ : St} {t u v nm nm2 : Nat} {T T2 : TypeId} {ti ti2 : TyI} {cs cs' ds ds' : List C} {y y' : D} {e : Exit} (he : e = .normal ∨ e = .ret) [ht : TyOK P T ti] [ht2 : TyOK P T2 ti2] (hx : σ (.s t) = some (.v (.c (.ptr nm 0)))) (hb : σ (.b nm) = some (.k (.box cs'))) (hagg : ti.isAgg = true)
    (hl : (cs'.take ti.size).length = ti.size) (hx2 : σ (.s u) = some (.v (.c (.ptr nm2 0)))) (hb2 : σ (.b nm2) = some (.k (.box ds'))) (hagg2 : ti2.isAgg = true)
    (hl2 : (ds'.take ti2.size).length = ti2.size) (hv : σ (.s v) = some (.v (AD y'))) (h : cs = cs'.take ti.size) (h2 : ds = ds'.take ti2.size) (h3 : y = y') : retQ P [.cell t T, .cell u T2, .tmp v] (.tup [.agg cs, .agg ds, AD y]) [] e σ :=
  ⟨he, [.agg ((cs'.drop 0).take ti.size), .agg ((ds'.drop 0).take ti2.size), AD y'], .agg hx hb hagg hl (.agg hx2 hb2 hagg2 hl2 (.tmp rfl hv .nil)), by rw [h, h2, h3]; rfl, fun p hp => by cases hp⟩
theorem BW.truncO {α : Type} {enc : α → List D} {σ : St} {f : Nat → Nat} {L : List Nat} {T sz : Nat} {xs : List (List C)} {l : List α} (n : Nat) (h : xs.take n = rowOf enc l) : BW σ f L (.row T sz xs) (.row T sz (rowOf enc l)) := by
  refine .trunc n ?_
  rw [h]; exact all2_isD rowOf_isD
/-- Elements that hang on no blocks. -/
class FlatE {α : Type} (enc : α → List D) : Prop where
  flat : ∀ x, (enc x).all D.flat = true
theorem rowOf_flatB {α : Type} {enc : α → List D} [h : FlatE enc] {l : List α} {T sz : Nat} : (Blk.row T sz (rowOf enc l)).flat = true := rowOf_flat h.flat
instance : FlatE (fun n : Int => [D.int .i64 n]) := ⟨fun _ => rfl⟩
theorem FnS.toW {P : Program} {g : FuncId} {as : List AV} {res : AV} {bo : List (Nat × Blk)} (h : FnS P g as [] res bo) : FnW P g as [] [] res bo := fun _ => h
end Go.Sx
/-
  Sx: maps that the call makes: their keys are numbers or arrays of numbers.
-/
namespace Go.Sx
set_option linter.unusedSimpArgs false
set_option linter.unusedVariables false
open Go Go.RowKit
/-! ## What a map says -/

def lookK {γ : Type} : List (List Int × γ) → List Int → Option γ
  | [], _ => none
  | p :: es, a => if p.1 = a then some p.2 else lookK es a
def putK {γ : Type} : List (List Int × γ) → List Int → γ → List (List Int × γ)
  | [], a, c => [(a, c)]
  | p :: es, a, c => if p.1 = a then (a, c) :: es else p :: putK es a c
def idxK {γ : Type} : List (List Int × γ) → List Int → Option Nat
  | [], _ => none
  | p :: es, a => if p.1 = a then some 0 else (idxK es a).map (· + 1)
/-- A key's type: numbers (n = 1), or arrays of n numbers. -/
class KeyTy (P : Program) (t : TypeId) (n : outParam Nat) : Prop where
  check : ∀ (w : World) (em : Bool) (a : List Int), a.length = n → (Instr.checkKey em 10000 t (kv a)).run P w = .ok () w
  find : ∀ (w : World) (a : List Int) (es : List MapEntry) (ks : List (List Int)), a.length = n → (∀ k ∈ ks, k.length = n) → All2 (fun k (e : MapEntry) => e.key = kv k) ks es →
    (Instr.findKey t (kv a) es).run P w = .ok ((idxK (ks.map fun k => (k, ())) a).bind fun i => (es[i]?).map fun e => (i, e.val)) w
theorem stays_kv (P : Program) (w : World) (a : List Int) : (Instr.keyThatStays (kv a) (kv a)).run P w = .ok (kv a) w := by
  have hb : ∀ (l : List Int), ((l.zip l).all fun (x, y) => Instr.sameBits 9999 (.int .i64 x) (.int .i64 y)) = true := fun l => by
    induction l with
    | nil => rfl
    | cons a l ih => rw [List.zip_cons_cons, List.all_cons, ih]; simp [Instr.sameBits]
  have : Instr.sameBits 10000 (kv a) (kv a) = true := by
    have h1 : ∀ l : List Int, Instr.sameBits 10000 (.agg (l.map (Value.int .i64)).toArray) (.agg (l.map (Value.int .i64)).toArray) = true := fun l => by
      unfold Instr.sameBits
      simp only [beq_self_eq_true, Bool.true_and, List.zip_map, List.all_map]
      have := hb l
      simp only [List.all_eq_true] at this ⊢
      intro x hx
      exact this x hx
    match a with
    | [] => exact h1 []
    | [a] => simp [kv, Instr.sameBits]
    | a :: b :: l => exact h1 (a :: b :: l)
  unfold Instr.keyThatStays
  rw [if_pos this]
  rfl
theorem keyTy_int {P : Program} {t : TypeId} (h : P.underlying t = some (.int .i64)) : KeyTy P t 1 where
  check w em a ha := by
    match a, ha with
    | [a], _ => exact MapKept.run_checkKey h (k := .int .i64 a) rfl em 9999
  find w a es ks ha hks hes := by
    match a, ha with
    | [a], _ =>
      have key : ∀ (es : List MapEntry) (ks : List (List Int)) (i : Nat), (∀ k ∈ ks, k.length = 1) → All2 (fun k (e : MapEntry) => e.key = kv k) ks es →
          Instr.findNow (.int .i64) (.int .i64 a) es i = some ((idxK (ks.map fun k => (k, ())) [a]).bind fun j => (es[j]?).map fun e => (i + j, e.val)) := by
        intro es ks i hks hes
        induction hes generalizing i with
        | nil => rfl
        | @cons k e ks es he _ ih =>
          match k, hks k (by simp) with
          | [b], _ =>
            have he : e.key = .int .i64 b := he
            simp only [Instr.findNow, he, Instr.sameNow, if_true, List.map_cons, idxK]
            by_cases hab : b = a
            · subst hab; simp
            · have h1 : (a == b) = false := by simpa using fun e => hab e.symm
              have h2 : ¬ ([b] = [a]) := by simpa using hab
              rw [h1, if_neg h2]
              simp only
              rw [ih (i + 1) (fun k hk => hks k (by simp [hk]))]
              cases idxK (ks.map fun k => (k, ())) [a] with
              | none => rfl
              | some j => simp [Nat.add_assoc, Nat.add_comm 1]
      have := key es ks 0 hks hes
      simp only [Nat.zero_add] at this
      exact MapKept.run_findKey h this
/-! ## A block is changed -/

theorem SatAt.chg {P : Program} {N : Nat} {E : Env P N} {σ : St} {a : Act} {w w' : World} {ρ : Nat → RI} {Im : Nat → Prop} (h : SatAt E σ a w ρ Im) {nm : Nat} {b0 blk : Blk} (h0 : σ (.b nm) = some (.k b0)) (hl0 : b0.live = true)
    (hnil : (ρ nm).isNil = false) (os : w'.os = w.os) (tape : w'.tape = w.tape) (output : w'.output = w.output) (size : w'.heap.size = w.heap.size) (other : ∀ b, b ≠ (ρ nm).blk → w'.heap[b]? = w.heap[b]?)
    (hb : BlkOK ρ w' Im nm blk) (hm : ∀ n, blk.mentions n = true → σ (.b n) ≠ none) :
    SatAt E (σ.upd (.b nm) (some (.k blk))) a w' ρ Im := by
  have hold : ∀ b, Im b → Im b ∧ w'.heap[b]? = w.heap[b]? := fun b hb => ⟨hb, other b (fun e => (h.im b hb).2.2 nm b0 h0 hl0 hnil e.symm)⟩
  have hother : ∀ n b, σ.upd (.b nm) (some (.k blk)) (.b n) = some (.k b) → n ≠ nm → σ (.b n) = some (.k b) := fun n b hb hn => by
    rwa [St.upd_other _ _ (by intro e; injection e with e; exact hn e.symm)] at hb
  have hown0 := h.own nm b0 h0 hl0 hnil
  refine ⟨fun t x hx => ?_, fun n b hb' => ?_, fun n b hb' hl hn => ?_, fun n1 n2 b1 b2 h1 h2 l1 l2 i1 i2 hne => ?_, fun b hb' => ⟨(h.im b hb').1, ?_, fun n bk hk hl hn => ?_⟩, fun k it hk n hn => ?_, h.defers, h.size, ?_⟩
  · rw [St.upd_other _ _ (by intro e; cases e)] at hx
    exact RepA.keep hold (fun _ _ => rfl) (h.fr t x hx)
  · by_cases hn : n = nm
    · subst hn
      rw [St.upd_same] at hb'
      injection hb' with hb'; injection hb' with hb'; subst hb'
      exact hb
    · have hb0 := hother n b hb' hn
      refine BlkOK.keep hold rfl (fun hnil' hlive => ?_) (fun _ _ => rfl) (h.bk n b hb0)
      refine other _ (fun e => ?_)
      exact h.inj n nm b b0 hb0 h0 hlive hl0 hnil' hnil hn e
  · by_cases he : n = nm
    · subst he
      exact ⟨by rw [size]; exact hown0.1, hown0.2⟩
    · have hb0 := hother n b hb' he
      obtain ⟨h1, h2⟩ := h.own n b hb0 hl hn
      exact ⟨by rw [size]; exact h1, h2⟩
  · have get : ∀ n b, σ.upd (.b nm) (some (.k blk)) (.b n) = some (.k b) → b.live = true → ∃ b', σ (.b n) = some (.k b') ∧ b'.live = true := fun n b hb hl => by
      by_cases he : n = nm
      · subst he; exact ⟨b0, h0, hl0⟩
      · exact ⟨b, hother n b hb he, hl⟩
    obtain ⟨c1, hc1, hc1'⟩ := get n1 b1 h1 l1
    obtain ⟨c2, hc2, hc2'⟩ := get n2 b2 h2 l2
    exact h.inj n1 n2 c1 c2 hc1 hc2 hc1' hc2' i1 i2 hne
  · rw [size]; exact (h.im b hb').2.1
  · by_cases he : n = nm
    · subst he; exact (h.im b hb').2.2 n b0 h0 hl0 hn
    · exact (h.im b hb').2.2 n bk (hother n bk hk he) hl hn
  · by_cases he : n = nm
    · subst he; rw [St.upd_same]; simp
    · rw [St.upd_other _ _ (by intro e; injection e with e; exact he e.symm)]
      by_cases hkn : (Key.b nm) = k
      · subst hkn
        rw [St.upd_same] at hk
        injection hk with hk; subst hk
        exact hm n hn
      · rw [St.upd_other _ _ hkn] at hk
        exact h.wf k it hk n hn
  · refine h.keep.step os tape output (by rw [size]; exact Nat.le_refl _) (fun b hb hS => other b (fun e => ?_))
    rcases hown0.2 with h1 | h1
    · rw [← e] at h1; exact hS h1
    · omega
/-! ## Lists of keys and the model's entries -/

theorem idxK_lt {γ : Type} : ∀ {es : List (List Int × γ)} {a : List Int} {i : Nat}, idxK es a = some i → ∃ p, es[i]? = some p ∧ p.1 = a ∧ lookK es a = some p.2
  | p :: es, a, i, h => by
    simp only [idxK] at h
    by_cases e : p.1 = a
    · rw [if_pos e] at h
      injection h with h; subst h
      exact ⟨p, rfl, e, by simp [lookK, e]⟩
    · rw [if_neg e] at h
      obtain ⟨j, hj, rfl⟩ := Option.map_eq_some_iff.1 h
      obtain ⟨q, h1, h2, h3⟩ := idxK_lt hj
      exact ⟨q, by simpa using h1, h2, by simp [lookK, e, h3]⟩
theorem idxK_none {γ : Type} : ∀ {es : List (List Int × γ)} {a : List Int}, idxK es a = none → lookK es a = none
  | [], _, _ => rfl
  | p :: es, a, h => by
    simp only [idxK] at h
    by_cases e : p.1 = a
    · rw [if_pos e] at h; cases h
    · rw [if_neg e] at h
      have := idxK_none (es := es) (a := a) (by simpa using h)
      simp [lookK, e, this]
theorem idxK_keys {γ : Type} : ∀ (es : List (List Int × γ)) (a : List Int), idxK ((es.map (·.1)).map fun k => (k, ())) a = idxK es a
  | [], _ => rfl
  | p :: es, a => by
    simp only [List.map_cons, idxK]
    rw [idxK_keys es a]
theorem putK_none {γ : Type} : ∀ {es : List (List Int × γ)} {a : List Int} {c : γ}, idxK es a = none → putK es a c = es ++ [(a, c)]
  | [], _, _, _ => rfl
  | p :: es, a, c, h => by
    simp only [idxK] at h
    by_cases e : p.1 = a
    · rw [if_pos e] at h; cases h
    · rw [if_neg e] at h
      have := putK_none (es := es) (a := a) (c := c) (by simpa using h)
      simp [putK, e, this]
theorem putK_some {γ : Type} : ∀ {es : List (List Int × γ)} {a : List Int} {c : γ} {i : Nat}, idxK es a = some i → putK es a c = es.set i (a, c)
  | p :: es, a, c, i, h => by
    simp only [idxK] at h
    by_cases e : p.1 = a
    · rw [if_pos e] at h
      injection h with h; subst h
      simp [putK, e]
    · rw [if_neg e] at h
      obtain ⟨j, hj, rfl⟩ := Option.map_eq_some_iff.1 h
      have := putK_some (c := c) hj
      simp [putK, e, this]
theorem all2_set {α β : Type} {R : α → β → Prop} {x : α} {y : β} (h : R x y) : ∀ {l : List α} {m : List β} {j : Nat}, All2 R l m → All2 R (l.set j x) (m.set j y)
  | _, _, _, .nil => .nil
  | _, _, 0, .cons _ t => .cons h t
  | _, _, _ + 1, .cons h0 t => .cons h0 (all2_set h t)
theorem putK_mem {γ : Type} {p : List Int × γ} {c : γ} : ∀ {es : List (List Int × γ)} {a : List Int}, p ∈ putK es a c → p ∈ es ∨ p = (a, c)
  | [], a, h => by
    simp only [putK, List.mem_singleton] at h
    exact .inr h
  | q :: es, a, h => by
    simp only [putK] at h
    split at h
    · rcases List.mem_cons.1 h with rfl | h
      · exact .inr rfl
      · exact .inl (List.mem_cons_of_mem _ h)
    · rcases List.mem_cons.1 h with rfl | h
      · exact .inl List.mem_cons_self
      · exact (putK_mem h).imp (List.mem_cons_of_mem _) id
/-- A key's numbers. -/
def keyL : AV → Option (List Int)
  | .c (.d (.int .i64 a)) => some [a]
  | .agg [.d (.int .i64 a), .d (.int .i64 b)] => some [a, b]
  | _ => none
theorem keyL_ok {P : Program} {N : Nat} {E : Env P N} {ρ : Nat → RI} {w : World} {Im : Nat → Prop} {x : AV} {v : Value} {a : List Int} (h : keyL x = some a) (hr : RepA E ρ w Im x v) : v = kv a := by
  unfold keyL at h
  split at h
  · injection h with h; subst h; exact hr
  · injection h with h; subst h
    obtain ⟨us, rfl, ha⟩ := hr
    cases ha with
    | cons h1 ha =>
      cases ha with
      | cons h2 ha =>
        cases ha
        have h1 := show _ = _ from h1
        have h2 := show _ = _ from h2
        subst h1; subst h2
        rfl
  · cases h
section
variable {P : Program} {N : Nat} {E : Env P N} {ops : Array Oper} {dr : Bool} {rest : List Oper} {σ : St} {tr : Trace} {K : St → Prop}
  {d : Nat} {t kt et ty : TypeId} {pos : String} {af : Array Edge} {gd : Option (Nat × Bool)} {gR : Upds} {x y z : Operand} {ti ei : TyI} {nm n : Nat} {es : List (List Int × C)} {vk vv : AV} {a : List Int}
theorem vr_makeMap (hg : GOK N ops σ gd gR) (hfresh : σ (.b d) = none) (hN : Nat.blt d N = true)
    (k : VR E ops dr rest ((σ.upd (.b d) (some (.k (.map [])))).set d (.c (.mp d))) ((gR.map (·.1) ++ [.b d], [.b d, .s d]) :: tr) K) : VR E ops dr (⟨some d, .makeMap t none, ty, pos, af, gd⟩ :: rest) σ tr K := by
  refine vr_do (R := [(.b d, none)]) (U := [(.b d, some (.k (.map []))), (.s d, some (.v (.c (.mp d))))]) hg (fun σ act w ρ Im hs hR K Q hK => ?_) (by intro p hp; rw [List.mem_singleton] at hp; subst hp; exact hfresh) rfl rfl k
  have hf : σ (.b d) = none := hR _ (List.mem_singleton.2 rfl)
  have hnew : setR ρ d ⟨w.heap.size, 0, false⟩ d = ⟨w.heap.size, 0, false⟩ := by simp [setR]
  have h1 : SatAt E (σ.upd (.b d) (some (.k (.map [])))) act (w.alloc (.map #[] 0)) (setR ρ d ⟨w.heap.size, 0, false⟩) Im := by
    refine hs.newblk hf _ 0 ⟨by rw [hnew], #[], 0, by rw [hnew]; exact heap_alloc_new w _, .nil⟩ (fun n hn => by cases hn)
  unfold Oper.wp
  have hrun : (execOp act.eval ⟨some d, .makeMap t none, ty, pos, af, gd⟩).run P w = .ok (.value (.map (some w.heap.size))) (w.alloc (.map #[] 0)) := by
    simp [execOp, run_makeMap]
  rw [hrun]
  refine hK _ _ ⟨_, _, h1.put (by simpa using hN) ?_ ?_⟩
  · show _ = _
    rw [hnew]
  · intro nm hn
    have : d = nm := by simpa [AV.mentions, AV.mentions0, C.mentions] using hn
    subst this
    rw [St.upd_same]
    simp
/-- What finding a key gives. -/
theorem map_find {w : World} {ρ : Nat → RI} {Im : Nat → Prop} [hk : KeyTy P kt n] {arr : Array MapEntry} (ha : a.length = n) (hes : ∀ p ∈ es, p.1.length = n)
    (h2 : All2 (fun (p : List Int × C) (e : MapEntry) => e.key = kv p.1 ∧ RepC ρ w Im p.2 e.val) es arr.toList) :
    (idxK es a = none ∧ (Instr.findKey kt (kv a) arr.toList).run P w = .ok none w) ∨
    ∃ i e c, idxK es a = some i ∧ arr[i]? = some e ∧ e.key = kv a ∧ lookK es a = some c ∧ RepC ρ w Im c e.val ∧ (Instr.findKey kt (kv a) arr.toList).run P w = .ok (some (i, e.val)) w := by
  have hall : All2 (fun k (e : MapEntry) => e.key = kv k) (es.map (·.1)) arr.toList := all2_map h2 fun p _ e h => h.1
  have hf := hk.find w a arr.toList (es.map (·.1)) ha (fun k hk => by obtain ⟨p, hp, rfl⟩ := List.mem_map.1 hk; exact hes p hp) hall
  rw [idxK_keys] at hf
  cases hi : idxK es a with
  | none => rw [hi] at hf; exact .inl ⟨rfl, hf⟩
  | some i =>
    obtain ⟨p, hp, hpa, hl⟩ := idxK_lt hi
    obtain ⟨e, he, h3, h4⟩ := h2.get hp
    rw [hi] at hf
    simp only [Option.bind_some, he, Option.map_some] at hf
    exact .inr ⟨i, e, p.2, rfl, by simpa using he, by rw [h3, hpa], hl, h4, hf⟩
theorem vr_lookup {c0 : C} (ok : Bool) [ht : TyOK P t ti] [he : TyOK P et ei] [hk : KeyTy P kt n] (hg : GOK N ops σ gd gR) (hx : ev σ x = some (.c (.mp nm))) (hb : σ (.b nm) = some (.k (.map es))) (hy : ev σ y = some vk) (ha : keyL vk = some a) (htk : ti.k = .map kt et)
    (hl : a.length = n) (hes : ∀ p ∈ es, p.1.length = n) (hz : constC ei.zero = some c0) (hN : Nat.blt d N = true)
    (k : VR E ops dr rest (σ.set d (if ok then .tup [.c ((lookK es a).getD c0), AB (lookK es a).isSome] else .c ((lookK es a).getD c0))) ((gR.map (·.1) ++ (opK x ++ (opK y ++ [.b nm])), [.s d]) :: tr) K) :
    VR E ops dr (⟨some d, .lookup t x y ok, ty, pos, af, gd⟩ :: rest) σ tr K := by
  refine vr_val (R := opR x (.c (.mp nm)) ++ (opR y vk ++ [(.b nm, some (.k (.map es)))])) hg rfl hN (fun σ' act w ρ Im hs hR => ?_)
    (reads_append (opR_ok hx) (reads_append (opR_ok hy) (by intro p hp; rw [List.mem_singleton] at hp; subst hp; exact hb))) (by rw [List.map_append, List.map_append, opR_keys, opR_keys]; rfl) k
  have hx' := ev_of hx fun p hp => hR p (List.mem_append_left _ hp)
  have hy' := ev_of hy fun p hp => hR p (List.mem_append_right _ (List.mem_append_left _ hp))
  have hb' : σ' (.b nm) = some (.k (.map es)) := hR (.b nm, _) (by simp)
  have e1 : act.eval x = .map (some (ρ nm).blk) := (ev_ok hs hx').1
  have e2 : act.eval y = kv a := keyL_ok ha (ev_ok hs hy').1
  obtain ⟨hnil, arr, clock, hh, h2⟩ := hs.bk nm _ hb'
  have hrun0 := fun em => hk.check w em a hl
  obtain ⟨hz1, hz2⟩ := constC_ok (ρ := ρ) (w := w) (Im := Im) hz
  have hmen : ∀ q, (.c ((lookK es a).getD c0) : AV).mentions0 q = true → σ' (.b q) ≠ none := fun q hq => by
    have hq : ((lookK es a).getD c0).mentions q = true := hq
    cases hlk : lookK es a with
    | none => rw [hlk] at hq; rw [Option.getD_none, hz2] at hq; cases hq
    | some c =>
      rw [hlk, Option.getD_some] at hq
      cases hi : idxK es a with
      | none => rw [idxK_none hi] at hlk; cases hlk
      | some i =>
        obtain ⟨p, hp, _, hp2⟩ := idxK_lt hi
        rw [hlk] at hp2
        injection hp2 with hp2
        exact hs.wf _ _ hb' q (by simp only [Item.mentions, Blk.mentions, List.any_eq_true]; exact ⟨p, List.mem_of_getElem? hp, by rw [← hp2]; exact hq⟩)
  have fin : ∃ v, (Instr.lookup t (.map (some (ρ nm).blk)) (kv a) ok).run P w = .ok (if ok then .tuple #[v, .bool (lookK es a).isSome] else v) w ∧ RepC ρ w Im ((lookK es a).getD c0) v := by
    rcases map_find (P := P) (a := a) (kt := kt) hl hes h2 with ⟨h3, h4⟩ | ⟨i, e, c, h3, h4, _, h6, h7, h8⟩
    · refine ⟨ei.zero, ?_, by rw [idxK_none h3]; exact hz1⟩
      simp [Instr.lookup, run_underlying (ht.map htk), MapKept.run_getObj_map hh, hrun0, h4, he.run_zero, Result.andThen, idxK_none h3]
    · refine ⟨e.val, ?_, by rw [h6]; exact h7⟩
      simp [Instr.lookup, run_underlying (ht.map htk), MapKept.run_getObj_map hh, hrun0, h8, Result.andThen, h6]
  obtain ⟨v, hv1, hv2⟩ := fin
  refine ⟨if ok then .tuple #[v, .bool (lookK es a).isSome] else v, ?_, ?_, ?_⟩
  · simp only [execOp, e1, e2]
    rw [Sem.run_bind, hv1]
    rfl
  · cases ok with
    | false => exact hv2
    | true => exact ⟨[v, _], rfl, .cons hv2 (.cons rfl .nil)⟩
  · intro q hq
    cases ok with
    | false => exact hmen q hq
    | true =>
      have hq : ((.c ((lookK es a).getD c0) : AV).mentions0 q || (false || false)) = true := hq
      rw [Bool.or_false, Bool.or_false] at hq
      exact hmen q hq
theorem vr_mapUpdate {c : C} [ht : TyOK P t ti] [hk : KeyTy P kt n] (hg : GOK N ops σ gd gR) (hx : ev σ x = some (.c (.mp nm))) (hb : σ (.b nm) = some (.k (.map es))) (hy : ev σ y = some vk) (ha : keyL vk = some a) (htk : ti.k = .map kt et)
    (hl : a.length = n) (hes : ∀ p ∈ es, p.1.length = n) (hz : ev σ z = some (.c c))
    (k : VR E ops dr rest (σ.upd (.b nm) (some (.k (.map (putK es a c))))) ((gR.map (·.1) ++ (opK x ++ (opK y ++ (opK z ++ [.b nm]))), [.b nm]) :: tr) K) :
    VR E ops dr (⟨none, .mapUpdate t x y z, ty, pos, af, gd⟩ :: rest) σ tr K := by
  refine vr_do (R := opR x (.c (.mp nm)) ++ (opR y vk ++ (opR z (.c c) ++ [(.b nm, some (.k (.map es)))]))) (U := [(.b nm, some (.k (.map (putK es a c))))]) hg (fun σ' act w ρ Im hs hR Kk Q hK => ?_)
    (reads_append (opR_ok hx) (reads_append (opR_ok hy) (reads_append (opR_ok hz) (by intro p hp; rw [List.mem_singleton] at hp; subst hp; exact hb)))) (by simp [List.map_append, opR_keys]) rfl k
  have hx' := ev_of hx fun p hp => hR p (List.mem_append_left _ hp)
  have hy' := ev_of hy fun p hp => hR p (List.mem_append_right _ (List.mem_append_left _ hp))
  have hz' := ev_of hz fun p hp => hR p (List.mem_append_right _ (List.mem_append_right _ (List.mem_append_left _ hp)))
  have hb' : σ' (.b nm) = some (.k (.map es)) := hR (.b nm, _) (by simp)
  have e1 : act.eval x = .map (some (ρ nm).blk) := (ev_ok hs hx').1
  have e2 : act.eval y = kv a := keyL_ok ha (ev_ok hs hy').1
  obtain ⟨e3, hmc⟩ := ev_ok hs hz'
  have e3 : RepC ρ w Im c (act.eval z) := e3
  obtain ⟨hnil, arr, clock, hh, h2⟩ := hs.bk nm _ hb'
  have hck := hk.check w false a hl
  have hmen : ∀ q, (Blk.map (putK es a c)).mentions q = true → σ' (.b q) ≠ none := fun q hq => by
    simp only [Blk.mentions, List.any_eq_true] at hq
    obtain ⟨p, hp, hm⟩ := hq
    rcases putK_mem hp with hp | rfl
    · exact hs.wf _ _ hb' q (by simp only [Item.mentions, Blk.mentions, List.any_eq_true]; exact ⟨p, hp, hm⟩)
    · exact hmc q hm
  have fin : ∃ arr' clock', (Instr.mapUpdate t (.map (some (ρ nm).blk)) (kv a) (act.eval z)).run P w = .ok () { w with heap := w.heap.setIfInBounds (ρ nm).blk (.map arr' clock') } ∧
      All2 (fun (p : List Int × C) (e : MapEntry) => e.key = kv p.1 ∧ RepC ρ w Im p.2 e.val) (putK es a c) arr'.toList := by
    rcases map_find (P := P) (a := a) (kt := kt) hl hes h2 with ⟨h3, h4⟩ | ⟨i, e, c', h3, h4, h5, h6, h7, h8⟩
    · refine ⟨arr.push ⟨kv a, act.eval z, clock⟩, clock + 1, ?_, ?_⟩
      · simp [Instr.mapUpdate, run_underlying (ht.map htk), MapKept.run_getObj_map hh, hck, h4, MapKept.run_setObj_map _ hh, Result.andThen]
      · rw [putK_none h3, Array.toList_push]
        exact h2.append (.cons ⟨rfl, e3⟩ .nil)
    · refine ⟨arr.modify i (fun e' => { e' with key := kv a, val := act.eval z }), clock, ?_, ?_⟩
      · simp [Instr.mapUpdate, run_underlying (ht.map htk), MapKept.run_getObj_map hh, hck, h8, h4, h5, stays_kv, MapKept.run_setObj_map _ hh, Result.andThen]
      · rw [putK_some h3, Array.toList_modify, ChangeMaps.modify_eq_set _ _ _ _ (show arr.toList[i]? = some e by simpa using h4)]
        exact all2_set ⟨rfl, e3⟩ h2
  obtain ⟨arr', clock', hrun, h2'⟩ := fin
  obtain ⟨s1, s2⟩ := MapKept.heap_set (o' := .map arr' clock') hh
  unfold Oper.wp
  have hrun' : (execOp act.eval ⟨none, .mapUpdate t x y z, ty, pos, af, gd⟩).run P w = .ok .skip { w with heap := w.heap.setIfInBounds (ρ nm).blk (.map arr' clock') } := by
    simp only [execOp, e1, e2]
    rw [Sem.run_bind, hrun]
    rfl
  rw [hrun']
  refine hK _ _ ⟨ρ, Im, hs.chg (w' := { w with heap := w.heap.setIfInBounds (ρ nm).blk (.map arr' clock') }) hb' rfl hnil rfl rfl rfl (by simp) (fun b hb => s2 b hb) ⟨hnil, arr', clock', s1, h2'.imp fun p _ e h => ⟨h.1, ?_⟩⟩ hmen⟩
  exact RepC.keep (fun b hb => ⟨hb, s2 b (fun e => (hs.im b hb).2.2 nm _ hb' rfl hnil e.symm)⟩) (fun _ _ => rfl) h.2
theorem vr_len_map [ht : TyOK P t ti] (hg : GOK N ops σ gd gR) (hx : ev σ x = some (.c (.mp nm))) (hb : σ (.b nm) = some (.k (.map es))) (htk : ti.k = .map kt et) (hN : Nat.blt d N = true)
    (k : VR E ops dr rest (σ.set d (AD (.int .i64 es.length))) ((gR.map (·.1) ++ (opK x ++ [.b nm]), [.s d]) :: tr) K) : VR E ops dr (⟨some d, .call ⟨.builtin .len, #[x], #[t]⟩, ty, pos, af, gd⟩ :: rest) σ tr K := by
  refine vr_val (x := AD (.int .i64 es.length)) (R := opR x (.c (.mp nm)) ++ [(.b nm, some (.k (.map es)))]) hg rfl hN (fun σ' act w ρ Im hs hR => ?_) (reads_append (opR_ok hx) (by intro p hp; rw [List.mem_singleton] at hp; subst hp; exact hb)) (by rw [List.map_append, opR_keys]; rfl) k
  have hx' := ev_of hx fun p hp => hR p (List.mem_append_left _ hp)
  have hb' : σ' (.b nm) = some (.k (.map es)) := hR (.b nm, _) (by simp)
  have e1 : act.eval x = .map (some (ρ nm).blk) := (ev_ok hs hx').1
  obtain ⟨hnil, arr, clock, hh, h2⟩ := hs.bk nm _ hb'
  have hlen : arr.size = es.length := by rw [h2.length]; simp
  refine ⟨.int .i64 es.length, ?_, rfl, fun q hq => by cases hq⟩
  have : execOp act.eval ⟨some d, .call ⟨.builtin .len, #[x], #[t]⟩, ty, pos, af, gd⟩ = builtin .len #[t] ty (#[x].map fun | .const _ => true | _ => false) (#[x].map act.eval) := rfl
  rw [this]
  simp [builtin, Builtin.len_, run_underlying (ht.map htk), MapKept.run_getObj_map hh, e1, goInt, hlen]
end
/-! ## Typed maps -/

class KeyF {κ : Type} (kf : κ → List Int) (n : outParam Nat) : Prop where
  inj : ∀ a b, kf a = kf b → a = b
  len : ∀ a, (kf a).length = n
def k1 (a : Int) : List Int := [a]
def k2 (p : Int × Int) : List Int := [p.1, p.2]
instance : KeyF k1 1 := ⟨fun a b h => by simpa [k1] using h, fun _ => rfl⟩
instance : KeyF k2 2 := ⟨fun a b h => by
  simp only [k2, List.cons.injEq, and_true] at h
  exact Prod.ext h.1 h.2, fun _ => rfl⟩
def cfB (b : Bool) : C := .d (.bool b)
def cfI (n : Int) : C := .d (.int .i64 n)
def mpO {κ ν : Type} (kf : κ → List Int) (cf : ν → C) (l : List (κ × ν)) : List (List Int × C) := l.map fun p => (kf p.1, cf p.2)
theorem mpO_len {κ ν : Type} {kf : κ → List Int} {cf : ν → C} {n : Nat} [hk : KeyF kf n] (l : List (κ × ν)) : ∀ p ∈ mpO kf cf l, p.1.length = n := fun p hp => by
  obtain ⟨q, _, rfl⟩ := List.mem_map.1 hp
  exact hk.len _
section
variable {κ ν : Type} [DecidableEq κ]
/-- What stands at a key; the list behind a store, a deletion. -/
def asc : List (κ × ν) → κ → Option ν
  | [], _ => none
  | p :: l, a => if p.1 = a then some p.2 else asc l a
def putA : List (κ × ν) → κ → ν → List (κ × ν)
  | [], a, c => [(a, c)]
  | p :: l, a, c => if p.1 = a then (a, c) :: l else p :: putA l a c
variable {kf : κ → List Int} {cf : ν → C} {n : Nat} [hk : KeyF kf n]
include hk
theorem lookK_mpO (a : κ) : ∀ l : List (κ × ν), lookK (mpO kf cf l) (kf a) = (asc l a).map cf
  | [] => rfl
  | p :: l => by
    show (if kf p.1 = kf a then some (cf p.2) else lookK (mpO kf cf l) (kf a)) = _
    by_cases e : p.1 = a
    · simp [asc, e]
    · have : ¬ kf p.1 = kf a := fun h => e (hk.inj _ _ h)
      rw [if_neg this, lookK_mpO a l]
      simp [asc, e]
theorem putK_mpO (a : κ) (v : ν) : ∀ l : List (κ × ν), putK (mpO kf cf l) (kf a) (cf v) = mpO kf cf (putA l a v)
  | [] => rfl
  | p :: l => by
    show (if kf p.1 = kf a then (kf a, cf v) :: mpO kf cf l else (kf p.1, cf p.2) :: putK (mpO kf cf l) (kf a) (cf v)) = _
    by_cases e : p.1 = a
    · simp [putA, e, mpO]
    · have : ¬ kf p.1 = kf a := fun h => e (hk.inj _ _ h)
      rw [if_neg this, putK_mpO a v l]
      simp [putA, e, mpO]
end
section
variable {P : Program} {N : Nat} {E : Env P N} {ops : Array Oper} {dr : Bool} {rest : List Oper} {σ : St} {tr : Trace} {K : St → Prop}
  {d : Nat} {t kt et ty : TypeId} {pos : String} {af : Array Edge} {gd : Option (Nat × Bool)} {gR : Upds} {x y z : Operand} {ti ei : TyI} {nm n : Nat} {a b c : Int}
theorem vr_makeMapB [ht : TyOK P t ti] [he : TyOK P et ei] (hg : GOK N ops σ gd gR) (htk : ti.k = .map kt et) (hek : ei.k = .bool) (hfresh : σ (.b d) = none) (hN : Nat.blt d N = true)
    (k : VR E ops dr rest ((σ.upd (.b d) (some (.k (.map (mpO k1 cfB []))))).set d (.c (.mp d))) ((gR.map (·.1) ++ [.b d], [.b d, .s d]) :: tr) K) : VR E ops dr (⟨some d, .makeMap t none, ty, pos, af, gd⟩ :: rest) σ tr K :=
  vr_makeMap hg hfresh hN k
theorem vr_makeMapI1 {ki : TyI} [ht : TyOK P t ti] [he : TyOK P et ei] [hkt : TyOK P kt ki] (hg : GOK N ops σ gd gR) (htk : ti.k = .map kt et) (hkk : ki.k = .int .i64) (hek : ei.k = .int .i64) (hfresh : σ (.b d) = none) (hN : Nat.blt d N = true)
    (k : VR E ops dr rest ((σ.upd (.b d) (some (.k (.map (mpO k1 cfI []))))).set d (.c (.mp d))) ((gR.map (·.1) ++ [.b d], [.b d, .s d]) :: tr) K) : VR E ops dr (⟨some d, .makeMap t none, ty, pos, af, gd⟩ :: rest) σ tr K :=
  vr_makeMap hg hfresh hN k
theorem vr_makeMapI2 {ki : TyI} {ae : TypeId} [ht : TyOK P t ti] [he : TyOK P et ei] [hkt : TyOK P kt ki] (hg : GOK N ops σ gd gR) (htk : ti.k = .map kt et) (hkk : ki.k = .array 2 ae) (hek : ei.k = .int .i64) (hfresh : σ (.b d) = none) (hN : Nat.blt d N = true)
    (k : VR E ops dr rest ((σ.upd (.b d) (some (.k (.map (mpO k2 cfI []))))).set d (.c (.mp d))) ((gR.map (·.1) ++ [.b d], [.b d, .s d]) :: tr) K) : VR E ops dr (⟨some d, .makeMap t none, ty, pos, af, gd⟩ :: rest) σ tr K :=
  vr_makeMap hg hfresh hN k
theorem vr_lookupB {l : List (Int × Bool)} [ht : TyOK P t ti] [he : TyOK P et ei] [hk : KeyTy P kt 1] (hg : GOK N ops σ gd gR) (hx : ev σ x = some (.c (.mp nm))) (hb : σ (.b nm) = some (.k (.map (mpO k1 cfB l)))) (hy : ev σ y = some (AD (.int .i64 a))) (htk : ti.k = .map kt et)
    (hz : constC ei.zero = some (.d (.bool false))) (hN : Nat.blt d N = true)
    (k : VR E ops dr rest (σ.set d (AB ((asc l a).getD false))) ((gR.map (·.1) ++ (opK x ++ (opK y ++ [.b nm])), [.s d]) :: tr) K) :
    VR E ops dr (⟨some d, .lookup t x y false, ty, pos, af, gd⟩ :: rest) σ tr K := by
  refine vr_lookup false hg hx hb hy rfl htk rfl (mpO_len l) hz hN ?_
  have h := lookK_mpO (cf := cfB) (kf := k1) a l
  rw [show [a] = k1 a from rfl, h]
  generalize asc l a = o at k ⊢
  cases o <;> exact k
theorem vr_lookupI1 {l : List (Int × Int)} [ht : TyOK P t ti] [he : TyOK P et ei] [hk : KeyTy P kt 1] (hg : GOK N ops σ gd gR) (hx : ev σ x = some (.c (.mp nm))) (hb : σ (.b nm) = some (.k (.map (mpO k1 cfI l)))) (hy : ev σ y = some (AD (.int .i64 a))) (htk : ti.k = .map kt et)
    (hz : constC ei.zero = some (.d (.int .i64 0))) (hN : Nat.blt d N = true)
    (k : VR E ops dr rest (σ.set d (.tup [AD (.int .i64 ((asc l a).getD 0)), AB (asc l a).isSome])) ((gR.map (·.1) ++ (opK x ++ (opK y ++ [.b nm])), [.s d]) :: tr) K) :
    VR E ops dr (⟨some d, .lookup t x y true, ty, pos, af, gd⟩ :: rest) σ tr K := by
  refine vr_lookup true hg hx hb hy rfl htk rfl (mpO_len l) hz hN ?_
  have h := lookK_mpO (cf := cfI) (kf := k1) a l
  rw [show [a] = k1 a from rfl, h]
  generalize asc l a = o at k ⊢
  cases o <;> exact k
theorem vr_lookupI2 {l : List ((Int × Int) × Int)} [ht : TyOK P t ti] [he : TyOK P et ei] [hk : KeyTy P kt 2] (hg : GOK N ops σ gd gR) (hx : ev σ x = some (.c (.mp nm))) (hb : σ (.b nm) = some (.k (.map (mpO k2 cfI l)))) (hy : ev σ y = some (.agg [.d (.int .i64 a), .d (.int .i64 b)])) (htk : ti.k = .map kt et)
    (hz : constC ei.zero = some (.d (.int .i64 0))) (hN : Nat.blt d N = true)
    (k : VR E ops dr rest (σ.set d (.tup [AD (.int .i64 ((asc l (a, b)).getD 0)), AB (asc l (a, b)).isSome])) ((gR.map (·.1) ++ (opK x ++ (opK y ++ [.b nm])), [.s d]) :: tr) K) :
    VR E ops dr (⟨some d, .lookup t x y true, ty, pos, af, gd⟩ :: rest) σ tr K := by
  refine vr_lookup true hg hx hb hy rfl htk rfl (mpO_len l) hz hN ?_
  have h := lookK_mpO (cf := cfI) (kf := k2) (a, b) l
  rw [show [a, b] = k2 (a, b) from rfl, h]
  generalize asc l (a, b) = o at k ⊢
  cases o <;> exact k
theorem vr_mapUpdateB {v : Bool} {l : List (Int × Bool)} [ht : TyOK P t ti] [hk : KeyTy P kt 1] (hg : GOK N ops σ gd gR) (hx : ev σ x = some (.c (.mp nm))) (hb : σ (.b nm) = some (.k (.map (mpO k1 cfB l)))) (hy : ev σ y = some (AD (.int .i64 a))) (htk : ti.k = .map kt et) (hz : ev σ z = some (AB v))
    (k : VR E ops dr rest (σ.upd (.b nm) (some (.k (.map (mpO k1 cfB (putA l a v)))))) ((gR.map (·.1) ++ (opK x ++ (opK y ++ (opK z ++ [.b nm]))), [.b nm]) :: tr) K) :
    VR E ops dr (⟨none, .mapUpdate t x y z, ty, pos, af, gd⟩ :: rest) σ tr K := by
  refine vr_mapUpdate hg hx hb hy rfl htk rfl (mpO_len l) hz ?_
  rw [show [a] = k1 a from rfl, show (C.d (.bool v)) = cfB v from rfl, putK_mpO]
  exact k
theorem vr_mapUpdateI1 {v : Int} {l : List (Int × Int)} [ht : TyOK P t ti] [hk : KeyTy P kt 1] (hg : GOK N ops σ gd gR) (hx : ev σ x = some (.c (.mp nm))) (hb : σ (.b nm) = some (.k (.map (mpO k1 cfI l)))) (hy : ev σ y = some (AD (.int .i64 a))) (htk : ti.k = .map kt et) (hz : ev σ z = some (AD (.int .i64 v)))
    (k : VR E ops dr rest (σ.upd (.b nm) (some (.k (.map (mpO k1 cfI (putA l a v)))))) ((gR.map (·.1) ++ (opK x ++ (opK y ++ (opK z ++ [.b nm]))), [.b nm]) :: tr) K) :
    VR E ops dr (⟨none, .mapUpdate t x y z, ty, pos, af, gd⟩ :: rest) σ tr K := by
  refine vr_mapUpdate hg hx hb hy rfl htk rfl (mpO_len l) hz ?_
  rw [show [a] = k1 a from rfl, show (C.d (.int .i64 v)) = cfI v from rfl, putK_mpO]
  exact k
theorem vr_mapUpdateI2 {v : Int} {l : List ((Int × Int) × Int)} [ht : TyOK P t ti] [hk : KeyTy P kt 2] (hg : GOK N ops σ gd gR) (hx : ev σ x = some (.c (.mp nm))) (hb : σ (.b nm) = some (.k (.map (mpO k2 cfI l)))) (hy : ev σ y = some (.agg [.d (.int .i64 a), .d (.int .i64 b)])) (htk : ti.k = .map kt et) (hz : ev σ z = some (AD (.int .i64 v)))
    (k : VR E ops dr rest (σ.upd (.b nm) (some (.k (.map (mpO k2 cfI (putA l (a, b) v)))))) ((gR.map (·.1) ++ (opK x ++ (opK y ++ (opK z ++ [.b nm]))), [.b nm]) :: tr) K) :
    VR E ops dr (⟨none, .mapUpdate t x y z, ty, pos, af, gd⟩ :: rest) σ tr K := by
  refine vr_mapUpdate hg hx hb hy rfl htk rfl (mpO_len l) hz ?_
  rw [show [a, b] = k2 (a, b) from rfl, show (C.d (.int .i64 v)) = cfI v from rfl, putK_mpO]
  exact k
theorem vr_len_mapO {κ ν : Type} {kf : κ → List Int} {cf : ν → C} {l : List (κ × ν)} [ht : TyOK P t ti] (hg : GOK N ops σ gd gR) (hx : ev σ x = some (.c (.mp nm))) (hb : σ (.b nm) = some (.k (.map (mpO kf cf l)))) (htk : ti.k = .map kt et) (hN : Nat.blt d N = true)
    (k : VR E ops dr rest (σ.set d (AI l.length)) ((gR.map (·.1) ++ (opK x ++ [.b nm]), [.s d]) :: tr) K) : VR E ops dr (⟨some d, .call ⟨.builtin .len, #[x], #[t]⟩, ty, pos, af, gd⟩ :: rest) σ tr K := by
  refine vr_len_map hg hx hb htk hN ?_
  rw [show (mpO kf cf l).length = l.length by simp [mpO]]
  exact k
end
/-! ## A map's block in what is weakened -/
theorem BW.mapO {κ ν : Type} {kf : κ → List Int} {cf : ν → C} {l l' : List (κ × ν)} {σ : St} {f : Nat → Nat} {L : List Nat} (hd : ∀ v, (cf v).isD = true) (h : l = l') : BW σ f L (.map (mpO kf cf l)) (.map (mpO kf cf l')) := by
  subst h
  refine .map ?_
  unfold mpO
  induction l with
  | nil => exact .nil
  | cons p l ih =>
    refine .cons ⟨rfl, ?_⟩ ih
    have := hd p.2
    show CW σ f L (cf p.2) (cf p.2)
    generalize cf p.2 = c at this
    cases c with
    | d x => exact .d
    | _ => cases this
theorem mpO_names {κ ν : Type} {kf : κ → List Int} {cf : ν → C} {l : List (κ × ν)} (hd : ∀ v, (cf v).names = []) : (Blk.map (mpO kf cf l)).names = [] := by
  simp only [Blk.names, mpO, List.flatMap_map, hd]
  induction l with
  | nil => rfl
  | cons _ _ ih => exact ih
theorem mpO_ren {κ ν : Type} {kf : κ → List Int} {cf : ν → C} {l : List (κ × ν)} {g : Nat → Nat} (hd : ∀ v, (cf v).ren g = cf v) : (mpO kf cf l).map (fun p => (p.1, p.2.ren g)) = mpO kf cf l := by
  simp only [mpO, List.map_map, Function.comp_def, hd]
theorem mpO_renB {κ : Type} {kf : κ → List Int} {l : List (κ × Bool)} {g : Nat → Nat} : (mpO kf cfB l).map (fun p => (p.1, p.2.ren g)) = mpO kf cfB l := mpO_ren fun _ => rfl
theorem mpO_renI {κ : Type} {kf : κ → List Int} {l : List (κ × Int)} {g : Nat → Nat} : (mpO kf cfI l).map (fun p => (p.1, p.2.ren g)) = mpO kf cfI l := mpO_ren fun _ => rfl
theorem mpO_namesB {κ : Type} {kf : κ → List Int} {l : List (κ × Bool)} : (Blk.map (mpO kf cfB l)).names = [] := mpO_names fun _ => rfl
theorem mpO_namesI {κ : Type} {kf : κ → List Int} {l : List (κ × Int)} : (Blk.map (mpO kf cfI l)).names = [] := mpO_names fun _ => rfl
theorem asc_none {κ ν : Type} [DecidableEq κ] : ∀ {l : List (κ × ν)} {a : κ}, asc l a = none ↔ ∀ p ∈ l, p.1 ≠ a
  | [], a => by simp [asc]
  | p :: l, a => by
    simp only [asc]
    split
    · rename_i e
      simp [e]
    · rename_i e
      rw [asc_none (l := l)]
      simp [e]
theorem putA_new {κ ν : Type} [DecidableEq κ] : ∀ {l : List (κ × ν)} {a : κ} {v : ν}, asc l a = none → putA l a v = l ++ [(a, v)]
  | [], _, _, _ => rfl
  | p :: l, a, v, h => by
    simp only [asc] at h
    split at h
    · cases h
    · rename_i e
      simp only [putA, if_neg e, putA_new h, List.cons_append]
/-- A set that was filled from a list. -/
def setO {α : Type} (f : α → Int) (l : List α) : List (Int × Bool) := l.map fun x => (f x, true)
theorem setO_asc {α : Type} {f : α → Int} {l : List α} {a : Int} : (asc (setO f l) a).getD false = l.any fun x => decide (f x = a) := by
  induction l with
  | nil => rfl
  | cons x l ih =>
    simp only [setO, List.map_cons, asc, List.any_cons]
    by_cases e : f x = a
    · simp [e]
    · simp only [e, if_false, decide_false, Bool.false_or]
      exact ih
theorem setO_put {α : Type} {f : α → Int} {l : List α} {x : α} (h : (l.any fun y => decide (f y = f x)) = false) : putA (setO f l) (f x) true = setO f (l ++ [x]) := by
  rw [putA_new]
  · simp [setO]
  · rw [asc_none]
    intro p hp
    obtain ⟨y, hy, rfl⟩ := List.mem_map.1 hp
    have := List.any_eq_false.1 h y hy
    simpa using this
end Go.Sx
/-
  Sx: arrays that are built from their parts.
-/
namespace Go.Sx
set_option linter.unusedSimpArgs false
set_option linter.unusedVariables false
open Go Go.RowKit
section
variable {P : Program} {N : Nat} {E : Env P N} {ops : Array Oper} {dr : Bool} {rest : List Oper} {σ : St} {tr : Trace} {K : St → Prop}
  {d : Nat} {t yt ty te : TypeId} {pos : String} {af : Array Edge} {gd : Option (Nat × Bool)} {gR : Upds} {x y z : Operand} {ti ei : TyI}
end
section
variable {P : Program} {N : Nat} {E : Env P N} {σ : St} {Q : Exit → St → Prop}
end
end Go.Sx
/-
  Sx: arrays of bools as variables (rows of one cell an element), strings (an element, a tail, compared, out of bytes), slices that are made.
-/
namespace Go.Sx
set_option linter.unusedSimpArgs false
set_option linter.unusedVariables false
open Go Go.RowKit
abbrev encB (b : Bool) : List D := [.bool b]
abbrev encI (n : Int) : List D := [.int .i64 n]
abbrev enc8 (n : Int) : List D := [.int .u8 n]
abbrev bsC (V : List Bool) : List C := V.map fun b => C.d (.bool b)
instance : FlatE encB := ⟨fun _ => rfl⟩
instance : FlatE enc8 := ⟨fun _ => rfl⟩
section
variable {P : Program} {N : Nat} {E : Env P N} {ops : Array Oper} {dr : Bool} {rest : List Oper} {σ : St} {tr : Trace} {K : St → Prop}
  {d : Nat} {t yt ty te s : TypeId} {pos : String} {af : Array Edge} {gd : Option (Nat × Bool)} {gR : Upds} {x y z : Operand} {ti ei si : TyI}
/-! ## Strings -/

theorem bytes_beq (a b : ByteArray) : (a.toList == b.toList) = decide (a = b) := by
  rw [← beq_toListBytes]
  cases a with | mk x =>
  cases b with | mk y =>
  show (x == y) = _
  by_cases e : x = y
  · subst e; simp
  · simp [e]
theorem run_neq_str {w : World} {a b : ByteArray} (hu : P.underlying t = some .string) : (binOp .neq t (.string a) (.string b)).run P w = .ok (.bool (decide (a ≠ b))) w := by
  simp only [binOp, Op.stringOp, Sem.run_pure, bytes_beq]
  by_cases e : a = b <;> simp [e]
theorem vr_neqStr {s1 s2 : ByteArray} [ht : TyOK P t ti] (hg : GOK N ops σ gd gR) (hx : ev σ x = some (AD (.str s1))) (hy : ev σ y = some (AD (.str s2))) (hk : ti.k = .string) (hN : Nat.blt d N = true)
    (k : VR E ops dr rest (σ.set d (AB (decide (s1 ≠ s2)))) ((gR.map (·.1) ++ (opK x ++ opK y), [.s d]) :: tr) K) : VR E ops dr (⟨some d, .binOp .neq t x y yt, ty, pos, af, gd⟩ :: rest) σ tr K :=
  vr_bin (v := AB (decide (s1 ≠ s2))) hg rfl hx hy hN (fun _ ac w _ Im _ h h' => by
    have h : ac.eval x = .string s1 := h
    have h' : ac.eval y = .string s2 := h'
    refine ⟨.bool (decide (s1 ≠ s2)), ?_, rfl⟩
    simp [execOp, h, h', eqGuard, run_neq_str (ht.string hk)]) (fun _ h => by cases h) k
end
end Go.Sx
/-
  Sx: an own row's element of several cells is written; the row stays a typed one.
-/
namespace Go.Sx
set_option linter.unusedSimpArgs false
set_option linter.unusedVariables false
open Go Go.RowKit
section
variable {P : Program} {N : Nat} {E : Env P N} {ops : Array Oper} {dr : Bool} {rest : List Oper} {σ : St} {tr : Trace} {K : St → Prop}
  {d : Nat} {t yt ty te s : TypeId} {pos : String} {af : Array Edge} {gd : Option (Nat × Bool)} {gR : Upds} {x y z : Operand} {ti ei si : TyI}
end
end Go.Sx
/-
  Sx: a region that holds a call of a range's yield: its pieces ahead and behind are walked by 'VR', the call by the round's word.
-/
namespace Go.Sx
open Go Go.RowKit
variable {P : Program} {N : Nat} {E : Env P N}
end Go.Sx
/-
  Sx: a range over a function whose iterator writes cells of its own: the iterator's contract 'SeqT' and the law of the loop. (The kit's 'SeqStopsK' lets an iterator turn walks' objects alone.)
-/
namespace Go.Sx
open Go Go.RowKit
variable {P : Program}
/-- The world has moved on; blocks of which p is true may have turned. -/
structure Turn (p : Nat → Obj → Prop) (W W' : World) : Prop where
  os : W'.os = W.os
  tape : W'.tape = W.tape
  output : W'.output = W.output
  size : W.heap.size ≤ W'.heap.size
  block : ∀ b o, W.heap[b]? = some o → ¬ p b o → W'.heap[b]? = some o
theorem Turn.refl (p : Nat → Obj → Prop) (W : World) : Turn p W W := ⟨rfl, rfl, rfl, Nat.le_refl _, fun _ _ h _ => h⟩
theorem Turn.trans {p : Nat → Obj → Prop} {A B C : World} (h : Turn p A B) (k : Turn p B C) : Turn p A C :=
  ⟨k.os.trans h.os, k.tape.trans h.tape, k.output.trans h.output, Nat.le_trans h.size k.size, fun b o hb hp => k.block b o (h.block b o hb hp) hp⟩
theorem Turn.mono {p q : Nat → Obj → Prop} {A B : World} (h : Turn p A B) (hpq : ∀ b o, p b o → q b o) : Turn q A B :=
  ⟨h.os, h.tape, h.output, h.size, fun b o hb hq => h.block b o hb fun hp => hq (hpq b o hp)⟩
theorem Turn.alloc (p : Nat → Obj → Prop) (W : World) (o : Obj) : Turn p W (W.alloc o) := by
  have hg := World.grownBy_alloc W o none
  exact ⟨hg.os, hg.tape, hg.output, hg.size, fun b o' hb _ => (hg.block b (Array.getElem?_eq_some_iff.1 hb).1 (by simp)).trans hb⟩
theorem Turn.grown {p : Nat → Obj → Prop} {W W' : World} {row : Option Nat} (hg : W.grownBy W' row) (hp : ∀ r o, row = some r → W.heap[r]? = some o → p r o) : Turn p W W' :=
  ⟨hg.os, hg.tape, hg.output, hg.size, fun b o hb hn => (hg.block b (Array.getElem?_eq_some_iff.1 hb).1 (fun e => hn (hp b o e.symm hb))).trans hb⟩
theorem Turn.below {p : Nat → Obj → Prop} {W W' : World} {B : Nat} (h : Turn p W W') (hB : B ≤ W.heap.size) (hp : ∀ b o, p b o → B ≤ b) : Below B W W' :=
  ⟨h.os, h.tape, h.output, h.size, fun b hb => by
    have hlt : b < W.heap.size := by omega
    have hs : W.heap[b]? = some W.heap[b] := Array.getElem?_eq_getElem hlt
    exact (h.block b _ hs fun hq => by have := hp _ _ hq; omega).trans hs.symm⟩
end Go.Sx
/-
  Sx: an iterator's own body: states over changing starts (after each yield the walk begins anew), loads by bare addresses, a region that holds a yield.
-/
namespace Go.Sx
set_option linter.unusedSimpArgs false
set_option linter.unusedVariables false
open Go Go.RowKit
section
variable {P : Program} {N : Nat}
/-- Code, with a word on the frame and the world behind it. -/
def VX (E : Env P N) (c : Code) (R : Exit → Act → World → Prop) (σ : St) : Prop := ∀ a w, Sat E σ a w → c.wp P R a w
theorem VX.run {E : Env P N} {c : Code} {R : Exit → Act → World → Prop} {σ : St} (h : VX E c R σ) {a : Act} {w : World} (hs : Sat E σ a w) : c.wp P R a w := h a w hs
theorem VX.mk {E : Env P N} {c : Code} {R : Exit → Act → World → Prop} {σ : St} (h : ∀ a w, Sat E σ a w → c.wp P R a w) : VX E c R σ := h
theorem VX.le {E : Env P N} {c : Code} {R : Exit → Act → World → Prop} {σ σ' : St} (h : Le E σ σ') (k : VX E c R σ') : VX E c R σ := fun a w hs => k a w (h a w hs)
theorem VC.mk {E : Env P N} {c : Code} {Q : Exit → St → Prop} {σ : St} (h : ∀ a w, Sat E σ a w → c.wp P (fun e a' w' => ∃ σ', Sat E σ' a' w' ∧ Q e σ') a w) : VC E c Q σ := h
end
end Go.Sx
/-
  Sx: function values that have captured a pointer to an own box, kept in maps: made, put, looked up, compared with nil, opened for a call.
-/
namespace Go.Sx
set_option linter.unusedSimpArgs false
set_option linter.unusedVariables false
open Go Go.RowKit
def isFn (P : Program) (t : TypeId) : Bool := match P.underlying t with
  | some (.func _ _ _) => true
  | _ => false
section
variable {P : Program} {N : Nat} {E : Env P N} {ops : Array Oper} {dr : Bool} {rest : List Oper} {σ : St} {tr : Trace} {K : St → Prop}
  {d : Nat} {t kt et yt ty : TypeId} {pos : String} {af : Array Edge} {gd : Option (Nat × Bool)} {gR : Upds} {x y z : Operand} {ti ei : TyI} {nm n : Nat} {es : List (List Int × C)} {a : List Int}
theorem vr_lookupF {i : Int} {c0 c : C} [ht : TyOK P t ti] [he : TyOK P et ei] [hk : KeyTy P kt 1] (hg : GOK N ops σ gd gR) (hx : ev σ x = some (.c (.mp nm))) (hb : σ (.b nm) = some (.k (.map es))) (hy : ev σ y = some (AD (.int .i64 i))) (htk : ti.k = .map kt et)
    (hes : (es.all fun p => Nat.beq p.1.length 1) = true) (hz : constC ei.zero = some c0) (hl : (lookK es [i]).getD c0 = c) (hN : Nat.blt d N = true)
    (k : VR E ops dr rest (σ.set d (.c c)) ((gR.map (·.1) ++ (opK x ++ (opK y ++ [.b nm])), [.s d]) :: tr) K) :
    VR E ops dr (⟨some d, .lookup t x y false, ty, pos, af, gd⟩ :: rest) σ tr K := by
  subst hl
  exact vr_lookup (n := 1) false hg hx hb hy rfl htk rfl (fun p hp => by have := List.all_eq_true.1 hes p hp; simpa using this) hz hN k
theorem isFn_ok (h : isFn P t = true) : ∃ a b c, P.underlying t = some (.func a b c) := by
  unfold isFn at h
  split at h
  · exact ⟨_, _, _, ‹_›⟩
  · cases h
theorem run_eql_fn {w : World} (hf : isFn P t = true) (f : Fn) (fi ca : Array Value) : (Op.equal t (.func f fi ca) .nilFunc).run P w = .ok false w := by
  obtain ⟨_, _, _, hu⟩ := isFn_ok hf
  unfold Op.equal Op.equalIn Op.maxDepth
  simp [run_underlying hu]
theorem run_eql_fn0 {w : World} (hf : isFn P t = true) : (Op.equal t .nilFunc .nilFunc).run P w = .ok true w := by
  obtain ⟨_, _, _, hu⟩ := isFn_ok hf
  unfold Op.equal Op.equalIn Op.maxDepth
  simp [run_underlying hu]
theorem vr_eqlFn0 (hf : isFn P t = true) (hg : GOK N ops σ gd gR) (hx : ev σ x = some (AD (.raw .nilFunc))) (hN : Nat.blt d N = true)
    (k : VR E ops dr rest (σ.set d (AB true)) ((gR.map (·.1) ++ opK x, [.s d]) :: tr) K) : VR E ops dr (⟨some d, .binOp .eql t x (.const .nilFunc) yt, ty, pos, af, gd⟩ :: rest) σ tr K :=
  vr_un (v := AB true) hg rfl hx hN (fun _ ac w ρ Im _ h => by
    have he : ac.eval x = .nilFunc := h.1
    have h1 : ac.eval (.const .nilFunc) = .nilFunc := rfl
    refine ⟨.bool true, ?_, rfl⟩
    simp [execOp, he, h1, eqGuard, binOp, run_eql_fn0 hf]) (fun _ h => by cases h) k
end
end Go.Sx
/-
  Sx: pointers to immutable cells as arguments ('pt'), and function values over them ('fp'): fields, checks, makeFunc, comparison with nil, opened for a call.
-/
namespace Go.Sx
set_option linter.unusedSimpArgs false
set_option linter.unusedVariables false
open Go Go.RowKit
theorem newB_nil {k : Nat} : newB k [] = [] := rfl
section
variable {P : Program} {N : Nat} {E : Env P N} {ops : Array Oper} {dr : Bool} {rest : List Oper} {σ : St} {tr : Trace} {K : St → Prop}
  {d : Nat} {t kt et yt ty : TypeId} {pos : String} {af : Array Edge} {gd : Option (Nat × Bool)} {gR : Upds} {x y z : Operand} {ti ei : TyI} {nm n : Nat} {es : List (List Int × C)} {a : List Int} {vk : AV}
theorem vr_nilCheck_pt {m : Nat} {g : Nat → D} (hg : GOK N ops σ gd gR) (hx : ev σ x = some (AD (.pt m g))) (hN : Nat.blt d N = true)
    (k : VR E ops dr rest (σ.set d (AD (.pt m g))) ((gR.map (·.1) ++ opK x, [.s d]) :: tr) K) : VR E ops dr (⟨some d, .nilCheck x, ty, pos, af, gd⟩ :: rest) σ tr K :=
  vr_un (v := AD (.pt m g)) hg rfl hx hN (fun _ a w ρ Im _ h => by
    obtain ⟨b, o, he, h2⟩ := h
    exact ⟨_, by simp [execOp, he], ⟨b, o, rfl, h2⟩⟩) (fun _ h => h) k
theorem vr_fieldAddr_pt {g : Nat → D} {m f fo ft : Nat} {fl : List (Nat × TypeId)} {fi : TyI} [ht : TyOK P t ti] (hg : GOK N ops σ gd gR) (hx : ev σ x = some (AD (.pt m g))) (hd : ti.k = .struct fl) (hf : fl[f]? = some (fo, ft))
    [hft : TyOK P ft fi] (hsz : Nat.blt 0 fi.size = true) (hN : Nat.blt d N = true)
    (k : VR E ops dr rest (σ.set d (.ep (fun j => g (fo + j)) (m - fo))) ((gR.map (·.1) ++ opK x, [.s d]) :: tr) K) : VR E ops dr (⟨some d, .fieldAddr t x f, ty, pos, af, gd⟩ :: rest) σ tr K :=
  vr_un hg rfl hx hN (fun _ a w ρ Im _ h => by
    obtain ⟨b, o, he, hb, hc⟩ := h
    refine ⟨.pointer (some ⟨b, o + fo, none⟩), ?_, b, o + fo, rfl, hb, fun j hj => ?_⟩
    · obtain ⟨fs, fd, hu, h1, rfl, rfl⟩ := ht.field hd hf
      have hne : fi.size ≠ 0 := by simp at hsz; omega
      simp [execOp, he, Instr.fieldAt, run_underlying hu, h1, Instr.sureAddr, fieldPlace, hft.run_size, hne, Addr.add_lit]
    · have := hc (fo + j) (by omega)
      rwa [← Nat.add_assoc] at this) (fun _ h => by cases h) k
/-- A function value over an immutable value. -/
theorem vr_makeFp {f : FuncId} {u : D} {cap : Operand} (hg : GOK N ops σ gd gR) (hx : ev σ cap = some (AD u)) (hN : Nat.blt d N = true)
    (k : VR E ops dr rest (σ.set d (AD (.fp f u))) ((gR.map (·.1) ++ opK cap, [.s d]) :: tr) K) : VR E ops dr (⟨some d, .makeFunc (.func f) #[cap] #[], ty, pos, af, gd⟩ :: rest) σ tr K :=
  vr_un (v := AD (.fp f u)) hg rfl hx hN (fun _ ac w ρ Im _ h => by
    have he : RepD w Im u (ac.eval cap) := h
    refine ⟨.func (.func f) #[ac.eval cap] #[], ?_, ⟨_, rfl, he⟩⟩
    simp [execOp, Instr.makeFunc]) (fun _ h => by cases h) k
theorem vr_insert {c : C} [ht : TyOK P t ti] [hk : KeyTy P kt n] (hg : GOK N ops σ gd gR) (hx : ev σ x = some (.c (.mp nm))) (hb : σ (.b nm) = some (.k (.map es))) (hy : ev σ y = some vk) (ha : keyL vk = some a) (htk : ti.k = .map kt et)
    (hl : a.length = n) (hes : ∀ p ∈ es, p.1.length = n) (hz : ev σ z = some (.c c))
    (k : VR E ops dr rest (σ.upd (.b nm) (some (.k (.map (putK es a c))))) ((gR.map (·.1) ++ (opK x ++ (opK y ++ (opK z ++ [.b nm]))), [.b nm]) :: tr) K) :
    VR E ops dr (⟨none, .insert t x y z, ty, pos, af, gd⟩ :: rest) σ tr K := by
  refine vr_do (R := opR x (.c (.mp nm)) ++ (opR y vk ++ (opR z (.c c) ++ [(.b nm, some (.k (.map es)))]))) (U := [(.b nm, some (.k (.map (putK es a c))))]) hg (fun σ' act w ρ Im hs hR Kk Q hK => ?_)
    (reads_append (opR_ok hx) (reads_append (opR_ok hy) (reads_append (opR_ok hz) (by intro p hp; rw [List.mem_singleton] at hp; subst hp; exact hb)))) (by simp [List.map_append, opR_keys]) rfl k
  have hx' := ev_of hx fun p hp => hR p (List.mem_append_left _ hp)
  have hy' := ev_of hy fun p hp => hR p (List.mem_append_right _ (List.mem_append_left _ hp))
  have hz' := ev_of hz fun p hp => hR p (List.mem_append_right _ (List.mem_append_right _ (List.mem_append_left _ hp)))
  have hb' : σ' (.b nm) = some (.k (.map es)) := hR (.b nm, _) (by simp)
  have e1 : act.eval x = .map (some (ρ nm).blk) := (ev_ok hs hx').1
  have e2 : act.eval y = kv a := keyL_ok ha (ev_ok hs hy').1
  obtain ⟨e3, hmc⟩ := ev_ok hs hz'
  have e3 : RepC ρ w Im c (act.eval z) := e3
  obtain ⟨hnil, arr, clock, hh, h2⟩ := hs.bk nm _ hb'
  have hck := hk.check w false a hl
  have hmen : ∀ q, (Blk.map (putK es a c)).mentions q = true → σ' (.b q) ≠ none := fun q hq => by
    simp only [Blk.mentions, List.any_eq_true] at hq
    obtain ⟨p, hp, hm⟩ := hq
    rcases putK_mem hp with hp | rfl
    · exact hs.wf _ _ hb' q (by simp only [Item.mentions, Blk.mentions, List.any_eq_true]; exact ⟨p, hp, hm⟩)
    · exact hmc q hm
  have fin : ∃ arr' clock', (Instr.mapUpdate t (.map (some (ρ nm).blk)) (kv a) (act.eval z)).run P w = .ok () { w with heap := w.heap.setIfInBounds (ρ nm).blk (.map arr' clock') } ∧
      All2 (fun (p : List Int × C) (e : MapEntry) => e.key = kv p.1 ∧ RepC ρ w Im p.2 e.val) (putK es a c) arr'.toList := by
    rcases map_find (P := P) (a := a) (kt := kt) hl hes h2 with ⟨h3, h4⟩ | ⟨i, e, c', h3, h4, h5, h6, h7, h8⟩
    · refine ⟨arr.push ⟨kv a, act.eval z, clock⟩, clock + 1, ?_, ?_⟩
      · simp [Instr.mapUpdate, run_underlying (ht.map htk), MapKept.run_getObj_map hh, hck, h4, MapKept.run_setObj_map _ hh, Result.andThen]
      · rw [putK_none h3, Array.toList_push]
        exact h2.append (.cons ⟨rfl, e3⟩ .nil)
    · refine ⟨arr.modify i (fun e' => { e' with key := kv a, val := act.eval z }), clock, ?_, ?_⟩
      · simp [Instr.mapUpdate, run_underlying (ht.map htk), MapKept.run_getObj_map hh, hck, h8, h4, h5, stays_kv, MapKept.run_setObj_map _ hh, Result.andThen]
      · rw [putK_some h3, Array.toList_modify, ChangeMaps.modify_eq_set _ _ _ _ (show arr.toList[i]? = some e by simpa using h4)]
        exact all2_set ⟨rfl, e3⟩ h2
  obtain ⟨arr', clock', hrun, h2'⟩ := fin
  obtain ⟨s1, s2⟩ := MapKept.heap_set (o' := .map arr' clock') hh
  unfold Oper.wp
  have hrun' : (execOp act.eval ⟨none, .insert t x y z, ty, pos, af, gd⟩).run P w = .ok .skip { w with heap := w.heap.setIfInBounds (ρ nm).blk (.map arr' clock') } := by
    simp only [execOp, e1, e2]
    rw [Sem.run_bind, hrun]
    rfl
  rw [hrun']
  refine hK _ _ ⟨ρ, Im, hs.chg (w' := { w with heap := w.heap.setIfInBounds (ρ nm).blk (.map arr' clock') }) hb' rfl hnil rfl rfl rfl (by simp) (fun b hb => s2 b hb) ⟨hnil, arr', clock', s1, h2'.imp fun p _ e h => ⟨h.1, ?_⟩⟩ hmen⟩
  exact RepC.keep (fun b hb => ⟨hb, s2 b (fun e => (hs.im b hb).2.2 nm _ hb' rfl hnil e.symm)⟩) (fun _ _ => rfl) h.2
theorem vr_insertF {i : Int} {c : C} {es' : List (List Int × C)} [ht : TyOK P t ti] [hk : KeyTy P kt 1] (hg : GOK N ops σ gd gR) (hx : ev σ x = some (.c (.mp nm))) (hb : σ (.b nm) = some (.k (.map es))) (hy : ev σ y = some (AD (.int .i64 i))) (htk : ti.k = .map kt et)
    (hes : (es.all fun p => Nat.beq p.1.length 1) = true) (hz : ev σ z = some (.c c)) (hp : putK es [i] c = es')
    (k : VR E ops dr rest (σ.upd (.b nm) (some (.k (.map es')))) ((gR.map (·.1) ++ (opK x ++ (opK y ++ (opK z ++ [.b nm]))), [.b nm]) :: tr) K) :
    VR E ops dr (⟨none, .insert t x y z, ty, pos, af, gd⟩ :: rest) σ tr K := by
  subst hp
  exact vr_insert (n := 1) hg hx hb hy rfl htk rfl (fun p hp => by have := List.all_eq_true.1 hes p hp; simpa using this) hz k
theorem vr_eqlFp {f : FuncId} {u : D} (hf : isFn P t = true) (hg : GOK N ops σ gd gR) (hx : ev σ x = some (AD (.fp f u))) (hN : Nat.blt d N = true)
    (k : VR E ops dr rest (σ.set d (AB false)) ((gR.map (·.1) ++ opK x, [.s d]) :: tr) K) : VR E ops dr (⟨some d, .binOp .eql t x (.const .nilFunc) yt, ty, pos, af, gd⟩ :: rest) σ tr K :=
  vr_un (v := AB false) hg rfl hx hN (fun _ ac w ρ Im _ h => by
    obtain ⟨u', he, _⟩ := h
    have h1 : ac.eval (.const .nilFunc) = .nilFunc := rfl
    refine ⟨.bool false, ?_, rfl⟩
    simp [execOp, he, h1, eqGuard, binOp, run_eql_fn hf]) (fun _ h => by cases h) k
/-- A call through a method value whose receiver is immutable. -/
theorem vr_callFp {g : FuncId} {u : D} {y : Operand} {xs : List Operand} {ats : Array TypeId} {as cargs : List AV} {res : AV} {bo : List (Nat × Blk)} {U : Upds} (L : List Nat) (hF : FnS P g (AD u :: cargs) [] res bo) (hg : GOK N ops σ gd gR) (hy : ev σ y = some (AD (.fp g u))) (hxs : evL σ xs = some as)
    (hAR : All2 (AR P σ L) as cargs) (hfl : (L.isEmpty || (res.flat && bo.all fun p => p.2.flat)) = true) (hpl : res.plain = true) (hwf : wfRes res bo = true)
    (hfresh : (bo.all fun p => (σ (.b (1000 * d + p.1))).isNone) = true) (hU : newB (1000 * d) bo = U) (hN : Nat.blt d N = true)
    (k : VR E ops dr rest ((σ.upds U).set d (res.shift (1000 * d)))
      ((gR.map (·.1) ++ (opK y ++ (opLK xs ++ (L.map Key.b ++ bo.map fun p => Key.b (1000 * d + p.1)))), U.map (·.1) ++ [.s d]) :: tr) K) :
    VR E ops dr (⟨some d, .call ⟨.value y, xs.toArray, ats⟩, ty, pos, af, gd⟩ :: rest) σ tr K := by
  subst hU
  have hupds : ∀ (U V : Upds) (s : St), s.upds (U ++ V) = (s.upds U).upds V := by
    intro U V
    induction U with
    | nil => intro s; rfl
    | cons p U ih => intro s; exact ih _
  refine vr_do (R := opR y (AD (.fp g u)) ++ (opLR xs as ++ (L.map (fun nm => (.b nm, σ (.b nm))) ++ bo.map fun p => (.b (1000 * d + p.1), none)))) (U := newB (1000 * d) bo ++ [(.s d, some (.v (res.shift (1000 * d))))])
    (kr := opK y ++ (opLK xs ++ (L.map Key.b ++ bo.map fun p => Key.b (1000 * d + p.1)))) (ku := (newB (1000 * d) bo).map (·.1) ++ [.s d]) hg (fun σ' a w ρ Im hs hR K Q hK => ?_)
    (reads_append (opR_ok hy) (reads_append (opLR_ok hxs) (reads_append (fun p hp => by obtain ⟨nm, _, rfl⟩ := List.mem_map.1 hp; rfl) (fun p hp => by
      obtain ⟨q, hq, rfl⟩ := List.mem_map.1 hp
      have := List.all_eq_true.1 hfresh q hq
      simpa using this)))) (by simp [opR_keys, opLR_keys hxs, List.map_append, Function.comp_def]) (by simp) (by rw [hupds]; exact k)
  obtain ⟨u', hfv, hru⟩ := (ev_ok hs (ev_of hy fun p hp => hR p (List.mem_append_left _ hp))).1
  have h1 := evL_of hxs fun p hp => hR p (List.mem_append_right _ (List.mem_append_left _ hp))
  have hL : ∀ nm ∈ L, σ' (.b nm) = σ (.b nm) := fun nm hnm => hR (.b nm, σ (.b nm)) (List.mem_append_right _ (List.mem_append_right _ (List.mem_append_left _ (List.mem_map.2 ⟨nm, hnm, rfl⟩))))
  have hfr : ∀ p ∈ bo, σ' (.b (1000 * d + p.1)) = none := fun p hp => hR (.b (1000 * d + p.1), none) (List.mem_append_right _ (List.mem_append_right _ (List.mem_append_right _ (List.mem_map.2 ⟨p, hp, rfl⟩))))
  have hargs := evL_ok hs h1
  have hcargs : All2 (RepA (⟨w, lentIm σ' ρ Im L, fun _ => False⟩ : Env P 0) ρ w (lentIm σ' ρ Im L)) cargs (xs.map a.eval) := by
    have hAR' : All2 (AR P σ' L) as cargs := hAR.imp fun _ _ _ h => h.of_same hL
    clear hAR h1 hxs hF k hR hy hfv
    generalize xs.map a.eval = vs at hargs
    induction hAR' generalizing vs with
    | nil => cases hargs; exact .nil
    | cons h1 _ ih => cases hargs with
      | cons hr hargs => exact .cons (h1.ok hs hr) (ih _ hargs)
  have hu : RepA (⟨w, lentIm σ' ρ Im L, fun _ => False⟩ : Env P 0) ρ w (lentIm σ' ρ Im L) (AD u) u' := RepD.keep (w := w) (fun b hb => ⟨.inl hb, rfl⟩) hru
  obtain ⟨hen, hcall⟩ := hF
  have hc := hcall w ρ (lentIm σ' ρ Im L) (fun _ => False) (u' :: xs.map a.eval) (.cons hu hcargs) (memAt_empty (lentIm_lt hs))
  unfold Oper.wp
  have hrun : (execOp a.eval ⟨some d, .call ⟨.value y, xs.toArray, ats⟩, ty, pos, af, gd⟩).run P w = .ok (.enter g (u' :: xs.map a.eval).toArray) w := by
    have he : a.eval y = .func (.func g) #[u'] #[] := hfv
    simp only [execOp, resolve, Sem.run_bind, he, Deferred.ofValue, Sem.run_pure, Result.andThen_ok, invoke]
    have : (#[u'] ++ (xs.toArray.map a.eval) ++ #[] : Array Value) = (u' :: xs.map a.eval).toArray := by simp
    rw [this]
    exact hen _ _
  rw [hrun, Oper.upon_enter]
  refine hc.mono fun e w' ⟨v, ρ', Im', he, hm, hres, _⟩ => ?_
  subst he
  have hfl' : (∀ b, lentIm σ' ρ Im L b → Im b) ∨ (res.flat = true ∧ bo.all (fun p => p.2.flat) = true) := by
    simp only [Bool.or_eq_true, Bool.and_eq_true] at hfl
    rcases hfl with hl | hl
    · left
      intro b hb
      have : L = [] := by simpa using hl
      subst this
      rcases hb with hb | ⟨nm, hnm, _⟩
      · exact hb
      · cases hnm
    · exact .inr hl
  obtain ⟨ρ'', Im'', hs'', hr'', hm''⟩ := hs.after (k := 1000 * d) hm hres hfl' hpl hwf hfr
  refine hK _ _ ⟨ρ'', Im'', ?_⟩
  rw [hupds]
  exact hs''.put (by simpa using hN) hr'' hm''
end
end Go.Sx
/-
  Sx: lists that rise by a key: what a search by halves finds, and an element put in its place.
-/
namespace Go.Sx
set_option linter.unusedSimpArgs false
set_option linter.unusedVariables false
section
variable {α : Type} [Inhabited α]
theorem filter_pre {l : List α} {p : α → Bool} {i : Nat} (hi : i ≤ l.length) (h1 : ∀ a, a < i → p (l.getD a default) = true) (h2 : ∀ a, i ≤ a → a < l.length → p (l.getD a default) = false) : l.filter p = l.take i := by
  have e1 : (l.take i).filter p = l.take i := by
    rw [List.filter_eq_self]
    intro x hx
    obtain ⟨k, hk, rfl⟩ := List.getElem_of_mem hx
    rw [List.length_take] at hk
    have := h1 k (by omega)
    rw [List.getElem_take]
    rwa [List.getD_eq_getElem?_getD, List.getElem?_eq_getElem (by omega)] at this
  have e2 : (l.drop i).filter p = [] := by
    rw [List.filter_eq_nil_iff]
    intro x hx
    obtain ⟨k, hk, rfl⟩ := List.getElem_of_mem hx
    rw [List.length_drop] at hk
    have := h2 (i + k) (by omega) (by omega)
    rw [List.getElem_drop]
    rw [List.getD_eq_getElem?_getD, List.getElem?_eq_getElem (by omega)] at this
    simp only [Option.getD_some] at this
    rw [this]; simp
  conv => lhs; rw [← List.take_append_drop i l, List.filter_append]
  rw [e1, e2, List.append_nil]
theorem filter_suf {l : List α} {p : α → Bool} {i : Nat} (hi : i ≤ l.length) (h1 : ∀ a, a < i → p (l.getD a default) = false) (h2 : ∀ a, i ≤ a → a < l.length → p (l.getD a default) = true) : l.filter p = l.drop i := by
  have e1 : (l.take i).filter p = [] := by
    rw [List.filter_eq_nil_iff]
    intro x hx
    obtain ⟨k, hk, rfl⟩ := List.getElem_of_mem hx
    rw [List.length_take] at hk
    have := h1 k (by omega)
    rw [List.getElem_take]
    rw [List.getD_eq_getElem?_getD, List.getElem?_eq_getElem (by omega)] at this
    simp only [Option.getD_some] at this
    rw [this]; simp
  have e2 : (l.drop i).filter p = l.drop i := by
    rw [List.filter_eq_self]
    intro x hx
    obtain ⟨k, hk, rfl⟩ := List.getElem_of_mem hx
    rw [List.length_drop] at hk
    have := h2 (i + k) (by omega) (by omega)
    rw [List.getElem_drop]
    rwa [List.getD_eq_getElem?_getD, List.getElem?_eq_getElem (by omega)] at this
  conv => lhs; rw [← List.take_append_drop i l, List.filter_append]
  rw [e1, e2, List.nil_append]
/-- The list rises strictly by the key. -/
def Rise (k : α → Int) (l : List α) : Prop := ∀ i j, i < j → j < l.length → k (l.getD i default) < k (l.getD j default)
theorem rise_of {k : α → Int} {l : List α} (h : ∀ i, i < l.length → 0 < i → k (l.getD (i - 1) default) < k (l.getD i default)) : Rise k l := by
  intro i j hij
  induction j with
  | zero => omega
  | succ j ih =>
    intro hj
    have h1 := h (j + 1) hj (by omega)
    rw [Nat.add_sub_cancel] at h1
    rcases Nat.lt_or_ge i j with h2 | h2
    · have := ih h2 (by omega); omega
    · rw [show i = j by omega]; exact h1
/-- An element in its place, in place of one with its key. -/
def updK (k : α → Int) (l : List α) (x : α) : List α := (l.filter fun a => decide (k a < k x)) ++ x :: l.filter fun a => decide (k x < k a)
theorem updK_new {k : α → Int} {l : List α} {x : α} {i : Nat} (hi : i ≤ l.length) (h1 : ∀ a, a < i → k (l.getD a default) < k x) (h2 : ∀ a, i ≤ a → a < l.length → k x < k (l.getD a default)) : updK k l x = insAt l i x := by
  unfold updK insAt
  rw [filter_pre hi (fun a ha => decide_eq_true (h1 a ha)) (fun a ha hl => decide_eq_false (by have := h2 a ha hl; omega)),
    filter_suf hi (fun a ha => decide_eq_false (by have := h1 a ha; omega)) (fun a ha hl => decide_eq_true (h2 a ha hl))]
theorem updK_old {k : α → Int} {l : List α} {x : α} {i : Nat} (hi : i < l.length) (hr : Rise k l) (he : k (l.getD i default) = k x) : updK k l x = l.set i x := by
  have e1 : (l.filter fun a => decide (k a < k x)) = l.take i := by
    refine filter_pre (by omega) (fun a ha => decide_eq_true ?_) (fun a ha hl => decide_eq_false ?_)
    · have := hr a i ha hi; omega
    · rcases Nat.lt_or_ge i a with h | h
      · have := hr i a h hl; omega
      · rw [show a = i by omega]; omega
  have e2 : (l.filter fun a => decide (k x < k a)) = l.drop (i + 1) := by
    refine filter_suf (by omega) (fun a ha => decide_eq_false ?_) (fun a ha hl => decide_eq_true ?_)
    · rcases Nat.lt_or_ge a i with h | h
      · have := hr a i h hi; omega
      · rw [show a = i by omega]; omega
    · have := hr i a ha hl; omega
  unfold updK
  rw [e1, e2]
  rw [List.set_eq_take_append_cons_drop, if_pos hi]
/-- A search by halves in a list that rises. -/
theorem bsK_spec {k : α → Int} {l : List α} (hr : Rise k l) (v : Int) : bs (fun i => decide (k (l.getD i default) < v)) 0 l.length ≤ l.length ∧
    (∀ a, a < bs (fun i => decide (k (l.getD i default) < v)) 0 l.length → k (l.getD a default) < v) ∧ ∀ a, bs (fun i => decide (k (l.getD i default) < v)) 0 l.length ≤ a → a < l.length → v ≤ k (l.getD a default) := by
  obtain ⟨h1, h2, h3⟩ := bs_spec (f := fun i => decide (k (l.getD i default) < v)) (n := l.length) (fun a b hab hb hf => by
    have h4 := hr a b hab hb
    have h5 := of_decide_eq_true hf
    exact decide_eq_true (by omega))
  refine ⟨h1, fun a ha => of_decide_eq_true (h2 a ha), fun a ha hl => ?_⟩
  have := of_decide_eq_false (h3 a ha hl)
  omega
def bsK (k : α → Int) (l : List α) (v : Int) : Nat := bs (fun i => decide (k (l.getD i default) < v)) 0 l.length
def fdK (k : α → Int) (l : List α) (v : Int) : Bool := decide (bsK k l v < l.length) && decide (k (l.getD (bsK k l v) default) = v)
theorem updK_bs {k : α → Int} {l : List α} {x : α} (hr : Rise k l) : updK k l x = if fdK k l (k x) = true then l.set (bsK k l (k x)) x else insAt l (bsK k l (k x)) x := by
  obtain ⟨h1, h2, h3⟩ := bsK_spec hr (k x)
  split
  · rename_i h
    simp only [fdK, Bool.and_eq_true, decide_eq_true_eq] at h
    exact updK_old h.1 hr h.2
  · rename_i h
    refine updK_new h1 h2 fun a ha hl => ?_
    have h4 := h3 a ha hl
    rcases Nat.lt_or_ge (bsK k l (k x)) a with h5 | h5
    · have h6 := hr _ _ h5 hl
      have h7 := h3 (bsK k l (k x)) (Nat.le_refl _) (by omega)
      omega
    · have h6 : a = bsK k l (k x) := by
        have : bsK k l (k x) ≤ a := ha
        omega
      subst h6
      have : ¬ k (l.getD (bsK k l (k x)) default) = k x := fun e => h (by simp only [fdK, Bool.and_eq_true, decide_eq_true_eq]; exact ⟨hl, e⟩)
      omega
end
end Go.Sx
/-
  Sx: strings put one behind the other.
-/
namespace Go.Sx
set_option linter.unusedSimpArgs false
set_option linter.unusedVariables false
open Go Go.RowKit
section
variable {P : Program} {N : Nat} {E : Env P N} {ops : Array Oper} {dr : Bool} {rest : List Oper} {σ : St} {tr : Trace} {K : St → Prop}
  {d : Nat} {t yt ty : TypeId} {pos : String} {af : Array Edge} {gd : Option (Nat × Bool)} {gR : Upds} {x y z : Operand} {ti : TyI}
end
end Go.Sx
