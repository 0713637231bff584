/-
  Sx, part 5: the call's own boxes: new ones, loads, stores, the addresses of fields; struct literals.
-/
import Derived.Test.YtcheghbghehifaaSxOpsA
namespace Go.Sx
open Go Go.RowKit

/-! ## What is known of a type -/

/-- The shape of a type: of a struct its fields' offsets and types. -/
inductive TK where
  | bool
  | int (k : IntKind)
  | string
  | slice (e : TypeId)
  | array (n : Nat) (e : TypeId)
  | struct (fs : List (Nat × TypeId))
  | pointer (e : TypeId)
  | map (k e : TypeId)
  | other

def TK.fits : TK → TypeDesc → Bool
  | .bool, .bool => true
  | .int k, .int k' => decide (k = k')
  | .string, .string => true
  | .slice e, .slice e' => Nat.beq e e'
  | .array n e, .array n' e' => Nat.beq n n' && Nat.beq e e'
  | .struct fs, .struct fs' => decide (fs'.toList.map (fun f => (f.offset, f.type)) = fs)
  | .pointer e, .pointer e' => Nat.beq e e'
  | .map k e, .map k' e' => Nat.beq k k' && Nat.beq e e'
  | .other, .struct _ => false
  | .other, .array _ _ => false
  | .other, _ => true
  | _, _ => false

structure TyI where
  k : TK
  size : Nat
  bytes : Nat
  zero : Value

def TyI.isAgg (ti : TyI) : Bool :=
  match ti.k with
  | .struct _ => true
  | .array _ _ => true
  | _ => false

class TyOK (P : Program) (t : TypeId) (ti : outParam TyI) : Prop where
  und : ((P.underlying t).map ti.k.fits) = some true
  info : (P.info? t).map (fun i => (i.size, i.bytes, i.zero)) = some (ti.size, ti.bytes, some ti.zero)

section
variable {P : Program} {t : TypeId} {ti : TyI}

theorem TyOK.get (h : TyOK P t ti) : ∃ i, P.info? t = some i ∧ i.size = ti.size ∧ i.bytes = ti.bytes ∧ i.zero = some ti.zero := by
  have := h.info
  cases hi : P.info? t with
  | none => rw [hi] at this; cases this
  | some i =>
    rw [hi] at this
    simp only [Option.map_some, Option.some.injEq, Prod.mk.injEq] at this
    exact ⟨i, rfl, this.1, this.2.1, this.2.2⟩

theorem TyOK.run_size (h : TyOK P t ti) (w : World) : (sizeOf t).run P w = .ok ti.size w := by
  obtain ⟨i, h1, h2, _, _⟩ := h.get
  simp [sizeOf, typeInfo, h1, h2]

theorem TyOK.desc (h : TyOK P t ti) : ∃ d, P.underlying t = some d ∧ ti.k.fits d = true := by
  have := h.und
  cases hu : P.underlying t with
  | none => rw [hu] at this; cases this
  | some d => rw [hu] at this; exact ⟨d, rfl, by simpa using this⟩

theorem TyOK.slice {e : TypeId} (h : TyOK P t ti) (hk : ti.k = .slice e) : P.underlying t = some (.slice e) := by
  obtain ⟨d, hu, hf⟩ := h.desc
  rw [hk] at hf
  cases d <;> simp [TK.fits] at hf
  rw [hu, hf]

theorem TyOK.array {n : Nat} {e : TypeId} (h : TyOK P t ti) (hk : ti.k = .array n e) : P.underlying t = some (.array n e) := by
  obtain ⟨d, hu, hf⟩ := h.desc
  rw [hk] at hf
  cases d <;> simp [TK.fits] at hf
  rw [hu, hf.1, hf.2]

theorem TyOK.int {k : IntKind} (h : TyOK P t ti) (hk : ti.k = .int k) : P.underlying t = some (.int k) := by
  obtain ⟨d, hu, hf⟩ := h.desc
  rw [hk] at hf
  cases d <;> simp [TK.fits] at hf
  rw [hu, hf]

theorem TyOK.bool (h : TyOK P t ti) (hk : ti.k = .bool) : P.underlying t = some .bool := by
  obtain ⟨d, hu, hf⟩ := h.desc
  rw [hk] at hf
  cases d <;> simp [TK.fits] at hf
  rw [hu]

theorem TyOK.string (h : TyOK P t ti) (hk : ti.k = .string) : P.underlying t = some .string := by
  obtain ⟨d, hu, hf⟩ := h.desc
  rw [hk] at hf
  cases d <;> simp [TK.fits] at hf
  rw [hu]

theorem TyOK.map {k e : TypeId} (h : TyOK P t ti) (hk : ti.k = .map k e) : P.underlying t = some (.map k e) := by
  obtain ⟨d, hu, hf⟩ := h.desc
  rw [hk] at hf
  cases d <;> simp [TK.fits] at hf
  rw [hu, hf.1, hf.2]

theorem TyOK.struct {fl : List (Nat × TypeId)} (h : TyOK P t ti) (hk : ti.k = .struct fl) : ∃ fs : Array Field, P.underlying t = some (.struct fs) ∧ fs.toList.map (fun f => (f.offset, f.type)) = fl := by
  obtain ⟨d, hu, hf⟩ := h.desc
  rw [hk] at hf
  cases d <;> simp [TK.fits] at hf
  exact ⟨_, hu, hf⟩

theorem TyOK.field {fl : List (Nat × TypeId)} (h : TyOK P t ti) (hk : ti.k = .struct fl) {f off ft : Nat} (hf : fl[f]? = some (off, ft)) :
    ∃ (fs : Array Field) (fd : Field), P.underlying t = some (.struct fs) ∧ fs[f]? = some fd ∧ fd.offset = off ∧ fd.type = ft := by
  obtain ⟨fs, hu, hl⟩ := h.struct hk
  rw [← hl, List.getElem?_map, Option.map_eq_some_iff] at hf
  obtain ⟨fd, h1, h2⟩ := hf
  injection h2 with h2 h3
  exact ⟨fs, fd, hu, by simpa using h1, h2, h3⟩

theorem TyOK.run_agg (h : TyOK P t ti) (w : World) : (isAgg t).run P w = .ok ti.isAgg w := by
  obtain ⟨d, hu, hf⟩ := h.desc
  simp only [isAgg, Sem.run_bind, run_underlying hu, Result.andThen_ok, TyI.isAgg]
  revert hf
  cases ti.k <;> cases d <;> intro hf <;> first | rfl | (simp [TK.fits] at hf)

theorem TyOK.run_zero (h : TyOK P t ti) (w : World) : (zeroValue t).run P w = .ok ti.zero w := by
  obtain ⟨i, h1, _, _, h4⟩ := h.get
  simp [zeroValue, typeInfo, h1, h4]
end

/-! ## Cells of abstract values -/

def AV.cells : AV → Option (List C)
  | .c x => some [x]
  | .agg cs => some cs
  | _ => none

theorem AV.cells_ok {P : Program} {N : Nat} {E : Env P N} {ρ : Nat → RI} {w : World} {Im : Nat → Prop} {x : AV} {v : Value} {cs : List C} (h : RepA E ρ w Im x v) (hc : x.cells = some cs) :
    ∃ us : List Value, v.cells = us.toArray ∧ All2 (RepC ρ w Im) cs us := by
  cases x with
  | c x =>
    simp only [AV.cells, Option.some.injEq] at hc
    subst hc
    have h : RepC ρ w Im x v := h
    refine ⟨[v], ?_, .cons h .nil⟩
    have := h.one
    cases v <;> first | rfl | (simp [Value.oneCell'] at this)
  | agg cs' =>
    simp only [AV.cells, Option.some.injEq] at hc
    subst hc
    obtain ⟨us, rfl, ha⟩ := h
    exact ⟨us, rfl, ha⟩
  | _ => cases hc

theorem AV.cells_mentions {x : AV} {cs : List C} (hc : x.cells = some cs) (nm : Nat) : x.mentions nm = cs.any (·.mentions nm) := by
  cases x with
  | c x => simp only [AV.cells, Option.some.injEq] at hc; subst hc; simp [AV.mentions, AV.mentions0]
  | agg cs' => simp only [AV.cells, Option.some.injEq] at hc; subst hc; rfl
  | _ => cases hc

theorem all2_one {ρ : Nat → RI} {w : World} {Im : Nat → Prop} {cs : List C} {us : List Value} (h : All2 (RepC ρ w Im) cs us) : ∀ u ∈ us, u.oneCell' = true := by
  induction h with
  | nil => intro u hu; cases hu
  | cons hr _ ih =>
    intro u hu
    rcases List.mem_cons.1 hu with rfl | hu
    · exact hr.one
    · exact ih u hu

def constC (v : Value) : Option C :=
  match constAV v with
  | some (.c x) => some x
  | _ => none

def zeroCs (v : Value) : Option (List C) := v.cells.toList.mapM constC

theorem mapM_some {α β : Type} {f : α → Option β} : ∀ {l : List α} {l' : List β}, l.mapM f = some l' → All2 (fun b a => f a = some b) l' l
  | [], l', h => by simp at h; subst h; exact .nil
  | a :: l, l', h => by
    rw [List.mapM_cons] at h
    cases hf : f a with
    | none => rw [hf] at h; cases h
    | some b =>
      rw [hf] at h
      cases hm : l.mapM f with
      | none => rw [hm] at h; cases h
      | some bs =>
        rw [hm] at h
        injection h with h
        subst h
        exact .cons hf (mapM_some hm)

theorem constC_ok {ρ : Nat → RI} {w : World} {Im : Nat → Prop} {v : Value} {x : C} (h : constC v = some x) : RepC ρ w Im x v ∧ ∀ nm, x.mentions nm = false := by
  unfold constC at h
  split at h
  · rename_i y hy
    injection h with h; subst h
    unfold constAV at hy
    split at hy <;> first
      | (injection hy with hy; injection hy with hy; subst hy; exact ⟨rfl, fun _ => rfl⟩)
      | (injection hy with hy; injection hy with hy; subst hy; exact ⟨⟨rfl, rfl⟩, fun _ => rfl⟩)
      | cases hy
  · cases h

theorem zeroCs_ok {ρ : Nat → RI} {w : World} {Im : Nat → Prop} {v : Value} {cs : List C} (h : zeroCs v = some cs) : All2 (RepC ρ w Im) cs v.cells.toList ∧ ∀ nm, cs.any (·.mentions nm) = false := by
  have := mapM_some h
  refine ⟨this.imp fun a _ b hab => (constC_ok hab).1, fun nm => ?_⟩
  rw [List.any_eq_false]
  intro c hc
  obtain ⟨i, hi⟩ := List.mem_iff_getElem?.1 hc
  obtain ⟨b, _, hb⟩ := this.get hi
  simp [(constC_ok (ρ := ρ) (w := w) (Im := Im) hb).2 nm]

/-! ## A new block -/

def setR (ρ : Nat → RI) (nm : Nat) (r : RI) : Nat → RI := fun n => if n = nm then r else ρ n

theorem SatAt.newblk {P : Program} {N : Nat} {E : Env P N} {σ : St} {a : Act} {w : World} {ρ : Nat → RI} {Im : Nat → Prop} (h : SatAt E σ a w ρ Im) {nm : Nat} (hfresh : σ (.b nm) = none) (o : Obj) (cap : Nat) {blk : Blk}
    (hb : BlkOK (setR ρ nm ⟨w.heap.size, cap, false⟩) (w.alloc o) Im nm blk) (hm : ∀ n, blk.mentions n = true → n = nm ∨ σ (.b n) ≠ none) :
    SatAt E (σ.upd (.b nm) (some (.k blk))) a (w.alloc o) (setR ρ nm ⟨w.heap.size, cap, false⟩) Im := by
  have hold : ∀ b, Im b → Im b ∧ (w.alloc o).heap[b]? = w.heap[b]? := fun b hb => ⟨hb, Below.heap_alloc w o b (h.im b hb).2.1⟩
  have hρ : ∀ n, σ (.b n) ≠ none → setR ρ nm ⟨w.heap.size, cap, false⟩ n = ρ n := fun n hn => by
    unfold setR
    rw [if_neg (fun e => hn (by rw [e]; exact hfresh))]
  have hnew : setR ρ nm ⟨w.heap.size, cap, false⟩ nm = ⟨w.heap.size, cap, false⟩ := by simp [setR]
  have hother : ∀ n b, σ.upd (.b nm) (some (.k blk)) (.b n) = some (.k b) → n ≠ nm → σ (.b n) = some (.k b) := fun n b hb hn => by
    rwa [St.upd_other _ _ (by intro e; injection e with e; exact hn e.symm)] at hb
  refine ⟨fun t x hx => ?_, fun n b hb' => ?_, fun n b hb' hl hn => ?_, fun n1 n2 b1 b2 h1 h2 l1 l2 i1 i2 hne => ?_, fun b hb' => ⟨(h.im b hb').1, ?_, fun n bk hk hl hn => ?_⟩, fun k it hk n hn => ?_, h.defers, h.size, ?_⟩
  · rw [St.upd_other _ _ (by intro e; cases e)] at hx
    exact RepA.keep hold (fun n hn => hρ n (h.wf _ _ hx n hn)) (h.fr t x hx)
  · by_cases hn : n = nm
    · subst hn
      rw [St.upd_same] at hb'
      injection hb' with hb'; injection hb' with hb'; subst hb'
      exact hb
    · have hb0 := hother n b hb' hn
      refine BlkOK.keep hold (hρ n (by rw [hb0]; simp)) (fun hnil hlive => Below.heap_alloc w o _ ?_) (fun n' hn' => hρ n' (h.wf _ _ hb0 n' hn')) (h.bk n b hb0)
      exact (h.own n b hb0 hlive hnil).1
  · by_cases he : n = nm
    · subst he
      rw [hnew]
      exact ⟨by simp, .inr h.keep.size⟩
    · have hb0 := hother n b hb' he
      rw [hρ n (by rw [hb0]; simp)] at hn ⊢
      obtain ⟨h1, h2⟩ := h.own n b hb0 hl hn
      exact ⟨by simp; omega, h2⟩
  · by_cases e1 : n1 = nm
    · subst e1
      have e2 : n2 ≠ n1 := fun e => hne e.symm
      have hb0 := hother n2 b2 h2 e2
      rw [hρ n2 (by rw [hb0]; simp)] at i2 ⊢
      rw [hnew]
      have := (h.own n2 b2 hb0 l2 i2).1
      simp only; omega
    · have hb1 := hother n1 b1 h1 e1
      rw [hρ n1 (by rw [hb1]; simp)] at i1 ⊢
      by_cases e2 : n2 = nm
      · subst e2
        rw [hnew]
        have := (h.own n1 b1 hb1 l1 i1).1
        simp only; omega
      · have hb2 := hother n2 b2 h2 e2
        rw [hρ n2 (by rw [hb2]; simp)] at i2 ⊢
        exact h.inj n1 n2 b1 b2 hb1 hb2 l1 l2 i1 i2 hne
  · have := (h.im b hb').2.1; simp; omega
  · by_cases he : n = nm
    · subst he
      rw [hnew]
      have := (h.im b hb').2.1
      simp only; omega
    · have hb0 := hother n bk hk he
      rw [hρ n (by rw [hb0]; simp)] at hn ⊢
      exact (h.im b hb').2.2 n bk hb0 hl hn
  · by_cases he : n = nm
    · subst he; rw [St.upd_same]; simp
    · rw [St.upd_other _ _ (by intro e; injection e with e; exact he e.symm)]
      by_cases hkn : (Key.b nm) = k
      · subst hkn
        rw [St.upd_same] at hk
        injection hk with hk; subst hk
        exact (hm n hn).resolve_left he
      · rw [St.upd_other _ _ hkn] at hk
        exact h.wf k it hk n hn
  · exact h.keep.step rfl rfl rfl (by simp) (fun b hb _ => Below.heap_alloc w o b (by have := h.keep.size; omega))

/-- A live block's cells are written anew, as many as they were. -/
theorem SatAt.setblk {P : Program} {N : Nat} {E : Env P N} {σ : St} {a : Act} {w : World} {ρ : Nat → RI} {Im : Nat → Prop} (h : SatAt E σ a w ρ Im) {nm : Nat} {b0 blk : Blk} (h0 : σ (.b nm) = some (.k b0)) (hl0 : b0.live = true)
    (hnil : (ρ nm).isNil = false) (cur : Array Value)
    (hb : BlkOK ρ (w.setRow (ρ nm).blk cur) Im nm blk) (hm : ∀ n, blk.mentions n = true → σ (.b n) ≠ none) :
    SatAt E (σ.upd (.b nm) (some (.k blk))) a (w.setRow (ρ nm).blk cur) ρ Im := by
  have hold : ∀ b, Im b → Im b ∧ (w.setRow (ρ nm).blk cur).heap[b]? = w.heap[b]? := fun b hb =>
    ⟨hb, setRow_other w _ b cur (fun e => (h.im b hb).2.2 nm b0 h0 hl0 hnil e.symm)⟩
  have hother : ∀ n b, σ.upd (.b nm) (some (.k blk)) (.b n) = some (.k b) → n ≠ nm → σ (.b n) = some (.k b) := fun n b hb hn => by
    rwa [St.upd_other _ _ (by intro e; injection e with e; exact hn e.symm)] at hb
  have hown0 := h.own nm b0 h0 hl0 hnil
  refine ⟨fun t x hx => ?_, fun n b hb' => ?_, fun n b hb' hl hn => ?_, fun n1 n2 b1 b2 h1 h2 l1 l2 i1 i2 hne => ?_, fun b hb' => ⟨(h.im b hb').1, ?_, fun n bk hk hl hn => ?_⟩, fun k it hk n hn => ?_, h.defers, h.size, ?_⟩
  · rw [St.upd_other _ _ (by intro e; cases e)] at hx
    exact RepA.keep hold (fun _ _ => rfl) (h.fr t x hx)
  · by_cases hn : n = nm
    · subst hn
      rw [St.upd_same] at hb'
      injection hb' with hb'; injection hb' with hb'; subst hb'
      exact hb
    · have hb0 := hother n b hb' hn
      refine BlkOK.keep hold rfl (fun hnil' hlive => ?_) (fun _ _ => rfl) (h.bk n b hb0)
      refine setRow_other w _ _ cur (fun e => ?_)
      exact h.inj n nm b b0 hb0 h0 hlive hl0 hnil' hnil hn e
  · by_cases he : n = nm
    · subst he
      exact ⟨by simpa using hown0.1, hown0.2⟩
    · have hb0 := hother n b hb' he
      obtain ⟨h1, h2⟩ := h.own n b hb0 hl hn
      exact ⟨by simpa using h1, h2⟩
  · have get : ∀ n b, σ.upd (.b nm) (some (.k blk)) (.b n) = some (.k b) → b.live = true → ∃ b', σ (.b n) = some (.k b') ∧ b'.live = true := fun n b hb hl => by
      by_cases he : n = nm
      · subst he; exact ⟨b0, h0, hl0⟩
      · exact ⟨b, hother n b hb he, hl⟩
    obtain ⟨c1, hc1, hc1'⟩ := get n1 b1 h1 l1
    obtain ⟨c2, hc2, hc2'⟩ := get n2 b2 h2 l2
    exact h.inj n1 n2 c1 c2 hc1 hc2 hc1' hc2' i1 i2 hne
  · simpa using (h.im b hb').2.1
  · by_cases he : n = nm
    · subst he; exact (h.im b hb').2.2 n b0 h0 hl0 hn
    · exact (h.im b hb').2.2 n bk (hother n bk hk he) hl hn
  · by_cases he : n = nm
    · subst he; rw [St.upd_same]; simp
    · rw [St.upd_other _ _ (by intro e; injection e with e; exact he e.symm)]
      by_cases hkn : (Key.b nm) = k
      · subst hkn
        rw [St.upd_same] at hk
        injection hk with hk; subst hk
        exact hm n hn
      · rw [St.upd_other _ _ hkn] at hk
        exact h.wf k it hk n hn
  · refine h.keep.step rfl rfl rfl (by simp) (fun b hb hS => setRow_other w _ b cur (fun e => ?_))
    rcases hown0.2 with h1 | h1
    · rw [← e] at h1; exact hS h1
    · omega

end Go.Sx
