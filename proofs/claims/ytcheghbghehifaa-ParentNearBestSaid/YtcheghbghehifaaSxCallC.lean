/-
  Sx, part 9: the state behind a call; lending; the rules.
-/
import Derived.Test.YtcheghbghehifaaSxCallB
namespace Go.Sx
open Go Go.RowKit

section
variable {P : Program} {N : Nat} {E : Env P N} {σ : St} {a : Act} {w w' : World} {ρ ρ' : Nat → RI} {Im Im' ImL : Nat → Prop}

/-- What the state is behind a call that began in 'w' with the immutable blocks 'ImL' and left 'bo' new in 'w''. -/
theorem SatAt.after (h : SatAt E σ a w ρ Im) {bo : List (Nat × Blk)} {res : AV} {v : Value} {k : Nat} (hm : MemAt (⟨w, ImL, fun _ => False⟩ : Env P 0) (stOf [] bo) w' ρ' Im')
    (hr : RepA (⟨w, ImL, fun _ => False⟩ : Env P 0) ρ' w' Im' res v) (hfl : (∀ b, ImL b → Im b) ∨ (res.flat = true ∧ bo.all (fun p => p.2.flat) = true)) (hpl : res.plain = true)
    (hwf : wfRes res bo = true) (hfresh : ∀ p ∈ bo, σ (.b (k + p.1)) = none) :
    ∃ ρ'' Im'', SatAt E (σ.upds (newB k bo)) a w' ρ'' Im'' ∧ RepA E ρ'' w' Im'' (res.shift k) v ∧ ∀ nm, (res.shift k).mentions nm = true → σ.upds (newB k bo) (.b nm) ≠ none := by
  simp only [wfRes, Bool.and_eq_true, List.all_eq_true] at hwf
  obtain ⟨⟨⟨hsh, hresn⟩, hbon⟩, hnd⟩ := hwf
  let isNew : Nat → Bool := fun n => Nat.ble k n && (lookL bo (n - k)).isSome
  let ρ'' : Nat → RI := fun n => if isNew n = true then ρ' (n - k) else ρ n
  let Im'' : Nat → Prop := fun b => Im b ∨ (Im' b ∧ w.heap.size ≤ b)
  have hkeep : Keep w (fun _ => False) w' := hm.keep
  have hsize : w.heap.size ≤ w'.heap.size := hkeep.size
  have hblk : ∀ b, b < w.heap.size → w'.heap[b]? = w.heap[b]? := fun b hb => hkeep.block b hb (fun h => h)
  have hnewρ : ∀ n, (lookL bo n).isSome = true → ρ'' (k + n) = ρ' n := fun n hn => by
    have : isNew (k + n) = true := by simp [isNew, hn]
    simp only [ρ'', this, if_true, Nat.add_sub_cancel_left]
  have hisNew : ∀ n, isNew n = true → ∃ m b, n = k + m ∧ lookL bo m = some b := fun n hn => by
    simp only [isNew, Bool.and_eq_true] at hn
    have h1 : k ≤ n := by simpa using hn.1
    obtain ⟨b, hb⟩ := Option.isSome_iff_exists.1 hn.2
    exact ⟨n - k, b, by omega, hb⟩
  have hfreshN : ∀ n, isNew n = true → σ (.b n) = none := fun n hn => by
    obtain ⟨m, b, rfl, hb⟩ := hisNew n hn
    exact hfresh _ (lookL_mem hb)
  have holdρ : ∀ n, σ (.b n) ≠ none → ρ'' n = ρ n := fun n hn => by
    have : isNew n = false := by
      cases hi : isNew n with
      | false => rfl
      | true => exact absurd (hfreshN n hi) hn
    simp only [ρ'', this, Bool.false_eq_true, if_false]
  have hσ : ∀ n, isNew n = false → σ.upds (newB k bo) (.b n) = σ (.b n) := fun n hn => upds_newB_old k n bo σ fun p hp e => by
    have : isNew n = true := by simp only [isNew, ← e, Nat.add_sub_cancel_left, lookL_of_mem hp]; simp
    rw [hn] at this; cases this
  have hσn : ∀ n b, lookL bo n = some b → σ.upds (newB k bo) (.b (k + n)) = some (.k (b.shift k)) := upds_newB_new k bo σ hnd
  have hIm'' : ∀ b, Im b → Im'' b ∧ w'.heap[b]? = w.heap[b]? := fun b hb => ⟨.inl hb, hblk b (h.im b hb).2.1⟩
  have hcar : ∀ fl, ((res.flat = true ∧ bo.all (fun p => p.2.flat) = true) → fl = true) → Carries w' w' Im' Im'' fl := fun fl hf => by
    rcases hfl with hl | hl
    · right
      intro b hb
      refine ⟨?_, rfl⟩
      rcases (hm.im b hb).1 with h1 | h1
      · exact .inl (hl b h1)
      · exact .inr ⟨hb, h1⟩
    · exact .inl (hf hl)
  -- a live item of the new state: an old one, or a new one
  have hcase : ∀ n b, σ.upds (newB k bo) (.b n) = some (.k b) → (isNew n = false ∧ σ (.b n) = some (.k b)) ∨ ∃ m b', n = k + m ∧ lookL bo m = some b' ∧ b = b'.shift k := fun n b hb => by
    cases hi : isNew n with
    | false => rw [hσ n hi] at hb; exact .inl ⟨rfl, hb⟩
    | true =>
      obtain ⟨m, b', rfl, hb'⟩ := hisNew n hi
      rw [hσn m b' hb'] at hb
      injection hb with hb; injection hb with hb
      exact .inr ⟨m, b', rfl, hb', hb.symm⟩
  have hst : ∀ m b', lookL bo m = some b' → stOf [] bo (.b m) = some (.k b') := fun m b' hb => by simp [stOf, hb]
  have hlive : ∀ b : Blk, (b.shift k).live = b.live := fun b => by cases b <;> rfl
  refine ⟨ρ'', Im'', ⟨fun t x hx => ?_, fun n b hb => ?_, fun n b hb hl hn => ?_, fun n1 n2 b1 b2 h1 h2 l1 l2 i1 i2 hne => ?_, fun b hb => ?_, fun kk it hk n hn => ?_, h.defers, h.size, ?_⟩, ?_, fun nm hn => ?_⟩
  · rw [upds_newB_s] at hx
    exact RepA.keep hIm'' (fun n hn => holdρ n (h.wf _ _ hx n hn)) (h.fr t x hx)
  · rcases hcase n b hb with ⟨_, hb0⟩ | ⟨m, b', rfl, hb', rfl⟩
    · exact BlkOK.keep hIm'' (holdρ n (by rw [hb0]; simp)) (fun hnil hl => hblk _ (h.own n b hb0 hl hnil).1) (fun n' hn' => holdρ n' (h.wf _ _ hb0 n' hn')) (h.bk n b hb0)
    · refine Blk.shift_ok (hcar _ fun hf => ?_) (hnewρ m (by rw [hb']; rfl)) (fun _ _ => rfl) (fun n hn => hnewρ n (hbon _ (lookL_mem hb') n hn)) (hm.bk m b' (hst m b' hb'))
      exact List.all_eq_true.1 hf.2 _ (lookL_mem hb')
  · rcases hcase n b hb with ⟨_, hb0⟩ | ⟨m, b', rfl, hb', rfl⟩
    · rw [holdρ n (by rw [hb0]; simp)] at hn ⊢
      obtain ⟨h1, h2⟩ := h.own n b hb0 hl hn
      exact ⟨by omega, h2⟩
    · rw [hnewρ m (by rw [hb']; rfl)] at hn ⊢
      rw [hlive] at hl
      obtain ⟨h1, h2⟩ := hm.own m b' (hst m b' hb') hl hn
      rcases h2 with h2 | h2
      · exact h2.elim
      · have : w.heap.size ≤ (ρ' m).blk := h2
        exact ⟨h1, .inr (Nat.le_trans h.keep.size this)⟩
  · rcases hcase n1 b1 h1 with ⟨_, hb1⟩ | ⟨m1, c1, rfl, hc1, rfl⟩ <;> rcases hcase n2 b2 h2 with ⟨_, hb2⟩ | ⟨m2, c2, rfl, hc2, rfl⟩
    · rw [holdρ n1 (by rw [hb1]; simp)] at i1 ⊢
      rw [holdρ n2 (by rw [hb2]; simp)] at i2 ⊢
      exact h.inj n1 n2 b1 b2 hb1 hb2 l1 l2 i1 i2 hne
    · rw [holdρ n1 (by rw [hb1]; simp)] at i1 ⊢
      rw [hnewρ m2 (by rw [hc2]; rfl)] at i2 ⊢
      rw [hlive] at l2
      have e1 := (h.own n1 b1 hb1 l1 i1).1
      rcases (hm.own m2 c2 (hst m2 c2 hc2) l2 i2).2 with e2 | e2
      · exact e2.elim
      · have : w.heap.size ≤ (ρ' m2).blk := e2
        omega
    · rw [hnewρ m1 (by rw [hc1]; rfl)] at i1 ⊢
      rw [holdρ n2 (by rw [hb2]; simp)] at i2 ⊢
      rw [hlive] at l1
      have e1 := (h.own n2 b2 hb2 l2 i2).1
      rcases (hm.own m1 c1 (hst m1 c1 hc1) l1 i1).2 with e2 | e2
      · exact e2.elim
      · have : w.heap.size ≤ (ρ' m1).blk := e2
        omega
    · rw [hnewρ m1 (by rw [hc1]; rfl)] at i1 ⊢
      rw [hnewρ m2 (by rw [hc2]; rfl)] at i2 ⊢
      rw [hlive] at l1 l2
      exact hm.inj m1 m2 c1 c2 (hst _ _ hc1) (hst _ _ hc2) l1 l2 i1 i2 (fun e => hne (by rw [e]))
  · rcases hb with hb | ⟨hb, hge⟩
    · obtain ⟨h1, h2, h3⟩ := h.im b hb
      refine ⟨h1, by omega, fun n bk hk hl hn => ?_⟩
      rcases hcase n bk hk with ⟨_, hb0⟩ | ⟨m, c, rfl, hc, rfl⟩
      · rw [holdρ n (by rw [hb0]; simp)] at hn ⊢
        exact h3 n bk hb0 hl hn
      · rw [hnewρ m (by rw [hc]; rfl)] at hn ⊢
        rw [hlive] at hl
        rcases (hm.own m c (hst m c hc) hl hn).2 with e2 | e2
        · exact e2.elim
        · have : w.heap.size ≤ (ρ' m).blk := e2
          omega
    · obtain ⟨_, h2, h3⟩ := hm.im b hb
      refine ⟨.inr (Nat.le_trans h.keep.size hge), h2, fun n bk hk hl hn => ?_⟩
      rcases hcase n bk hk with ⟨_, hb0⟩ | ⟨m, c, rfl, hc, rfl⟩
      · rw [holdρ n (by rw [hb0]; simp)] at hn ⊢
        have := (h.own n bk hb0 hl hn).1
        omega
      · rw [hnewρ m (by rw [hc]; rfl)] at hn ⊢
        rw [hlive] at hl
        exact h3 m c (hst m c hc) hl hn
  · cases hi : isNew n with
    | true =>
      obtain ⟨m, b', rfl, hb'⟩ := hisNew n hi
      rw [hσn m b' hb']
      simp
    | false =>
      rw [hσ n hi]
      cases kk with
      | s t => rw [upds_newB_s] at hk; exact h.wf _ _ hk n hn
      | b n' =>
        cases it with
        | v x =>
          -- no block's key holds a value: an old one, then
          cases hi' : isNew n' with
          | false => rw [hσ n' hi'] at hk; exact h.wf _ _ hk n hn
          | true =>
            obtain ⟨m, b', rfl, hb'⟩ := hisNew n' hi'
            rw [hσn m b' hb'] at hk
            injection hk with hk; cases hk
        | k b =>
          rcases hcase n' b hk with ⟨_, hb0⟩ | ⟨m, b', rfl, hb', rfl⟩
          · exact h.wf _ _ hb0 n hn
          · exfalso
            -- a name in a new block is a new one
            have hmn : ∃ q ∈ b'.names, n = k + q := by
              have := Blk.mem_names hn
              cases b' with
              | box cs =>
                simp only [Blk.shift, Blk.names, List.mem_flatMap, List.mem_map] at this
                obtain ⟨c, ⟨c', hc', rfl⟩, hcn⟩ := this
                cases c' with
                | d x => simp [C.shift, C.names] at hcn
                | ptr q o => simp only [C.shift, C.names, List.mem_singleton] at hcn; exact ⟨q, List.mem_flatMap.2 ⟨_, hc', by simp [C.names]⟩, hcn⟩
                | row q o => simp only [C.shift, C.names, List.mem_singleton] at hcn; exact ⟨q, List.mem_flatMap.2 ⟨_, hc', by simp [C.names]⟩, hcn⟩
              | row T sz xs =>
                simp only [Blk.shift, Blk.names, List.mem_flatMap, List.mem_map] at this
                obtain ⟨cs, ⟨cs', hcs', rfl⟩, c, hc, hcn⟩ := this
                obtain ⟨c', hc', rfl⟩ := List.mem_map.1 hc
                cases c' with
                | d x => simp [C.shift, C.names] at hcn
                | ptr q o => simp only [C.shift, C.names, List.mem_singleton] at hcn; exact ⟨q, List.mem_flatMap.2 ⟨cs', hcs', List.mem_flatMap.2 ⟨_, hc', by simp [C.names]⟩⟩, hcn⟩
                | row q o => simp only [C.shift, C.names, List.mem_singleton] at hcn; exact ⟨q, List.mem_flatMap.2 ⟨cs', hcs', List.mem_flatMap.2 ⟨_, hc', by simp [C.names]⟩⟩, hcn⟩
              | dead => simp [Blk.shift, Blk.names] at this
            obtain ⟨q, hq, rfl⟩ := hmn
            have : isNew (k + q) = true := by
              have := hbon _ (lookL_mem hb') q hq
              simp [isNew, this]
            rw [hi] at this; cases this
  · exact h.keep.step hkeep.os hkeep.tape hkeep.output hsize (fun b hb _ => hblk b (by have := h.keep.size; omega))
  · exact AV.shift_ok hpl (hcar _ fun hf => hf.1) (fun n hn => hnewρ n (hresn n hn)) hr
  · have hnn : ∃ q ∈ res.names, nm = k + q := by
      have hcs : ∀ cs : List C, (cs.map (C.shift k)).any (·.mentions nm) = true → ∃ q ∈ cs.flatMap C.names, nm = k + q := fun cs hcs => by
        have := Cs.mem_names hcs
        simp only [List.mem_flatMap, List.mem_map] at this
        obtain ⟨c, ⟨c', hc', rfl⟩, hcn⟩ := this
        cases c' with
        | d x => simp [C.shift, C.names] at hcn
        | ptr q o => simp only [C.shift, C.names, List.mem_singleton] at hcn; exact ⟨q, List.mem_flatMap.2 ⟨_, hc', by simp [C.names]⟩, hcn⟩
        | row q o => simp only [C.shift, C.names, List.mem_singleton] at hcn; exact ⟨q, List.mem_flatMap.2 ⟨_, hc', by simp [C.names]⟩, hcn⟩
      have h0 : ∀ y : AV, y.plain0 = true → (y.shift0 k).mentions0 nm = true → ∃ q ∈ y.names0, nm = k + q := fun y hp hy => by
        cases y with
        | c x =>
          obtain ⟨q, hq, e⟩ := hcs [x] (by simpa [AV.mentions0, AV.shift0] using hy)
          exact ⟨q, by simpa [AV.names0] using hq, e⟩
        | agg cs => exact hcs cs hy
        | tup vs => cases hp
        | ep g m => cases hy
        | rp n sz i o => have : k + n = nm := by simpa [AV.mentions0, AV.shift0] using hy
                         exact ⟨n, by simp [AV.names0], this.symm⟩
        | clo φ => cases hp
        | fnc f caps => cases hp
      cases res with
      | tup vs =>
        simp only [AV.shift, AV.mentions, List.any_map, List.any_eq_true] at hn
        obtain ⟨y, hy, hm⟩ := hn
        simp only [AV.plain, List.all_eq_true] at hpl
        obtain ⟨q, hq, e⟩ := h0 y (hpl y hy) hm
        exact ⟨q, List.mem_flatMap.2 ⟨y, hy, hq⟩, e⟩
      | c x => exact h0 (.c x) hpl hn
      | agg cs => exact h0 (.agg cs) hpl hn
      | ep g m => exact h0 (.ep g m) hpl hn
      | rp n sz i o => exact h0 (.rp n sz i o) hpl hn
      | clo φ => cases hpl
      | fnc f caps => cases hpl
    obtain ⟨q, hq, rfl⟩ := hnn
    obtain ⟨b, hb⟩ := Option.isSome_iff_exists.1 (hresn q hq)
    rw [hσn q b hb]
    simp
end

end Go.Sx
