/-
  Sx, part 14: own rows: slice literals, elements' addresses, loads and stores.
-/
import Derived.Test.YtcheghbghehifaaSxBuild
namespace Go.Sx
open Go Go.RowKit

theorem fill_seq (size : Nat) : ∀ (qs : List Value) (k : Nat) (us : List Value), (∀ v ∈ qs, v.cells.size = size) → (k + qs.length) * size ≤ us.length →
    Instr.fill (fun i => some (i * size, size)) us.toArray (qs.zipIdx k |>.map fun p => (p.2, p.1)) = some (us.take (k * size) ++ (qs.map fun v => v.cells.toList).flatten ++ us.drop ((k + qs.length) * size)).toArray
  | [], k, us, _, h => by simp [Instr.fill]
  | v :: qs, k, us, hq, h => by
    have hv : v.cells.size = size := hq v (by simp)
    have hlen : (k + 1 + qs.length) * size ≤ us.length := by simpa [Nat.add_assoc, Nat.add_comm 1] using h
    have hk : k * size + size ≤ us.length := by
      have : (k + 1) * size ≤ (k + 1 + qs.length) * size := Nat.mul_le_mul_right _ (by omega)
      rw [Nat.succ_mul] at this
      omega
    rw [List.zipIdx_cons, List.map_cons, Instr.fill]
    simp only [hv, List.size_toArray]
    rw [if_neg (by simp; omega)]
    have hf := foldl_set (k * size) v.cells.toList 0 us (by simp [hv]; omega)
    have hz : v.cells.zipIdx = (v.cells.toList.zipIdx 0).toArray := by
      generalize v.cells = arr
      cases arr
      simp
    rw [hz]
    have hcs : v.cells.toList.length = size := by simpa using hv
    simp only [List.foldl_toArray, Nat.add_zero] at hf ⊢
    rw [hf, fill_seq size qs (k + 1) (putC us (k * size) v.cells.toList) (fun u hu => hq u (by simp [hu]))
      (by simp only [putC, List.length_append, List.length_take, List.length_drop, hcs]; omega)]
    congr 2
    have h1 : (putC us (k * size) v.cells.toList).take ((k + 1) * size) = us.take (k * size) ++ v.cells.toList := by
      unfold putC
      rw [Nat.succ_mul, List.take_append_of_le_length (by simp [hcs]; omega), List.take_of_length_le (by simp [hcs]; omega)]
    have h2 : (putC us (k * size) v.cells.toList).drop ((k + 1 + qs.length) * size) = us.drop ((k + (qs.length + 1)) * size) := by
      unfold putC
      have e1 : (k + 1 + qs.length) * size = k * size + size + qs.length * size := by simp [Nat.add_mul]
      have e2 : (k + (qs.length + 1)) * size = k * size + size + qs.length * size := by simp [Nat.add_mul]; omega
      rw [e1, e2, List.drop_append, List.drop_of_length_le (by simp [hcs]; omega)]
      simp [hcs]
      rw [Nat.min_eq_left (by omega)]
      congr 1
      omega
    rw [h1, h2]
    simp

/-- Parts that stand in their order. -/
def seqP : Nat → List (Nat × Operand) → Bool
  | _, [] => true
  | k, (i, _) :: l => Nat.beq i k && seqP (k + 1) l

section
variable {P : Program} {N : Nat} {E : Env P N} {ops : Array Oper} {dr : Bool} {rest : List Oper} {σ : St} {tr : Trace} {K : St → Prop}
  {d : Nat} {t yt ty te : TypeId} {pos : String} {af : Array Edge} {gd : Option (Nat × Bool)} {gR : Upds} {x y z : Operand} {ti ei : TyI}

theorem seqP_zip (a : Act) : ∀ (l : List (Nat × Operand)) (k : Nat), seqP k l = true → l.map (fun p => (p.1, a.eval p.2)) = ((l.map fun p => a.eval p.2).zipIdx k).map fun p => (p.2, p.1)
  | [], k, _ => rfl
  | (i, x) :: l, k, h => by
    simp only [seqP, Bool.and_eq_true] at h
    have := Nat.eq_of_beq_eq_true h.1
    subst this
    simp [seqP_zip a l _ h.2]

theorem all2_flatten {ρ : Nat → RI} {w : World} {Im : Nat → Prop} {ps : List (Nat × List C)} {qs : List (Nat × Value)}
    (hp : All2 (fun (p : Nat × List C) (q : Nat × Value) => p.1 = q.1 ∧ ∃ us : List Value, q.2.cells = us.toArray ∧ All2 (RepC ρ w Im) p.2 us) ps qs) :
    All2 (RepC ρ w Im) (ps.map Prod.snd).flatten (qs.map fun q => q.2.cells.toList).flatten := by
  induction hp with
  | nil => exact .nil
  | cons h _ ih =>
    obtain ⟨_, us, h1, h2⟩ := h
    simp only [List.map_cons, List.flatten_cons]
    rw [h1]
    exact h2.append ih

theorem vr_buildSlice {parts : List (Nat × Operand)} {n : Nat} {ps : List (Nat × List C)} [ht : TyOK P t ti] [het : TyOK P te ei] (hg : GOK N ops σ gd gR) (hk : ti.k = .slice te) (hps : evP σ parts = some ps)
    (hseq : seqP 0 parts = true) (hlen : (ps.all fun p => Nat.beq p.2.length ei.size) = true) (hn : Nat.beq parts.length n = true) (hmax : Nat.ble (n * ei.size) 16777216 = true) (hmaxn : Nat.ble n 16777216 = true) (hfresh : σ (.b d) = none) (hN : Nat.blt d N = true)
    (k : VR E ops dr rest ((σ.upd (.b d) (some (.k (.row te ei.size (ps.map Prod.snd))))).set d (.c (.row d n))) ((gR.map (·.1) ++ (opLK (parts.map Prod.snd) ++ [.b d]), [.b d, .s d]) :: tr) K) :
    VR E ops dr (⟨some d, .buildSlice t n parts.toArray, ty, pos, af, gd⟩ :: rest) σ tr K := by
  refine vr_do (R := opLR (parts.map Prod.snd) (evPA σ parts) ++ [(.b d, none)]) (U := [(.b d, some (.k (.row te ei.size (ps.map Prod.snd)))), (.s d, some (.v (.c (.row d n))))]) hg (fun σ' a w ρ Im hs hR K Q hK => ?_)
    (reads_append (opLR_ok (evP_L hps)) (by intro p hp; rw [List.mem_singleton] at hp; subst hp; exact hfresh)) (by rw [List.map_append, opLR_keys (evP_L hps)]; rfl) rfl k
  have hf : σ' (.b d) = none := hR (.b d, none) (by simp)
  have h1 := evP_of hps (evL_of (evP_L hps) fun p hp => hR p (List.mem_append_left _ hp))
  obtain ⟨h2, h3⟩ := evP_ok hs h1
  have hn' : parts.length = n := Nat.eq_of_beq_eq_true hn
  have hmax' : n * ei.size ≤ 16777216 := by simpa using hmax
  have hmaxn' : n ≤ 16777216 := by simpa using hmaxn
  have hu := ht.slice hk
  have hfl := all2_flatten h2
  have hqs : ∀ v ∈ parts.map (fun p => a.eval p.2), v.cells.size = ei.size := by
    intro v hv
    obtain ⟨p, hp, rfl⟩ := List.mem_map.1 hv
    obtain ⟨i, hi⟩ := List.mem_iff_getElem?.1 hp
    have hlp := h2.length
    simp only [List.length_map] at hlp
    have hi' : i < ps.length := by rw [hlp]; exact (List.getElem?_eq_some_iff.1 hi).1
    obtain ⟨q, hq, hr⟩ := h2.get (List.getElem?_eq_getElem hi')
    rw [List.getElem?_map, hi] at hq
    injection hq with hq
    subst hq
    obtain ⟨_, us, e1, e2⟩ := hr
    have := List.all_eq_true.1 hlen _ (List.getElem_mem hi')
    have := Nat.eq_of_beq_eq_true this
    simp only at e1
    rw [e1]
    simp only [List.size_toArray]
    rw [← e2.length, this]
  have hfill := fill_seq ei.size (parts.map fun p => a.eval p.2) 0
  unfold Oper.wp
  have hrun : (execOp a.eval ⟨some d, .buildSlice t n parts.toArray, ty, pos, af, gd⟩).run P w =
      .ok (.value (.slice (some ⟨w.heap.size, 0, none⟩) n n)) (w.alloc (.cells ((parts.map fun p => (a.eval p.2).cells.toList).flatten).toArray te)) := by
    have hm : (fun (x : Nat × Operand) => match x with | (i, x) => (i, a.eval x)) = fun (p : Nat × Operand) => (p.1, a.eval p.2) := by funext p; rfl
    have hpt : (parts.toArray.map fun (p : Nat × Operand) => (p.1, a.eval p.2)).toList = parts.map fun p => (p.1, a.eval p.2) := by simp
    have key : ∀ (us : List Value), us.length = n * ei.size → Instr.fill (fun i => some (i * ei.size, ei.size)) us.toArray (parts.map fun p => (p.1, a.eval p.2)) = some ((parts.map fun p => (a.eval p.2).cells.toList).flatten).toArray := by
      intro us hus
      rw [seqP_zip a parts 0 hseq, hfill us hqs (by simp [hn', hus])]
      congr 2
      simp only [Nat.zero_mul, List.take_zero, List.nil_append, List.length_map, Nat.zero_add, hn']
      rw [List.drop_of_length_le (by omega)]
      simp [Function.comp_def]
    simp only [execOp, Instr.buildSlice, Sem.run_bind, run_underlying hu, Result.andThen_ok, het.run_size]
    rw [if_neg (by show ¬ n * ei.size > 2 ^ 24; omega)]
    simp only [hpt]
    by_cases h0 : n * ei.size = 0
    · simp only [h0, if_true, Sem.run_bind, Sem.run_pure, Result.andThen_ok]
      have := key [] (by simp [h0])
      have e0 : (Array.range 0).map (fun x => (#[] : Array Value)[x % (#[] : Array Value).size]!) = ([] : List Value).toArray := by simp
      rw [e0, this]
      simp only [newRow, run_newObj, Sem.run_bind, Sem.run_pure, Result.andThen_ok]
      rfl
    · simp only [h0, if_false, Sem.run_bind, het.run_zero, Sem.run_pure, Result.andThen_ok]
      have := key ((Array.range (n * ei.size)).map (fun x => ei.zero.cells[x % ei.zero.cells.size]!)).toList (by simp)
      rw [Array.toArray_toList] at this
      rw [this]
      simp only [newRow, run_newObj, Sem.run_bind, Sem.run_pure, Result.andThen_ok]
      rfl
  rw [hrun]
  refine hK _ _ ?_
  have hnew : setR ρ d ⟨w.heap.size, n, false⟩ d = ⟨w.heap.size, n, false⟩ := by simp [setR]
  have hmm : ∀ nm, (Blk.row te ei.size (ps.map Prod.snd)).mentions nm = true → σ' (.b nm) ≠ none := fun nm hn => h3 nm (by simpa [Blk.mentions, List.any_map, Function.comp_def] using hn)
  have hcl : ((parts.map fun p => (a.eval p.2).cells.toList).flatten).length = n * ei.size := by
    have := hfl.length
    have e : (parts.map fun p => (p.1, a.eval p.2)).map (fun q => q.2.cells.toList) = parts.map fun p => (a.eval p.2).cells.toList := by simp [Function.comp_def]
    rw [e] at this
    rw [← this, List.length_flatten]
    have : ∀ l ∈ (ps.map Prod.snd).map List.length, l = ei.size := by
      intro l hl
      simp only [List.map_map, List.mem_map] at hl
      obtain ⟨p, hp, rfl⟩ := hl
      exact Nat.eq_of_beq_eq_true (List.all_eq_true.1 hlen p hp)
    rw [List.eq_replicate_of_mem this, List.sum_replicate_nat]
    simp only [List.length_map]
    have := h2.length
    simp only [List.length_map] at this
    rw [this, hn']
  have h4 : SatAt E (σ'.upd (.b d) (some (.k (.row te ei.size (ps.map Prod.snd))))) a (w.alloc (.cells ((parts.map fun p => (a.eval p.2).cells.toList).flatten).toArray te)) (setR ρ d ⟨w.heap.size, n, false⟩) Im := by
    refine hs.newblk hf _ n ?_ (fun nm hn => .inr (hmm nm hn))
    unfold BlkOK
    rw [hnew]
    simp only [Bool.false_eq_true, if_false]
    refine ⟨(parts.map fun p => (a.eval p.2).cells.toList).flatten, [], by simpa using heap_alloc_new w _, ?_, ?_, by simp [hcl], ?_, ?_⟩
    · have e : (parts.map fun p => (p.1, a.eval p.2)).map (fun q => q.2.cells.toList) = parts.map fun p => (a.eval p.2).cells.toList := by simp [Function.comp_def]
      rw [e] at hfl
      refine hfl.imp fun c hc u hr => RepC.keep (fun b hb => ⟨hb, Below.heap_alloc w _ b (hs.im b hb).2.1⟩) (fun nm hnm => ?_) hr
      have : σ' (.b nm) ≠ none := hmm nm (by
        simp only [Blk.mentions, List.any_eq_true]
        obtain ⟨l, hl, hcl⟩ := List.mem_flatten.1 hc
        exact ⟨l, hl, c, hcl, hnm⟩)
      unfold setR
      rw [if_neg (fun e => this (by rw [e]; exact hf))]
    · intro x hx
      obtain ⟨p, hp, rfl⟩ := List.mem_map.1 hx
      exact Nat.eq_of_beq_eq_true (List.all_eq_true.1 hlen p hp)
    · have := h2.length
      simp only [List.length_map] at this ⊢
      omega
    · simp only [maxLen]
      omega
  exact ⟨_, _, h4.put (by simpa using hN) (by
    show _ = _
    rw [hnew]
    simp) (fun nm hn => by
      have : d = nm := by simpa [AV.mentions, AV.mentions0, C.mentions] using hn
      subst this
      rw [St.upd_same]
      simp)⟩
end
end Go.Sx
