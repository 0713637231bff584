/-
  Sx, part 6: rules for boxes: alloc, box, load, store, fieldAddr, build.
-/
import Derived.Test.YtcheghbghehifaaSxMem
namespace Go.Sx
open Go Go.RowKit

theorem any_sub {nm : Nat} {cs cs' : List C} (hsub : ∀ c ∈ cs, c ∈ cs') (h : cs.any (·.mentions nm) = true) : cs'.any (·.mentions nm) = true := by
  rw [List.any_eq_true] at h ⊢
  obtain ⟨c, hc, hm⟩ := h
  exact ⟨c, hsub c hc, hm⟩

theorem all2_part {α β : Type} {R : α → β → Prop} : ∀ {l : List α} {l' : List β}, All2 R l l' → ∀ (o n : Nat), All2 R ((l.drop o).take n) ((l'.drop o).take n)
  | _, _, .nil, o, n => by simp; exact .nil
  | _, _, .cons hr h, 0, 0 => by simp; exact .nil
  | _, _, .cons hr h, 0, n + 1 => by
    simp only [List.drop_zero, List.take_succ_cons]
    exact .cons hr (by have := all2_part h 0 n; simpa using this)
  | _, _, .cons hr h, o + 1, n => by
    simp only [List.drop_succ_cons]
    exact all2_part h o n

/-- Cells from 'o' on are written. -/
def putC {α : Type} (cs : List α) (o : Nat) (vs : List α) : List α := cs.take o ++ vs ++ cs.drop (o + vs.length)

theorem all2_take {α β : Type} {R : α → β → Prop} {l : List α} {l' : List β} (h : All2 R l l') (n : Nat) : All2 R (l.take n) (l'.take n) := by
  have := all2_part h 0 n
  simpa using this
theorem all2_drop {α β : Type} {R : α → β → Prop} {l : List α} {l' : List β} (h : All2 R l l') (n : Nat) : All2 R (l.drop n) (l'.drop n) := by
  have := all2_part h n (l.length - n)
  have h1 : (l.drop n).take (l.length - n) = l.drop n := List.take_of_length_le (by simp)
  have h2 : (l'.drop n).take (l.length - n) = l'.drop n := List.take_of_length_le (by simp [h.length])
  rwa [h1, h2] at this

theorem all2_put {α β : Type} {R : α → β → Prop} {l : List α} {l' : List β} (h : All2 R l l') (o : Nat) {vs : List α} {us : List β} (hv : All2 R vs us) : All2 R (putC l o vs) (putC l' o us) := by
  unfold putC
  refine ((all2_take h o).append hv).append ?_
  rw [← hv.length]
  exact all2_drop h _

/-- The cells of an element, from 'o' on. -/
def epCells (g : Nat → D) : Nat → Nat → List C
  | _, 0 => []
  | o, n + 1 => .d (g o) :: epCells g (o + 1) n

theorem epCells_ok {ρ : Nat → RI} {w : World} {Im : Nat → Prop} {g : Nat → D} {b o : Nat} : ∀ (n j m : Nat), j + n ≤ m → (∀ j, j < m → ∃ u, w.cell? ⟨b, o + j, none⟩ = some u ∧ RepD w Im (g j) u) →
    ∃ us : List Value, us.length = n ∧ (∀ i u, us[i]? = some u → w.cell? ⟨b, o + (j + i), none⟩ = some u) ∧ All2 (RepC ρ w Im) (epCells g j n) us
  | 0, j, m, _, _ => ⟨[], rfl, by simp, .nil⟩
  | n + 1, j, m, hm, h => by
    obtain ⟨u, hu, hr⟩ := h j (by omega)
    obtain ⟨us, h1, h2, h3⟩ := epCells_ok (ρ := ρ) n (j + 1) m (by omega) h
    refine ⟨u :: us, by simp [h1], fun i v hv => ?_, .cons hr h3⟩
    cases i with
    | zero => simp at hv; subst hv; simpa using hu
    | succ i => have := h2 i v (by simpa using hv); rw [← this]; congr 2; omega

theorem epCells_mentions (g : Nat → D) (nm : Nat) : ∀ n o, (epCells g o n).any (·.mentions nm) = false
  | 0, _ => rfl
  | n + 1, o => by
    simp only [epCells, List.any_cons, C.mentions, Bool.false_or]
    exact epCells_mentions g nm n (o + 1)

theorem cells_heap {w : World} {b : Nat} {us : List Value} {T : TypeId} (h : w.heap[b]? = some (.cells us.toArray T (0, 0))) (o j : Nat) (u : Value) (hu : ((us.drop o))[j]? = some u) : w.cell? ((⟨b, o, none⟩ : Addr).add j) = some u := by
  have hadd : (⟨b, o, none⟩ : Addr).add j = ⟨b, o + j, none⟩ := by unfold Addr.add; split <;> simp_all
  rw [hadd]
  rw [List.getElem?_drop] at hu
  simp [World.cell?, h, hu]

section
variable {P : Program} {N : Nat} {E : Env P N} {ops : Array Oper} {dr : Bool} {rest : List Oper} {σ : St} {tr : Trace} {K : St → Prop}
  {d : Nat} {t yt ty : TypeId} {pos : String} {af : Array Edge} {gd : Option (Nat × Bool)} {gR : Upds} {x y z : Operand} {ti : TyI}

/-- A new box in slot d, named d, with these cells. -/
theorem sat_box {a : Act} {w : World} {ρ : Nat → RI} {Im : Nat → Prop} (h : SatAt E σ a w ρ Im) (hN : d < N) (hfresh : σ (.b d) = none) {cs : List C} {us : List Value} (ha : All2 (RepC ρ w Im) cs us)
    (hm : ∀ n, cs.any (·.mentions n) = true → σ (.b n) ≠ none) :
    Sat E ((σ.upd (.b d) (some (.k (.box cs)))).upd (.s d) (some (.v (.c (.ptr d 0))))) (a.put (some d) (.pointer (some ⟨w.heap.size, 0, none⟩))) (w.alloc (.cells us.toArray t)) := by
  have hnew : setR ρ d ⟨w.heap.size, 0, false⟩ d = ⟨w.heap.size, 0, false⟩ := by simp [setR]
  have h1 : SatAt E (σ.upd (.b d) (some (.k (.box cs)))) a (w.alloc (.cells us.toArray t)) (setR ρ d ⟨w.heap.size, 0, false⟩) Im := by
    refine h.newblk hfresh _ 0 ?_ (fun n hn => .inr (hm n hn))
    refine ⟨by rw [hnew], us, t, by rw [hnew]; exact heap_alloc_new w _, ha.imp fun c hc u hr => RepC.keep (fun b hb => ⟨hb, Below.heap_alloc w _ b (h.im b hb).2.1⟩) (fun n hn => ?_) hr⟩
    have : σ (.b n) ≠ none := hm n (by rw [List.any_eq_true]; exact ⟨c, hc, hn⟩)
    unfold setR
    rw [if_neg (fun e => this (by rw [e]; exact hfresh))]
  refine ⟨_, _, h1.put hN ?_ ?_⟩
  · show _ = _
    rw [hnew]
  · intro nm hn
    have : d = nm := by simpa [AV.mentions, AV.mentions0, C.mentions] using hn
    subst this
    rw [St.upd_same]
    simp

theorem vr_alloc {cs : List C} [ht : TyOK P t ti] (hg : GOK N ops σ gd gR) (hz : zeroCs ti.zero = some cs) (hfresh : σ (.b d) = none) (hN : Nat.blt d N = true)
    (k : VR E ops dr rest ((σ.upd (.b d) (some (.k (.box cs)))).set d (.c (.ptr d 0))) ((gR.map (·.1) ++ [.b d], [.b d, .s d]) :: tr) K) : VR E ops dr (⟨some d, .alloc t, ty, pos, af, gd⟩ :: rest) σ tr K := by
  refine vr_do (R := [(.b d, none)]) (U := [(.b d, some (.k (.box cs))), (.s d, some (.v (.c (.ptr d 0))))]) hg (fun σ a w ρ Im hs hR K Q hK => ?_) (by intro p hp; rw [List.mem_singleton] at hp; subst hp; exact hfresh) rfl rfl k
  have hf : σ (.b d) = none := hR _ (List.mem_singleton.2 rfl)
  obtain ⟨hz1, hz2⟩ := zeroCs_ok (ρ := ρ) (w := w) (Im := Im) hz
  unfold Oper.wp
  have hrun : (execOp a.eval ⟨some d, .alloc t, ty, pos, af, gd⟩).run P w = .ok (.value (.pointer (some ⟨w.heap.size, 0, none⟩))) (w.alloc (.cells ti.zero.cells t)) := by
    simp only [execOp, Instr.alloc, Sem.run_bind, ht.run_zero, Result.andThen_ok, newVar, newRow, run_newObj, Sem.run_pure]
    rfl
  rw [hrun]
  refine hK _ _ ?_
  have := sat_box (t := t) (cs := cs) hs (by simpa using hN) hf hz1 (fun n hn => by rw [hz2] at hn; cases hn)
  rw [Array.toArray_toList] at this
  exact this

theorem vr_box {v : AV} {cs : List C} (hg : GOK N ops σ gd gR) (hx : ev σ x = some v) (hc : v.cells = some cs) (hfresh : σ (.b d) = none) (hN : Nat.blt d N = true)
    (k : VR E ops dr rest ((σ.upd (.b d) (some (.k (.box cs)))).set d (.c (.ptr d 0))) ((gR.map (·.1) ++ (opK x ++ [.b d]), [.b d, .s d]) :: tr) K) : VR E ops dr (⟨some d, .box t x, ty, pos, af, gd⟩ :: rest) σ tr K := by
  refine vr_do (R := opR x v ++ [(.b d, none)]) (U := [(.b d, some (.k (.box cs))), (.s d, some (.v (.c (.ptr d 0))))]) hg (fun σ a w ρ Im hs hR K Q hK => ?_)
    (reads_append (opR_ok hx) (by intro p hp; rw [List.mem_singleton] at hp; subst hp; exact hfresh)) (by rw [List.map_append, opR_keys]; rfl) rfl k
  have hf : σ (.b d) = none := hR (.b d, none) (by simp)
  obtain ⟨hr, hm⟩ := ev_ok hs (ev_of hx fun p hp => hR p (List.mem_append_left _ hp))
  obtain ⟨us, h1, h2⟩ := AV.cells_ok hr hc
  unfold Oper.wp
  have hrun : (execOp a.eval ⟨some d, .box t x, ty, pos, af, gd⟩).run P w = .ok (.value (.pointer (some ⟨w.heap.size, 0, none⟩))) (w.alloc (.cells us.toArray t)) := by
    simp only [execOp, Instr.box, Sem.run_bind, Result.andThen_ok, newVar, newRow, run_newObj, Sem.run_pure, h1]
    rfl
  rw [hrun]
  exact hK _ _ (sat_box (t := t) (cs := cs) hs (by simpa using hN) hf h2 (fun n hn => hm n (by rw [AV.cells_mentions hc]; exact hn)))

theorem vr_load_agg {nm off : Nat} {cs : List C} [ht : TyOK P t ti] (hg : GOK N ops σ gd gR) (hx : ev σ x = some (.c (.ptr nm off))) (hb : σ (.b nm) = some (.k (.box cs))) (hagg : ti.isAgg = true)
    (hl : ((cs.drop off).take ti.size).length = ti.size) (hN : Nat.blt d N = true)
    (k : VR E ops dr rest (σ.set d (.agg ((cs.drop off).take ti.size))) ((gR.map (·.1) ++ (opK x ++ [.b nm]), [.s d]) :: tr) K) : VR E ops dr (⟨some d, .load t x, ty, pos, af, gd⟩ :: rest) σ tr K := by
  refine vr_val (R := opR x (.c (.ptr nm off)) ++ [(.b nm, some (.k (.box cs)))]) hg rfl hN (fun σ a w ρ Im hs hR => ?_)
    (reads_append (opR_ok hx) (by intro p hp; rw [List.mem_singleton] at hp; subst hp; exact hb)) (by rw [List.map_append, opR_keys]; rfl) k
  have hb' : σ (.b nm) = some (.k (.box cs)) := hR (.b nm, _) (by simp)
  obtain ⟨hr, _⟩ := ev_ok hs (ev_of hx fun p hp => hR p (List.mem_append_left _ hp))
  have he : a.eval x = .pointer (some ⟨(ρ nm).blk, off, none⟩) := hr
  obtain ⟨_, us, T, hh, ha⟩ := hs.bk nm _ hb'
  have hp := all2_part ha off ti.size
  have hlen : ((us.drop off).take ti.size).length = ti.size := by rw [← hp.length]; exact hl
  refine ⟨.agg ((us.drop off).take ti.size).toArray, ?_, ⟨_, rfl, hp⟩, fun n hn => hs.wf _ _ hb' n ?_⟩
  · have hcells := run_loadCells_list (P := P) w ⟨(ρ nm).blk, off, none⟩ ((us.drop off).take ti.size) (fun j v hv => by
      refine cells_heap hh off j v ?_
      rw [List.getElem?_take] at hv
      split at hv
      · exact hv
      · cases hv)
    rw [hlen] at hcells
    simp [execOp, he, Instr.loadAt, Instr.sureAddr, loadVar, ht.run_agg, hagg, ht.run_size, hcells]
  · exact any_sub (fun c hc => List.mem_of_mem_drop (List.mem_of_mem_take hc)) hn

theorem vr_load {nm off : Nat} {cs : List C} {c : C} [ht : TyOK P t ti] (hg : GOK N ops σ gd gR) (hx : ev σ x = some (.c (.ptr nm off))) (hb : σ (.b nm) = some (.k (.box cs))) (hagg : ti.isAgg = false)
    (hc : cs[off]? = some c) (hN : Nat.blt d N = true)
    (k : VR E ops dr rest (σ.set d (.c c)) ((gR.map (·.1) ++ (opK x ++ [.b nm]), [.s d]) :: tr) K) : VR E ops dr (⟨some d, .load t x, ty, pos, af, gd⟩ :: rest) σ tr K := by
  refine vr_val (R := opR x (.c (.ptr nm off)) ++ [(.b nm, some (.k (.box cs)))]) hg rfl hN (fun σ a w ρ Im hs hR => ?_)
    (reads_append (opR_ok hx) (by intro p hp; rw [List.mem_singleton] at hp; subst hp; exact hb)) (by rw [List.map_append, opR_keys]; rfl) k
  have hb' : σ (.b nm) = some (.k (.box cs)) := hR (.b nm, _) (by simp)
  obtain ⟨hr, _⟩ := ev_ok hs (ev_of hx fun p hp => hR p (List.mem_append_left _ hp))
  have he : a.eval x = .pointer (some ⟨(ρ nm).blk, off, none⟩) := hr
  obtain ⟨_, us, T, hh, ha⟩ := hs.bk nm _ hb'
  obtain ⟨u, hu, hru⟩ := ha.get hc
  refine ⟨u, ?_, hru, fun n hn => hs.wf _ _ hb' n ?_⟩
  · have hcell : w.cell? ⟨(ρ nm).blk, off, none⟩ = some u := by simp [World.cell?, hh, hu]
    simp [execOp, he, Instr.loadAt, Instr.sureAddr, loadVar, ht.run_agg, hagg, hcell]
  · simp only [Item.mentions, Blk.mentions, List.any_eq_true]
    exact ⟨c, List.mem_of_getElem? hc, hn⟩

theorem vr_load_ep_agg {g : Nat → D} {m : Nat} [ht : TyOK P t ti] (hg : GOK N ops σ gd gR) (hx : ev σ x = some (.ep g m)) (hagg : ti.isAgg = true)
    (hl : Nat.ble ti.size m = true) (hN : Nat.blt d N = true)
    (k : VR E ops dr rest (σ.set d (.agg (epCells g 0 ti.size))) ((gR.map (·.1) ++ opK x, [.s d]) :: tr) K) : VR E ops dr (⟨some d, .load t x, ty, pos, af, gd⟩ :: rest) σ tr K :=
  vr_un hg rfl hx hN (fun _ a w ρ Im _ h => by
    obtain ⟨b, o, he, _, hc⟩ := h
    obtain ⟨us, h1, h2, h3⟩ := epCells_ok (ρ := ρ) ti.size 0 m (by simpa using hl) hc
    refine ⟨.agg us.toArray, ?_, ⟨us, rfl, h3⟩⟩
    have hcells := run_loadCells_list (P := P) w ⟨b, o, none⟩ us (fun j v hv => by
      have hadd : (⟨b, o, none⟩ : Addr).add j = ⟨b, o + j, none⟩ := by unfold Addr.add; split <;> simp_all
      rw [hadd]
      simpa using h2 j v hv)
    rw [h1] at hcells
    simp [execOp, he, Instr.loadAt, Instr.sureAddr, loadVar, ht.run_agg, hagg, ht.run_size, hcells]) (fun nm h => by
      have := epCells_mentions g nm ti.size 0
      simp only [AV.mentions, AV.mentions0] at h
      rw [this] at h
      cases h) k

theorem vr_load_ep {g : Nat → D} {m : Nat} [ht : TyOK P t ti] (hg : GOK N ops σ gd gR) (hx : ev σ x = some (.ep g m)) (hagg : ti.isAgg = false)
    (hl : Nat.blt 0 m = true) (hN : Nat.blt d N = true)
    (k : VR E ops dr rest (σ.set d (AD (g 0))) ((gR.map (·.1) ++ opK x, [.s d]) :: tr) K) : VR E ops dr (⟨some d, .load t x, ty, pos, af, gd⟩ :: rest) σ tr K :=
  vr_un hg rfl hx hN (fun _ a w ρ Im _ h => by
    obtain ⟨b, o, he, _, hc⟩ := h
    obtain ⟨u, hu, hr⟩ := hc 0 (by simpa using hl)
    refine ⟨u, ?_, hr⟩
    simp only [Nat.add_zero] at hu
    simp [execOp, he, Instr.loadAt, Instr.sureAddr, loadVar, ht.run_agg, hagg, hu]) (fun nm h => by cases h) k

theorem vr_store {nm off : Nat} {cs vs : List C} {v : AV} [ht : TyOK P t ti] (hg : GOK N ops σ gd gR) (hx : ev σ x = some (.c (.ptr nm off))) (hy : ev σ y = some v) (hb : σ (.b nm) = some (.k (.box cs))) (hv : v.cells = some vs)
    (hl : vs.length = ti.size) (hl2 : Nat.ble (off + vs.length) cs.length = true)
    (k : VR E ops dr rest (σ.upd (.b nm) (some (.k (.box (putC cs off vs))))) ((gR.map (·.1) ++ (opK x ++ (opK y ++ [.b nm])), [.b nm]) :: tr) K) : VR E ops dr (⟨none, .store t x y, ty, pos, af, gd⟩ :: rest) σ tr K := by
  refine vr_do (R := opR x (.c (.ptr nm off)) ++ (opR y v ++ [(.b nm, some (.k (.box cs)))])) (U := [(.b nm, some (.k (.box (putC cs off vs))))]) hg (fun σ a w ρ Im hs hR K Q hK => ?_)
    (reads_append (opR_ok hx) (reads_append (opR_ok hy) (by intro p hp; rw [List.mem_singleton] at hp; subst hp; exact hb))) (by rw [List.map_append, List.map_append, opR_keys, opR_keys]; rfl) rfl k
  have hb' : σ (.b nm) = some (.k (.box cs)) := hR (.b nm, _) (by simp)
  obtain ⟨hr, _⟩ := ev_ok hs (ev_of hx fun p hp => hR p (List.mem_append_left _ hp))
  obtain ⟨hr', hm'⟩ := ev_ok hs (ev_of hy fun p hp => hR p (List.mem_append_right _ (List.mem_append_left _ hp)))
  have he : a.eval x = .pointer (some ⟨(ρ nm).blk, off, none⟩) := hr
  obtain ⟨us, h1, h2⟩ := AV.cells_ok hr' hv
  obtain ⟨hnil, ws, T, hh, ha⟩ := hs.bk nm _ hb'
  have hl2' : off + vs.length ≤ cs.length := by simpa using hl2
  have hst := run_storeCells_at P (ρ nm).blk off T us 0 ws.toArray w hh (by simp; rw [← h2.length, ← ha.length]; exact hl2') (all2_one h2)
  have hput : (ws.toArray.toList.take (off + 0) ++ us ++ ws.toArray.toList.drop (off + 0 + us.length)).toArray = (putC ws off us).toArray := by simp [putC]
  rw [hput] at hst
  unfold Oper.wp
  have hrun : (execOp a.eval ⟨none, .store t x y, ty, pos, af, gd⟩).run P w = .ok .skip (w.setRow (ρ nm).blk (putC ws off us).toArray) := by
    have hsz : (a.eval y).cells.size = ti.size := by rw [h1]; simp; rw [← h2.length]; exact hl
    have htl : (a.eval y).cells.toList = us := by rw [h1]
    simp [execOp, he, Instr.storeAt, Instr.sureAddr, storeVar, ht.run_size, hsz, htl, hst]
  rw [hrun]
  refine hK _ _ ⟨ρ, Im, ?_⟩
  refine hs.setblk hb' rfl hnil _ ?_ (fun n hn => ?_)
  · have hold : ∀ b, Im b → Im b ∧ (w.setRow (ρ nm).blk (putC ws off us).toArray).heap[b]? = w.heap[b]? := fun b hbI =>
      ⟨hbI, setRow_other w _ b _ (fun e => (hs.im b hbI).2.2 nm _ hb' rfl hnil e.symm)⟩
    exact ⟨hnil, putC ws off us, T, setRow_heap w _ _ _ T _ hh, (all2_put ha off h2).imp fun c _ u hr => RepC.keep hold (fun _ _ => rfl) hr⟩
  · simp only [Blk.mentions, putC, List.any_append, Bool.or_eq_true] at hn
    rcases hn with (hn | hn) | hn
    · exact hs.wf _ _ hb' n (any_sub (fun c hc => List.mem_of_mem_take hc) hn)
    · exact hm' n (by rw [AV.cells_mentions hv]; exact hn)
    · exact hs.wf _ _ hb' n (any_sub (fun c hc => List.mem_of_mem_drop hc) hn)

theorem vr_fieldAddr {nm off f fo ft : Nat} {fl : List (Nat × TypeId)} {fi : TyI} [ht : TyOK P t ti] (hg : GOK N ops σ gd gR) (hx : ev σ x = some (.c (.ptr nm off))) (hd : ti.k = .struct fl) (hf : fl[f]? = some (fo, ft))
    [hft : TyOK P ft fi] (hsz : Nat.blt 0 fi.size = true) (hN : Nat.blt d N = true)
    (k : VR E ops dr rest (σ.set d (.c (.ptr nm (off + fo)))) ((gR.map (·.1) ++ opK x, [.s d]) :: tr) K) : VR E ops dr (⟨some d, .fieldAddr t x f, ty, pos, af, gd⟩ :: rest) σ tr K :=
  vr_un (v := .c (.ptr nm (off + fo))) hg rfl hx hN (fun _ a w ρ Im _ h => by
    have he : a.eval x = .pointer (some ⟨(ρ nm).blk, off, none⟩) := h
    refine ⟨.pointer (some ⟨(ρ nm).blk, off + fo, none⟩), ?_, rfl⟩
    obtain ⟨fs, fd, hu, h1, rfl, rfl⟩ := ht.field hd hf
    have hne : fi.size ≠ 0 := by simp at hsz; omega
    simp [execOp, he, Instr.fieldAt, run_underlying hu, h1, Instr.sureAddr, fieldPlace, hft.run_size, hne, Addr.add_lit]) (fun _ h => h) k

theorem vr_fieldAddr_ep {g : Nat → D} {m f fo ft : Nat} {fl : List (Nat × TypeId)} {fi : TyI} [ht : TyOK P t ti] (hg : GOK N ops σ gd gR) (hx : ev σ x = some (.ep g m)) (hd : ti.k = .struct fl) (hf : fl[f]? = some (fo, ft))
    [hft : TyOK P ft fi] (hsz : Nat.blt 0 fi.size = true) (hN : Nat.blt d N = true)
    (k : VR E ops dr rest (σ.set d (.ep (fun j => g (fo + j)) (m - fo))) ((gR.map (·.1) ++ opK x, [.s d]) :: tr) K) : VR E ops dr (⟨some d, .fieldAddr t x f, ty, pos, af, gd⟩ :: rest) σ tr K :=
  vr_un hg rfl hx hN (fun _ a w ρ Im _ h => by
    obtain ⟨b, o, he, hb, hc⟩ := h
    refine ⟨.pointer (some ⟨b, o + fo, none⟩), ?_, b, o + fo, rfl, hb, fun j hj => ?_⟩
    · obtain ⟨fs, fd, hu, h1, rfl, rfl⟩ := ht.field hd hf
      have hne : fi.size ≠ 0 := by simp at hsz; omega
      simp [execOp, he, Instr.fieldAt, run_underlying hu, h1, Instr.sureAddr, fieldPlace, hft.run_size, hne, Addr.add_lit]
    · have := hc (fo + j) (by omega)
      rwa [← Nat.add_assoc] at this) (fun _ h => by cases h) k
end

end Go.Sx
