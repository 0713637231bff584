/-
  Sx, part 15: own rows: the address of an element, loads and stores; append onto an own row.
-/
import Derived.Test.YtcheghbghehifaaSxRow
namespace Go.Sx
open Go Go.RowKit

section
variable {P : Program} {N : Nat} {E : Env P N} {σ : St} {a : Act} {w : World} {ρ : Nat → RI} {Im : Nat → Prop}

/-- A row that is not nil, in a world. -/
theorem row_heap (hs : SatAt E σ a w ρ Im) {nm T sz : Nat} {xs : List (List C)} (hb : σ (.b nm) = some (.k (.row T sz xs))) (hne : xs ≠ []) :
    (ρ nm).isNil = false ∧ ∃ us spare : List Value, w.heap[(ρ nm).blk]? = some (.cells (us ++ spare).toArray T (0, 0)) ∧ All2 (RepC ρ w Im) xs.flatten us ∧
      (∀ x ∈ xs, x.length = sz) ∧ us.length + spare.length = (ρ nm).cap * sz ∧ xs.length ≤ (ρ nm).cap ∧ (ρ nm).cap ≤ maxLen := by
  have hbk := hs.bk nm _ hb
  unfold BlkOK at hbk
  cases hnil : (ρ nm).isNil with
  | true => simp only [hnil, if_true] at hbk; exact absurd hbk hne
  | false => simp only [hnil, Bool.false_eq_true, if_false] at hbk; exact ⟨rfl, hbk⟩

theorem flatten_part {sz : Nat} : ∀ {xs : List (List C)}, (∀ x ∈ xs, x.length = sz) → ∀ {i : Nat} {x : List C}, xs[i]? = some x → (xs.flatten.drop (i * sz)).take sz = x
  | [], _, i, x, h => by simp at h
  | y :: ys, hl, 0, x, h => by
    simp only [List.getElem?_cons_zero, Option.some.injEq] at h
    subst h
    have hy : y.length = sz := hl y (by simp)
    simp only [Nat.zero_mul, List.drop_zero, List.flatten_cons]
    rw [List.take_append_of_le_length (by omega), List.take_of_length_le (by omega)]
  | y :: ys, hl, i + 1, x, h => by
    have hy : y.length = sz := hl y (by simp)
    rw [List.flatten_cons, Nat.succ_mul, List.drop_append, List.drop_of_length_le (by omega), hy]
    simp only [List.nil_append]
    rw [show i * sz + sz - sz = i * sz by omega]
    exact flatten_part (fun x hx => hl x (by simp [hx])) (by simpa using h)

theorem flatten_set {sz : Nat} : ∀ {xs : List (List C)}, (∀ x ∈ xs, x.length = sz) → ∀ {i : Nat} {x : List C} (y : List C), xs[i]? = some x → y.length = sz → (xs.set i y).flatten = putC xs.flatten (i * sz) y
  | [], _, i, x, y, h, _ => by simp at h
  | z :: ys, hl, 0, x, y, h, hy => by
    have hz : z.length = sz := hl z (by simp)
    simp only [List.set_cons_zero, List.flatten_cons, putC, Nat.zero_mul, List.take_zero, List.nil_append, Nat.zero_add]
    rw [List.drop_append, List.drop_of_length_le (by omega), hy, hz]
    simp
  | z :: ys, hl, i + 1, x, y, h, hy => by
    have hz : z.length = sz := hl z (by simp)
    rw [List.set_cons_succ, List.flatten_cons, List.flatten_cons, flatten_set (fun x hx => hl x (by simp [hx])) y (by simpa using h) hy]
    unfold putC
    rw [Nat.succ_mul, List.take_append, List.take_of_length_le (l := z) (i := i * sz + sz) (by omega), List.drop_append, List.drop_of_length_le (l := z) (i := i * sz + sz + y.length) (by omega), hz]
    rw [show i * sz + sz - sz = i * sz by omega, show i * sz + sz + y.length - sz = i * sz + y.length by omega]
    simp [List.append_assoc]

theorem putC_append {α : Type} (cs ds : List α) (o : Nat) (vs : List α) (h : o + vs.length ≤ cs.length) : putC (cs ++ ds) o vs = putC cs o vs ++ ds := by
  unfold putC
  rw [List.take_append_of_le_length (by omega), List.drop_append_of_le_length (by omega)]
  simp
end

section
variable {P : Program} {N : Nat} {E : Env P N} {ops : Array Oper} {dr : Bool} {rest : List Oper} {σ : St} {tr : Trace} {K : St → Prop}
  {d : Nat} {t yt ty te : TypeId} {pos : String} {af : Array Edge} {gd : Option (Nat × Bool)} {gR : Upds} {x y z : Operand} {ti ei : TyI}

theorem vr_index_row {nm n T sz m : Nat} {xs : List (List C)} {kd : IntKind} {i : Int} [ht : TyOK P t ti] [het : TyOK P te ei] (hg : GOK N ops σ gd gR) (hx : ev σ x = some (.c (.row nm n))) (hy : ev σ y = some (AD (.int kd i)))
    (hb : σ (.b nm) = some (.k (.row T sz xs))) (hd : ti.k = .slice te) (hsz : ei.size = sz) (hi : i = (m : Int)) (hm : m < n) (hne : m < xs.length) (hN : Nat.blt d N = true)
    (k : VR E ops dr rest (σ.set d (.rp nm sz m 0)) ((gR.map (·.1) ++ (opK x ++ (opK y ++ [.b nm])), [.s d]) :: tr) K) : VR E ops dr (⟨some d, .indexAddr t x y, ty, pos, af, gd⟩ :: rest) σ tr K := by
  refine vr_val (x := .rp nm sz m 0) (R := opR x (.c (.row nm n)) ++ (opR y (AD (.int kd i)) ++ [(.b nm, some (.k (.row T sz xs)))])) hg rfl hN (fun σ a w ρ Im hs hR => ?_)
    (reads_append (opR_ok hx) (reads_append (opR_ok hy) (by intro p hp; rw [List.mem_singleton] at hp; subst hp; exact hb))) (by rw [List.map_append, List.map_append, opR_keys, opR_keys]; rfl) k
  have hb' : σ (.b nm) = some (.k (.row T sz xs)) := hR (.b nm, _) (by simp)
  obtain ⟨hr, _⟩ := ev_ok hs (ev_of hx fun p hp => hR p (List.mem_append_left _ hp))
  obtain ⟨hr', _⟩ := ev_ok hs (ev_of hy fun p hp => hR p (List.mem_append_right _ (List.mem_append_left _ hp)))
  have he' : a.eval y = .int kd i := hr'
  obtain ⟨hnil, _⟩ := row_heap hs hb' (fun e => by rw [e] at hne; simp at hne)
  have he : a.eval x = .slice (some ⟨(ρ nm).blk, 0, none⟩) n (ρ nm).cap := by
    have h : a.eval x = if (ρ nm).isNil then .slice none 0 0 else .slice (some ⟨(ρ nm).blk, 0, none⟩) n (ρ nm).cap := hr
    rw [hnil] at h; exact h
  have hu := ht.slice hd
  refine ⟨.pointer (some ⟨(ρ nm).blk, m * sz, none⟩), ?_, rfl, fun nm' hn' => ?_⟩
  · have h0 : ¬ n ≤ m := by omega
    simp [execOp, he, he', Instr.indexAt, asIntOf, run_underlying hu, hi, h0, het.run_size, hsz, Addr.add_lit]
  · have : nm = nm' := by simpa [AV.mentions, AV.mentions0] using hn'
    subst this
    rw [hb']; simp

theorem vr_fieldAddr_rp {nm sz m off f fo ft : Nat} {fl : List (Nat × TypeId)} {fi : TyI} [ht : TyOK P t ti] (hg : GOK N ops σ gd gR) (hx : ev σ x = some (.rp nm sz m off)) (hd : ti.k = .struct fl) (hf : fl[f]? = some (fo, ft))
    [hft : TyOK P ft fi] (hsz : Nat.blt 0 fi.size = true) (hN : Nat.blt d N = true)
    (k : VR E ops dr rest (σ.set d (.rp nm sz m (off + fo))) ((gR.map (·.1) ++ opK x, [.s d]) :: tr) K) : VR E ops dr (⟨some d, .fieldAddr t x f, ty, pos, af, gd⟩ :: rest) σ tr K :=
  vr_un (v := .rp nm sz m (off + fo)) hg rfl hx hN (fun _ a w ρ Im _ h => by
    have he : a.eval x = .pointer (some ⟨(ρ nm).blk, m * sz + off, none⟩) := h
    refine ⟨.pointer (some ⟨(ρ nm).blk, m * sz + (off + fo), none⟩), ?_, rfl⟩
    obtain ⟨fs, fd, hu, h1, rfl, rfl⟩ := ht.field hd hf
    have hne : fi.size ≠ 0 := by simp at hsz; omega
    simp [execOp, he, Instr.fieldAt, run_underlying hu, h1, Instr.sureAddr, fieldPlace, hft.run_size, hne, Addr.add_lit, Nat.add_assoc]) (fun _ h => h) k

theorem row_cell {a : Act} {w : World} {ρ : Nat → RI} {Im : Nat → Prop} (hs : SatAt E σ a w ρ Im) {nm T sz m off : Nat} {xs : List (List C)} {cs : List C} (hb : σ (.b nm) = some (.k (.row T sz xs))) (hc : xs[m]? = some cs) :
    ∃ us : List Value, All2 (RepC ρ w Im) cs us ∧ ∀ j v, (us.drop off)[j]? = some v → w.cell? ((⟨(ρ nm).blk, m * sz + off, none⟩ : Addr).add j) = some v := by
  obtain ⟨hnil, us, spare, hh, ha, hlen, _⟩ := row_heap hs hb (fun e => by rw [e] at hc; cases hc)
  have hp := all2_part ha (m * sz) sz
  rw [flatten_part hlen hc] at hp
  refine ⟨_, hp, fun j v hv => ?_⟩
  refine cells_heap hh _ j v ?_
  rw [List.getElem?_drop] at hv
  rw [List.getElem?_take] at hv
  split at hv
  · rw [List.getElem?_drop] at hv ⊢
    have hlt := (List.getElem?_eq_some_iff.1 hv).1
    rw [List.getElem?_append_left (by omega), ← hv]
    congr 1
    omega
  · cases hv

theorem vr_load_row_agg {nm T sz m off : Nat} {xs : List (List C)} {cs : List C} [ht : TyOK P t ti] (hg : GOK N ops σ gd gR) (hx : ev σ x = some (.rp nm sz m off)) (hb : σ (.b nm) = some (.k (.row T sz xs))) (hc : xs[m]? = some cs) (hagg : ti.isAgg = true)
    (hl : ((cs.drop off).take ti.size).length = ti.size) (hN : Nat.blt d N = true)
    (k : VR E ops dr rest (σ.set d (.agg ((cs.drop off).take ti.size))) ((gR.map (·.1) ++ (opK x ++ [.b nm]), [.s d]) :: tr) K) : VR E ops dr (⟨some d, .load t x, ty, pos, af, gd⟩ :: rest) σ tr K := by
  refine vr_val (R := opR x (.rp nm sz m off) ++ [(.b nm, some (.k (.row T sz xs)))]) hg rfl hN (fun σ a w ρ Im hs hR => ?_)
    (reads_append (opR_ok hx) (by intro p hp; rw [List.mem_singleton] at hp; subst hp; exact hb)) (by rw [List.map_append, opR_keys]; rfl) k
  have hb' : σ (.b nm) = some (.k (.row T sz xs)) := hR (.b nm, _) (by simp)
  obtain ⟨hr, _⟩ := ev_ok hs (ev_of hx fun p hp => hR p (List.mem_append_left _ hp))
  have he : a.eval x = .pointer (some ⟨(ρ nm).blk, m * sz + off, none⟩) := hr
  obtain ⟨us, ha, hcell⟩ := row_cell (off := off) hs hb' hc
  have hp := all2_part ha off ti.size
  have hlen : ((us.drop off).take ti.size).length = ti.size := by rw [← hp.length]; exact hl
  refine ⟨.agg ((us.drop off).take ti.size).toArray, ?_, ⟨_, rfl, hp⟩, fun n hn => hs.wf _ _ hb' n ?_⟩
  · have hcells := run_loadCells_list (P := P) w ⟨(ρ nm).blk, m * sz + off, none⟩ ((us.drop off).take ti.size) (fun j v hv => by
      refine hcell j v ?_
      rw [List.getElem?_take] at hv
      split at hv
      · exact hv
      · cases hv)
    rw [hlen] at hcells
    simp [execOp, he, Instr.loadAt, Instr.sureAddr, loadVar, ht.run_agg, hagg, ht.run_size, hcells]
  · simp only [Item.mentions, Blk.mentions, List.any_eq_true]
    refine ⟨cs, List.mem_of_getElem? hc, List.any_eq_true.1 (any_sub (fun c hc => List.mem_of_mem_drop (List.mem_of_mem_take hc)) hn)⟩

theorem vr_load_row {nm T sz m off : Nat} {xs : List (List C)} {cs : List C} {c : C} [ht : TyOK P t ti] (hg : GOK N ops σ gd gR) (hx : ev σ x = some (.rp nm sz m off)) (hb : σ (.b nm) = some (.k (.row T sz xs))) (hc : xs[m]? = some cs) (hagg : ti.isAgg = false)
    (hcc : cs[off]? = some c) (hN : Nat.blt d N = true)
    (k : VR E ops dr rest (σ.set d (.c c)) ((gR.map (·.1) ++ (opK x ++ [.b nm]), [.s d]) :: tr) K) : VR E ops dr (⟨some d, .load t x, ty, pos, af, gd⟩ :: rest) σ tr K := by
  refine vr_val (R := opR x (.rp nm sz m off) ++ [(.b nm, some (.k (.row T sz xs)))]) hg rfl hN (fun σ a w ρ Im hs hR => ?_)
    (reads_append (opR_ok hx) (by intro p hp; rw [List.mem_singleton] at hp; subst hp; exact hb)) (by rw [List.map_append, opR_keys]; rfl) k
  have hb' : σ (.b nm) = some (.k (.row T sz xs)) := hR (.b nm, _) (by simp)
  obtain ⟨hr, _⟩ := ev_ok hs (ev_of hx fun p hp => hR p (List.mem_append_left _ hp))
  have he : a.eval x = .pointer (some ⟨(ρ nm).blk, m * sz + off, none⟩) := hr
  obtain ⟨us, ha, hcell⟩ := row_cell (off := off) hs hb' hc
  obtain ⟨u, hu, hru⟩ := ha.get hcc
  refine ⟨u, ?_, hru, fun n hn => hs.wf _ _ hb' n ?_⟩
  · have hcl : w.cell? ⟨(ρ nm).blk, m * sz + off, none⟩ = some u := by
      have := hcell 0 u (by simpa using hu)
      have hadd : (⟨(ρ nm).blk, m * sz + off, none⟩ : Addr).add 0 = ⟨(ρ nm).blk, m * sz + off, none⟩ := by unfold Addr.add; split <;> simp_all
      rwa [hadd] at this
    simp [execOp, he, Instr.loadAt, Instr.sureAddr, loadVar, ht.run_agg, hagg, hcl]
  · simp only [Item.mentions, Blk.mentions, List.any_eq_true]
    exact ⟨cs, List.mem_of_getElem? hc, c, List.mem_of_getElem? hcc, hn⟩

theorem vr_store_row {nm T sz m off : Nat} {xs : List (List C)} {cs vs : List C} {v : AV} [ht : TyOK P t ti] (hg : GOK N ops σ gd gR) (hx : ev σ x = some (.rp nm sz m off)) (hy : ev σ y = some v) (hb : σ (.b nm) = some (.k (.row T sz xs)))
    (hc : xs[m]? = some cs) (hv : v.cells = some vs) (hl : vs.length = ti.size) (hl2 : Nat.ble (off + vs.length) cs.length = true)
    (k : VR E ops dr rest (σ.upd (.b nm) (some (.k (.row T sz (xs.set m (putC cs off vs)))))) ((gR.map (·.1) ++ (opK x ++ (opK y ++ [.b nm])), [.b nm]) :: tr) K) : VR E ops dr (⟨none, .store t x y, ty, pos, af, gd⟩ :: rest) σ tr K := by
  refine vr_do (R := opR x (.rp nm sz m off) ++ (opR y v ++ [(.b nm, some (.k (.row T sz xs)))])) (U := [(.b nm, some (.k (.row T sz (xs.set m (putC cs off vs)))))]) hg (fun σ a w ρ Im hs hR K Q hK => ?_)
    (reads_append (opR_ok hx) (reads_append (opR_ok hy) (by intro p hp; rw [List.mem_singleton] at hp; subst hp; exact hb))) (by rw [List.map_append, List.map_append, opR_keys, opR_keys]; rfl) rfl k
  have hb' : σ (.b nm) = some (.k (.row T sz xs)) := hR (.b nm, _) (by simp)
  obtain ⟨hr, _⟩ := ev_ok hs (ev_of hx fun p hp => hR p (List.mem_append_left _ hp))
  obtain ⟨hr', hm'⟩ := ev_ok hs (ev_of hy fun p hp => hR p (List.mem_append_right _ (List.mem_append_left _ hp)))
  have he : a.eval x = .pointer (some ⟨(ρ nm).blk, m * sz + off, none⟩) := hr
  obtain ⟨us, h1, h2⟩ := AV.cells_ok hr' hv
  obtain ⟨hnil, ws, spare, hh, ha, hlen, hcap, hle, hmax⟩ := row_heap hs hb' (fun e => by rw [e] at hc; cases hc)
  have hl2' : off + vs.length ≤ cs.length := by simpa using hl2
  have hcl : cs.length = sz := hlen cs (List.mem_of_getElem? hc)
  have hm : m < xs.length := (List.getElem?_eq_some_iff.1 hc).1
  have hwl : ws.length = xs.length * sz := by
    rw [← ha.length, List.length_flatten]
    have : ∀ l ∈ xs.map List.length, l = sz := by
      intro l hl
      obtain ⟨p, hp, rfl⟩ := List.mem_map.1 hl
      exact hlen p hp
    rw [List.eq_replicate_of_mem this, List.sum_replicate_nat]
    simp
  have hms : m * sz + sz ≤ xs.length * sz := by
    have : (m + 1) * sz ≤ xs.length * sz := Nat.mul_le_mul_right _ hm
    rwa [Nat.succ_mul] at this
  have hul : us.length = vs.length := h2.length.symm
  have hst := run_storeCells_at P (ρ nm).blk (m * sz + off) T us 0 (ws ++ spare).toArray w hh (by simp; omega) (all2_one h2)
  have hput : ((ws ++ spare).toArray.toList.take (m * sz + off + 0) ++ us ++ (ws ++ spare).toArray.toList.drop (m * sz + off + 0 + us.length)).toArray = (putC ws (m * sz + off) us ++ spare).toArray := by
    rw [← putC_append _ _ _ _ (by omega)]
    simp [putC]
  rw [hput] at hst
  unfold Oper.wp
  have hrun : (execOp a.eval ⟨none, .store t x y, ty, pos, af, gd⟩).run P w = .ok .skip (w.setRow (ρ nm).blk (putC ws (m * sz + off) us ++ spare).toArray) := by
    have hsz : (a.eval y).cells.size = ti.size := by rw [h1]; simp; rw [← h2.length]; exact hl
    have htl : (a.eval y).cells.toList = us := by rw [h1]
    simp [execOp, he, Instr.storeAt, Instr.sureAddr, storeVar, ht.run_size, hsz, htl] at hst ⊢
    rw [hst]
    rfl
  rw [hrun]
  refine hK _ _ ⟨ρ, Im, ?_⟩
  refine hs.setblk hb' rfl hnil _ ?_ (fun n hn => ?_)
  · have hold : ∀ b, Im b → Im b ∧ (w.setRow (ρ nm).blk (putC ws (m * sz + off) us ++ spare).toArray).heap[b]? = w.heap[b]? := fun b hbI =>
      ⟨hbI, setRow_other w _ b _ (fun e => (hs.im b hbI).2.2 nm _ hb' rfl hnil e.symm)⟩
    unfold BlkOK
    simp only [hnil, Bool.false_eq_true, if_false]
    refine ⟨_, spare, setRow_heap w _ _ _ T _ hh, ?_, ?_, ?_, by simpa using hle, hmax⟩
    · rw [flatten_set hlen _ hc (by simp only [putC, List.length_append, List.length_take, List.length_drop]; omega)]
      have hfp := flatten_part hlen hc
      have hput2 : putC xs.flatten (m * sz) (putC cs off vs) = putC xs.flatten (m * sz + off) vs := by
        have hfl : xs.flatten.length = xs.length * sz := by rw [ha.length, hwl]
        have hcs : cs = (xs.flatten.drop (m * sz)).take sz := hfp.symm
        unfold putC
        have e1 : (List.take off cs ++ vs ++ List.drop (off + vs.length) cs).length = sz := by simp; omega
        rw [e1, hcs, List.take_take, List.drop_take, List.drop_drop]
        rw [Nat.min_eq_left (by omega), List.take_add]
        have e2 : xs.flatten.drop (m * sz + off + vs.length) = (xs.flatten.drop (m * sz + (off + vs.length))).take (sz - (off + vs.length)) ++ xs.flatten.drop (m * sz + sz) := by
          have := List.take_append_drop (sz - (off + vs.length)) (xs.flatten.drop (m * sz + (off + vs.length)))
          rw [List.drop_drop] at this
          rw [show m * sz + (off + vs.length) + (sz - (off + vs.length)) = m * sz + sz by omega] at this
          rw [this]
          congr 1; omega
        rw [e2]
        simp [List.append_assoc]
      rw [hput2]
      exact (all2_put ha _ h2).imp fun c _ u hr => RepC.keep hold (fun _ _ => rfl) hr
    · intro z hz
      rcases List.mem_or_eq_of_mem_set hz with hz | rfl
      · exact hlen z hz
      · simp only [putC, List.length_append, List.length_take, List.length_drop]; omega
    · simp only [putC, List.length_append, List.length_take, List.length_drop]; omega
  · simp only [Blk.mentions, List.any_eq_true] at hn
    obtain ⟨z, hz, c, hcz, hcm⟩ := hn
    rcases List.mem_or_eq_of_mem_set hz with hz | rfl
    · exact hs.wf _ _ hb' n (by simp only [Item.mentions, Blk.mentions, List.any_eq_true]; exact ⟨z, hz, c, hcz, hcm⟩)
    · simp only [putC, List.mem_append] at hcz
      rcases hcz with (hcz | hcz) | hcz
      · exact hs.wf _ _ hb' n (by simp only [Item.mentions, Blk.mentions, List.any_eq_true]; exact ⟨cs, List.mem_of_getElem? hc, c, List.mem_of_mem_take hcz, hcm⟩)
      · exact hm' n (by rw [AV.cells_mentions hv, List.any_eq_true]; exact ⟨c, hcz, hcm⟩)
      · exact hs.wf _ _ hb' n (by simp only [Item.mentions, Blk.mentions, List.any_eq_true]; exact ⟨cs, List.mem_of_getElem? hc, c, List.mem_of_mem_drop hcz, hcm⟩)
end
end Go.Sx
