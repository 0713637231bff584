/-
  Sx, part 16: append onto an own slice (or onto none).
-/
import Derived.Test.YtcheghbghehifaaSxRowB
import Derived.Maps.AppendAt
namespace Go.Sx
open Go Go.RowKit

section
variable {P : Program} {N : Nat} {E : Env P N} {σ : St} {a : Act} {w : World} {ρ : Nat → RI} {Im : Nat → Prop}

theorem upd_b_s {σ : St} {k : Nat} {it : Option Item} {t : Nat} : σ.upd (.b k) it (.s t) = σ (.s t) := St.upd_other _ _ (by intro e; cases e)
theorem upd_b_o {σ : St} {k n : Nat} {it : Option Item} (h : n ≠ k) : σ.upd (.b k) it (.b n) = σ (.b n) := St.upd_other _ _ (by intro e; injection e with e; exact h e.symm)

/-- A block is no longer spoken of. -/
theorem SatAt.kill (h : SatAt E σ a w ρ Im) (nm : Nat) : SatAt E (σ.upd (.b nm) (some (.k .dead))) a w ρ Im := by
  have hold : ∀ n b, σ.upd (.b nm) (some (.k .dead)) (.b n) = some (.k b) → b.live = true → σ (.b n) = some (.k b) ∧ n ≠ nm := fun n b hb hl => by
    by_cases hn : n = nm
    · subst hn
      rw [St.upd_same] at hb
      injection hb with hb; injection hb with hb; subst hb
      cases hl
    · rw [upd_b_o hn] at hb; exact ⟨hb, hn⟩
  refine ⟨fun t x hx => h.fr t x (by rwa [upd_b_s] at hx), fun n b hb => ?_, fun n b hb hl => h.own n b (hold n b hb hl).1 hl, fun n1 n2 b1 b2 h1 h2 l1 l2 => h.inj n1 n2 b1 b2 (hold _ _ h1 l1).1 (hold _ _ h2 l2).1 l1 l2,
    fun b hb => ⟨(h.im b hb).1, (h.im b hb).2.1, fun n bk hk hl => (h.im b hb).2.2 n bk (hold _ _ hk hl).1 hl⟩, fun k it hk n hn => ?_, h.defers, h.size, h.keep⟩
  · cases hl : b.live with
    | true => exact h.bk n b (hold n b hb hl).1
    | false => cases b <;> first | trivial | cases hl
  · by_cases he : n = nm
    · subst he; rw [St.upd_same]; simp
    · rw [upd_b_o he]
      by_cases hk2 : (Key.b nm) = k
      · subst hk2
        rw [St.upd_same] at hk
        injection hk with hk; subst hk
        cases hn
      · rw [St.upd_other _ _ hk2] at hk
        exact h.wf k it hk n hn

/-- The world has grown, a block of nobody's may have been written; a new name for that block or the new one. -/
theorem SatAt.addblk (h : SatAt E σ a w ρ Im) {w' : World} {row : Option Nat} (hg : w.grownBy w' row)
    (hrow : ∀ k, row = some k → k < w.heap.size ∧ (E.S0 k ∨ E.w0.heap.size ≤ k) ∧ ¬ Im k ∧ ∀ nm bk, σ (.b nm) = some (.k bk) → bk.live = true → (ρ nm).isNil = false → (ρ nm).blk ≠ k)
    {nm : Nat} (hfresh : σ (.b nm) = none) {r : RI} (hr : r.isNil = false → (row = some r.blk ∨ r.blk = w.heap.size ∧ r.blk < w'.heap.size)) {blk : Blk}
    (hb : BlkOK (setR ρ nm r) w' Im nm blk) (hm : ∀ n, blk.mentions n = true → n = nm ∨ σ (.b n) ≠ none) : SatAt E (σ.upd (.b nm) (some (.k blk))) a w' (setR ρ nm r) Im := by
  have hIm : ∀ b, Im b → Im b ∧ w'.heap[b]? = w.heap[b]? := fun b hb => ⟨hb, hg.block b (h.im b hb).2.1 (fun e => (hrow b e.symm).2.2.1 hb)⟩
  have hρ : ∀ n, σ (.b n) ≠ none → setR ρ nm r n = ρ n := fun n hn => by
    unfold setR
    rw [if_neg (fun e => hn (by rw [e]; exact hfresh))]
  have hnew : setR ρ nm r nm = r := by simp [setR]
  have hother : ∀ n b, σ.upd (.b nm) (some (.k blk)) (.b n) = some (.k b) → n ≠ nm → σ (.b n) = some (.k b) := fun n b hb hn => by rwa [upd_b_o hn] at hb
  have hne : ∀ n b, σ (.b n) = some (.k b) → b.live = true → (ρ n).isNil = false → r.isNil = false → (ρ n).blk ≠ r.blk := fun n b hb hl hn hrn e => by
    rcases hr hrn with h1 | h1
    · exact (hrow _ h1).2.2.2 n b hb hl hn e
    · have := (h.own n b hb hl hn).1; omega
  refine ⟨fun t x hx => ?_, fun n b hb' => ?_, fun n b hb' hl hn => ?_, fun n1 n2 b1 b2 h1 h2 l1 l2 i1 i2 hn12 => ?_, fun b hb' => ⟨(h.im b hb').1, Nat.lt_of_lt_of_le (h.im b hb').2.1 hg.size, fun n bk hk hl hn => ?_⟩, fun k it hk n hn => ?_, h.defers, h.size, ?_⟩
  · rw [upd_b_s] at hx
    exact RepA.keep hIm (fun n hn => hρ n (h.wf _ _ hx n hn)) (h.fr t x hx)
  · by_cases hn : n = nm
    · subst hn
      rw [St.upd_same] at hb'
      injection hb' with hb'; injection hb' with hb'; subst hb'
      exact hb
    · have hb0 := hother n b hb' hn
      refine BlkOK.keep hIm (hρ n (by rw [hb0]; simp)) (fun hnil hlive => hg.block _ (h.own n b hb0 hlive hnil).1 (fun e => (hrow _ e.symm).2.2.2 n b hb0 hlive hnil rfl)) (fun n' hn' => hρ n' (h.wf _ _ hb0 n' hn')) (h.bk n b hb0)
  · by_cases he : n = nm
    · subst he
      rw [hnew] at hn ⊢
      rcases hr hn with h1 | h1
      · exact ⟨Nat.lt_of_lt_of_le (hrow _ h1).1 hg.size, (hrow _ h1).2.1⟩
      · exact ⟨h1.2, .inr (by rw [h1.1]; exact h.keep.size)⟩
    · have hb0 := hother n b hb' he
      rw [hρ n (by rw [hb0]; simp)] at hn ⊢
      obtain ⟨h1, h2⟩ := h.own n b hb0 hl hn
      exact ⟨Nat.lt_of_lt_of_le h1 hg.size, h2⟩
  · by_cases e1 : n1 = nm
    · subst e1
      have e2 : n2 ≠ n1 := fun e => hn12 e.symm
      have hb0 := hother n2 b2 h2 e2
      rw [hρ n2 (by rw [hb0]; simp)] at i2 ⊢
      rw [hnew] at i1 ⊢
      exact fun e => hne n2 b2 hb0 l2 i2 i1 e.symm
    · have hb1 := hother n1 b1 h1 e1
      rw [hρ n1 (by rw [hb1]; simp)] at i1 ⊢
      by_cases e2 : n2 = nm
      · subst e2
        rw [hnew] at i2 ⊢
        exact hne n1 b1 hb1 l1 i1 i2
      · have hb2 := hother n2 b2 h2 e2
        rw [hρ n2 (by rw [hb2]; simp)] at i2 ⊢
        exact h.inj n1 n2 b1 b2 hb1 hb2 l1 l2 i1 i2 hn12
  · by_cases he : n = nm
    · subst he
      rw [hnew] at hn ⊢
      rcases hr hn with h1 | h1
      · exact fun e => (hrow _ h1).2.2.1 (by rw [e]; exact hb')
      · have := (h.im b hb').2.1; omega
    · have hb0 := hother n bk hk he
      rw [hρ n (by rw [hb0]; simp)] at hn ⊢
      exact (h.im b hb').2.2 n bk hb0 hl hn
  · by_cases he : n = nm
    · subst he; rw [St.upd_same]; simp
    · rw [upd_b_o he]
      by_cases hkn : (Key.b nm) = k
      · subst hkn
        rw [St.upd_same] at hk
        injection hk with hk; subst hk
        exact (hm n hn).resolve_left he
      · rw [St.upd_other _ _ hkn] at hk
        exact h.wf k it hk n hn
  · refine h.keep.step hg.os hg.tape hg.output hg.size (fun b hb hS => hg.block b (Nat.lt_of_lt_of_le hb h.keep.size) (fun e => ?_))
    rcases (hrow b e.symm).2.1 with h1 | h1
    · exact hS h1
    · omega

/-- append, of a source that may be empty. -/
theorem run_append_any {w : World} (t ty e : TypeId) (i : TypeInfo) (z : Value) (size bytes : Nat) (ht : P.underlying t = some (.slice e)) (hi : P.info? e = some i) (hz : i.zero = some z)
    (hsize : i.size = size) (hby : i.bytes = bytes) (hzs : z.cells.size = size) (hsz : 0 < size)
    (v : Value) (n : Nat) (xs : List Value) (hown : w.ownsRow 0 e size v n xs)
    (ao : Option Addr) (m c : Nat) (news : List Value) (hl : news.length = m * size) (hnews : 0 < m → ∃ ad, ao = some ad ∧ ∀ j u, news[j]? = some u → w.cell? (ad.add j) = some u) (h1 : ∀ u ∈ news, u.oneCell' = true)
    (h63 : n + m ≤ maxLen) (hbytes : (n + m) * bytes ≤ 140737488355328) :
    ∃ v' w', (Builtin.append_ #[t, t] ty #[v, .slice ao m c]).run P w = .ok v' w' ∧ w'.ownsRow 0 e size v' (n + m) (xs ++ news) ∧ w.grownBy w' v.ownBlock ∧
      (v' = .slice none 0 0 ↔ v = .slice none 0 0 ∧ m = 0) ∧ (v'.ownBlock = v.ownBlock ∨ v'.ownBlock = some w.heap.size) := by
  by_cases hm : m = 0
  · subst hm
    have hn : news = [] := List.eq_nil_of_length_eq_zero (by simpa using hl)
    subst hn
    refine ⟨v, w, ?_, by simpa using hown, ⟨rfl, rfl, rfl, Nat.le_refl _, fun _ _ _ => rfl⟩, by simp, .inl rfl⟩
    rcases hown.2 with ⟨rfl, rfl⟩ | ⟨g, cap, cur, rfl, _, hgg, hnc, _⟩
    · cases ao <;> simp [Builtin.append_, run_underlying ht, sizeOf, typeInfo, hi, Builtin.lenOf, Builtin.firstCells, loadCells, loadCellsFrom]
    · cases ao <;> simp [Builtin.append_, run_underlying ht, sizeOf, typeInfo, hi, Builtin.lenOf, Builtin.firstCells, loadCells, loadCellsFrom, storeCells, hnc]
  · obtain ⟨ad, rfl, hc⟩ := hnews (by omega)
    exact run_append_own_at (P := P) w 0 t ty e i z size bytes ht hi hz hsize hby hzs hsz v n xs hown ad m c news hl hc h1 h63 hbytes (Nat.zero_le _)

/-- What is appended. -/
inductive News (σ : St) (sz : Nat) : AV → Nat → List (List C) → List Key → Prop where
  | row {nm n T : Nat} {ys : List (List C)} : σ (.b nm) = some (.k (.row T sz ys)) → n = ys.length → News σ sz (.c (.row nm n)) n ys [.b nm]
  | rd {n : Nat} {f : Nat → Nat → D} : News σ sz (AD (.rd n sz f)) n ((List.range n).map fun i => (List.range sz).map fun j => .d (f i j)) []
  | nils : News σ sz (AD .nils) 0 [] []

theorem flatten_len {sz : Nat} {xs : List (List C)} (h : ∀ x ∈ xs, x.length = sz) : xs.flatten.length = xs.length * sz := by
  rw [List.length_flatten]
  have : ∀ l ∈ xs.map List.length, l = sz := by
    intro l hl
    obtain ⟨p, hp, rfl⟩ := List.mem_map.1 hl
    exact h p hp
  rw [List.eq_replicate_of_mem this, List.sum_replicate_nat]
  simp

theorem rdCells {f : Nat → Nat → D} {sz : Nat} {b o : Nat} : ∀ (n k : Nat), (∀ i, i < k + n → ∀ j, j < sz → ∃ u, w.cell? ⟨b, o + (i * sz + j), none⟩ = some u ∧ RepD w Im (f i j) u) →
    ∃ us : List Value, All2 (RepC ρ w Im) (((List.range n).map fun i => (List.range sz).map fun j => C.d (f (k + i) j)).flatten) us ∧ ∀ j u, us[j]? = some u → w.cell? ⟨b, o + (k * sz + j), none⟩ = some u := by
  intro n k h
  refine ⟨(List.range (n * sz)).map fun j => (w.cell? ⟨b, o + (k * sz + j), none⟩).getD Go.undef, ?_, ?_⟩
  · refine All2.of_get (by rw [flatten_len (sz := sz) (by intro x hx; obtain ⟨i, _, rfl⟩ := List.mem_map.1 hx; simp)]; simp) (fun i c u hc hu => ?_)
    have hlt := (List.getElem?_eq_some_iff.1 hu).1
    simp only [List.length_map, List.length_range] at hlt
    have hsz : 0 < sz := by
      rcases Nat.eq_zero_or_pos sz with h0 | h0
      · subst h0; simp at hlt
      · exact h0
    have hq : i / sz < n := Nat.div_lt_of_lt_mul (by rwa [Nat.mul_comm])
    have hrm : i % sz < sz := Nat.mod_lt _ hsz
    have hi : i / sz * sz + i % sz = i := by rw [Nat.mul_comm]; exact Nat.div_add_mod i sz
    have hx : ((List.range n).map fun i => (List.range sz).map fun j => C.d (f (k + i) j))[i / sz]? = some ((List.range sz).map fun j => C.d (f (k + i / sz) j)) := by
      rw [List.getElem?_map, List.getElem?_range hq]; rfl
    have hg := flatten_get (xs := (List.range n).map fun i => (List.range sz).map fun j => C.d (f (k + i) j)) (sz := sz) (by intro x hx; obtain ⟨i, _, rfl⟩ := List.mem_map.1 hx; simp) hx (i % sz) hrm
    rw [hi, hc, List.getElem?_map, List.getElem?_range hrm] at hg
    injection hg with hg
    subst hg
    obtain ⟨v, hv, hrep⟩ := h (k + i / sz) (by omega) (i % sz) hrm
    have : (k + i / sz) * sz + i % sz = k * sz + i := by rw [Nat.add_mul]; omega
    rw [this] at hv
    rw [List.getElem?_map, List.getElem?_range hlt] at hu
    simp only [Option.map_some, Option.some.injEq, hv, Option.getD_some] at hu
    subst hu
    exact hrep
  · intro j u hu
    have hlt := (List.getElem?_eq_some_iff.1 hu).1
    simp only [List.length_map, List.length_range] at hlt
    have hsz : 0 < sz := by
      rcases Nat.eq_zero_or_pos sz with h0 | h0
      · subst h0; simp at hlt
      · exact h0
    have hq : j / sz < n := Nat.div_lt_of_lt_mul (by rwa [Nat.mul_comm])
    have hrm : j % sz < sz := Nat.mod_lt _ hsz
    have hi : j / sz * sz + j % sz = j := by rw [Nat.mul_comm]; exact Nat.div_add_mod j sz
    obtain ⟨v, hv, _⟩ := h (k + j / sz) (by omega) (j % sz) hrm
    have : (k + j / sz) * sz + j % sz = k * sz + j := by rw [Nat.add_mul]; omega
    rw [this] at hv
    rw [List.getElem?_map, List.getElem?_range hlt] at hu
    simp only [Option.map_some, Option.some.injEq, hv, Option.getD_some] at hu
    rw [hv, hu]

theorem News.ok (hs : SatAt E σ a w ρ Im) {sz : Nat} {v : AV} {m : Nat} {ys : List (List C)} {ks : List Key} (h : News σ sz v m ys ks) {u : Value} (hr : RepA E ρ w Im v u) :
    ∃ (ao : Option Addr) (c : Nat) (news : List Value), u = .slice ao m c ∧ All2 (RepC ρ w Im) ys.flatten news ∧ (∀ y ∈ ys, y.length = sz) ∧ ys.length = m ∧
      (0 < m → ∃ ad, ao = some ad ∧ ∀ j u, news[j]? = some u → w.cell? (ad.add j) = some u) ∧ ∀ n, (ys.any fun y => y.any (·.mentions n)) = true → σ (.b n) ≠ none := by
  cases h with
  | @row nm _ T _ hb hn =>
    subst hn
    have hr : u = if (ρ nm).isNil then .slice none 0 0 else .slice (some ⟨(ρ nm).blk, 0, none⟩) ys.length (ρ nm).cap := hr
    by_cases hne : ys = []
    · subst hne
      cases hnil : (ρ nm).isNil with
      | true => rw [hnil] at hr; exact ⟨none, 0, [], hr, .nil, by simp, rfl, fun h => absurd h (Nat.lt_irrefl 0), by simp⟩
      | false => rw [hnil] at hr; exact ⟨_, _, [], hr, .nil, by simp, rfl, fun h => absurd h (Nat.lt_irrefl 0), by simp⟩
    · obtain ⟨hnil, us, spare, hh, ha, hlen, _⟩ := row_heap hs hb hne
      rw [hnil] at hr
      refine ⟨_, _, us, hr, ha, hlen, rfl, fun _ => ⟨_, rfl, fun j v hv => ?_⟩, fun n hn => hs.wf _ _ hb n hn⟩
      refine cells_heap hh 0 j v ?_
      have hlt := (List.getElem?_eq_some_iff.1 hv).1
      rw [List.drop_zero, List.getElem?_append_left hlt]
      exact hv
  | @rd _ f =>
    obtain ⟨hmax, ad, c, rfl, hc, hcell⟩ := hr
    by_cases h0 : m = 0
    · subst h0
      exact ⟨ad, c, [], rfl, .nil, by simp, rfl, fun h => absurd h (Nat.lt_irrefl 0), by simp⟩
    · obtain ⟨b, o, rfl, hb, hx⟩ := hcell (by omega)
      obtain ⟨us, h1, h2⟩ := rdCells (ρ := ρ) m 0 (by simpa using hx)
      simp only [Nat.zero_add] at h1
      refine ⟨_, c, us, rfl, h1, by simp, by simp, fun _ => ⟨_, rfl, fun j v hv => ?_⟩, fun n hn => ?_⟩
      · have hadd : (⟨b, o, none⟩ : Addr).add j = ⟨b, o + j, none⟩ := by unfold Addr.add; split <;> simp_all
        rw [hadd]
        have := h2 j v hv
        simpa using this
      · simp [C.mentions] at hn
  | nils => exact ⟨none, 0, [], hr, .nil, by simp, rfl, fun h => absurd h (Nat.lt_irrefl 0), by simp⟩

theorem News.of_same {σ σ' : St} {sz : Nat} {v : AV} {m : Nat} {ys : List (List C)} {ks : List Key} (h : News σ sz v m ys ks) (hk : ∀ k ∈ ks, σ' k = σ k) : News σ' sz v m ys ks := by
  cases h with
  | row h1 h2 => exact .row (by rw [hk _ (by simp)]; exact h1) h2
  | rd => exact .rd
  | nils => exact .nils
end

section
variable {P : Program} {N : Nat} {E : Env P N} {ops : Array Oper} {dr : Bool} {rest : List Oper} {σ : St} {tr : Trace} {K : St → Prop}
  {d : Nat} {t yt ty te : TypeId} {pos : String} {af : Array Edge} {gd : Option (Nat × Bool)} {gR : Upds} {x y z : Operand} {ti ei : TyI}

theorem run_append_oper {a : Act} {w : World} {v' : Value} {w' : World} {vx vy : Value} (hx : a.eval x = vx) (hy : a.eval y = vy) (h : (Builtin.append_ #[t, t] ty #[vx, vy]).run P w = .ok v' w') :
    (execOp a.eval ⟨some d, .call ⟨.builtin .append, #[x, y], #[t, t]⟩, ty, pos, af, gd⟩).run P w = .ok (.value v') w' := by
  unfold execOp
  simp only [resolve, invoke, builtin, Sem.run_bind, Sem.run_pure, Result.andThen_ok, List.map_toArray, List.map_cons, List.map_nil, hx, hy, h]

/-- Behind an append: the new row, by the name 'new'. -/
theorem sat_appended {σ : St} {a : Act} {w w' : World} {ρ : Nat → RI} {Im : Nat → Prop} (hs : SatAt E σ a w ρ Im) {sz n m : Nat} {xs ys : List (List C)} {uxs news : List Value} {v v' : Value}
    (hxs : All2 (RepC ρ w Im) xs.flatten uxs) (hys : All2 (RepC ρ w Im) ys.flatten news) (hlx : ∀ x ∈ xs, x.length = sz) (hly : ∀ y ∈ ys, y.length = sz) (hn : xs.length = n) (hm : ys.length = m)
    (hwx : ∀ nm, (xs.any fun y => y.any (·.mentions nm)) = true → σ (.b nm) ≠ none) (hwy : ∀ nm, (ys.any fun y => y.any (·.mentions nm)) = true → σ (.b nm) ≠ none)
    (hrow : ∀ k, v.ownBlock = some k → k < w.heap.size ∧ (E.S0 k ∨ E.w0.heap.size ≤ k) ∧ ¬ Im k ∧ ∀ nm bk, σ (.b nm) = some (.k bk) → bk.live = true → (ρ nm).isNil = false → (ρ nm).blk ≠ k)
    (hown : w'.ownsRow 0 te sz v' (n + m) (uxs ++ news)) (hg : w.grownBy w' v.ownBlock) (hat : v'.ownBlock = v.ownBlock ∨ v'.ownBlock = some w.heap.size)
    {new : Nat} (hfresh : σ (.b new) = none) (hN : d < N) : Sat E ((σ.upd (.b new) (some (.k (.row te sz (xs ++ ys))))).upd (.s d) (some (.v (.c (.row new (n + m)))))) (a.put (some d) v') w' := by
  have hIm : ∀ b, Im b → Im b ∧ w'.heap[b]? = w.heap[b]? := fun b hb => ⟨hb, hg.block b (hs.im b hb).2.1 (fun e => (hrow b e.symm).2.2.1 hb)⟩
  have hmm : ∀ nm, (Blk.row te sz (xs ++ ys)).mentions nm = true → σ (.b nm) ≠ none := fun nm h => by
    simp only [Blk.mentions, List.any_append, Bool.or_eq_true] at h
    exact h.elim (hwx nm) (hwy nm)
  rcases hown.2 with ⟨hv, hnm⟩ | ⟨g, cap, cur, hv, _, hgg, hnc, hcm, hcs, htake⟩
  · have hx0 : xs = [] := List.eq_nil_of_length_eq_zero (by omega)
    have hy0 : ys = [] := List.eq_nil_of_length_eq_zero (by omega)
    subst hx0; subst hy0; subst hv
    have h1 := hs.addblk (nm := new) (r := ⟨0, 0, true⟩) (blk := .row te sz ([] ++ [])) hg hrow hfresh (fun h => by cases h) (by unfold BlkOK; simp [setR]) (fun nm h => .inr (hmm nm h))
    exact ⟨_, _, h1.put hN (by show _ = _; simp [setR]) (fun nm h => by
      have : new = nm := by simpa [AV.mentions, AV.mentions0, C.mentions] using h
      subst this; rw [St.upd_same]; simp)⟩
  · subst hv
    have hnew : setR ρ new ⟨g, cap, false⟩ new = ⟨g, cap, false⟩ := by simp [setR]
    have hlen : ∀ x ∈ xs ++ ys, x.length = sz := fun x hx => (List.mem_append.1 hx).elim (hlx x) (hly x)
    have hul : (uxs ++ news).length = (n + m) * sz := hown.1
    have h1 := hs.addblk (nm := new) (r := ⟨g, cap, false⟩) (blk := .row te sz (xs ++ ys)) hg hrow hfresh (fun _ => by
      rcases hat with h | h
      · exact .inl h.symm
      · injection h with h
        exact .inr ⟨h, (Array.getElem?_eq_some_iff.1 hgg).1⟩) (by
        unfold BlkOK
        rw [hnew]
        simp only [Bool.false_eq_true, if_false]
        refine ⟨uxs ++ news, cur.toList.drop ((n + m) * sz), ?_, ?_, hlen, ?_, by simp; omega, hcm⟩
        · rw [← htake, List.take_append_drop, Array.toArray_toList]; exact hgg
        · rw [List.flatten_append]
          refine (hxs.append hys).imp fun c hc u hr => RepC.keep hIm (fun nm hnm => ?_) hr
          have : σ (.b nm) ≠ none := hmm nm (by
            rw [← List.flatten_append] at hc
            obtain ⟨l, hl, hcl⟩ := List.mem_flatten.1 hc
            simp only [Blk.mentions, List.any_eq_true]
            exact ⟨l, hl, c, hcl, hnm⟩)
          unfold setR
          rw [if_neg (fun e => this (by rw [e]; exact hfresh))]
        · rw [hul, List.length_drop, Array.length_toList, hcs]
          have : (n + m) * sz ≤ cap * sz := Nat.mul_le_mul_right _ hnc
          omega) (fun nm h => .inr (hmm nm h))
    exact ⟨_, _, h1.put hN (by
      show _ = _
      rw [hnew]
      simp) (fun nm h => by
      have : new = nm := by simpa [AV.mentions, AV.mentions0, C.mentions] using h
      subst this; rw [St.upd_same]; simp)⟩

theorem info_of [h : TyOK P t ti] : ∃ i, P.info? t = some i ∧ i.size = ti.size ∧ i.bytes = ti.bytes ∧ i.zero = some ti.zero := h.get

/-- append onto none. -/
theorem vr_append_nils {v : AV} {m : Nat} {ys : List (List C)} {ks : List Key} (new : Nat) [ht : TyOK P t ti] [het : TyOK P te ei] (hg : GOK N ops σ gd gR) (hx : ev σ x = some (AD .nils)) (hy : ev σ y = some v)
    (hnews : News σ ei.size v m ys ks) (hd : ti.k = .slice te) (hz : Nat.beq ei.zero.cells.size ei.size = true) (hsz : Nat.blt 0 ei.size = true) (hm : m * ei.bytes ≤ 140737488355328 ∧ m ≤ 9223372036854775807) (hfresh : σ (.b new) = none) (hN : Nat.blt d N = true)
    (k : VR E ops dr rest ((σ.upd (.b new) (some (.k (.row te ei.size ys)))).set d (.c (.row new m))) ((gR.map (·.1) ++ (opK x ++ (opK y ++ (ks ++ [.b new]))), [.b new, .s d]) :: tr) K) :
    VR E ops dr (⟨some d, .call ⟨.builtin .append, #[x, y], #[t, t]⟩, ty, pos, af, gd⟩ :: rest) σ tr K := by
  refine vr_do (R := opR x (AD .nils) ++ (opR y v ++ (ks.map (fun k => (k, σ k)) ++ [(.b new, none)]))) (U := [(.b new, some (.k (.row te ei.size ys))), (.s d, some (.v (.c (.row new m))))]) hg (fun σ' a w ρ Im hs hR K Q hK => ?_)
    (reads_append (opR_ok hx) (reads_append (opR_ok hy) (reads_append (fun p hp => by obtain ⟨q, _, rfl⟩ := List.mem_map.1 hp; rfl) (by intro p hp; rw [List.mem_singleton] at hp; subst hp; exact hfresh))))
    (by simp [opR_keys, Function.comp_def]) rfl k
  have hf : σ' (.b new) = none := hR (.b new, none) (by simp)
  obtain ⟨hr, _⟩ := ev_ok hs (ev_of hx fun p hp => hR p (List.mem_append_left _ hp))
  obtain ⟨hr', hm'⟩ := ev_ok hs (ev_of hy fun p hp => hR p (List.mem_append_right _ (List.mem_append_left _ hp)))
  have hnews' : News σ' ei.size v m ys ks := hnews.of_same fun k hk => hR (k, σ k) (List.mem_append_right _ (List.mem_append_right _ (List.mem_append_left _ (List.mem_map.2 ⟨k, hk, rfl⟩))))
  obtain ⟨ao, c, news, he', hys, hly, hlm, hcell, hwy⟩ := hnews'.ok hs hr'
  have he : a.eval x = .slice none 0 0 := hr
  obtain ⟨i, h1, h2, h3, h4⟩ := het.get
  obtain ⟨v', w', hrun, hown, hgr, hnil, hat⟩ := run_append_any (P := P) (w := w) t ty te i ei.zero ei.size ei.bytes (ht.slice hd) h1 h4 h2 h3 (Nat.eq_of_beq_eq_true hz) (by simpa using hsz)
    (.slice none 0 0) 0 [] (World.ownsRow_nil w 0 te ei.size) ao m c news (by rw [← hys.length, flatten_len hly, hlm]) hcell (all2_one hys) (by simp only [maxLen]; omega) (by rw [Nat.zero_add]; exact hm.1)
  unfold Oper.wp
  rw [run_append_oper he he' hrun]
  simp only [Nat.zero_add, List.nil_append] at hown
  refine hK _ _ ?_
  have := sat_appended (te := te) (xs := []) (n := 0) (uxs := []) hs .nil hys (by simp) hly rfl hlm (by simp) hwy (fun k hk => by cases hk) (by simpa using hown) hgr hat hf (by simpa using hN)
  simp only [Nat.zero_add, List.nil_append] at this
  exact this

/-- append onto an own row. -/
theorem vr_append {nm n : Nat} {xs : List (List C)} {v : AV} {m : Nat} {ys : List (List C)} {ks : List Key} (new : Nat) [ht : TyOK P t ti] [het : TyOK P te ei] (hg : GOK N ops σ gd gR) (hx : ev σ x = some (.c (.row nm n))) (hy : ev σ y = some v)
    (hb : σ (.b nm) = some (.k (.row te ei.size xs))) (hn : n = xs.length) (hnews : News (σ.upd (.b nm) (some (.k .dead))) ei.size v m ys ks) (hd : ti.k = .slice te) (hz : Nat.beq ei.zero.cells.size ei.size = true) (hsz : Nat.blt 0 ei.size = true)
    (hm : (n + m) * ei.bytes ≤ 140737488355328 ∧ n + m ≤ 9223372036854775807) (hfresh : σ (.b new) = none) (hN : Nat.blt d N = true)
    (k : VR E ops dr rest (((σ.upd (.b nm) (some (.k .dead))).upd (.b new) (some (.k (.row te ei.size (xs ++ ys))))).set d (.c (.row new (n + m)))) ((gR.map (·.1) ++ (opK x ++ (opK y ++ (.b nm :: (ks ++ [.b new])))), [.b nm, .b new, .s d]) :: tr) K) :
    VR E ops dr (⟨some d, .call ⟨.builtin .append, #[x, y], #[t, t]⟩, ty, pos, af, gd⟩ :: rest) σ tr K := by
  have hne : new ≠ nm := fun e => by rw [e, hb] at hfresh; cases hfresh
  have hks : ∀ k ∈ ks, k ≠ .b nm := by
    intro k hk e
    subst e
    cases hnews with
    | @row nm' _ _ _ h1 h2 =>
      rw [List.mem_singleton] at hk
      injection hk with hk
      subst hk
      rw [St.upd_same] at h1
      cases h1
    | rd => cases hk
    | nils => cases hk
  refine vr_do (R := opR x (.c (.row nm n)) ++ (opR y v ++ ((.b nm, some (.k (.row te ei.size xs))) :: (ks.map (fun k => (k, σ k)) ++ [(.b new, none)])))) (U := [(.b nm, some (.k .dead)), (.b new, some (.k (.row te ei.size (xs ++ ys)))), (.s d, some (.v (.c (.row new (n + m)))))]) hg (fun σ' a w ρ Im hs hR K Q hK => ?_)
    (reads_append (opR_ok hx) (reads_append (opR_ok hy) (fun p hp => ?_)))
    (by simp [opR_keys, Function.comp_def]) rfl k
  rotate_left
  · rcases List.mem_cons.1 hp with rfl | hp
    · exact hb
    · rcases List.mem_append.1 hp with hp | hp
      · obtain ⟨q, _, rfl⟩ := List.mem_map.1 hp; rfl
      · rw [List.mem_singleton] at hp; subst hp; exact hfresh
  have hf : σ' (.b new) = none := hR (.b new, none) (by simp)
  have hb' : σ' (.b nm) = some (.k (.row te ei.size xs)) := hR (.b nm, _) (by simp)
  obtain ⟨hr, _⟩ := ev_ok hs (ev_of hx fun p hp => hR p (List.mem_append_left _ hp))
  have hy' := ev_of hy fun p hp => hR p (List.mem_append_right _ (List.mem_append_left _ hp))
  have hs1 := hs.kill nm
  have hnews' : News (σ'.upd (.b nm) (some (.k .dead))) ei.size v m ys ks := hnews.of_same fun k hk => by
    rw [St.upd_other _ _ (Ne.symm (hks k hk)), St.upd_other _ _ (Ne.symm (hks k hk))]
    exact hR (k, σ k) (List.mem_append_right _ (List.mem_append_right _ (List.mem_cons_of_mem _ (List.mem_append_left _ (List.mem_map.2 ⟨k, hk, rfl⟩)))))
  obtain ⟨hr', _⟩ := ev_ok hs hy'
  obtain ⟨ao, c, news, he', hys, hly, hlm, hcell, hwy⟩ := hnews'.ok hs1 hr'
  have he : a.eval x = if (ρ nm).isNil then .slice none 0 0 else .slice (some ⟨(ρ nm).blk, 0, none⟩) n (ρ nm).cap := hr
  obtain ⟨i, h1, h2, h3, h4⟩ := het.get
  have hf1 : σ'.upd (.b nm) (some (.k .dead)) (.b new) = none := by rw [upd_b_o hne]; exact hf
  have hbk := hs.bk nm _ hb'
  unfold BlkOK at hbk
  have hwx : ∀ n', (xs.any fun y => y.any (·.mentions n')) = true → σ'.upd (.b nm) (some (.k .dead)) (.b n') ≠ none := fun n' hn' => by
    have := hs.wf _ _ hb' n' hn'
    by_cases e : n' = nm
    · subst e; rw [St.upd_same]; simp
    · rw [upd_b_o e]; exact this
  have hall : ∃ (vx : Value) (uxs : List Value), a.eval x = vx ∧ w.ownsRow 0 te ei.size vx n uxs ∧ All2 (RepC ρ w Im) xs.flatten uxs ∧ (∀ x ∈ xs, x.length = ei.size) ∧
      ∀ k, vx.ownBlock = some k → (ρ nm).isNil = false ∧ k = (ρ nm).blk := by
    cases hnil : (ρ nm).isNil with
    | true =>
      simp only [hnil, if_true] at hbk he
      subst hbk
      subst hn
      exact ⟨_, [], he, World.ownsRow_nil w 0 te ei.size, .nil, by simp, fun k hk => by cases hk⟩
    | false =>
      simp only [hnil, Bool.false_eq_true, if_false] at hbk he
      obtain ⟨us, spare, hh, ha, hlen, hcap, hle, hmax⟩ := hbk
      have hul : us.length = n * ei.size := by rw [← ha.length, flatten_len hlen, hn]
      refine ⟨_, us, he, ⟨hul, .inr ⟨_, _, _, rfl, Nat.zero_le _, hh, by omega, hmax, by simp [← hcap], ?_⟩⟩, ha, hlen, fun k hk => ⟨rfl, ?_⟩⟩
      · simp only [List.take_append_of_le_length (Nat.le_of_eq hul.symm)]
        exact List.take_of_length_le (by omega)
      · injection hk with hk; exact hk.symm
  obtain ⟨vx, uxs, hex, hownx, hxs, hlx, hblk⟩ := hall
  obtain ⟨v', w', hrun, hown, hgr, hnil, hat⟩ := run_append_any (P := P) (w := w) t ty te i ei.zero ei.size ei.bytes (ht.slice hd) h1 h4 h2 h3 (Nat.eq_of_beq_eq_true hz) (by simpa using hsz)
    vx n uxs hownx ao m c news (by rw [← hys.length, flatten_len hly, hlm]) hcell (all2_one hys) (by simp only [maxLen]; omega) hm.1
  unfold Oper.wp
  rw [run_append_oper hex he' hrun]
  refine hK _ _ ?_
  refine sat_appended (te := te) hs1 hxs hys hlx hly hn.symm hlm hwx hwy (fun k hk => ?_) hown hgr hat hf1 (by simpa using hN)
  obtain ⟨hnl, rfl⟩ := hblk k hk
  obtain ⟨o1, o2⟩ := hs.own nm _ hb' rfl hnl
  refine ⟨o1, o2, fun hI => (hs.im _ hI).2.2 nm _ hb' rfl hnl rfl, fun n' bk hk' hl hn' => ?_⟩
  by_cases e : n' = nm
  · subst e
    rw [St.upd_same] at hk'
    injection hk' with hk'; injection hk' with hk'; subst hk'
    cases hl
  · rw [upd_b_o e] at hk'
    exact hs.inj n' nm bk _ hk' hb' hl rfl hn' hnl e
end
end Go.Sx
