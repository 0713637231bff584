/-
  Sx, part 17: less is said, by other names: own blocks are renamed, own rows become slices that are only read, none becomes an empty own row.
-/
import Derived.Test.YtcheghbghehifaaSxAppend
namespace Go.Sx
open Go Go.RowKit

/-- What is there (left), and what is said of it behind (right): the name n behind is the name 'f n' before; the rows of L are no longer written. -/
inductive CW (σ : St) (f : Nat → Nat) (L : List Nat) : C → C → Prop where
  | d {x : D} : CW σ f L (.d x) (.d x)
  | nil {sz : Nat} {g : Nat → Nat → D} : CW σ f L (.d .nils) (.d (.rd 0 sz g))
  | ptr {m n o : Nat} : f n = m → CW σ f L (.ptr m o) (.ptr n o)
  | row {m n k k' : Nat} : f n = m → k = k' → CW σ f L (.row m k) (.row n k')
  | frz {nm n T sz : Nat} {xs : List (List C)} {g : Nat → Nat → D} : nm ∈ L → σ (.b nm) = some (.k (.row T sz xs)) → n ≤ xs.length →
      (∀ (i : Nat) (x : List C), i < n → xs[i]? = some x → ∀ j, j < sz → x[j]? = some (.d (g i j))) → CW σ f L (.row nm n) (.d (.rd n sz g))

inductive AW (σ : St) (f : Nat → Nat) (L : List Nat) : AV → AV → Prop where
  | c {x y : C} : CW σ f L x y → AW σ f L (.c x) (.c y)
  | agg {cs cs' : List C} : All2 (CW σ f L) cs cs' → AW σ f L (.agg cs) (.agg cs')
  | ep {g : Nat → D} {m : Nat} : AW σ f L (.ep g m) (.ep g m)
  | rp {m n sz i o : Nat} : f n = m → AW σ f L (.rp m sz i o) (.rp n sz i o)
  | clo {φ : List DV → DV → Prop} : AW σ f L (.clo φ) (.clo φ)
  | fnc {g : FuncId} : AW σ f L (.fnc g []) (.fnc g [])

inductive BW (σ : St) (f : Nat → Nat) (L : List Nat) : Blk → Blk → Prop where
  | box {cs cs' : List C} : All2 (CW σ f L) cs cs' → BW σ f L (.box cs) (.box cs')
  | row {T sz : Nat} {xs xs' : List (List C)} : All2 (All2 (CW σ f L)) xs xs' → BW σ f L (.row T sz xs) (.row T sz xs')

def hasW (σ : St) (f : Nat → Nat) (L : List Nat) : List (Nat × AV) → Prop
  | [] => True
  | p :: l => (∃ y, σ (.s p.1) = some (.v y) ∧ AW σ f L y p.2) ∧ hasW σ f L l
def hasBW (σ : St) (f : Nat → Nat) (L : List Nat) : List (Nat × Blk) → Prop
  | [] => True
  | p :: l => (∃ y, σ (.b (f p.1)) = some (.k y) ∧ BW σ f L y p.2) ∧ hasBW σ f L l

theorem hasW_look {σ : St} {f : Nat → Nat} {L : List Nat} : ∀ {l : List (Nat × AV)}, hasW σ f L l → ∀ {n : Nat} {x : AV}, lookL l n = some x → ∃ y, σ (.s n) = some (.v y) ∧ AW σ f L y x
  | [], _, _, _, h => by cases h
  | p :: l, hs, n, x, h => by
    simp only [lookL] at h
    cases hb : Nat.beq p.1 n with
    | true =>
      rw [hb] at h
      have e : p.1 = n := by simpa using hb
      have e2 : p.2 = x := by simpa using h
      rw [← e, ← e2]; exact hs.1
    | false => rw [hb] at h; exact hasW_look hs.2 h
theorem hasBW_look {σ : St} {f : Nat → Nat} {L : List Nat} : ∀ {l : List (Nat × Blk)}, hasBW σ f L l → ∀ {n : Nat} {x : Blk}, lookL l n = some x → ∃ y, σ (.b (f n)) = some (.k y) ∧ BW σ f L y x
  | [], _, _, _, h => by cases h
  | p :: l, hs, n, x, h => by
    simp only [lookL] at h
    cases hb : Nat.beq p.1 n with
    | true =>
      rw [hb] at h
      have e : p.1 = n := by simpa using hb
      have e2 : p.2 = x := by simpa using h
      rw [← e, ← e2]; exact hs.1
    | false => rw [hb] at h; exact hasBW_look hs.2 h

/-- Each of the names stands for another block, none of L's. -/
def injOK (f : Nat → Nat) (L : List Nat) : List (Nat × Blk) → Bool
  | [] => true
  | p :: l => (L.all fun m => !(Nat.beq (f p.1) m)) && (l.all fun q => Nat.beq p.1 q.1 || !(Nat.beq (f p.1) (f q.1))) && injOK f L l

theorem injOK_L {f : Nat → Nat} {L : List Nat} : ∀ {b : List (Nat × Blk)}, injOK f L b = true → ∀ {n : Nat} {x : Blk}, lookL b n = some x → ∀ m ∈ L, f n ≠ m
  | [], _, _, _, h => by cases h
  | p :: l, hi, n, x, h => by
    simp only [injOK, Bool.and_eq_true, List.all_eq_true] at hi
    simp only [lookL] at h
    cases hb : Nat.beq p.1 n with
    | true =>
      have e : p.1 = n := by simpa using hb
      intro m hm he
      have := hi.1.1 m hm
      rw [e, he] at this
      simp at this
    | false => rw [hb] at h; exact injOK_L hi.2 h

theorem injOK_ne {f : Nat → Nat} {L : List Nat} : ∀ {b : List (Nat × Blk)}, injOK f L b = true → ∀ {n m : Nat} {x y : Blk}, lookL b n = some x → lookL b m = some y → n ≠ m → f n ≠ f m
  | [], _, _, _, _, _, h, _, _ => by cases h
  | p :: l, hi, n, m, x, y, hn, hm, hne => by
    simp only [injOK, Bool.and_eq_true, List.all_eq_true] at hi
    simp only [lookL] at hn hm
    have key : ∀ {k : Nat} {z : Blk}, lookL l k = some z → p.1 ≠ k → f p.1 ≠ f k := fun {k z} hk hpk he => by
      have := hi.1.2 _ (lookL_mem hk)
      simp only [he, Bool.or_eq_true] at this
      rcases this with h1 | h1
      · exact hpk (by simpa using h1)
      · simp at h1
    cases hb : Nat.beq p.1 n with
    | true =>
      have e : p.1 = n := by simpa using hb
      cases hb' : Nat.beq p.1 m with
      | true => have e' : p.1 = m := by simpa using hb'
                exact absurd (e.symm.trans e') hne
      | false => rw [hb'] at hm; rw [← e]; exact key hm (by rw [e]; exact hne)
    | false =>
      rw [hb] at hn
      cases hb' : Nat.beq p.1 m with
      | true =>
        have e' : p.1 = m := by simpa using hb'
        rw [← e']
        exact fun he => key hn (by rw [e']; exact Ne.symm hne) he.symm
      | false => rw [hb'] at hm; exact injOK_ne hi.2 hn hm hne

section
variable {P : Program} {N : Nat} {E : Env P N} {σ : St} {a : Act} {w : World} {ρ : Nat → RI} {Im : Nat → Prop} {f : Nat → Nat} {L : List Nat}

theorem CW.ok (hs : SatAt E σ a w ρ Im) {x y : C} {v : Value} (h : CW σ f L x y) (hr : RepC ρ w Im x v) : RepC (fun n => ρ (f n)) w (lentIm σ ρ Im L) y v := by
  cases h with
  | d => exact RepD.keep (fun b hb => ⟨.inl hb, rfl⟩) hr
  | nil => exact CR.ok hs (.nil (L := L)) hr
  | ptr he => subst he; exact hr
  | row he hk => subst he; subst hk; exact hr
  | frz h1 h2 h3 h4 => exact CR.ok hs (.row h1 h2 h3 h4) hr

theorem CWs.ok (hs : SatAt E σ a w ρ Im) {xs ys : List C} (h : All2 (CW σ f L) xs ys) : ∀ {us : List Value}, All2 (RepC ρ w Im) xs us → All2 (RepC (fun n => ρ (f n)) w (lentIm σ ρ Im L)) ys us := by
  induction h with
  | nil => intro us hr; cases hr; exact .nil
  | cons h1 _ ih => intro us hr; cases hr with
    | cons hr hrs => exact .cons (h1.ok hs hr) (ih hrs)

theorem AW.ok (hs : SatAt E σ a w ρ Im) {x y : AV} {v : Value} (h : AW σ f L x y) (hr : RepA E ρ w Im x v) : RepA E (fun n => ρ (f n)) w (lentIm σ ρ Im L) y v := by
  cases h with
  | c h => exact h.ok hs hr
  | agg h => obtain ⟨us, rfl, ha⟩ := hr; exact ⟨us, rfl, CWs.ok hs h ha⟩
  | ep =>
    obtain ⟨b, o, rfl, hb, hx⟩ := hr
    refine ⟨b, o, rfl, .inl hb, fun j hj => ?_⟩
    obtain ⟨u, hu, hru⟩ := hx j hj
    exact ⟨u, hu, RepD.keep (w := w) (fun b hb => ⟨.inl hb, rfl⟩) hru⟩
  | rp he => subst he; exact hr
  | clo => exact hr
  | fnc =>
    obtain ⟨us, rfl, ha⟩ := hr
    cases ha
    exact ⟨[], rfl, .nil⟩

theorem all2_flat {α β : Type} {R : α → β → Prop} {xs : List (List α)} {ys : List (List β)} (h : All2 (All2 R) xs ys) : All2 R xs.flatten ys.flatten := by
  induction h with
  | nil => exact .nil
  | cons h _ ih => exact h.append ih

theorem BW.ok (hs : SatAt E σ a w ρ Im) {n : Nat} {x y : Blk} (h : BW σ f L x y) (hr : BlkOK ρ w Im (f n) x) : BlkOK (fun n => ρ (f n)) w (lentIm σ ρ Im L) n y := by
  cases h with
  | box h => obtain ⟨h1, us, T, h2, h3⟩ := hr; exact ⟨h1, us, T, h2, CWs.ok hs h h3⟩
  | @row T sz xs xs' h =>
    unfold BlkOK at hr ⊢
    have hl := h.length
    cases hnil : (ρ (f n)).isNil with
    | true =>
      simp only [hnil, if_true] at hr ⊢
      subst hr
      exact List.eq_nil_of_length_eq_zero (by simpa using hl.symm)
    | false =>
      simp only [hnil, Bool.false_eq_true, if_false] at hr ⊢
      obtain ⟨us, spare, hh, ha, hlen, hc, hle, hm⟩ := hr
      refine ⟨us, spare, hh, CWs.ok hs (all2_flat h) ha, fun y hy => ?_, hc, by omega, hm⟩
      obtain ⟨i, hi⟩ := List.mem_iff_getElem?.1 hy
      have hil : i < xs.length := by rw [hl]; exact (List.getElem?_eq_some_iff.1 hi).1
      obtain ⟨z, hz, hzz⟩ := h.get (List.getElem?_eq_getElem hil)
      rw [hi] at hz
      injection hz with hz
      subst hz
      rw [← hzz.length]
      exact hlen _ (List.getElem_mem hil)

theorem BW.live {x y : Blk} (h : BW σ f L x y) : x.live = true := by cases h <;> rfl

/-- What is written out, by other names. -/
theorem le_gen {l : List (Nat × AV)} {b : List (Nat × Blk)} (f : Nat → Nat) (L : List Nat) (hS : ∀ b, ¬ E.S0 b) (hl : hasW σ f L l) (hb : hasBW σ f L b) (hi : injOK f L b = true) (hwf : wfL l b = true) : Le E σ (stOf l b) := by
  intro a w ⟨ρ, Im, h⟩
  have hsb : ∀ n x, stOf l b (.b n) = some (.k x) → lookL b n = some x := fun n x hx => by
    simp only [stOf, Option.map_eq_some_iff] at hx
    obtain ⟨y, hy, e⟩ := hx
    injection e with e; subst e
    exact hy
  refine ⟨fun n => ρ (f n), lentIm σ ρ Im L, fun t x hx => ?_, fun n x hx => ?_, fun n x hx hlv hn => ?_, fun n1 n2 b1 b2 h1 h2 l1 l2 i1 i2 hne => ?_,
    fun c hc => ⟨?_, lentIm_lt h c hc, fun n x hx hlv hn => ?_⟩, stOf_wf hwf, h.defers, h.size, h.keep⟩
  · simp only [stOf, Option.map_eq_some_iff] at hx
    obtain ⟨y, hy, e⟩ := hx
    injection e with e; subst e
    obtain ⟨z, hz, hw⟩ := hasW_look hl hy
    exact hw.ok h (h.fr t z hz)
  · obtain ⟨z, hz, hw⟩ := hasBW_look hb (hsb n x hx)
    exact hw.ok h (h.bk _ z hz)
  · obtain ⟨z, hz, hw⟩ := hasBW_look hb (hsb n x hx)
    exact h.own _ z hz hw.live hn
  · obtain ⟨z1, hz1, hw1⟩ := hasBW_look hb (hsb _ _ h1)
    obtain ⟨z2, hz2, hw2⟩ := hasBW_look hb (hsb _ _ h2)
    exact h.inj _ _ z1 z2 hz1 hz2 hw1.live hw2.live i1 i2 (injOK_ne hi (hsb _ _ h1) (hsb _ _ h2) hne)
  · rcases hc with hc | ⟨nm, _, bk, h1, h2, h3, rfl⟩
    · exact (h.im c hc).1
    · rcases (h.own nm bk h1 h2 h3).2 with h4 | h4
      · exact absurd h4 (hS _)
      · exact .inr h4
  · obtain ⟨z, hz, hw⟩ := hasBW_look hb (hsb n x hx)
    rcases hc with hc | ⟨nm, hnm, bk, h1, h2, h3, rfl⟩
    · exact (h.im c hc).2.2 _ z hz hw.live hn
    · exact h.inj _ _ z bk hz h1 hw.live h2 hn h3 (injOK_L hi (hsb n x hx) nm hnm)

/-- None, as an own row without elements. -/
theorem le_nil {t nm T sz : Nat} (hx : σ (.s t) = some (.v (AD .nils))) (hf : σ (.b nm) = none) : Le E σ ((σ.upd (.b nm) (some (.k (.row T sz [])))).set t (.c (.row nm 0))) := by
  intro a w ⟨ρ, Im, h⟩
  have h1 := h.addblk (w' := w) (row := none) (nm := nm) (r := ⟨0, 0, true⟩) (blk := .row T sz []) ⟨rfl, rfl, rfl, Nat.le_refl _, fun _ _ _ => rfl⟩ (fun k hk => by cases hk) hf (fun h => by cases h) (by unfold BlkOK; simp [setR]) (fun n hn => by cases hn)
  have h0 : a.tmps.getD t undef = .slice none 0 0 := h.fr t _ hx
  refine ⟨_, Im, fun t' x hx' => ?_, fun n b hb => h1.bk n b (by rwa [St.set, St.upd_other _ _ (by intro e; cases e)] at hb), fun n b hb => h1.own n b (by rwa [St.set, St.upd_other _ _ (by intro e; cases e)] at hb),
    fun n1 n2 b1 b2 e1 e2 => h1.inj n1 n2 b1 b2 (by rwa [St.set, St.upd_other _ _ (by intro e; cases e)] at e1) (by rwa [St.set, St.upd_other _ _ (by intro e; cases e)] at e2),
    fun c hc => ⟨(h1.im c hc).1, (h1.im c hc).2.1, fun n b hb => (h1.im c hc).2.2 n b (by rwa [St.set, St.upd_other _ _ (by intro e; cases e)] at hb)⟩, fun k it hk n hn => ?_, h1.defers, h1.size, h1.keep⟩
  · by_cases he : t = t'
    · subst he
      rw [St.set, St.upd_same] at hx'
      injection hx' with hx'; injection hx' with hx'; subst hx'
      show _ = _
      rw [h0]; simp [setR]
    · rw [St.set, St.upd_other _ _ (by intro e; injection e with e; exact he e)] at hx'
      exact h1.fr t' x hx'
  · rw [St.set, St.upd_other _ _ (by intro e; cases e)]
    by_cases hk2 : (Key.s t) = k
    · subst hk2
      rw [St.set, St.upd_same] at hk
      injection hk with hk; subst hk
      have : nm = n := by simpa [Item.mentions, AV.mentions, AV.mentions0, C.mentions] using hn
      subst this
      rw [St.upd_same]; simp
    · rw [St.set, St.upd_other _ _ hk2] at hk
      exact h1.wf k it hk n hn
end
end Go.Sx
