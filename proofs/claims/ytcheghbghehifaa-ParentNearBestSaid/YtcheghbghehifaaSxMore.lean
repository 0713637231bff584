/-
  Sx, part 20: rules put for scripts: append by a name, conversions that keep the number, cuts.
-/
import Derived.Test.YtcheghbghehifaaSxEq
namespace Go.Sx
open Go Go.RowKit

def C.isD : C → Bool
  | .d _ => true
  | _ => false

theorem wrap_i64 {a : Int} (h : -9223372036854775808 ≤ a ∧ a ≤ 9223372036854775807) : IntKind.i64.wrap a = a := IntWalk.i64_in _ h
theorem wrap_u64 {a : Int} (h : 0 ≤ a ∧ a ≤ 18446744073709551615) : IntKind.u64.wrap a = a := by
  simp [IntKind.wrap, IntKind.signed, IntKind.bits]; omega
theorem wrap_u32 {a : Int} (h : 0 ≤ a ∧ a ≤ 4294967295) : IntKind.u32.wrap a = a := by
  simp [IntKind.wrap, IntKind.signed, IntKind.bits]; omega
theorem wrap_u16 {a : Int} (h : 0 ≤ a ∧ a ≤ 65535) : IntKind.u16.wrap a = a := by
  simp [IntKind.wrap, IntKind.signed, IntKind.bits]; omega
theorem wrap_u8 {a : Int} (h : 0 ≤ a ∧ a ≤ 255) : IntKind.u8.wrap a = a := by
  simp [IntKind.wrap, IntKind.signed, IntKind.bits]; omega

section
variable {P : Program} {N : Nat} {E : Env P N} {ops : Array Oper} {dr : Bool} {rest : List Oper} {σ : St} {tr : Trace} {K : St → Prop}
  {d : Nat} {t yt ty te : TypeId} {pos : String} {af : Array Edge} {gd : Option (Nat × Bool)} {gR : Upds} {x y z : Operand} {ti ei : TyI}

theorem vr_append_nils0 {v : AV} {m : Nat} {ys : List (List C)} {ks : List Key} [ht : TyOK P t ti] [het : TyOK P te ei] (hg : GOK N ops σ gd gR) (hx : ev σ x = some (AD .nils)) (hy : ev σ y = some v)
    (hnews : News σ ei.size v m ys ks) (hd : ti.k = .slice te) (hz : Nat.beq ei.zero.cells.size ei.size = true) (hsz : Nat.blt 0 ei.size = true) (hm : m * ei.bytes ≤ 140737488355328 ∧ m ≤ 9223372036854775807) (hfresh : σ (.b d) = none) (hN : Nat.blt d N = true)
    (k : VR E ops dr rest ((σ.upd (.b d) (some (.k (.row te ei.size ys)))).set d (.c (.row d m))) ((gR.map (·.1) ++ (opK x ++ (opK y ++ (ks ++ [.b d]))), [.b d, .s d]) :: tr) K) :
    VR E ops dr (⟨some d, .call ⟨.builtin .append, #[x, y], #[t, t]⟩, ty, pos, af, gd⟩ :: rest) σ tr K :=
  vr_append_nils d hg hx hy hnews hd hz hsz hm hfresh hN k

theorem vr_append0 {nm n : Nat} {xs : List (List C)} {v : AV} {m : Nat} {ys : List (List C)} {ks : List Key} [ht : TyOK P t ti] [het : TyOK P te ei] (hg : GOK N ops σ gd gR) (hx : ev σ x = some (.c (.row nm n))) (hy : ev σ y = some v)
    (hb : σ (.b nm) = some (.k (.row te ei.size xs))) (hn : n = xs.length) (hnews : News (σ.upd (.b nm) (some (.k .dead))) ei.size v m ys ks) (hd : ti.k = .slice te) (hz : Nat.beq ei.zero.cells.size ei.size = true) (hsz : Nat.blt 0 ei.size = true)
    (hm : (n + m) * ei.bytes ≤ 140737488355328 ∧ n + m ≤ 9223372036854775807) (hfresh : σ (.b d) = none) (hN : Nat.blt d N = true)
    (k : VR E ops dr rest (((σ.upd (.b nm) (some (.k .dead))).upd (.b d) (some (.k (.row te ei.size (xs ++ ys))))).set d (.c (.row d (n + m)))) ((gR.map (·.1) ++ (opK x ++ (opK y ++ (.b nm :: (ks ++ [.b d])))), [.b nm, .b d, .s d]) :: tr) K) :
    VR E ops dr (⟨some d, .call ⟨.builtin .append, #[x, y], #[t, t]⟩, ty, pos, af, gd⟩ :: rest) σ tr K :=
  vr_append d hg hx hy hb hn hnews hd hz hsz hm hfresh hN k

theorem vr_append1 {nm n : Nat} {xs : List (List C)} {v : AV} {m : Nat} {ys : List (List C)} {ks : List Key} [ht : TyOK P t ti] [het : TyOK P te ei] (hg : GOK N ops σ gd gR) (hx : ev σ x = some (.c (.row nm n))) (hy : ev σ y = some v)
    (hb : σ (.b nm) = some (.k (.row te ei.size xs))) (hn : n = xs.length) (hnews : News (σ.upd (.b nm) (some (.k .dead))) ei.size v m ys ks) (hd : ti.k = .slice te) (hz : Nat.beq ei.zero.cells.size ei.size = true) (hsz : Nat.blt 0 ei.size = true)
    (hm : (n + m) * ei.bytes ≤ 140737488355328 ∧ n + m ≤ 9223372036854775807) (hfresh : σ (.b (100000 + d)) = none) (hN : Nat.blt d N = true)
    (k : VR E ops dr rest (((σ.upd (.b nm) (some (.k .dead))).upd (.b (100000 + d)) (some (.k (.row te ei.size (xs ++ ys))))).set d (.c (.row (100000 + d) (n + m)))) ((gR.map (·.1) ++ (opK x ++ (opK y ++ (.b nm :: (ks ++ [.b (100000 + d)])))), [.b nm, .b (100000 + d), .s d]) :: tr) K) :
    VR E ops dr (⟨some d, .call ⟨.builtin .append, #[x, y], #[t, t]⟩, ty, pos, af, gd⟩ :: rest) σ tr K :=
  vr_append (100000 + d) hg hx hy hb hn hnews hd hz hsz hm hfresh hN k

theorem vr_index_rowN {nm n T sz : Nat} {xs : List (List C)} {kd : IntKind} {i : Int} [ht : TyOK P t ti] [het : TyOK P te ei] (hg : GOK N ops σ gd gR) (hx : ev σ x = some (.c (.row nm n))) (hy : ev σ y = some (AD (.int kd i)))
    (hb : σ (.b nm) = some (.k (.row T sz xs))) (hd : ti.k = .slice te) (hsz : ei.size = sz) (hi : 0 ≤ i ∧ i < (n : Int)) (hne : n = xs.length) (hN : Nat.blt d N = true)
    (k : VR E ops dr rest (σ.set d (.rp nm sz i.toNat 0)) ((gR.map (·.1) ++ (opK x ++ (opK y ++ [.b nm])), [.s d]) :: tr) K) : VR E ops dr (⟨some d, .indexAddr t x y, ty, pos, af, gd⟩ :: rest) σ tr K :=
  vr_index_row (m := i.toNat) hg hx hy hb hd hsz (by omega) (by omega) (by omega) hN k
end

/-! ## Calls whose arguments are handed on as they are -/

def AV.hands : AV → Bool
  | .c x => x.isD
  | .agg cs => cs.all C.isD
  | .ep _ _ => true
  | .clo _ => true
  | _ => false

theorem CR.refl {σ : St} {L : List Nat} {x : C} (h : x.isD = true) : CR σ L x x := by
  cases x with
  | d x => exact .d
  | _ => cases h
theorem CRs.refl {σ : St} {L : List Nat} : ∀ {cs : List C}, cs.all C.isD = true → All2 (CR σ L) cs cs
  | [], _ => .nil
  | c :: cs, h => by
    simp only [List.all_cons, Bool.and_eq_true] at h
    exact .cons (CR.refl h.1) (CRs.refl h.2)
theorem AR.refl {P : Program} {σ : St} {L : List Nat} {x : AV} (h : x.hands = true) : AR P σ L x x := by
  cases x with
  | c x => exact .of0 (.c (CR.refl h))
  | agg cs => exact .of0 (.agg (CRs.refl h))
  | ep g m => exact .of0 .ep
  | clo φ => exact .clo
  | _ => cases h
theorem ARs.refl {P : Program} {σ : St} {L : List Nat} : ∀ {as : List AV}, as.all AV.hands = true → All2 (AR P σ L) as as
  | [], _ => .nil
  | a :: as, h => by
    simp only [List.all_cons, Bool.and_eq_true] at h
    exact .cons (AR.refl h.1) (ARs.refl h.2)

section
variable {P : Program} {N : Nat} {E : Env P N} {ops : Array Oper} {dr : Bool} {rest : List Oper} {σ : St} {tr : Trace} {K : St → Prop}
  {d : Nat} {ty : TypeId} {pos : String} {af : Array Edge} {gd : Option (Nat × Bool)} {gR : Upds}
theorem vr_calld {g : FuncId} {xs : List Operand} {ats : Array TypeId} {cargs : List AV} {res : AV} {bo : List (Nat × Blk)} (hF : FnS P g cargs [] res bo) (hg : GOK N ops σ gd gR) (hxs : evL σ xs = some cargs)
    (hok : cargs.all AV.hands = true) (hpl : res.plain = true) (hwf : wfRes res bo = true)
    (hfresh : (bo.all fun p => (σ (.b (1000 * d + p.1))).isNone) = true) (hN : Nat.blt d N = true)
    (k : VR E ops dr rest ((σ.upds (newB (1000 * d) bo)).set d (res.shift (1000 * d)))
      ((gR.map (·.1) ++ (opLK xs ++ (([] : List Nat).map Key.b ++ bo.map fun p => Key.b (1000 * d + p.1))), (newB (1000 * d) bo).map (·.1) ++ [.s d]) :: tr) K) :
    VR E ops dr (⟨some d, .call ⟨.value (.func g), xs.toArray, ats⟩, ty, pos, af, gd⟩ :: rest) σ tr K :=
  vr_call [] hF hg hxs (ARs.refl hok) rfl hpl hwf hfresh hN k
end

section
variable {P : Program} {N : Nat} {E : Env P N} {σ : St} {Q : Exit → St → Prop}

/-- The paths meet: behind x the state says M. -/
theorem vc_cut {x y : Code} (M : St) (h : VC E x (thenQ (fun σ' => Le E σ' M) Q) σ) (k : VC E y Q M) : VC E (.seq x y) Q σ := by
  refine vc_seq (h.mono fun e s hs => ?_)
  cases e with
  | normal => exact VC.le hs k
  | _ => exact hs
end

/-! ## Own rows of typed elements -/

def rowOf {α : Type} (enc : α → List D) (l : List α) : List (List C) := l.map fun a => (enc a).map C.d

theorem rowOf_length {α : Type} {enc : α → List D} {l : List α} : (rowOf enc l).length = l.length := by simp [rowOf]
theorem rowOf_append {α : Type} {enc : α → List D} {l m : List α} : rowOf enc (l ++ m) = rowOf enc l ++ rowOf enc m := by simp [rowOf]
theorem rowOf_isD {α : Type} {enc : α → List D} {l : List α} : ∀ x ∈ rowOf enc l, x.all C.isD = true := by
  intro x hx
  obtain ⟨a, _, rfl⟩ := List.mem_map.1 hx
  simp [C.isD]

theorem rowOf_names {α : Type} {enc : α → List D} {l : List α} : (rowOf enc l).flatMap (fun cs => cs.flatMap C.names) = [] := by
  rw [List.flatMap_eq_nil_iff]
  intro x hx
  obtain ⟨a, _, rfl⟩ := List.mem_map.1 hx
  simp [C.names]
theorem rowOf_blk {α : Type} {enc : α → List D} {T sz : Nat} {l : List α} : (Blk.row T sz (rowOf enc l)).names = [] := rowOf_names

theorem rowOf_pt {α : Type} [Inhabited α] {enc : α → List D} {sz : Nat} (hsz : ∀ x, (enc x).length = sz) {l : List α} :
    ∀ (i : Nat) (x : List C), i < l.length → (rowOf enc l)[i]? = some x → ∀ j, j < sz → x[j]? = some (C.d ((enc (l.getD i default)).getD j .nils)) := by
  intro i x hi hx j hj
  simp only [rowOf, List.getElem?_map, List.getElem?_eq_getElem hi, Option.map_some, Option.some.injEq] at hx
  subst hx
  have hj' : j < (enc l[i]).length := by rw [hsz]; exact hj
  simp [List.getD_eq_getElem?_getD, List.getElem?_eq_getElem hi, List.getElem?_eq_getElem hj']

theorem CWs.refl {σ : St} {f : Nat → Nat} {L : List Nat} : ∀ {cs : List C}, cs.all C.isD = true → All2 (CW σ f L) cs cs
  | [], _ => .nil
  | c :: cs, h => by
    simp only [List.all_cons, Bool.and_eq_true] at h
    refine .cons ?_ (CWs.refl h.2)
    cases c with
    | d x => exact .d
    | _ => cases h.1
theorem BW.boxD {σ : St} {f : Nat → Nat} {L : List Nat} {cs cs' : List C} (h : cs = cs') (hd : cs.all C.isD = true) : BW σ f L (.box cs) (.box cs') := by
  subst h; exact .box (CWs.refl hd)
theorem BW.rowD {σ : St} {f : Nat → Nat} {L : List Nat} {T sz : Nat} {xs xs' : List (List C)} (h : xs = xs') (hd : ∀ x ∈ xs', x.all C.isD = true) : BW σ f L (.row T sz xs) (.row T sz xs') := by
  subst h
  refine .row ?_
  induction xs with
  | nil => exact .nil
  | cons x xs ih => exact .cons (CWs.refl (hd x (by simp))) (ih fun y hy => hd y (by simp [hy]))

/-- An own row of typed elements becomes a slice that is only read. -/
theorem CW.frzOf {α : Type} [Inhabited α] {σ : St} {f : Nat → Nat} {L : List Nat} {enc : α → List D} {nm n T sz : Nat} {l : List α} (hL : nm ∈ L) (hb : σ (.b nm) = some (.k (.row T sz (rowOf enc l)))) (hn : n = l.length) (hsz : ∀ x, (enc x).length = sz) :
    CW σ f L (.row nm n) (.d (rdOf enc sz l)) := by
  subst hn
  exact .frz hL hb (by rw [rowOf_length]; exact Nat.le_refl _) (rowOf_pt hsz)

/-- A written row, element by element. -/
def colsD (g : Nat → D) : Nat → List C → Prop
  | _, [] => True
  | j, c :: cs => c = .d (g j) ∧ colsD g (j + 1) cs
def rowsD (sz : Nat) (f : Nat → Nat → D) : Nat → List (List C) → Prop
  | _, [] => True
  | k, x :: xs => (x.length = sz ∧ colsD (f k) 0 x) ∧ rowsD sz f (k + 1) xs

theorem colsD_get {g : Nat → D} : ∀ {cs : List C} {k : Nat}, colsD g k cs → ∀ (j : Nat), j < cs.length → cs[j]? = some (C.d (g (k + j)))
  | [], _, _, j, hj => absurd hj (Nat.not_lt_zero _)
  | c :: cs, k, h, 0, _ => by rw [h.1]; rfl
  | c :: cs, k, h, j + 1, hj => by
    have := colsD_get h.2 j (by simpa using hj)
    rw [List.getElem?_cons_succ, this, Nat.add_assoc, Nat.add_comm 1]

theorem rowsD_get {sz : Nat} {f : Nat → Nat → D} : ∀ {xs : List (List C)} {k : Nat}, rowsD sz f k xs → ∀ (i : Nat) (x : List C), xs[i]? = some x → ∀ (j : Nat), j < sz → x[j]? = some (C.d (f (k + i) j))
  | [], _, _, i, x, hx, _, _ => by simp at hx
  | y :: ys, k, h, 0, x, hx, j, hj => by
    simp only [List.getElem?_cons_zero, Option.some.injEq] at hx
    subst hx
    have := colsD_get h.1.2 j (by rw [h.1.1]; exact hj)
    simpa using this
  | y :: ys, k, h, i + 1, x, hx, j, hj => by
    have := rowsD_get h.2 i x (by simpa using hx) j hj
    rw [this, Nat.add_assoc, Nat.add_comm 1]

theorem cr_row {σ : St} {L : List Nat} {nm n T sz : Nat} {xs : List (List C)} {f : Nat → Nat → D} (hL : nm ∈ L) (hb : σ (.b nm) = some (.k (.row T sz xs))) (hn : n = xs.length) (h : rowsD sz f 0 xs) : CR σ L (.row nm n) (.d (.rd n sz f)) :=
  .row hL hb (Nat.le_of_eq hn) fun i x _ hx j hj => by simpa using rowsD_get h i x hx j hj

theorem ab_eq {b b' : Bool} (h : b = b') {σ : St} {k : Key} (hx : σ k = some (.v (AB b))) : σ k = some (.v (AB b')) := by rw [← h]; exact hx
theorem ad_eq {b b' : D} (h : b = b') {σ : St} {k : Key} (hx : σ k = some (.v (AD b))) : σ k = some (.v (AD b')) := by rw [← h]; exact hx
end Go.Sx
