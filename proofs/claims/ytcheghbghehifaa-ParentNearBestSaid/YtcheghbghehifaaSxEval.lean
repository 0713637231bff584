/-
  Sx, part 21: most operations by one rule: a function reckons what they yield, which keys they read, and what must be shown besides.
-/
import Derived.Test.YtcheghbghehifaaSxFast
namespace Go.Sx
open Go Go.RowKit

def zeroL : List Value → Option (List C)
  | [] => some []
  | v :: l => match constC v, zeroL l with
    | some c, some cs => some (c :: cs)
    | _, _ => none
theorem zeroL_eq : ∀ {l : List Value} {cs : List C}, zeroL l = some cs → l.mapM constC = some cs
  | [], cs, h => by injection h with h; subst h; rfl
  | v :: l, cs, h => by
    unfold zeroL at h
    split at h
    · rename_i h1 h2
      injection h with h; subst h
      rw [List.mapM_cons, h1, zeroL_eq h2]; rfl
    · cases h
def zeroK (v : Value) : Option (List C) := zeroL v.cells.toList
theorem zeroK_eq {v : Value} {cs : List C} (h : zeroK v = some cs) : zeroCs v = some cs := zeroL_eq h

/-- The types of a program that are spoken of. -/
inductive TT where
  | nil
  | node (l : TT) (t : Nat) (ti : TyI) (r : TT)
def TT.look : TT → Nat → Option TyI
  | .nil, _ => none
  | .node l k ti r, t => cond (Nat.beq t k) (some ti) (cond (Nat.blt t k) (l.look t) (r.look t))
def TT.OK (P : Program) : TT → Prop
  | .nil => True
  | .node l k ti r => l.OK P ∧ TyOK P k ti ∧ r.OK P
theorem TT.ok {P : Program} : ∀ {T : TT}, T.OK P → ∀ {t ti}, T.look t = some ti → TyOK P t ti
  | .nil, _, _, _, h => by cases h
  | .node l k tk r, ⟨hl, hk, hr⟩, t, ti, h => by
    unfold TT.look at h
    cases h1 : Nat.beq t k with
    | true => rw [h1] at h; injection h with h; subst h; have : t = k := by simpa using h1
              subst this; exact hk
    | false =>
      rw [h1] at h
      cases h2 : Nat.blt t k with
      | true => rw [h2] at h; exact TT.ok hl h
      | false => rw [h2] at h; exact TT.ok hr h
class Tys (P : Program) where
  tab : TT
  ok : tab.OK P
abbrev tyL (P : Program) [s : Tys P] (t : Nat) : Option TyI := s.tab.look t

def kEq (a b : IntKind) : Bool := decide (a = b)
theorem kEq_eq {a b : IntKind} (h : kEq a b = true) : a = b := of_decide_eq_true h

abbrev Eff := Option (AV × List Key × Prop)

def evLoad (σ : St) (ti : TyI) (x : Operand) : AV → Eff
  | .c (.ptr nm off) => match σ (.b nm) with
    | some (.k (.box cs)) => match ti.isAgg with
      | true => cond (Nat.beq ((cs.drop off).take ti.size).length ti.size) (some (.agg ((cs.drop off).take ti.size), opK x ++ [.b nm], True)) none
      | false => match cs[off]? with
        | some c => some (.c c, opK x ++ [.b nm], True)
        | none => none
    | _ => none
  | .ep g m => match ti.isAgg with
    | true => cond (Nat.ble ti.size m) (some (.agg (epCells g 0 ti.size), opK x, True)) none
    | false => cond (Nat.blt 0 m) (some (AD (g 0), opK x, True)) none
  | .rp nm sz m off => match σ (.b nm) with
    | some (.k (.row _ sz' xs)) => match Nat.beq sz sz' with
      | true => match xs[m]? with
        | some cs => match ti.isAgg with
          | true => cond (Nat.beq ((cs.drop off).take ti.size).length ti.size) (some (.agg ((cs.drop off).take ti.size), opK x ++ [.b nm], True)) none
          | false => match cs[off]? with
            | some c => some (.c c, opK x ++ [.b nm], True)
            | none => none
        | none => none
      | false => none
    | _ => none
  | _ => none

def evField (x : Operand) (fo : Nat) : AV → Eff
  | .c (.ptr nm off) => some (.c (.ptr nm (off + fo)), opK x, True)
  | .ep g m => some (.ep (fun j => g (fo + j)) (m - fo), opK x, True)
  | .rp nm sz m off => some (.rp nm sz m (off + fo), opK x, True)
  | _ => none

def evInt (op : BinOp) (kd : IntKind) (a b : Int) (ks : List Key) : Eff :=
  match op with
  | .eql => some (AB (decide (a = b)), ks, True)
  | .neq => some (AB (decide (a ≠ b)), ks, True)
  | .lss => some (AB (decide (a < b)), ks, True)
  | .leq => some (AB (decide (a ≤ b)), ks, True)
  | .gtr => some (AB (decide (b < a)), ks, True)
  | .geq => some (AB (decide (b ≤ a)), ks, True)
  | .add => match kd with
    | .i64 => some (AI (a + b), ks, -9223372036854775808 ≤ a + b ∧ a + b ≤ 9223372036854775807)
    | _ => none
  | .sub => match kd with
    | .i64 => some (AI (a - b), ks, -9223372036854775808 ≤ a - b ∧ a - b ≤ 9223372036854775807)
    | _ => none
  | .mul => match kd with
    | .i64 => some (AI (a * b), ks, -9223372036854775808 ≤ a * b ∧ a * b ≤ 9223372036854775807)
    | _ => none
  | .quo => match kd with
    | .i64 => some (AI (a / b), ks, 0 ≤ a ∧ a ≤ 9223372036854775807 ∧ 0 < b)
    | _ => none
  | .rem => some (AD (.int kd (a % b)), ks, 0 ≤ a ∧ 0 < b)
  | _ => none

def evBin (op : BinOp) (T : Option TyI) (ks : List Key) : AV → AV → Eff
  | .c (.d (.int kd a)), .c (.d (.int kd' b)) => cond (kEq kd kd') (evInt op kd a b ks) none
  | .c (.d (.bool a)), .c (.d (.bool b)) => match T with
    | some ⟨.bool, _, _, _⟩ => match op with
      | .eql => some (AB (a == b), ks, True)
      | .neq => some (AB (a != b), ks, True)
      | _ => none
    | _ => none
  | _, _ => none

def isSl : TK → Bool
  | .slice _ => true
  | _ => false
def evLen (x : Operand) (ti : TyI) : AV → Eff
  | .c (.d (.rd n _ _)) => cond (isSl ti.k) (some (AI n, opK x, True)) none
  | .c (.d .nils) => cond (isSl ti.k) (some (AI 0, opK x, True)) none
  | .c (.d (.str s)) => match ti.k with
    | .string => some (AI s.size, opK x, True)
    | _ => none
  | _ => none
def evMin (mx : Bool) (ks : List Key) : AV → AV → Eff
  | .c (.d (.int kd a)), .c (.d (.int kd' b)) => cond (kEq kd kd') (some (AD (.int kd (cond mx (max a b) (min a b))), ks, True)) none
  | _, _ => none

def evSz (T : Nat → Option TyI) : List (Nat × TypeId) → Option (List (Nat × Nat))
  | [] => some []
  | (o, t) :: l => match T t, evSz T l with
    | some ti, some m => some ((o, ti.size) :: m)
    | _, _ => none

def evBuild (T : Nat → Option TyI) (σ : St) (ti : TyI) (parts : List (Nat × Operand)) : Eff :=
  match ti.k with
  | .struct fl => match evSz T fl, zeroK ti.zero, evP σ parts with
    | some sz, some zs, some ps => match fillC (sz[·]?) zs ps with
      | some cs => some (.agg cs, opLK (parts.map (·.2)), True)
      | none => none
    | _, _, _ => none
  | _ => none

def evCs (σ : St) : List Operand → Option (List C)
  | [] => some []
  | x :: l => match ev σ x, evCs σ l with
    | some (.c c), some cs => some (c :: cs)
    | _, _ => none
def evV (T : Nat → Option TyI) (σ : St) : Op → Eff
  | .makeFunc (.func f) first caps => match first.toList, evCs σ caps.toList with
    | [], some cs => some (.fnc f cs, opLK caps.toList, True)
    | _, _ => none
  | .move x => match ev σ x with
    | some v => some (v, opK x, True)
    | none => none
  | .assign x => match ev σ x with
    | some v => some (v, opK x, True)
    | none => none
  | .load t x => match T t, ev σ x with
    | some ti, some v => evLoad σ ti x v
    | _, _ => none
  | .fieldAddr t x f => match T t with
    | some ⟨.struct fl, _, _, _⟩ => match fl[f]?, ev σ x with
      | some (fo, ft), some v => match T ft with
        | some fi => cond (Nat.blt 0 fi.size) (evField x fo v) none
        | none => none
      | _, _ => none
    | _ => none
  | .binOp op t x y _ => match ev σ x, ev σ y with
    | some v, some u => evBin op (T t) (opK x ++ opK y) v u
    | _, _ => none
  | .pick x y z => match ev σ x with
    | some (.c (.d (.bool true))) => match ev σ y with
      | some v => some (v, opK x ++ opK y, True)
      | none => none
    | some (.c (.d (.bool false))) => match ev σ z with
      | some v => some (v, opK x ++ opK z, True)
      | none => none
    | _ => none
  | .extract x i => match ev σ x with
    | some (.tup vs) => match vs[i]? with
      | some v => some (v, opK x, True)
      | none => none
    | _ => none
  | .unOp .not _ x => match ev σ x with
    | some (.c (.d (.bool b))) => some (AB (!b), opK x, True)
    | _ => none
  | .call ⟨.builtin .len, xs, ts⟩ => match xs.toList, ts.toList with
    | [x], [t] => match T t, ev σ x with
      | some ti, some v => evLen x ti v
      | _, _ => none
    | _, _ => none
  | .call ⟨.builtin .min, xs, _⟩ => match xs.toList with
    | [x, y] => match ev σ x, ev σ y with
      | some v, some u => evMin false (opK x ++ opK y) v u
      | _, _ => none
    | _ => none
  | .call ⟨.builtin .max, xs, _⟩ => match xs.toList with
    | [x, y] => match ev σ x, ev σ y with
      | some v, some u => evMin true (opK x ++ opK y) v u
      | _, _ => none
    | _ => none
  | .build t parts => match T t with
    | some ti => evBuild T σ ti parts.toList
    | none => none
  | _ => none

section
variable {P : Program} {N : Nat} {E : Env P N} {ops : Array Oper} {dr : Bool} {rest : List Oper} {σ : St} {tr : Trace} {K : St → Prop}
  {d : Nat} {t yt ty : TypeId} {pos : String} {af : Array Edge} {gd : Option (Nat × Bool)} {gR : Upds} {x y z : Operand} {v : AV} {kr : List Key} {c : Prop} {ti : TyI}

theorem x_load {vx : AV} [ht : TyOK P t ti] (hg : GOK N ops σ gd gR) (hx : ev σ x = some vx) (h : evLoad σ ti x vx = some (v, kr, c)) (hN : Nat.blt d N = true)
    (k : VR E ops dr rest (σ.set d v) ((gR.map (·.1) ++ kr, [.s d]) :: tr) K) : VR E ops dr (⟨some d, .load t x, ty, pos, af, gd⟩ :: rest) σ tr K := by
  unfold evLoad at h
  split at h
  · split at h
    · rename_i hb
      split at h
      · rename_i ha
        cases h1 : Nat.beq _ ti.size with
        | true => rw [h1] at h; injection h with h; injection h with h h'; injection h' with h' h''; subst h; subst h'; exact vr_load_agg hg hx hb ha (by simpa using h1) hN k
        | false => rw [h1] at h; cases h
      · rename_i ha
        split at h
        · rename_i hc
          injection h with h; injection h with h h'; injection h' with h' h''; subst h; subst h'; exact vr_load hg hx hb ha hc hN k
        · cases h
    · cases h
  · split at h
    · rename_i ha
      cases h1 : Nat.ble ti.size _ with
      | true => rw [h1] at h; injection h with h; injection h with h h'; injection h' with h' h''; subst h; subst h'; exact vr_load_ep_agg hg hx ha h1 hN k
      | false => rw [h1] at h; cases h
    · rename_i ha
      cases h1 : Nat.blt 0 _ with
      | true => rw [h1] at h; injection h with h; injection h with h h'; injection h' with h' h''; subst h; subst h'; exact vr_load_ep hg hx ha h1 hN k
      | false => rw [h1] at h; cases h
  · split at h
    · rename_i hb
      split at h
      · rename_i hsz
        have hsz' := Nat.eq_of_beq_eq_true hsz
        subst hsz'
        split at h
        · rename_i hm
          split at h
          · rename_i ha
            cases h1 : Nat.beq _ ti.size with
            | true => rw [h1] at h; injection h with h; injection h with h h'; injection h' with h' h''; subst h; subst h'; exact vr_load_row_agg hg hx hb hm ha (by simpa using h1) hN k
            | false => rw [h1] at h; cases h
          · rename_i ha
            split at h
            · rename_i hc
              injection h with h; injection h with h h'; injection h' with h' h''; subst h; subst h'; exact vr_load_row hg hx hb hm ha hc hN k
            · cases h
        · cases h
      · cases h
    · cases h
  · cases h

theorem x_field {f fo ft : Nat} {fl : List (Nat × TypeId)} {fi : TyI} {vx : AV} [ht : TyOK P t ti] [hft : TyOK P ft fi] (hg : GOK N ops σ gd gR) (hx : ev σ x = some vx) (hd : ti.k = .struct fl) (hf : fl[f]? = some (fo, ft)) (hsz : Nat.blt 0 fi.size = true)
    (h : evField x fo vx = some (v, kr, c)) (hN : Nat.blt d N = true)
    (k : VR E ops dr rest (σ.set d v) ((gR.map (·.1) ++ kr, [.s d]) :: tr) K) : VR E ops dr (⟨some d, .fieldAddr t x f, ty, pos, af, gd⟩ :: rest) σ tr K := by
  unfold evField at h
  split at h
  · injection h with h; injection h with h h'; injection h' with h' h''; subst h; subst h'; exact vr_fieldAddr hg hx hd hf hsz hN k
  · injection h with h; injection h with h h'; injection h' with h' h''; subst h; subst h'; exact vr_fieldAddr_ep hg hx hd hf hsz hN k
  · injection h with h; injection h with h h'; injection h' with h' h''; subst h; subst h'; exact vr_fieldAddr_rp hg hx hd hf hsz hN k
  · cases h

theorem x_int {op : BinOp} {kd : IntKind} {a b : Int} (hg : GOK N ops σ gd gR) (hx : ev σ x = some (AD (.int kd a))) (hy : ev σ y = some (AD (.int kd b)))
    (h : evInt op kd a b (opK x ++ opK y) = some (v, kr, c)) (hc : c) (hN : Nat.blt d N = true)
    (k : VR E ops dr rest (σ.set d v) ((gR.map (·.1) ++ kr, [.s d]) :: tr) K) : VR E ops dr (⟨some d, .binOp op t x y yt, ty, pos, af, gd⟩ :: rest) σ tr K := by
  unfold evInt at h
  split at h <;> first
    | (injection h with h; injection h with h h'; injection h' with h' h''; subst h; subst h'; subst h''
       first
         | exact vr_eql hg hx hy hN k
         | exact vr_neq hg hx hy hN k
         | exact vr_lss hg hx hy hN k
         | exact vr_leq hg hx hy hN k
         | exact vr_gtr hg hx hy hN k
         | exact vr_geq hg hx hy hN k
         | exact vr_rem hg hx hy hN hc k)
    | (split at h <;> first
        | (injection h with h; injection h with h h'; injection h' with h' h''; subst h; subst h'; subst h''
           first
             | exact vr_add hg hx hy hN hc k
             | exact vr_sub hg hx hy hN hc k
             | exact vr_mul hg hx hy hN hc k
             | exact vr_quo hg hx hy hN hc k)
        | cases h)
    | cases h

theorem x_bin {op : BinOp} {vx vy : AV} {T : Option TyI} (hT : ∀ ti, T = some ti → TyOK P t ti) (hg : GOK N ops σ gd gR) (hx : ev σ x = some vx) (hy : ev σ y = some vy)
    (h : evBin op T (opK x ++ opK y) vx vy = some (v, kr, c)) (hc : c) (hN : Nat.blt d N = true)
    (k : VR E ops dr rest (σ.set d v) ((gR.map (·.1) ++ kr, [.s d]) :: tr) K) : VR E ops dr (⟨some d, .binOp op t x y yt, ty, pos, af, gd⟩ :: rest) σ tr K := by
  unfold evBin at h
  split at h
  · cases h1 : kEq _ _ with
    | true => rw [h1] at h; have := kEq_eq h1; subst this; exact x_int hg hx hy h hc hN k
    | false => rw [h1] at h; cases h
  · split at h
    · have ht := hT _ rfl
      split at h
      · injection h with h; injection h with h h'; injection h' with h' h''; subst h; subst h'; exact vr_eqlb hg hx hy rfl hN k
      · injection h with h; injection h with h h'; injection h' with h' h''; subst h; subst h'; exact vr_neqb hg hx hy rfl hN k
      · cases h
    · cases h
  · cases h

theorem isSl_ok {k : TK} (h : isSl k = true) : ∃ te, k = .slice te := by
  cases k <;> first | exact ⟨_, rfl⟩ | cases h
theorem x_len {vx : AV} [ht : TyOK P t ti] (hg : GOK N ops σ gd gR) (hx : ev σ x = some vx) (h : evLen x ti vx = some (v, kr, c)) (hN : Nat.blt d N = true)
    (k : VR E ops dr rest (σ.set d v) ((gR.map (·.1) ++ kr, [.s d]) :: tr) K) : VR E ops dr (⟨some d, .call ⟨.builtin .len, #[x], #[t]⟩, ty, pos, af, gd⟩ :: rest) σ tr K := by
  unfold evLen at h
  split at h
  · cases h1 : isSl ti.k with
    | true => rw [h1] at h; injection h with h; injection h with h h'; injection h' with h' h''; subst h; subst h'; obtain ⟨te, h2⟩ := isSl_ok h1; exact vr_len_rd hg hx h2 hN k
    | false => rw [h1] at h; cases h
  · cases h1 : isSl ti.k with
    | true => rw [h1] at h; injection h with h; injection h with h h'; injection h' with h' h''; subst h; subst h'; obtain ⟨te, h2⟩ := isSl_ok h1; exact vr_len_nils hg hx h2 hN k
    | false => rw [h1] at h; cases h
  · split at h
    · rename_i h2
      injection h with h; injection h with h h'; injection h' with h' h''; subst h; subst h'; exact vr_len_str hg hx h2 hN k
    · cases h
  · cases h

theorem x_minmax {mx : Bool} {vx vy : AV} {ats : Array TypeId} (hg : GOK N ops σ gd gR) (hx : ev σ x = some vx) (hy : ev σ y = some vy) (h : evMin mx (opK x ++ opK y) vx vy = some (v, kr, c)) (hN : Nat.blt d N = true)
    (k : VR E ops dr rest (σ.set d v) ((gR.map (·.1) ++ kr, [.s d]) :: tr) K) : VR E ops dr (⟨some d, .call ⟨.builtin (cond mx .max .min), #[x, y], ats⟩, ty, pos, af, gd⟩ :: rest) σ tr K := by
  unfold evMin at h
  split at h
  · cases h1 : kEq _ _ with
    | true =>
      rw [h1] at h; have := kEq_eq h1; subst this
      injection h with h; injection h with h h'; injection h' with h' h''; subst h; subst h'
      cases mx with
      | true => exact vr_max hg hx hy hN k
      | false => exact vr_min hg hx hy hN k
    | false => rw [h1] at h; cases h
  · cases h

theorem evSz_ok [s : Tys P] : ∀ {l : List (Nat × TypeId)} {m : List (Nat × Nat)}, evSz (tyL P) l = some m → FSz P l m
  | [], m, h => by injection h with h; subst h; exact FSz.nil
  | (o, t) :: l, m, h => by
    unfold evSz at h
    split at h
    · rename_i h1 h2
      injection h with h; subst h
      have := TT.ok s.ok h1
      have := evSz_ok h2
      exact FSz.cons
    · cases h

theorem toArray_of {α : Type} {a : Array α} {l : List α} (h : a.toList = l) : a = l.toArray := by rw [← h]

theorem evCs_L : ∀ {l : List Operand} {cs : List C}, evCs σ l = some cs → evL σ l = some (cs.map AV.c)
  | [], cs, h => by injection h with h; subst h; rfl
  | x :: l, cs, h => by
    unfold evCs at h
    split at h
    · rename_i h1 h2
      injection h with h; subst h
      simp only [evL, h1, evCs_L h2, List.map_cons]
    · cases h
theorem vr_makeFunc {f : FuncId} {cs : List C} {caps : List Operand} (hg : GOK N ops σ gd gR) (hc : evCs σ caps = some cs) (hN : Nat.blt d N = true)
    (k : VR E ops dr rest (σ.set d (.fnc f cs)) ((gR.map (·.1) ++ opLK caps, [.s d]) :: tr) K) : VR E ops dr (⟨some d, .makeFunc (.func f) #[] caps.toArray, ty, pos, af, gd⟩ :: rest) σ tr K := by
  have hL := evCs_L hc
  refine vr_val (x := .fnc f cs) (R := opLR caps (cs.map AV.c)) hg rfl hN (fun σ' a w ρ Im hs hR => ?_) (opLR_ok hL) (opLR_keys hL) k
  have hok := evL_ok hs (evL_of hL hR)
  refine ⟨.func (.func f) #[] (caps.map a.eval).toArray, by simp [execOp, Instr.makeFunc], ⟨caps.map a.eval, rfl, ?_⟩, fun nm hm => ?_⟩
  · generalize caps.map a.eval = us at hok
    clear hL hc hR k
    induction cs generalizing us with
    | nil => cases hok; exact .nil
    | cons c cs ih => cases hok with
      | cons h1 h2 => exact .cons h1 (ih _ h2)
  · have hL' := evL_of hL hR
    have : ∀ {l : List Operand} {cs : List C}, evL σ' l = some (cs.map AV.c) → ∀ c ∈ cs, c.mentions nm = true → σ' (.b nm) ≠ none := by
      intro l
      induction l with
      | nil => intro cs h; cases cs <;> simp [evL] at h; intro c hc; cases hc
      | cons x l ih =>
        intro cs h c hc hcm
        obtain ⟨v, vs, e1, e2, e3⟩ := evL_cons h
        cases cs with
        | nil => cases e1
        | cons c0 cs =>
          injection e1 with e1 e1'
          subst e1
          rcases List.mem_cons.1 hc with rfl | hc
          · exact (ev_ok hs e2).2 nm hcm
          · exact ih (by rw [e3, ← e1']) c hc hcm
    simp only [AV.mentions, AV.mentions0, List.any_eq_true] at hm
    obtain ⟨c, hc1, hc2⟩ := hm
    exact this hL' c hc1 hc2

/-- An operation that yields a value. -/
theorem x_v [s : Tys P] {op : Op} (hg : gkF N ops σ gd = some gR) (h : evV (tyL P) σ op = some (v, kr, c)) (hc : c) (hN : Nat.blt d N = true)
    (k : VR E ops dr rest (σ.set d v) ((gR.map (·.1) ++ kr, [.s d]) :: tr) K) : VR E ops dr (⟨some d, op, ty, pos, af, gd⟩ :: rest) σ tr K := by
  have hg := gk hg
  unfold evV at h
  split at h
  · split at h
    · rename_i h1 h2
      have h1 := toArray_of h1
      subst h1
      injection h with h; injection h with h h'; injection h' with h' h''; subst h; subst h'
      have := vr_makeFunc (E := E) (ops := ops) (dr := dr) (rest := rest) (tr := tr) (K := K) (ty := ty) (pos := pos) (af := af) hg h2 hN k
      simpa using this
    · cases h
  · split at h
    · rename_i hx; injection h with h; injection h with h h'; injection h' with h' h''; subst h; subst h'; exact vr_move hg hx hN k
    · cases h
  · split at h
    · rename_i hx; injection h with h; injection h with h h'; injection h' with h' h''; subst h; subst h'; exact vr_assign hg hx hN k
    · cases h
  · split at h
    · rename_i ht hx
      have := TT.ok s.ok ht
      exact x_load hg hx h hN k
    · cases h
  · split at h
    · rename_i ht
      have := TT.ok s.ok ht
      split at h
      · rename_i hf hx
        split at h
        · rename_i hft
          have h3 := TT.ok s.ok hft
          cases h1 : Nat.blt 0 _ with
          | true => rw [h1] at h; exact x_field (hft := h3) hg hx rfl hf h1 h hN k
          | false => rw [h1] at h; cases h
        · cases h
      · cases h
    · cases h
  · split at h
    · rename_i hx hy
      exact x_bin (fun ti ht => TT.ok s.ok ht) hg hx hy h hc hN k
    · cases h
  · split at h
    · rename_i hx
      split at h
      · rename_i hy; injection h with h; injection h with h h'; injection h' with h' h''; subst h; subst h'; exact vr_pick_true hg hx rfl hy hN k
      · cases h
    · rename_i hx
      split at h
      · rename_i hy; injection h with h; injection h with h h'; injection h' with h' h''; subst h; subst h'; exact vr_pick_false hg hx rfl hy hN k
      · cases h
    · cases h
  · split at h
    · rename_i hx
      split at h
      · rename_i hi; injection h with h; injection h with h h'; injection h' with h' h''; subst h; subst h'; exact vr_extract hg hx hi hN k
      · cases h
    · cases h
  · split at h
    · rename_i hx; injection h with h; injection h with h h'; injection h' with h' h''; subst h; subst h'; exact vr_not hg hx hN k
    · cases h
  · split at h
    · rename_i h1 h2
      have h1 := toArray_of h1
      have h2 := toArray_of h2
      subst h1; subst h2
      split at h
      · rename_i ht hx
        have := TT.ok s.ok ht
        exact x_len hg hx h hN k
      · cases h
    · cases h
  · split at h
    · rename_i h1
      have h1 := toArray_of h1
      subst h1
      split at h
      · rename_i hx hy
        exact x_minmax (mx := false) hg hx hy h hN k
      · cases h
    · cases h
  · split at h
    · rename_i h1
      have h1 := toArray_of h1
      subst h1
      split at h
      · rename_i hx hy
        exact x_minmax (mx := true) hg hx hy h hN k
      · cases h
    · cases h
  · rename_i parts
    split at h
    · rename_i ht
      have h4 := TT.ok s.ok ht
      unfold evBuild at h
      split at h
      · rename_i hk
        split at h
        · rename_i hsz hz hps
          have h5 := evSz_ok hsz
          split at h
          · rename_i hf
            injection h with h; injection h with h h'; injection h' with h' h''; subst h; subst h'
            have := vr_build (ht := h4) (hsz := h5) (E := E) (ops := ops) (dr := dr) (rest := rest) (tr := tr) (K := K) (ty := ty) (pos := pos) (af := af) hg hk (zeroK_eq hz) hps hf hN k
            simpa using this
          · cases h
        · cases h
      · cases h
    · cases h
  · cases h

/-- An operation that makes or writes a block. -/
def evM (T : Nat → Option TyI) (σ : St) (d : Nat) : Op → Option (Upds × List Key)
  | .alloc t => match T t with
    | some ti => match zeroK ti.zero, σ (.b d) with
      | some cs, none => some ([(.b d, some (.k (.box cs))), (.s d, some (.v (.c (.ptr d 0))))], [.b d])
      | _, _ => none
    | none => none
  | .box _ x => match ev σ x with
    | some v => match v.cells, σ (.b d) with
      | some cs, none => some ([(.b d, some (.k (.box cs))), (.s d, some (.v (.c (.ptr d 0))))], opK x ++ [.b d])
      | _, _ => none
    | none => none
  | .buildSlice t n parts => match T t with
    | some ⟨.slice te, _, _, _⟩ => match T te, evP σ parts.toList, σ (.b d) with
      | some ei, some ps, none => cond (seqP 0 parts.toList && (ps.all fun p => Nat.beq p.2.length ei.size) && Nat.beq parts.toList.length n && Nat.ble (n * ei.size) 16777216 && Nat.ble n 16777216)
          (some ([(.b d, some (.k (.row te ei.size (ps.map Prod.snd)))), (.s d, some (.v (.c (.row d n))))], opLK (parts.toList.map Prod.snd) ++ [.b d])) none
      | _, _, _ => none
    | _ => none
  | _ => none

theorem x_m [s : Tys P] {op : Op} {U : Upds} (hg : gkF N ops σ gd = some gR) (h : evM (tyL P) σ d op = some (U, kr)) (hN : Nat.blt d N = true)
    (k : VR E ops dr rest (σ.upds U) ((gR.map (·.1) ++ kr, [.b d, .s d]) :: tr) K) : VR E ops dr (⟨some d, op, ty, pos, af, gd⟩ :: rest) σ tr K := by
  have hg := gk hg
  unfold evM at h
  split at h
  · split at h
    · rename_i ht
      have := TT.ok s.ok ht
      split at h
      · rename_i hz hf
        injection h with h; injection h with h h'; subst h; subst h'; exact vr_alloc hg (zeroK_eq hz) hf hN k
      · cases h
    · cases h
  · split at h
    · rename_i hx
      split at h
      · rename_i hc hf
        injection h with h; injection h with h h'; subst h; subst h'; exact vr_box hg hx hc hf hN k
      · cases h
    · cases h
  · rename_i parts
    split at h
    · rename_i ht
      have h4 := TT.ok s.ok ht
      split at h
      · rename_i hte hps hf
        have h3 := TT.ok s.ok hte
        cases hb : (seqP 0 parts.toList && (_ : List (Nat × List C)).all _ && _ && _ && _) with
        | true =>
          rw [hb] at h
          injection h with h; injection h with h h'; subst h; subst h'
          simp only [Bool.and_eq_true] at hb
          have := vr_buildSlice (ht := h4) (het := h3) (E := E) (ops := ops) (dr := dr) (rest := rest) (tr := tr) (K := K) (ty := ty) (pos := pos) (af := af) hg rfl hps hb.1.1.1.1 hb.1.1.1.2 hb.1.1.2 hb.1.2 hb.2 hf hN k
          simpa using this
        | false => rw [hb] at h; cases h
      · cases h
    · cases h
  · cases h

/-- A write. -/
def evS (T : Nat → Option TyI) (σ : St) : Op → Option (Nat × Blk × List Key)
  | .store t x y => match T t, ev σ x, ev σ y with
    | some ti, some (.c (.ptr nm off)), some v => match σ (.b nm), v.cells with
      | some (.k (.box cs)), some vs => cond (Nat.beq vs.length ti.size && Nat.ble (off + vs.length) cs.length) (some (nm, .box (putC cs off vs), opK x ++ (opK y ++ [.b nm]))) none
      | _, _ => none
    | some ti, some (.rp nm sz m off), some v => match σ (.b nm), v.cells with
      | some (.k (.row T sz' xs)), some vs => match Nat.beq sz sz', xs[m]? with
        | true, some cs => cond (Nat.beq vs.length ti.size && Nat.ble (off + vs.length) cs.length) (some (nm, .row T sz (xs.set m (putC cs off vs)), opK x ++ (opK y ++ [.b nm]))) none
        | _, _ => none
      | _, _ => none
    | _, _, _ => none
  | _ => none
theorem x_s [s : Tys P] {op : Op} {nm : Nat} {B : Blk} (hg : gkF N ops σ gd = some gR) (h : evS (tyL P) σ op = some (nm, B, kr))
    (k : VR E ops dr rest (σ.upd (.b nm) (some (.k B))) ((gR.map (·.1) ++ kr, [.b nm]) :: tr) K) : VR E ops dr (⟨none, op, ty, pos, af, gd⟩ :: rest) σ tr K := by
  have hg := gk hg
  unfold evS at h
  split at h
  · split at h
    · rename_i ht hx hy
      have := TT.ok s.ok ht
      split at h
      · rename_i hb hv
        cases h1 : (Nat.beq _ _ && Nat.ble _ _) with
        | true =>
          rw [h1] at h
          injection h with h; injection h with h h'; injection h' with h' h''; subst h; subst h'; subst h''
          simp only [Bool.and_eq_true] at h1
          exact vr_store hg hx hy hb hv (Nat.eq_of_beq_eq_true h1.1) h1.2 k
        | false => rw [h1] at h; cases h
      · cases h
    · rename_i ht hx hy
      have := TT.ok s.ok ht
      split at h
      · rename_i hb hv
        split at h
        · rename_i hsz hm
          have hsz' := Nat.eq_of_beq_eq_true hsz
          subst hsz'
          cases h1 : (Nat.beq _ _ && Nat.ble _ _) with
          | true =>
            rw [h1] at h
            injection h with h; injection h with h h'; injection h' with h' h''; subst h; subst h'; subst h''
            simp only [Bool.and_eq_true] at h1
            exact vr_store_row hg hx hy hb hm hv (Nat.eq_of_beq_eq_true h1.1) h1.2 k
          | false => rw [h1] at h; cases h
        · cases h
      · cases h
    · cases h
  · cases h

/-- Any operation that needs no more than reckoning: it is passed over, or yields a value, or makes or writes a block. -/
def evOp (T : Nat → Option TyI) (N : Nat) (ops : Array Oper) (σ : St) : Oper → Option (Upds × List Key × List Key × Prop)
  | ⟨dst, op, _, _, _, gd⟩ => match gnF N ops σ gd with
    | some (g, _) => match dst with
      | some d => cond (Nat.blt d N) (some ([(.s d, some (.v (.tup [])))], [.s g], [.s d], True)) none
      | none => some ([], [.s g], [], True)
    | none => match gkF N ops σ gd with
      | some gR => match dst with
        | some d => cond (Nat.blt d N) (match evV T σ op with
          | some (v, kr, c) => some ([(.s d, some (.v v))], gR.map (·.1) ++ kr, [.s d], c)
          | none => match evM T σ d op with
            | some (U, kr) => some (U, gR.map (·.1) ++ kr, [.b d, .s d], True)
            | none => none) none
        | none => match evS T σ op with
          | some (nm, B, kr) => some ([(.b nm, some (.k B))], gR.map (·.1) ++ kr, [.b nm], True)
          | none => none
      | none => none

theorem x_op [s : Tys P] {o : Oper} {U : Upds} {ku : List Key} (h : evOp (tyL P) N ops σ o = some (U, kr, ku, c)) (hc : c) (k : VR E ops dr rest (σ.upds U) ((kr, ku) :: tr) K) : VR E ops dr (o :: rest) σ tr K := by
  obtain ⟨dst, op, ty, pos, af, gd⟩ := o
  unfold evOp at h
  simp only at h
  split at h
  · rename_i hg
    split at h
    · cases hN : Nat.blt _ N with
      | true => rw [hN] at h; injection h with h; injection h with h h'; injection h' with h' h''; injection h'' with h'' _; subst h; subst h'; subst h''; exact x_skip hg hN k
      | false => rw [hN] at h; cases h
    · injection h with h; injection h with h h'; injection h' with h' h''; injection h'' with h'' _; subst h; subst h'; subst h''; exact x_skip0 hg k
  · split at h
    · rename_i hg
      split at h
      · cases hN : Nat.blt _ N with
        | true =>
          rw [hN] at h
          simp only [cond_true] at h
          split at h
          · rename_i hv
            injection h with h; injection h with h h'; injection h' with h' h''; injection h'' with h'' h3; subst h; subst h'; subst h''; subst h3
            exact x_v hg hv hc hN k
          · split at h
            · rename_i hv
              injection h with h; injection h with h h'; injection h' with h' h''; injection h'' with h'' h3; subst h; subst h'; subst h''
              exact x_m hg hv hN k
            · cases h
        | false => rw [hN] at h; cases h
      · split at h
        · rename_i hv
          injection h with h; injection h with h h'; injection h' with h' h''; injection h'' with h'' h3; subst h; subst h'; subst h''
          exact x_s hg hv k
        · cases h
    · cases h
end
end Go.Sx
