/-
  Sx, part 20: shorter words for the scripts: the guard decided by computing, families of operations, a guard's or a test's slot written over by what it was decided to be.
-/
import Derived.Test.YtcheghbghehifaaSxMore
import Derived.Test.YtcheghbghehifaaSxEq
namespace Go.Sx
open Go Go.RowKit

def gkF (N : Nat) (ops : Array Oper) (σ : St) : Option (Nat × Bool) → Option Upds
  | none => some []
  | some (j, want) => match ops[j]? with
    | some ⟨some g, _, _, _, _, _⟩ => match σ (.s g), want with
      | some (.v (.c (.d (.bool true)))), true => cond (Nat.blt g N) (some [(.s g, some (.v (AB true)))]) none
      | some (.v (.c (.d (.bool false)))), false => cond (Nat.blt g N) (some [(.s g, some (.v (AB false)))]) none
      | _, _ => none
    | _ => none

theorem gk {N : Nat} {ops : Array Oper} {σ : St} {gd : Option (Nat × Bool)} {gR : Upds} (h : gkF N ops σ gd = some gR) : GOK N ops σ gd gR := by
  unfold gkF at h
  split at h
  · injection h with h; subst h; exact .none
  · split at h
    · rename_i h1
      split at h
      · rename_i h2
        cases hN : Nat.blt _ N with
        | true => rw [hN] at h; injection h with h; subst h; exact .some h1 rfl h2 rfl hN
        | false => rw [hN] at h; cases h
      · rename_i h2
        cases hN : Nat.blt _ N with
        | true => rw [hN] at h; injection h with h; subst h; exact .some h1 rfl h2 rfl hN
        | false => rw [hN] at h; cases h
      · cases h
    · cases h

/-- What the guard's slot holds, if it keeps the operation from running. -/
def gnF (N : Nat) (ops : Array Oper) (σ : St) : Option (Nat × Bool) → Option (Nat × AV)
  | none => none
  | some (j, want) => match ops[j]? with
    | some ⟨some g, _, _, _, _, _⟩ => match σ (.s g), want with
      | some (.v (.c (.d (.bool false)))), true => cond (Nat.blt g N) (some (g, AB false)) none
      | some (.v (.c (.d (.bool true)))), false => cond (Nat.blt g N) (some (g, AB true)) none
      | some (.v (.tup [])), _ => cond (Nat.blt g N) (some (g, .tup [])) none
      | _, _ => none
    | _ => none

section
variable {P : Program} {N : Nat} {E : Env P N} {ops : Array Oper} {dr : Bool} {rest : List Oper} {σ : St} {tr : Trace} {K : St → Prop} {Q : Exit → St → Prop}
  {d : Nat} {dst : Option Tmp} {op : Op} {ty : TypeId} {pos : String} {af : Array Edge} {gd : Option (Nat × Bool)}

theorem gnF_ok {g : Nat} {x : AV} (h : gnF N ops σ gd = some (g, x)) : ∃ j want og, gd = some (j, want) ∧ ops[j]? = some og ∧ og.dst = some g ∧ GNo σ g want x ∧ Nat.blt g N = true := by
  unfold gnF at h
  split at h
  · cases h
  · rename_i j want
    split at h
    · rename_i g0 _ _ _ _ _ h1
      split at h
      · rename_i h2
        cases hN : Nat.blt g0 N with
        | true => rw [hN] at h; injection h with h; injection h with h h'; subst h; subst h'; exact ⟨j, true, _, rfl, h1, rfl, .b h2 rfl, hN⟩
        | false => rw [hN] at h; cases h
      · rename_i h2
        cases hN : Nat.blt g0 N with
        | true => rw [hN] at h; injection h with h; injection h with h h'; subst h; subst h'; exact ⟨j, false, _, rfl, h1, rfl, .b h2 rfl, hN⟩
        | false => rw [hN] at h; cases h
      · rename_i h2
        cases hN : Nat.blt g0 N with
        | true => rw [hN] at h; injection h with h; injection h with h h'; subst h; subst h'; exact ⟨j, _, _, rfl, h1, rfl, .u h2, hN⟩
        | false => rw [hN] at h; cases h
      · cases h
    · cases h

theorem x_skip {g : Nat} {x : AV} (h : gnF N ops σ gd = some (g, x)) (hN2 : Nat.blt d N = true)
    (k : VR E ops dr rest (σ.set d (.tup [])) (([.s g], [.s d]) :: tr) K) : VR E ops dr (⟨some d, op, ty, pos, af, gd⟩ :: rest) σ tr K := by
  obtain ⟨j, want, og, rfl, h1, h2, h3, h4⟩ := gnF_ok h
  exact vr_skip h1 h2 h3 h4 hN2 k
theorem x_skip0 {g : Nat} {x : AV} (h : gnF N ops σ gd = some (g, x))
    (k : VR E ops dr rest σ (([.s g], []) :: tr) K) : VR E ops dr (⟨none, op, ty, pos, af, gd⟩ :: rest) σ tr K := by
  obtain ⟨j, want, og, rfl, h1, h2, h3, h4⟩ := gnF_ok h
  exact vr_skip0 h1 h2 h3 h4 k

theorem St.set_same {σ : St} {g : Nat} {x : AV} (h : σ (.s g) = some (.v x)) : σ.set g x = σ := by
  funext k
  unfold St.set
  by_cases hk : (Key.s g) = k
  · subst hk; rw [St.upd_same, h]
  · rw [St.upd_other _ _ hk]

/-- The guard's slot holds something undecided. -/
def guF (ops : Array Oper) (σ : St) : Option (Nat × Bool) → Option (Nat × Bool)
  | none => none
  | some (j, _) => match ops[j]? with
    | some ⟨some g, _, _, _, _, _⟩ => match σ (.s g) with
      | some (.v (.c (.d (.bool b)))) => some (g, b)
      | _ => none
    | _ => none
theorem guF_ok {g : Nat} {b : Bool} (h : guF ops σ gd = some (g, b)) : σ (.s g) = some (.v (AB b)) := by
  unfold guF at h
  split at h
  · cases h
  · split at h
    · split at h
      · rename_i h2; injection h with h; injection h with h h'; subst h; subst h'; exact h2
      · cases h
    · cases h
theorem x_gknow {g : Nat} {b c : Bool} (h : guF ops σ gd = some (g, b)) (hb : b = c)
    (k : VR E ops dr (⟨dst, op, ty, pos, af, gd⟩ :: rest) (σ.set g (AB c)) tr K) : VR E ops dr (⟨dst, op, ty, pos, af, gd⟩ :: rest) σ tr K := by
  subst hb
  rw [St.set_same (guF_ok h)] at k
  exact k
theorem x_gsplit {g : Nat} {b : Bool} (h : guF ops σ gd = some (g, b))
    (ht : b = true → VR E ops dr (⟨dst, op, ty, pos, af, gd⟩ :: rest) (σ.set g (AB true)) tr K) (hf : b = false → VR E ops dr (⟨dst, op, ty, pos, af, gd⟩ :: rest) (σ.set g (AB false)) tr K) :
    VR E ops dr (⟨dst, op, ty, pos, af, gd⟩ :: rest) σ tr K := by
  cases b with
  | true => exact x_gknow h rfl (ht rfl)
  | false => exact x_gknow h rfl (hf rfl)
/-- A test, undecided; its slot is written over. -/
theorem x_cond {t : Nat} {x y : Code} {b : Bool} (hc : ev σ (.tmp t) = some (AB b)) (ht : b = true → VC E x Q (σ.set t (AB true))) (hf : b = false → VC E y Q (σ.set t (AB false))) : VC E (.cond (.tmp t) x y) Q σ := by
  have h : σ (.s t) = some (.v (AB b)) := by
    simp only [ev] at hc
    split at hc
    · rename_i y hy; injection hc with hc; subst hc; exact hy
    · cases hc
  refine vc_cond hc (fun h' => ?_) (fun h' => ?_)
  · have := ht h'; subst h'; rwa [St.set_same h] at this
  · have := hf h'; subst h'; rwa [St.set_same h] at this
theorem x_know {t : Nat} {x y : Code} {b c : Bool} (hc : ev σ (.tmp t) = some (AB b)) (hb : b = c) (k : VC E (.cond (.tmp t) x y) Q (σ.set t (AB c))) : VC E (.cond (.tmp t) x y) Q σ := by
  have h : σ (.s t) = some (.v (AB b)) := by
    simp only [ev] at hc
    split at hc
    · rename_i y hy; injection hc with hc; subst hc; exact hy
    · cases hc
  subst hb
  rwa [St.set_same h] at k
end

section
variable {P : Program} {N : Nat} {E : Env P N} {ops : Array Oper} {dr : Bool} {rest : List Oper} {σ : St} {tr : Trace} {K : St → Prop}
  {d : Nat} {t yt ty : TypeId} {pos : String} {af : Array Edge} {gd : Option (Nat × Bool)} {gR : Upds} {x y z : Operand} {kd : IntKind} {a b : Int}

def cmpF (a b : Int) : BinOp → Option Bool
  | .eql => some (decide (a = b))
  | .neq => some (decide (a ≠ b))
  | .lss => some (decide (a < b))
  | .leq => some (decide (a ≤ b))
  | .gtr => some (decide (b < a))
  | .geq => some (decide (b ≤ a))
  | _ => none
theorem x_cmp {op : BinOp} {v : Bool} (hg : gkF N ops σ gd = some gR) (hx : ev σ x = some (AD (.int kd a))) (hy : ev σ y = some (AD (.int kd b))) (hv : cmpF a b op = some v) (hN : Nat.blt d N = true)
    (k : VR E ops dr rest (σ.set d (AB v)) ((gR.map (·.1) ++ (opK x ++ opK y), [.s d]) :: tr) K) : VR E ops dr (⟨some d, .binOp op t x y yt, ty, pos, af, gd⟩ :: rest) σ tr K := by
  unfold cmpF at hv
  split at hv <;> first | (injection hv with hv; subst hv) | cases hv
  · exact vr_eql (gk hg) hx hy hN k
  · exact vr_neq (gk hg) hx hy hN k
  · exact vr_lss (gk hg) hx hy hN k
  · exact vr_leq (gk hg) hx hy hN k
  · exact vr_gtr (gk hg) hx hy hN k
  · exact vr_geq (gk hg) hx hy hN k
def ariF (a b : Int) : BinOp → Option Int
  | .add => some (a + b)
  | .sub => some (a - b)
  | .mul => some (a * b)
  | _ => none
theorem x_ari {op : BinOp} {v : Int} (hg : gkF N ops σ gd = some gR) (hx : ev σ x = some (AD (.int .i64 a))) (hy : ev σ y = some (AD (.int .i64 b))) (hv : ariF a b op = some v) (hN : Nat.blt d N = true)
    (hr : -9223372036854775808 ≤ v ∧ v ≤ 9223372036854775807)
    (k : VR E ops dr rest (σ.set d (AI v)) ((gR.map (·.1) ++ (opK x ++ opK y), [.s d]) :: tr) K) : VR E ops dr (⟨some d, .binOp op t x y yt, ty, pos, af, gd⟩ :: rest) σ tr K := by
  unfold ariF at hv
  split at hv <;> first | (injection hv with hv; subst hv) | cases hv
  · exact vr_add (gk hg) hx hy hN hr k
  · exact vr_sub (gk hg) hx hy hN hr k
  · exact vr_mul (gk hg) hx hy hN hr k
theorem x_ariw {op : BinOp} {v : Int} (hg : gkF N ops σ gd = some gR) (hx : ev σ x = some (AD (.int kd a))) (hy : ev σ y = some (AD (.int kd b))) (hv : ariF a b op = some v) (hN : Nat.blt d N = true)
    (k : VR E ops dr rest (σ.set d (AD (.int kd (kd.wrap v)))) ((gR.map (·.1) ++ (opK x ++ opK y), [.s d]) :: tr) K) : VR E ops dr (⟨some d, .binOp op t x y yt, ty, pos, af, gd⟩ :: rest) σ tr K := by
  unfold ariF at hv
  split at hv <;> first | (injection hv with hv; subst hv) | cases hv
  · exact vr_addw (gk hg) hx hy hN k
  · exact vr_subw (gk hg) hx hy hN k
  · exact vr_mulw (gk hg) hx hy hN k
/-- Of other kinds than int, where it does not wrap. -/
theorem x_arik {op : BinOp} {v : Int} (hg : gkF N ops σ gd = some gR) (hx : ev σ x = some (AD (.int kd a))) (hy : ev σ y = some (AD (.int kd b))) (hv : ariF a b op = some v) (hN : Nat.blt d N = true)
    (hr : kd.wrap v = v)
    (k : VR E ops dr rest (σ.set d (AD (.int kd v))) ((gR.map (·.1) ++ (opK x ++ opK y), [.s d]) :: tr) K) : VR E ops dr (⟨some d, .binOp op t x y yt, ty, pos, af, gd⟩ :: rest) σ tr K :=
  x_ariw hg hx hy hv hN (by rw [hr]; exact k)
end
end Go.Sx
