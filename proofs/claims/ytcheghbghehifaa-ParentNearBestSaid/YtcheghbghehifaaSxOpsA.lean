/-
  Sx, part 4: rules of single operations: moves, tests on numbers, sums, picks, parts of a tuple.
-/
import Derived.Test.YtcheghbghehifaaSxRules
namespace Go.Sx
open Go Go.RowKit

abbrev AI (n : Int) : AV := .c (.d (.int .i64 n))
abbrev AB (b : Bool) : AV := .c (.d (.bool b))
abbrev AD (x : D) : AV := .c (.d x)

section
variable {P : Program} {N : Nat} {E : Env P N} {ops : Array Oper} {dr : Bool} {rest : List Oper} {σ : St} {tr : Trace} {K : St → Prop}
  {d : Nat} {t yt ty : TypeId} {pos : String} {af : Array Edge} {gd : Option (Nat × Bool)} {gR : Upds} {x y z : Operand}

theorem vr_move {v : AV} (hg : GOK N ops σ gd gR) (hx : ev σ x = some v) (hN : Nat.blt d N = true)
    (k : VR E ops dr rest (σ.set d v) ((gR.map (·.1) ++ opK x, [.s d]) :: tr) K) : VR E ops dr (⟨some d, .move x, ty, pos, af, gd⟩ :: rest) σ tr K :=
  vr_un hg rfl hx hN (fun _ a _ _ _ _ h => ⟨a.eval x, rfl, h⟩) (fun _ h => h) k

theorem vr_assign {v : AV} (hg : GOK N ops σ gd gR) (hx : ev σ x = some v) (hN : Nat.blt d N = true)
    (k : VR E ops dr rest (σ.set d v) ((gR.map (·.1) ++ opK x, [.s d]) :: tr) K) : VR E ops dr (⟨some d, .assign x, ty, pos, af, gd⟩ :: rest) σ tr K :=
  vr_un hg rfl hx hN (fun _ a _ _ _ _ h => ⟨a.eval x, rfl, h⟩) (fun _ h => h) k

theorem vr_pick_true {b : Bool} {v : AV} (hg : GOK N ops σ gd gR) (hx : ev σ x = some (AB b)) (hb : b = true) (hy : ev σ y = some v) (hN : Nat.blt d N = true)
    (k : VR E ops dr rest (σ.set d v) ((gR.map (·.1) ++ (opK x ++ opK y), [.s d]) :: tr) K) : VR E ops dr (⟨some d, .pick x y z, ty, pos, af, gd⟩ :: rest) σ tr K :=
  vr_bin hg rfl hx hy hN (fun _ a _ _ _ _ h h' => ⟨a.eval y, by
    have h : a.eval x = .bool b := h
    simp [execOp, h, hb, asBool], h'⟩) (fun _ h => .inr h) k

theorem vr_pick_false {b : Bool} {v : AV} (hg : GOK N ops σ gd gR) (hx : ev σ x = some (AB b)) (hb : b = false) (hy : ev σ z = some v) (hN : Nat.blt d N = true)
    (k : VR E ops dr rest (σ.set d v) ((gR.map (·.1) ++ (opK x ++ opK z), [.s d]) :: tr) K) : VR E ops dr (⟨some d, .pick x y z, ty, pos, af, gd⟩ :: rest) σ tr K :=
  vr_bin hg rfl hx hy hN (fun _ a _ _ _ _ h h' => ⟨a.eval z, by
    have h : a.eval x = .bool b := h
    simp [execOp, h, hb, asBool], h'⟩) (fun _ h => .inr h) k

theorem vr_not {b : Bool} (hg : GOK N ops σ gd gR) (hx : ev σ x = some (AB b)) (hN : Nat.blt d N = true)
    (k : VR E ops dr rest (σ.set d (AB (!b))) ((gR.map (·.1) ++ opK x, [.s d]) :: tr) K) : VR E ops dr (⟨some d, .unOp .not t x, ty, pos, af, gd⟩ :: rest) σ tr K :=
  vr_un (v := AB (!b)) hg rfl hx hN (fun _ a _ _ _ _ h => ⟨.bool (!b), by
    have h : a.eval x = .bool b := h
    simp [execOp, h, Op.unary], rfl⟩) (fun _ h => by cases h) k

section
variable {kd : IntKind} {a b : Int}

theorem vr_int {op : BinOp} {v : D} {u : Value} (hg : GOK N ops σ gd gR) (hx : ev σ x = some (AD (.int kd a))) (hy : ev σ y = some (AD (.int kd b))) (hN : Nat.blt d N = true)
    (hrun : ∀ w, (do eqGuard op t x y (.int kd a) (.int kd b); binOp op t (.int kd a) (.int kd b) : Sem Value).run P w = .ok u w) (hv : ∀ w Im, RepD w Im v u)
    (k : VR E ops dr rest (σ.set d (AD v)) ((gR.map (·.1) ++ (opK x ++ opK y), [.s d]) :: tr) K) : VR E ops dr (⟨some d, .binOp op t x y yt, ty, pos, af, gd⟩ :: rest) σ tr K :=
  vr_bin hg rfl hx hy hN (fun _ ac w _ Im _ h h' => by
    have h : ac.eval x = .int kd a := h
    have h' : ac.eval y = .int kd b := h'
    refine ⟨u, ?_, hv w Im⟩
    have h1 := hrun w
    simp only [execOp, h, h']
    simp only [Sem.run_bind] at h1 ⊢
    rw [h1]
    rfl) (fun _ h => by cases h) k

theorem vr_geq (hg : GOK N ops σ gd gR) (hx : ev σ x = some (AD (.int kd a))) (hy : ev σ y = some (AD (.int kd b))) (hN : Nat.blt d N = true)
    (k : VR E ops dr rest (σ.set d (AB (decide (b ≤ a)))) ((gR.map (·.1) ++ (opK x ++ opK y), [.s d]) :: tr) K) : VR E ops dr (⟨some d, .binOp .geq t x y yt, ty, pos, af, gd⟩ :: rest) σ tr K :=
  vr_int (v := .bool (decide (b ≤ a))) (u := .bool (decide (b ≤ a))) hg hx hy hN (fun _ => by simp [go_sem]) (fun _ _ => rfl) k
theorem vr_leq (hg : GOK N ops σ gd gR) (hx : ev σ x = some (AD (.int kd a))) (hy : ev σ y = some (AD (.int kd b))) (hN : Nat.blt d N = true)
    (k : VR E ops dr rest (σ.set d (AB (decide (a ≤ b)))) ((gR.map (·.1) ++ (opK x ++ opK y), [.s d]) :: tr) K) : VR E ops dr (⟨some d, .binOp .leq t x y yt, ty, pos, af, gd⟩ :: rest) σ tr K :=
  vr_int (v := .bool (decide (a ≤ b))) (u := .bool (decide (a ≤ b))) hg hx hy hN (fun _ => by simp [go_sem]) (fun _ _ => rfl) k
theorem vr_lss (hg : GOK N ops σ gd gR) (hx : ev σ x = some (AD (.int kd a))) (hy : ev σ y = some (AD (.int kd b))) (hN : Nat.blt d N = true)
    (k : VR E ops dr rest (σ.set d (AB (decide (a < b)))) ((gR.map (·.1) ++ (opK x ++ opK y), [.s d]) :: tr) K) : VR E ops dr (⟨some d, .binOp .lss t x y yt, ty, pos, af, gd⟩ :: rest) σ tr K :=
  vr_int (v := .bool (decide (a < b))) (u := .bool (decide (a < b))) hg hx hy hN (fun _ => by simp [go_sem]) (fun _ _ => rfl) k
theorem vr_gtr (hg : GOK N ops σ gd gR) (hx : ev σ x = some (AD (.int kd a))) (hy : ev σ y = some (AD (.int kd b))) (hN : Nat.blt d N = true)
    (k : VR E ops dr rest (σ.set d (AB (decide (b < a)))) ((gR.map (·.1) ++ (opK x ++ opK y), [.s d]) :: tr) K) : VR E ops dr (⟨some d, .binOp .gtr t x y yt, ty, pos, af, gd⟩ :: rest) σ tr K :=
  vr_int (v := .bool (decide (b < a))) (u := .bool (decide (b < a))) hg hx hy hN (fun _ => by simp [go_sem]) (fun _ _ => rfl) k
theorem vr_eql (hg : GOK N ops σ gd gR) (hx : ev σ x = some (AD (.int kd a))) (hy : ev σ y = some (AD (.int kd b))) (hN : Nat.blt d N = true)
    (k : VR E ops dr rest (σ.set d (AB (decide (a = b)))) ((gR.map (·.1) ++ (opK x ++ opK y), [.s d]) :: tr) K) : VR E ops dr (⟨some d, .binOp .eql t x y yt, ty, pos, af, gd⟩ :: rest) σ tr K :=
  vr_int (v := .bool (decide (a = b))) (u := .bool (a == b)) hg hx hy hN (fun _ => by simp [go_sem]) (fun _ _ => by show _ = _; congr 1) k
theorem vr_neq (hg : GOK N ops σ gd gR) (hx : ev σ x = some (AD (.int kd a))) (hy : ev σ y = some (AD (.int kd b))) (hN : Nat.blt d N = true)
    (k : VR E ops dr rest (σ.set d (AB (decide (a ≠ b)))) ((gR.map (·.1) ++ (opK x ++ opK y), [.s d]) :: tr) K) : VR E ops dr (⟨some d, .binOp .neq t x y yt, ty, pos, af, gd⟩ :: rest) σ tr K :=
  vr_int (v := .bool (decide (a ≠ b))) (u := .bool (a != b)) hg hx hy hN (fun _ => by simp [go_sem]) (fun _ _ => by show _ = _; congr 1; by_cases h : a = b <;> simp [h]) k

theorem vr_add (hg : GOK N ops σ gd gR) (hx : ev σ x = some (AD (.int .i64 a))) (hy : ev σ y = some (AD (.int .i64 b))) (hN : Nat.blt d N = true)
    (hb : -9223372036854775808 ≤ a + b ∧ a + b ≤ 9223372036854775807)
    (k : VR E ops dr rest (σ.set d (AI (a + b))) ((gR.map (·.1) ++ (opK x ++ opK y), [.s d]) :: tr) K) : VR E ops dr (⟨some d, .binOp .add t x y yt, ty, pos, af, gd⟩ :: rest) σ tr K :=
  vr_int (v := .int .i64 (a + b)) (u := .int .i64 (a + b)) hg hx hy hN (fun _ => by
    simp [go_sem, Op.intArith, IntWalk.i64_in _ hb]) (fun _ _ => rfl) k
theorem vr_sub (hg : GOK N ops σ gd gR) (hx : ev σ x = some (AD (.int .i64 a))) (hy : ev σ y = some (AD (.int .i64 b))) (hN : Nat.blt d N = true)
    (hb : -9223372036854775808 ≤ a - b ∧ a - b ≤ 9223372036854775807)
    (k : VR E ops dr rest (σ.set d (AI (a - b))) ((gR.map (·.1) ++ (opK x ++ opK y), [.s d]) :: tr) K) : VR E ops dr (⟨some d, .binOp .sub t x y yt, ty, pos, af, gd⟩ :: rest) σ tr K :=
  vr_int (v := .int .i64 (a - b)) (u := .int .i64 (a - b)) hg hx hy hN (fun _ => by
    simp [go_sem, Op.intArith, IntWalk.i64_in _ hb]) (fun _ _ => rfl) k
theorem vr_mul (hg : GOK N ops σ gd gR) (hx : ev σ x = some (AD (.int .i64 a))) (hy : ev σ y = some (AD (.int .i64 b))) (hN : Nat.blt d N = true)
    (hb : -9223372036854775808 ≤ a * b ∧ a * b ≤ 9223372036854775807)
    (k : VR E ops dr rest (σ.set d (AI (a * b))) ((gR.map (·.1) ++ (opK x ++ opK y), [.s d]) :: tr) K) : VR E ops dr (⟨some d, .binOp .mul t x y yt, ty, pos, af, gd⟩ :: rest) σ tr K :=
  vr_int (v := .int .i64 (a * b)) (u := .int .i64 (a * b)) hg hx hy hN (fun _ => by
    simp [go_sem, Op.intArith, IntWalk.i64_in _ hb]) (fun _ _ => rfl) k
/-- Of whatever kind, with the wrap. -/
theorem vr_addw (hg : GOK N ops σ gd gR) (hx : ev σ x = some (AD (.int kd a))) (hy : ev σ y = some (AD (.int kd b))) (hN : Nat.blt d N = true)
    (k : VR E ops dr rest (σ.set d (AD (.int kd (kd.wrap (a + b))))) ((gR.map (·.1) ++ (opK x ++ opK y), [.s d]) :: tr) K) : VR E ops dr (⟨some d, .binOp .add t x y yt, ty, pos, af, gd⟩ :: rest) σ tr K :=
  vr_int (v := .int kd (kd.wrap (a + b))) (u := .int kd (kd.wrap (a + b))) hg hx hy hN (fun _ => by
    simp [go_sem, Op.intArith]) (fun _ _ => rfl) k
theorem vr_subw (hg : GOK N ops σ gd gR) (hx : ev σ x = some (AD (.int kd a))) (hy : ev σ y = some (AD (.int kd b))) (hN : Nat.blt d N = true)
    (k : VR E ops dr rest (σ.set d (AD (.int kd (kd.wrap (a - b))))) ((gR.map (·.1) ++ (opK x ++ opK y), [.s d]) :: tr) K) : VR E ops dr (⟨some d, .binOp .sub t x y yt, ty, pos, af, gd⟩ :: rest) σ tr K :=
  vr_int (v := .int kd (kd.wrap (a - b))) (u := .int kd (kd.wrap (a - b))) hg hx hy hN (fun _ => by
    simp [go_sem, Op.intArith]) (fun _ _ => rfl) k
theorem vr_mulw (hg : GOK N ops σ gd gR) (hx : ev σ x = some (AD (.int kd a))) (hy : ev σ y = some (AD (.int kd b))) (hN : Nat.blt d N = true)
    (k : VR E ops dr rest (σ.set d (AD (.int kd (kd.wrap (a * b))))) ((gR.map (·.1) ++ (opK x ++ opK y), [.s d]) :: tr) K) : VR E ops dr (⟨some d, .binOp .mul t x y yt, ty, pos, af, gd⟩ :: rest) σ tr K :=
  vr_int (v := .int kd (kd.wrap (a * b))) (u := .int kd (kd.wrap (a * b))) hg hx hy hN (fun _ => by
    simp [go_sem, Op.intArith]) (fun _ _ => rfl) k
theorem vr_quo (hg : GOK N ops σ gd gR) (hx : ev σ x = some (AD (.int .i64 a))) (hy : ev σ y = some (AD (.int .i64 b))) (hN : Nat.blt d N = true)
    (hb : 0 ≤ a ∧ a ≤ 9223372036854775807 ∧ 0 < b)
    (k : VR E ops dr rest (σ.set d (AI (a / b))) ((gR.map (·.1) ++ (opK x ++ opK y), [.s d]) :: tr) K) : VR E ops dr (⟨some d, .binOp .quo t x y yt, ty, pos, af, gd⟩ :: rest) σ tr K :=
  vr_int (v := .int .i64 (a / b)) (u := .int .i64 (a / b)) hg hx hy hN (fun _ => by
    have h1 : a.tdiv b = a / b := Int.tdiv_eq_ediv_of_nonneg hb.1
    have h2 : 0 ≤ a / b := Int.ediv_nonneg hb.1 (by omega)
    have h3 : a / b ≤ a := Int.ediv_le_self b hb.1
    have h4 : b ≠ 0 := by omega
    simp [go_sem, Op.intDiv, if_neg h4, h1, IntWalk.i64_in _ ⟨show -9223372036854775808 ≤ a / b by omega, by omega⟩]) (fun _ _ => rfl) k
theorem vr_rem (hg : GOK N ops σ gd gR) (hx : ev σ x = some (AD (.int kd a))) (hy : ev σ y = some (AD (.int kd b))) (hN : Nat.blt d N = true)
    (hb : 0 ≤ a ∧ 0 < b)
    (k : VR E ops dr rest (σ.set d (AD (.int kd (a % b)))) ((gR.map (·.1) ++ (opK x ++ opK y), [.s d]) :: tr) K) : VR E ops dr (⟨some d, .binOp .rem t x y yt, ty, pos, af, gd⟩ :: rest) σ tr K :=
  vr_int (v := .int kd (a % b)) (u := .int kd (a % b)) hg hx hy hN (fun _ => by
    have h1 : a.tmod b = a % b := Int.tmod_eq_emod_of_nonneg hb.1
    have h4 : b ≠ 0 := by omega
    simp [go_sem, Op.intDiv, if_neg h4, h1]) (fun _ _ => rfl) k
end

theorem vr_extract {vs : List AV} {i : Nat} {v : AV} (hg : GOK N ops σ gd gR) (hx : ev σ x = some (.tup vs)) (hi : vs[i]? = some v) (hN : Nat.blt d N = true)
    (k : VR E ops dr rest (σ.set d v) ((gR.map (·.1) ++ opK x, [.s d]) :: tr) K) : VR E ops dr (⟨some d, .extract x i, ty, pos, af, gd⟩ :: rest) σ tr K :=
  vr_un hg rfl hx hN (fun _ a w ρ Im _ h => by
    obtain ⟨us, hu, ha⟩ := h
    obtain ⟨u, h1, h2⟩ := ha.get hi
    refine ⟨u, ?_, RepA.of0 h2⟩
    simp [execOp, hu, Instr.extract, h1]) (fun nm h => by
    simp only [AV.mentions, List.any_eq_true]
    refine ⟨v, List.mem_of_getElem? hi, ?_⟩
    cases v <;> first | exact h | rfl) k
end

end Go.Sx
