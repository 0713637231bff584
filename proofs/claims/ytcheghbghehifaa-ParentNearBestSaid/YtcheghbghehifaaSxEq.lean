/-
  Sx, part 19: structs are compared.
-/
import Derived.Test.YtcheghbghehifaaSxOpsB
namespace Go.Sx
open Go Go.RowKit

def eqFsW (P : Program) (rec : TypeId → Option (Bool × List SK)) : Nat → List Field → Option (List SK)
  | _, [] => some []
  | pos, f :: fs =>
    if f.name = "_" ∨ f.offset ≠ pos then none else
    match rec f.type with
    | none => none
    | some (_, sh) =>
      if (P.info? f.type).map (·.size) = some sh.length then
        match eqFsW P rec (pos + sh.length) fs with
        | none => none
        | some sh' => some (sh ++ sh')
      else none

/-- The kinds of a type's cells, if it is made of bools, integers and strings. -/
def eqShape (P : Program) : Nat → TypeId → Option (Bool × List SK)
  | 0, _ => none
  | m + 1, t =>
    match P.underlying t with
    | some .bool => some (false, [.bool])
    | some (.int k) => some (false, [.int k])
    | some .string => some (false, [.str])
    | some (.struct fs) => if P.stoodInHeld t then none else (eqFsW P (eqShape P m) 0 fs.toList).map fun sh => (true, sh)
    | _ => none

def svVal : Bool → List SV → Value
  | true, l => .agg (l.map SV.v).toArray
  | false, l => ((l.head?).map SV.v).getD undef

def EqAtS (P : Program) (d : Nat) (t : TypeId) (agg : Bool) (sh : List SK) : Prop :=
  (∀ w, (isAgg t).run P w = .ok agg w) ∧
  ∀ w (l1 l2 : List SV), l1.map SV.sk = sh → l2.map SV.sk = sh → (Op.equalIn d t (svVal agg l1) (svVal agg l2)).run P w = .ok (decide (l1 = l2)) w

theorem run_part_s {P : Program} {t : TypeId} {agg : Bool} {n : Nat} (hagg : ∀ w, (isAgg t).run P w = .ok agg w) (hsz : (P.info? t).map (·.size) = some n) (h1 : agg = false → n = 1) (w : World) (l : List SV) (off : Nat) (hl : off + n ≤ l.length) :
    (part t (l.map SV.v).toArray off).run P w = .ok (svVal agg ((l.drop off).take n)) w := by
  obtain ⟨i, hi, hs⟩ := Option.map_eq_some_iff.1 hsz
  cases agg with
  | true =>
    simp only [part, Sem.run_bind, hagg, Result.andThen_ok, if_true, sizeOf, typeInfo, run_program, hi, Sem.run_pure, hs]
    congr 2
    apply Array.ext'
    simp [List.extract, List.map_drop, List.map_take, List.take_drop]
  | false =>
    have := h1 rfl
    subst this
    have hlt : off < l.length := by omega
    simp only [part, Sem.run_bind, hagg, Result.andThen_ok, Bool.false_eq_true, if_false]
    simp [svVal, hlt, List.head?_take, List.head?_drop]

theorem eqFs_run {P : Program} {rec : TypeId → Option (Bool × List SK)} {d : Nat} (hrec : ∀ t agg sh, rec t = some (agg, sh) → EqAtS P d t agg sh ∧ (agg = false → sh.length = 1)) :
    ∀ (fs : List Field) (pos : Nat) (sh : List SK), eqFsW P rec pos fs = some sh → ∀ (w : World) (l1 l2 : List SV), (l1.drop pos).map SV.sk = sh → (l2.drop pos).map SV.sk = sh → pos ≤ l1.length → pos ≤ l2.length →
      (Op.eqFields d (l1.map SV.v).toArray (l2.map SV.v).toArray fs).run P w = .ok (decide (l1.drop pos = l2.drop pos)) w
  | [], pos, sh, h, w, l1, l2, h1, h2, _, _ => by
    injection h with h
    subst h
    have e1 : l1.drop pos = [] := by simpa using h1
    have e2 : l2.drop pos = [] := by simpa using h2
    simp [Op.eqFields, e1, e2]
  | f :: fs, pos, sh, h, w, l1, l2, h1, h2, hp1, hp2 => by
    unfold eqFsW at h
    split at h
    · cases h
    · rename_i hnf
      simp only [not_or, Decidable.not_not] at hnf
      split at h
      · cases h
      · rename_i agg sh1 hr
        split at h
        · rename_i hsz
          split at h
          · cases h
          · rename_i sh2 hrest
            injection h with h
            subst h
            obtain ⟨⟨hagg, heq⟩, hone⟩ := hrec _ _ _ hr
            have len1 : (l1.drop pos).length = sh1.length + sh2.length := by have := congrArg List.length h1; simpa using this
            have len2 : (l2.drop pos).length = sh1.length + sh2.length := by have := congrArg List.length h2; simpa using this
            simp only [List.length_drop] at len1 len2
            have t1 : ((l1.drop pos).take sh1.length).map SV.sk = sh1 := by rw [List.map_take, h1]; simp
            have t2 : ((l2.drop pos).take sh1.length).map SV.sk = sh1 := by rw [List.map_take, h2]; simp
            have d1 : (l1.drop (pos + sh1.length)).map SV.sk = sh2 := by rw [← List.drop_drop, List.map_drop, h1]; simp
            have d2 : (l2.drop (pos + sh1.length)).map SV.sk = sh2 := by rw [← List.drop_drop, List.map_drop, h2]; simp
            have p1 := run_part_s hagg hsz hone w l1 pos (by omega)
            have p2 := run_part_s hagg hsz hone w l2 pos (by omega)
            have q := heq w _ _ t1 t2
            have ih := eqFs_run hrec fs (pos + sh1.length) sh2 hrest w l1 l2 d1 d2 (by omega) (by omega)
            have key : (l1.drop pos = l2.drop pos) ↔ ((l1.drop pos).take sh1.length = (l2.drop pos).take sh1.length ∧ l1.drop (pos + sh1.length) = l2.drop (pos + sh1.length)) := by
              constructor
              · intro e
                refine ⟨by rw [e], ?_⟩
                rw [← List.drop_drop, ← List.drop_drop, e]
              · rintro ⟨e1, e2⟩
                rw [← List.take_append_drop sh1.length (l1.drop pos), ← List.take_append_drop sh1.length (l2.drop pos), e1, List.drop_drop, List.drop_drop, e2]
            simp only [Op.eqFields, hnf.1, hnf.2, ne_eq, not_false_eq_true, if_true, Sem.run_bind, p1, p2, q, Result.andThen_ok]
            by_cases e1 : (l1.drop pos).take sh1.length = (l2.drop pos).take sh1.length
            · simp only [e1, decide_true, Bool.not_true, Bool.false_eq_true, if_false, ih]
              congr 1
              exact decide_eq_decide.2 (by rw [key]; simp [e1])
            · simp only [e1, decide_false, Bool.not_false, if_true, Sem.run_pure]
              congr 1
              exact (decide_eq_false (by rw [key]; simp [e1])).symm
        · cases h

theorem eqAtS_of {P : Program} (n : Nat) : ∀ (m : Nat) (t : TypeId) (agg : Bool) (sh : List SK), eqShape P m t = some (agg, sh) → EqAtS P (n + m) t agg sh ∧ (agg = false → sh.length = 1)
  | 0, _, _, _, h => by cases h
  | m + 1, t, agg, sh, h => by
    unfold eqShape at h
    cases hu : P.underlying t with
    | none => simp [hu] at h
    | some td =>
      have hag : ∀ w, (isAgg t).run P w = .ok (match td with | .struct _ => true | .array _ _ => true | _ => false) w := fun w => by
        simp only [isAgg, Sem.run_bind, run_underlying hu, Result.andThen_ok]
        cases td <;> rfl
      cases td with
      | bool =>
        simp only [hu, Option.some.injEq, Prod.mk.injEq] at h
        obtain ⟨rfl, rfl⟩ := h
        refine ⟨⟨hag, fun w l1 l2 h1 h2 => ?_⟩, fun _ => rfl⟩
        match l1, l2, h1, h2 with
        | [.bool a], [.bool b], _, _ =>
          show (Op.equalIn (n + m + 1) t (.bool a) (.bool b)).run P w = _
          rw [run_equalIn_bool' w _ t a b hu]
          congr 1
          cases a <;> cases b <;> rfl
      | int k =>
        simp only [hu, Option.some.injEq, Prod.mk.injEq] at h
        obtain ⟨rfl, rfl⟩ := h
        refine ⟨⟨hag, fun w l1 l2 h1 h2 => ?_⟩, fun _ => rfl⟩
        match l1, l2, h1, h2 with
        | [.int k1 a], [.int k2 b], h1, h2 =>
          have e1 : k1 = k := by simpa [SV.sk] using h1
          have e2 : k2 = k := by simpa [SV.sk] using h2
          subst e1; subst e2
          show (Op.equalIn (n + m + 1) t (.int k2 a) (.int k2 b)).run P w = _
          rw [run_equalIn_int w _ t k2 _ a b hu]
          congr 1
          by_cases e : a = b
          · subst e; simp
          · simp [e]
      | string =>
        simp only [hu, Option.some.injEq, Prod.mk.injEq] at h
        obtain ⟨rfl, rfl⟩ := h
        refine ⟨⟨hag, fun w l1 l2 h1 h2 => ?_⟩, fun _ => rfl⟩
        match l1, l2, h1, h2 with
        | [.str a], [.str b], _, _ =>
          show (Op.equalIn (n + m + 1) t (.string a) (.string b)).run P w = _
          rw [run_equalIn_string w _ t a b hu]
          congr 1
          rw [← beq_toListBytes]
          cases a with | mk x =>
          cases b with | mk y =>
          show (x == y) = _
          by_cases e : x = y
          · subst e; simp
          · simp [e]
      | struct fs =>
        simp only [hu] at h
        split at h
        · cases h
        · rename_i hst
          simp only [Option.map_eq_some_iff, Prod.mk.injEq] at h
          obtain ⟨sh', h1, rfl, rfl⟩ := h
          refine ⟨⟨hag, fun w l1 l2 h2 h3 => ?_⟩, fun h => by cases h⟩
          have hf : P.fieldsOf t = fs := by simp [Program.fieldsOf, hu]
          show (Op.equalIn (n + m + 1) t (.agg _) (.agg _)).run P w = _
          rw [run_equalIn_struct w _ t _ _ (by rw [hf]; exact hu) (by simpa using hst), hf]
          have := eqFs_run (d := n + m) (fun t agg sh => eqAtS_of n m t agg sh) fs.toList 0 sh' h1 w l1 l2 (by simpa using h2) (by simpa using h3) (Nat.zero_le _) (Nat.zero_le _)
          simpa using this
      | _ => simp [hu] at h

/-- A struct type that can be compared. -/
class EqTy (P : Program) (t : TypeId) (sh : outParam (List SK)) : Prop where
  shape : eqShape P 6 t = some (true, sh)
  guard : P.eqGuardType P.depth t = false

def svL (cs : List C) : Option (List SV) := cs.mapM svC

section
variable {P : Program} {N : Nat} {E : Env P N} {ops : Array Oper} {dr : Bool} {rest : List Oper} {σ : St} {tr : Trace} {K : St → Prop}
  {d : Nat} {t yt ty : TypeId} {pos : String} {af : Array Edge} {gd : Option (Nat × Bool)} {gR : Upds} {x y : Operand} {sh : List SK}

theorem svL_ok {w : World} {ρ : Nat → RI} {Im : Nat → Prop} {cs : List C} {l : List SV} (h : svL cs = some l) : ∀ {us : List Value}, All2 (RepC ρ w Im) cs us → us = l.map SV.v := by
  have := mapM_some (f := svC) h
  clear h
  induction this with
  | nil => intro us h; cases h; rfl
  | @cons s c ss cs h1 _ ih =>
    intro us h
    cases h with
    | cons hr hrs =>
      rw [ih hrs, List.map_cons]
      congr 1
      unfold svC at h1
      split at h1 <;> first | (injection h1 with h1; subst h1; exact hr) | cases h1

theorem vr_eqlA {cs1 cs2 : List C} {l1 l2 : List SV} [he : EqTy P t sh] (hg : GOK N ops σ gd gR) (hx : ev σ x = some (.agg cs1)) (hy : ev σ y = some (.agg cs2)) (h1 : svL cs1 = some l1) (h2 : svL cs2 = some l2)
    (s1 : l1.map SV.sk = sh) (s2 : l2.map SV.sk = sh) (hN : Nat.blt d N = true)
    (k : VR E ops dr rest (σ.set d (AB (decide (l1 = l2)))) ((gR.map (·.1) ++ (opK x ++ opK y), [.s d]) :: tr) K) : VR E ops dr (⟨some d, .binOp .eql t x y yt, ty, pos, af, gd⟩ :: rest) σ tr K :=
  vr_bin (v := AB (decide (l1 = l2))) hg rfl hx hy hN (fun _ ac w _ Im _ h h' => by
    obtain ⟨us, hu, ha⟩ := h
    obtain ⟨vs, hv, hb⟩ := h'
    have e1 := svL_ok h1 ha
    have e2 := svL_ok h2 hb
    subst e1; subst e2
    refine ⟨.bool (decide (l1 = l2)), ?_, rfl⟩
    have hq := ((eqAtS_of (P := P) 9994 6 t true sh he.shape).1.2 w l1 l2 s1 s2)
    simp only [svVal] at hq
    simp only [execOp, hu, hv, Sem.run_bind, run_eqGuard_agg w .eql t x y _ _ he.guard, Result.andThen_ok, run_eql_struct, hq, Sem.run_pure]) (fun _ h => by cases h) k

theorem vr_neqA {cs1 cs2 : List C} {l1 l2 : List SV} [he : EqTy P t sh] (hg : GOK N ops σ gd gR) (hx : ev σ x = some (.agg cs1)) (hy : ev σ y = some (.agg cs2)) (h1 : svL cs1 = some l1) (h2 : svL cs2 = some l2)
    (s1 : l1.map SV.sk = sh) (s2 : l2.map SV.sk = sh) (hN : Nat.blt d N = true)
    (k : VR E ops dr rest (σ.set d (AB (decide (l1 ≠ l2)))) ((gR.map (·.1) ++ (opK x ++ opK y), [.s d]) :: tr) K) : VR E ops dr (⟨some d, .binOp .neq t x y yt, ty, pos, af, gd⟩ :: rest) σ tr K :=
  vr_bin (v := AB (decide (l1 ≠ l2))) hg rfl hx hy hN (fun _ ac w _ Im _ h h' => by
    obtain ⟨us, hu, ha⟩ := h
    obtain ⟨vs, hv, hb⟩ := h'
    have e1 := svL_ok h1 ha
    have e2 := svL_ok h2 hb
    subst e1; subst e2
    refine ⟨.bool (!decide (l1 = l2)), ?_, ?_⟩
    · have hq := ((eqAtS_of (P := P) 9994 6 t true sh he.shape).1.2 w l1 l2 s1 s2)
      simp only [svVal] at hq
      simp only [execOp, hu, hv, Sem.run_bind, run_eqGuard_agg w .neq t x y _ _ he.guard, Result.andThen_ok, run_neq_struct, hq, Sem.run_pure]
    · show _ = _
      simp) (fun _ h => by cases h) k
end
end Go.Sx
