/-
  Sx, part 18: calls of function values; min, max, conversions, shifts; tests of equality of other kinds.
-/
import Derived.Test.YtcheghbghehifaaSxLe
import Derived.DeepKeys
namespace Go.Sx
open Go Go.RowKit

def C.dd : C → Option D
  | .d x => some x
  | _ => none

def AV.dv : AV → Option DV
  | .c (.d x) => some (.d x)
  | .agg cs => (cs.mapM C.dd).map .agg
  | _ => none

def dvL : List AV → Option (List DV)
  | [] => some []
  | x :: l => match x.dv, dvL l with
    | some y, some ys => some (y :: ys)
    | _, _ => none

section
variable {P : Program} {N : Nat} {E : Env P N} {σ : St} {a : Act} {w : World} {ρ : Nat → RI} {Im : Nat → Prop}

theorem cs_dv {cs : List C} {xs : List D} (h : cs.mapM C.dd = some xs) : ∀ {us : List Value}, All2 (RepC ρ w Im) cs us → All2 (RepD w Im) xs us := by
  have := mapM_some h
  clear h
  induction this with
  | nil => intro us h; cases h; exact .nil
  | @cons x c xs cs h1 _ ih =>
    intro us h
    cases h with
    | cons hr hrs =>
      cases c with
      | d y => injection h1 with h1; subst h1; exact .cons hr (ih hrs)
      | _ => cases h1

theorem AV.dv_ok {x : AV} {y : DV} {v : Value} (h : x.dv = some y) (hr : RepA E ρ w Im x v) : RepDV w Im y v := by
  cases x with
  | c c =>
    cases c with
    | d z => injection h with h; subst h; exact hr
    | _ => cases h
  | agg cs =>
    simp only [AV.dv, Option.map_eq_some_iff] at h
    obtain ⟨xs, h1, rfl⟩ := h
    obtain ⟨us, rfl, ha⟩ := hr
    exact ⟨us, rfl, cs_dv h1 ha⟩
  | _ => cases h

theorem dvL_ok : ∀ {xs : List AV} {ys : List DV}, dvL xs = some ys → ∀ {us : List Value}, All2 (RepA E ρ w Im) xs us → All2 (RepDV w Im) ys us
  | [], ys, h, us, ha => by injection h with h; subst h; cases ha; exact .nil
  | x :: xs, ys, h, us, ha => by
    simp only [dvL] at h
    cases hx : x.dv with
    | none => simp [hx] at h
    | some y =>
      cases hl : dvL xs with
      | none => simp [hx, hl] at h
      | some ys' =>
        simp only [hx, hl, Option.some.injEq] at h
        subst h
        cases ha with
        | cons hr ha => exact .cons (AV.dv_ok hx hr) (dvL_ok hl ha)

/-- The world has grown. -/
theorem SatAt.grown (h : SatAt E σ a w ρ Im) {w' : World} (hb : Below w.heap.size w w') : SatAt E σ a w' ρ Im := by
  have hIm : ∀ b, Im b → Im b ∧ w'.heap[b]? = w.heap[b]? := fun b hI => ⟨hI, hb.block b (h.im b hI).2.1⟩
  refine ⟨fun t x hx => RepA.keep hIm (fun _ _ => rfl) (h.fr t x hx), fun n b hn => BlkOK.keep hIm rfl (fun hnil hl => hb.block _ (h.own n b hn hl hnil).1) (fun _ _ => rfl) (h.bk n b hn),
    fun n b hn hl hnil => ⟨Nat.lt_of_lt_of_le (h.own n b hn hl hnil).1 hb.size, (h.own n b hn hl hnil).2⟩, h.inj, fun c hc => ⟨(h.im c hc).1, Nat.lt_of_lt_of_le (h.im c hc).2.1 hb.size, (h.im c hc).2.2⟩, h.wf, h.defers, h.size,
    h.keep.step hb.os hb.tape hb.output hb.size fun b hbl _ => hb.block b (Nat.lt_of_lt_of_le hbl h.keep.size)⟩
end

section
variable {P : Program} {N : Nat} {E : Env P N} {ops : Array Oper} {dr : Bool} {rest : List Oper} {σ : St} {tr : Trace} {K : St → Prop}
  {d : Nat} {t s yt ty te : TypeId} {pos : String} {af : Array Edge} {gd : Option (Nat × Bool)} {gR : Upds} {x y z : Operand} {ti ei si : TyI}

theorem DV.toAV_mentions (x : DV) (nm : Nat) : x.toAV.mentions nm = false := by
  cases x with
  | d x => rfl
  | agg xs => simp [DV.toAV, AV.mentions, AV.mentions0, C.mentions]

/-- A function value is called. -/
theorem vr_clo {g : Operand} {φ : List DV → DV → Prop} {xs : List Operand} {ats : Array TypeId} {as : List AV} {ds : List DV} {res : DV} (hφ : φ ds res) (hg : GOK N ops σ gd gR) (hf : ev σ g = some (.clo φ)) (hxs : evL σ xs = some as)
    (hds : dvL as = some ds) (hN : Nat.blt d N = true)
    (k : VR E ops dr rest (σ.set d res.toAV) ((gR.map (·.1) ++ (opK g ++ opLK xs), [.s d]) :: tr) K) : VR E ops dr (⟨some d, .call ⟨.value g, xs.toArray, ats⟩, ty, pos, af, gd⟩ :: rest) σ tr K := by
  refine vr_do (R := opR g (.clo φ) ++ opLR xs as) (U := [(.s d, some (.v res.toAV))]) hg (fun σ' a w ρ Im hs hR K Q hK => ?_) (reads_append (opR_ok hf) (opLR_ok hxs)) (by rw [List.map_append, opR_keys, opLR_keys hxs]) rfl k
  obtain ⟨hr, _⟩ := ev_ok hs (ev_of hf fun p hp => hR p (List.mem_append_left _ hp))
  have hargs := evL_ok hs (evL_of hxs fun p hp => hR p (List.mem_append_right _ hp))
  obtain ⟨f, caps, he, hen, hcall⟩ : CloOK P E.w0 E.S0 φ (a.eval g) := hr
  obtain ⟨hflat, hc⟩ := hcall ds res hφ
  have hc := hc w Im hs.keep (fun b hb => (hs.im b hb).2.1) (xs.map a.eval) (dvL_ok hds hargs)
  unfold Oper.wp
  have hrun : (execOp a.eval ⟨some d, .call ⟨.value g, xs.toArray, ats⟩, ty, pos, af, gd⟩).run P w = .ok (.enter f ((xs.map a.eval).toArray ++ caps)) w := by
    simp only [execOp, resolve, Sem.run_bind, he, Deferred.ofValue, Sem.run_pure, Result.andThen_ok, invoke]
    have : (#[] ++ (xs.toArray.map a.eval) ++ caps : Array Value) = (xs.map a.eval).toArray ++ caps := by simp
    rw [this]
    exact hen _ _
  rw [hrun, Oper.upon_enter]
  refine hc.mono fun e w' ⟨v, he, hres, hb⟩ => ?_
  subst he
  exact hK _ _ ⟨ρ, Im, (hs.grown hb).put (by simpa using hN) (RepDV.toAV hres) (fun nm hn => by rw [DV.toAV_mentions] at hn; cases hn)⟩

section
variable {kd k2 : IntKind} {a b : Int}

theorem vr_min (hg : GOK N ops σ gd gR) {ats : Array TypeId} (hx : ev σ x = some (AD (.int kd a))) (hy : ev σ y = some (AD (.int kd b))) (hN : Nat.blt d N = true)
    (k : VR E ops dr rest (σ.set d (AD (.int kd (min a b)))) ((gR.map (·.1) ++ (opK x ++ opK y), [.s d]) :: tr) K) : VR E ops dr (⟨some d, .call ⟨.builtin .min, #[x, y], ats⟩, ty, pos, af, gd⟩ :: rest) σ tr K :=
  vr_bin (v := AD (.int kd (min a b))) hg rfl hx hy hN (fun _ ac w _ Im _ h h' => by
    have h : ac.eval x = .int kd a := h
    have h' : ac.eval y = .int kd b := h'
    refine ⟨.int kd (if b < a then b else a), ?_, ?_⟩
    · unfold execOp
      simp only [resolve, invoke, builtin, Sem.run_bind, Sem.run_pure, Result.andThen_ok, List.map_toArray, List.map_cons, List.map_nil, h, h', run_min_int2]
    · show _ = _
      congr 1
      rw [Int.min_def]
      split <;> split <;> omega) (fun _ h => by cases h) k

theorem vr_max (hg : GOK N ops σ gd gR) {ats : Array TypeId} (hx : ev σ x = some (AD (.int kd a))) (hy : ev σ y = some (AD (.int kd b))) (hN : Nat.blt d N = true)
    (k : VR E ops dr rest (σ.set d (AD (.int kd (max a b)))) ((gR.map (·.1) ++ (opK x ++ opK y), [.s d]) :: tr) K) : VR E ops dr (⟨some d, .call ⟨.builtin .max, #[x, y], ats⟩, ty, pos, af, gd⟩ :: rest) σ tr K :=
  vr_bin (v := AD (.int kd (max a b))) hg rfl hx hy hN (fun _ ac w _ Im _ h h' => by
    have h : ac.eval x = .int kd a := h
    have h' : ac.eval y = .int kd b := h'
    refine ⟨.int kd (if a < b then b else a), ?_, ?_⟩
    · unfold execOp
      simp only [resolve, invoke, builtin, Sem.run_bind, Sem.run_pure, Result.andThen_ok, List.map_toArray, List.map_cons, List.map_nil, h, h', run_max_int2]
    · show _ = _
      congr 1
      rw [Int.max_def]
      split <;> split <;> omega) (fun _ h => by cases h) k

/-- A number as one of another kind. -/
theorem vr_convert [hs : TyOK P s si] [ht : TyOK P t ti] (hg : GOK N ops σ gd gR) (hx : ev σ x = some (AD (.int kd a))) (hsk : ∃ q, si.k = .int q) (htk : ti.k = .int k2) (hN : Nat.blt d N = true)
    (k : VR E ops dr rest (σ.set d (AD (.int k2 (k2.wrap a)))) ((gR.map (·.1) ++ opK x, [.s d]) :: tr) K) : VR E ops dr (⟨some d, .convert s t x, ty, pos, af, gd⟩ :: rest) σ tr K :=
  vr_un (v := AD (.int k2 (k2.wrap a))) hg rfl hx hN (fun _ ac w _ Im _ h => by
    have h : ac.eval x = .int kd a := h
    obtain ⟨q, hq⟩ := hsk
    refine ⟨.int k2 (k2.wrap a), ?_, rfl⟩
    simp [execOp, convert, run_underlying (hs.int hq), run_underlying (ht.int htk), h, Conv.intToInt]) (fun _ h => by cases h) k

/-- The same number as one of a kind that holds it. -/
theorem vr_convert_id [hs : TyOK P s si] [ht : TyOK P t ti] (hg : GOK N ops σ gd gR) (hx : ev σ x = some (AD (.int kd a))) (hsk : ∃ q, si.k = .int q) (htk : ti.k = .int k2) (hw : k2.wrap a = a) (hN : Nat.blt d N = true)
    (k : VR E ops dr rest (σ.set d (AD (.int k2 a))) ((gR.map (·.1) ++ opK x, [.s d]) :: tr) K) : VR E ops dr (⟨some d, .convert s t x, ty, pos, af, gd⟩ :: rest) σ tr K :=
  vr_convert hg hx hsk htk hN (by rw [hw]; exact k)

theorem vr_shr {m : Nat} (hg : GOK N ops σ gd gR) (hx : ev σ x = some (AD (.int kd a))) (hy : ev σ y = some (AD (.int k2 b))) (hb : b = (m : Int)) (hm : m ≤ kd.bits) (hN : Nat.blt d N = true)
    (k : VR E ops dr rest (σ.set d (AD (.int kd (a / (2 ^ m : Int))))) ((gR.map (·.1) ++ (opK x ++ opK y), [.s d]) :: tr) K) : VR E ops dr (⟨some d, .binOp .shr t x y yt, ty, pos, af, gd⟩ :: rest) σ tr K :=
  vr_bin (v := AD (.int kd (a / (2 ^ m : Int)))) hg rfl hx hy hN (fun _ ac w _ Im _ h h' => by
    have h : ac.eval x = .int kd a := h
    have h' : ac.eval y = .int k2 b := h'
    subst hb
    refine ⟨.int kd (a / (2 ^ m : Int)), ?_, rfl⟩
    have h1 : a.fdiv (2 ^ m) = a / (2 ^ m : Int) := Int.fdiv_eq_ediv_of_nonneg _ (by exact Int.le_of_lt (Int.pow_pos (by omega)))
    have h2 : min m kd.bits = m := Nat.min_eq_left hm
    have h3 : ¬ ((m : Int) < 0) := by omega
    simp [execOp, h, h', eqGuard, binOp, Op.shift, h1, h2, h3]) (fun _ h => by cases h) k
end

theorem vr_eqlb {a b : Bool} [ht : TyOK P t ti] (hg : GOK N ops σ gd gR) (hx : ev σ x = some (AB a)) (hy : ev σ y = some (AB b)) (hk : ti.k = .bool) (hN : Nat.blt d N = true)
    (k : VR E ops dr rest (σ.set d (AB (a == b))) ((gR.map (·.1) ++ (opK x ++ opK y), [.s d]) :: tr) K) : VR E ops dr (⟨some d, .binOp .eql t x y yt, ty, pos, af, gd⟩ :: rest) σ tr K :=
  vr_bin (v := AB (a == b)) hg rfl hx hy hN (fun _ ac w _ Im _ h h' => by
    have h : ac.eval x = .bool a := h
    have h' : ac.eval y = .bool b := h'
    refine ⟨.bool (a == b), ?_, rfl⟩
    simp [execOp, h, h', eqGuard, run_eql_bool _ _ _ _ (ht.bool hk)]) (fun _ h => by cases h) k

theorem vr_neqb {a b : Bool} [ht : TyOK P t ti] (hg : GOK N ops σ gd gR) (hx : ev σ x = some (AB a)) (hy : ev σ y = some (AB b)) (hk : ti.k = .bool) (hN : Nat.blt d N = true)
    (k : VR E ops dr rest (σ.set d (AB (a != b))) ((gR.map (·.1) ++ (opK x ++ opK y), [.s d]) :: tr) K) : VR E ops dr (⟨some d, .binOp .neq t x y yt, ty, pos, af, gd⟩ :: rest) σ tr K :=
  vr_bin (v := AB (a != b)) hg rfl hx hy hN (fun _ ac w _ Im _ h h' => by
    have h : ac.eval x = .bool a := h
    have h' : ac.eval y = .bool b := h'
    refine ⟨.bool (a != b), ?_, rfl⟩
    have := run_equal_bool w t a b (ht.bool hk)
    simp [execOp, h, h', eqGuard, binOp, this]
    cases a <;> cases b <;> rfl) (fun _ h => by cases h) k

/-! ## Structs -/

/-- A cell that can be compared. -/
inductive SV where
  | int (k : IntKind) (n : Int)
  | bool (b : Bool)
  | str (s : ByteArray)
  deriving DecidableEq

def SV.v : SV → Value
  | .int k n => .int k n
  | .bool b => .bool b
  | .str s => .string s
def svC : C → Option SV
  | .d (.int k n) => some (.int k n)
  | .d (.bool b) => some (.bool b)
  | .d (.str s) => some (.str s)
  | _ => none
/-- Its kind, and the literal that the model compares. -/
inductive SK where
  | int (k : IntKind)
  | bool
  | str
def SV.sk : SV → SK
  | .int k _ => .int k
  | .bool _ => .bool
  | .str _ => .str
end

end Go.Sx
