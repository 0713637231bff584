/-
  Sx, part 11: slices that are read: len, the address of an element.
-/
import Derived.Test.YtcheghbghehifaaSxCallD
namespace Go.Sx
open Go Go.RowKit

section
variable {P : Program} {N : Nat} {E : Env P N} {ops : Array Oper} {dr : Bool} {rest : List Oper} {σ : St} {tr : Trace} {K : St → Prop}
  {d : Nat} {t yt ty te : TypeId} {pos : String} {af : Array Edge} {gd : Option (Nat × Bool)} {gR : Upds} {x y z : Operand} {ti ei : TyI}

theorem run_len {P : Program} {t : TypeId} {te : TypeId} (hu : P.underlying t = some (.slice te)) (ac : Act) (d : Nat) (x : Operand) (ty : TypeId) (pos : String) (af : Array Edge) (gd : Option (Nat × Bool)) (w : World) {a : Option Addr} {n c : Nat} (h : ac.eval x = .slice a n c) :
    (execOp ac.eval ⟨some d, .call ⟨.builtin .len, #[x], #[t]⟩, ty, pos, af, gd⟩).run P w = .ok (.value (.int .i64 n)) w := by
  have : execOp ac.eval ⟨some d, .call ⟨.builtin .len, #[x], #[t]⟩, ty, pos, af, gd⟩ = builtin .len #[t] ty (#[x].map fun | .const _ => true | _ => false) (#[x].map ac.eval) := rfl
  rw [this]
  simp [builtin, Builtin.len_, run_underlying hu, h, goInt]

theorem vr_len_rd {n sz : Nat} {f : Nat → Nat → D} [ht : TyOK P t ti] (hg : GOK N ops σ gd gR) (hx : ev σ x = some (AD (.rd n sz f))) (hd : ti.k = .slice te) (hN : Nat.blt d N = true)
    (k : VR E ops dr rest (σ.set d (AI n)) ((gR.map (·.1) ++ opK x, [.s d]) :: tr) K) : VR E ops dr (⟨some d, .call ⟨.builtin .len, #[x], #[t]⟩, ty, pos, af, gd⟩ :: rest) σ tr K :=
  vr_un (v := AI n) hg rfl hx hN (fun _ a w ρ Im _ h => by
    obtain ⟨_, ad, c, he, _⟩ := h
    have hu := ht.slice hd
    exact ⟨.int .i64 n, run_len hu a d x ty pos af gd w he, rfl⟩) (fun _ h => by cases h) k

theorem vr_len_nils [ht : TyOK P t ti] (hg : GOK N ops σ gd gR) (hx : ev σ x = some (AD .nils)) (hd : ti.k = .slice te) (hN : Nat.blt d N = true)
    (k : VR E ops dr rest (σ.set d (AI 0)) ((gR.map (·.1) ++ opK x, [.s d]) :: tr) K) : VR E ops dr (⟨some d, .call ⟨.builtin .len, #[x], #[t]⟩, ty, pos, af, gd⟩ :: rest) σ tr K :=
  vr_un (v := AI 0) hg rfl hx hN (fun _ a w ρ Im _ h => by
    have he : a.eval x = .slice none 0 0 := h
    have hu := ht.slice hd
    exact ⟨.int .i64 ((0 : Nat) : Int), run_len hu a d x ty pos af gd w he, rfl⟩) (fun _ h => by cases h) k

theorem vr_len_str {s : ByteArray} [ht : TyOK P t ti] (hg : GOK N ops σ gd gR) (hx : ev σ x = some (AD (.str s))) (hd : ti.k = .string) (hN : Nat.blt d N = true)
    (k : VR E ops dr rest (σ.set d (AI s.size)) ((gR.map (·.1) ++ opK x, [.s d]) :: tr) K) : VR E ops dr (⟨some d, .call ⟨.builtin .len, #[x], #[t]⟩, ty, pos, af, gd⟩ :: rest) σ tr K :=
  vr_un (v := AI s.size) hg rfl hx hN (fun _ a w ρ Im _ h => by
    have he : a.eval x = .string s := h
    have hu := ht.string hd
    refine ⟨.int .i64 s.size, ?_, rfl⟩
    have : execOp a.eval ⟨some d, .call ⟨.builtin .len, #[x], #[t]⟩, ty, pos, af, gd⟩ = builtin .len #[t] ty (#[x].map fun | .const _ => true | _ => false) (#[x].map a.eval) := rfl
    rw [this]
    simp [builtin, Builtin.len_, run_underlying hu, he, goInt]) (fun _ h => by cases h) k

/-- The length of an own row: its slice's. -/
theorem vr_len_row {nm n T sz : Nat} {xs : List (List C)} [ht : TyOK P t ti] (hg : GOK N ops σ gd gR) (hx : ev σ x = some (.c (.row nm n))) (hb : σ (.b nm) = some (.k (.row T sz xs))) (hn : n = xs.length) (hd : ti.k = .slice te) (hN : Nat.blt d N = true)
    (k : VR E ops dr rest (σ.set d (AI n)) ((gR.map (·.1) ++ (opK x ++ [.b nm]), [.s d]) :: tr) K) : VR E ops dr (⟨some d, .call ⟨.builtin .len, #[x], #[t]⟩, ty, pos, af, gd⟩ :: rest) σ tr K := by
  refine vr_val (x := AI n) (R := opR x (.c (.row nm n)) ++ [(.b nm, some (.k (.row T sz xs)))]) hg rfl hN (fun σ a w ρ Im hs hR => ?_)
    (reads_append (opR_ok hx) (by intro p hp; rw [List.mem_singleton] at hp; subst hp; exact hb)) (by rw [List.map_append, opR_keys]; rfl) k
  have hb' : σ (.b nm) = some (.k (.row T sz xs)) := hR (.b nm, _) (by simp)
  obtain ⟨hr, _⟩ := ev_ok hs (ev_of hx fun p hp => hR p (List.mem_append_left _ hp))
  have he : a.eval x = if (ρ nm).isNil then .slice none 0 0 else .slice (some ⟨(ρ nm).blk, 0, none⟩) n (ρ nm).cap := hr
  have hbk := hs.bk nm _ hb'
  unfold BlkOK at hbk
  have hu := ht.slice hd
  cases hnil : (ρ nm).isNil with
  | true =>
    simp only [hnil, if_true] at hbk he
    subst hbk
    simp only [List.length_nil] at hn
    subst hn
    exact ⟨.int .i64 ((0 : Nat) : Int), run_len hu a d x ty pos af gd w he, rfl, fun _ h => by cases h⟩
  | false =>
    simp only [hnil, Bool.false_eq_true, if_false] at he
    exact ⟨.int .i64 n, run_len hu a d x ty pos af gd w he, rfl, fun _ h => by cases h⟩

theorem vr_index_rd {n sz m : Nat} {f : Nat → Nat → D} {kd : IntKind} {i : Int} [ht : TyOK P t ti] [het : TyOK P te ei] (hg : GOK N ops σ gd gR) (hx : ev σ x = some (AD (.rd n sz f))) (hy : ev σ y = some (AD (.int kd i)))
    (hd : ti.k = .slice te) (hsz : ei.size = sz) (hi : i = (m : Int)) (hm : m < n) (hN : Nat.blt d N = true)
    (k : VR E ops dr rest (σ.set d (.ep (f m) sz)) ((gR.map (·.1) ++ (opK x ++ opK y), [.s d]) :: tr) K) : VR E ops dr (⟨some d, .indexAddr t x y, ty, pos, af, gd⟩ :: rest) σ tr K :=
  vr_bin (v := .ep (f m) sz) hg rfl hx hy hN (fun _ a w ρ Im _ h h' => by
    obtain ⟨_, ad, c, he, _, hc⟩ := h
    have he' : a.eval y = .int kd i := h'
    obtain ⟨b, o, rfl, hb, hcell⟩ := hc (by omega)
    have hu := ht.slice hd
    refine ⟨.pointer (some ⟨b, o + m * sz, none⟩), ?_, b, o + m * sz, rfl, hb, fun j hj => ?_⟩
    · have h0 : ¬ n ≤ m := by omega
      simp [execOp, he, he', Instr.indexAt, asIntOf, run_underlying hu, hi, h0, het.run_size, hsz, Addr.add_lit]
    · have := hcell m hm j hj
      rwa [← Nat.add_assoc] at this) (fun _ h => by cases h) k

/-- The index as it stands, its bounds by arithmetic. -/
theorem vr_index_rdN {n sz : Nat} {f : Nat → Nat → D} {kd : IntKind} {i : Int} [ht : TyOK P t ti] [het : TyOK P te ei] (hg : GOK N ops σ gd gR) (hx : ev σ x = some (AD (.rd n sz f))) (hy : ev σ y = some (AD (.int kd i)))
    (hd : ti.k = .slice te) (hsz : ei.size = sz) (hm : 0 ≤ i ∧ i < n) (hN : Nat.blt d N = true)
    (k : VR E ops dr rest (σ.set d (.ep (f i.toNat) sz)) ((gR.map (·.1) ++ (opK x ++ opK y), [.s d]) :: tr) K) : VR E ops dr (⟨some d, .indexAddr t x y, ty, pos, af, gd⟩ :: rest) σ tr K :=
  vr_index_rd (m := i.toNat) hg hx hy hd hsz (by omega) (by omega) hN k
/-- The index before. -/
theorem vr_index_rdP {n sz m : Nat} {f : Nat → Nat → D} {kd : IntKind} {i : Int} [ht : TyOK P t ti] [het : TyOK P te ei] (hg : GOK N ops σ gd gR) (hx : ev σ x = some (AD (.rd n sz f))) (hy : ev σ y = some (AD (.int kd i)))
    (hd : ti.k = .slice te) (hsz : ei.size = sz) (hi : i = (m : Int) - 1) (hm : 0 < m ∧ m - 1 < n) (hN : Nat.blt d N = true)
    (k : VR E ops dr rest (σ.set d (.ep (f (m - 1)) sz)) ((gR.map (·.1) ++ (opK x ++ opK y), [.s d]) :: tr) K) : VR E ops dr (⟨some d, .indexAddr t x y, ty, pos, af, gd⟩ :: rest) σ tr K :=
  vr_index_rd (m := m - 1) hg hx hy hd hsz (by omega) (by omega) hN k
end
end Go.Sx
