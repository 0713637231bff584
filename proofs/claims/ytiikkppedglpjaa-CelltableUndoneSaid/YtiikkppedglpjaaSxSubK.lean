/-
  Sx: slices with a third bound.
-/
import Derived.Test.YtiikkppedglpjaaSxLibB
namespace Go.Sx
open Go Go.RowKit
section
variable {P : Program} {w : World}
theorem run_part3 {t e : TypeId} {sz : Nat} (ht : P.underlying t = some (.slice e)) (hsz : ∀ w, (sizeOf e).run P w = .ok sz w) {ao : Option Addr} {n c l h m : Nat} {lo hi : Option Value} {mx : Value} (hlo : (lo = none ∧ l = 0) ∨ ∃ k, lo = some (.int k (l : Int))) (hhi : ∃ k, hi = some (.int k (h : Int)))
    (hmx : ∃ k, mx = .int k (m : Int)) (h1 : l ≤ h) (h2 : h ≤ m) (h3 : m ≤ c) : (Instr.sliceAt t (.slice ao n c) lo hi (some mx)).run P w = .ok (.slice (if m = l then ao else ao.map (·.add (l * sz))) (h - l) (m - l)) w := by
  obtain ⟨km, rfl⟩ := hmx
  obtain ⟨kh, rfl⟩ := hhi
  rcases hlo with ⟨rfl, rfl⟩ | ⟨kl, rfl⟩
  · simp [Instr.sliceAt, run_underlying ht, Instr.slice, Instr.sliceBounds, hsz, Instr.sliceBound, asIntOf, h2, h3]
  · simp [Instr.sliceAt, run_underlying ht, Instr.slice, Instr.sliceBounds, hsz, Instr.sliceBound, asIntOf, h1, h2, h3]
end
section
variable {P : Program} {N : Nat} {E : Env P N} {ops : Array Oper} {dr : Bool} {rest : List Oper} {σ : St} {tr : Trace} {K : St → Prop} {Q : Exit → St → Prop} {c : Code}
  {d : Nat} {t ty te : TypeId} {pos : String} {af : Array Edge} {gd : Option (Nat × Bool)} {gR : Upds} {x y z : Operand} {lo : Option Operand} {ti ei : TyI} {l h m : Nat} {R1 R2 R3 : Upds}
/-- A part of an open row, with a bound. -/
theorem vr_slice_max {nm n T sz cp : Nat} {xs : List (List C)} {spare : List Value} [ht : TyOK P t ti] [het : TyOK P te ei] (hg : GOK N ops σ gd gR) (hx : ev σ x = some (.c (.row nm n))) (hb : σ (.b nm) = some (.k (.full T sz cp xs spare))) (hd : ti.k = .slice te) (hsz : ei.size = sz) (hlo : Bd σ 0 lo l R1) (hhi : Bd σ n (some y) h R2) (hmx : Bd σ 0 (some z) m R3) (h0 : l ≤ h) (h1 : h ≤ m) (h2 : m ≤ cp) (hN : Nat.blt d N = true)
    (k : VR E ops dr rest (σ.set d (.sub nm sz l (h - l))) ((gR.map (·.1) ++ (opK x ++ (bdK lo ++ (bdK (some y) ++ (bdK (some z) ++ [.b nm])))), [.s d]) :: tr) K) : VR E ops dr (⟨some d, .slice t x lo (some y) (some z), ty, pos, af, gd⟩ :: rest) σ tr K := by
  refine vr_val (x := .sub nm sz l (h - l)) (R := opR x (.c (.row nm n)) ++ (R1 ++ (R2 ++ (R3 ++ [(.b nm, some (.k (.full T sz cp xs spare)))])))) hg rfl hN (fun σ' a w ρ Im hs hR => ?_) (reads_append (opR_ok hx) (reads_append hlo.reads (reads_append hhi.reads (reads_append hmx.reads (by intro p hp; rw [List.mem_singleton] at hp; subst hp; exact hb)))))
    (by rw [List.map_append, List.map_append, List.map_append, List.map_append, opR_keys, hlo.keys, hhi.keys, hmx.keys]; rfl) k
  obtain ⟨hrx, _⟩ := ev_ok hs (ev_of hx fun p hp => hR p (List.mem_append_left _ hp))
  have hb' : σ' (.b nm) = some (.k (.full T sz cp xs spare)) := hR (.b nm, _) (by simp)
  have hbk := hs.bk nm _ hb'
  have hlo' := hlo.ok hs fun p hp => hR p (List.mem_append_right _ (List.mem_append_left _ hp))
  have hhi' := hhi.ok hs fun p hp => hR p (List.mem_append_right _ (List.mem_append_right _ (List.mem_append_left _ hp)))
  have hmx' := hmx.ok hs fun p hp => hR p (List.mem_append_right _ (List.mem_append_right _ (List.mem_append_right _ (List.mem_append_left _ hp))))
  have he : a.eval x = if (ρ nm).isNil then .slice none 0 0 else .slice (some ⟨(ρ nm).blk, 0, none⟩) n (ρ nm).cap := hrx
  obtain ⟨hnil, hcap, _, _, _, _, _, _, hmax⟩ := hbk
  rw [hnil] at he
  simp only [Bool.false_eq_true, if_false] at he
  have hmz : ∃ k, a.eval z = .int k (m : Int) := by
    rcases hmx' with ⟨h, _⟩ | ⟨k, h⟩
    · cases h
    · exact ⟨k, by simpa using h⟩
  have hhz : ∃ k, some (a.eval y) = some (Value.int k (h : Int)) := by
    rcases hhi' with ⟨h, _⟩ | ⟨k, h⟩
    · cases h
    · exact ⟨k, h⟩
  have hrun := run_part3 (P := P) (w := w) (ao := some ⟨(ρ nm).blk, 0, none⟩) (n := n) (c := (ρ nm).cap) (ht.slice hd) het.run_size hlo' hhz hmz h0 h1 (by omega)
  refine ⟨_, by simp only [execOp, he, Option.map_some, Sem.run_bind, hrun, Result.andThen_ok, Sem.run_pure]; rfl, ⟨_, _, rfl, by omega, by omega, fun hpos => ?_⟩, fun nm' hn' => ?_⟩
  · rw [if_neg (by omega), hsz]
    simp [Addr.add_lit]
  · have : nm = nm' := by simpa [AV.mentions, AV.mentions0] using hn'
    subst this
    rw [hb']; simp
end
/-! ## What slices.Delete leaves -/
theorem del_row {α : Type} {enc : α → List D} {l : List α} {i : Nat} {z : List (List C)} {w : List (List C)} (hn : (rowOf enc l).length = l.length) (hi : i < l.length) :
    List.take (l.length - 1) (List.take (l.length - 1) (List.take i (rowOf enc l) ++ List.take (l.length - (i + 1)) (List.drop (i + 1) (rowOf enc l)) ++ List.drop (l.length - 1) (rowOf enc l)) ++ z ++ w) = rowOf enc (l.eraseIdx i) := by
  have h1 : (List.take i (rowOf enc l) ++ List.take (l.length - (i + 1)) (List.drop (i + 1) (rowOf enc l))).length = l.length - 1 := by simp [hn]; omega
  have h2 : List.take (l.length - (i + 1)) (List.drop (i + 1) (rowOf enc l)) = List.drop (i + 1) (rowOf enc l) := List.take_of_length_le (by simp [hn])
  have h3 : List.take (l.length - 1) (List.take i (rowOf enc l) ++ List.take (l.length - (i + 1)) (List.drop (i + 1) (rowOf enc l)) ++ List.drop (l.length - 1) (rowOf enc l)) = List.take i (rowOf enc l) ++ List.take (l.length - (i + 1)) (List.drop (i + 1) (rowOf enc l)) := List.take_left' h1
  rw [h3, List.append_assoc, List.take_left' h1, h2, rowOf_take, rowOf_drop, ← rowOf_append, List.eraseIdx_eq_take_drop_succ]
end Go.Sx
