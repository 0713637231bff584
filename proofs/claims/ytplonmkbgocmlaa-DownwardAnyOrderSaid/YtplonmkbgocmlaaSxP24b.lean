/-
  What functions of the given program hand back, by walks over its code, and plain laws on that. No condition.
-/
import Derived.Test.YtplonmkbgocmlaaSxLibC
import Derived.Test.YtplonmkbgocmlaaSxT24
import Derived.RangeFuncNested
import Derived.RangeFuncBound
import Derived.RangeFuncCalls
import Derived.RangeFuncLeaves
import Derived.RangeFuncBox
import Derived.Maps.AppendAt
import Derived.Shelf.Abstract
import Derived.Shelf.RegionOpen
import Derived.OwnWalkIn
import Derived.TacticsInMore
import Derived.LoopNIn
import Derived.LoopIn
namespace Go.Proofs
open Go Go.Sx Go.RowKit Go.Shelf
attribute [local go_sem] Oper.semAt_some

theorem infoI : (Try.prog.info? 3).map (fun i => (i.zero, i.size, i.bytes)) = some (some (.int .i64 0), 1, 8) := by kernel_rfl
theorem appendSeq_calls {own : TypeId → Prop} (h32 : ¬ own 32) (h3 : ¬ own 3) {g : Nat} {lb : Array Value} (eg : ∀ args w, (callFunc g args).run Try.prog w = .ok (.enter g args) w) {S : List Int → Prop} {N : Nat} (hN : N ≤ 1000000) {w : World}
    (hseq : SeqT own Try.prog g lb (fun x : Int => #[.int .i64 x]) S N w) :
    Calls Try.prog 61 #[.slice none 0 0, .func (.func g) #[] lb] w fun e w' => ∃ v xs, e = .returned v ∧ S xs ∧ w'.ownsRow w.heap.size 3 1 v xs.length (xs.map fun x => .int .i64 x) ∧ (v = .slice none 0 0 ↔ xs = []) ∧ Below w.heap.size w w' := by
  refine (callsIn_wide (n := 3)).1 ?_
  refine callsIn_of_wp_marks Try.func61 rfl trivial ?_ rfl
  simp only [Try.ntmps61, List.size_toArray, List.length_cons, List.length_nil, Nat.reduceAdd, Nat.reduceSub, Array.replicate_succ, Array.replicate_zero, List.push_toArray, List.append_toArray, List.nil_append, List.cons_append]
  gi_wp2
  have hB := Boxed.new w 32 (.slice none 0 0)
  have ht0 : Below w.heap.size w (w.alloc (.cells #[.slice none 0 0] 32)) := (Below.refl _ w).alloc (Nat.le_refl _) _
  refine wpIn_rangeFunc_T (gf := g) (lb := lb) rfl eg hseq ht0 (fun _ => rfl)
    (fun pre W => (∃ v, Boxed W w.heap.size 32 v ∧ W.ownsRow w.heap.size 3 1 v pre.length (pre.map fun x => .int .i64 x) ∧ (v = .slice none 0 0 ↔ pre = [])) ∧ Below w.heap.size w W)
    ?hI ?h0 (fun x => { tmps := #[.slice none 0 0, .func (.func g) #[] lb, .pointer (some ⟨w.heap.size, 0, none⟩), undef, .slice none 0 0, .int .i64 x, .func (.func g) #[] lb, .int .i64 x, undef, undef, undef, undef, undef], defers := [] }) ?assign ?body ?done
  case hI =>
    rintro s W0 W1 ⟨⟨v, hv, hrow, hnil⟩, hbel⟩ ht
    have hne : ∀ b us T fz, W0.heap[b]? = some (Obj.cells us T fz) → ¬ own T → W1.heap[b]? = some (Obj.cells us T fz) := fun b us T fz hb ho => ht.block b _ hb fun h => by
      rcases h.2 with h | ⟨_, _, _, e, h⟩
      · cases h
      · cases e; exact ho h
    refine ⟨⟨v, hne _ _ _ _ hv h32, ⟨hrow.1, ?_⟩, hnil⟩, hbel.trans (ht.below hbel.size fun b o h => by have := h.1; simp at this; omega)⟩
    rcases hrow.2 with h | ⟨g2, cap2, cur2, e0, hgB, hgb, hr⟩
    · exact .inl h
    · exact .inr ⟨g2, cap2, cur2, e0, hgB, hne _ _ _ _ hgb h3, hr⟩
  case h0 => exact ⟨⟨_, hB, World.ownsRow_nil .., by simp⟩, ht0⟩
  case assign =>
    intro l m x W K hK
    gi_wp2
    exact hK
  case body =>
    rintro l m pre x W ⟨⟨v, hv, hrow, hnil⟩, hbel⟩ hlen
    have hu : Try.prog.underlying 32 = some (.slice 3) := Try.sxty32.slice rfl
    obtain ⟨i0, hi, hz0, hz1, hz2⟩ := info_parts infoI
    have hc := hv.cell
    have hf := hv.frozen
    gi_wp2_with (first
      | (gi_at_builtin; refine wpListIn_append_own _ rfl _ _ 32 rfl w.heap.size 3 i0 (.int .i64 0) 1 8 hu hi hz0 hz1 hz2 rfl (by decide) _ _ _ rfl (hrow.alloc _) ⟨W.heap.size, 0, none⟩ 1 1 [.int .i64 x] rfl rfl (cell_one_new _ _ _) (by simp [Value.oneCell']) (by unfold maxLen at *; omega) (by omega) (by have := hbel.size; simp; omega) ?_; intro v' w1 hown' hgrow _
         obtain ⟨g', cap', rfl⟩ := ownsRow_succ hown'
         obtain ⟨hv1, hv2, hr2, hk2, hb2⟩ := hv.appended (by decide) hrow hbel.size (Nat.le_refl _) hown' hgrow
         have hc1 := hv1.cell
         have hf1 := hv1.frozen)
      | gi_in)
    refine ⟨?_, ⟨_, hv2, by simpa using hr2, by simp⟩, hbel.trans hb2⟩
    refine ((Turn.alloc _ W _).trans (Turn.grown hgrow fun r o e ho => ?_)).trans (Turn.grown (grownBy_setCell' w1 w.heap.size _) fun r o e ho => ?_)
    · rcases (hrow.alloc _).2 with ⟨e0, _⟩ | ⟨g2, cap2, cur2, e0, hgB, hgb, _⟩
      · subst e0; cases e
      · subst e0
        have e2 : some g2 = some r := e
        cases e2
        rw [hgb] at ho; cases ho
        exact ⟨hgB, fun ⟨_, _, _, e3, h4⟩ => by cases e3; exact h3 h4⟩
    · cases e
      rw [show w1.heap[w.heap.size]? = _ from hv1] at ho; cases ho
      exact ⟨Nat.le_refl _, fun ⟨_, _, _, e3, h4⟩ => by cases e3; exact h32 h4⟩
  case done =>
    rintro D xs W hD hS ⟨⟨v, hv, hrow, hnil⟩, hbel⟩ hK
    have hc := hv.cell
    gi_wp2
    refine ⟨by simp, .inl ⟨_, _, rfl, run_takeDeferred hK, ?_⟩⟩
    refine ⟨_, results_tmp rfl _ _ _, v, xs, rfl, hS, ownsRow_putObj hrow _ hK rfl, hnil, ?_⟩
    exact hbel.trans (belowK_b (w := w) (Nat.le_refl _) W D _ _ (by simp at hD; omega) hK rfl rfl)
end Go.Proofs


