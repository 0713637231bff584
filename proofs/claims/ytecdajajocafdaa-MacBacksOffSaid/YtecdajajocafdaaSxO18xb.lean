/-
  What functions of the given program hand back, by walks over its code, and plain laws on that. No condition.
-/
import Derived.Test.YtecdajajocafdaaSxO18w
namespace Go.Proofs
open Go Go.Sx Go.Proofs.T Go.Proofs.Q
set_option linter.unusedVariables false
set_option linter.unusedSimpArgs false

/-! Plain facts of the law BacksOff: a station with one shared cell and one packet. -/
def bP (to : Int) : Pk := ⟨1, to, 0, 0, 4096, ⟨#[120]⟩⟩
def bC : TC := ⟨0, 0, 3, false, -1, -1⟩
def bT : Tb := ⟨1, 1, [bC]⟩
def b0 (seed : Int) : Sta := ⟨bT, ⟨4, []⟩, [], [], 0, 0, -1, 0, 0, 0, seed⟩
def bN (to n back wait seed : Int) : Sta := ⟨bT, ⟨4, [bP to]⟩, [], [], 0, 0, if n = 0 then -1 else 1, n, back, wait, seed⟩
def bE (seed : Int) : Sta := ⟨bT, ⟨4, []⟩, [], [], 0, 1, -1, 0, 0, 0, seed⟩
def OkTo (to : Int) : Prop := to = -1 ∨ to = 0 ∨ to = 2
def mostB (to : Int) : Int := if to = -1 then 1 else 4
inductive Good (to : Int) : Sta → Int → Prop
  | n (n back wait seed : Int) (h1 : 0 ≤ n ∧ n ≤ 3) (h2 : 0 ≤ back ∧ back ≤ 5) (h3 : 0 ≤ wait ∧ wait ≤ 2 ^ back.toNat - 1) (h4 : 0 ≤ seed ∧ seed ≤ 2147483647) (h5 : to = -1 → n = 0 ∧ back = 0 ∧ wait = 0) : Good to (bN to n back wait seed) n
  | e (seed : Int) (h4 : 0 ≤ seed ∧ seed ≤ 2147483647) : Good to (bE seed) (mostB to)
theorem b_new {seed : Int} (h : 0 ≤ seed ∧ seed ≤ 2147483647) : newS bT 4 seed = (b0 seed, 0) := by
  have h1 : checkT bT = 0 := by kernel_rfl
  unfold newS
  rw [if_neg (by omega), if_neg (by omega)]
  rfl
theorem b_at (k : Nat) : atM bT k = (bC, true) := by
  have h1 : checkT bT = 0 := by kernel_rfl
  have h2 : (k : Int) % 1 = 0 := by omega
  unfold atM
  rw [if_neg (by omega)]
  have : fstO bT.cells (fun c => decide (c.slot = (k : Int) % bT.len)) = some 0 := by
    simp [fstO, bT, bC, h2]
  rw [this]
  rfl
theorem b_okN {to n back wait seed : Int} (ht : OkTo to) (h1 : 0 ≤ n ∧ n ≤ 3) (h2 : 0 ≤ back ∧ back ≤ 5) (h3 : 0 ≤ wait ∧ wait ≤ 2 ^ back.toNat - 1) (h4 : 0 ≤ seed ∧ seed ≤ 2147483647) : checkS (bN to n back wait seed) = 0 := by
  refine checkS_good (by kernel_rfl) ?_ (by kernel_rfl) (by kernel_rfl) ?_ ?_
  · rcases ht with rfl | rfl | rfl <;> kernel_rfl
  · unfold tryingB bN
    refine decide_eq_true ?_
    by_cases hn : n = 0
    · exact .inl ⟨if_pos hn, hn⟩
    · refine .inr ⟨?_, ?_, ?_, ?_⟩
      · show (0 : Int) ≤ if n = 0 then -1 else 1
        rw [if_neg hn]; omega
      · show hasB [bP to] (if n = 0 then -1 else 1) = true
        rw [if_neg hn]; rfl
      · show 1 ≤ n
        omega
      · show n < 4
        omega
  · unfold restB bN
    exact decide_eq_true ⟨by show (0 : Int) ≤ 0; omega, by show (0 : Int) ≤ 255; omega, by show (0 : Int) ≤ 0; omega, by show (0 : Int) ≤ 255; omega, h2.1, h2.2, h3.1, h3.2, h4.1, h4.2⟩
theorem b_okE {seed : Int} (h4 : 0 ≤ seed ∧ seed ≤ 2147483647) : checkS (bE seed) = 0 := by
  refine checkS_good (by kernel_rfl) (by kernel_rfl) (by kernel_rfl) (by kernel_rfl) (by kernel_rfl) ?_
  unfold restB bE
  exact decide_eq_true ⟨by show (0 : Int) ≤ 0; omega, by show (0 : Int) ≤ 255; omega, by show (0 : Int) ≤ 1; omega, by show (1 : Int) ≤ 255; omega, by show (0 : Int) ≤ 0; omega, by show (0 : Int) ≤ 5; omega, by show (0 : Int) ≤ 0; omega, by show (0 : Int) ≤ 2 ^ 0 - 1; omega, h4.1, h4.2⟩
theorem b_ok0 {seed : Int} (h4 : 0 ≤ seed ∧ seed ≤ 2147483647) : checkS (b0 seed) = 0 := by
  refine checkS_good (by kernel_rfl) (by kernel_rfl) (by kernel_rfl) (by kernel_rfl) (by kernel_rfl) ?_
  unfold restB b0
  exact decide_eq_true ⟨by show (0 : Int) ≤ 0; omega, by show (0 : Int) ≤ 255; omega, by show (0 : Int) ≤ 0; omega, by show (0 : Int) ≤ 255; omega, by show (0 : Int) ≤ 0; omega, by show (0 : Int) ≤ 5; omega, by show (0 : Int) ≤ 0; omega, by show (0 : Int) ≤ 2 ^ 0 - 1; omega, h4.1, h4.2⟩
theorem b_put {to seed : Int} (ht : OkTo to) (h4 : 0 ≤ seed ∧ seed ≤ 2147483647) : putS (b0 seed) (bP to) = (bN to 0 0 0 seed, [], 0) := by
  have hq : putQ ⟨4, []⟩ (bP to) = (⟨4, [bP to]⟩, [], 0) := by rcases ht with rfl | rfl | rfl <;> kernel_rfl
  have hn : to ≠ 1 := by unfold OkTo at ht; omega
  unfold putS
  rw [if_neg (by have := b_ok0 h4; omega), show (b0 seed).qu = ⟨4, []⟩ from rfl, hq, if_neg (by simp), if_neg (show ¬ (bP to).to = (b0 seed).tb.node from hn), if_neg (show ¬ 100 < (bP to).data.size by show ¬ 100 < 1; omega)]
  rfl
theorem b_cand {to n back wait seed : Int} (ht : OkTo to) : candI (bN to n back wait seed) = some 0 := by
  rcases ht with rfl | rfl | rfl <;> rfl
theorem b_actW {to n back wait seed : Int} (ht : OkTo to) (hw : wait ≠ 0) (k : Nat) : actM (bN to n back wait seed) k bC = lisA := by
  unfold actM rawA
  rw [if_neg (by decide), if_neg (by decide), if_pos (show bC.kind = 3 from rfl)]
  unfold shrA
  rw [if_neg (fun h => hw h.2)]
  rfl
theorem b_actS {to n back seed : Int} (ht : OkTo to) (k : Nat) : actM (bN to n back 0 seed) k bC = msgA (bN to n back 0 seed) (bP to) := by
  unfold actM rawA
  rw [if_neg (by decide), if_neg (by decide), if_pos (show bC.kind = 3 from rfl)]
  unfold shrA
  rw [if_pos ⟨by rw [b_cand ht]; rfl, rfl⟩, b_cand ht]
  rfl
theorem b_actE (seed : Int) (k : Nat) : actM (bE seed) k bC = lisA := rfl
def bR : Rs := ⟨false, false, 0, 0, 0, 0, 0, 0, 0, 0, 0, 0, 0, ⟨#[]⟩, 0⟩
theorem b_doneE (seed : Int) (k : Nat) : doneM (bE seed) k bC bR = (bE seed, zUp) := rfl
theorem b_doneW {to n back wait seed : Int} (ht : OkTo to) (hw : wait ≠ 0) (k : Nat) : doneM (bN to n back wait seed) k bC bR = (bN to n back (wait - 1) seed, zUp) := by
  have hm : waitM (bN to n back wait seed) bC = bN to n back (wait - 1) seed := by
    unfold waitM
    rw [if_pos ⟨by rw [b_cand ht]; rfl, rfl⟩]
    rfl
  unfold doneM
  rw [b_actW ht hw, if_neg (by rintro ⟨h, _⟩; cases h), if_neg (by intro h; cases h), if_pos (show lisA.kind = 2 from rfl), if_neg (show ¬ bR.heard = true by decide), hm]
theorem b_take {to : Int} (ht : OkTo to) : takeQ ⟨4, [bP to]⟩ 1 = (⟨4, []⟩, bP to, 0) := by rcases ht with rfl | rfl | rfl <;> kernel_rfl
theorem b_leave {to n back wait seed : Int} (ht : OkTo to) : leaveM (bN to n back wait seed) 1 = ⟨bT, ⟨4, []⟩, [], [], 0, 1, -1, 0, back, wait, seed⟩ := by
  unfold leaveM
  rw [show (bN to n back wait seed).qu = ⟨4, [bP to]⟩ from rfl, b_take ht]
  rfl
theorem b_sent {to n back wait seed : Int} (ht : OkTo to) : sentP (bN to n back wait seed) bC = bP to := by
  unfold sentP
  rw [if_pos (show bC.kind = 3 from rfl), b_cand ht]
  rfl
theorem b_doneS {to n back seed : Int} (ht : OkTo to) (h1 : 0 ≤ n ∧ n ≤ 3) (k : Nat) : doneM (bN to n back 0 seed) k bC bR =
    (if to = -1 then ⟨bT, ⟨4, []⟩, [], [], 0, 1, -1, 0, back, 0, seed⟩ else if n = 3 then bE seed else bN to (n + 1) (min (back + 1) 5) (nextSeed seed / 65536 % 2 ^ (min (back + 1) 5).toNat) (nextSeed seed), zUp) := by
  have ht3 : triedM (bN to n back 0 seed) bC false = if to = -1 then ⟨bT, ⟨4, []⟩, [], [], 0, 1, -1, 0, back, 0, seed⟩ else if n = 3 then bE seed else bN to (n + 1) (min (back + 1) 5) (nextSeed seed / 65536 % 2 ^ (min (back + 1) 5).toNat) (nextSeed seed) := by
    have hn : triesM (bN to n back 0 seed) bC = n + 1 := by
      unfold triesM
      rw [b_sent ht]
      show (if (if n = 0 then (-1 : Int) else 1) = 1 then n + 1 else 1) = n + 1
      by_cases h : n = 0
      · rw [if_pos h, if_neg (by omega)]; omega
      · rw [if_neg h, if_pos rfl]
    unfold triedM
    rw [b_sent ht, hn]
    show (if to = -1 then leaveM _ 1 else _) = _
    rw [b_leave ht]
    by_cases h : to = -1
    · rw [if_pos h, if_pos h]
    · rw [if_neg h, if_neg h]
      by_cases h3 : n = 3
      · rw [if_pos h3, if_pos (.inr (by omega))]
        unfold goneM
        rw [if_pos (show bC.kind = 3 from rfl), b_sent ht, show (bP to).id = 1 from rfl, b_leave ht]
        rfl
      · rw [if_neg h3, if_neg (by rintro (h5 | h5); · cases h5
                                  · omega)]
        unfold againM
        rw [if_pos (show bC.kind = 3 from rfl)]
        unfold backM
        rw [b_sent ht, hn]
        unfold bN
        rw [if_neg (show ¬ n + 1 = 0 by omega)]
        rfl
  unfold doneM
  rw [b_actS ht, if_neg (by rintro ⟨_, h⟩; cases h), if_pos (show (msgA (bN to n back 0 seed) (bP to)).kind = 1 from rfl), show bR.acked = false from rfl, ht3]
/-- What one slot does. -/
theorem b_step {to sent : Int} {s : Sta} (ht : OkTo to) (h : Good to s sent) (k : Nat) : ∃ a s', checkS s = 0 ∧ s.tb = bT ∧ actM s k bC = a ∧ doneM s k bC bR = (s', zUp) ∧ (0 ≤ s'.wait ∧ s'.wait ≤ 31) ∧
    (((s.qu.packets.length = 0 ∨ 0 < s.wait) ∧ a = lisA ∧ (0 < s.wait → s'.wait = s.wait - 1) ∧ Good to s' sent) ∨ (s.qu.packets.length ≠ 0 ∧ ¬ 0 < s.wait ∧ a.kind = 1 ∧ a.fkind = 4 ∧ a.target = to ∧ Good to s' (sent + 1))) := by
  cases h with
  | e seed h4 => exact ⟨_, _, b_okE h4, rfl, b_actE seed k, b_doneE seed k, ⟨by show (0 : Int) ≤ 0; omega, by show (0 : Int) ≤ 31; omega⟩, .inl ⟨.inl rfl, rfl, fun h => absurd h (by show ¬ (0 : Int) < 0; omega), .e seed h4⟩⟩
  | n _ back wait seed h1 h2 h3 h4 h5 =>
    have hp := (pow5 back).resolve_left (by omega) |>.resolve_left (by omega)
    by_cases hw : wait = 0
    · subst hw
      refine ⟨_, _, b_okN ht h1 h2 h3 h4, rfl, b_actS ht k, b_doneS ht h1 k, ?_, .inr ⟨by show (1 : Nat) ≠ 0; omega, by show ¬ (0 : Int) < 0; omega, rfl, rfl, rfl, ?_⟩⟩
      all_goals
        by_cases h : to = -1
        · obtain ⟨rfl, rfl, _⟩ := h5 h
          rw [if_pos h]
          first
            | exact ⟨by show (0 : Int) ≤ 0; omega, by show (0 : Int) ≤ 31; omega⟩
            | (have := Good.e (to := to) seed h4
               unfold mostB at this
               rw [if_pos h] at this
               exact this)
        · rw [if_neg h]
          by_cases h3' : sent = 3
          · rw [if_pos h3']
            first
              | exact ⟨by show (0 : Int) ≤ 0; omega, by show (0 : Int) ≤ 31; omega⟩
              | (have := Good.e (to := to) seed h4
                 unfold mostB at this
                 rw [if_neg h] at this
                 rw [show sent + 1 = 4 by omega]
                 exact this)
          · rw [if_neg h3']
            have hb : 0 ≤ min (back + 1) 5 ∧ min (back + 1) 5 ≤ 5 := by omega
            generalize min (back + 1) 5 = b at hb ⊢
            have hp2 := (pow5 b).resolve_left (by omega) |>.resolve_left (by omega)
            generalize hP : (2 : Int) ^ b.toNat = P at hp2 ⊢
            have hm0 := Int.emod_nonneg (nextSeed seed / 65536) (show P ≠ 0 by omega)
            have hm1 := Int.emod_lt_of_pos (nextSeed seed / 65536) (show 0 < P by omega)
            first
              | exact ⟨by show (0 : Int) ≤ nextSeed seed / 65536 % P; omega, by show nextSeed seed / 65536 % P ≤ 31; omega⟩
              | (refine .n (sent + 1) b _ _ (by omega) hb (by rw [hP]; omega) ?_ (fun h6 => absurd h6 h)
                 unfold nextSeed
                 omega)
    · refine ⟨_, _, b_okN ht h1 h2 h3 h4, rfl, b_actW ht hw k, b_doneW ht hw k, ⟨by show 0 ≤ wait - 1; omega, by show wait - 1 ≤ 31; omega⟩, .inl ⟨.inr (by show 0 < wait; omega), rfl, fun _ => rfl, ?_⟩⟩
      exact .n sent back (wait - 1) seed h1 h2 (by omega) h4 (fun h => absurd (h5 h).2.2 hw)
theorem b_end {to sent : Int} {s : Sta} (ht : OkTo to) (h : Good to s sent) : sent ≤ mostB to ∧ (sent < mostB to ∨ s.qu.packets.length = 0) ∧ 0 ≤ sent := by
  cases h with
  | e seed h4 => exact ⟨Int.le_refl _, .inr rfl, by unfold mostB; split <;> omega⟩
  | n _ back wait seed h1 h2 h3 h4 h5 =>
    unfold mostB
    by_cases h : to = -1
    · obtain ⟨rfl, rfl, _⟩ := h5 h
      rw [if_pos h]; omega
    · rw [if_neg h]; omega
end Go.Proofs


