/-
  What functions of the given program hand back, by walks over its code, and plain laws on that. No condition.
-/
import Derived.Test.YtidijkcalgmadaaGreatSxVya
namespace Go.Proofs
open Go Go.Sx Go.Proofs.T Go.Proofs.Q
set_option linter.unusedVariables false
set_option linter.unusedSimpArgs false

/-! The service of a node with agreed cells to the node 2. -/
theorem atM_w {len : Int} {ss : List Int} (h : WOk len ss) {slot : Int} (hs : 0 ≤ slot) : atM (wT len ss) slot = if slot % len ∈ ss then (wc (slot % len), true) else (noC, false) := by
  have hc := wT_check h
  unfold atM
  rw [if_neg (by omega)]
  show (match fstO (ss.map wc) (fun c => decide (c.slot = slot % len)) with
    | some i => ((ss.map wc).getD i default, true)
    | none => (noC, false)) = _
  cases hf : fstO (ss.map wc) (fun c => decide (c.slot = slot % len)) with
  | none =>
    rw [if_neg]
    intro hm
    have := fstO_notmem hf (wc (slot % len)) (List.mem_map_of_mem hm)
    simp [wc] at this
  | some i =>
    obtain ⟨hi, he, _⟩ := fstO_some hf
    rw [List.length_map] at hi
    rw [wc_get hi] at he
    have he : ss.getD i default = slot % len := of_decide_eq_true he
    rw [if_pos (by rw [← he]; exact getD_mem hi)]
    dsimp only
    rw [wc_get hi, he]
theorem win {len : Int} {ss : List Int} (h : WOk len ss) (hne : 0 < ss.length) (x : Int) : ∃ d : Nat, (d : Int) < gapT (ss.map wc) len ss.length ∧ (x + d) % len ∈ ss := by
  have h1 := h.l1
  have hr0 := Int.emod_nonneg x (show len ≠ 0 by omega)
  have hr1 := Int.emod_lt_of_pos x (show 0 < len by omega)
  have hadd : ∀ d : Nat, (x + (d : Int)) % len = (x % len + d) % len := fun d => (Int.emod_add_emod x len d).symm
  have hge : ∀ i, i < ss.length → nxT (ss.map wc) len i - ss.getD i default ≤ gapT (ss.map wc) len ss.length := fun i hi => by
    have := gapT_ge (l := ss.map wc) (len := len) hi
    rwa [wc_get hi] at this
  have hl0 := h.rng _ (getD_mem hne)
  have hln := h.rng _ (getD_mem (show ss.length - 1 < ss.length by omega))
  have hlast : ss.getD 0 default + len - ss.getD (ss.length - 1) default ≤ gapT (ss.map wc) len ss.length := by
    have := hge (ss.length - 1) (by omega)
    unfold nxT at this
    rw [List.length_map, if_pos (by omega), wc_get hne] at this
    exact this
  generalize hG : gapT (ss.map wc) len ss.length = G at *
  generalize hrr : x % len = r at *
  cases hf : fstO ss fun a => decide (r ≤ a) with
  | none =>
    have hall := fstO_notmem hf
    have hlt : ss.getD (ss.length - 1) default < r := by
      have := of_decide_eq_false (hall _ (getD_mem (show ss.length - 1 < ss.length by omega))); omega
    refine ⟨(ss.getD 0 default + len - r).toNat, by omega, ?_⟩
    rw [hadd, show r + (((ss.getD 0 default + len - r).toNat : Nat) : Int) = ss.getD 0 default + len by omega, Int.add_emod_right, Int.emod_eq_of_lt hl0.1 hl0.2]
    exact getD_mem hne
  | some i =>
    obtain ⟨hi, he, hb⟩ := fstO_some hf
    have he := of_decide_eq_true he
    have hli := h.rng _ (getD_mem hi)
    refine ⟨(ss.getD i default - r).toNat, ?_, ?_⟩
    · rcases Nat.eq_zero_or_pos i with h0 | h0
      · subst h0; omega
      · have hp := of_decide_eq_false (hb (i - 1) (by omega))
        have hg := hge (i - 1) (by omega)
        unfold nxT at hg
        rw [List.length_map, if_neg (by omega), show i - 1 + 1 = i by omega, wc_get hi] at hg
        have hg : ss.getD i default - ss.getD (i - 1) default ≤ G := hg
        omega
    · rw [hadd, show r + (((ss.getD i default - r).toNat : Nat) : Int) = ss.getD i default by omega, Int.emod_eq_of_lt hli.1 hli.2]
      exact getD_mem hi

/-! A slot of the station. -/
def rAck : Rs := ⟨true, false, 0, 0, 0, 0, 0, 0, 0, 0, 0, 0, 0, ⟨#[]⟩, 0⟩
structure Inv (t : Tb) (s : Sta) : Prop where
  ck : checkS s = 0
  tb : s.tb = t
  hd : s.held = []
def stepSt (s : Sta) (slot : Int) : Sta := (doneM (expireS s slot).1 slot (atM (expireS s slot).1.tb slot).1 rAck).1
theorem serve_ok {len : Int} {ss : List Int} {s : Sta} (hi : Inv (wT len ss) s) (slot : Int) (x : Int) : Inv (wT len ss) (doneM s slot (wc x) rAck).1 ∧ (doneM s slot (wc x) rAck).1.qu.packets = match idxTo s.qu.packets 2 with
    | none => s.qu.packets
    | some i => s.qu.packets.filter fun y => decide (y.id ≠ (s.qu.packets.getD i default).id) := by
  obtain ⟨h1, h2, h3, h4, h5, h6, h7⟩ := checkS_of hi.ck
  have ea : actM s slot (wc x) = offA (agrA s (wc x)) 0 := by
    unfold actM rawA
    rw [if_neg (by show ¬ (2 : Int) = 1; decide), if_pos (show (wc x).kind = 2 from rfl)]
    rfl
  have ea2 : agrA s (wc x) = if (firstQ s.qu 2).2 = true then msgA s (firstQ s.qu 2).1 else zAc := by
    unfold agrA
    rw [if_neg (by show ¬ true = false; decide)]
    rfl
  cases hf : idxTo s.qu.packets 2 with
  | none =>
    have e : actM s slot (wc x) = zAc := by rw [ea, ea2, firstQ_none h2 hf]; rfl
    have : doneM s slot (wc x) rAck = (s, zUp) := by
      unfold doneM
      rw [e, if_neg (by rintro ⟨h, _⟩; cases h), if_neg (by intro h; cases h), if_neg (by intro h; cases h)]
    rw [this]
    exact ⟨hi, rfl⟩
  | some i =>
    obtain ⟨hil, hto, _⟩ := fstO_some hf
    have hto : (s.qu.packets.getD i default).to = 2 := of_decide_eq_true hto
    have e : actM s slot (wc x) = msgA s (s.qu.packets.getD i default) := by rw [ea, ea2, firstQ_some h2 hf]; rfl
    have es : sentP s (wc x) = s.qu.packets.getD i default := by
      unfold sentP
      rw [if_neg (by show ¬ (2 : Int) = 3; decide)]
      show (firstQ s.qu 2).1 = _
      rw [firstQ_some h2 hf]
    have : doneM s slot (wc x) rAck = (leaveM s (s.qu.packets.getD i default).id, zUp) := by
      unfold doneM
      rw [e, if_neg (by rintro ⟨_, h⟩; exact absurd (show (4 : Int) = 1 from h) (by decide)), if_pos (show (msgA s (s.qu.packets.getD i default)).kind = 1 from rfl)]
      unfold triedM
      rw [es, if_neg (by rw [hto]; decide), if_pos (.inl rfl)]
      unfold goneM
      rw [if_neg (by show ¬ (2 : Int) = 3; decide), es]
    rw [this]
    have hl := leave_ok hi.ck (getD_mem hil)
    exact ⟨⟨hl.1, hi.tb, hi.hd⟩, hl.2⟩
theorem step_ok {len : Int} {ss : List Int} (h : WOk len ss) {s : Sta} (hi : Inv (wT len ss) s) {slot : Int} (hs : 0 ≤ slot ∧ slot ≤ 109951162) :
    (expireS s slot).2.2 = 0 ∧ doneS (expireS s slot).1 slot rAck = (stepSt s slot, (doneM (expireS s slot).1 slot (atM (expireS s slot).1.tb slot).1 rAck).2, 0) ∧ Inv (wT len ss) (stepSt s slot) ∧ (stepSt s slot).qu.packets = stepL s.qu.packets slot (decide (slot % len ∈ ss)) := by
  obtain ⟨n, out, e, h1, h2, h3, h4⟩ := expire_ok hi.ck hi.hd hs
  have hin : Inv (wT len ss) n := ⟨h1, h2.trans hi.tb, h3⟩
  unfold stepSt
  rw [e]
  dsimp only
  refine ⟨rfl, by rw [doneS, if_neg (by omega), if_neg (by omega)], ?_⟩
  rw [hin.tb, atM_w h hs.1]
  have hq : n.qu.packets = freshL s.qu.packets slot := by rw [h4]
  unfold stepL
  by_cases hm : slot % len ∈ ss
  · rw [if_pos hm, if_pos (decide_eq_true hm), ← hq]
    exact serve_ok hin slot _
  · rw [if_neg hm, if_neg (by simpa using hm), ← hq]
    have : doneM n slot noC rAck = (n, zUp) := by
      unfold doneM
      rw [if_neg (by rintro ⟨h, _⟩; cases h), if_neg (by intro h; cases h), if_neg (by intro h; cases h)]
    rw [this]
    exact ⟨hin, rfl⟩
def runSt (s : Sta) (first : Int) : Nat → Sta
  | 0 => s
  | k + 1 => stepSt (runSt s first k) (first + k)
theorem run_ok {len : Int} {ss : List Int} (h : WOk len ss) {s : Sta} (hi : Inv (wT len ss) s) {first : Int} (hf : 0 ≤ first ∧ first ≤ 255) : ∀ k, k ≤ 200 → Inv (wT len ss) (runSt s first k) ∧ (runSt s first k).qu.packets = runL s.qu.packets first (fun k => decide ((first + (k : Int)) % len ∈ ss)) k
  | 0, _ => ⟨hi, rfl⟩
  | k + 1, hk => by
    obtain ⟨h1, h2⟩ := run_ok h hi hf k (by omega)
    obtain ⟨_, _, h3, h4⟩ := step_ok h h1 (slot := first + k) (by omega)
    refine ⟨h3, ?_⟩
    show (stepSt (runSt s first k) (first + k)).qu.packets = _
    rw [h4, h2]
    rfl
def tilV (s : Sta) (gap first : Int) (i : Nat) : Int := if (s.qu.packets.getD i default).to = 2 ∧ 0 < gap then first + gap * ((aheadN s.qu.packets i : Int) + 1) else 1099511627776
/-- A packet that is there behind a slot. -/
theorem residence {len : Int} {ss : List Int} (h : WOk len ss) {s : Sta} (hi : Inv (wT len ss) s) {first : Int} (hf : 0 ≤ first ∧ first ≤ 255) {k i : Nat} (hk : k < 200) (hil : i < s.qu.packets.length)
    (ha : ((runSt s first (k + 1)).qu.packets.any fun x => decide (x.id = (s.qu.packets.getD i default).id)) = true) :
    first + k + 1 < tilV s (gapT (ss.map wc) len ss.length) first i ∧ first + k < (s.qu.packets.getD i default).born + (s.qu.packets.getD i default).life := by
  have h2 := (checkS_of hi.ck).2.1
  obtain ⟨_, hr⟩ := run_ok h hi hf (k + 1) (by omega)
  rw [hr] at ha
  obtain ⟨y, hy, he⟩ := List.any_eq_true.1 ha
  have he := of_decide_eq_true he
  have huq : ∀ z ∈ s.qu.packets, z.id = (s.qu.packets.getD i default).id → z = s.qu.packets.getD i default := fun z hz e => by
    obtain ⟨j, hj, rfl⟩ := mem_getD hz
    rcases Nat.lt_trichotomy i j with h1 | h1 | h1
    · exact absurd e.symm (checkQ_ne h2 hil hj (by omega))
    · rw [h1]
    · exact absurd e (checkQ_ne h2 hj hil (by omega))
  have hyx := huq y ((runL_sub _ _ _ _).subset hy) he
  subst hyx
  have hfo := (checkQ_at h2 hil).1
  have hborn : 0 ≤ (s.qu.packets.getD i default).born ∧ (s.qu.packets.getD i default).born ≤ 1099511627776 := by
    unfold formP at hfo
    split at hfo
    · cases hfo
    · rename_i hn
      simp only [inI, not_or, decide_eq_false_iff_not, Decidable.not_not] at hn
      exact hn.2.2.2.1
  refine ⟨?_, run_life hborn hf hk hy⟩
  unfold tilV
  split
  · rename_i hc
    have hg := gapT_rng h ss.length (Nat.le_refl _)
    have hne : 0 < ss.length := by
      rcases Nat.eq_zero_or_pos ss.length with h0 | h0
      · rw [h0] at hc; exact absurd hc.2 (by show ¬ (0 : Int) < 0; decide)
      · exact h0
    have hw : ∀ m : Nat, ∃ j : Nat, j < (gapT (ss.map wc) len ss.length).toNat ∧ decide ((first + ((m + j : Nat) : Int)) % len ∈ ss) = true := fun m => by
      obtain ⟨d, hd, hm⟩ := win h hne (first + m)
      refine ⟨d, by omega, decide_eq_true ?_⟩
      rwa [show first + ((m + d : Nat) : Int) = first + m + d by omega]
    have hb := run_bound hc.1 huq (g := (gapT (ss.map wc) len ss.length).toNat) hw hy
    rw [ahA_aheadN hil hc.1 fun j hj => checkQ_ne h2 (by omega) hil (by omega)] at hb
    generalize gapT (ss.map wc) len ss.length = G at *
    obtain ⟨g, rfl⟩ : ∃ g : Nat, G = g := ⟨G.toNat, by omega⟩
    rw [Int.toNat_natCast] at hb
    have : ((g * (aheadN s.qu.packets i + 1) : Nat) : Int) = (g : Int) * ((aheadN s.qu.packets i : Int) + 1) := by simp
    rw [← this]
    omega
  · omega
end Go.Proofs


