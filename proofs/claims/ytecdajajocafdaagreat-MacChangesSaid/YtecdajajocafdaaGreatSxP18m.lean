/-
  What functions of the given program hand back, by walks over its code, and plain laws on that. No condition.
-/
import Derived.Test.YtecdajajocafdaaGreatSxP18b
-- SXS
namespace Go.Proofs
open Go Go.Sx Go.Proofs.T Go.Proofs.Q
set_option maxRecDepth 4000
set_option linter.unusedSimpArgs false
set_option linter.unusedVariables false
attribute [local irreducible] VR VC thenQ blockQ retL
/-! What is known of a right station. -/
theorem checkS_of {s : Sta} (h : checkS s = 0) : checkT s.tb = 0 ∧ checkQ s.qu = 0 ∧ (∀ p ∈ s.qu.packets, badP s.tb.node p = false) ∧ heldB s.held = true ∧ seenB s.seen = true ∧ tryingB s = true ∧ restB s = true := by
  unfold checkS at h
  split at h
  · rename_i hk
    simp only [okS, packetsB, Bool.and_eq_true, decide_eq_true_eq] at hk
    obtain ⟨⟨⟨⟨⟨h1, h2, h3⟩, h4⟩, h5⟩, h6⟩, h7⟩ := hk
    refine ⟨h1, h2, fun p hp => ?_, h4, h5, h6, h7⟩
    simp only [Bool.not_eq_true'] at h3
    have := (List.any_eq_false.1 h3) p hp
    simpa using this
  · cases h
theorem anyR_false {n : Nat} {p : Nat → Bool} (h : (List.range n).any p = false) {i : Nat} (hi : i < n) : p i = false := by
  have := (List.any_eq_false.1 h) i (List.mem_range.2 hi)
  simpa using this
theorem heldB_of {l : List Hd} (h : heldB l = true) : l.length ≤ 16 ∧ ∀ i, i < l.length → rangesB (l.getD i default) = true ∧ (l.getD i default).data.size ≤ 100 ∧ (0 < i → (l.getD (i - 1) default).flow < (l.getD i default).flow) := by
  simp only [heldB, Bool.and_eq_true, Bool.not_eq_true', decide_eq_true_eq] at h
  refine ⟨by omega, fun i hi => ?_⟩
  have := of_decide_eq_false (anyR_false h.1 hi)
  refine ⟨?_, ?_, fun h0 => ?_⟩
  · cases hr : rangesB (l.getD i default) with
    | true => rfl
    | false => exact absurd (.inl hr) this
  · exact Nat.le_of_not_lt fun h2 => this (.inr (.inl h2))
  · exact Int.lt_of_not_ge fun h2 => this (.inr (.inr ⟨h0, h2⟩))
theorem rangesB_of {h : Hd} (hr : rangesB h = true) : 0 ≤ h.flow ∧ h.flow ≤ 255 ∧ 0 ≤ h.frame ∧ h.frame ≤ 65535 ∧ 0 ≤ h.til ∧ h.til ≤ 109951162 ∧ risingB h.acked = true := by
  simp only [rangesB, Bool.and_eq_true, decide_eq_true_eq] at hr
  obtain ⟨⟨h1, h2, h3, h4, h5, h6⟩, h7⟩ := hr
  exact ⟨h1, h2, h3, h4, h5, h6, h7⟩
/-! The models of mac's functions. -/
def zAc : Ac := ⟨0, 0, 0, 0, 0, 0, 0, 0, 0, 0, 0, 0, 0, ⟨#[]⟩⟩
def zUp : Up := ⟨false, false, 0, 0, 0, 0, 0, 0, 0, 0, 0, 0, 0, ⟨#[]⟩⟩
def noS : Sta := ⟨⟨0, 0, []⟩, ⟨0, []⟩, [], [], 0, 0, 0, 0, 0, 0, 0⟩
def heldI (l : List Hd) (flow : Int) : Option Nat := fstO l fun h => decide (h.flow = flow)
def agrB (t : Tb) (to : Int) : Bool := t.cells.any fun c => decide (c.kind = 2) && c.send && decide (c.peer = to)
def candI (s : Sta) : Option Nat := fstO s.qu.packets fun p => decide (p.to = -1) || !agrB s.tb p.to
def pkOf (s : Sta) (o : Option Nat) : Pk := match o with | none => noP | some i => s.qu.packets.getD i default
def lisA : Ac := { zAc with kind := 2 }
def msgA (s : Sta) (p : Pk) : Ac := ⟨1, 0, 4, s.tb.node, p.to, s.list, s.seq, 0, 0, 0, 0, 0, 0, p.data⟩
def datA (s : Sta) (c : TC) (h : Hd) : Ac := ⟨1, 0, 1, s.tb.node, c.peer, s.list, h.frame % 256, h.flow, h.frame, 0, 0, 0, 0, h.data⟩
def ctlA (s : Sta) (slot : Int) (c : TC) : Ac := if c.send = false then lisA else match heldI s.held c.flow with
  | none => zAc
  | some i => if (s.held.getD i default).til < slot ∨ ((s.held.getD i default).acked.any fun y => decide (c.peer = y)) = true then zAc else datA s c (s.held.getD i default)
def agrA (s : Sta) (c : TC) : Ac := if c.send = false then lisA else if (firstQ s.qu c.peer).2 = true then msgA s (firstQ s.qu c.peer).1 else zAc
def shrA (s : Sta) : Ac := if (candI s).isSome = true ∧ s.wait = 0 then msgA s (pkOf s (candI s)) else lisA
def rawA (s : Sta) (slot : Int) (c : TC) : Ac := if c.kind = 1 then ctlA s slot c else if c.kind = 2 then agrA s c else if c.kind = 3 then shrA s else zAc
def offA (a : Ac) (o : Int) : Ac := if a.kind = 0 then a else { a with offset := o }
/-- The action of a right station in a slot with the cell c in force (noC if there is none). -/
def actM (s : Sta) (slot : Int) (c : TC) : Ac := offA (rawA s slot c) c.offset
def actS (s : Sta) (slot : Int) : Ac × Int := if checkS s ≠ 0 then (zAc, 1) else if slot < 0 ∨ 109951162 < slot then (zAc, 2) else (actM s slot (atM s.tb slot).1, 0)
def leaveM (s : Sta) (id : Int) : Sta := { s with qu := (takeQ s.qu id).1, seq := (s.seq + 1) % 256, trying := -1, tries := 0 }
def sentP (s : Sta) (c : TC) : Pk := if c.kind = 3 then pkOf s (candI s) else (firstQ s.qu c.peer).1
def triesM (s : Sta) (c : TC) : Int := if s.trying = (sentP s c).id then s.tries + 1 else 1
def goneM (s : Sta) (c : TC) (acked : Bool) : Sta := if c.kind = 3 then { leaveM s (sentP s c).id with back := 0, wait := 0 } else leaveM s (sentP s c).id
def nextSeed (x : Int) : Int := (1103515245 * x + 12345) % 2147483648
def backM (s : Sta) (c : TC) : Sta := { s with trying := (sentP s c).id, tries := triesM s c, back := min (s.back + 1) 5, seed := nextSeed s.seed }
def againM (s : Sta) (c : TC) : Sta := if c.kind = 3 then { backM s c with wait := nextSeed s.seed / 65536 % 2 ^ (min (s.back + 1) 5).toNat }
  else { s with trying := (sentP s c).id, tries := triesM s c }
def triedM (s : Sta) (c : TC) (acked : Bool) : Sta :=
  if (sentP s c).to = -1 then leaveM s (sentP s c).id else if acked = true ∨ 4 ≤ triesM s c then goneM s c acked else againM s c
def upOf (f : Fr) (new : Bool) : Up := ⟨true, new, f.kind, f.source, f.target, f.list, f.seq, f.flow, f.number, f.err, f.slot, f.rank, f.epoch, f.data⟩
def frOf (r : Rs) : Fr := ⟨r.fkind, r.source, r.target, r.list, r.seq, r.flow, r.number, r.err, r.slot, r.rank, r.epoch, r.data⟩
def settleM (s : Sta) : Sta := if 0 ≤ s.trying ∧ hasB s.qu.packets s.trying = false then { s with trying := -1, tries := 0 } else s
def putS (s : Sta) (p : Pk) : Sta × List Pk × Int := if checkS s ≠ 0 then (noS, [], 1) else if (putQ s.qu p).2.2 ≠ 0 then (noS, [], (putQ s.qu p).2.2)
  else if p.to = s.tb.node then (noS, [], 12) else if 100 < p.data.size then (noS, [], 8) else (settleM { s with qu := (putQ s.qu p).1 }, (putQ s.qu p).2.1, 0)
def expireS (s : Sta) (slot : Int) : Sta × List Pk × Int := if checkS s ≠ 0 then (noS, [], 1) else if slot < 0 ∨ 109951162 < slot then (noS, [], 2)
  else (settleM { s with held := s.held.filter fun h => !decide (h.til < slot), qu := (expireQ s.qu slot).1 }, (expireQ s.qu slot).2, 0)
def newS (t : Tb) (limit seed : Int) : Sta × Int := if checkT t ≠ 0 then (noS, 1) else if limit < 1 ∨ 64 < limit ∨ seed < 0 ∨ 2147483647 < seed then (noS, 2) else (⟨t, ⟨limit, []⟩, [], [], 0, 0, -1, 0, 0, 0, seed⟩, 0)
end Go.Proofs
