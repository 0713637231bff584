/-
  What functions of the given program hand back, by walks over its code, and plain laws on that. No condition.
-/
import Derived.Test.YtecdajajocafdaaSxO18w
namespace Go.Proofs
open Go Go.Sx Go.Proofs.T Go.Proofs.Q
set_option linter.unusedVariables false
set_option linter.unusedSimpArgs false

/-! Plain facts of the law Once: two stations with one agreed cell each, and a queue of packets for the other one. -/
def oP (i : Nat) (d : ByteArray) : Pk := ⟨i, 2, 0, 0, 4096, d⟩
structure OkL (L : List Pk) : Prop where
  len : L.length ≤ 8
  all : ∀ p ∈ L, ∃ (i : Nat) (d : ByteArray), p = oP i d ∧ d.size ≤ 100
  inc : L.Pairwise fun p q => p.id < q.id
theorem OkL.tail {p : Pk} {L : List Pk} (h : OkL (p :: L)) : OkL L :=
  ⟨by have := h.len; simp at this; omega, fun q hq => h.all q (List.mem_cons_of_mem _ hq), (List.pairwise_cons.1 h.inc).2⟩
theorem oP_form {i : Nat} {d : ByteArray} (h : d.size ≤ 127) : formP (oP i d) = 0 := by
  unfold formP
  rw [if_neg, if_neg (by show ¬ 127 < d.size; omega)]
  rintro (h | h | h | h | h)
  · have : (0 : Int) ≤ (oP i d).id := Int.natCast_nonneg i
    omega
  all_goals cases h
theorem oP_form8 {i : Nat} {d : ByteArray} (h : 127 < d.size) : formP (oP i d) = 8 := by
  unfold formP
  rw [if_neg, if_pos (by show 127 < d.size; omega)]
  rintro (h | h | h | h | h)
  · have : (0 : Int) ≤ (oP i d).id := Int.natCast_nonneg i
    omega
  all_goals cases h
theorem ok_checkQ {L : List Pk} (h : OkL L) : checkQ ⟨8, L⟩ = 0 := by
  refine Eq.symm <| checkQ_none (q := ⟨8, L⟩) (k := L.length) (by rfl) (by have := h.len; show (L.length : Int) ≤ 8; omega) ⟨Nat.le_refl _, fun k hk => ?_⟩ (Nat.le_refl _)
  have hk : k < L.length := hk
  have hm : L.getD k default ∈ L := getD_mem hk
  obtain ⟨i, d, e, hd⟩ := h.all _ hm
  show pkErr L k = 0
  unfold pkErr
  rw [if_neg (by rw [e, oP_form (by omega)]; exact fun h => h rfl), if_neg, if_neg]
  · rintro ⟨h0, h1⟩
    obtain ⟨i2, d2, e2, _⟩ := h.all _ (getD_mem (l := L) (i := k - 1) (by omega))
    rw [e, e2] at h1
    exact absurd h1 (by show ¬ (0 : Int) < 0; omega)
  · intro ha
    obtain ⟨x, hx, hx2⟩ := List.any_eq_true.1 ha
    have hx2 := of_decide_eq_true hx2
    obtain ⟨j, hj, rfl⟩ := List.mem_take_iff_getElem.1 hx
    have hjk : j < k := by omega
    have := List.pairwise_iff_getElem.1 h.inc j k (by omega) hk hjk
    rw [List.getD_eq_getElem?_getD, List.getElem?_eq_getElem hk] at hx2
    simp at hx2
    omega
def oCa : TC := ⟨0, 0, 2, true, 2, -1⟩
def oCb : TC := ⟨0, 0, 2, false, 1, -1⟩
def oA (L : List Pk) (sent tries : Int) : Sta := ⟨tA, ⟨8, L⟩, [], [], 0, sent, if tries = 0 then -1 else (L.getD 0 default).id, tries, 0, 0, 0⟩
def oB (seen : List Sn) : Sta := ⟨tB, ⟨8, []⟩, [], seen, 0, 0, -1, 0, 0, 0, 0⟩
theorem o_atA (i : Nat) : atM tA (2 * i) = (oCa, true) := by
  have h1 : checkT tA = 0 := by kernel_rfl
  have h2 : (2 * (i : Int)) % 2 = 0 := by omega
  unfold atM
  rw [if_neg (by omega)]
  have : fstO tA.cells (fun c => decide (c.slot = 2 * (i : Int) % tA.len)) = some 0 := by
    simp [fstO, tA, h2]
  rw [this]
  rfl
theorem o_atB (i : Nat) : atM tB (2 * i) = (oCb, true) := by
  have h1 : checkT tB = 0 := by kernel_rfl
  have h2 : (2 * (i : Int)) % 2 = 0 := by omega
  unfold atM
  rw [if_neg (by omega)]
  have : fstO tB.cells (fun c => decide (c.slot = 2 * (i : Int) % tB.len)) = some 0 := by
    simp [fstO, tB, h2]
  rw [this]
  rfl
theorem o_okA {L : List Pk} {sent tries : Int} (h : OkL L) (hs : 0 ≤ sent ∧ sent ≤ 8) (ht : 0 ≤ tries ∧ tries ≤ 3) (h0 : L = [] → tries = 0) : checkS (oA L sent tries) = 0 := by
  refine checkS_good (by kernel_rfl) ?_ (by kernel_rfl) (by kernel_rfl) ?_ ?_
  · show (decide (checkQ ⟨8, L⟩ = 0) && !(L.any (badP 1))) = true
    rw [ok_checkQ h]
    have : L.any (badP 1) = false := by
      rw [List.any_eq_false]
      intro p hp
      obtain ⟨i, d, rfl, hd⟩ := h.all p hp
      unfold badP
      rw [decide_eq_false]
      · exact Bool.false_ne_true
      · rintro (h | h)
        · exact absurd h (by show ¬ (2 : Int) = 1; omega)
        · exact absurd h (by show ¬ 100 < d.size; omega)
    rw [this]
    rfl
  · unfold tryingB oA
    refine decide_eq_true ?_
    by_cases hn : tries = 0
    · exact .inl ⟨if_pos hn, hn⟩
    · cases L with
      | nil => exact absurd (h0 rfl) hn
      | cons p L =>
        obtain ⟨i, d, rfl, hd⟩ := h.all p (List.mem_cons_self ..)
        refine .inr ⟨?_, ?_, by show 1 ≤ tries; omega, by show tries < 4; omega⟩
        · show (0 : Int) ≤ if tries = 0 then -1 else (i : Int)
          rw [if_neg hn]; omega
        · show hasB (oP i d :: L) (if tries = 0 then -1 else (i : Int)) = true
          rw [if_neg hn]
          unfold hasB
          rw [List.any_cons, show decide ((oP i d).id = (i : Int)) = true from decide_eq_true rfl]
          rfl
  · unfold restB oA
    exact decide_eq_true ⟨by show (0 : Int) ≤ 0; omega, by show (0 : Int) ≤ 255; omega, hs.1, by show sent ≤ 255; omega, by show (0 : Int) ≤ 0; omega, by show (0 : Int) ≤ 5; omega, by show (0 : Int) ≤ 0; omega, by show (0 : Int) ≤ 2 ^ 0 - 1; omega, by show (0 : Int) ≤ 0; omega, by show (0 : Int) ≤ 2147483647; omega⟩
def OkSn (seen : List Sn) (sent : Int) : Prop := seen = [] ∨ ∃ q, seen = [⟨1, q⟩] ∧ 0 ≤ q ∧ q ≤ sent
theorem o_okB {seen : List Sn} {sent : Int} (h : OkSn seen sent) (hs : 0 ≤ sent ∧ sent ≤ 8) : checkS (oB seen) = 0 := by
  refine checkS_good (by kernel_rfl) (by kernel_rfl) (by kernel_rfl) ?_ (by kernel_rfl) (by kernel_rfl)
  rcases h with rfl | ⟨q, rfl, hq⟩
  · rfl
  · show seenB [⟨1, q⟩] = true
    have hb : badSn [⟨1, q⟩] 0 = false := by
      unfold badSn
      refine decide_eq_false ?_
      simp only [List.getD_cons_zero]
      omega
    unfold seenB
    simp [List.range_succ, hb]
theorem o_first {p : Pk} {L : List Pk} (h : OkL (p :: L)) : firstQ ⟨8, p :: L⟩ 2 = (p, true) := by
  obtain ⟨i, d, rfl, hd⟩ := h.all p (List.mem_cons_self ..)
  have : idxTo (oP i d :: L) 2 = some 0 := fstO_hit (fun i hi => by omega) (by simp) (by rfl)
  unfold firstQ
  rw [ok_checkQ h, if_neg (by simp), this]
  rfl
theorem o_first0 : firstQ ⟨8, []⟩ 2 = (noP, false) := by kernel_rfl
theorem o_take {p : Pk} {L : List Pk} (h : OkL (p :: L)) : (takeQ ⟨8, p :: L⟩ p.id).1 = ⟨8, L⟩ := by
  have : idxId (p :: L) p.id = some 0 := fstO_hit (fun i hi => by omega) (by simp) (decide_eq_true rfl)
  unfold takeQ
  rw [ok_checkQ h, if_neg (by simp), this]
  rfl
def oM (p : Pk) (sent : Int) : Ac := ⟨1, 0, 4, 1, 2, 0, sent, 0, 0, 0, 0, 0, 0, p.data⟩
def oX (L : List Pk) (sent : Int) : Ac := match L with
  | [] => zAc
  | p :: _ => oM p sent
theorem o_actA {L : List Pk} {sent tries : Int} (h : OkL L) (k : Nat) : actM (oA L sent tries) (2 * k) oCa = oX L sent := by
  unfold actM rawA
  rw [if_neg (by decide), if_pos (show oCa.kind = 2 from rfl)]
  unfold agrA
  rw [if_neg (by decide), show (oA L sent tries).qu = ⟨8, L⟩ from rfl, show oCa.peer = 2 from rfl]
  cases L with
  | nil => rw [o_first0]; rfl
  | cons p L =>
    obtain ⟨i, d, rfl, hd⟩ := h.all p (List.mem_cons_self ..)
    rw [o_first h]; rfl
theorem o_actB (seen : List Sn) (k : Nat) : actM (oB seen) (2 * k) oCb = lisA := by
  unfold actM rawA
  rw [if_neg (by decide), if_pos (show oCb.kind = 2 from rfl)]
  unfold agrA
  rw [if_pos (show oCb.send = false from rfl)]
  rfl
def oRb (x : Ac) (b : Bool) : Rs := ⟨false, b, x.fkind, x.source, x.target, x.list, x.seq, x.flow, x.number, x.err, x.slot, x.rank, x.epoch, x.data, 0⟩
def oRa (b : Bool) : Rs := ⟨b, false, 0, 0, 0, 0, 0, 0, 0, 0, 0, 0, 0, ⟨#[]⟩, 0⟩
def oF (p : Pk) (sent : Int) : Fr := ⟨4, 1, 2, 0, sent, 0, 0, 0, 0, 0, 0, p.data⟩
theorem o_for {p : Pk} {sent : Int} (hs : 0 ≤ sent ∧ sent ≤ 8) : forB (oF p sent) 2 = true := by
  have : checkF (oF p sent) = 0 := by
    unfold checkF
    refine if_pos ⟨?_, ?_, ?_⟩
    · unfold fieldsM oF
      simp
    · unfold fieldsM oF zeroF
      simp
    · unfold inS oF
      exact decide_eq_true (by dsimp only; omega)
  unfold forB
  rw [this]
  rfl
theorem o_waitB (seen : List Sn) : waitM (oB seen) oCb = oB seen := by
  unfold waitM
  rw [if_neg (by rintro ⟨_, h⟩; cases h)]
theorem o_doneB0 (seen : List Sn) (k : Nat) (x : Ac) : doneM (oB seen) (2 * k) oCb (oRb x false) = (oB seen, zUp) := by
  unfold doneM
  rw [o_actB, if_neg (by rintro ⟨h, _⟩; cases h), if_neg (by intro h; cases h), if_pos (show lisA.kind = 2 from rfl), o_waitB]
  rfl
theorem o_doneB {seen : List Sn} {sent : Int} (h : OkSn seen sent) (hs : 0 ≤ sent ∧ sent ≤ 8) (p : Pk) (k : Nat) :
    doneM (oB seen) (2 * k) oCb (oRb (oM p sent) true) = (oB [⟨1, sent⟩], upOf (oF p sent) (!decide (seen = [⟨1, sent⟩]))) := by
  unfold doneM
  rw [o_actB, if_neg (by rintro ⟨h, _⟩; cases h), if_neg (by intro h; cases h), if_pos (show lisA.kind = 2 from rfl), o_waitB, if_pos (show (oRb (oM p sent) true).heard = true from rfl)]
  have hf : forB (frOf (oRb (oM p sent) true)) (oB seen).tb.node = true := o_for hs
  unfold heardM
  rw [if_neg (by rw [hf]; rintro (h | h) <;> cases h), if_neg (by intro h; cases h), if_pos ⟨rfl, rfl⟩]
  have e1 : seenN (oB seen) (frOf (oRb (oM p sent) true)) = [⟨1, sent⟩] := by
    rcases h with rfl | ⟨q, rfl, hq⟩ <;> rfl
  have e2 : newM (oB seen) (frOf (oRb (oM p sent) true)) = !decide (seen = [⟨1, sent⟩]) := by
    show (!seen.any fun y => decide ((⟨1, sent⟩ : Sn) = y)) = _
    rcases h with rfl | ⟨q, rfl, hq⟩
    · rfl
    · by_cases hqs : q = sent
      · subst hqs; simp
      · simp [hqs]
        exact fun h => hqs h.symm
  rw [e1, e2]
  rfl
theorem o_doneA0 {sent : Int} (k : Nat) (b : Bool) : doneM (oA [] sent 0) (2 * k) oCa (oRa b) = (oA [] sent 0, zUp) := by
  unfold doneM
  rw [o_actA ⟨by simp, by simp, by simp⟩, if_neg (by rintro ⟨h, _⟩; cases h), if_neg (by intro h; cases h), if_neg (by intro h; cases h)]
theorem o_doneA {p : Pk} {L : List Pk} {sent tries : Int} (h : OkL (p :: L)) (hs : 0 ≤ sent ∧ sent ≤ 8) (ht : 0 ≤ tries ∧ tries ≤ 3) (k : Nat) (b : Bool) :
    doneM (oA (p :: L) sent tries) (2 * k) oCa (oRa b) = (if b = true ∨ tries = 3 then oA L (sent + 1) 0 else oA (p :: L) sent (tries + 1), zUp) := by
  have hsp : sentP (oA (p :: L) sent tries) oCa = p := by
    unfold sentP
    rw [if_neg (by decide), show (oA (p :: L) sent tries).qu = ⟨8, p :: L⟩ from rfl, show oCa.peer = 2 from rfl, o_first h]
  obtain ⟨i, d, hp, hd⟩ := h.all p (List.mem_cons_self ..)
  have hid : 0 ≤ p.id := by rw [hp]; exact Int.natCast_nonneg i
  have hn : triesM (oA (p :: L) sent tries) oCa = tries + 1 := by
    unfold triesM
    rw [hsp]
    show (if (if tries = 0 then (-1 : Int) else p.id) = p.id then tries + 1 else 1) = tries + 1
    by_cases h : tries = 0
    · rw [if_pos h, if_neg (by omega)]; omega
    · rw [if_neg h, if_pos rfl]
  have ht3 : triedM (oA (p :: L) sent tries) oCa b = if b = true ∨ tries = 3 then oA L (sent + 1) 0 else oA (p :: L) sent (tries + 1) := by
    unfold triedM
    rw [hsp, hn, if_neg (by rw [hp]; show ¬ (2 : Int) = -1; omega)]
    by_cases hb : b = true ∨ tries = 3
    · rw [if_pos hb, if_pos (hb.imp id fun h => by omega)]
      unfold goneM
      rw [if_neg (by decide), hsp]
      unfold leaveM
      rw [show (oA (p :: L) sent tries).qu = ⟨8, p :: L⟩ from rfl, o_take h]
      show (⟨tA, ⟨8, L⟩, [], [], 0, (sent + 1) % 256, -1, 0, 0, 0, 0⟩ : Sta) = _
      rw [show (sent + 1) % 256 = sent + 1 by omega]
      rfl
    · rw [if_neg hb, if_neg (fun h => hb (h.imp id fun h => by omega))]
      unfold againM
      rw [if_neg (by decide), hsp, hn]
      unfold oA
      rw [if_neg (show ¬ tries + 1 = 0 by omega)]
      rfl
  unfold doneM
  rw [o_actA h, if_neg (by rintro ⟨_, h⟩; cases h), if_pos (show (oX (p :: L) sent).kind = 1 from rfl), show (oRa b).acked = b from rfl, ht3]
theorem o_put {L : List Pk} {i : Nat} {d : ByteArray} (h : OkL L) (hl : L.length < 8) (hi : ∀ p ∈ L, p.id < i) (hd : d.size ≤ 100) :
    putS (oA L 0 0) (oP i d) = (oA (L ++ [oP i d]) 0 0, [], 0) ∧ OkL (L ++ [oP i d]) := by
  have hq : putQ ⟨8, L⟩ (oP i d) = (⟨8, L ++ [oP i d]⟩, [], 0) := by
    have ha : atP L 0 = L.length := by
      unfold atP
      rw [fstO_none]
      · rfl
      · intro j hj
        obtain ⟨i2, d2, e2, _⟩ := h.all _ (getD_mem (l := L) (i := j) hj)
        rw [e2]; rfl
    unfold putQ
    rw [if_neg (by rw [ok_checkQ h]; exact fun h => h rfl), if_neg (by rw [oP_form (by omega)]; exact fun h => h rfl), if_neg, if_neg (by show ¬ (L.length : Int) = 8; omega)]
    · show ((⟨8, insAt L (atP L 0) (oP i d)⟩ : Qu), ([] : List Pk), (0 : Int)) = _
      rw [ha]
      unfold insAt
      simp
    · intro hh
      obtain ⟨x, hx, hx2⟩ := List.any_eq_true.1 hh
      have hx2 := of_decide_eq_true hx2
      have := hi x hx
      rw [hx2] at this
      exact absurd this (by show ¬ (i : Int) < i; omega)
  refine ⟨?_, { len := by simp; omega, all := fun p hp => ?_, inc := ?_ }⟩
  · unfold putS
    rw [if_neg (by rw [o_okA h (by omega) (by omega) (fun _ => rfl)]; exact fun h => h rfl), show (oA L 0 0).qu = ⟨8, L⟩ from rfl, hq, if_neg (by simp), if_neg (show ¬ (oP i d).to = (oA L 0 0).tb.node by show ¬ (2 : Int) = 1; omega), if_neg (show ¬ 100 < (oP i d).data.size by show ¬ 100 < d.size; omega)]
    rfl
  · rcases List.mem_append.1 hp with hp | hp
    · exact h.all p hp
    · exact ⟨i, d, List.mem_singleton.1 hp, hd⟩
  · rw [List.pairwise_append]
    refine ⟨h.inc, List.pairwise_singleton _ _, fun a ha b hb => ?_⟩
    rw [List.mem_singleton.1 hb]; exact hi a ha
theorem o_put8 {L : List Pk} {i : Nat} {d : ByteArray} (h : OkL L) (hl : L.length < 8) (hi : ∀ p ∈ L, p.id < i) (hd : 100 < d.size) : putS (oA L 0 0) (oP i d) = (noS, [], 8) := by
  unfold putS
  rw [if_neg (by rw [o_okA h (by omega) (by omega) (fun _ => rfl)]; exact fun h => h rfl), show (oA L 0 0).qu = ⟨8, L⟩ from rfl]
  by_cases h2 : 127 < d.size
  · have : putQ ⟨8, L⟩ (oP i d) = (noQ, [], 8) := by
      unfold putQ
      rw [if_neg (by rw [ok_checkQ h]; exact fun h => h rfl), if_pos (by rw [oP_form8 h2]; omega), oP_form8 h2]
    rw [this, if_pos (by simp)]
  · have : (putQ ⟨8, L⟩ (oP i d)).2.2 = 0 := by
      unfold putQ
      rw [if_neg (by rw [ok_checkQ h]; exact fun h => h rfl), if_neg (by rw [oP_form (by omega)]; exact fun h => h rfl), if_neg, if_neg (by show ¬ (L.length : Int) = 8; omega)]
      intro hh
      obtain ⟨x, hx, hx2⟩ := List.any_eq_true.1 hh
      have hx2 := of_decide_eq_true hx2
      have := hi x hx
      rw [hx2] at this
      exact absurd this (by show ¬ (i : Int) < i; omega)
    rw [if_neg (by rw [this]; exact fun h => h rfl), if_neg (show ¬ (oP i d).to = (oA L 0 0).tb.node by show ¬ (2 : Int) = 1; omega), if_pos (show 100 < (oP i d).data.size by show 100 < d.size; omega)]
end Go.Proofs


