/-
  What functions of the given program hand back, by walks over its code, and plain laws on that. No condition.
-/
import Derived.Test.YtidijkcalgmadaaGreatSxVn
import Derived.Test.YtidijkcalgmadaaGreatSxVkc
import Derived.Test.YtidijkcalgmadaaGreatSxVQj
namespace Go.Proofs
open Go Go.Sx Go.Proofs.T Go.Proofs.Q
set_option linter.unusedVariables false
set_option linter.unusedSimpArgs false

/-! Plain facts: what stays right. -/
theorem idx_mem {l : List Pk} {p : Pk} (h : p ∈ l) : ∃ i, idxId l p.id = some i := by
  cases hf : idxId l p.id with
  | some i => exact ⟨i, rfl⟩
  | none =>
    have := fstO_notmem hf p h
    simp at this
theorem take_eq {s : Sta} (hQ : checkQ s.qu = 0) {p : Pk} (hp : p ∈ s.qu.packets) : (takeQ s.qu p.id).1 = ⟨s.qu.limit, s.qu.packets.filter fun x => decide (x.id ≠ p.id)⟩ := by
  obtain ⟨i, hi⟩ := idx_mem hp
  rw [takeQ_some hQ hi, filter_eraseI hQ hi]
theorem packets_sub {s t : Sta} (hck : checkS s = 0) {m : List Pk} (hs : m.Sublist s.qu.packets) (ht : t.tb = s.tb) (hq : t.qu = ⟨s.qu.limit, m⟩) : packetsB t = true := by
  obtain ⟨_, hQ, hP, _⟩ := checkS_of hck
  unfold packetsB
  rw [hq, ht, okQ_check ((okQ_of hQ).sub hs), List.any_eq_false.2 fun x hx => by rw [hP x (hs.subset hx)]; simp]
  rfl
theorem leave_ok {s : Sta} (hck : checkS s = 0) {p : Pk} (hp : p ∈ s.qu.packets) : checkS (leaveM s p.id) = 0 ∧ (leaveM s p.id).qu.packets = s.qu.packets.filter fun x => decide (x.id ≠ p.id) := by
  obtain ⟨h1, h2, h3, h4, h5, h6, h7⟩ := checkS_of hck
  have hm := take_eq h2 hp
  have h7 := restB_of h7
  refine ⟨checkS_good h1 (packets_sub hck (List.filter_sublist) rfl hm) h4 h5 (decide_eq_true (.inl ⟨rfl, rfl⟩)) (decide_eq_true ?_), ?_⟩
  · show 0 ≤ s.list ∧ s.list ≤ 255 ∧ 0 ≤ (s.seq + 1) % 256 ∧ (s.seq + 1) % 256 ≤ 255 ∧ 0 ≤ s.back ∧ s.back ≤ 5 ∧ 0 ≤ s.wait ∧ s.wait ≤ 2 ^ s.back.toNat - 1 ∧ 0 ≤ s.seed ∧ s.seed ≤ 2147483647
    exact ⟨h7.1, h7.2.1, by omega, by omega, h7.2.2.2.2⟩
  · show (takeQ s.qu p.id).1.packets = _
    rw [hm]
theorem settle_ok {s : Sta} (q : Qu) (hck : checkS s = 0) (hp : packetsB { s with qu := q } = true) : checkS (settleM { s with qu := q }) = 0 := by
  obtain ⟨h1, h2, h3, h4, h5, h6, h7⟩ := checkS_of hck
  have h6 := of_decide_eq_true h6
  unfold settleM
  split
  · exact checkS_good h1 hp h4 h5 (decide_eq_true (.inl ⟨rfl, rfl⟩)) h7
  · rename_i hn
    refine checkS_good h1 hp h4 h5 (decide_eq_true ?_) h7
    rcases h6 with h6 | h6
    · exact .inl h6
    · refine .inr ⟨h6.1, ?_, h6.2.2⟩
      cases hb : hasB q.packets s.trying with
      | true => rfl
      | false => exact absurd ⟨h6.1, hb⟩ hn
theorem settle_qu (s : Sta) : (settleM s).qu = s.qu ∧ (settleM s).tb = s.tb ∧ (settleM s).held = s.held := by
  unfold settleM
  split <;> exact ⟨rfl, rfl, rfl⟩
theorem insAt_mem {l : List Pk} {i : Nat} {p x : Pk} (h : x ∈ insAt l i p) : x = p ∨ x ∈ l := by
  rcases List.mem_cons.1 ((insAt_perm l i p).mem_iff.1 h) with h | h
  · exact .inl h
  · exact .inr h
theorem putQ_mem {q : Qu} {p x : Pk} (h : x ∈ (putQ q p).1.packets) : x = p ∨ x ∈ q.packets := by
  unfold putQ at h
  split at h
  · cases h
  · split at h
    · cases h
    · split at h
      · cases h
      · split at h
        · split at h
          · cases h
          · rcases insAt_mem h with h | h
            · exact .inl h
            · exact .inr (List.mem_of_mem_take h)
        · exact insAt_mem h
theorem put_ok {s : Sta} {p : Pk} (hck : checkS s = 0) (h : (putS s p).2.2 = 0) : checkS (putS s p).1 = 0 ∧ (putS s p).1.tb = s.tb ∧ (putS s p).1.held = s.held := by
  obtain ⟨h1, h2, h3, h4, h5, h6, h7⟩ := checkS_of hck
  unfold putS at h ⊢
  rw [if_neg (by omega)] at h ⊢
  split at h
  · rename_i hq; exact absurd h hq
  · rename_i hq
    rw [if_neg hq]
    split at h
    · cases h
    · rename_i ht
      rw [if_neg ht]
      split at h
      · cases h
      · rename_i hd
        rw [if_neg hd]
        have hq0 : (putQ s.qu p).2.2 = 0 := by omega
        obtain ⟨_, g1, g2, _⟩ := putQ_ok h2 hq0
        refine ⟨settle_ok _ hck ?_, (settle_qu _).2.1, (settle_qu _).2.2⟩
        unfold packetsB
        have e : (putQ s.qu p).1 = ⟨s.qu.limit, (putQ s.qu p).1.packets⟩ := by rw [← g1]
        show (decide (checkQ (putQ s.qu p).1 = 0) && !((putQ s.qu p).1.packets.any (badP s.tb.node))) = true
        rw [e, okQ_check g2, List.any_eq_false.2 fun x hx => ?_]
        · rfl
        · rcases putQ_mem hx with rfl | hx
          · simp only [badP, decide_eq_true_eq]; omega
          · rw [h3 x hx]; simp
theorem expire_ok {s : Sta} {slot : Int} (hck : checkS s = 0) (h0 : s.held = []) (hs : 0 ≤ slot ∧ slot ≤ 109951162) :
    ∃ n out, expireS s slot = (n, out, 0) ∧ checkS n = 0 ∧ n.tb = s.tb ∧ n.held = [] ∧ n.qu = ⟨s.qu.limit, freshL s.qu.packets slot⟩ := by
  obtain ⟨h1, h2, h3, h4, h5, h6, h7⟩ := checkS_of hck
  have eq : (expireQ s.qu slot).1 = ⟨s.qu.limit, freshL s.qu.packets slot⟩ := by rw [expireQ, if_neg (by omega)]
  have e : expireS s slot = (settleM { s with qu := (expireQ s.qu slot).1 }, (expireQ s.qu slot).2, 0) := by
    rw [expireS, if_neg (by omega), if_neg (by omega)]
    have : ({ s with held := s.held.filter fun h => !decide (h.til < slot), qu := (expireQ s.qu slot).1 } : Sta) = { s with qu := (expireQ s.qu slot).1 } := by
      rw [h0]
      cases s
      cases h0
      rfl
    rw [this]
  refine ⟨_, _, e, settle_ok _ hck ?_, (settle_qu _).2.1, (settle_qu _).2.2.trans h0, (settle_qu _).1.trans eq⟩
  rw [eq]
  exact packets_sub hck List.filter_sublist rfl rfl
end Go.Proofs


