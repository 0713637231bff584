/-
  What functions of the given program hand back, by walks over its code, and plain laws on that. No condition.
-/
import Derived.Test.YtecdajajocafdaaGreatSxP18xb
import Derived.Test.YtecdajajocafdaaGreatSxP18re
import Derived.Test.YtecdajajocafdaaGreatSxP18kc
namespace Go.Proofs
open Go Go.Sx Go.Proofs.T Go.Proofs.Q
set_option linter.unusedVariables false
set_option linter.unusedSimpArgs false

/-! Plain facts of the law Stays: what is right stays right. -/
theorem formP_of {p : Pk} (h : formP p = 0) : 0 ≤ p.id ∧ -1 ≤ p.to ∧ p.to ≤ 31 := by
  unfold formP at h
  split at h
  · cases h
  · rename_i hn
    simp only [inI, not_or, decide_eq_false_iff_not, Decidable.not_not] at hn
    omega
theorem pk_el {l : List Pk} {k : Nat} (h : k < l.length) : l.getD k default = l[k] := by
  rw [List.getD_eq_getElem?_getD, List.getElem?_eq_getElem h]; rfl
theorem pairQ {q : Qu} (h : checkQ q = 0) : q.packets.Pairwise fun x y => x.id ≠ y.id ∧ x.prio ≤ y.prio := by
  refine List.pairwise_iff_getElem.2 fun i j hi hj hij => ?_
  rw [← pk_el hi, ← pk_el hj]
  refine ⟨checkQ_ne h hi hj (by omega), ?_⟩
  have key : ∀ d, i + d < q.packets.length → (q.packets.getD i default).prio ≤ (q.packets.getD (i + d) default).prio := by
    intro d
    induction d with
    | zero => intro _; exact Int.le_refl _
    | succ d ih =>
      intro hd
      have h4 := (checkQ_at h hd).2.2 (by omega)
      rw [show i + (d + 1) - 1 = i + d by omega] at h4
      exact Int.le_trans (ih (by omega)) h4
  have := key (j - i) (by omega)
  rwa [show i + (j - i) = j by omega] at this
theorem subQ {q : Qu} (h : checkQ q = 0) {m : List Pk} (hs : m.Sublist q.packets) : checkQ ⟨q.limit, m⟩ = 0 := by
  obtain ⟨h1, h2, h3⟩ := checkQ_len h
  have hl := hs.length_le
  have hp := List.pairwise_iff_getElem.1 ((pairQ h).sublist hs)
  unfold checkQ
  rw [if_neg (by simp only [inI]; simp; omega), if_neg (by dsimp only; omega)]
  refine firstErr_none fun k hk => ?_
  dsimp only at hk ⊢
  unfold pkErr
  have hf : formP (m.getD k default) = 0 := by
    obtain ⟨i, hi, he⟩ := mem_getD (hs.subset (getD_mem hk))
    rw [← he]
    exact (checkQ_at h hi).1
  rw [if_neg (by simp only [ne_eq, Decidable.not_not]; exact hf), if_neg ?_, if_neg ?_]
  · rintro ⟨h0, h3⟩
    have := (hp (k - 1) k (by omega) hk (by omega)).2
    rw [pk_el hk, pk_el (show k - 1 < m.length by omega)] at h3
    omega
  · intro ha
    rw [List.any_eq_true] at ha
    obtain ⟨x, hx, he⟩ := ha
    obtain ⟨i, hi, hil, rfl⟩ := mem_take_getD hx
    have := (hp i k hil hk hi).1
    rw [pk_el hk, pk_el hil] at he
    exact this (of_decide_eq_true he)
theorem take_sub {s : Sta} (hQ : checkQ s.qu = 0) {p : Pk} (hp : p ∈ s.qu.packets) : ∃ m, (takeQ s.qu p.id).1 = ⟨s.qu.limit, m⟩ ∧ m.Sublist s.qu.packets := by
  obtain ⟨i, hi⟩ := idx_mem hp
  rw [takeQ_some hQ hi]
  exact ⟨_, rfl, List.eraseIdx_sublist _ _⟩
theorem packets_sub {s t : Sta} (hck : checkS s = 0) {m : List Pk} (hs : m.Sublist s.qu.packets) (ht : t.tb = s.tb) (hq : t.qu = ⟨s.qu.limit, m⟩) : packetsB t = true := by
  obtain ⟨_, hQ, hP, _⟩ := checkS_of hck
  unfold packetsB
  rw [hq, ht, subQ hQ hs, List.any_eq_false.2 fun x hx => by rw [hP x (hs.subset hx)]; simp]
  rfl
theorem leave_ok {s : Sta} (hck : checkS s = 0) {p : Pk} (hp : p ∈ s.qu.packets) (b w : Int) (hb : 0 ≤ b ∧ b ≤ 5 ∧ 0 ≤ w ∧ w ≤ 2 ^ b.toNat - 1) :
    checkS { leaveM s p.id with back := b, wait := w } = 0 ∧ ({ leaveM s p.id with back := b, wait := w } : Sta).qu.packets.length ≤ s.qu.packets.length := by
  obtain ⟨h1, h2, h3, h4, h5, h6, h7⟩ := checkS_of hck
  obtain ⟨m, hm, hs⟩ := take_sub h2 hp
  have h7 := restB_of h7
  refine ⟨checkS_good h1 (packets_sub hck hs rfl hm) h4 h5 (decide_eq_true (.inl ⟨rfl, rfl⟩)) (decide_eq_true ?_), ?_⟩
  · show 0 ≤ s.list ∧ s.list ≤ 255 ∧ 0 ≤ (s.seq + 1) % 256 ∧ (s.seq + 1) % 256 ≤ 255 ∧ 0 ≤ b ∧ b ≤ 5 ∧ 0 ≤ w ∧ w ≤ 2 ^ b.toNat - 1 ∧ 0 ≤ s.seed ∧ s.seed ≤ 2147483647
    exact ⟨h7.1, h7.2.1, by omega, by omega, hb.1, hb.2.1, hb.2.2.1, hb.2.2.2, h7.2.2.2.2.2.2.2.2.1, h7.2.2.2.2.2.2.2.2.2⟩
  · show (takeQ s.qu p.id).1.packets.length ≤ _
    rw [hm]; exact hs.length_le
theorem again_ok {s : Sta} {c : TC} (hck : checkS s = 0) (hp : sentP s c ∈ s.qu.packets) (ht : triesM s c < 4) (b w d : Int) (hb : 0 ≤ b ∧ b ≤ 5 ∧ 0 ≤ w ∧ w ≤ 2 ^ b.toNat - 1) (hd : 0 ≤ d ∧ d ≤ 2147483647) :
    checkS { s with trying := (sentP s c).id, tries := triesM s c, back := b, wait := w, seed := d } = 0 := by
  obtain ⟨h1, h2, h3, h4, h5, h6, h7⟩ := checkS_of hck
  have h7 := restB_of h7
  have h6 := of_decide_eq_true h6
  obtain ⟨i, hi, he⟩ := mem_getD hp
  have hid : 0 ≤ (sentP s c).id := by rw [← he]; exact (formP_of (checkQ_at h2 hi).1).1
  have ht1 : 1 ≤ triesM s c := by
    unfold triesM
    split <;> omega
  refine checkS_good h1 (packets_sub hck (List.Sublist.refl _) rfl rfl) h4 h5 (decide_eq_true (.inr ⟨hid, ?_, ht1, ht⟩)) (decide_eq_true ?_)
  · exact List.any_eq_true.2 ⟨_, hp, decide_eq_true rfl⟩
  · show 0 ≤ s.list ∧ s.list ≤ 255 ∧ 0 ≤ s.seq ∧ s.seq ≤ 255 ∧ 0 ≤ b ∧ b ≤ 5 ∧ 0 ≤ w ∧ w ≤ 2 ^ b.toNat - 1 ∧ 0 ≤ d ∧ d ≤ 2147483647
    exact ⟨h7.1, h7.2.1, h7.2.2.1, h7.2.2.2.1, hb.1, hb.2.1, hb.2.2.1, hb.2.2.2, hd.1, hd.2⟩
/-- What stays of a station. -/
def Stay (s t : Sta) : Prop := checkS t = 0 ∧ t.qu.packets.length ≤ s.qu.packets.length ∧ t.tb = s.tb
theorem tried_ok {s : Sta} {c : TC} (acked : Bool) (hck : checkS s = 0) (hp : sentP s c ∈ s.qu.packets) : Stay s (triedM s c acked) := by
  obtain ⟨h1, h2, h3, h4, h5, h6, h7⟩ := checkS_of hck
  have h7 := restB_of h7
  have hL : Stay s (leaveM s (sentP s c).id) := by
    have := leave_ok hck hp s.back s.wait ⟨h7.2.2.2.2.1, h7.2.2.2.2.2.1, h7.2.2.2.2.2.2.1, h7.2.2.2.2.2.2.2.1⟩
    exact ⟨this.1, this.2, rfl⟩
  unfold triedM
  split
  · exact hL
  · split
    · unfold goneM
      split
      · have := leave_ok hck hp 0 0 (by decide)
        exact ⟨this.1, this.2, rfl⟩
      · exact hL
    · rename_i hn
      have ht : triesM s c < 4 := Int.lt_of_not_ge fun h => hn (.inr h)
      unfold againM
      split
      · have hpw := (pow5 (min (s.back + 1) 5)).resolve_left (by omega) |>.resolve_left (by omega)
        have hsd : 0 ≤ nextSeed s.seed ∧ nextSeed s.seed ≤ 2147483647 := by unfold nextSeed; omega
        refine ⟨again_ok hck hp ht (min (s.back + 1) 5) (nextSeed s.seed / 65536 % 2 ^ (min (s.back + 1) 5).toNat) (nextSeed s.seed) ⟨by omega, by omega, ?_, ?_⟩ hsd, Nat.le_refl _, rfl⟩
        · exact Int.emod_nonneg _ (by omega)
        · have := Int.emod_lt_of_pos (nextSeed s.seed / 65536) (show 0 < (2 : Int) ^ (min (s.back + 1) 5).toNat by omega)
          omega
      · exact ⟨again_ok hck hp ht s.back s.wait s.seed ⟨h7.2.2.2.2.1, h7.2.2.2.2.2.1, h7.2.2.2.2.2.2.1, h7.2.2.2.2.2.2.2.1⟩ h7.2.2.2.2.2.2.2.2, Nat.le_refl _, rfl⟩

/-! Lists that rise. -/
theorem rise_pw {α : Type} [Inhabited α] {k : α → Int} {l : List α} (h : Rise k l) : l.Pairwise fun a b => k a < k b := by
  refine List.pairwise_iff_getElem.2 fun i j hi hj hij => ?_
  have := h i j hij hj
  rw [List.getD_eq_getElem?_getD, List.getD_eq_getElem?_getD, List.getElem?_eq_getElem hi, List.getElem?_eq_getElem hj] at this
  exact this
theorem pw_rise {α : Type} [Inhabited α] {k : α → Int} {l : List α} (h : l.Pairwise fun a b => k a < k b) : Rise k l := by
  intro i j hij hj
  have := List.pairwise_iff_getElem.1 h i j (by omega) hj hij
  rw [List.getD_eq_getElem?_getD, List.getD_eq_getElem?_getD, List.getElem?_eq_getElem (show i < l.length by omega), List.getElem?_eq_getElem hj]
  exact this
theorem updK_rise {α : Type} [Inhabited α] {k : α → Int} {l : List α} (x : α) (h : Rise k l) : Rise k (updK k l x) := by
  refine pw_rise ?_
  have hp := rise_pw h
  unfold updK
  rw [List.pairwise_append]
  refine ⟨hp.filter _, List.pairwise_cons.2 ⟨fun a ha => of_decide_eq_true (List.mem_filter.1 ha).2, hp.filter _⟩, fun a ha b hb => ?_⟩
  have h1 := of_decide_eq_true (List.mem_filter.1 ha).2
  rcases List.mem_cons.1 hb with rfl | hb
  · exact h1
  · have h2 := of_decide_eq_true (List.mem_filter.1 hb).2
    omega
theorem updK_mem {α : Type} {k : α → Int} {l : List α} {x y : α} (h : y ∈ updK k l x) : y = x ∨ y ∈ l := by
  unfold updK at h
  rcases List.mem_append.1 h with h | h
  · exact .inr (List.mem_filter.1 h).1
  · rcases List.mem_cons.1 h with h | h
    · exact .inl h
    · exact .inr (List.mem_filter.1 h).1
theorem seenB_mk {l : List Sn} (h : ∀ x ∈ l, 0 ≤ x.node ∧ x.node ≤ 31 ∧ 0 ≤ x.seq ∧ x.seq ≤ 255) (hr : Rise Sn.node l) : seenB l = true := by
  unfold seenB
  rw [anyR_none fun i hi => ?_]
  · rfl
  refine decide_eq_false ?_
  have h1 := h _ (getD_mem hi)
  rintro (h2 | h2 | ⟨h0, h2⟩)
  · omega
  · omega
  · have := hr (i - 1) i (by omega) hi
    omega
theorem risingB_mk {l : List Int} (h : ∀ x ∈ l, 0 ≤ x ∧ x ≤ 31) (hr : Rise id l) : risingB l = true := by
  unfold risingB
  rw [anyR_none fun i hi => ?_]
  · rfl
  refine decide_eq_false ?_
  have h1 := h _ (getD_mem hi)
  rintro (h2 | h2 | ⟨h0, h2⟩)
  · omega
  · omega
  · have h3 : l.getD (i - 1) default < l.getD i default := hr (i - 1) i (by omega) hi
    omega
theorem set_gd {l : List Hd} {i j : Nat} {x : Hd} (hi : i < l.length) : (l.set i x).getD j default = if i = j then x else l.getD j default := by
  rw [List.getD_eq_getElem?_getD, List.getElem?_set]
  split
  · first | rfl | (rw [if_pos hi]; rfl)
  · rw [← List.getD_eq_getElem?_getD]
theorem heldB_set {l : List Hd} (h : heldB l = true) {i : Nat} (hi : i < l.length) {a : List Int} (ha : risingB a = true) : heldB (l.set i { l.getD i default with acked := a }) = true := by
  obtain ⟨h1, h2⟩ := heldB_of h
  have hfl : ∀ j, ((l.set i { l.getD i default with acked := a }).getD j default).flow = (l.getD j default).flow ∧ ((l.set i { l.getD i default with acked := a }).getD j default).data = (l.getD j default).data := by
    intro j
    rw [set_gd hi]
    split
    · rename_i e; subst e; exact ⟨rfl, rfl⟩
    · exact ⟨rfl, rfl⟩
  have hrg : ∀ j, j < l.length → rangesB ((l.set i { l.getD i default with acked := a }).getD j default) = true := by
    intro j hj
    rw [set_gd hi]
    have h3 := rangesB_of (h2 j hj).1
    split
    · rename_i e; subst e
      unfold rangesB
      rw [ha, Bool.and_true]
      exact decide_eq_true ⟨h3.1, h3.2.1, h3.2.2.1, h3.2.2.2.1, h3.2.2.2.2.1, h3.2.2.2.2.2.1⟩
    · exact (h2 j hj).1
  unfold heldB
  rw [List.length_set, anyR_none fun j hj => ?_]
  · simp; omega
  refine decide_eq_false ?_
  rw [hrg j hj, (hfl j).1, (hfl (j - 1)).1, (hfl j).2]
  have h4 := h2 j hj
  rintro (h5 | h5 | ⟨h0, h5⟩)
  · cases h5
  · omega
  · have := h4.2.2 h0; omega

/-! Cells. -/
theorem formE_of {c : TC} {self len : Int} (h : formE c self len = 0) : (c.kind = 1 ∨ c.kind = 2 ∨ c.kind = 3) ∧ (c.kind ≠ 3 → 0 ≤ c.peer ∧ c.peer ≤ 31 ∧ c.peer ≠ self) := by
  unfold formE at h
  split at h
  · cases h
  · rename_i h1
    split at h
    · cases h
    · split at h
      · cases h
      · rename_i h3
        refine ⟨by omega, fun h4 => ?_⟩
        simp only [not_or, not_and] at h3
        have h5 := h3.2.2.1 h4
        have h6 : nodeB c.peer = true := by simpa using h5.1
        have h7 := of_decide_eq_true h6
        exact ⟨h7.1, by omega, h5.2⟩
/-- A cell of a right table, or none. -/
def CellOK (n : Int) (c : TC) : Prop := c = noC ∨ (c.kind = 1 ∨ c.kind = 2 ∨ c.kind = 3) ∧ (c.kind ≠ 3 → 0 ≤ c.peer ∧ c.peer ≤ 31 ∧ c.peer ≠ n)
theorem atM_ok (t : Tb) (slot : Int) (h : checkT t = 0) : CellOK t.node (atM t slot).1 := by
  unfold atM
  split
  · exact .inl rfl
  · split
    · rename_i i hf
      obtain ⟨hi, _, _⟩ := fstO_some hf
      refine .inr (formE_of (len := t.len) ?_)
      have hl := checkT_len h
      unfold checkT at h
      rw [if_neg (by rw [hl.2.2.2]; simp; omega), if_neg (by omega)] at h
      have := firstErr_all h i hi
      unfold tcErr at this
      split at this
      · rename_i h1; exact absurd this h1
      · rename_i h1; simpa using h1
    · exact .inl rfl
theorem atM_none {t : Tb} {slot : Int} (h : (atM t slot).2 = false) : (atM t slot).1 = noC := by
  unfold atM at h ⊢
  split
  · rfl
  · rename_i hc
    rw [if_neg hc] at h
    split
    · rename_i i hf
      rw [hf] at h; cases h
    · rfl
theorem node_ok {t : Tb} (h : checkT t = 0) : 0 ≤ t.node ∧ t.node ≤ 31 := by
  have := of_decide_eq_true (checkT_len h).2.2.2
  omega

/-! What a station sends. -/
def acF (a : Ac) : Fr := ⟨a.fkind, a.source, a.target, a.list, a.seq, a.flow, a.number, a.err, a.slot, a.rank, a.epoch, a.data⟩
theorem act_off {s : Sta} {slot : Int} {c : TC} (h : (actM s slot c).kind ≠ 0) : (actM s slot c).offset = c.offset := by
  unfold actM at h ⊢
  rw [offA_kind] at h
  rw [offA_neg h]
theorem act_frame {s : Sta} {slot : Int} {c : TC} (hck : checkS s = 0) (hc : CellOK s.tb.node c) (k1 : (actM s slot c).kind = 1) :
    okP (acF (actM s slot c)) ∧ (actM s slot c).data.size ≤ 100 ∧ ((actM s slot c).fkind = 1 ∨ (actM s slot c).fkind = 4) ∧ (actM s slot c).source = s.tb.node ∧ (c.send = true ∨ c.kind = 3) ∧ (c.kind ≠ 3 → (actM s slot c).target = c.peer) := by
  obtain ⟨h1, h2, h3, h4, h5, h6, h7⟩ := checkS_of hck
  have h7 := restB_of h7
  have hn := node_ok h1
  by_cases k2 : (actM s slot c).fkind = 1
  · obtain ⟨e1, e2, i, hf, _, _, ha⟩ := act_data k1 k2
    obtain ⟨hi, _, _⟩ := fstO_some hf
    have hH := (heldB_of h4).2 i hi
    have hr := rangesB_of hH.1
    have hp : 0 ≤ c.peer ∧ c.peer ≤ 31 ∧ c.peer ≠ s.tb.node := by
      rcases hc with hc | hc
      · rw [hc] at e1; cases e1
      · exact hc.2 (by omega)
    rw [ha]
    refine ⟨⟨⟨hn, ⟨h7.1, h7.2.1⟩, ?_, ?_⟩, .inl ⟨rfl, hp, ⟨hr.1, hr.2.1⟩, ⟨hr.2.2.1, hr.2.2.2.1⟩, rfl, rfl, rfl, rfl⟩⟩, hH.2.1, .inl rfl, rfl, .inl e2, fun _ => rfl⟩
    · show 0 ≤ (s.held.getD i default).frame % 256; omega
    · show (s.held.getD i default).frame % 256 ≤ 255; omega
  · obtain ⟨_, hm, ha, hk⟩ := act_msg hck k1 k2
    obtain ⟨i, hi, he⟩ := mem_getD hm
    have hfo := formP_of (p := sentP s c) (by rw [← he]; exact (checkQ_at h2 hi).1)
    have hb := of_decide_eq_false (h3 _ hm)
    rw [ha]
    refine ⟨⟨⟨hn, ⟨h7.1, h7.2.1⟩, h7.2.2.1, h7.2.2.2.1⟩, .inr (.inr (.inr ⟨rfl, ?_, rfl, rfl, rfl, rfl, rfl, rfl⟩))⟩, ?_, .inr rfl, rfl, ?_, fun k3 => ?_⟩
    · show (sentP s c).to = -1 ∨ 0 ≤ (sentP s c).to ∧ (sentP s c).to ≤ 31 ∧ (sentP s c).to ≠ s.tb.node
      omega
    · show (sentP s c).data.size ≤ 100
      omega
    · rcases hk with hk | hk
      · exact .inl hk.2.1
      · exact .inr hk.1
    · rcases hk with hk | hk
      · show (sentP s c).to = c.peer
        have hs : sentP s c = (firstQ s.qu c.peer).1 := by rw [sentP, if_neg k3]
        rw [hs]
        cases hf : idxTo s.qu.packets c.peer with
        | none => have := hk.2.2; rw [firstQ_none h2 hf] at this; cases this
        | some j =>
          rw [firstQ_some h2 hf]
          obtain ⟨_, hj, _⟩ := fstO_some hf
          exact of_decide_eq_true hj
      · exact absurd hk.1 k3

/-! Behind a slot. -/
def upF (u : Up) : Fr := ⟨u.fkind, u.source, u.target, u.list, u.seq, u.flow, u.number, u.err, u.slot, u.rank, u.epoch, u.data⟩
theorem forB_ok {f : Fr} {n : Int} (h : forB f n = true) : okP f := by
  unfold forB at h
  rw [Bool.and_eq_true] at h
  exact (checkF_iff f).1 (of_decide_eq_true h.1)
theorem heard_ok {s : Sta} (f : Fr) (hck : checkS s = 0) : Stay s (heardM s f).1 ∧ ((heardM s f).2.some = true → upF (heardM s f).2 = f ∧ forB f s.tb.node = true) := by
  obtain ⟨h1, h2, h3, h4, h5, h6, h7⟩ := checkS_of hck
  have hid : Stay s s := ⟨hck, Nat.le_refl _, rfl⟩
  unfold heardM
  split
  · exact ⟨hid, fun h => by cases h⟩
  · rename_i hn
    have hf : forB f s.tb.node = true := by
      cases h : forB f s.tb.node with
      | true => rfl
      | false => exact absurd (.inl h) hn
    have hok := forB_ok hf
    split
    · exact ⟨hid, fun _ => ⟨rfl, hf⟩⟩
    · split
      · refine ⟨⟨?_, Nat.le_refl _, rfl⟩, fun _ => ⟨rfl, hf⟩⟩
        refine checkS_good h1 (packets_sub hck (List.Sublist.refl _) rfl rfl) h4 (seenB_mk (fun x hx => ?_) (updK_rise _ (seen_rise h5))) h6 h7
        rcases updK_mem hx with rfl | hx
        · exact ⟨hok.1.1.1, hok.1.1.2, hok.1.2.2.1, hok.1.2.2.2⟩
        · obtain ⟨i, hi, rfl⟩ := mem_getD hx
          have := seenB_of h5 i hi
          exact ⟨this.1, this.2.1, this.2.2.1, this.2.2.2.1⟩
      · exact ⟨hid, fun _ => ⟨rfl, hf⟩⟩
theorem wait_ok {s : Sta} {slot : Int} {c : TC} (hck : checkS s = 0) (k2 : (actM s slot c).kind = 2) : Stay s (waitM s c) := by
  obtain ⟨h1, h2, h3, h4, h5, h6, h7⟩ := checkS_of hck
  have h7 := restB_of h7
  unfold waitM
  split
  · rename_i hw
    have hw0 : s.wait ≠ 0 := by
      intro h0
      unfold actM at k2
      rw [offA_kind] at k2
      unfold rawA at k2
      rw [if_neg (by omega), if_neg (by omega), if_pos hw.2] at k2
      unfold shrA at k2
      rw [if_pos ⟨hw.1, h0⟩] at k2
      cases k2
    refine ⟨checkS_good h1 (packets_sub hck (List.Sublist.refl _) rfl rfl) h4 h5 h6 (decide_eq_true ?_), Nat.le_refl _, rfl⟩
    show 0 ≤ s.list ∧ s.list ≤ 255 ∧ 0 ≤ s.seq ∧ s.seq ≤ 255 ∧ 0 ≤ s.back ∧ s.back ≤ 5 ∧ 0 ≤ s.wait - 1 ∧ s.wait - 1 ≤ 2 ^ s.back.toNat - 1 ∧ 0 ≤ s.seed ∧ s.seed ≤ 2147483647
    have h8 := h7.2.2.2.2.2.2.1
    have h9 := h7.2.2.2.2.2.2.2.1
    generalize (2 : Int) ^ s.back.toNat = pw at h9 ⊢
    exact ⟨h7.1, h7.2.1, h7.2.2.1, h7.2.2.2.1, h7.2.2.2.2.1, h7.2.2.2.2.2.1, by omega, by omega, h7.2.2.2.2.2.2.2.2.1, h7.2.2.2.2.2.2.2.2.2⟩
  · exact ⟨hck, Nat.le_refl _, rfl⟩
theorem ack_ok {s : Sta} {slot : Int} {c : TC} (hck : checkS s = 0) (hc : CellOK s.tb.node c) (k1 : (actM s slot c).kind = 1) (k2 : (actM s slot c).fkind = 1) : Stay s (ackM s (actM s slot c)) := by
  obtain ⟨h1, h2, h3, h4, h5, h6, h7⟩ := checkS_of hck
  obtain ⟨e1, e2, i, hf, _, _, ha⟩ := act_data k1 k2
  have hp : 0 ≤ c.peer ∧ c.peer ≤ 31 ∧ c.peer ≠ s.tb.node := by
    rcases hc with hc | hc
    · rw [hc] at e1; cases e1
    · exact hc.2 (by omega)
  have htg : (actM s slot c).target = c.peer := by rw [ha]; rfl
  unfold ackM
  split
  · exact ⟨hck, Nat.le_refl _, rfl⟩
  · rename_i j hj
    obtain ⟨hi, _, _⟩ := fstO_some hj
    have hr := (rangesB_of ((heldB_of h4).2 j hi).1).2.2.2.2.2.2
    refine ⟨checkS_good h1 (packets_sub hck (List.Sublist.refl _) rfl rfl) (heldB_set h4 hi (risingB_mk (fun x hx => ?_) (updK_rise _ (rise_of fun k hk h0 => (risingB_of hr k hk).2.2 h0)))) h5 h6 h7, Nat.le_refl _, rfl⟩
    rcases updK_mem hx with rfl | hx
    · rw [htg]; exact ⟨hp.1, hp.2.1⟩
    · obtain ⟨k, hk, rfl⟩ := mem_getD hx
      have := risingB_of hr k hk
      exact ⟨this.1, this.2.1⟩
theorem done_ok {s : Sta} {slot : Int} {c : TC} (r : Rs) (hck : checkS s = 0) (hc : CellOK s.tb.node c) :
    Stay s (doneM s slot c r).1 ∧ ((doneM s slot c r).2.some = true → (actM s slot c).kind = 2 ∧ r.heard = true ∧ upF (doneM s slot c r).2 = frOf r ∧ forB (frOf r) s.tb.node = true) := by
  have hid : Stay s s := ⟨hck, Nat.le_refl _, rfl⟩
  unfold doneM
  split
  · rename_i hk
    split
    · exact ⟨ack_ok hck hc hk.1 hk.2, fun h => by cases h⟩
    · exact ⟨hid, fun h => by cases h⟩
  · rename_i hk
    split
    · rename_i k1
      exact ⟨tried_ok _ hck (act_msg hck k1 (fun k2 => hk ⟨k1, k2⟩)).2.1, fun h => by cases h⟩
    · split
      · rename_i k2
        have hw := wait_ok hck k2
        split
        · rename_i hh
          have hq := heard_ok (frOf r) hw.1
          refine ⟨⟨hq.1.1, Nat.le_trans hq.1.2.1 hw.2.1, hq.1.2.2.trans hw.2.2⟩, fun h => ?_⟩
          have := hq.2 h
          rw [hw.2.2] at this
          exact ⟨k2, hh, this⟩
        · exact ⟨hw, fun h => by cases h⟩
      · exact ⟨hid, fun h => by cases h⟩
end Go.Proofs


