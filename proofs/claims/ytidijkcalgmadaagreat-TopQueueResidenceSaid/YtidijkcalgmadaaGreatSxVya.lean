/-
  What functions of the given program hand back, by walks over its code, and plain laws on that. No condition.
-/
import Derived.Test.YtidijkcalgmadaaGreatSxVxb
import Derived.Test.YtidijkcalgmadaaGreatSxVTp
-- SXS
-- SXM
-- SXN
namespace Go.Proofs
open Go Go.Sx Go.Proofs.T Go.Proofs.Q
set_option maxRecDepth 4000
set_option linter.unusedSimpArgs false
set_option linter.unusedVariables false
attribute [local irreducible] VR VC thenQ blockQ retL

/-! The table of a node with agreed cells to the node 2. -/
def wc (s : Int) : TC := ⟨s, 0, 2, true, 2, -1⟩
def wT (len : Int) (ss : List Int) : Tb := ⟨1, len, ss.map wc⟩
structure WOk (len : Int) (ss : List Int) : Prop where
  l1 : 1 ≤ len
  l12 : len ≤ 12
  rise : Rise id ss
  rng : ∀ x ∈ ss, 0 ≤ x ∧ x < len
  sz : ss.length ≤ 12
theorem wc_get {ss : List Int} {k : Nat} (h : k < ss.length) : (ss.map wc).getD k default = wc (ss.getD k default) := by
  rw [List.getD_eq_getElem?_getD, List.getD_eq_getElem?_getD, List.getElem?_map, List.getElem?_eq_getElem h]; rfl
theorem formE_wc {x len : Int} (h : 0 ≤ x ∧ x < len) : formE (wc x) 1 len = 0 := by
  unfold formE
  rw [if_neg (by simp [wc]), if_neg (by simp [wc]), if_neg]
  rintro (h1 | h1 | h1 | h1)
  · have : x < 0 ∨ len ≤ x := h1
    omega
  · have : (0 : Int) < 0 ∨ (16 : Int) ≤ 0 := h1
    omega
  · obtain ⟨_, h2 | h2⟩ := h1
    · have : nodeB 2 = false := h2
      cases this
    · have : (2 : Int) = 1 := h2
      omega
  · have : (2 : Int) = 1 := h1.1
    omega
theorem cmp_wc {a b : Int} (h : a < b) : ¬ 0 ≤ cmpTC (wc a) (wc b) := by
  have : cmpTC (wc a) (wc b) = -1 := by
    show orI [cmpI a b, cmpI 2 2] = -1
    unfold orI cmpI
    rw [if_pos h, if_pos (by decide)]
  omega
theorem wT_check {len : Int} {ss : List Int} (h : WOk len ss) : checkT (wT len ss) = 0 := by
  have h1 := h.l1
  have h2 := h.l12
  have h3 := h.sz
  have hl : (wT len ss).cells.length = ss.length := List.length_map ..
  unfold checkT
  rw [if_neg, if_neg (by rw [hl]; omega)]
  · refine firstErr_none fun k hk => ?_
    rw [hl] at hk
    unfold tcErr
    show (if formE ((ss.map wc).getD k default) 1 len ≠ 0 then _ else if 0 < k ∧ 0 ≤ cmpTC ((ss.map wc).getD (k - 1) default) ((ss.map wc).getD k default) then (5 : Int) else 0) = 0
    rw [wc_get hk, if_neg (by rw [formE_wc (h.rng _ (getD_mem hk))]; simp), if_neg]
    rintro ⟨h0, h5⟩
    rw [wc_get (by omega)] at h5
    exact cmp_wc (h.rise (k - 1) k (by omega) hk) h5
  · rintro (h4 | h4 | h4)
    · have : nodeB 1 = false := h4
      cases this
    · have : len < 1 := h4
      omega
    · have : 512 < len := h4
      omega
theorem lessB_wc (a b : Int) : lessB (wc a) (wc b) = decide (a < b) := by
  unfold lessB
  show (decide (a < b) || (decide (a = b) && decide ((2 : Int) < 2))) = _
  rw [show decide ((2 : Int) < 2) = false from rfl, Bool.and_false, Bool.or_false]
theorem taken_wc (ss : List Int) (x : Int) : takenB (ss.map wc) x 2 = decide (x ∈ ss) := by
  unfold takenB
  rw [List.any_map]
  by_cases h : x ∈ ss
  · rw [decide_eq_true h]
    exact List.any_eq_true.2 ⟨x, h, by simp [wc]⟩
  · rw [decide_eq_false h]
    refine List.any_eq_false.2 fun y hy => ?_
    simp only [Function.comp_apply, wc, decide_eq_true_eq, and_true]
    exact fun e => h (e ▸ hy)
theorem tw_lt {x : Int} : ∀ {ss : List Int}, ss.Pairwise (fun a b => a < b) → x ∉ ss → ss.takeWhile (fun a => decide (a < x)) = ss.filter (fun a => decide (a < x)) ∧ ss.dropWhile (fun a => decide (a < x)) = ss.filter (fun a => decide (x < a))
  | [], _, _ => ⟨rfl, rfl⟩
  | a :: l, hp, hx => by
    obtain ⟨h1, h2⟩ := List.pairwise_cons.1 hp
    have ih := tw_lt h2 fun h => hx (List.mem_cons_of_mem _ h)
    have hne : x ≠ a := fun e => hx (e ▸ List.mem_cons_self ..)
    by_cases h : a < x
    · rw [List.takeWhile_cons, List.dropWhile_cons, if_pos (decide_eq_true h), if_pos (decide_eq_true h), List.filter_cons_of_pos (p := fun a => decide (a < x)) (decide_eq_true h), List.filter_cons_of_neg (p := fun a => decide (x < a)) (by simp; omega), ih.1, ih.2]
      exact ⟨rfl, rfl⟩
    · rw [List.takeWhile_cons, List.dropWhile_cons, if_neg (by simp; omega), if_neg (by simp; omega)]
      constructor
      · refine (List.filter_eq_nil_iff.2 fun y hy => ?_).symm
        rcases List.mem_cons.1 hy with rfl | hy
        · simp; omega
        · have := h1 y hy; simp; omega
      · refine (List.filter_eq_self.2 fun y hy => ?_).symm
        rcases List.mem_cons.1 hy with rfl | hy
        · simp; omega
        · have := h1 y hy; simp; omega
theorem rise_pw {α : Type} [Inhabited α] {k : α → Int} {l : List α} (h : Rise k l) : l.Pairwise fun a b => k a < k b := by
  refine List.pairwise_iff_getElem.2 fun i j hi hj hij => ?_
  have := h i j hij hj
  rw [List.getD_eq_getElem?_getD, List.getD_eq_getElem?_getD, List.getElem?_eq_getElem hi, List.getElem?_eq_getElem hj] at this
  exact this
theorem pw_rise {α : Type} [Inhabited α] {k : α → Int} {l : List α} (h : l.Pairwise fun a b => k a < k b) : Rise k l := by
  intro i j hij hj
  have := List.pairwise_iff_getElem.1 h i j (by omega) hj hij
  rw [List.getD_eq_getElem?_getD, List.getD_eq_getElem?_getD, List.getElem?_eq_getElem (show i < l.length by omega), List.getElem?_eq_getElem hj]
  exact this
theorem updK_rise {α : Type} [Inhabited α] {k : α → Int} {l : List α} (x : α) (h : Rise k l) : Rise k (updK k l x) := by
  refine pw_rise ?_
  have hp := rise_pw h
  unfold updK
  rw [List.pairwise_append]
  refine ⟨hp.filter _, List.pairwise_cons.2 ⟨fun a ha => of_decide_eq_true (List.mem_filter.1 ha).2, hp.filter _⟩, fun a ha b hb => ?_⟩
  have h1 := of_decide_eq_true (List.mem_filter.1 ha).2
  rcases List.mem_cons.1 hb with rfl | hb
  · exact h1
  · have h2 := of_decide_eq_true (List.mem_filter.1 hb).2
    omega
theorem updK_mem {α : Type} {k : α → Int} {l : List α} {x y : α} (h : y ∈ updK k l x) : y = x ∨ y ∈ l := by
  unfold updK at h
  rcases List.mem_append.1 h with h | h
  · exact .inr (List.mem_filter.1 h).1
  · rcases List.mem_cons.1 h with h | h
    · exact .inl h
    · exact .inr (List.mem_filter.1 h).1
theorem updK_same {ss : List Int} {x : Int} (hr : Rise id ss) (hx : x ∈ ss) : updK id ss x = ss := by
  obtain ⟨i, hi, he⟩ := mem_getD hx
  rw [updK_old hi hr (show ss.getD i default = x from he)]
  rw [← he]
  apply List.ext_getElem?
  intro j
  rw [List.getElem?_set]
  split
  · rename_i e
    subst e
    rw [List.getD_eq_getElem?_getD, List.getElem?_eq_getElem hi]
    first | rfl | (rw [if_pos hi]; rfl)
  · rfl
theorem addR_wc {len x : Int} {ss : List Int} (h : WOk len ss) (hx : 0 ≤ x ∧ x < len) : addR (wT len ss) (wc x) = if x ∈ ss then (noT, 16) else (wT len (updK id ss x), 0) := by
  have hsz := h.sz
  unfold addR
  rw [if_neg (by rw [wT_check h]; simp), if_neg (by show ¬ formE (wc x) 1 len ≠ 0; rw [formE_wc hx]; simp)]
  have ht : takenB (wT len ss).cells (wc x).slot (wc x).kind = decide (x ∈ ss) := taken_wc ss x
  rw [ht]
  by_cases hm : x ∈ ss
  · rw [if_pos (decide_eq_true hm), if_pos hm]
  · rw [if_neg (by simpa using hm), if_neg hm, if_neg (by show ¬ (ss.map wc).length = 512; rw [List.length_map]; omega)]
    have e : putL (ss.map wc) (wc x) = (updK id ss x).map wc := by
      have ef : (fun y => lessB y (wc x)) ∘ wc = fun a => decide (a < x) := funext fun a => lessB_wc a x
      obtain ⟨h1, h2⟩ := tw_lt (x := x) (rise_pw h.rise) hm
      unfold putL
      rw [List.takeWhile_map, List.dropWhile_map, ef, h1, h2]
      unfold updK
      rw [List.map_append, List.map_cons]
      rfl
    show ((⟨1, len, putL (ss.map wc) (wc x)⟩ : Tb), (0 : Int)) = _
    rw [e]; rfl
theorem wOk_upd {len x : Int} {ss : List Int} (h : WOk len ss) (hx : 0 ≤ x ∧ x < len) (hs : ss.length ≤ 11) : WOk len (updK id ss x) := by
  refine ⟨h.l1, h.l12, updK_rise x h.rise, fun y hy => ?_, ?_⟩
  · rcases updK_mem hy with rfl | hy
    · exact hx
    · exact h.rng y hy
  · rw [updK_len h.rise]
    split <;> omega
def wS (len : Int) (l : List Int) : Nat → List Int
  | 0 => []
  | k + 1 => updK id (wS len l k) (l.getD k default % len)
theorem wS_ok {len : Int} {l : List Int} (h1 : 1 ≤ len) (h2 : len ≤ 12) (hl : l.length ≤ 12) : ∀ k, k ≤ l.length → WOk len (wS len l k) ∧ (wS len l k).length ≤ k
  | 0, _ => ⟨⟨h1, h2, fun i j _ hj => absurd hj (Nat.not_lt_zero _), fun x hx => (by cases hx), Nat.zero_le _⟩, Nat.le_refl _⟩
  | k + 1, hk => by
    obtain ⟨h3, h4⟩ := wS_ok h1 h2 hl k (by omega)
    have hx : 0 ≤ l.getD k default % len ∧ l.getD k default % len < len := ⟨Int.emod_nonneg _ (by omega), Int.emod_lt_of_pos _ (by omega)⟩
    refine ⟨wOk_upd h3 hx (by omega), ?_⟩
    show (updK id (wS len l k) (l.getD k default % len)).length ≤ k + 1
    rw [updK_len h3.rise]
    split <;> omega

/-! The greatest gap. -/
def nxT (l : List TC) (len : Int) (i : Nat) : Int := if i + 1 = l.length then (l.getD 0 default).slot + len else (l.getD (i + 1) default).slot
def gapT (l : List TC) (len : Int) : Nat → Int
  | 0 => 0
  | k + 1 => max (gapT l len k) (nxT l len k - (l.getD k default).slot)
/-- The gap is at least each of those before. -/
theorem gapT_ge {l : List TC} {len : Int} {k i : Nat} (h : i < k) : nxT l len i - (l.getD i default).slot ≤ gapT l len k := by
  induction k with
  | zero => omega
  | succ k ih =>
    show _ ≤ max (gapT l len k) (nxT l len k - (l.getD k default).slot)
    rcases Nat.lt_or_ge i k with h1 | h1
    · have := ih h1; omega
    · have : i = k := by omega
      subst this; omega
theorem nx_rng {len : Int} {ss : List Int} (h : WOk len ss) {i : Nat} (hi : i < ss.length) : 0 ≤ nxT (ss.map wc) len i ∧ nxT (ss.map wc) len i < 24 := by
  have h1 := h.l1
  have h2 := h.l12
  unfold nxT
  rw [List.length_map]
  split
  · rw [wc_get (by omega)]
    have := h.rng _ (getD_mem (show 0 < ss.length by omega))
    show 0 ≤ ss.getD 0 default + len ∧ ss.getD 0 default + len < 24
    omega
  · rw [wc_get (by omega)]
    have := h.rng _ (getD_mem (show i + 1 < ss.length by omega))
    show 0 ≤ ss.getD (i + 1) default ∧ ss.getD (i + 1) default < 24
    omega
theorem gapT_rng {len : Int} {ss : List Int} (h : WOk len ss) : ∀ k, k ≤ ss.length → 0 ≤ gapT (ss.map wc) len k ∧ gapT (ss.map wc) len k ≤ 24
  | 0, _ => ⟨Int.le_refl _, (by show (0 : Int) ≤ 24; decide)⟩
  | k + 1, hk => by
    have ih := gapT_rng h k (by omega)
    have hn := nx_rng h (i := k) (by omega)
    have hr := h.rng _ (getD_mem (show k < ss.length by omega))
    show 0 ≤ max (gapT (ss.map wc) len k) (nxT (ss.map wc) len k - ((ss.map wc).getD k default).slot) ∧ max (gapT (ss.map wc) len k) (nxT (ss.map wc) len k - ((ss.map wc).getD k default).slot) ≤ 24
    rw [wc_get (by omega)]
    show 0 ≤ max _ (_ - ss.getD k default) ∧ max _ (_ - ss.getD k default) ≤ 24
    omega
abbrev enc8' (x : Int) : List D := [.int .u8 x]
def gapW (len : Int) (l : List Int) : Int := gapT ((wS len l l.length).map wc) len (wS len l l.length).length
theorem f_addW {len x : Int} {ss : List Int} (h : WOk len ss) (hx : 0 ≤ x ∧ x < len) (hm : x ∈ ss) : FnS Tryz.prog 29 [tbA (wT len ss), tcA (wc x)] [] (.tup [tbA noT, AI 16]) [] := by
  have := r_add_spec (wT len ss) (wc x)
  rwa [addR_wc h hx, if_pos hm] at this
theorem f_addN {len x : Int} {ss : List Int} (h : WOk len ss) (hx : 0 ≤ x ∧ x < len) (hm : x ∉ ss) : FnS Tryz.prog 29 [tbA (wT len ss), tcA (wc x)] [] (.tup [tbA (wT len (updK id ss x)), AI 0]) [] := by
  have := r_add_spec (wT len ss) (wc x)
  rwa [addR_wc h hx, if_neg hm] at this
set_option maxHeartbeats 4000000 in
theorem waits_spec (len : Int) (l : List Int) (h1 : 1 ≤ len) (h2 : len ≤ 12) (hl : l.length ≤ 12) (hr : ∀ x ∈ l, 0 ≤ x ∧ x < 256) :
    FnS Tryz.prog 7 [AI len, AD (rdOf enc8' 1 l)] [] (.tup [tbA (wT len (wS len l l.length)), AI (gapW len l)]) [] := by
  refine FnS.of_body (enters_of Tryz.func7 (by kernel_rfl) rfl) Tryz.func7 rfl Tryz.ntmps7 Tryz.results7 rfl rfl rfl rfl fun E hS => ?_
  refine vc_retL ?_
  repeat' (first
    | (show VR _ _ _ (_ :: _) _ _ _; first | refine x_opF rfl (by first | exact True.intro | omega) ?_)
    | (show VR _ _ _ [] _ _ _; first | refine vr_nil ?_)
    | (show thenQ _ _ _ _; first | refine q_then_n ?_)
    | refine vc_seq ?_
    | refine vc_region ?_
    | refine vc_block ?_
    | fail)
  refine vc_loopI (ι := Nat) (fun k => stOf [(0, AI len), (4, .c (.ptr 4 0)), (5, AI 0), (6, .c (.ptr 6 0)), (17, AD (rdOf enc8' 1 l)), (18, AI l.length), (19, AI k)] [(4, .box noT.cs), (6, .box (wT len (wS len l k)).cs)]) (fun k => k ≤ l.length) (fun k => l.length - k) 0 (Nat.zero_le _) ?_ ?_
  · refine le_gen0 (fun n => n) ?_ ?_ rfl (by first | rfl | (simp only [wfL, wfs, mpO_namesB, mpO_namesI]; rfl))
    all_goals repeat' (first | exact trivial | refine ⟨⟨_, rfl, ?_⟩, ?_⟩ | exact .c .d | exact .c (.ptr rfl) | refine .box ?_ | exact .nil | refine .cons ?_ ?_ | exact .d | fail)
  · intro k hk
    obtain ⟨hw, hwl⟩ := wS_ok h1 h2 hl k hk
    rcases Nat.lt_or_ge k l.length with hlt | hge
    · have dlt : decide ((k : Int) < (l.length : Int)) = true := decide_eq_true (by omega)
      have hx0 := hr _ (getD_mem hlt)
      have hx : 0 ≤ l.getD k default % len ∧ l.getD k default % len < len := ⟨Int.emod_nonneg _ (by omega), Int.emod_lt_of_pos _ (by omega)⟩
      by_cases hm : l.getD k default % len ∈ wS len l k
      · repeat' (first
          | (show VR _ _ _ (_ :: _) _ _ _; first | refine x_opF rfl (by first | exact True.intro | omega) ?_ | (show VR _ _ _ (⟨_, .call ⟨.value _, _, _⟩, _, _, _, _⟩ :: _) _ _ _; first | refine vr_calldU (f_addW hw hx hm) (gk rfl) rfl rfl rfl (by first | rfl | (simp only [wfRes, wfL, wfArgs, wfs, mpO_namesB, mpO_namesI]; rfl)) rfl (by first | exact newB_nil | exact newB_O | ((simp only [newB, List.map_cons, List.map_nil, Blk.shift, rowOf_shift]) <;> rfl) | rfl) rfl ?_) | (show VR _ _ _ (⟨_, .indexAddr _ _ _, _, _, _, _⟩ :: _) _ _ _; first | refine vr_index_rd (gk rfl) rfl rfl rfl rfl rfl (by omega) rfl ?_) | (show VR _ _ _ (⟨_, .convert _ _ _, _, _, _, _⟩ :: _) _ _ _; first | refine vr_convert_id (gk rfl) rfl ⟨_, rfl⟩ rfl (by first | exact wrap_i64 (by omega) | exact wrap_u64 (by omega) | exact wrap_u16 (by omega) | exact wrap_u8 (by omega) | exact wrap_u32 (by omega)) rfl ?_))
          | (show VR _ _ _ [] _ _ _; first | refine vr_nil ?_ | refine vr_nil_t (by kernel_rfl) ?_)
          | (show thenQ _ _ _ _; first | refine q_then_n ?_)
          | (show blockQ _ _ _ _; first | refine q_blk_n ?_)
          | refine vc_seq ?_
          | refine vc_region ?_ | refine vc_region_t ?_
          | (show VC _ (.cond _ _ _) _ _; first | refine vc_cond_t rfl ?_ | refine vc_cond_f rfl ?_ | refine x_know rfl (by assumption) ?_)
          | refine vc_block ?_ | refine vc_skip ?_
          | fail)
        refine ⟨k + 1, by omega, by omega, ?_⟩
        rw [show wS len l (k + 1) = wS len l k from updK_same hw.rise hm]
        refine le_gen0 (fun n => n) ?_ ?_ rfl (by first | rfl | (simp only [wfL, wfs, mpO_namesB, mpO_namesI]; rfl))
        all_goals repeat' (first | exact trivial | refine ⟨⟨_, rfl, ?_⟩, ?_⟩ | exact .c .d | exact .c (.ptr rfl) | exact .boxD rfl rfl | fail)
      · repeat' (first
          | (show VR _ _ _ (_ :: _) _ _ _; first | refine x_opF rfl (by first | exact True.intro | omega) ?_ | (show VR _ _ _ (⟨_, .call ⟨.value _, _, _⟩, _, _, _, _⟩ :: _) _ _ _; first | refine vr_calldU (f_addN hw hx hm) (gk rfl) rfl rfl rfl (by first | rfl | (simp only [wfRes, wfL, wfArgs, wfs, mpO_namesB, mpO_namesI]; rfl)) rfl (by first | exact newB_nil | exact newB_O | ((simp only [newB, List.map_cons, List.map_nil, Blk.shift, rowOf_shift]) <;> rfl) | rfl) rfl ?_) | (show VR _ _ _ (⟨_, .indexAddr _ _ _, _, _, _, _⟩ :: _) _ _ _; first | refine vr_index_rd (gk rfl) rfl rfl rfl rfl rfl (by omega) rfl ?_) | (show VR _ _ _ (⟨_, .convert _ _ _, _, _, _, _⟩ :: _) _ _ _; first | refine vr_convert_id (gk rfl) rfl ⟨_, rfl⟩ rfl (by first | exact wrap_i64 (by omega) | exact wrap_u64 (by omega) | exact wrap_u16 (by omega) | exact wrap_u8 (by omega) | exact wrap_u32 (by omega)) rfl ?_))
          | (show VR _ _ _ [] _ _ _; first | refine vr_nil ?_ | refine vr_nil_t (by kernel_rfl) ?_)
          | (show thenQ _ _ _ _; first | refine q_then_n ?_)
          | (show blockQ _ _ _ _; first | refine q_blk_n ?_)
          | refine vc_seq ?_
          | refine vc_region ?_ | refine vc_region_t ?_
          | (show VC _ (.cond _ _ _) _ _; first | refine vc_cond_t rfl ?_ | refine x_know rfl (by assumption) ?_)
          | refine vc_block ?_ | refine vc_skip ?_
          | fail)
        refine ⟨k + 1, by omega, by omega, ?_⟩
        rw [show wS len l (k + 1) = updK id (wS len l k) (l.getD k default % len) from rfl]
        refine le_gen0 (fun n => n) ?_ ?_ rfl (by first | rfl | (simp only [wfL, wfs, mpO_namesB, mpO_namesI]; rfl))
        all_goals repeat' (first | exact trivial | refine ⟨⟨_, rfl, ?_⟩, ?_⟩ | exact .c .d | exact .c (.ptr rfl) | exact .boxD rfl rfl | fail)
    · have dlt : decide ((k : Int) < (l.length : Int)) = false := decide_eq_false (by omega)
      have hk' : k = l.length := by omega
      subst hk'
      repeat' (first
        | (show VR _ _ _ (_ :: _) _ _ _; first | refine x_opF rfl (by first | exact True.intro | omega) ?_)
        | (show VR _ _ _ [] _ _ _; first | refine vr_nil ?_)
        | (show thenQ _ _ _ _; first | refine q_then_n ?_ | refine q_then_x ?_)
        | (show blockQ _ _ _ _; first | refine q_blk_x ?_)
        | refine vc_seq ?_
        | refine vc_region ?_
        | (show VC _ (.cond _ _ _) _ _; first | refine vc_cond_f rfl ?_ | refine x_know rfl (by assumption) ?_)
        | refine vc_exit ?_ | refine vc_block ?_
        | fail)
      obtain ⟨cs, hcs⟩ : ∃ cs, cs = (wT len (wS len l l.length)).cells := ⟨_, rfl⟩
      have hcl : cs.length ≤ 12 := by rw [hcs]; show ((wS len l l.length).map wc).length ≤ 12; rw [List.length_map]; exact hw.sz
      have hcr : ∀ i, i < cs.length → 0 ≤ (cs.getD i default).slot ∧ (cs.getD i default).slot < len := fun i hi => by
        have hi' : i < (wS len l l.length).length := by rw [hcs] at hi; simpa [wT] using hi
        have := hw.rng _ (getD_mem hi')
        rw [hcs]
        show 0 ≤ (((wS len l l.length).map wc).getD i default).slot ∧ (((wS len l l.length).map wc).getD i default).slot < len
        rw [wc_get hi']
        exact this
      have hgb : ∀ k, k ≤ cs.length → 0 ≤ gapT cs len k ∧ gapT cs len k ≤ 24 := fun k hk => by
        have := gapT_rng hw k (by rw [hcs] at hk; simpa [wT] using hk)
        rwa [show (wS len l l.length).map wc = cs from hcs.symm] at this
      have hgw : gapW len l = gapT cs len cs.length := by
        unfold gapW
        rw [hcs]
        show _ = gapT ((wS len l l.length).map wc) len ((wS len l l.length).map wc).length
        rw [List.length_map]
      have hT : wT len (wS len l l.length) = ⟨1, len, cs⟩ := by rw [hcs]; rfl
      rw [hgw, hT]
      clear hgw hT hw hwl hcs
      refine vc_loopI (ι := Nat) (fun k => stOf [(0, AI len), (4, .c (.ptr 4 0)), (5, AI 0), (6, .c (.ptr 6 0)), (11, AI (gapT cs len k)), (38, AD (tcs cs)), (39, AI cs.length), (40, AI k)] [(4, .box noT.cs), (6, .box [.d (.int .i64 1), .d (.int .i64 len), .d (tcs cs)])]) (fun k => k ≤ cs.length) (fun k => cs.length - k) 0 (Nat.zero_le _) ?_ ?_
      · refine le_gen0 (fun n => n) ?_ ?_ rfl (by first | rfl | (simp only [wfL, wfs, mpO_namesB, mpO_namesI]; rfl))
        all_goals repeat' (first | exact trivial | refine ⟨⟨_, rfl, ?_⟩, ?_⟩ | exact .c .d | exact .c (.ptr rfl) | exact .boxD rfl rfl | fail)
      · intro k hk
        rcases Nat.lt_or_ge k cs.length with hlt | hge2
        · have dlt2 : decide ((k : Int) < (cs.length : Int)) = true := decide_eq_true (by omega)
          have hk1 := hcr k hlt
          have hk2 := hcr 0 (by omega)
          have hgk := hgb k hk
          by_cases hla : k + 1 = cs.length
          · have em : ((k : Int) + 1) % (cs.length : Int) = 0 := by rw [show (k : Int) + 1 = (cs.length : Int) by omega, Int.emod_self]
            have dl : decide ((k : Int) = (cs.length : Int) - 1) = true := decide_eq_true (by omega)
            have hk3 : 0 ≤ (cs.getD (((k : Int) + 1) % (cs.length : Int)).toNat default).slot ∧ (cs.getD (((k : Int) + 1) % (cs.length : Int)).toNat default).slot < len := by rw [em]; exact hk2
            have eg : gapT cs len (k + 1) = max (gapT cs len k) ((cs.getD (((k : Int) + 1) % (cs.length : Int)).toNat default).slot + len - (cs.getD k default).slot) := by
              rw [em]
              show max (gapT cs len k) (nxT cs len k - (cs.getD k default).slot) = _
              unfold nxT
              rw [if_pos hla]; rfl
            repeat' (first
              | (show VR _ _ _ (_ :: _) _ _ _; first | refine x_opF rfl (by first | exact True.intro | omega) ?_ | (show VR _ _ _ (⟨_, .indexAddr _ _ _, _, _, _, _⟩ :: _) _ _ _; first | refine vr_index_rd (gk rfl) rfl rfl rfl rfl rfl (by omega) rfl ?_ | refine vr_index_rdN (gk rfl) rfl rfl rfl rfl (by first | omega | decide) rfl ?_))
              | (show VR _ _ _ [] _ _ _; first | refine vr_nil ?_ | refine vr_nil_t (by kernel_rfl) ?_)
              | (show thenQ _ _ _ _; first | refine q_then_n ?_)
              | (show blockQ _ _ _ _; first | refine q_blk_n ?_)
              | refine vc_seq ?_
              | refine vc_region ?_ | refine vc_region_t ?_
              | (show VC _ (.cond _ _ _) _ _; first | refine vc_cond_t rfl ?_ | refine x_know rfl (by assumption) ?_)
              | refine vc_block ?_ | refine vc_skip ?_
              | fail)
            refine ⟨k + 1, by omega, by omega, ?_⟩
            rw [eg]
            refine le_gen0 (fun n => n) ?_ ?_ rfl (by first | rfl | (simp only [wfL, wfs, mpO_namesB, mpO_namesI]; rfl))
            all_goals repeat' (first | exact trivial | refine ⟨⟨_, rfl, ?_⟩, ?_⟩ | exact .c .d | exact .c (.ptr rfl) | exact .boxD rfl rfl | fail)
          · have em : ((k : Int) + 1) % (cs.length : Int) = k + 1 := Int.emod_eq_of_lt (by omega) (by omega)
            have dl : decide ((k : Int) = (cs.length : Int) - 1) = false := decide_eq_false (by omega)
            have hk3 : 0 ≤ (cs.getD (((k : Int) + 1) % (cs.length : Int)).toNat default).slot ∧ (cs.getD (((k : Int) + 1) % (cs.length : Int)).toNat default).slot < len := by
              rw [em, show ((k : Int) + 1).toNat = k + 1 by omega]; exact hcr (k + 1) (by omega)
            have eg : gapT cs len (k + 1) = max (gapT cs len k) ((cs.getD (((k : Int) + 1) % (cs.length : Int)).toNat default).slot - (cs.getD k default).slot) := by
              rw [em, show ((k : Int) + 1).toNat = k + 1 by omega]
              show max (gapT cs len k) (nxT cs len k - (cs.getD k default).slot) = _
              unfold nxT
              rw [if_neg hla]
            repeat' (first
              | (show VR _ _ _ (_ :: _) _ _ _; first | refine x_opF rfl (by first | exact True.intro | omega) ?_ | (show VR _ _ _ (⟨_, .indexAddr _ _ _, _, _, _, _⟩ :: _) _ _ _; first | refine vr_index_rd (gk rfl) rfl rfl rfl rfl rfl (by omega) rfl ?_ | refine vr_index_rdN (gk rfl) rfl rfl rfl rfl (by first | omega | decide) rfl ?_))
              | (show VR _ _ _ [] _ _ _; first | refine vr_nil ?_ | refine vr_nil_t (by kernel_rfl) ?_)
              | (show thenQ _ _ _ _; first | refine q_then_n ?_)
              | (show blockQ _ _ _ _; first | refine q_blk_n ?_)
              | refine vc_seq ?_
              | refine vc_region ?_ | refine vc_region_t ?_
              | (show VC _ (.cond _ _ _) _ _; first | refine vc_cond_t rfl ?_ | refine vc_cond_f rfl ?_ | refine x_know rfl (by assumption) ?_)
              | refine vc_block ?_ | refine vc_skip ?_
              | fail)
            refine ⟨k + 1, by omega, by omega, ?_⟩
            rw [eg]
            refine le_gen0 (fun n => n) ?_ ?_ rfl (by first | rfl | (simp only [wfL, wfs, mpO_namesB, mpO_namesI]; rfl))
            all_goals repeat' (first | exact trivial | refine ⟨⟨_, rfl, ?_⟩, ?_⟩ | exact .c .d | exact .c (.ptr rfl) | exact .boxD rfl rfl | fail)
        · have dlt2 : decide ((k : Int) < (cs.length : Int)) = false := decide_eq_false (by omega)
          have hk' : k = cs.length := by omega
          subst hk'
          repeat' (first
            | (show VR _ _ _ (_ :: _) _ _ _; first | refine x_opF rfl (by first | exact True.intro | omega) ?_)
            | (show VR _ _ _ [] _ _ _; first | refine vr_nil ?_)
            | (show thenQ _ _ _ _; first | refine q_then_n ?_ | refine q_then_x ?_)
            | (show blockQ _ _ _ _; first | refine q_blk_x ?_)
            | refine vc_seq ?_
            | refine vc_region ?_
            | (show VC _ (.cond _ _ _) _ _; first | refine vc_cond_f rfl ?_ | refine x_know rfl (by assumption) ?_)
            | refine vc_ret ?_ | refine vc_exit ?_
            | fail)
          refine retL_of (le_gen0 (l := [(4, .c (.ptr 4 0)), (5, AI (gapT cs len cs.length))]) (b := [(4, .box (Tb.cs ⟨1, len, cs⟩))]) (fun n => n) ?_ ?_ rfl (by first | rfl | (simp only [wfL, wfs, mpO_namesB, mpO_namesI]; rfl))) (ret_agg_dL isRet_r rfl rfl rfl rfl rfl rfl rfl)
          all_goals repeat' (first | exact trivial | refine ⟨⟨_, rfl, ?_⟩, ?_⟩ | exact .c .d | exact .c (.ptr rfl) | exact .boxD rfl rfl | fail)
end Go.Proofs


