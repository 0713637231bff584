/-
  What functions of the given program hand back, by walks over its code, and plain laws on that. No condition.
-/
import Derived.Test.YtidijkcalgmadaaGreatSxMS
import Derived.Test.YtidijkcalgmadaaGreatSxMD
import Derived.Test.YtidijkcalgmadaaGreatSxMR
set_option linter.unusedSimpArgs false
set_option linter.unusedVariables false
section
namespace Go.Proofs.R
open Go Go.Sx Go.Proofs.P
structure WOK (n : Nat) (w : Wd) : Prop where
  len : w.st.length = n
  rk : ∀ i, i < n -> rkErr (w.st.getD i default) = 0 /\ (w.st.getD i default).node = i
  said : ∀ a ∈ w.said, advB a.ep a.rank = true /\ 0 <= a.src
theorem st_set {L : List Rk} {i j : Nat} {w : Rk} (hi : i < L.length) : (L.set i w).getD j default = if j = i then w else L.getD j default := by
  by_cases h : j = i
  · subst h; simp [List.getD_eq_getElem?_getD, hi]
  · simp [List.getD_eq_getElem?_getD, h, List.getElem?_set_ne (Ne.symm h)]
theorem WOK.set {n : Nat} {w : Wd} (h : WOK n w) {i : Nat} (hi : i < n) {r : Rk} (hr : rkErr r = 0) (hn : r.node = i) {said : List Ad} (hs : ∀ a ∈ said, advB a.ep a.rank = true /\ 0 <= a.src) : WOK n ⟨w.st.set i r, said⟩ := by
  refine ⟨by rw [List.length_set]; exact h.len, fun j hj => ?_, hs⟩
  show rkErr ((w.st.set i r).getD j default) = 0 /\ ((w.st.set i r).getD j default).node = j
  rw [st_set (by rw [h.len]; exact hi)]
  split
  · rename_i e; subst e; exact ⟨hr, hn⟩
  · exact h.rk j hj
theorem adopt_rk {r : Rk} {fr e k c : Int} (h : (adopt' r fr e k c).2 = 0) : rkErr (adopt' r fr e k c).1 = 0 /\ (adopt' r fr e k c).1.node = r.node := by
  rcases adopt_or r fr e k c with hc | hc
  · rw [adopt_yes hc]
    exact ⟨rk_adopted hc, begin_node r e⟩
  · exact absurd h hc
theorem update_rk {r : Rk} {e k c : Int} (hr : rkErr r = 0) (hp : r.parent ≠ -1) (ha : advB e k = true) (hc : inR c 1 1023 = true) : rkErr (update' r e k c).1 = 0 /\ (update' r e k c).1.node = r.node := by
  obtain ⟨_, h⟩ := update_cases hr hp ha hc
  rcases h with ⟨_, h⟩ | ⟨_, hc, h⟩ | ⟨_, h⟩
  · rw [h]; exact ⟨hr, rfl⟩
  · rw [h]; exact ⟨rk_adopted hc, begin_node r e⟩
  · rw [h]
    have hb := rk_begin hr (bounds_adv ha).1 hp
    exact ⟨rk_lose hb, (lose_node _).trans (begin_node r e)⟩
theorem WOK.step {n : Nat} {w : Wd} (h : WOK n w) {x : Ev} (he : evErr n x = 0) : WOK n (stepW w x) := by
  have hk : 1 <= x.kind /\ x.kind <= 5 := by
    by_cases hk : 1 <= x.kind /\ x.kind <= 5
    · exact hk
    · unfold evErr at he; rw [if_pos hk] at he; cases he
  have hx : (0 <= x.node /\ x.node < n) /\ (x.kind = 2 -> 0 <= x.which /\ 1 <= x.cost /\ x.cost <= 1023) := by
    unfold evErr at he
    rw [if_neg (by simpa using hk)] at he
    by_cases h2 : ¬ (0 <= x.node /\ x.node < n) \/ (x.kind = 2 /\ (x.which < 0 \/ ¬ (1 <= x.cost /\ x.cost <= 1023)))
    · rw [if_pos h2] at he; cases he
    · refine ⟨?_, fun h3 => ?_⟩
      · by_cases h4 : 0 <= x.node /\ x.node < n
        · exact h4
        · exact absurd (.inl h4) h2
      · by_cases h4 : 0 <= x.which /\ 1 <= x.cost /\ x.cost <= 1023
        · exact h4
        · exact absurd (.inr ⟨h3, by omega⟩) h2
  obtain ⟨i, hi⟩ : ∃ i : Nat, x.node.toNat = i := ⟨_, rfl⟩
  have hin : i < n := by omega
  obtain ⟨r1, r2⟩ := h.rk i hin
  unfold stepW
  rw [hi]
  split
  · unfold advS advA
    by_cases h0 : (advM (w.st.getD i default)).2.2.2 = 0
    · rw [if_pos h0, if_pos h0]
      have hk : (w.st.getD i default).rank ≠ 65535 := by
        intro e
        unfold advM at h0
        rw [if_neg (fun hh => hh r1), if_pos e] at h0
        cases h0
      obtain ⟨_, a2, a3, a4, a5, a6⟩ := adv_rk r1 hk
      have e : advM (w.st.getD i default) = ({ w.st.getD i default with least := min (w.st.getD i default).least (w.st.getD i default).rank }, (w.st.getD i default).epoch, (w.st.getD i default).rank, 0) := by
        unfold advM
        rw [if_neg (fun hh => hh r1), if_neg hk]
      refine h.set hin a6 (by rw [a2]; exact r2) fun a ha => ?_
      rcases List.mem_append.1 ha with ha | ha
      · exact h.said a ha
      · have e2 : a = ⟨i, (advM (w.st.getD i default)).2.1, (advM (w.st.getD i default)).2.2.1⟩ := by simpa using ha
        rw [e2, e]
        refine ⟨?_, by show (0 : Int) <= (i : Int); omega⟩
        show advB (w.st.getD i default).epoch (w.st.getD i default).rank = true
        rw [advB_t]; omega
    · rw [if_neg h0, if_neg h0]; exact h
  split
  · rename_i hk2
    obtain ⟨c1, c2, c3⟩ := hx.2 hk2
    unfold hearS
    by_cases h0 : w.said = []
    · rw [if_pos h0]; exact h
    rw [if_neg h0]
    have hlen : 0 < w.said.length := List.length_pos_iff.2 h0
    have hmem : saidAt w.said x.which ∈ w.said := by
      have h1 := Int.emod_lt_of_pos x.which (show (0 : Int) < w.said.length by omega)
      have h2 := Int.emod_nonneg x.which (show (w.said.length : Int) ≠ 0 by omega)
      unfold saidAt
      rw [List.getD_eq_getElem?_getD, List.getElem?_eq_getElem (by omega)]
      exact List.getElem_mem _
    obtain ⟨s1, s2⟩ := h.said _ hmem
    by_cases h1 : (saidAt w.said x.which).src = i
    · rw [if_pos h1]; exact h
    rw [if_neg h1]
    by_cases h2 : (saidAt w.said x.which).src = (w.st.getD i default).parent
    · rw [if_pos h2]
      obtain ⟨u1, u2⟩ := update_rk (c := x.cost) r1 (by omega) s1 (by rw [inR_t]; omega)
      exact h.set hin u1 (u2.trans r2) h.said
    rw [if_neg h2]
    split
    · rename_i h3
      obtain ⟨u1, u2⟩ := adopt_rk h3.1
      exact h.set hin u1 (u2.trans r2) h.said
    · exact h
  split
  · unfold renS
    split
    · rename_i h0
      obtain ⟨q1, q2, _, _⟩ := ren_rk r1
      rw [if_pos h0] at q1 q2
      exact h.set hin q1 (q2.trans r2) h.said
    · exact h
  · exact h.set hin (rk_lose r1) ((lose_node _).trans r2) h.said
theorem startL_ok {n : Nat} (hn : n <= 32) : WOK n ⟨startL n, []⟩ := by
  refine ⟨startL_len n, fun i hi => ?_, fun a ha => nomatch ha⟩
  show rkErr ((startL n).getD i default) = 0 /\ ((startL n).getD i default).node = i
  rw [startL_at hi]
  exact ⟨(start_rk (by omega)).1, (start_rk (by omega)).2.1⟩
theorem play_ok {n : Nat} (hn : n <= 32) (l : List Ev) (he : ∀ i, i < l.length -> evErr n (l.getD i default) = 0) : ∀ k, k <= l.length -> WOK n (playW n l k)
  | 0, _ => startL_ok hn
  | k + 1, hk => (play_ok hn l he k (by omega)).step (he k hk)
theorem playM_ok {n : Nat} (hn : n <= 32) {l : List Ev} (h : (playM n l).2 = 0) : (playM n l).1.length = n /\ ∀ i, i < n -> rkErr ((playM n l).1.getD i default) = 0 /\ ((playM n l).1.getD i default).node = i := by
  unfold playM at h ⊢
  by_cases h0 : firstErr l.length (fun i => evErr n (l.getD i default)) = 0
  · rw [if_neg (fun hh => hh h0)]
    have hw := play_ok hn l (fun i hi => Go.Proofs.D.firstErr_zero h0 i hi) l.length (Nat.le_refl _)
    exact ⟨hw.len, hw.rk⟩
  · rw [if_pos h0] at h
    exact absurd h h0
end Go.Proofs.R
end
section
namespace Go.Proofs.D
open Go Go.Sx
def atK (pa : Int -> Int) (i : Int) : Nat -> Int
  | 0 => i
  | k + 1 => pa (atK pa i k)
def chain (pa : Int -> Int) (i : Int) (k : Nat) : List Int := (List.range (k + 1)).map (atK pa i)
def condK (pa : Int -> Int) (n : Nat) (i : Int) (k : Nat) : Prop := 0 < atK pa i k /\ atK pa i k < n /\ k + 1 <= n
theorem chain_len (pa : Int -> Int) (i : Int) (k : Nat) : (chain pa i k).length = k + 1 := by simp [chain]
theorem chain_at {pa : Int -> Int} {i : Int} {k j : Nat} (h : j <= k) : (chain pa i k).getD j default = atK pa i j := by
  simp [chain, List.getD_eq_getElem?_getD, show j < k + 1 by omega]
theorem chain_succ (pa : Int -> Int) (i : Int) (k : Nat) : chain pa i (k + 1) = chain pa i k ++ [atK pa i (k + 1)] := by
  simp [chain, List.range_succ]
theorem atK_add {pa : Int -> Int} {i : Int} {a b : Nat} (h : atK pa i a = atK pa i b) : ∀ t, atK pa i (a + t) = atK pa i (b + t)
  | 0 => h
  | t + 1 => by
    show pa (atK pa i (a + t)) = pa (atK pa i (b + t))
    rw [atK_add h t]
section
variable {tree : List RP} {pa : Int -> Int} {n : Nat} {i : Int} {k : Nat}
theorem lead_way (hn : n <= 32) (hf : ∀ x, foundRp tree x = decide (1 <= x /\ x < (n : Int))) (hp : ∀ x, 1 <= x -> x < (n : Int) -> parR tree x = pa x) (hc : ∀ j, j < k -> condK pa n i j) (h0 : atK pa i k = 0) : Way tree (chain pa i k) := by
  have hl := chain_len pa i k
  have hnn : ∀ j, j < k -> atK pa i j ≠ 0 := fun j hj => by have := (hc j hj).1; omega
  refine ⟨?_, fun x hx => ?_, fun j hj => ?_, by rw [hl]; omega, ?_⟩
  · refine List.pairwise_iff_getElem.2 fun a b ha hb hab e => ?_
    rw [hl] at ha hb
    have ea : (chain pa i k)[a]'(by rw [hl]; exact ha) = atK pa i a := by simp [chain]
    have eb : (chain pa i k)[b]'(by rw [hl]; exact hb) = atK pa i b := by simp [chain]
    rw [ea, eb] at e
    have := atK_add e (k - b)
    rw [show b + (k - b) = k by omega, h0] at this
    exact hnn _ (by omega) this
  · obtain ⟨j, hj, rfl⟩ := List.mem_iff_getElem.1 hx
    rw [hl] at hj
    have ej : (chain pa i k)[j]'(by rw [hl]; exact hj) = atK pa i j := by simp [chain]
    rw [ej]
    by_cases h : j < k
    · have := hc j h; unfold condK at this; omega
    · have : j = k := by omega
      rw [this, h0]; omega
  · rw [hl] at hj
    rw [chain_at (by omega), chain_at (by omega)]
    have h1 := hc j (by omega)
    unfold condK at h1
    refine ⟨by omega, by rw [hf]; exact decide_eq_true (by omega), ?_⟩
    rw [hp _ (by omega) (by omega)]; rfl
  · rw [hl, chain_at (by omega), Nat.add_sub_cancel]; exact h0
theorem lead_yes (hn : n <= 32) (hf : ∀ x, foundRp tree x = decide (1 <= x /\ x < (n : Int))) (hp : ∀ x, 1 <= x -> x < (n : Int) -> parR tree x = pa x) (hc : ∀ j, j < k -> condK pa n i j) (h0 : atK pa i k = 0) (h9 : k + 1 <= 9) :
    goodL (wayL tree i).reverse = true /\ wayL tree i = chain pa i k := by
  have hw := lead_way hn hf hp hc h0
  have hl := chain_len pa i k
  have he : (chain pa i k).getD 0 default = i := chain_at (Nat.zero_le _)
  have h1 := hw.good (by omega)
  rw [he] at h1
  refine ⟨h1, ?_⟩
  have h2 := Way.walk (chain pa i k) 33 [] hw (by omega) (fun x hx => nomatch hx)
  rw [he] at h2
  show wayM tree 33 [] i = _
  simpa using h2
theorem lead_of (hn : 1 <= n) (hf : ∀ x, foundRp tree x = decide (1 <= x /\ x < (n : Int))) (hp : ∀ x, 1 <= x -> x < (n : Int) -> parR tree x = pa x) (hc : ∀ j, j < k -> condK pa n i j) (hk : ¬ condK pa n i k) (hg : goodL (wayL tree i).reverse = true) : atK pa i k = 0 /\ k + 1 <= 9 := by
  obtain ⟨hw, hwi⟩ := way_good hg
  obtain ⟨_, _, h9⟩ := of_decide_eq_true hg
  rw [List.length_reverse] at h9
  generalize wayL tree i = W at *
  have hpos := hw.pos
  have hat : ∀ j, j < W.length -> W.getD j default = atK pa i j := by
    intro j
    induction j with
    | zero => intro _; exact hwi
    | succ j ih =>
      intro hj
      obtain ⟨h1, h2, h3⟩ := hw.st j hj
      have h4 := ih (by omega)
      rw [hf] at h2
      have h5 := of_decide_eq_true h2
      rw [<- h3, hp _ h5.1 h5.2, h4]; rfl
  have hin : ∀ j, j + 1 < W.length -> 1 <= atK pa i j /\ atK pa i j < (n : Int) := fun j hj => by
    have h2 := (hw.st j hj).2.1
    rw [hf, hat j (by omega)] at h2
    exact of_decide_eq_true h2
  have hlast : atK pa i (W.length - 1) = 0 := by rw [<- hat _ (by omega)]; exact hw.last
  have hlen : W.length <= n := len_le n W hw.nd fun x hx => by
    obtain ⟨j, hj, rfl⟩ := List.mem_iff_getElem.1 hx
    have e : W[j] = atK pa i j := by rw [<- hat j hj, List.getD_eq_getElem?_getD, List.getElem?_eq_getElem hj]; rfl
    rw [e]
    by_cases h : j + 1 < W.length
    · have := hin j h; omega
    · have : j = W.length - 1 := by omega
      rw [this, hlast]; omega
  have hcond : ∀ j, j + 1 < W.length -> condK pa n i j := fun j hj => ⟨by have := hin j hj; omega, (hin j hj).2, by omega⟩
  have h1 : k <= W.length - 1 := by
    rcases Nat.lt_or_ge (W.length - 1) k with h | h
    · have := (hc _ h).1; omega
    · exact h
  have h2 : ¬ k < W.length - 1 := fun h => hk (hcond k (by omega))
  have h3 : k = W.length - 1 := by omega
  rw [h3]
  exact ⟨hlast, by omega⟩
end
def wayK (pa : Int -> Int) (i : Int) : Nat -> List Int
  | 0 => [i]
  | k + 1 => atK pa i (k + 1) :: wayK pa i k
theorem wayK_rev (pa : Int -> Int) (i : Int) : ∀ k, wayK pa i k = (chain pa i k).reverse
  | 0 => rfl
  | k + 1 => by rw [chain_succ, List.reverse_append]; show _ :: wayK pa i k = _; rw [wayK_rev pa i k]; rfl
theorem wayK_len (pa : Int -> Int) (i : Int) (k : Nat) : (wayK pa i k).length = k + 1 := by rw [wayK_rev, List.length_reverse, chain_len]
theorem wayK_head (pa : Int -> Int) (i : Int) (k : Nat) : (wayK pa i k).getD 0 default = atK pa i k := by cases k <;> rfl
def repS (pa : Int -> Int) (i : Int) : RP := ⟨i, pa i, 100⟩
structure RepL (pa : Int -> Int) (n : Nat) (l : List RP) : Prop where
  has : ∀ i : Nat, 1 <= i -> i < n -> repS pa i ∈ l
  only : ∀ x ∈ l, (1 <= x.node /\ x.node < (n : Int)) /\ (x.number < 100 \/ x = repS pa x.node)
theorem mem_swap {l : List RP} {a b : Nat} (ha : a < l.length) (hb : b < l.length) (x : RP) : x ∈ (l.set a (l.getD b default)).set b (l.getD a default) ↔ x ∈ l := by
  have hl : ((l.set a (l.getD b default)).set b (l.getD a default)).length = l.length := by simp
  have hg : ∀ j, j < l.length -> ((l.set a (l.getD b default)).set b (l.getD a default)).getD j default = if j = b then l.getD a default else if j = a then l.getD b default else l.getD j default := fun j hj => by
    rw [getD_setR, List.length_set]
    by_cases h1 : b = j
    · rw [if_pos ⟨h1, hj⟩, if_pos h1.symm]
    · rw [if_neg (fun h => h1 h.1), if_neg (fun h => h1 h.symm), getD_setR]
      by_cases h2 : a = j
      · rw [if_pos ⟨h2, hj⟩, if_pos h2.symm]
      · rw [if_neg (fun h => h2 h.1), if_neg (fun h => h2 h.symm)]
  constructor
  · intro hx
    obtain ⟨j, hj, rfl⟩ := mem_getD hx
    rw [hl] at hj
    rw [hg j hj]
    split
    · exact getD_mem ha
    · split
      · exact getD_mem hb
      · exact getD_mem hj
  · intro hx
    obtain ⟨j, hj, rfl⟩ := mem_getD hx
    by_cases h1 : j = a
    · have := getD_mem (l := (l.set a (l.getD b default)).set b (l.getD a default)) (i := b) (by rw [hl]; exact hb)
      rw [hg b hb, if_pos rfl] at this
      rw [h1]; exact this
    · by_cases h2 : j = b
      · have := getD_mem (l := (l.set a (l.getD b default)).set b (l.getD a default)) (i := a) (by rw [hl]; exact ha)
        rw [hg a ha] at this
        by_cases h3 : a = b
        · rw [if_pos h3] at this
          have e : l.getD j default = l.getD a default := by rw [h2, h3]
          rw [e]; exact this
        · rw [if_neg h3, if_pos rfl] at this; rw [h2]; exact this
      · have := getD_mem (l := (l.set a (l.getD b default)).set b (l.getD a default)) (i := j) (by rw [hl]; exact hj)
        rw [hg j hj, if_neg h2, if_neg h1] at this
        exact this
theorem RepL.swap {pa : Int -> Int} {n : Nat} {l : List RP} (h : RepL pa n l) {a b : Nat} (ha : a < l.length) (hb : b < l.length) : RepL pa n ((l.set a (l.getD b default)).set b (l.getD a default)) :=
  ⟨fun i h1 h2 => (mem_swap ha hb _).2 (h.has i h1 h2), fun x hx => h.only x ((mem_swap ha hb x).1 hx)⟩
theorem RepL.tree {pa : Int -> Int} {n : Nat} {l t : List RP} (h : RepL pa n l) (hn : n <= 32) (hpa : ∀ i : Nat, 1 <= i -> i < n -> formR (repS pa i) = 0) (ht : InvT l t) :
    (∀ x, foundRp t x = decide (1 <= x /\ x < (n : Int))) /\ ∀ x, 1 <= x -> x < (n : Int) -> parR t x = pa x := by
  have hin : ∀ i : Nat, 1 <= i -> i < n -> repS pa i ∈ t := fun i h1 h2 => by
    obtain ⟨e, he, h3, h4⟩ := ht.top _ (h.has i h1 h2) (hpa i h1 h2)
    have h5 := (h.only e (ht.sub e he)).2
    rcases h5 with h5 | h5
    · have h6 : (100 : Int) <= e.number := h4
      omega
    · rw [h5] at he
      rw [h3] at he
      exact he
  refine ⟨fun x => ?_, fun x h1 h2 => ?_⟩
  · by_cases hx : 1 <= x /\ x < (n : Int)
    · rw [decide_eq_true hx]
      obtain ⟨i, rfl⟩ := Int.eq_ofNat_of_zero_le (show 0 <= x by omega)
      have h6 := (mem_found ht.ok (hin i (by omega) (by omega))).1
      rw [show (repS pa i).node = (i : Int) from rfl] at h6
      exact h6
    · rw [decide_eq_false hx]
      cases hf : foundRp t x with
      | false => rfl
      | true =>
        obtain ⟨e, he, h3, _⟩ := found_mem hf
        have := (h.only e (ht.sub e he)).1
        omega
  · obtain ⟨i, rfl⟩ := Int.eq_ofNat_of_zero_le (show 0 <= x by omega)
    have h6 := found_par ht.ok (hin i (by omega) (by omega))
    rw [show (repS pa i).node = (i : Int) from rfl, show (repS pa i).parent = pa i from rfl] at h6
    exact h6
end Go.Proofs.D
end
section
namespace Go.Proofs.X
open Go Go.Sx
open Go.Proofs.D (RP RP.enc rps rpA repS RepL InvT condK atK chain wayK goodL wayL rouM reachM OkR parR foundRp)
open Go.Proofs.R (rks Ev evs playM works_spec play_spec)
open Go.Proofs.P (Rk ints)
set_option maxRecDepth 4000
attribute [local irreducible] VR VC thenQ blockQ retL
abbrev Sw := Int × Int
def encW (p : Sw) : List D := [.int .u8 p.1, .int .u8 p.2]
abbrev sws (l : List Sw) : D := rdOf encW 2 l
def paS (st : List Rk) (x : Int) : Int := (st.getD x.toNat default).parent
def repK (st : List Rk) (k : Nat) : List RP := (List.range k).map fun (j : Nat) => repS (paS st) ((j : Int) + 1)
theorem repK_len (st : List Rk) (k : Nat) : (repK st k).length = k := by simp [repK]
theorem repK_succ (st : List Rk) (k : Nat) : repK st (k + 1) = repK st k ++ [repS (paS st) ((k : Int) + 1)] := by simp [repK, List.range_succ]
theorem repK_ok (st : List Rk) {k : Nat} : RepL (paS st) (k + 1) (repK st k) := by
  refine ⟨fun i h1 h2 => ?_, fun x hx => ?_⟩
  · refine List.mem_map.2 ⟨i - 1, List.mem_range.2 (by omega), ?_⟩
    rw [show ((i - 1 : Nat) : Int) + 1 = (i : Int) by omega]
  · obtain ⟨j, hj, rfl⟩ := List.mem_map.1 hx
    have := List.mem_range.1 hj
    exact ⟨⟨by show (1 : Int) <= (j : Int) + 1; omega, by show (j : Int) + 1 < _; push_cast; omega⟩, .inr rfl⟩
theorem RepL.app {pa : Int -> Int} {n : Nat} {l : List RP} (h : RepL pa n l) {r : RP} (h1 : 1 <= r.node) (h2 : r.node < (n : Int)) (h3 : r.number < 100) : RepL pa n (l ++ [r]) := by
  refine ⟨fun i a b => List.mem_append_left _ (h.has i a b), fun x hx => ?_⟩
  rcases List.mem_append.1 hx with hx | hx
  · exact h.only x hx
  · rw [List.mem_singleton] at hx; subst hx
    exact ⟨⟨h1, h2⟩, .inl h3⟩
theorem idxI_spec (l : List Int) (x : Int) : FnS Tryz.prog 68 [AD (ints l), AI x] [] (AI (oI (fstO l fun y => decide (x = y)))) [] := by
  refine FnS.of_body (enters_of Tryz.func68 (by kernel_rfl) rfl) Tryz.func68 rfl Tryz.ntmps68 Tryz.results68 rfl rfl rfl rfl fun E hS => ?_
  refine vc_bound (t := 0) rfl fun hb => ?_
  repeat' (first|(refine gR ?_; first|refine x_opF rfl (by first|exact True.intro|omega) ?_)|(refine gO ?_; first|refine vr_nil ?_)|(refine gT ?_; first|refine q_then_n ?_)|refine vc_seq ?_|refine vc_region ?_|refine vc_block ?_)
  refine vc_loopI (ι := Nat) (fun k => stOf [(0, AD (ints l)), (1, AI x), (7, AI l.length), (8, AI k)] []) (fun k => k <= l.length /\ ∀ i, i < k -> decide (x = l.getD i default) = false) (fun k => l.length - k) 0 ⟨Nat.zero_le _, fun i hi => absurd hi (Nat.not_lt_zero _)⟩ ?_ ?_
  · refine le_gen0 (fun n => n) ?_ ?_ rfl (by first|rfl|(simp only [wfL, wfs, mpO_namesB, mpO_namesI]; rfl))
    all_goals repeat' (first|exact trivial|refine ⟨⟨_, rfl, ?_⟩, ?_⟩|exact .c .d|fail)
  · intro k hk
    repeat' (first|(refine gR ?_; first|refine x_opF rfl (by first|exact True.intro|omega) ?_|(refine gI ?_; first|refine vr_index_rd (gk rfl) rfl rfl rfl rfl rfl (by omega) rfl ?_))|(refine gO ?_; first|refine vr_nil ?_)|(refine gT ?_; first|refine q_then_n ?_|refine q_then_x ?_|refine q_then_r ?_)|(refine gK ?_; first|refine q_blk_n ?_|refine q_blk_r ?_|refine q_blk_x ?_)|refine vc_seq ?_|refine vc_region ?_|(show VC _ (.cond _ _ _) _ _; first|(refine x_cond rfl ?_ ?_ <;> intro h <;> have hq := h <;> (try simp only [hqs] at hq)))|refine vc_ret ?_|refine vc_exit ?_|refine vc_block ?_|refine vc_skip ?_)
    · refine ret_int isRet_r rfl ?_
      rw [fstO_hit (l := l) (p := fun y => decide (x = y)) hk.2 (by omega) (decide_eq_true hq)]; rfl
    · refine ⟨k + 1, ⟨by omega, fun i hi => ?_⟩, by omega, ?_⟩
      · by_cases hik : i < k
        · exact hk.2 i hik
        · have : i = k := by omega
          subst this
          exact decide_eq_false hq
      · refine le_gen0 (fun n => n) ?_ ?_ rfl (by first|rfl|(simp only [wfL, wfs, mpO_namesB, mpO_namesI]; rfl))
        all_goals repeat' (first|exact trivial|refine ⟨⟨_, rfl, ?_⟩, ?_⟩|exact .c .d|fail)
    · refine ret_int isRet_r rfl ?_
      have : k = l.length := by omega
      subst this
      rw [fstO_none (l := l) (p := fun y => decide (x = y)) hk.2]; rfl
theorem contI_spec (l : List Int) (x : Int) : FnS Tryz.prog 22 [AD (ints l), AI x] [] (AB (l.any fun y => decide (x = y))) [] := by
  refine FnS.of_body (enters_of Tryz.func22 (by kernel_rfl) rfl) Tryz.func22 rfl Tryz.ntmps22 Tryz.results22 rfl rfl rfl rfl fun E hS => ?_
  repeat' (first|(refine gR ?_; first|refine x_opF rfl (by first|exact True.intro|omega) ?_|(refine gC ?_; first|refine vr_calldU (idxI_spec l x) (gk rfl) rfl rfl rfl (by first|rfl|(simp only [wfRes, wfL, wfArgs, wfs, mpO_namesB, mpO_namesI]; rfl)) rfl (by first|exact newB_nil|exact newB_O|((simp only [newB, List.map_cons, List.map_nil, Blk.shift, rowOf_shift]) <;> rfl)|rfl) rfl ?_))|(refine gO ?_; first|refine vr_nil ?_)|(refine gT ?_; first|refine q_then_n ?_)|refine vc_seq ?_|refine vc_region ?_|refine vc_ret ?_)
  all_goals exact ret_bool isRet_r rfl (fstO_any _ _).symm
theorem first_not {P : Nat -> Prop} {n : Nat} (h : ¬ P n) : ∃ k, k <= n /\ (∀ j, j < k -> P j) /\ ¬ P k := by
  induction n with
  | zero => exact ⟨0, Nat.le_refl _, fun j hj => absurd hj (Nat.not_lt_zero _), h⟩
  | succ n ih =>
    by_cases hn : ∃ k, k <= n /\ ¬ P k
    · obtain ⟨k, hk, hp⟩ := hn
      have : ∀ m, m <= n -> ¬ P m -> ∃ k, k <= m /\ (∀ j, j < k -> P j) /\ ¬ P k := by
        intro m
        induction m using Nat.strongRecOn with
        | _ m im =>
          intro hm hpm
          by_cases hj : ∃ j, j < m /\ ¬ P j
          · obtain ⟨j, hj1, hj2⟩ := hj
            obtain ⟨k, h1, h2, h3⟩ := im j hj1 (by omega) hj2
            exact ⟨k, by omega, h2, h3⟩
          · exact ⟨m, Nat.le_refl _, fun j hj1 => Classical.byContradiction fun h2 => hj ⟨j, hj1, h2⟩, hpm⟩
      obtain ⟨k, h1, h2, h3⟩ := this k hk hp
      exact ⟨k, by omega, h2, h3⟩
    · exact ⟨n + 1, Nat.le_refl _, fun j hj => Classical.byContradiction fun h2 => hn ⟨j, by omega, h2⟩, h⟩
abbrev encI (x : Int) : List D := [.int .i64 x]
set_option maxHeartbeats 8000000 in
theorem lawRoutes_spec (no : Int) (ev : List Ev) (old : List RP) (sw : List Sw) (h1 : 0 <= no /\ no <= 255) (hsw : ∀ p ∈ sw, (0 <= p.1 /\ p.1 <= 255) /\ 0 <= p.2 /\ p.2 <= 255) : FnS Tryz.prog 4 [AD (.int .u8 no), AD (evs ev), AD (rps old), AD (sws sw)] [] (AB true) [] := by
  obtain ⟨n, hN⟩ : ∃ n : Nat, 2 + no % 11 = (n : Int) := ⟨(2 + no % 11).toNat, by omega⟩
  have hN2 : 2 <= n /\ n <= 12 := by omega
  obtain ⟨n0, n1⟩ := h1
  refine FnS.of_body (enters_of Tryz.func4 (by kernel_rfl) rfl) Tryz.func4 rfl Tryz.ntmps4 Tryz.results4 rfl rfl rfl rfl fun E hS => ?_
  by_cases hbig : 60 < ev.length \/ 20 < old.length \/ 40 < sw.length
  · repeat' (first|(refine gR ?_; first|refine x_opF rfl (by first|exact True.intro|omega) ?_|(refine gC ?_; first|refine vr_calldU (works_spec) (gk rfl) rfl rfl rfl (by first|rfl|(simp only [wfRes, wfL, wfArgs, wfs, mpO_namesB, mpO_namesI]; rfl)) rfl (by first|exact newB_nil|exact newB_O|((simp only [newB, List.map_cons, List.map_nil, Blk.shift, rowOf_shift]) <;> rfl)|rfl) rfl ?_)|(refine gV ?_; first|refine vr_convert_id (gk rfl) rfl ⟨_, rfl⟩ rfl (by first|exact wrap_i64 (by omega)|exact wrap_u64 (by omega)|exact wrap_u16 (by omega)|exact wrap_u8 (by omega)|exact wrap_u32 (by omega)) rfl ?_)|(refine x_gsplit rfl ?_ ?_ <;> intro h <;> have hq := h <;> (try simp only [hqs] at hq)))|(refine gO ?_; first|refine vr_nil ?_)|(refine gT ?_; first|refine q_then_n ?_|refine q_then_r ?_)|(show VC _ (.seq _ _) _ _; (fail_if_success (show VC _ (.seq (.seq (.region 6 _ _) _) _) _ _)); (fail_if_success (show VC _ (.seq (.region 6 _ _) _) _ _)); refine vc_seq ?_)|refine vc_region ?_|(show VC _ (.cond _ _ _) _ _; first|refine vc_cond_t rfl ?_|refine vc_cond_f rfl ?_|(refine x_cond rfl ?_ ?_ <;> intro h <;> have hq := h <;> (try simp only [hqs] at hq)))|refine vc_ret ?_|refine vc_skip ?_)
    all_goals first
      | exact ret_bool isRet_r rfl rfl
      | (exfalso; omega)
  have d1 : decide ((60 : Int) < (ev.length : Int)) = false := decide_eq_false (by omega)
  have d2 : decide ((20 : Int) < (old.length : Int)) = false := decide_eq_false (by omega)
  have d3 : decide ((40 : Int) < (sw.length : Int)) = false := decide_eq_false (by omega)
  repeat' (first|(refine gR ?_; first|refine x_opF rfl (by first|exact True.intro|omega) ?_|(refine gC ?_; first|refine vr_calldU (works_spec) (gk rfl) rfl rfl rfl (by first|rfl|(simp only [wfRes, wfL, wfArgs, wfs, mpO_namesB, mpO_namesI]; rfl)) rfl (by first|exact newB_nil|exact newB_O|((simp only [newB, List.map_cons, List.map_nil, Blk.shift, rowOf_shift]) <;> rfl)|rfl) rfl ?_)|(refine gV ?_; first|refine vr_convert_id (gk rfl) rfl ⟨_, rfl⟩ rfl (by first|exact wrap_i64 (by omega)|exact wrap_u64 (by omega)|exact wrap_u16 (by omega)|exact wrap_u8 (by omega)|exact wrap_u32 (by omega)) rfl ?_)|refine x_gknow rfl (by assumption) ?_)|(refine gO ?_; first|refine vr_nil ?_)|(refine gT ?_; first|refine q_then_n ?_)|(show VC _ (.seq _ _) _ _; (fail_if_success (show VC _ (.seq (.seq (.region 6 _ _) _) _) _ _)); (fail_if_success (show VC _ (.seq (.region 6 _ _) _) _ _)); refine vc_seq ?_)|refine vc_region ?_|(show VC _ (.cond _ _ _) _ _; first|refine vc_cond_f rfl ?_|refine x_know rfl (by assumption) ?_)|refine vc_skip ?_)
  refine VC.le (σ' := stOf [(1, AD (evs ev)), (2, AD (rps old)), (3, AD (sws sw)), (9, AI n)] []) ?_ ?_
  · rw [<- hN]
    refine le_gen0 (fun n => n) ?_ ?_ rfl (by first|rfl|(simp only [wfL, wfs, mpO_namesB, mpO_namesI]; rfl))
    all_goals repeat' (first|exact trivial|refine ⟨⟨_, rfl, ?_⟩, ?_⟩|exact .c .d|fail)
  have hp := play_spec n ev (by omega) (by omega)
  by_cases he : (playM n ev).2 = 0
  · obtain ⟨hlen, hst⟩ := Go.Proofs.R.playM_ok (by omega) he
    rw [he] at hp
    generalize (playM n ev).1 = st at *
    have d4 : decide ((st.length : Int) ≠ (n : Int)) = false := decide_eq_false (by omega)
    repeat' (first|(refine gR ?_; first|refine x_opF rfl (by first|exact True.intro|omega) ?_|(refine gC ?_; first|refine vr_calldU (hp) (gk rfl) rfl rfl rfl (by first|rfl|(simp only [wfRes, wfL, wfArgs, wfs, mpO_namesB, mpO_namesI]; rfl)) rfl (by first|exact newB_nil|exact newB_O|((simp only [newB, List.map_cons, List.map_nil, Blk.shift, rowOf_shift]) <;> rfl)|rfl) rfl ?_))|(refine gO ?_; first|refine vr_nil ?_)|(refine gT ?_; first|refine q_then_n ?_)|(show VC _ (.seq _ _) _ _; (fail_if_success (show VC _ (.seq (.seq (.region 11 _ _) _) _) _ _)); (fail_if_success (show VC _ (.seq (.region 11 _ _) _) _ _)); refine vc_seq ?_)|refine vc_region ?_|(show VC _ (.cond _ _ _) _ _; first|refine vc_cond_f rfl ?_|refine x_know rfl (by assumption) ?_)|refine vc_block ?_|refine vc_skip ?_)
    refine VC.le (σ' := stOf [(2, AD (rps old)), (3, AD (sws sw)), (9, AI n), (10, AD (rks st)), (12, .c (.row 300 (repK st 0).length)), (13, AI 1)] [(300, .row 70 3 (rowOf RP.enc (repK st 0)))]) ?_ ?_
    · refine (le_nil (t := 12) (nm := 300) (T := 70) (sz := 3) rfl rfl).trans ?_
      refine le_gen0 (fun n => n) ?_ ?_ rfl (by first|rfl|(simp only [wfL, wfs, mpO_namesB, mpO_namesI]; rfl))
      all_goals repeat' (first|exact trivial|refine ⟨⟨_, rfl, ?_⟩, ?_⟩|exact .c .d|exact .c (.row rfl rfl)|exact .rowD rfl rowOf_isD|fail)
    refine vc_loopI (ι := Nat) (fun k => stOf [(2, AD (rps old)), (3, AD (sws sw)), (9, AI n), (10, AD (rks st)), (12, .c (.row 300 (repK st k).length)), (13, AI ((k : Int) + 1))] [(300, .row 70 3 (rowOf RP.enc (repK st k)))]) (fun k => k + 1 <= n) (fun k => n - k) 0 (by omega) ?_ ?_
    · refine le_gen0 (fun n => n) ?_ ?_ rfl (by first|rfl|(simp only [wfL, wfs, mpO_namesB, mpO_namesI]; rfl))
      all_goals repeat' (first|exact trivial|refine ⟨⟨_, rfl, ?_⟩, ?_⟩|exact .c .d|exact .c (.row rfl rfl)|exact .rowD rfl rowOf_isD|fail)
    intro k hk
    have hkl := repK_len st k
    rcases Nat.lt_or_ge (k + 1) n with hlt | hge
    · have d5 : decide ((k : Int) + 1 < (n : Int)) = true := decide_eq_true (by omega)
      repeat' (first|(refine gR ?_; first|refine x_opF rfl (by first|exact True.intro|omega) ?_|(refine gI ?_; first|refine vr_index_rdN (gk rfl) rfl rfl rfl rfl (by first|omega|decide) rfl ?_)|(refine gA ?_; first|refine vr_append0 (gk rfl) rfl rfl rfl (by first|rfl|exact rowOf_length.symm|(simp only [lns] <;> omega)) (by first|exact .row rfl (by first|rfl|exact rowOf_length.symm)|exact .rd|exact .nils) rfl rfl rfl (by (try dsimp only); omega) rfl rfl ?_))|(refine gO ?_; first|refine vr_nil ?_)|(refine gT ?_; first|refine q_then_n ?_)|(refine gK ?_; first|refine q_blk_n ?_)|refine vc_seq ?_|refine vc_region ?_|(show VC _ (.cond _ _ _) _ _; first|refine vc_cond_t rfl ?_|refine x_know rfl (by assumption) ?_)|refine vc_block ?_|refine vc_skip ?_)
      refine ⟨k + 1, by omega, by omega, ?_⟩
      rw [repK_succ]
      refine le_gen0 (fun n => if n = 300 then 84 else n) ?_ ?_ rfl (by first|rfl|(simp only [wfL, wfs, mpO_namesB, mpO_namesI]; rfl))
      all_goals repeat' (first|exact trivial|refine ⟨⟨_, rfl, ?_⟩, ?_⟩|exact .c .d|(refine .c (.row rfl ?_); ((try dsimp only); first|rfl|omega|(simp only [lns] <;> omega)); done)|(refine .rowD ?_ rowOf_isD; rw [rowOf_append]; rfl)|fail)
    have d5 : decide ((k : Int) + 1 < (n : Int)) = false := decide_eq_false (by omega)
    have e : k + 1 = n := by omega
    have hrep : RepL (paS st) n (repK st k) := by rw [<- e]; exact repK_ok st
    generalize repK st k = L0 at *
    repeat' (first|(refine gR ?_; first|refine x_opF rfl (by first|exact True.intro|omega) ?_)|(refine gO ?_; first|refine vr_nil ?_)|(refine gT ?_; first|refine q_then_n ?_|refine q_then_x ?_)|(refine gK ?_; first|refine q_blk_x ?_)|(show VC _ (.seq _ _) _ _; (fail_if_success (show VC _ (.seq (.seq (.region 15 _ _) _) _) _ _)); (fail_if_success (show VC _ (.seq (.region 15 _ _) _) _ _)); refine vc_seq ?_)|refine vc_region ?_|(show VC _ (.cond _ _ _) _ _; first|refine vc_cond_f rfl ?_|refine x_know rfl (by assumption) ?_)|refine vc_exit ?_|refine vc_block ?_)
    refine VC.le (σ' := stOf [(3, AD (sws sw)), (9, AI n), (10, AD (rks st)), (12, .c (.row 300 L0.length)), (85, AD (rps old)), (86, AI old.length), (87, AI 0)] [(300, .row 70 3 (rowOf RP.enc L0))]) ?_ ?_
    · refine le_gen0 (fun n => n) ?_ ?_ rfl (by first|rfl|(simp only [wfL, wfs, mpO_namesB, mpO_namesI]; rfl))
      all_goals repeat' (first|exact trivial|refine ⟨⟨_, rfl, ?_⟩, ?_⟩|exact .c .d|exact .c (.row rfl rfl)|exact .rowD rfl rowOf_isD|fail)
    refine vc_loopI (ι := Nat × List RP) (fun p => stOf [(3, AD (sws sw)), (9, AI n), (10, AD (rks st)), (12, .c (.row 300 p.2.length)), (85, AD (rps old)), (86, AI old.length), (87, AI p.1)] [(300, .row 70 3 (rowOf RP.enc p.2))]) (fun p => p.1 <= old.length /\ RepL (paS st) n p.2 /\ 1 <= p.2.length /\ p.2.length <= 12 + p.1) (fun p => old.length - p.1) (0, L0) ⟨Nat.zero_le _, hrep, by dsimp only; omega, by dsimp only; omega⟩ ?_ ?_
    · refine le_gen0 (fun n => n) ?_ ?_ rfl (by first|rfl|(simp only [wfL, wfs, mpO_namesB, mpO_namesI]; rfl))
      all_goals repeat' (first|exact trivial|refine ⟨⟨_, rfl, ?_⟩, ?_⟩|exact .c .d|exact .c (.row rfl rfl)|exact .rowD rfl rowOf_isD|fail)
    rintro ⟨q, L⟩ ⟨hq, hL, hl1, hl2⟩
    dsimp only at hq hL hl1 hl2 ⊢
    rcases Nat.lt_or_ge q old.length with hlt2 | hge2
    · have d6 : decide ((q : Int) < (old.length : Int)) = true := decide_eq_true (by omega)
      by_cases hr : 0 < (old.getD q default).node /\ (old.getD q default).node < (n : Int) /\ (old.getD q default).number < 100
      · have d7 : decide (0 < (old.getD q default).node) = true := decide_eq_true hr.1
        have d8 : decide ((old.getD q default).node < (n : Int)) = true := decide_eq_true hr.2.1
        have d9 : decide ((old.getD q default).number < 100) = true := decide_eq_true hr.2.2
        repeat' (first|(refine gR ?_; first|refine x_opF rfl (by first|exact True.intro|omega) ?_|(refine gI ?_; first|refine vr_index_rd (gk rfl) rfl rfl rfl rfl rfl (by omega) rfl ?_)|(refine gA ?_; first|refine vr_append0 (gk rfl) rfl rfl rfl (by first|rfl|exact rowOf_length.symm|(simp only [lns] <;> omega)) (by first|exact .row rfl (by first|rfl|exact rowOf_length.symm)|exact .rd|exact .nils) rfl rfl rfl (by (try dsimp only); omega) rfl rfl ?_)|refine x_gknow rfl (by assumption) ?_)|(refine gO ?_; first|refine vr_nil ?_)|(refine gT ?_; first|refine q_then_n ?_)|(refine gK ?_; first|refine q_blk_n ?_)|refine vc_seq ?_|refine vc_region ?_|(show VC _ (.cond _ _ _) _ _; first|refine vc_cond_t rfl ?_|refine x_know rfl (by assumption) ?_)|refine vc_block ?_|refine vc_skip ?_)
        refine ⟨(q + 1, L ++ [old.getD q default]), ⟨hlt2, RepL.app hL (by omega) hr.2.1 hr.2.2, by simp, by simp; omega⟩, by dsimp only; omega, ?_⟩
        refine le_gen0 (fun n => if n = 300 then 108 else n) ?_ ?_ rfl (by first|rfl|(simp only [wfL, wfs, mpO_namesB, mpO_namesI]; rfl))
        all_goals repeat' (first|exact trivial|refine ⟨⟨_, rfl, ?_⟩, ?_⟩|exact .c .d|(refine .c (.row rfl ?_); ((try dsimp only); first|rfl|omega|(simp only [lns] <;> omega)); done)|(refine .rowD ?_ rowOf_isD; rw [rowOf_append]; rfl)|fail)
      · repeat' (first|(refine gR ?_; first|refine x_opF rfl (by first|exact True.intro|omega) ?_|(refine gI ?_; first|refine vr_index_rd (gk rfl) rfl rfl rfl rfl rfl (by omega) rfl ?_)|(refine gA ?_; first|refine vr_append0 (gk rfl) rfl rfl rfl (by first|rfl|exact rowOf_length.symm|(simp only [lns] <;> omega)) (by first|exact .row rfl (by first|rfl|exact rowOf_length.symm)|exact .rd|exact .nils) rfl rfl rfl (by (try dsimp only); omega) rfl rfl ?_)|(refine x_gsplit rfl ?_ ?_ <;> intro h <;> have hq := h <;> (try simp only [hqs] at hq)))|(refine gO ?_; first|refine vr_nil ?_)|(refine gT ?_; first|refine q_then_n ?_)|(refine gK ?_; first|refine q_blk_n ?_)|refine vc_seq ?_|refine vc_region ?_|(show VC _ (.cond _ _ _) _ _; first|refine vc_cond_t rfl ?_|refine vc_cond_f rfl ?_|refine x_know rfl (by assumption) ?_|(refine x_cond rfl ?_ ?_ <;> intro h <;> have hq := h <;> (try simp only [hqs] at hq)))|refine vc_block ?_|refine vc_skip ?_)
        all_goals first
          | (exfalso; exact hr ⟨by assumption, by assumption, by assumption⟩)
          | skip
        · refine ⟨(q + 1, L), ⟨hlt2, hL, hl1, by dsimp only; omega⟩, by dsimp only; omega, ?_⟩
          refine le_gen0 (fun n => n) ?_ ?_ rfl (by first|rfl|(simp only [wfL, wfs, mpO_namesB, mpO_namesI]; rfl))
          all_goals repeat' (first|exact trivial|refine ⟨⟨_, rfl, ?_⟩, ?_⟩|exact .c .d|exact .c (.row rfl rfl)|exact .rowD rfl rowOf_isD|fail)
        · refine ⟨(q + 1, L), ⟨hlt2, hL, hl1, by dsimp only; omega⟩, by dsimp only; omega, ?_⟩
          refine le_gen0 (fun n => n) ?_ ?_ rfl (by first|rfl|(simp only [wfL, wfs, mpO_namesB, mpO_namesI]; rfl))
          all_goals repeat' (first|exact trivial|refine ⟨⟨_, rfl, ?_⟩, ?_⟩|exact .c .d|exact .c (.row rfl rfl)|exact .rowD rfl rowOf_isD|fail)
        · refine ⟨(q + 1, L), ⟨hlt2, hL, hl1, by dsimp only; omega⟩, by dsimp only; omega, ?_⟩
          refine le_gen0 (fun n => n) ?_ ?_ rfl (by first|rfl|(simp only [wfL, wfs, mpO_namesB, mpO_namesI]; rfl))
          all_goals repeat' (first|exact trivial|refine ⟨⟨_, rfl, ?_⟩, ?_⟩|exact .c .d|exact .c (.row rfl rfl)|exact .rowD rfl rowOf_isD|fail)
    have d6 : decide ((q : Int) < (old.length : Int)) = false := decide_eq_false (by omega)
    repeat' (first|(refine gR ?_; first|refine x_opF rfl (by first|exact True.intro|omega) ?_)|(refine gO ?_; first|refine vr_nil ?_)|(refine gT ?_; first|refine q_then_n ?_|refine q_then_x ?_)|(refine gK ?_; first|refine q_blk_x ?_)|(show VC _ (.seq _ _) _ _; (fail_if_success (show VC _ (.seq (.seq (.region 21 _ _) _) _) _ _)); (fail_if_success (show VC _ (.seq (.region 21 _ _) _) _ _)); refine vc_seq ?_)|refine vc_region ?_|(show VC _ (.cond _ _ _) _ _; first|refine vc_cond_f rfl ?_|refine x_know rfl (by assumption) ?_)|refine vc_exit ?_|refine vc_block ?_)
    have hq3 : L.length <= 40 := by omega
    clear hl2
    refine VC.le (σ' := stOf [(9, AI n), (10, AD (rks st)), (12, .c (.row 300 L.length)), (110, AD (sws sw)), (111, AI sw.length), (112, AI 0)] [(300, .row 70 3 (rowOf RP.enc L))]) ?_ ?_
    · refine le_gen0 (fun n => n) ?_ ?_ rfl (by first|rfl|(simp only [wfL, wfs, mpO_namesB, mpO_namesI]; rfl))
      all_goals repeat' (first|exact trivial|refine ⟨⟨_, rfl, ?_⟩, ?_⟩|exact .c .d|exact .c (.row rfl rfl)|exact .rowD rfl rowOf_isD|fail)
    refine vc_loopI (ι := Nat × List RP) (fun p => stOf [(9, AI n), (10, AD (rks st)), (12, .c (.row 300 p.2.length)), (110, AD (sws sw)), (111, AI sw.length), (112, AI p.1)] [(300, .row 70 3 (rowOf RP.enc p.2))]) (fun p => p.1 <= sw.length /\ RepL (paS st) n p.2 /\ 1 <= p.2.length /\ p.2.length <= 40) (fun p => sw.length - p.1) (0, L) ⟨Nat.zero_le _, hL, hl1, hq3⟩ ?_ ?_
    · refine le_gen0 (fun n => n) ?_ ?_ rfl (by first|rfl|(simp only [wfL, wfs, mpO_namesB, mpO_namesI]; rfl))
      all_goals repeat' (first|exact trivial|refine ⟨⟨_, rfl, ?_⟩, ?_⟩|exact .c .d|exact .c (.row rfl rfl)|exact .rowD rfl rowOf_isD|fail)
    rintro ⟨u, M⟩ ⟨hu, hM, hm1, hm2⟩
    dsimp only at hu hM hm1 hm2 ⊢
    rcases Nat.lt_or_ge u sw.length with hlt3 | hge3
    · have d7 : decide ((u : Int) < (sw.length : Int)) = true := decide_eq_true (by omega)
      have hpm := hsw (sw.getD u default) (by
        rw [List.getD_eq_getElem?_getD, List.getElem?_eq_getElem hlt3]
        exact List.getElem_mem hlt3)
      repeat' (first|(refine gR ?_; first|refine x_opF rfl (by first|exact True.intro|omega) ?_|(refine gI ?_; first|refine vr_index_rd (gk rfl) rfl rfl rfl rfl rfl (by omega) rfl ?_))|(refine gO ?_; first|refine vr_nil ?_)|(refine gT ?_; first|refine q_then_n ?_)|(show VC _ (.seq _ _) _ _; (fail_if_success (show VC _ (.seq (.seq (.region 23 _ _) _) _) _ _)); (fail_if_success (show VC _ (.seq (.region 23 _ _) _) _ _)); refine vc_seq ?_)|refine vc_region ?_|(show VC _ (.cond _ _ _) _ _; first|refine vc_cond_t rfl ?_|refine x_know rfl (by assumption) ?_)|refine vc_block ?_|refine vc_skip ?_)
      generalize sw.getD u default = p at *
      obtain ⟨pa1, pb1⟩ := p
      obtain ⟨⟨x0, x1⟩, x2, x3⟩ := hpm
      dsimp only at x0 x1 x2 x3
      obtain ⟨ia, hia⟩ : ∃ i : Nat, pa1 % (M.length : Int) = i := ⟨(pa1 % (M.length : Int)).toNat, by have := Int.emod_nonneg pa1 (show (M.length : Int) ≠ 0 by omega); omega⟩
      obtain ⟨ib, hib⟩ : ∃ i : Nat, pb1 % (M.length : Int) = i := ⟨(pb1 % (M.length : Int)).toNat, by have := Int.emod_nonneg pb1 (show (M.length : Int) ≠ 0 by omega); omega⟩
      have hial : ia < M.length := by have := Int.emod_lt_of_pos pa1 (show (0 : Int) < M.length by omega); omega
      have hibl : ib < M.length := by have := Int.emod_lt_of_pos pb1 (show (0 : Int) < M.length by omega); omega
      refine VC.le (σ' := stOf [(9, AI n), (10, AD (rks st)), (12, .c (.row 300 M.length)), (17, .c (.ptr 17 0)), (110, AD (sws sw)), (111, AI sw.length), (112, AI u)] [(17, .box [.d (.int .u8 pa1), .d (.int .u8 pb1)]), (300, .row 70 3 (rowOf RP.enc M))]) ?_ ?_
      · refine le_gen0 (fun n => n) ?_ ?_ rfl (by first|rfl|(simp only [wfL, wfs, mpO_namesB, mpO_namesI]; rfl))
        all_goals repeat' (first|exact trivial|refine ⟨⟨_, rfl, ?_⟩, ?_⟩|exact .c .d|exact .c (.ptr rfl)|exact .c (.row rfl rfl)|exact .boxD rfl rfl|exact .rowD rfl rowOf_isD|fail)
      have y0 : 0 <= pa1 % (M.length : Int) := by omega
      have y1 : pa1 % (M.length : Int) < (M.length : Int) := by omega
      have y2 : 0 <= pb1 % (M.length : Int) := by omega
      have y3 : pb1 % (M.length : Int) < (M.length : Int) := by omega
      repeat' (first|(refine gR ?_; first|(refine gI ?_; first|refine vr_indexBox (m := 0) (gk rfl) rfl rfl rfl (of_decide_eq_true rfl) (of_decide_eq_true rfl) rfl rfl ?_)|(refine gI ?_; first|refine vr_indexBox (m := 1) (gk rfl) rfl rfl rfl (of_decide_eq_true rfl) (of_decide_eq_true rfl) rfl rfl ?_)|refine x_opF rfl (by first|exact True.intro|omega) ?_|(refine gI ?_; first|refine vr_index_rowN (gk rfl) rfl rfl rfl rfl rfl (by omega) (by first|rfl|exact rowOf_length.symm|(simp only [lns] <;> omega)) rfl ?_)|(refine gE ?_; first|refine vr_len_row (gk rfl) rfl rfl (by first|rfl|exact rowOf_length.symm|(simp only [lns] <;> omega)) rfl rfl ?_)|(refine gL ?_; first|refine vr_load_rowO_agg (gk rfl) rfl rfl (by omega) rfl rfl rfl ?_)|(refine gS ?_; first|refine vr_store_rowO (gk rfl) rfl rfl rfl (by omega) rfl rfl rfl ?_)|(refine gV ?_; first|refine vr_convert_id (gk rfl) rfl ⟨_, rfl⟩ rfl (by first|exact wrap_i64 (by omega)|exact wrap_u64 (by omega)|exact wrap_u16 (by omega)|exact wrap_u8 (by omega)|exact wrap_u32 (by omega)) rfl ?_))|(refine gO ?_; first|refine vr_nil_t (by kernel_rfl) ?_)|(refine gT ?_; first|refine q_then_n ?_)|refine vc_seq ?_|refine vc_region_t ?_)
      have hset : ∀ X : List C, X = (RP.enc (M.getD (pb1 % (M.length : Int)).toNat default)).map C.d -> (rowOf RP.enc M).set (pa1 % (M.length : Int)).toNat X = rowOf RP.enc (M.set (pa1 % (M.length : Int)).toNat (M.getD (pb1 % (M.length : Int)).toNat default)) := fun X h => by rw [h]; exact rowOf_set rfl
      rw [hset _ (by rfl)]
      have hl3 : (M.set (pa1 % (M.length : Int)).toNat (M.getD (pb1 % (M.length : Int)).toNat default)).length = M.length := List.length_set ..
      have hl4 : ((M.set (pa1 % (M.length : Int)).toNat (M.getD (pb1 % (M.length : Int)).toNat default)).set (pb1 % (M.length : Int)).toNat (M.getD (pa1 % (M.length : Int)).toNat default)).length = M.length := by rw [List.length_set, List.length_set]
      repeat' (first|(refine gR ?_; first|refine x_opF rfl (by first|exact True.intro|omega) ?_|(refine gS ?_; first|refine vr_store_rowO (gk rfl) rfl rfl rfl (by omega) rfl rfl rfl ?_))|(refine gO ?_; first|refine vr_nil ?_|refine vr_nil_t (by kernel_rfl) ?_)|(refine gT ?_; first|refine q_then_n ?_)|(refine gK ?_; first|refine q_blk_n ?_)|refine vc_region ?_)
      refine ⟨(u + 1, (M.set (pa1 % (M.length : Int)).toNat (M.getD (pb1 % (M.length : Int)).toNat default)).set (pb1 % (M.length : Int)).toNat (M.getD (pa1 % (M.length : Int)).toNat default)), ⟨hlt3, RepL.swap hM (by omega) (by omega), by dsimp only; omega, by dsimp only; omega⟩, by dsimp only; omega, ?_⟩
      refine le_gen0 (fun n => n) ?_ ?_ rfl (by first|rfl|(simp only [wfL, wfs, mpO_namesB, mpO_namesI]; rfl))
      all_goals repeat' (first|exact trivial|refine ⟨⟨_, rfl, ?_⟩, ?_⟩|exact .c .d|(refine .c (.row rfl ?_); ((try dsimp only); first|rfl|omega|(simp only [lns] <;> omega)); done)|exact .rowD (rowOf_set rfl) rowOf_isD|fail)
    have d7 : decide ((u : Int) < (sw.length : Int)) = false := decide_eq_false (by omega)
    repeat' (first|(refine gR ?_; first|refine x_opF rfl (by first|exact True.intro|omega) ?_|(refine gE ?_; first|refine vr_len_row (gk rfl) rfl rfl (by first|rfl|exact rowOf_length.symm|(simp only [lns] <;> omega)) rfl rfl ?_))|(refine gO ?_; first|refine vr_nil ?_)|(refine gT ?_; first|refine q_then_n ?_|refine q_then_x ?_)|(refine gK ?_; first|refine q_blk_x ?_)|(show VC _ (.seq _ _) _ _; (fail_if_success (show VC _ (.seq (.seq (.region 28 _ _) _) _) _ _)); (fail_if_success (show VC _ (.seq (.region 28 _ _) _) _ _)); refine vc_seq ?_)|refine vc_region ?_|(show VC _ (.cond _ _ _) _ _; first|refine vc_cond_f rfl ?_|refine x_know rfl (by assumption) ?_)|refine vc_exit ?_|refine vc_block ?_)
    refine VC.le (σ' := stOf [(9, AI n), (10, AD (rks st)), (20, AD (rps [])), (143, AD (rps M)), (144, AI M.length), (145, AI 0)] []) ?_ ?_
    · refine le_gen (fun n => n) [300] hS ?_ ?_ rfl (by first|rfl|(simp only [wfL, wfs, mpO_namesB, mpO_namesI]; rfl))
      all_goals repeat' (first|exact trivial|refine ⟨⟨_, rfl, ?_⟩, ?_⟩|exact .c .d|exact .c .nil|exact .c (.frzOf (by first|(simp; done)|decide) rfl rfl (fun _ => rfl))|fail)
    refine vc_loopI (ι := Nat × List RP) (fun p => stOf [(9, AI n), (10, AD (rks st)), (20, AD (rps p.2)), (143, AD (rps M)), (144, AI M.length), (145, AI p.1)] []) (fun p => p.1 <= M.length /\ InvT (M.take p.1) p.2) (fun p => M.length - p.1) (0, []) ⟨Nat.zero_le _, Go.Proofs.D.invT_nil⟩ ?_ ?_
    · refine le_gen0 (fun n => n) ?_ ?_ rfl (by first|rfl|(simp only [wfL, wfs, mpO_namesB, mpO_namesI]; rfl))
      all_goals repeat' (first|exact trivial|refine ⟨⟨_, rfl, ?_⟩, ?_⟩|exact .c .d|fail)
    rintro ⟨v, t⟩ ⟨hv, ht⟩
    dsimp only at hv ht ⊢
    rcases Nat.lt_or_ge v M.length with hlt4 | hge4
    · have d8 : decide ((v : Int) < (M.length : Int)) = true := decide_eq_true (by omega)
      have hput := Go.Proofs.D.put_spec t (M.getD v default)
      have htk : M.take (v + 1) = M.take v ++ [M.getD v default] := by
        rw [List.take_add_one, List.getD_eq_getElem?_getD, List.getElem?_eq_getElem hlt4]; rfl
      rcases ht.step (M.getD v default) with ⟨h5, h6⟩ | ⟨h5, h6⟩
      · rw [<- htk] at h6
        rw [h5] at hput
        generalize (Go.Proofs.D.putM t (M.getD v default)).1 = t2 at *
        generalize (Go.Proofs.D.putM t (M.getD v default)).2.1 = b2 at *
        repeat' (first|(refine gR ?_; first|refine x_opF rfl (by first|exact True.intro|omega) ?_|(refine gC ?_; first|refine vr_calldU (hput) (gk rfl) rfl rfl rfl (by first|rfl|(simp only [wfRes, wfL, wfArgs, wfs, mpO_namesB, mpO_namesI]; rfl)) rfl (by first|exact newB_nil|exact newB_O|((simp only [newB, List.map_cons, List.map_nil, Blk.shift, rowOf_shift]) <;> rfl)|rfl) rfl ?_)|(refine gI ?_; first|refine vr_index_rd (gk rfl) rfl rfl rfl rfl rfl (by omega) rfl ?_))|(refine gO ?_; first|refine vr_nil ?_)|(refine gT ?_; first|refine q_then_n ?_)|(refine gK ?_; first|refine q_blk_n ?_)|refine vc_seq ?_|refine vc_region ?_|(show VC _ (.cond _ _ _) _ _; first|refine vc_cond_t rfl ?_|refine x_know rfl (by assumption) ?_)|refine vc_block ?_|refine vc_skip ?_)
        refine ⟨(v + 1, t2), ⟨hlt4, h6⟩, by dsimp only; omega, ?_⟩
        refine le_gen0 (fun n => n) ?_ ?_ rfl (by first|rfl|(simp only [wfL, wfs, mpO_namesB, mpO_namesI]; rfl))
        all_goals repeat' (first|exact trivial|refine ⟨⟨_, rfl, ?_⟩, ?_⟩|exact .c .d|fail)
      · rw [<- htk] at h6
        have d9 : decide ((Go.Proofs.D.putM t (M.getD v default)).2.2 = 0) = false := decide_eq_false (by omega)
        generalize Go.Proofs.D.putM t (M.getD v default) = q3 at *
        obtain ⟨t3, b3, e3⟩ := q3
        repeat' (first|(refine gR ?_; first|refine x_opF rfl (by first|exact True.intro|omega) ?_|(refine gC ?_; first|refine vr_calldU (hput) (gk rfl) rfl rfl rfl (by first|rfl|(simp only [wfRes, wfL, wfArgs, wfs, mpO_namesB, mpO_namesI]; rfl)) rfl (by first|exact newB_nil|exact newB_O|((simp only [newB, List.map_cons, List.map_nil, Blk.shift, rowOf_shift]) <;> rfl)|rfl) rfl ?_)|(refine gI ?_; first|refine vr_index_rd (gk rfl) rfl rfl rfl rfl rfl (by omega) rfl ?_))|(refine gO ?_; first|refine vr_nil ?_)|(refine gT ?_; first|refine q_then_n ?_)|(refine gK ?_; first|refine q_blk_n ?_)|refine vc_seq ?_|refine vc_region ?_|(show VC _ (.cond _ _ _) _ _; first|refine vc_cond_t rfl ?_|refine vc_cond_f rfl ?_|refine x_know rfl (by assumption) ?_)|refine vc_block ?_|refine vc_skip ?_)
        refine ⟨(v + 1, t), ⟨hlt4, h6⟩, by dsimp only; omega, ?_⟩
        refine le_gen0 (fun n => n) ?_ ?_ rfl (by first|rfl|(simp only [wfL, wfs, mpO_namesB, mpO_namesI]; rfl))
        all_goals repeat' (first|exact trivial|refine ⟨⟨_, rfl, ?_⟩, ?_⟩|exact .c .d|fail)
    have d8 : decide ((v : Int) < (M.length : Int)) = false := decide_eq_false (by omega)
    have e9 : M.take v = M := List.take_of_length_le hge4
    rw [e9] at ht
    have hform : ∀ i : Nat, 1 <= i -> i < n -> Go.Proofs.D.formR (repS (paS st) i) = 0 := fun i h1 h2 => by
      obtain ⟨r1, r2⟩ := hst i h2
      have hpa : paS st (i : Int) = (st.getD i default).parent := rfl
      have hb : -1 = paS st (i : Int) \/ (0 <= paS st (i : Int) /\ paS st (i : Int) <= 31 /\ paS st (i : Int) ≠ i) := by
        rw [hpa]
        by_cases hp : (st.getD i default).parent = -1
        · exact .inl hp.symm
        · obtain ⟨_, q2, q3, _⟩ := Go.Proofs.P.rk_parent r1 hp
          have q4 : 0 <= (st.getD i default).parent /\ (st.getD i default).parent <= 31 := Go.Proofs.P.bounds_inR q2
          exact .inr ⟨q4.1, q4.2, by rw [r2] at q3; exact q3⟩
      unfold Go.Proofs.D.formR
      rw [if_neg, if_neg]
      · show ¬ paS st (i : Int) = (i : Int)
        omega
      · show ¬ (Go.Proofs.D.nodeB (i : Int) = false \/ (i : Int) = 0 \/ (paS st (i : Int) ≠ -1 /\ Go.Proofs.D.nodeB (paS st (i : Int)) = false) \/ (100 : Int) < 1 \/ 2147483647 < (100 : Int))
        simp only [Go.Proofs.D.nodeB, decide_eq_false_iff_not]
        omega
    obtain ⟨hf, hp2⟩ := hM.tree (by omega) hform ht
    have hre := Go.Proofs.D.reach_spec t
    repeat' (first|(refine gR ?_; first|refine x_opF rfl (by first|exact True.intro|omega) ?_|(refine gC ?_; first|refine vr_calldU (hre) (gk rfl) rfl rfl rfl (by first|rfl|(simp only [wfRes, wfL, wfArgs, wfs, mpO_namesB, mpO_namesI]; rfl)) rfl (by first|exact newB_nil|exact newB_O|((simp only [newB, List.map_cons, List.map_nil, Blk.shift, rowOf_shift]) <;> rfl)|rfl) rfl ?_))|(refine gO ?_; first|refine vr_nil ?_)|(refine gT ?_; first|refine q_then_n ?_|refine q_then_x ?_)|(refine gK ?_; first|refine q_blk_x ?_)|(show VC _ (.seq _ _) _ _; (fail_if_success (show VC _ (.seq (.seq (.region 36 _ _) _) _) _ _)); (fail_if_success (show VC _ (.seq (.region 36 _ _) _) _ _)); refine vc_seq ?_)|refine vc_region ?_|(show VC _ (.cond _ _ _) _ _; first|refine vc_cond_f rfl ?_|refine x_know rfl (by assumption) ?_)|refine vc_exit ?_|refine vc_block ?_)
    refine VC.le (σ' := stOf [(9, AI n), (10, AD (rks st)), (20, AD (rps t)), (26, AD (ints (reachM t))), (162, AI n), (163, AI 0)] []) ?_ ?_
    · refine le_gen0 (fun n => n) ?_ ?_ rfl (by first|rfl|(simp only [wfL, wfs, mpO_namesB, mpO_namesI]; rfl))
      all_goals repeat' (first|exact trivial|refine ⟨⟨_, rfl, ?_⟩, ?_⟩|exact .c .d|fail)
    refine vc_loopI (ι := Nat) (fun w => stOf [(9, AI n), (10, AD (rks st)), (20, AD (rps t)), (26, AD (ints (reachM t))), (162, AI n), (163, AI w)] []) (fun w => w <= n) (fun w => n - w) 0 (Nat.zero_le _) ?_ ?_
    · refine le_gen0 (fun n => n) ?_ ?_ rfl (by first|rfl|(simp only [wfL, wfs, mpO_namesB, mpO_namesI]; rfl))
      all_goals repeat' (first|exact trivial|refine ⟨⟨_, rfl, ?_⟩, ?_⟩|exact .c .d|fail)
    intro w hw
    rcases Nat.lt_or_ge w n with hlt5 | hge5
    · have d9 : decide ((w : Int) < (n : Int)) = true := decide_eq_true (by omega)
      obtain ⟨K, hKn, hK1, hK2⟩ := first_not (P := condK (paS st) n w) (n := n) (fun h => by have := h.2.2; omega)
      repeat' (first|(refine gR ?_; first|refine x_opF rfl (by first|exact True.intro|omega) ?_)|(refine gO ?_; first|refine vr_nil ?_)|(refine gT ?_; first|refine q_then_n ?_)|(show VC _ (.seq (.region _ _ _) _) _ _; refine vc_seq ?_)|(show VC _ (.seq (.cond _ _ _) _) _ _; refine vc_seq ?_)|refine vc_region ?_|(show VC _ (.cond _ _ _) _ _; first|refine vc_cond_t rfl ?_|refine x_know rfl (by assumption) ?_)|refine vc_skip ?_)
      refine vc_seq ?_
      refine vc_block ?_
      repeat' (first|(refine gR ?_; first|refine x_opF rfl (by first|exact True.intro|omega) ?_)|(refine gO ?_; first|refine vr_nil ?_)|(refine gT ?_; first|refine q_then_n ?_)|(show VC _ (.seq (.region _ _ _) _) _ _; refine vc_seq ?_)|refine vc_region ?_)
      refine vc_cut (stOf [(9, AI n), (10, AD (rks st)), (20, AD (rps t)), (26, AD (ints (reachM t))), (162, AI n), (163, AI w), (27, AI w), (28, .c (.row 400 (wayK (paS st) w K).length))] [(400, .row 3 1 (rowOf encI (wayK (paS st) w K)))]) ?_ ?_
      · repeat' (first|(refine gR ?_; first|refine x_opF rfl (by first|exact True.intro|omega) ?_)|(refine gO ?_; first|refine vr_nil ?_)|(refine gT ?_; first|refine q_then_n ?_)|refine vc_seq ?_|refine vc_region ?_|refine vc_block ?_)
        refine vc_loopI (ι := Nat) (fun k => stOf [(9, AI n), (10, AD (rks st)), (20, AD (rps t)), (26, AD (ints (reachM t))), (162, AI n), (163, AI w), (27, AI w), (28, .c (.row 400 (wayK (paS st) w k).length)), (29, AI (atK (paS st) w k))] [(400, .row 3 1 (rowOf encI (wayK (paS st) w k)))]) (fun k => k <= K) (fun k => K - k) 0 (Nat.zero_le _) ?_ ?_
        · refine le_gen0 (fun n => if n = 400 then 167 else n) ?_ ?_ rfl (by first|rfl|(simp only [wfL, wfs, mpO_namesB, mpO_namesI]; rfl))
          all_goals repeat' (first|exact trivial|refine ⟨⟨_, rfl, ?_⟩, ?_⟩|exact .c .d|exact .c (.row rfl rfl)|exact .rowD rfl rowOf_isD|fail)
        intro k hk
        have hkl2 := Go.Proofs.D.wayK_len (paS st) w k
        rcases Nat.lt_or_ge k K with hkK | hkK
        · have hcd := hK1 k hkK
          unfold condK at hcd
          obtain ⟨c1, c2, c3⟩ := hcd
          have e1 : decide (0 < atK (paS st) w k) = true := decide_eq_true c1
          have e2 : decide (atK (paS st) w k < (n : Int)) = true := decide_eq_true c2
          have e3 : decide (((wayK (paS st) w k).length : Int) <= (n : Int)) = true := decide_eq_true (by omega)
          have hkl3 := Go.Proofs.D.wayK_len (paS st) w (k + 1)
          repeat' (first|(refine gR ?_; first|refine x_opF rfl (by first|exact True.intro|omega) ?_|(refine gI ?_; first|refine vr_index_rdN (gk rfl) rfl rfl rfl rfl (by first|omega|decide) rfl ?_)|(refine gE ?_; first|refine vr_len_row (gk rfl) rfl rfl (by first|rfl|exact rowOf_length.symm|(simp only [lns] <;> omega)) rfl rfl ?_)|(refine gA ?_; first|refine vr_append0 (gk rfl) rfl rfl rfl (by first|rfl|exact rowOf_length.symm|(simp only [lns] <;> omega)) (by first|exact .row rfl (by first|rfl|exact rowOf_length.symm)|exact .rd|exact .nils) rfl rfl rfl (by (try dsimp only); omega) rfl rfl ?_)|refine x_gknow rfl (by assumption) ?_)|(refine gO ?_; first|refine vr_nil ?_)|(refine gT ?_; first|refine q_then_n ?_)|(refine gK ?_; first|refine q_blk_n ?_)|refine vc_seq ?_|refine vc_region ?_|(show VC _ (.cond _ _ _) _ _; first|refine vc_cond_t rfl ?_|refine x_know rfl (by assumption) ?_)|refine vc_block ?_|refine vc_skip ?_)
          refine ⟨k + 1, hkK, by omega, ?_⟩
          refine le_gen0 (fun n => if n = 400 then 190 else n) ?_ ?_ rfl (by first|rfl|(simp only [wfL, wfs, mpO_namesB, mpO_namesI]; rfl))
          all_goals repeat' (first|exact trivial|refine ⟨⟨_, rfl, ?_⟩, ?_⟩|exact .c .d|(refine .c (.row rfl ?_); ((try dsimp only); first|rfl|omega|(simp only [lns] <;> omega)); done)|exact .rowD rfl rowOf_isD|fail)
        · have e : k = K := by omega
          subst e
          unfold condK at hK2
          repeat' (first|(refine gR ?_; first|refine x_opF rfl (by first|exact True.intro|omega) ?_|(refine gI ?_; first|refine vr_index_rdN (gk rfl) rfl rfl rfl rfl (by first|omega|decide) rfl ?_)|(refine gE ?_; first|refine vr_len_row (gk rfl) rfl rfl (by first|rfl|exact rowOf_length.symm|(simp only [lns] <;> omega)) rfl rfl ?_)|(refine gA ?_; first|refine vr_append0 (gk rfl) rfl rfl rfl (by first|rfl|exact rowOf_length.symm|(simp only [lns] <;> omega)) (by first|exact .row rfl (by first|rfl|exact rowOf_length.symm)|exact .rd|exact .nils) rfl rfl rfl (by (try dsimp only); omega) rfl rfl ?_)|(refine x_gsplit rfl ?_ ?_ <;> intro h <;> have hq := h <;> (try simp only [hqs] at hq)))|(refine gO ?_; first|refine vr_nil ?_)|(refine gT ?_; first|refine q_then_n ?_|refine q_then_x ?_)|(refine gK ?_; first|refine q_blk_n ?_|refine q_blk_x ?_)|refine vc_seq ?_|refine vc_region ?_|(show VC _ (.cond _ _ _) _ _; first|refine vc_cond_f rfl ?_|(refine x_cond rfl ?_ ?_ <;> intro h <;> have hq := h <;> (try simp only [hqs] at hq)))|refine vc_exit ?_|refine vc_block ?_|refine vc_skip ?_)
          · exfalso
            exact hK2 ⟨by assumption, by assumption, by omega⟩
          · refine le_gen0 (fun n => n) ?_ ?_ rfl (by first|rfl|(simp only [wfL, wfs, mpO_namesB, mpO_namesI]; rfl))
            all_goals repeat' (first|exact trivial|refine ⟨⟨_, rfl, ?_⟩, ?_⟩|exact .c .d|exact .c (.row rfl rfl)|exact .rowD rfl rowOf_isD|fail)
          · refine le_gen0 (fun n => n) ?_ ?_ rfl (by first|rfl|(simp only [wfL, wfs, mpO_namesB, mpO_namesI]; rfl))
            all_goals repeat' (first|exact trivial|refine ⟨⟨_, rfl, ?_⟩, ?_⟩|exact .c .d|exact .c (.row rfl rfl)|exact .rowD rfl rowOf_isD|fail)
          · refine le_gen0 (fun n => n) ?_ ?_ rfl (by first|rfl|(simp only [wfL, wfs, mpO_namesB, mpO_namesI]; rfl))
            all_goals repeat' (first|exact trivial|refine ⟨⟨_, rfl, ?_⟩, ?_⟩|exact .c .d|exact .c (.row rfl rfl)|exact .rowD rfl rowOf_isD|fail)
      have hlen5 := Go.Proofs.D.wayK_len (paS st) w K
      have hhead := Go.Proofs.D.wayK_head (paS st) w K
      have hrou := Go.Proofs.D.routeS_spec t w
      have hwal := Go.Proofs.D.walk_spec t w
      have hcon := contI_spec (reachM t) w
      have hany : ((reachM t).any fun y => decide ((w : Int) = y)) = goodL (wayL t w).reverse := by
        have hr : reachM t = Go.Proofs.D.reachK t 32 := by
          unfold reachM
          rw [if_neg (by simp [Go.Proofs.D.okR_check ht.ok])]
        rw [hr]
        unfold Go.Proofs.D.reachK
        cases hg : goodL (wayL t w).reverse with
        | true =>
          refine List.any_eq_true.2 ⟨(w : Int), List.mem_filter.2 ⟨List.mem_map.2 ⟨w, List.mem_range.2 (by omega), rfl⟩, hg⟩, decide_eq_true rfl⟩
        | false =>
          refine List.any_eq_false.2 fun x hx => ?_
          have h3 := (List.mem_filter.1 hx).2
          intro e
          have := of_decide_eq_true e
          subst this
          rw [hg] at h3
          cases h3
      rw [hany] at hcon
      rw [Go.Proofs.D.rouM_ok ht.ok (by omega)] at hrou hwal
      by_cases hlead : atK (paS st) w K = 0 /\ K + 1 <= 9
      · obtain ⟨g1, g2⟩ := Go.Proofs.D.lead_yes (by omega) hf hp2 hK1 hlead.1 hlead.2
        have hway : (wayL t w).reverse = wayK (paS st) w K := by rw [g2, Go.Proofs.D.wayK_rev]
        rw [g1, if_pos rfl, hway] at hrou hwal
        rw [g1] at hcon
        rw [hlead.1] at hhead
        have heq := Go.Proofs.D.equalI_spec (wayK (paS st) w K) (wayK (paS st) w K)
        rw [decide_eq_true rfl] at heq
        generalize wayK (paS st) w K = F at *
        have f1 : decide (F.getD 0 default = 0) = true := decide_eq_true hhead
        have f2 : decide ((F.length : Int) <= 9) = true := decide_eq_true (by omega)
        repeat' (first|(refine gR ?_; first|refine x_opF rfl (by first|exact True.intro|omega) ?_|(refine gI ?_; first|refine vr_index_rowN (gk rfl) rfl rfl rfl rfl rfl (by omega) (by first|rfl|exact rowOf_length.symm|(simp only [lns] <;> omega)) rfl ?_)|(refine gE ?_; first|refine vr_len_row (gk rfl) rfl rfl (by first|rfl|exact rowOf_length.symm|(simp only [lns] <;> omega)) rfl rfl ?_)|(refine gL ?_; first|refine vr_load_rowO (gk rfl) rfl rfl (by omega) rfl rfl rfl ?_)|refine x_gknow rfl (by assumption) ?_)|(refine gO ?_; first|refine vr_nil ?_)|(refine gT ?_; first|refine q_then_n ?_)|(show VC _ (.seq _ _) _ _; (fail_if_success (show VC _ (.seq (.seq (.region 44 _ _) _) _) _ _)); (fail_if_success (show VC _ (.seq (.region 44 _ _) _) _ _)); refine vc_seq ?_)|refine vc_region ?_)
        refine VC.le (σ' := stOf [(9, AI n), (10, AD (rks st)), (20, AD (rps t)), (26, AD (ints (reachM t))), (162, AI n), (163, AI w), (27, AI w), (28, AD (ints F)), (30, AB (decide ((F.length : Int) <= 9)))] []) ?_ ?_
        · refine le_gen (fun n => n) [400] hS ?_ ?_ rfl (by first|rfl|(simp only [wfL, wfs, mpO_namesB, mpO_namesI]; rfl))
          all_goals repeat' (first|exact trivial|refine ⟨⟨_, rfl, ?_⟩, ?_⟩|exact .c .d|exact .c (.frzOf (by first|(simp; done)|decide) rfl rfl (fun _ => rfl))|fail)
        rw [f2]
        repeat' (first|(refine gR ?_; first|refine x_opF rfl (by first|exact True.intro|omega) ?_|(refine gC ?_; first|refine vr_calldU (hrou) (gk rfl) rfl rfl rfl (by first|rfl|(simp only [wfRes, wfL, wfArgs, wfs, mpO_namesB, mpO_namesI]; rfl)) rfl (by first|exact newB_nil|exact newB_O|((simp only [newB, List.map_cons, List.map_nil, Blk.shift, rowOf_shift]) <;> rfl)|rfl) rfl ?_|refine vr_calldU (hwal) (gk rfl) rfl rfl rfl (by first|rfl|(simp only [wfRes, wfL, wfArgs, wfs, mpO_namesB, mpO_namesI]; rfl)) rfl (by first|exact newB_nil|exact newB_O|((simp only [newB, List.map_cons, List.map_nil, Blk.shift, rowOf_shift]) <;> rfl)|rfl) rfl ?_|refine vr_calldU (hcon) (gk rfl) rfl rfl rfl (by first|rfl|(simp only [wfRes, wfL, wfArgs, wfs, mpO_namesB, mpO_namesI]; rfl)) rfl (by first|exact newB_nil|exact newB_O|((simp only [newB, List.map_cons, List.map_nil, Blk.shift, rowOf_shift]) <;> rfl)|rfl) rfl ?_|refine vr_calldU (heq) (gk rfl) rfl rfl rfl (by first|rfl|(simp only [wfRes, wfL, wfArgs, wfs, mpO_namesB, mpO_namesI]; rfl)) rfl (by first|exact newB_nil|exact newB_O|((simp only [newB, List.map_cons, List.map_nil, Blk.shift, rowOf_shift]) <;> rfl)|rfl) rfl ?_))|(refine gO ?_; first|refine vr_nil ?_)|(refine gT ?_; first|refine q_then_n ?_)|(refine gK ?_; first|refine q_blk_n ?_)|refine vc_seq ?_|refine vc_region ?_|(show VC _ (.cond _ _ _) _ _; first|refine vc_cond_f rfl ?_)|refine vc_skip ?_)
        refine ⟨w + 1, hlt5, by omega, ?_⟩
        refine le_gen0 (fun n => n) ?_ ?_ rfl (by first|rfl|(simp only [wfL, wfs, mpO_namesB, mpO_namesI]; rfl))
        all_goals repeat' (first|exact trivial|refine ⟨⟨_, rfl, ?_⟩, ?_⟩|exact .c .d|fail)
      · have g1 : goodL (wayL t w).reverse = false := by
          cases hg : goodL (wayL t w).reverse with
          | false => rfl
          | true => exact absurd (Go.Proofs.D.lead_of (by omega) hf hp2 hK1 hK2 hg) hlead
        rw [g1, if_neg (by simp)] at hrou hwal
        rw [g1] at hcon
        generalize wayK (paS st) w K = F at *
        by_cases h0 : atK (paS st) w K = 0
        · have f1 : decide (F.getD 0 default = 0) = true := decide_eq_true (by rw [hhead]; exact h0)
          have f2 : decide ((F.length : Int) <= 9) = false := decide_eq_false (by omega)
          repeat' (first|(refine gR ?_; first|refine x_opF rfl (by first|exact True.intro|omega) ?_|(refine gI ?_; first|refine vr_index_rowN (gk rfl) rfl rfl rfl rfl rfl (by omega) (by first|rfl|exact rowOf_length.symm|(simp only [lns] <;> omega)) rfl ?_)|(refine gE ?_; first|refine vr_len_row (gk rfl) rfl rfl (by first|rfl|exact rowOf_length.symm|(simp only [lns] <;> omega)) rfl rfl ?_)|(refine gL ?_; first|refine vr_load_rowO (gk rfl) rfl rfl (by omega) rfl rfl rfl ?_)|refine x_gknow rfl (by assumption) ?_)|(refine gO ?_; first|refine vr_nil ?_)|(refine gT ?_; first|refine q_then_n ?_)|(show VC _ (.seq _ _) _ _; (fail_if_success (show VC _ (.seq (.seq (.region 44 _ _) _) _) _ _)); (fail_if_success (show VC _ (.seq (.region 44 _ _) _) _ _)); refine vc_seq ?_)|refine vc_region ?_)
          refine VC.le (σ' := stOf [(9, AI n), (10, AD (rks st)), (20, AD (rps t)), (26, AD (ints (reachM t))), (162, AI n), (163, AI w), (27, AI w), (28, AD (ints F)), (30, AB (decide ((F.length : Int) <= 9)))] []) ?_ ?_
          · refine le_gen (fun n => n) [400] hS ?_ ?_ rfl (by first|rfl|(simp only [wfL, wfs, mpO_namesB, mpO_namesI]; rfl))
            all_goals repeat' (first|exact trivial|refine ⟨⟨_, rfl, ?_⟩, ?_⟩|exact .c .d|exact .c (.frzOf (by first|(simp; done)|decide) rfl rfl (fun _ => rfl))|fail)
          rw [f2]
          repeat' (first|(refine gR ?_; first|refine x_opF rfl (by first|exact True.intro|omega) ?_|(refine gC ?_; first|refine vr_calldU (hrou) (gk rfl) rfl rfl rfl (by first|rfl|(simp only [wfRes, wfL, wfArgs, wfs, mpO_namesB, mpO_namesI]; rfl)) rfl (by first|exact newB_nil|exact newB_O|((simp only [newB, List.map_cons, List.map_nil, Blk.shift, rowOf_shift]) <;> rfl)|rfl) rfl ?_|refine vr_calldU (hwal) (gk rfl) rfl rfl rfl (by first|rfl|(simp only [wfRes, wfL, wfArgs, wfs, mpO_namesB, mpO_namesI]; rfl)) rfl (by first|exact newB_nil|exact newB_O|((simp only [newB, List.map_cons, List.map_nil, Blk.shift, rowOf_shift]) <;> rfl)|rfl) rfl ?_|refine vr_calldU (hcon) (gk rfl) rfl rfl rfl (by first|rfl|(simp only [wfRes, wfL, wfArgs, wfs, mpO_namesB, mpO_namesI]; rfl)) rfl (by first|exact newB_nil|exact newB_O|((simp only [newB, List.map_cons, List.map_nil, Blk.shift, rowOf_shift]) <;> rfl)|rfl) rfl ?_))|(refine gO ?_; first|refine vr_nil ?_)|(refine gT ?_; first|refine q_then_n ?_)|(refine gK ?_; first|refine q_blk_n ?_)|refine vc_seq ?_|refine vc_region ?_|(show VC _ (.cond _ _ _) _ _; first|refine vc_cond_f rfl ?_)|refine vc_skip ?_)
          refine ⟨w + 1, hlt5, by omega, ?_⟩
          refine le_gen0 (fun n => n) ?_ ?_ rfl (by first|rfl|(simp only [wfL, wfs, mpO_namesB, mpO_namesI]; rfl))
          all_goals repeat' (first|exact trivial|refine ⟨⟨_, rfl, ?_⟩, ?_⟩|exact .c .d|fail)
        · have f1 : decide (F.getD 0 default = 0) = false := decide_eq_false (by rw [hhead]; exact h0)
          repeat' (first|(refine gR ?_; first|refine x_opF rfl (by first|exact True.intro|omega) ?_|(refine gI ?_; first|refine vr_index_rowN (gk rfl) rfl rfl rfl rfl rfl (by omega) (by first|rfl|exact rowOf_length.symm|(simp only [lns] <;> omega)) rfl ?_)|(refine gL ?_; first|refine vr_load_rowO (gk rfl) rfl rfl (by omega) rfl rfl rfl ?_)|refine x_gknow rfl (by assumption) ?_)|(refine gO ?_; first|refine vr_nil ?_)|(refine gT ?_; first|refine q_then_n ?_)|(show VC _ (.seq _ _) _ _; (fail_if_success (show VC _ (.seq (.seq (.region 44 _ _) _) _) _ _)); (fail_if_success (show VC _ (.seq (.region 44 _ _) _) _ _)); refine vc_seq ?_)|refine vc_region ?_)
          refine VC.le (σ' := stOf [(9, AI n), (10, AD (rks st)), (20, AD (rps t)), (26, AD (ints (reachM t))), (162, AI n), (163, AI w), (27, AI w), (28, AD (ints F)), (30, AB false)] []) ?_ ?_
          · refine le_gen (fun n => n) [400] hS ?_ ?_ rfl (by first|rfl|(simp only [wfL, wfs, mpO_namesB, mpO_namesI]; rfl))
            all_goals repeat' (first|exact trivial|refine ⟨⟨_, rfl, ?_⟩, ?_⟩|exact .c .d|exact .c (.frzOf (by first|(simp; done)|decide) rfl rfl (fun _ => rfl))|fail)
          repeat' (first|(refine gR ?_; first|refine x_opF rfl (by first|exact True.intro|omega) ?_|(refine gC ?_; first|refine vr_calldU (hrou) (gk rfl) rfl rfl rfl (by first|rfl|(simp only [wfRes, wfL, wfArgs, wfs, mpO_namesB, mpO_namesI]; rfl)) rfl (by first|exact newB_nil|exact newB_O|((simp only [newB, List.map_cons, List.map_nil, Blk.shift, rowOf_shift]) <;> rfl)|rfl) rfl ?_|refine vr_calldU (hwal) (gk rfl) rfl rfl rfl (by first|rfl|(simp only [wfRes, wfL, wfArgs, wfs, mpO_namesB, mpO_namesI]; rfl)) rfl (by first|exact newB_nil|exact newB_O|((simp only [newB, List.map_cons, List.map_nil, Blk.shift, rowOf_shift]) <;> rfl)|rfl) rfl ?_|refine vr_calldU (hcon) (gk rfl) rfl rfl rfl (by first|rfl|(simp only [wfRes, wfL, wfArgs, wfs, mpO_namesB, mpO_namesI]; rfl)) rfl (by first|exact newB_nil|exact newB_O|((simp only [newB, List.map_cons, List.map_nil, Blk.shift, rowOf_shift]) <;> rfl)|rfl) rfl ?_))|(refine gO ?_; first|refine vr_nil ?_)|(refine gT ?_; first|refine q_then_n ?_)|(refine gK ?_; first|refine q_blk_n ?_)|refine vc_seq ?_|refine vc_region ?_|(show VC _ (.cond _ _ _) _ _; first|refine vc_cond_f rfl ?_)|refine vc_skip ?_)
          refine ⟨w + 1, hlt5, by omega, ?_⟩
          refine le_gen0 (fun n => n) ?_ ?_ rfl (by first|rfl|(simp only [wfL, wfs, mpO_namesB, mpO_namesI]; rfl))
          all_goals repeat' (first|exact trivial|refine ⟨⟨_, rfl, ?_⟩, ?_⟩|exact .c .d|fail)
    have d9 : decide ((w : Int) < (n : Int)) = false := decide_eq_false (by omega)
    repeat' (first|(refine gR ?_; first|refine x_opF rfl (by first|exact True.intro|omega) ?_)|(refine gO ?_; first|refine vr_nil ?_)|(refine gT ?_; first|refine q_then_n ?_|refine q_then_x ?_)|(refine gK ?_; first|refine q_blk_x ?_)|refine vc_seq ?_|refine vc_region ?_|(show VC _ (.cond _ _ _) _ _; first|refine vc_cond_f rfl ?_|refine x_know rfl (by assumption) ?_)|refine vc_ret ?_|refine vc_exit ?_)
    exact ret_bool isRet_r rfl rfl
  · have d4 : decide ((playM n ev).2 ≠ 0) = true := decide_eq_true he
    repeat' (first|(refine gR ?_; first|refine x_opF rfl (by first|exact True.intro|omega) ?_|(refine gC ?_; first|refine vr_calldU (hp) (gk rfl) rfl rfl rfl (by first|rfl|(simp only [wfRes, wfL, wfArgs, wfs, mpO_namesB, mpO_namesI]; rfl)) rfl (by first|exact newB_nil|exact newB_O|((simp only [newB, List.map_cons, List.map_nil, Blk.shift, rowOf_shift]) <;> rfl)|rfl) rfl ?_)|refine x_gknow rfl (by assumption) ?_)|(refine gO ?_; first|refine vr_nil ?_)|(refine gT ?_; first|refine q_then_n ?_|refine q_then_r ?_)|refine vc_seq ?_|refine vc_region ?_|(show VC _ (.cond _ _ _) _ _; first|refine vc_cond_t rfl ?_)|refine vc_ret ?_)
    exact ret_bool isRet_r rfl d4.symm
end Go.Proofs.X
end
