/-
  Sx, part 22: from a law's contract to its row: arguments that read as data are data of Sx; what is old reads behind the call as before.
-/
import Derived.Test.YtcheghbghehifaaSxEval
import Derived.ProofKit
import Derived.Deep.Slices
import Derived.Carry
namespace Go.Sx
open Go Go.RowKit

/-! ## Shapes -/

inductive Sh where
  | int (k : IntKind)
  | bool
  | str
  | sl (l : List Sh)

def shFs (P : Program) (rec : TypeId → Option (List Sh)) : List Field → Nat → Option (List Sh)
  | [], _ => some []
  | f :: fs, pos => match rec f.type with
    | some l => match Nat.beq f.offset pos && Nat.beq (P.cellsOf f.type) l.length, shFs P rec fs (pos + l.length) with
      | true, some m => some (l ++ m)
      | _, _ => none
    | none => none
def shOf (P : Program) : Nat → TypeId → Option (List Sh)
  | 0, _ => none
  | n + 1, t => match P.underlying t with
    | some .bool => some [.bool]
    | some (.int k) => some [.int k]
    | some .string => some [.str]
    | some (.slice e) => match shOf P n e with
      | some l => match Nat.beq (P.cellsOf e) l.length && Nat.blt 0 l.length with
        | true => some [.sl l]
        | false => none
      | none => none
    | some (.struct fs) => match shFs P (shOf P n) fs.toList 0 with
      | some l => match Nat.beq (P.cellsOf t) l.length with
        | true => some l
        | false => none
      | none => none
    | _ => none

mutual
def HasSh : Sh → D → Prop
  | .int k, x => ∃ n, x = .int k n ∧ (Lit.int k n).wf = true
  | .bool, x => ∃ b, x = .bool b
  | .str, x => ∃ s : ByteArray, x = .str s ∧ s.size ≤ maxLen
  | .sl l, x => ∃ n f, x = .rd n l.length f ∧ n ≤ maxLen ∧ ∀ i, i < n → HasShs l (f i) 0
def HasShs : List Sh → (Nat → D) → Nat → Prop
  | [], _, _ => True
  | s :: l, f, j => HasSh s (f j) ∧ HasShs l f (j + 1)
end

def HasShL : List Sh → List D → Prop
  | [], [] => True
  | s :: l, d :: ds => HasSh s d ∧ HasShL l ds
  | _, _ => False

theorem hasShL_append : ∀ {l m : List Sh} {ds es : List D}, HasShL l ds → HasShL m es → HasShL (l ++ m) (ds ++ es)
  | [], _, [], _, _, h => h
  | [], _, _ :: _, _, h, _ => h.elim
  | _ :: _, _, [], _, h, _ => h.elim
  | _ :: _, _, _ :: _, _, ⟨h1, h2⟩, h => ⟨h1, hasShL_append h2 h⟩
theorem hasShL_len : ∀ {l : List Sh} {ds : List D}, HasShL l ds → ds.length = l.length
  | [], [], _ => rfl
  | [], _ :: _, h => h.elim
  | _ :: _, [], h => h.elim
  | _ :: _, _ :: _, ⟨_, h⟩ => by simp [hasShL_len h]
theorem hasShs_of : ∀ {l : List Sh} {ds : List D}, HasShL l ds → ∀ (f : Nat → D) (j : Nat), (∀ i, i < ds.length → f (j + i) = ds.getD i .nils) → HasShs l f j
  | [], [], _, _, _, _ => by unfold HasShs; trivial
  | [], _ :: _, h, _, _, _ => h.elim
  | _ :: _, [], h, _, _, _ => h.elim
  | s :: l, d :: ds, ⟨h1, h2⟩, f, j, hf => by
    unfold HasShs
    refine ⟨?_, hasShs_of h2 f (j + 1) (fun i hi => ?_)⟩
    · have := hf 0 (by simp)
      simp only [Nat.add_zero] at this
      rw [this]; exact h1
    · have := hf (i + 1) (by simpa using hi)
      rw [show j + 1 + i = j + (i + 1) by omega, this]; rfl

section
variable {H : Type} {enc : TypeId × Value → H} {P : Program} {w : World} {base : Nat} {held : Bool}

def live (w : World) (b : Nat) : Prop := b < w.heap.size

theorem cell_live {b o : Nat} {u : Value} (h : w.cell? ⟨b, o, none⟩ = some u) : live w b := by
  unfold World.cell? at h
  unfold live
  cases hb : w.heap[b]? with
  | none => rw [hb] at h; cases h
  | some x => exact (Array.getElem?_eq_some_iff.1 hb).1

theorem take_drop_split {α : Type} (cs : List α) (p n : Nat) : cs.drop p = (cs.drop p).take n ++ cs.drop (p + n) := by
  rw [← List.drop_drop, List.take_append_drop]

theorem shFs_ok {rec : TypeId → Option (List Sh)} {n : Nat}
    (hrec : ∀ (t : TypeId) (cs : List Value) (x : DataW H × List MemPlace) (sh : List Sh), rec t = some sh → DataW.trod enc P w base (fun _ => true) held n t cs = some x → ∃ ds, All2 (RepD w (live w)) ds cs ∧ HasShL sh ds) (cs : List Value) :
    ∀ (fs : List Field) (pos : Nat) (sh : List Sh), shFs P rec fs pos = some sh → cs.length = pos + sh.length →
      (∀ f ∈ fs, ∃ x, DataW.trod enc P w base (fun _ => true) held n f.type ((cs.drop f.offset).take (P.cellsOf f.type)) = some x) → ∃ ds, All2 (RepD w (live w)) ds (cs.drop pos) ∧ HasShL sh ds
  | [], pos, sh, h, hl, _ => by
    injection h with h; subst h
    exact ⟨[], by rw [List.drop_of_length_le (by simp at hl; omega)]; exact .nil, trivial⟩
  | f :: fs, pos, sh, h, hl, hx => by
    unfold shFs at h
    split at h
    · rename_i l hl1
      split at h
      · rename_i m hb hm
        injection h with h; subst h
        simp only [Bool.and_eq_true, Nat.beq_eq] at hb
        obtain ⟨x, hx1⟩ := hx f (by simp)
        obtain ⟨ds, h1, h2⟩ := hrec _ _ _ _ hl1 hx1
        obtain ⟨es, h3, h4⟩ := shFs_ok hrec cs fs (pos + l.length) m hm (by rw [hl]; simp; omega) (fun g hg => hx g (by simp [hg]))
        refine ⟨ds ++ es, ?_, hasShL_append h2 h4⟩
        rw [hb.1, hb.2] at h1
        rw [take_drop_split cs pos l.length]
        exact h1.append h3
      · cases h
    · cases h

theorem trod_sh : ∀ (n fuel : Nat) (t : TypeId) (cs : List Value) (x : DataW H × List MemPlace) (sh : List Sh), shOf P n t = some sh → DataW.trod enc P w base (fun _ => true) held fuel t cs = some x →
    ∃ ds, All2 (RepD w (live w)) ds cs ∧ HasShL sh ds
  | 0, _, _, _, _, _, h, _ => by cases h
  | n + 1, fuel, t, cs, x, sh, h, hx => by
    unfold shOf at h
    split at h
    · rename_i hu
      injection h with h; subst h
      obtain ⟨b, rfl, _⟩ := DataW.trod_bool hu hx
      exact ⟨[.bool b], .cons rfl .nil, by unfold HasShL HasSh; exact ⟨⟨b, rfl⟩, trivial⟩⟩
    · rename_i k hu
      injection h with h; subst h
      obtain ⟨m, rfl, _, hwf⟩ := DataW.trod_int hu hx
      exact ⟨[.int k m], .cons rfl .nil, by unfold HasShL HasSh; exact ⟨⟨m, rfl, hwf⟩, trivial⟩⟩
    · rename_i hu
      injection h with h; subst h
      obtain ⟨s, rfl, _, hs⟩ := DataW.trod_string hu hx
      exact ⟨[.str s], .cons rfl .nil, by unfold HasShL HasSh; exact ⟨⟨s, rfl, hs⟩, trivial⟩⟩
    · rename_i e hu
      split at h
      · rename_i l hl
        split at h
        · rename_i hb
          injection h with h; subst h
          simp only [Bool.and_eq_true, Nat.beq_eq, Nat.blt_eq] at hb
          rcases Go.Deep.open_slice hu hx with ⟨rfl, _⟩ | ⟨a, len, cap, m, fl, Dt, Pl, rfl, hbs, hlc, hcm, hm, _, hel⟩
          · refine ⟨[.rd 0 l.length (fun _ _ => .nils)], .cons ⟨Nat.zero_le _, none, 0, rfl, Nat.le_refl _, fun h => absurd h (Nat.lt_irrefl 0)⟩ .nil, ?_⟩
            unfold HasShL HasSh
            exact ⟨⟨0, _, rfl, Nat.zero_le _, fun i hi => absurd hi (Nat.not_lt_zero _)⟩, trivial⟩
          · rw [if_pos rfl] at hm
            subst hm
            rw [hb.1] at hel
            have key : ∀ i, i < len → ∃ ds : List D, (∀ j, j < l.length → ∃ u, w.cell? ((a.add (i * l.length)).add j) = some u ∧ RepD w (live w) (ds.getD j .nils) u) ∧ HasShL l ds := by
              intro i hi
              obtain ⟨cs', h1, h2⟩ := hel i (by omega)
              obtain ⟨_, hlen, hc⟩ := World.cells?_some h1
              obtain ⟨ds, h3, h4⟩ := trod_sh n fl e cs' _ l hl h2
              refine ⟨ds, fun j hj => ?_, h4⟩
              have hdl := hasShL_len h4
              have hd : ds[j]? = some (ds.getD j .nils) := by rw [List.getD_eq_getElem?_getD, List.getElem?_eq_getElem (by omega)]; rfl
              obtain ⟨u, hu1, hu2⟩ := h3.get hd
              exact ⟨u, by rw [hc j hj, hu1], hu2⟩
            refine ⟨[.rd len l.length (fun i j => if h : i < len then (Classical.choose (key i h)).getD j .nils else .nils)], .cons ⟨Nat.le_trans hlc hcm, some a, m, rfl, hlc, fun h0 => ?_⟩ .nil, ?_⟩
            · have hsp : a.spot = none := by
                obtain ⟨u, hu1, _⟩ := (Classical.choose_spec (key 0 h0)).1 0 hb.2
                unfold World.cell? at hu1
                split at hu1
                · split at hu1
                  · cases hu1
                  · rename_i hs
                    simp only [Addr.add] at hs
                    cases hq : a.spot with
                    | none => rfl
                    | some q => simp [hq] at hs
                · cases hu1
              have hadd : ∀ i j, ((a.add (i * l.length)).add j) = ⟨a.block, a.off + (i * l.length + j), none⟩ := by
                intro i j
                obtain ⟨ab, ao, as⟩ := a
                simp only at hsp
                subst hsp
                simp [Addr.add_lit, Nat.add_assoc]
              have hae : a = ⟨a.block, a.off, none⟩ := by
                obtain ⟨ab, ao, as⟩ := a
                simp only at hsp
                subst hsp; rfl
              refine ⟨a.block, a.off, by rw [← hae], ?_, fun i hi j hj => ?_⟩
              · obtain ⟨u, hu1, _⟩ := (Classical.choose_spec (key 0 h0)).1 0 hb.2
                rw [hadd] at hu1
                exact cell_live hu1
              · obtain ⟨u, hu1, hu2⟩ := (Classical.choose_spec (key i hi)).1 j hj
                rw [hadd] at hu1
                refine ⟨u, hu1, ?_⟩
                simp only [hi, dite_true]
                exact hu2
            · unfold HasShL HasSh
              refine ⟨⟨len, _, rfl, Nat.le_trans hlc hcm, fun i hi => ?_⟩, trivial⟩
              simp only [hi, dite_true]
              exact hasShs_of (Classical.choose_spec (key i hi)).2 _ 0 (fun j _ => by rw [Nat.zero_add])
        · cases h
      · cases h
    · rename_i fs hu
      split at h
      · rename_i l hl
        split at h
        · rename_i hb
          injection h with h; subst h
          obtain ⟨xs, m, _, _, hlen, hxl, hel⟩ := DataW.trod_struct hu hx
          have := shFs_ok (fun t cs x sh => trod_sh n m t cs x sh) cs fs.toList 0 l hl (by rw [hlen]; simpa using hb) (fun f hf => by
            obtain ⟨i, hi⟩ := List.mem_iff_getElem?.1 hf
            have hi' : fs[i]? = some f := by simpa using hi
            have hlt : i < fs.size := (Array.getElem?_eq_some_iff.1 hi').1
            have := hel i f hi'
            rw [List.getElem?_eq_getElem (by omega)] at this
            exact ⟨_, this⟩)
          simpa using this
        · cases h
      · cases h
    · cases h


/-! ## Arguments -/

def aggT (P : Program) (t : TypeId) : Bool := match P.underlying t with
  | some (.struct _) => true
  | some (.array _ _) => true
  | _ => false
def avOf : Bool → List D → AV
  | true, ds => .agg (ds.map .d)
  | false, ds => .c (.d (ds.getD 0 .nils))

theorem shOf_one {n : Nat} {t : TypeId} {sh : List Sh} (h : shOf P n t = some sh) (ha : aggT P t = false) : (P.underlying t = some .bool ∨ (∃ k, P.underlying t = some (.int k)) ∨ P.underlying t = some .string ∨ ∃ e, P.underlying t = some (.slice e)) := by
  cases n with
  | zero => cases h
  | succ n =>
    unfold shOf at h
    split at h
    · exact .inl ‹_›
    · exact .inr (.inl ⟨_, ‹_›⟩)
    · exact .inr (.inr (.inl ‹_›))
    · exact .inr (.inr (.inr ⟨_, ‹_›⟩))
    · rename_i fs hu; unfold aggT at ha; rw [hu] at ha; cases ha
    · cases h

theorem arg_open {E : Env P 0} {ρ : Nat → RI} {n : Nat} {t : TypeId} {v : Value} {d : DataW H} {ps : List MemPlace} {sh : List Sh} {b : Bool} (hsh : shOf P n t = some sh) (hb : aggT P t = b)
    (hok : Value.okWide P w .any base t v) (h : DataW.Trod enc P w 0 (fun _ => true) true t v d ps) : ∃ ds, HasShL sh ds ∧ RepA E ρ w (live w) (avOf b ds) v := by
  obtain ⟨fuel, hx⟩ := h
  obtain ⟨ds, h1, h2⟩ := trod_sh n fuel t _ _ sh hsh hx
  refine ⟨ds, h2, ?_⟩
  cases b with
  | true =>
    have hv : ∃ cs, v = .agg cs := by
      unfold aggT at hb
      unfold Value.okWide at hok
      split at hb
      · rename_i hu; rw [hu] at hok; obtain ⟨cs, h, _⟩ := hok; exact ⟨cs, h⟩
      · rename_i hu; rw [hu] at hok; obtain ⟨cs, h, _⟩ := hok; exact ⟨cs, h⟩
      · cases hb
    obtain ⟨cs, rfl⟩ := hv
    refine ⟨cs.toList, by simp, ?_⟩
    have : (Value.agg cs).cells.toList = cs.toList := rfl
    rw [this] at h1
    clear hx hok hsh h2 this
    generalize cs.toList = us at h1
    induction h1 with
    | nil => exact .nil
    | cons hr _ ih => exact .cons hr ih
  | false =>
    have hv : v.cells = #[v] := by
      rcases shOf_one hsh hb with hu | ⟨k, hu⟩ | hu | ⟨e, hu⟩
      · obtain ⟨b, hc, _⟩ := DataW.trod_bool hu hx
        unfold Value.okWide at hok; rw [hu] at hok
        cases v <;> first | rfl | (simp [Cell.okWide, Cell.ok, hu] at hok)
      · unfold Value.okWide at hok; rw [hu] at hok
        cases v <;> first | rfl | (simp [Cell.okWide, Cell.ok, hu] at hok)
      · unfold Value.okWide at hok; rw [hu] at hok
        cases v <;> first | rfl | (simp [Cell.okWide, Cell.ok, hu] at hok)
      · unfold Value.okWide at hok; rw [hu] at hok
        cases v <;> first | rfl | (simp [Cell.okWide, Cell.ok, hu] at hok)
    rw [hv] at h1
    cases h1 with
    | cons hr h3 =>
      cases h3
      exact hr

def shAll (P : Program) (n : Nat) : List TypeId → Option (List (Bool × List Sh))
  | [] => some []
  | t :: ts => match shOf P n t, shAll P n ts with
    | some sh, some l => some ((aggT P t, sh) :: l)
    | _, _ => none
def ShAV : List (Bool × List Sh) → List AV → Prop
  | [], [] => True
  | (b, sh) :: l, a :: as => (∃ ds, a = avOf b ds ∧ HasShL sh ds) ∧ ShAV l as
  | _, _ => False

theorem args_open {E : Env P 0} {ρ : Nat → RI} {n : Nat} : ∀ {ts : List TypeId} {vs : List Value} {dsw : List (DataW H)} {ps : List MemPlace} {shs : List (Bool × List Sh)}, shAll P n ts = some shs →
    (∀ (j : Nat) t v, ts[j]? = some t → vs[j]? = some v → Value.okWide P w .any base t v) → DataW.TrodAll enc P w 0 (fun _ => true) true ts vs dsw ps → ∃ as, ShAV shs as ∧ All2 (RepA E ρ w (live w)) as vs
  | [], [], [], _, shs, h, _, _ => by injection h with h; subst h; exact ⟨[], trivial, .nil⟩
  | t :: ts, v :: vs, d :: ds, ps, shs, h, hok, ⟨p, q, h1, h2, _⟩ => by
    unfold shAll at h
    split at h
    · rename_i sh l hs hl
      injection h with h; subst h
      obtain ⟨xs, g1, g2⟩ := arg_open (E := E) (ρ := ρ) hs rfl (hok 0 t v rfl rfl) h1
      obtain ⟨as, g3, g4⟩ := args_open (E := E) (ρ := ρ) hl (fun j t v ht hv => hok (j + 1) t v (by simpa using ht) (by simpa using hv)) h2
      exact ⟨_ :: as, ⟨⟨xs, rfl, g1⟩, g3⟩, .cons g2 g4⟩
    · cases h
  | [], [], _ :: _, _, _, _, _, h => h.elim
  | [], _ :: _, _, _, _, _, _, h => h.elim
  | _ :: _, [], _, _, _, _, _, h => h.elim
  | _ :: _, _ :: _, [], _, _, _, _, h => h.elim

theorem args_later (hl : laidOutB P = true) {W W' : World} (hb : Below W.heap.size W W') : ∀ {ts : List TypeId} {vs : List Value} {dsw : List (DataW H)} {ps : List MemPlace}, (∀ t ∈ ts, P.readableRec t = true ∧ t < P.types.size) →
    (∀ x ∈ ps, x.block < W.heap.size) → DataW.TrodAll enc P W 0 (fun _ => true) true ts vs dsw ps → DataW.TrodAll enc P W' 0 (fun b => decide (b < W.heap.size)) true ts vs dsw ps
  | [], [], [], _, _, _, h => h
  | t :: ts, v :: vs, d :: ds, ps, ht, hp, ⟨p, q, h1, h2, h3⟩ => by
    subst h3
    exact ⟨p, q, Below.trod hl (ht t (by simp)).1 (ht t (by simp)).2 h1 hb (fun x hx => hp x (by simp [hx])), args_later hl hb (fun t h => ht t (by simp [h])) (fun x hx => hp x (by simp [hx])) h2, rfl⟩
  | [], [], _ :: _, _, _, _, h => h.elim
  | [], _ :: _, _, _, _, _, h => h.elim
  | _ :: _, [], _, _, _, _, h => h.elim
  | _ :: _, _ :: _, [], _, _, _, h => h.elim

/-- The data say at least as much. -/
def DLe (d e : D) : Prop := ∀ (w : World) (Im : Nat → Prop) (v : Value), RepD w Im d v → RepD w Im e v
def ALe {P : Program} (a b : AV) : Prop := ∀ (E : Env P 0) (ρ : Nat → RI) (w : World) (Im : Nat → Prop) (v : Value), RepA E ρ w Im a v → RepA E ρ w Im b v
theorem ALe.of {P : Program} {d e : D} (h : DLe d e) : ALe (P := P) (.c (.d d)) (.c (.d e)) := fun _ _ w Im v hr => h w Im v hr
theorem ALe.refl {P : Program} (a : AV) : ALe (P := P) a a := fun _ _ _ _ _ h => h

/-- The contract of a law, of whatever arguments of its types. -/
def LawS (P : Program) (k : FuncId) (shs : List (Bool × List Sh)) : Prop := ∀ as, ShAV shs as → ∃ as', All2 (ALe (P := P)) as as' ∧ FnS P k as' [] (AB true) []
end

theorem all2_le {P : Program} {E : Env P 0} {ρ : Nat → RI} {w : World} {Im : Nat → Prop} : ∀ {as as' : List AV} {vs : List Value}, All2 (ALe (P := P)) as as' → All2 (RepA E ρ w Im) as vs → All2 (RepA E ρ w Im) as' vs
  | _, _, _, .nil, .nil => .nil
  | _, _, _, .cons h1 h2, .cons h3 h4 => .cons (h1 _ _ _ _ _ h3) (all2_le h2 h4)

theorem law_handed {H : Type} {enc : TypeId × Value → H} {C : Checked} {os : Os} {k : FuncId} {fn : Func} {s : ChangeSpec} {shs : List (Bool × List Sh)} {n : Nat} {tb : TypeId} (own : ownKnob C.prog.godebug = none) (started : os.Started) (noInit : C.prog.inits.idxOf? k = none) (hfn : C.prog.funcs[k]? = some fn)
    (witness : ∃ (w : World) (tape : Tape) (i : Input), w.os = os ∧ (w.forCall tape i).Shaped C.prog ∧ i.vars = [] ∧ Input.okWide C.prog (w.forCall tape i) .any w.heap.size k i ∧
      s.pre6 enc C.prog fn [] false (w.forCall tape i).memory i.args ∧ ({} : Assume).holds C.prog (lone (Frame.enter C.prog k i.args .normal) [] (w.forCall tape i)))
    (hl : laidOutB C.prog = true) (hpar : ∀ t ∈ fn.params.toList, C.prog.readableRec t = true ∧ t < C.prog.types.size) (hvars : s.vars = []) (hs : ∀ ds : List (DataW H), ds.length = fn.params.size → s.fn H ds = { results := [.lit (.bool true)], args := ds })
    (hres : fn.resultTypes = #[tb]) (htb : C.prog.underlying tb = some .bool) (hsh : shAll C.prog n fn.params.toList = some shs) (law : LawS C.prog k shs) :
    ReturnsInHanded {} C os k .any (s.pre6 enc C.prog fn [] false) (s.post enc C.prog fn false true false false) := by
  refine returnsInHanded_of_change own started noInit hfn witness ?_
  intro W base args ds gs before hval hW _ _
  obtain ⟨p, q, hA, hV, rfl, hfz, hnd⟩ := hW
  have hgs : gs = [] ∧ q = [] := by
    rw [hvars] at hV
    cases gs with
    | nil => exact ⟨rfl, hV⟩
    | cons _ _ => exact hV.elim
  obtain ⟨rfl, rfl⟩ := hgs
  obtain ⟨as, ha1, ha2⟩ := args_open (E := (⟨W, live W, fun _ => False⟩ : Env C.prog 0)) (ρ := fun _ => ⟨0, 0, false⟩) hsh (fun j t v ht hv => hval j t v (by simpa using ht) (by simpa using hv)) hA
  obtain ⟨as', hle, hF⟩ := law as ha1
  have hrep := all2_le hle ha2
  have := hF.2 W (fun _ => ⟨0, 0, false⟩) (live W) (fun _ => False) args.toList hrep (memAt_empty fun b hb => hb)
  rw [Array.toArray_toList] at this
  have hlen : ds.length = fn.params.size := by
    have : ∀ {ts : List TypeId} {vs : List Value} {dsw : List (DataW H)} {ps : List MemPlace}, DataW.TrodAll enc C.prog W 0 (fun _ => true) true ts vs dsw ps → dsw.length = ts.length := by
      intro ts
      induction ts with
      | nil => intro vs dsw ps h; cases vs <;> cases dsw <;> first | rfl | exact h.elim
      | cons t ts ih => intro vs dsw ps h; cases vs <;> cases dsw <;> first | exact h.elim | (obtain ⟨_, _, _, h2, _⟩ := h; simp [ih h2])
    simpa using this hA
  have hlt : ∀ x ∈ p ++ [], x.block < W.heap.size := fun x hx => by
    have hWh : DataW.Whole enc C.prog fn.params.toList s.vars false W args.toList ds [] (p ++ []) := ⟨p, [], hA, by rw [hvars]; rfl, rfl, hfz, hnd⟩
    exact hWh.lt x hx
  refine this.mono fun e W' ⟨v, ρ', Im', he, hm, hr, _⟩ => ⟨v, he, ?_⟩
  have hv : v = .bool true := hr
  subst hv
  have hbel : Below W.heap.size W W' := hm.keep.below (fun _ h => h)
  have hfn' : s.fn H (ds ++ []) = { results := [.lit (.bool true)], args := ds } := by rw [List.append_nil]; exact hs ds hlen
  refine ⟨ds, [], p ++ [], [], p, [], ⟨p, [], hA, by rw [hvars]; rfl, rfl, hfz, hnd⟩, ?_, ?_, ?_, hbel.frame _, fun h => by cases h⟩
  · rw [hfn', hres]
    exact ⟨[], [], ⟨1, by simp [DataW.trod, htb, Value.cells]⟩, rfl, rfl⟩
  · rw [hfn']
    exact args_later hl hbel hpar (fun x hx => hlt x (by simp [hx])) hA
  · rw [hfn', hvars]; rfl

theorem DLe.refl (d : D) : DLe d d := fun _ _ _ h => h
theorem rd_of {α : Type} [Inhabited α] (enc : α → List D) (Q : α → Prop) {n sz : Nat} {f : Nat → Nat → D} (h : ∀ i, i < n → ∃ x : α, Q x ∧ ∀ j, j < sz → DLe (f i j) ((enc x).getD j .nils)) :
    ∃ l : List α, l.length = n ∧ (∀ x ∈ l, Q x) ∧ DLe (.rd n sz f) (rdOf enc sz l) := by
  refine ⟨(List.range n).map fun i => if hi : i < n then Classical.choose (h i hi) else default, by simp, fun x hx => ?_, fun w Im v hr => ?_⟩
  · obtain ⟨i, hi, rfl⟩ := List.mem_map.1 hx
    have hi := List.mem_range.1 hi
    simp only [hi, dite_true]
    exact (Classical.choose_spec (h i hi)).1
  · unfold rdOf
    obtain ⟨hn, a, c, rfl, hc, hcell⟩ := hr
    refine ⟨by simpa using hn, a, c, by simp, by simpa using hc, fun h0 => ?_⟩
    obtain ⟨b, o, rfl, hb, hx⟩ := hcell (by simpa using h0)
    refine ⟨b, o, rfl, hb, fun i hi j hj => ?_⟩
    have hi' : i < n := by simpa using hi
    obtain ⟨u, hu, hru⟩ := hx i hi' j hj
    refine ⟨u, hu, ?_⟩
    have e : ((List.range n).map fun i => if hi : i < n then Classical.choose (h i hi) else default).getD i default = Classical.choose (h i hi') := by
      rw [List.getD_eq_getElem?_getD, List.getElem?_map, List.getElem?_range hi']
      simp [hi']
    dsimp only
    rw [e]
    exact (Classical.choose_spec (h i hi')).2 j hj _ _ _ hru
end Go.Sx
