/-
  What functions of the given program hand back, by walks over its code, and plain laws on that. No condition.
-/
import Derived.Test.YtidijkcalgmadaaGreatSxLibC
import Derived.Test.YtidijkcalgmadaaGreatSxTtop
import Derived.Test.YtidijkcalgmadaaGreatSxLibB
set_option linter.unusedSimpArgs false
set_option linter.unusedVariables false
section
namespace Go.Proofs.Q
open Go Go.Sx
set_option maxRecDepth 4000
attribute [local irreducible] VR VC thenQ blockQ retL
instance Tryz.key3 : KeyTy Tryz.prog 3 1 := keyTy_int (TyOK.int Tryz.sxty3 rfl)
structure Pk where
  id : Int
  to : Int
  prio : Int
  born : Int
  life : Int
  data : ByteArray
  deriving DecidableEq, Inhabited
def Pk.enc (x : Pk) : List D := [.int .i64 x.id, .int .i64 x.to, .int .i64 x.prio, .int .i64 x.born, .int .i64 x.life, .str x.data]
def Pk.cs (x : Pk) : List C := [.d (.int .i64 x.id), .d (.int .i64 x.to), .d (.int .i64 x.prio), .d (.int .i64 x.born), .d (.int .i64 x.life), .d (.str x.data)]
abbrev pkA (x : Pk) : AV := .agg x.cs
abbrev pks (l : List Pk) : D := rdOf Pk.enc 6 l
instance : FlatE Pk.enc := ⟨fun _ => rfl⟩
structure Dp where
  id : Int
  slot : Int
  dropped : Bool
  deriving DecidableEq, Inhabited
def Dp.enc (x : Dp) : List D := [.int .i64 x.id, .int .i64 x.slot, .bool x.dropped]
def Dp.cs (x : Dp) : List C := [.d (.int .i64 x.id), .d (.int .i64 x.slot), .d (.bool x.dropped)]
abbrev dpA (x : Dp) : AV := .agg x.cs
abbrev dps (l : List Dp) : D := rdOf Dp.enc 3 l
instance : FlatE Dp.enc := ⟨fun _ => rfl⟩
structure Qu where
  limit : Int
  packets : List Pk
  deriving DecidableEq, Inhabited
def Qu.cs (q : Qu) : List C := [.d (.int .i64 q.limit), .d (pks q.packets)]
abbrev quA (q : Qu) : AV := .agg q.cs
def inI (n lo hi : Int) : Bool := decide (lo <= n /\ n <= hi)
def formP (p : Pk) : Int :=
  if p.id < 0 \/ inI p.to (-1) 31 = false \/ inI p.prio 0 3 = false \/ inI p.born 0 1099511627776 = false \/ inI p.life 1 4096 = false then 2 else if 127 < p.data.size then 8 else 0
end Go.Proofs.Q
end
section
namespace Go.Proofs.Q
open Go Go.Sx
set_option maxRecDepth 4000
attribute [local irreducible] VR VC thenQ blockQ retL
def pkErr (l : List Pk) (k : Nat) : Int :=
  if formP (l.getD k default) ≠ 0 then formP (l.getD k default)
  else if ((l.take k).any fun x => decide (x.id = (l.getD k default).id)) = true then 6
  else if 0 < k /\ (l.getD k default).prio < (l.getD (k - 1) default).prio then 5 else 0
def checkQ (q : Qu) : Int := if inI q.limit 1 64 = false then 2 else if q.limit < q.packets.length then 8 else firstErr q.packets.length (pkErr q.packets)
end Go.Proofs.Q
end
section
namespace Go.Proofs.Q
open Go Go.Sx
set_option maxRecDepth 4000
attribute [local irreducible] VR VC thenQ blockQ retL
abbrev predφPk (p : Pk -> Bool) : List DV -> DV -> Prop := fun ds r => ∃ x : Pk, ds = [.agg x.enc] /\ r = .d (.bool (p x))
instance ovl_Pk : Overlaps Tryz.prog 164 :=
  ⟨23, 4, 40, 6, TyOK.slice Tryz.sxty23 rfl, fun w => TyOK.run_size Tryz.sxty40 w, fun args w => run_callFunc_extern Tryz.func164 (by kernel_rfl) (by kernel_rfl) (by kernel_rfl) (by kernel_rfl) args w⟩
abbrev Pk1 (x : Pk) : D := .rd 1 6 fun _ j => (Pk.enc x).getD j .nils
abbrev predφDp (p : Dp -> Bool) : List DV -> DV -> Prop := fun ds r => ∃ x : Dp, ds = [.agg x.enc] /\ r = .d (.bool (p x))
end Go.Proofs.Q
end
section
namespace Go.Proofs.Q
open Go Go.Sx
set_option maxRecDepth 4000
attribute [local irreducible] VR VC thenQ blockQ retL
def idxTo (l : List Pk) (to : Int) : Option Nat := fstO l fun x => decide (x.to = to)
end Go.Proofs.Q
end
section
namespace Go.Proofs.Q
open Go Go.Sx
set_option maxRecDepth 4000
attribute [local irreducible] VR VC thenQ blockQ retL
end Go.Proofs.Q
end
section
namespace Go.Proofs.Q
open Go Go.Sx
set_option maxRecDepth 4000
attribute [local irreducible] VR VC thenQ blockQ retL
end Go.Proofs.Q
end
section
namespace Go.Proofs.Q
open Go Go.Sx
set_option maxRecDepth 4000
attribute [local irreducible] VR VC thenQ blockQ retL
def noP : Pk := ⟨0, 0, 0, 0, 0, ⟨#[]⟩⟩
def firstQ (q : Qu) (to : Int) : Pk × Bool := if checkQ q ≠ 0 then (noP, false) else match idxTo q.packets to with
  | none => (noP, false)
  | some i => (q.packets.getD i default, true)
end Go.Proofs.Q
end
section
namespace Go.Proofs.Q
open Go Go.Sx
set_option maxRecDepth 4000
attribute [local irreducible] VR VC thenQ blockQ retL
end Go.Proofs.Q
end
section
namespace Go.Proofs.Q
open Go Go.Sx
set_option maxRecDepth 4000
attribute [local irreducible] VR VC thenQ blockQ retL
end Go.Proofs.Q
end
section
namespace Go.Proofs.T
open Go Go.Sx
set_option maxRecDepth 4000
attribute [local irreducible] VR VC thenQ blockQ retL
def cmpI (a b : Int) : Int := if a < b then -1 else if b < a then 1 else 0
abbrev ints (l : List Int) : D := rdOf (fun x => [.int .i64 x]) 1 l
structure TC where
  slot : Int
  offset : Int
  kind : Int
  send : Bool
  peer : Int
  flow : Int
  deriving DecidableEq, Inhabited
def TC.enc (x : TC) : List D := [.int .i64 x.slot, .int .i64 x.offset, .int .i64 x.kind, .bool x.send, .int .i64 x.peer, .int .i64 x.flow]
def TC.cs (x : TC) : List C := [.d (.int .i64 x.slot), .d (.int .i64 x.offset), .d (.int .i64 x.kind), .d (.bool x.send), .d (.int .i64 x.peer), .d (.int .i64 x.flow)]
abbrev tcA (x : TC) : AV := .agg x.cs
abbrev tcs (l : List TC) : D := rdOf TC.enc 6 l
end Go.Proofs.T
end
section
namespace Go.Proofs.T
open Go Go.Sx
set_option maxRecDepth 4000
attribute [local irreducible] VR VC thenQ blockQ retL
structure Tb where
  node : Int
  len : Int
  cells : List TC
  deriving Inhabited
def Tb.cs (t : Tb) : List C := [.d (.int .i64 t.node), .d (.int .i64 t.len), .d (tcs t.cells)]
abbrev tbA (t : Tb) : AV := .agg t.cs
end Go.Proofs.T
end
section
namespace Go.Proofs.T
open Go Go.Sx
set_option maxRecDepth 4000
attribute [local irreducible] VR VC thenQ blockQ retL
end Go.Proofs.T
end
section
namespace Go.Proofs.T
open Go Go.Sx
set_option maxRecDepth 4000
attribute [local irreducible] VR VC thenQ blockQ retL
end Go.Proofs.T
end
section
namespace Go.Proofs.T
open Go Go.Sx
set_option maxRecDepth 4000
attribute [local irreducible] VR VC thenQ blockQ retL
end Go.Proofs.T
end
section
namespace Go.Proofs.T
open Go Go.Sx
set_option maxRecDepth 4000
attribute [local irreducible] VR VC thenQ blockQ retL
abbrev findφSl : List DV -> DV -> Prop := fun ds r => ∃ (x : TC) (t : Int), ds = [.agg x.enc, .d (.int .i64 t)] /\ r = .d (.int .i64 (cmpI x.slot t))
end Go.Proofs.T
end
section
namespace Go.Proofs
open Go Go.Sx Go.Proofs.T Go.Proofs.Q
set_option maxRecDepth 4000
attribute [local irreducible] VR VC thenQ blockQ retL
structure Hd where
  flow : Int
  frame : Int
  til : Int
  data : ByteArray
  acked : List Int
  deriving DecidableEq, Inhabited
def Hd.enc (x : Hd) : List D := [.int .i64 x.flow, .int .i64 x.frame, .int .i64 x.til, .str x.data, ints x.acked]
def Hd.cs (x : Hd) : List C := [.d (.int .i64 x.flow), .d (.int .i64 x.frame), .d (.int .i64 x.til), .d (.str x.data), .d (ints x.acked)]
abbrev hdA (x : Hd) : AV := .agg x.cs
abbrev hds (l : List Hd) : D := rdOf Hd.enc 5 l
structure Sn where
  node : Int
  seq : Int
  deriving DecidableEq, Inhabited
def Sn.enc (x : Sn) : List D := [.int .i64 x.node, .int .i64 x.seq]
def Sn.cs (x : Sn) : List C := [.d (.int .i64 x.node), .d (.int .i64 x.seq)]
abbrev snA (x : Sn) : AV := .agg x.cs
abbrev sns (l : List Sn) : D := rdOf Sn.enc 2 l
instance : FlatE Sn.enc := ⟨fun _ => rfl⟩
structure Fr where
  kind : Int
  source : Int
  target : Int
  list : Int
  seq : Int
  flow : Int
  number : Int
  err : Int
  slot : Int
  rank : Int
  epoch : Int
  data : ByteArray
  deriving DecidableEq, Inhabited
def Fr.enc (x : Fr) : List D := [.int .i64 x.kind, .int .i64 x.source, .int .i64 x.target, .int .i64 x.list, .int .i64 x.seq, .int .i64 x.flow, .int .i64 x.number, .int .i64 x.err, .int .i64 x.slot, .int .i64 x.rank, .int .i64 x.epoch, .str x.data]
def Fr.cs (x : Fr) : List C := [.d (.int .i64 x.kind), .d (.int .i64 x.source), .d (.int .i64 x.target), .d (.int .i64 x.list), .d (.int .i64 x.seq), .d (.int .i64 x.flow), .d (.int .i64 x.number), .d (.int .i64 x.err), .d (.int .i64 x.slot), .d (.int .i64 x.rank), .d (.int .i64 x.epoch), .d (.str x.data)]
abbrev frA (x : Fr) : AV := .agg x.cs
abbrev frs (l : List Fr) : D := rdOf Fr.enc 12 l
theorem fr_sv {x y : Fr} (h : [SV.str x.data, SV.int IntKind.i64 x.epoch, SV.int IntKind.i64 x.rank, SV.int IntKind.i64 x.slot, SV.int IntKind.i64 x.err, SV.int IntKind.i64 x.number, SV.int IntKind.i64 x.flow, SV.int IntKind.i64 x.seq, SV.int IntKind.i64 x.list, SV.int IntKind.i64 x.target, SV.int IntKind.i64 x.source, SV.int IntKind.i64 x.kind].reverse = [SV.str y.data, SV.int IntKind.i64 y.epoch, SV.int IntKind.i64 y.rank, SV.int IntKind.i64 y.slot, SV.int IntKind.i64 y.err, SV.int IntKind.i64 y.number, SV.int IntKind.i64 y.flow, SV.int IntKind.i64 y.seq, SV.int IntKind.i64 y.list, SV.int IntKind.i64 y.target, SV.int IntKind.i64 y.source, SV.int IntKind.i64 y.kind].reverse) : x = y := by
  have h := List.reverse_inj.1 h
  cases x; cases y
  simp only [List.cons.injEq, SV.int.injEq, SV.bool.injEq, SV.str.injEq, true_and, and_true] at h
  obtain ⟨rfl, rfl, rfl, rfl, rfl, rfl, rfl, rfl, rfl, rfl, rfl, rfl⟩ := h
  rfl
theorem fr_vs {x y : Fr} (h : x = y) : [SV.str x.data, SV.int IntKind.i64 x.epoch, SV.int IntKind.i64 x.rank, SV.int IntKind.i64 x.slot, SV.int IntKind.i64 x.err, SV.int IntKind.i64 x.number, SV.int IntKind.i64 x.flow, SV.int IntKind.i64 x.seq, SV.int IntKind.i64 x.list, SV.int IntKind.i64 x.target, SV.int IntKind.i64 x.source, SV.int IntKind.i64 x.kind].reverse = [SV.str y.data, SV.int IntKind.i64 y.epoch, SV.int IntKind.i64 y.rank, SV.int IntKind.i64 y.slot, SV.int IntKind.i64 y.err, SV.int IntKind.i64 y.number, SV.int IntKind.i64 y.flow, SV.int IntKind.i64 y.seq, SV.int IntKind.i64 y.list, SV.int IntKind.i64 y.target, SV.int IntKind.i64 y.source, SV.int IntKind.i64 y.kind].reverse := by rw [h]
instance : FlatE Fr.enc := ⟨fun _ => rfl⟩
structure Ac where
  kind : Int
  offset : Int
  fkind : Int
  source : Int
  target : Int
  list : Int
  seq : Int
  flow : Int
  number : Int
  err : Int
  slot : Int
  rank : Int
  epoch : Int
  data : ByteArray
  deriving DecidableEq, Inhabited
def Ac.enc (x : Ac) : List D := [.int .i64 x.kind, .int .i64 x.offset, .int .i64 x.fkind, .int .i64 x.source, .int .i64 x.target, .int .i64 x.list, .int .i64 x.seq, .int .i64 x.flow, .int .i64 x.number, .int .i64 x.err, .int .i64 x.slot, .int .i64 x.rank, .int .i64 x.epoch, .str x.data]
def Ac.cs (x : Ac) : List C := [.d (.int .i64 x.kind), .d (.int .i64 x.offset), .d (.int .i64 x.fkind), .d (.int .i64 x.source), .d (.int .i64 x.target), .d (.int .i64 x.list), .d (.int .i64 x.seq), .d (.int .i64 x.flow), .d (.int .i64 x.number), .d (.int .i64 x.err), .d (.int .i64 x.slot), .d (.int .i64 x.rank), .d (.int .i64 x.epoch), .d (.str x.data)]
abbrev acA (x : Ac) : AV := .agg x.cs
abbrev acs (l : List Ac) : D := rdOf Ac.enc 14 l
instance : FlatE Ac.enc := ⟨fun _ => rfl⟩
structure Up where
  some : Bool
  new : Bool
  fkind : Int
  source : Int
  target : Int
  list : Int
  seq : Int
  flow : Int
  number : Int
  err : Int
  slot : Int
  rank : Int
  epoch : Int
  data : ByteArray
  deriving DecidableEq, Inhabited
def Up.enc (x : Up) : List D := [.bool x.some, .bool x.new, .int .i64 x.fkind, .int .i64 x.source, .int .i64 x.target, .int .i64 x.list, .int .i64 x.seq, .int .i64 x.flow, .int .i64 x.number, .int .i64 x.err, .int .i64 x.slot, .int .i64 x.rank, .int .i64 x.epoch, .str x.data]
def Up.cs (x : Up) : List C := [.d (.bool x.some), .d (.bool x.new), .d (.int .i64 x.fkind), .d (.int .i64 x.source), .d (.int .i64 x.target), .d (.int .i64 x.list), .d (.int .i64 x.seq), .d (.int .i64 x.flow), .d (.int .i64 x.number), .d (.int .i64 x.err), .d (.int .i64 x.slot), .d (.int .i64 x.rank), .d (.int .i64 x.epoch), .d (.str x.data)]
abbrev upA (x : Up) : AV := .agg x.cs
abbrev ups (l : List Up) : D := rdOf Up.enc 14 l
instance : FlatE Up.enc := ⟨fun _ => rfl⟩
structure Rs where
  acked : Bool
  heard : Bool
  fkind : Int
  source : Int
  target : Int
  list : Int
  seq : Int
  flow : Int
  number : Int
  err : Int
  slot : Int
  rank : Int
  epoch : Int
  data : ByteArray
  error : Int
  deriving DecidableEq, Inhabited
def Rs.enc (x : Rs) : List D := [.bool x.acked, .bool x.heard, .int .i64 x.fkind, .int .i64 x.source, .int .i64 x.target, .int .i64 x.list, .int .i64 x.seq, .int .i64 x.flow, .int .i64 x.number, .int .i64 x.err, .int .i64 x.slot, .int .i64 x.rank, .int .i64 x.epoch, .str x.data, .int .i64 x.error]
def Rs.cs (x : Rs) : List C := [.d (.bool x.acked), .d (.bool x.heard), .d (.int .i64 x.fkind), .d (.int .i64 x.source), .d (.int .i64 x.target), .d (.int .i64 x.list), .d (.int .i64 x.seq), .d (.int .i64 x.flow), .d (.int .i64 x.number), .d (.int .i64 x.err), .d (.int .i64 x.slot), .d (.int .i64 x.rank), .d (.int .i64 x.epoch), .d (.str x.data), .d (.int .i64 x.error)]
abbrev rsA (x : Rs) : AV := .agg x.cs
abbrev rss (l : List Rs) : D := rdOf Rs.enc 15 l
instance : FlatE Rs.enc := ⟨fun _ => rfl⟩
structure Sta where
  tb : Tb
  qu : Qu
  held : List Hd
  seen : List Sn
  list : Int
  seq : Int
  trying : Int
  tries : Int
  back : Int
  wait : Int
  seed : Int
  deriving Inhabited
def Sta.cs (s : Sta) : List C := [.d (.int .i64 s.tb.node), .d (.int .i64 s.tb.len), .d (tcs s.tb.cells), .d (.int .i64 s.qu.limit), .d (pks s.qu.packets), .d (hds s.held), .d (sns s.seen),
  .d (.int .i64 s.list), .d (.int .i64 s.seq), .d (.int .i64 s.trying), .d (.int .i64 s.tries), .d (.int .i64 s.back), .d (.int .i64 s.wait), .d (.int .i64 s.seed)]
def Sta.enc (s : Sta) : List D := [.int .i64 s.tb.node, .int .i64 s.tb.len, tcs s.tb.cells, .int .i64 s.qu.limit, pks s.qu.packets, hds s.held, sns s.seen,
  .int .i64 s.list, .int .i64 s.seq, .int .i64 s.trying, .int .i64 s.tries, .int .i64 s.back, .int .i64 s.wait, .int .i64 s.seed]
abbrev stA (s : Sta) : AV := .agg s.cs
end Go.Proofs
end
section
namespace Go.Proofs
open Go Go.Sx Go.Proofs.T Go.Proofs.Q
set_option maxRecDepth 4000
attribute [local irreducible] VR VC thenQ blockQ retL
end Go.Proofs
end
section
namespace Go.Proofs
open Go Go.Sx Go.Proofs.T Go.Proofs.Q
set_option maxRecDepth 4000
attribute [local irreducible] VR VC thenQ blockQ retL
def zAc : Ac := ⟨0, 0, 0, 0, 0, 0, 0, 0, 0, 0, 0, 0, 0, ⟨#[]⟩⟩
def noS : Sta := ⟨⟨0, 0, []⟩, ⟨0, []⟩, [], [], 0, 0, 0, 0, 0, 0, 0⟩
def heldI (l : List Hd) (flow : Int) : Option Nat := fstO l fun h => decide (h.flow = flow)
def agrB (t : Tb) (to : Int) : Bool := t.cells.any fun c => decide (c.kind = 2) && c.send && decide (c.peer = to)
def candI (s : Sta) : Option Nat := fstO s.qu.packets fun p => decide (p.to = -1) || !agrB s.tb p.to
def pkOf (s : Sta) (o : Option Nat) : Pk := match o with | none => noP | some i => s.qu.packets.getD i default
def lisA : Ac := { zAc with kind := 2 }
def msgA (s : Sta) (p : Pk) : Ac := ⟨1, 0, 4, s.tb.node, p.to, s.list, s.seq, 0, 0, 0, 0, 0, 0, p.data⟩
def datA (s : Sta) (c : TC) (h : Hd) : Ac := ⟨1, 0, 1, s.tb.node, c.peer, s.list, h.frame % 256, h.flow, h.frame, 0, 0, 0, 0, h.data⟩
def ctlA (s : Sta) (slot : Int) (c : TC) : Ac := if c.send = false then lisA else match heldI s.held c.flow with
  | none => zAc
  | some i => if (s.held.getD i default).til < slot \/ ((s.held.getD i default).acked.any fun y => decide (c.peer = y)) = true then zAc else datA s c (s.held.getD i default)
def agrA (s : Sta) (c : TC) : Ac := if c.send = false then lisA else if (firstQ s.qu c.peer).2 = true then msgA s (firstQ s.qu c.peer).1 else zAc
def shrA (s : Sta) : Ac := if (candI s).isSome = true /\ s.wait = 0 then msgA s (pkOf s (candI s)) else lisA
def rawA (s : Sta) (slot : Int) (c : TC) : Ac := if c.kind = 1 then ctlA s slot c else if c.kind = 2 then agrA s c else if c.kind = 3 then shrA s else zAc
end Go.Proofs
end
section
namespace Go.Proofs
open Go Go.Sx Go.Proofs.T Go.Proofs.Q
set_option maxRecDepth 4000
attribute [local irreducible] VR VC thenQ blockQ retL
theorem fin_spec (n m : Int) : FnS Tryz.prog 176 [AI n, AI m] [] (AB (decide (0 <= n /\ n <= m))) [] := by
  refine FnS.of_body (enters_of Tryz.func176 (by kernel_rfl) rfl) Tryz.func176 rfl Tryz.ntmps176 Tryz.results176 rfl rfl rfl rfl fun E hS => ?_
  repeat' (first|(refine gR ?_; first|refine x_opF rfl (by first|exact True.intro|omega) ?_|(refine x_gsplit rfl ?_ ?_ <;> intro h <;> have hq := h <;> (try simp only [hqs] at hq)))|(refine gO ?_; first|refine vr_nil ?_)|(refine gT ?_; first|refine q_then_n ?_)|refine vc_seq ?_|refine vc_region ?_|refine vc_ret ?_)
  · refine ret_bool isRet_r rfl ?_
    exact decide_eq_decide.2 (by omega)
  · refine ret_bool isRet_r rfl ?_
    exact decide_eq_false (by omega)
theorem isErr_spec (n : Int) : FnS Tryz.prog 231 [AI n] [] (AB (decide (-32768 <= n /\ n <= 32767))) [] := by
  refine FnS.of_body (enters_of Tryz.func231 (by kernel_rfl) rfl) Tryz.func231 rfl Tryz.ntmps231 Tryz.results231 rfl rfl rfl rfl fun E hS => ?_
  repeat' (first|(refine gR ?_; first|refine x_opF rfl (by first|exact True.intro|omega) ?_|(refine x_gsplit rfl ?_ ?_ <;> intro h <;> have hq := h <;> (try simp only [hqs] at hq)))|(refine gO ?_; first|refine vr_nil ?_)|(refine gT ?_; first|refine q_then_n ?_)|refine vc_seq ?_|refine vc_region ?_|refine vc_ret ?_)
  · refine ret_bool isRet_r rfl ?_
    exact decide_eq_decide.2 (by omega)
  · refine ret_bool isRet_r rfl ?_
    exact decide_eq_false (by omega)
theorem isTgt_spec (f : Fr) : FnS Tryz.prog 230 [frA f] [] (AB (decide (0 <= f.target /\ f.target <= 31 /\ f.target ≠ f.source))) [] := by
  refine FnS.of_body (enters_of Tryz.func230 (by kernel_rfl) rfl) Tryz.func230 rfl Tryz.ntmps230 Tryz.results230 rfl rfl rfl rfl fun E hS => ?_
  repeat' (first|(refine gR ?_; first|refine x_opF rfl (by first|exact True.intro|omega) ?_|(refine gC ?_; first|refine vr_calldU (fin_spec _ _) (gk rfl) rfl rfl rfl (by first|rfl|(simp only [wfRes, wfL, wfArgs, wfs]; rfl)) rfl (by first|exact newB_O|rfl) rfl ?_)|(refine x_gsplit rfl ?_ ?_ <;> intro h <;> have hq := h <;> (try simp only [hqs] at hq)))|(refine gO ?_; first|refine vr_nil ?_)|(refine gT ?_; first|refine q_then_n ?_)|refine vc_seq ?_|refine vc_region ?_|refine vc_ret ?_)
  · refine ret_bool isRet_r rfl ?_
    exact decide_eq_decide.2 (by omega)
  · refine ret_bool isRet_r rfl ?_
    exact decide_eq_false (by omega)
def fieldsM (f : Fr) : Fr × Bool :=
  if f.kind = 1 then ({ f with flow := 0, number := 0, data := ⟨#[]⟩ }, decide ((0 <= f.target /\ f.target <= 31 /\ f.target ≠ f.source) /\ (0 <= f.flow /\ f.flow <= 255) /\ 0 <= f.number /\ f.number <= 65535))
  else if f.kind = 2 then ({ f with err := 0 }, decide ((0 <= f.target /\ f.target <= 31 /\ f.target ≠ f.source) /\ -32768 <= f.err /\ f.err <= 32767))
  else if f.kind = 3 then ({ f with slot := 0, rank := 0, epoch := 0, data := ⟨#[]⟩ }, decide (f.target = -1 /\ (0 <= f.slot /\ f.slot <= 109951162) /\ (0 <= f.rank /\ f.rank <= 65535) /\ 0 <= f.epoch /\ f.epoch <= 65535))
  else if f.kind = 4 then ({ f with data := ⟨#[]⟩ }, decide (f.target = -1 \/ (0 <= f.target /\ f.target <= 31 /\ f.target ≠ f.source)))
  else (f, false)
set_option maxHeartbeats 1000000 in
theorem fields_spec (f : Fr) : FnS Tryz.prog 195 [frA f] [] (.tup [frA (fieldsM f).1, AB (fieldsM f).2]) [] := by
  refine FnS.of_body (enters_of Tryz.func195 (by kernel_rfl) rfl) Tryz.func195 rfl Tryz.ntmps195 Tryz.results195 rfl rfl rfl rfl fun E hS => ?_
  by_cases h1 : f.kind = 1
  · have d1 : decide (f.kind = 1) = true := decide_eq_true h1
    rw [fieldsM, if_pos h1]
    repeat' (first|(refine gR ?_; first|refine x_opF rfl (by first|exact True.intro|omega) ?_|(refine gC ?_; first|refine vr_calldU (fin_spec _ _) (gk rfl) rfl rfl rfl (by first|rfl|(simp only [wfRes, wfL, wfArgs, wfs]; rfl)) rfl (by first|exact newB_O|rfl) rfl ?_|refine vr_calldU (isTgt_spec f) (gk rfl) rfl rfl rfl (by first|rfl|(simp only [wfRes, wfL, wfArgs, wfs]; rfl)) rfl (by first|exact newB_O|rfl) rfl ?_)|(refine x_gsplit rfl ?_ ?_ <;> intro h <;> have hq := h <;> (try simp only [hqs] at hq)))|(refine gO ?_; first|refine vr_nil ?_)|(refine gT ?_; first|refine q_then_n ?_)|(refine gK ?_; first|refine q_blk_n ?_)|refine vc_seq ?_|refine vc_region ?_|(show VC _ (.cond _ _ _) _ _; first|refine vc_cond_t rfl ?_|refine x_know rfl (by assumption) ?_)|refine vc_ret ?_|refine vc_block ?_)
    all_goals
      refine ret_agg_dL isRet_r rfl rfl rfl rfl rfl rfl (congrArg D.bool ?_)
      first|exact decide_eq_decide.2 (by omega)|exact decide_eq_false (by omega)|exact decide_eq_true (by omega)
  have d1 : decide (f.kind = 1) = false := decide_eq_false h1
  by_cases h2 : f.kind = 2
  · have d2 : decide (f.kind = 2) = true := decide_eq_true h2
    rw [fieldsM, if_neg h1, if_pos h2]
    repeat' (first|(refine gR ?_; first|refine x_opF rfl (by first|exact True.intro|omega) ?_|(refine gC ?_; first|refine vr_calldU (isErr_spec _) (gk rfl) rfl rfl rfl (by first|rfl|(simp only [wfRes, wfL, wfArgs, wfs]; rfl)) rfl (by first|exact newB_O|rfl) rfl ?_|refine vr_calldU (isTgt_spec f) (gk rfl) rfl rfl rfl (by first|rfl|(simp only [wfRes, wfL, wfArgs, wfs]; rfl)) rfl (by first|exact newB_O|rfl) rfl ?_)|(refine x_gsplit rfl ?_ ?_ <;> intro h <;> have hq := h <;> (try simp only [hqs] at hq)))|(refine gO ?_; first|refine vr_nil ?_)|(refine gT ?_; first|refine q_then_n ?_)|(refine gK ?_; first|refine q_blk_n ?_)|refine vc_seq ?_|refine vc_region ?_|(show VC _ (.cond _ _ _) _ _; first|refine vc_cond_t rfl ?_|refine vc_cond_f rfl ?_|refine x_know rfl (by assumption) ?_)|refine vc_ret ?_|refine vc_block ?_)
    all_goals
      refine ret_agg_dL isRet_r rfl rfl rfl rfl rfl rfl (congrArg D.bool ?_)
      first|exact decide_eq_decide.2 (by omega)|exact decide_eq_false (by omega)|exact decide_eq_true (by omega)
  have d2 : decide (f.kind = 2) = false := decide_eq_false h2
  by_cases h3 : f.kind = 3
  · have d3 : decide (f.kind = 3) = true := decide_eq_true h3
    rw [fieldsM, if_neg h1, if_neg h2, if_pos h3]
    repeat' (first|(refine gR ?_; first|refine x_opF rfl (by first|exact True.intro|omega) ?_|(refine gC ?_; first|refine vr_calldU (fin_spec _ _) (gk rfl) rfl rfl rfl (by first|rfl|(simp only [wfRes, wfL, wfArgs, wfs]; rfl)) rfl (by first|exact newB_O|rfl) rfl ?_)|(refine x_gsplit rfl ?_ ?_ <;> intro h <;> have hq := h <;> (try simp only [hqs] at hq)))|(refine gO ?_; first|refine vr_nil ?_)|(refine gT ?_; first|refine q_then_n ?_)|(refine gK ?_; first|refine q_blk_n ?_)|refine vc_seq ?_|refine vc_region ?_|(show VC _ (.cond _ _ _) _ _; first|refine vc_cond_t rfl ?_|refine vc_cond_f rfl ?_|refine x_know rfl (by assumption) ?_)|refine vc_ret ?_|refine vc_block ?_)
    all_goals
      refine ret_agg_dL isRet_r rfl rfl rfl rfl rfl rfl (congrArg D.bool ?_)
      first|exact decide_eq_decide.2 (by omega)|exact decide_eq_false (by omega)|exact decide_eq_true (by omega)
  have d3 : decide (f.kind = 3) = false := decide_eq_false h3
  by_cases h4 : f.kind = 4
  · have d4 : decide (f.kind = 4) = true := decide_eq_true h4
    rw [fieldsM, if_neg h1, if_neg h2, if_neg h3, if_pos h4]
    repeat' (first|(refine gR ?_; first|refine x_opF rfl (by first|exact True.intro|omega) ?_|(refine gC ?_; first|refine vr_calldU (isTgt_spec f) (gk rfl) rfl rfl rfl (by first|rfl|(simp only [wfRes, wfL, wfArgs, wfs]; rfl)) rfl (by first|exact newB_O|rfl) rfl ?_)|(refine x_gsplit rfl ?_ ?_ <;> intro h <;> have hq := h <;> (try simp only [hqs] at hq)))|(refine gO ?_; first|refine vr_nil ?_)|(refine gT ?_; first|refine q_then_n ?_)|(refine gK ?_; first|refine q_blk_n ?_)|refine vc_seq ?_|refine vc_region ?_|(show VC _ (.cond _ _ _) _ _; first|refine vc_cond_t rfl ?_|refine vc_cond_f rfl ?_|refine x_know rfl (by assumption) ?_)|refine vc_ret ?_|refine vc_block ?_)
    all_goals
      refine ret_agg_dL isRet_r rfl rfl rfl rfl rfl rfl (congrArg D.bool ?_)
      first|exact decide_eq_decide.2 (by omega)|exact decide_eq_false (by omega)|exact decide_eq_true (by omega)
  have d4 : decide (f.kind = 4) = false := decide_eq_false h4
  rw [fieldsM, if_neg h1, if_neg h2, if_neg h3, if_neg h4]
  repeat' (first|(refine gR ?_; first|refine x_opF rfl (by first|exact True.intro|omega) ?_)|(refine gO ?_; first|refine vr_nil ?_)|(refine gT ?_; first|refine q_then_n ?_)|(refine gK ?_; first|refine q_blk_n ?_)|refine vc_seq ?_|refine vc_region ?_|(show VC _ (.cond _ _ _) _ _; first|refine vc_cond_f rfl ?_|refine x_know rfl (by assumption) ?_)|refine vc_ret ?_|refine vc_block ?_|refine vc_skip ?_)
  exact ret_agg_dL isRet_r rfl rfl rfl rfl rfl rfl rfl
def zeroF (f : Fr) : Fr := ⟨f.kind, f.source, f.target, f.list, f.seq, 0, 0, 0, 0, 0, 0, ⟨#[]⟩⟩
def inS (f : Fr) : Bool := decide ((0 <= f.source /\ f.source <= 31) /\ (0 <= f.list /\ f.list <= 255) /\ 0 <= f.seq /\ f.seq <= 255)
def checkF (f : Fr) : Int := if (fieldsM f).2 = true /\ (fieldsM f).1 = zeroF f /\ inS f = true then 0 else 1
set_option maxHeartbeats 1000000 in
theorem checkF_spec (f : Fr) : FnS Tryz.prog 127 [frA f] [] (AI (checkF f)) [] := by
  refine FnS.of_body (enters_of Tryz.func127 (by kernel_rfl) rfl) Tryz.func127 rfl Tryz.ntmps127 Tryz.results127 rfl rfl rfl rfl fun E hS => ?_
  repeat' (first|(refine gR ?_; first|refine x_opF rfl (by first|exact True.intro|omega) ?_|(refine gC ?_; first|refine vr_calldU (fields_spec f) (gk rfl) rfl rfl rfl (by first|rfl|(simp only [wfRes, wfL, wfArgs, wfs]; rfl)) rfl (by first|exact newB_O|rfl) rfl ?_|refine vr_calldU (fin_spec _ _) (gk rfl) rfl rfl rfl (by first|rfl|(simp only [wfRes, wfL, wfArgs, wfs]; rfl)) rfl (by first|exact newB_O|rfl) rfl ?_)|(refine gB ?_; first|refine vr_neqA (gk rfl) rfl rfl rfl rfl rfl rfl rfl ?_)|(refine x_gsplit rfl ?_ ?_ <;> intro h <;> have hq := h <;> (try simp only [hqs] at hq)))|(refine gO ?_; first|refine vr_nil ?_)|(refine gT ?_; first|refine q_then_n ?_|refine q_then_r ?_)|refine vc_seq ?_|refine vc_region ?_|(show VC _ (.cond _ _ _) _ _; first|refine vc_cond_t rfl ?_|(refine x_cond rfl ?_ ?_ <;> intro h <;> have hq := h <;> (try simp only [hqs] at hq)))|refine vc_ret ?_|refine vc_skip ?_)
  · exact ret_int isRet_r rfl (if_neg fun hh => by rw [hq] at hh; cases hh.1)
  · exact ret_int isRet_r rfl (if_neg fun hh => hq (fr_vs hh.2.1))
  · exact ret_int isRet_r rfl (if_neg fun hh => by have := of_decide_eq_true hh.2.2; omega)
  · exact ret_int isRet_r rfl (if_neg fun hh => by have := of_decide_eq_true hh.2.2; omega)
  · exact ret_int isRet_r rfl (if_neg fun hh => by have := of_decide_eq_true hh.2.2; omega)
  · exact ret_int isRet_r rfl (if_pos ⟨by assumption, fr_sv (x := (fieldsM f).1) (y := zeroF f) (by assumption), decide_eq_true ⟨by assumption, by assumption, by assumption⟩⟩)
abbrev tgtP (f : Fr) : Prop := 0 <= f.target /\ f.target <= 31 /\ f.target ≠ f.source
abbrev inP (f : Fr) : Prop := (0 <= f.source /\ f.source <= 31) /\ (0 <= f.list /\ f.list <= 255) /\ 0 <= f.seq /\ f.seq <= 255
abbrev okP (f : Fr) : Prop := inP f /\ ((f.kind = 1 /\ tgtP f /\ (0 <= f.flow /\ f.flow <= 255) /\ (0 <= f.number /\ f.number <= 65535) /\ f.err = 0 /\ f.slot = 0 /\ f.rank = 0 /\ f.epoch = 0)
  \/ (f.kind = 2 /\ tgtP f /\ (-32768 <= f.err /\ f.err <= 32767) /\ f.flow = 0 /\ f.number = 0 /\ f.slot = 0 /\ f.rank = 0 /\ f.epoch = 0 /\ f.data = ⟨#[]⟩)
  \/ (f.kind = 3 /\ f.target = -1 /\ (0 <= f.slot /\ f.slot <= 109951162) /\ (0 <= f.rank /\ f.rank <= 65535) /\ (0 <= f.epoch /\ f.epoch <= 65535) /\ f.flow = 0 /\ f.number = 0 /\ f.err = 0)
  \/ (f.kind = 4 /\ (f.target = -1 \/ tgtP f) /\ f.flow = 0 /\ f.number = 0 /\ f.err = 0 /\ f.slot = 0 /\ f.rank = 0 /\ f.epoch = 0))
theorem checkF_iff (f : Fr) : checkF f = 0 ↔ okP f := by
  have hd : ∀ {p : Prop} [Decidable p], (if p then (0 : Int) else 1) = 0 ↔ p := fun {p} _ => by split <;> simp_all
  unfold checkF
  rw [hd]
  unfold okP inP tgtP inS
  obtain ⟨kind, source, target, list, seq, flow, number, err, slot, rank, epoch, data⟩ := f
  by_cases h1 : kind = 1
  · subst h1
    simp only [fieldsM, zeroF, if_pos, Fr.mk.injEq, decide_eq_true_eq, true_and, and_true]
    constructor
    · rintro ⟨h, h2, h3⟩; exact ⟨h3, .inl ⟨h.1, h.2.1, h.2.2, by omega, by omega, by omega, by omega⟩⟩
    · rintro ⟨h3, h | h | h | h⟩
      · exact ⟨⟨h.1, h.2.1, h.2.2.1⟩, by omega, h3⟩
      · exact absurd h.1 (by decide)
      · exact absurd h.1 (by decide)
      · exact absurd h.1 (by decide)
  by_cases h2 : kind = 2
  · subst h2
    simp only [fieldsM, zeroF, if_pos, if_neg (show ¬ (2 : Int) = 1 by decide), Fr.mk.injEq, decide_eq_true_eq, true_and, and_true]
    constructor
    · rintro ⟨h, h2, h3⟩; exact ⟨h3, .inr (.inl ⟨h.1, h.2, h2.1, h2.2.1, h2.2.2.1, h2.2.2.2.1, h2.2.2.2.2.1, h2.2.2.2.2.2⟩)⟩
    · rintro ⟨h3, h | h | h | h⟩
      · exact absurd h.1 (by decide)
      · exact ⟨⟨h.1, h.2.1⟩, h.2.2, h3⟩
      · exact absurd h.1 (by decide)
      · exact absurd h.1 (by decide)
  by_cases h3 : kind = 3
  · subst h3
    simp only [fieldsM, zeroF, if_pos, if_neg (show ¬ (3 : Int) = 1 by decide), if_neg (show ¬ (3 : Int) = 2 by decide), Fr.mk.injEq, decide_eq_true_eq, true_and, and_true]
    constructor
    · rintro ⟨h, h2, h3⟩; exact ⟨h3, .inr (.inr (.inl ⟨h.1, h.2.1, h.2.2.1, h.2.2.2, by omega, by omega, by omega⟩))⟩
    · rintro ⟨h3, h | h | h | h⟩
      · exact absurd h.1 (by decide)
      · exact absurd h.1 (by decide)
      · exact ⟨⟨h.1, h.2.1, h.2.2.1, h.2.2.2.1⟩, by omega, h3⟩
      · exact absurd h.1 (by decide)
  by_cases h4 : kind = 4
  · subst h4
    simp only [fieldsM, zeroF, if_pos, if_neg (show ¬ (4 : Int) = 1 by decide), if_neg (show ¬ (4 : Int) = 2 by decide), if_neg (show ¬ (4 : Int) = 3 by decide), Fr.mk.injEq, decide_eq_true_eq, true_and, and_true]
    constructor
    · rintro ⟨h, h2, h3⟩; exact ⟨h3, .inr (.inr (.inr ⟨h, by omega, by omega, by omega, by omega, by omega, by omega⟩))⟩
    · rintro ⟨h3, h | h | h | h⟩
      · exact absurd h.1 (by decide)
      · exact absurd h.1 (by decide)
      · exact absurd h.1 (by decide)
      · exact ⟨h.1, by omega, h3⟩
  · simp [fieldsM, if_neg h1, if_neg h2, if_neg h3, if_neg h4]
    intros; omega
end Go.Proofs
end
