/-
  What functions of the given program hand back, by walks over its code, and plain laws on that. No condition.
-/
import Derived.Test.YtecdajajocafdaaGreatSxP18p
-- SXS
-- SXM
-- SXN
namespace Go.Proofs
open Go Go.Sx Go.Proofs.T Go.Proofs.Q
set_option maxRecDepth 4000
set_option linter.unusedSimpArgs false
set_option linter.unusedVariables false
attribute [local irreducible] VR VC thenQ blockQ retL

structure Pl where
  a : Ac
  c : TC
  p : Pk
  some : Bool
def Pl.cs (x : Pl) : List C := [.d (.int .i64 x.a.kind), .d (.int .i64 x.a.offset), .d (.int .i64 x.a.fkind), .d (.int .i64 x.a.source), .d (.int .i64 x.a.target), .d (.int .i64 x.a.list), .d (.int .i64 x.a.seq), .d (.int .i64 x.a.flow), .d (.int .i64 x.a.number), .d (.int .i64 x.a.err), .d (.int .i64 x.a.slot), .d (.int .i64 x.a.rank), .d (.int .i64 x.a.epoch), .d (.str x.a.data),
  .d (.int .i64 x.c.slot), .d (.int .i64 x.c.offset), .d (.int .i64 x.c.kind), .d (.bool x.c.send), .d (.int .i64 x.c.peer), .d (.int .i64 x.c.flow),
  .d (.int .i64 x.p.id), .d (.int .i64 x.p.to), .d (.int .i64 x.p.prio), .d (.int .i64 x.p.born), .d (.int .i64 x.p.life), .d (.str x.p.data), .d (.bool x.some)]
abbrev plA (x : Pl) : AV := .agg x.cs
def planP (s : Sta) (c : TC) : Pk × Bool := if c.kind = 2 ∧ c.send = true then (if (firstQ s.qu c.peer).2 = true then ((firstQ s.qu c.peer).1, true) else (noP, false)) else if c.kind = 3 then (pkOf s (candI s), (candI s).isSome) else (noP, false)
end Go.Proofs


