/-
  What functions of the given program hand back, by walks over its code, and plain laws on that. No condition.
-/
import Derived.Test.YtecdajajocafdaaGreatSxP18w
import Derived.Test.YtecdajajocafdaaGreatSxLibB
import Derived.Test.YtecdajajocafdaaGreatRows
namespace Go.Proofs
open Go Go.Sx Go.Proofs.T Go.Proofs.Q
abbrev shTC : List Sh := [.int .i64, .int .i64, .int .i64, .bool, .int .i64, .int .i64]
abbrev shPk : List Sh := [.int .i64, .int .i64, .int .i64, .int .i64, .int .i64, .str]
abbrev shHd : List Sh := [.int .i64, .int .i64, .int .i64, .str, .sl [.int .i64]]
abbrev shSn : List Sh := [.int .i64, .int .i64]
abbrev shRs : List Sh := [.bool, .bool, .int .i64, .int .i64, .int .i64, .int .i64, .int .i64, .int .i64, .int .i64, .int .i64, .int .i64, .int .i64, .int .i64, .str, .int .i64]
abbrev shSta : List Sh := [.int .i64, .int .i64, .sl shTC, .int .i64, .sl shPk, .sl shHd, .sl shSn, .int .i64, .int .i64, .int .i64, .int .i64, .int .i64, .int .i64, .int .i64]
end Go.Proofs
namespace Go.Proofs.YtecdajajocafdaaGreat
theorem Tryz.own : ownKnob Tryz.prog.godebug = none := by kernel_rfl
theorem Tryz.laidOut : laidOutB Tryz.prog = true := by kernel_rfl
end Go.Proofs.YtecdajajocafdaaGreat


