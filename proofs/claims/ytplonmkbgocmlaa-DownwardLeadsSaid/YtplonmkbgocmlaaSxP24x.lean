/-
  What functions of the given program hand back, by walks over its code, and plain laws on that. No condition.
-/
import Derived.Test.YtplonmkbgocmlaaSxP24l
import Derived.Test.YtplonmkbgocmlaaSxLibB
import Derived.Test.YtplonmkbgocmlaaRows
namespace Go.Proofs
open Go Go.Sx
abbrev shRP : List Sh := [.int .i64, .int .i64, .int .i64]
theorem intsD_of {d : D} (h : HasSh (.sl [.int .i64]) d) : ∃ l : List Int, DLe d (ints l) := by
  obtain ⟨l, hl, _⟩ := ints_of h
  exact ⟨l, hl⟩
end Go.Proofs
namespace Go.Proofs.Ytplonmkbgocmlaa
theorem Try.own : ownKnob Try.prog.godebug = none := by kernel_rfl
theorem Try.laidOut : laidOutB Try.prog = true := by kernel_rfl
end Go.Proofs.Ytplonmkbgocmlaa


