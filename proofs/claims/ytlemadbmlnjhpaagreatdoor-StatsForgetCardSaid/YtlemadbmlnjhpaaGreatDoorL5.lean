/- What SortFunc asks of compare. -/
import Derived.Test.YtlemadbmlnjhpaaGreatDoorL4
import Derived.Shelf.SlSortCmp.InsertionK
namespace Go.Proofs.YtlemadbmlnjhpaaGreatDoor
open Go Go.RowKit Go.Proofs
set_option linter.unusedSimpArgs false
set_option linter.unusedVariables false

def keyCells (k : Key) : List Value := [.int .i64 k.1, .int .i64 k.2.1, .string k.2.2]
theorem cmp_lays (blk off size : Nat) (w : World) : CmpLays Tryz.prog 63 #[] keyCells 3 cmpK blk off size w := fun m os dk hs x y =>
  compare_lit x.1 x.2.1 y.1 y.2.1 x.2.2 y.2.2 _
theorem compare_enters : ∀ (args : Array Value) (w : World), Sem.run Tryz.prog (callFunc 63 args) w = Result.ok (Next.enter 63 args) w :=
  enters_of Tryz.func63 (by kernel_rfl) rfl
end Go.Proofs.YtlemadbmlnjhpaaGreatDoor
