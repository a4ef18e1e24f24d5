/- A world in which the library's tables hold what the program's text lays: for the witness of each row. -/
import Derived.Test.YtenjohemplgnmaaDoorCards
import Derived.Test.YtenjohemplgnmaaDoorTie
import Derived.WalkKit
import Derived.ProofKit
import Derived.OpenShut
import Derived.Deep.DeepHandedRow
import Derived.Lib.LaidTab
namespace Go.Proofs.YtenjohemplgnmaaDoor.Laid
open Go.ChangeShapes Go.WideShapes Go.ChangeAt Go.RowKit

/-- The cells of a table of numbers, or of rows of two. -/
def cellsOf : DataW Unit → List Value
  | .agg xs => xs.flatMap fun
    | .lit (.int k n) => [.int k n]
    | .agg ys => ys.filterMap fun
      | .lit (.int k n) => some (.int k n)
      | _ => none
    | _ => []
  | _ => []

/-- Block g holds these cells. -/
def layIn (h : Array Obj) (g : Nat) (cs : List Value) : Array Obj := h.modify g fun
  | .cells _ t frozen => .cells cs.toArray t frozen
  | o => o

noncomputable def laidWorld (os : Os) : World :=
  { World.holding Tryd.prog os ⟨#[], #[], []⟩ with heap := layIn (layIn (World.holding Tryd.prog os ⟨#[], #[], []⟩).heap 4 (cellsOf Rows.laid_unicode_utf8_acceptRanges)) 3 (cellsOf Rows.laid_unicode_utf8_first) }
theorem own : ownKnob Tryd.prog.godebug = none := by kernel_rfl
theorem gFirst : Tryd.prog.globalNamed "unicode/utf8.first" = some 3 := by kernel_rfl
theorem gAccept : Tryd.prog.globalNamed "unicode/utf8.acceptRanges" = some 4 := by kernel_rfl
theorem laid_met (os : Os) (args : Array Value) : laidMet Tryd.prog Rows.wordsAllRow.laid ((laidWorld os).forCall (fun _ _ => 0) ⟨#[], args, []⟩).memory :=
  laidMet_of_run' 12 (by kernel_rfl) (by kernel_rfl)
end Go.Proofs.YtenjohemplgnmaaDoor.Laid
