/- A world in which the library's tables and errors hold what the program's text lays: for the witness of the rows on numbers. -/
import Derived.Test.YtenjohemplgnmaaDoorLaid
import Derived.Deep.DeepWitnessRowRef
namespace Go.Proofs.YtenjohemplgnmaaDoor.Laid
open Go.ChangeShapes Go.WideShapes Go.ChangeAt Go.RowKit

/-- An error's text. -/
def textIn : DataW Unit → List UInt8
  | .iface _ (.ptr (.agg [.lit (.string l)])) => l
  | _ => []
def lay7 (h : Array Obj) : Array Obj :=
  let h1 := layIn (layIn h 4 (cellsOf Rows.laid_unicode_utf8_acceptRanges)) 3 (cellsOf Rows.laid_unicode_utf8_first)
  let h2 := layIn (layIn (layIn h1 5 (cellsOf Rows.laid_internal_strconv_uint64pow10)) 6 (cellsOf Rows.laid_math_bits_deBruijn32tab)) 7 (cellsOf Rows.laid_math_bits_deBruijn64tab)
  let h3 := layIn (layIn h2 1 [.iface 109 (.pointer (some ⟨h.size, 0, none⟩))]) 2 [.iface 109 (.pointer (some ⟨h.size + 1, 0, none⟩))]
  (h3.push (.cells #[.string ⟨(textIn Rows.laid_strconv_ErrSyntax).toArray⟩] 111 (0, 0))).push (.cells #[.string ⟨(textIn Rows.laid_strconv_ErrRange).toArray⟩] 111 (0, 0))
noncomputable def laidWorld7 (os : Os) : World :=
  { World.holding Tryd.prog os ⟨#[], #[], []⟩ with heap := lay7 (World.holding Tryd.prog os ⟨#[], #[], []⟩).heap }
theorem laid_met7 (os : Os) (args : Array Value) : laidMet Tryd.prog Rows.wordsKindsRow.laid ((laidWorld7 os).forCall (fun _ _ => 0) ⟨#[], args, []⟩).memory :=
  laidMet_of_run' 12 (by kernel_rfl) (by kernel_rfl)
end Go.Proofs.YtenjohemplgnmaaDoor.Laid
