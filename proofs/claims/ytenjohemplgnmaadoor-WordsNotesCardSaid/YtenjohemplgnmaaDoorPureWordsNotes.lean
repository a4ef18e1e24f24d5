/- The walk of WordsNotes, as the card asks for it. -/
import Derived.Test.YtenjohemplgnmaaDoorNWordsNotes
import Derived.OpenShut
namespace Go.Proofs.YtenjohemplgnmaaDoor.P
open Go.RowKit Go.Proofs.YtenjohemplgnmaaDoorW.PrintWords
theorem L05_WordsNotes.walk (_ : True) (a0 a1 : ByteArray) (n0 n1 : Int) (w : World) (_ : a0.size ≤ 140737488351232) (h1 : a1.size ≤ 140737488351232) (b0 : (Lit.int .u16 n0).wf = true) (b1 : (Lit.int .u16 n1).wf = true) :
    Calls Tryd.prog 7 #[.string a0, .string a1, .agg #[.int .u16 n0, .int .u16 n1]] w fun e w' => e = .returned (.bool true) ∧ Below w.heap.size w w' :=
  notes_walk a0 a1 n0 n1 w (by omega) (bounds_u16 b0) (bounds_u16 b1)
end Go.Proofs.YtenjohemplgnmaaDoor.P
namespace Go.Proofs.YtenjohemplgnmaaDoor.Pure
theorem WordsNotes : True := trivial
end Go.Proofs.YtenjohemplgnmaaDoor.Pure
