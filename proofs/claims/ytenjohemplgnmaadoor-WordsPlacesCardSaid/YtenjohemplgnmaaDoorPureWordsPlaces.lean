/- The walk of WordsPlaces, as the card asks for it. -/
import Derived.Test.YtenjohemplgnmaaDoorNWordsPlaces
import Derived.OpenShut
namespace Go.Proofs.YtenjohemplgnmaaDoor.P
open Go.RowKit Go.Proofs.YtenjohemplgnmaaDoorW.PrintWords
theorem L05_WordsPlaces.walk (_ : True) (a0 : ByteArray) (w : World) (_ : a0.size ≤ 140737488351232) :
    Calls Tryd.prog 6 #[.string a0] w fun e w' => e = .returned (.bool true) ∧ Below w.heap.size w w' := places_walk a0 w
end Go.Proofs.YtenjohemplgnmaaDoor.P
namespace Go.Proofs.YtenjohemplgnmaaDoor.Pure
theorem WordsPlaces : True := trivial
end Go.Proofs.YtenjohemplgnmaaDoor.Pure
