/- The walk of WordsRows, as the card asks for it. -/
import Derived.Test.YtenjohemplgnmaaDoorNWordsRows
import Derived.OpenShut
namespace Go.Proofs.YtenjohemplgnmaaDoor.P
open Go.RowKit Go.ChangeShapes Go.Proofs.YtenjohemplgnmaaDoorW.PrintWords
theorem L05_WordsRows.walk (_ : True) (A0 : Option Addr) (c0 : Nat) (l : List (List ByteArray)) (bits odd : Int) (w : World) (hr0 : Kd.C (Kd.slice 9 Kd.string) w A0 l.length l) (hc0 : l.length ≤ c0)
    (hsz : ∀ r ∈ l, ∀ s ∈ r, s.size ≤ maxLen) (hb : (Lit.int .u16 bits).wf = true) (ho : (Lit.int .u8 odd).wf = true) :
    Calls Tryd.prog 8 #[.slice A0 l.length c0, .int .u16 bits, .int .u8 odd] w fun e w' => e = .returned (.bool true) ∧ Below w.heap.size w w' :=
  rows_walk A0 c0 l bits odd w hr0 hc0 (fun r hr s hs => hsz r hr s hs) (bounds_u16 hb) (bounds_u8 ho)
end Go.Proofs.YtenjohemplgnmaaDoor.P
namespace Go.Proofs.YtenjohemplgnmaaDoor.Pure
theorem WordsRows : True := trivial
end Go.Proofs.YtenjohemplgnmaaDoor.Pure
