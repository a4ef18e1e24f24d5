/- The walk of WordsBack, as the card asks for it. -/
import Derived.Test.YtenjohemplgnmaaDoorNWordsBack
import Derived.OpenShut
namespace Go.Proofs.YtenjohemplgnmaaDoor.P
open Go.RowKit Go.Proofs.YtenjohemplgnmaaDoorW.PrintWords
theorem L05_WordsBack.walk (_ : True) (A0 : Option Addr) (c0 : Nat) (l : List ByteArray) (A1 : Option Addr) (c1 : Nat) (ends : List Int) (w : World) (hr0 : Kd.C Kd.string w A0 l.length l) (hc0 : l.length ≤ c0) (hsz : ∀ s ∈ l, s.size ≤ maxLen)
    (hr1 : Kd.C (Kd.int .u8) w A1 ends.length ends) (hc1 : ends.length ≤ c1) (hez : ∀ e ∈ ends, (Lit.int .u8 e).wf = true) :
    Calls Tryd.prog 5 #[.slice A0 l.length c0, .slice A1 ends.length c1] w fun e w' => e = .returned (.bool true) ∧ Below w.heap.size w w' :=
  back_walk A0 c0 l A1 c1 ends w hr0 hc0 (fun s hs => hsz s hs) hr1 hc1 (fun e he => bounds_u8 (hez e he))
end Go.Proofs.YtenjohemplgnmaaDoor.P
namespace Go.Proofs.YtenjohemplgnmaaDoor.Pure
theorem WordsBack : True := trivial
end Go.Proofs.YtenjohemplgnmaaDoor.Pure
