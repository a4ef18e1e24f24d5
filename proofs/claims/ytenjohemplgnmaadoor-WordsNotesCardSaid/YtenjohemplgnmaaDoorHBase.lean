/- Plain facts about rounds, bytes and the document's example, for the statements of layer 5. -/
import Derived.Test.YtenjohemplgnmaaDoorPx3
namespace Go.Proofs.YtenjohemplgnmaaDoor.P
open Go.RowKit Go.Proofs.YtenjohemplgnmaaDoorW.PrintWords Go.Proofs.YtenjohemplgnmaaDoorW.PrintLast

theorem evs {α : Type} {g : Nat → Option α} {r : α} (h : Ev (fun k => g (k + 1)) r) : Ev g r := Ev.step (fun _ => rfl) h

theorem wrapc (i : Nat) (h : i < 9223372036854775807) : wrap64 ((i : Int) + 1) = ((i + 1 : Nat) : Int) := by
  unfold wrap64
  omega

theorem bt_lt (s : ByteArray) (i : Nat) (h : i < s.size) : bt s (i : Int) = (s.data.toList[i]'(by simpa using h)).toNat := by
  unfold bt
  simp [h]
  rfl

theorem shown_true : Ev L05_shown.f true := by
  refine Ev.of L05_shown.mono (k := 60) ?_
  decide +kernel
end Go.Proofs.YtenjohemplgnmaaDoor.P
