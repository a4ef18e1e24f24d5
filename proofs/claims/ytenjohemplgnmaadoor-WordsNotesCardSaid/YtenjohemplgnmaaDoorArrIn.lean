/- An array of two numbers among the arguments: as the walks read it. -/
import Derived.Test.YtenjohemplgnmaaDoorRowsIn
import Derived.OpenShut
import Derived.Lib.SmallJoins
import Derived.ChangeArms
namespace Go.Proofs.YtenjohemplgnmaaDoor.P
open Go.ChangeShapes Go.WideShapes Go.RowKit Go.Proofs.YtenjohemplgnmaaDoorW.PrintWords

theorem open_arr2 {H : Type} {enc : TypeId × Value → H} {P : Program} {w : World} {r : Reach} {b0 : Nat} {t e : TypeId} {k : IntKind} {v : Value} {d : DataW H} {ps : List MemPlace} {base : Nat} {spare : Nat → Bool} {held : Bool}
    (ht : P.underlying t = some (.array 2 e)) (he : P.underlying e = some (.int k)) (hc : P.cellsOf e = 1) (hC : P.cellsOf t = 2) (hv : Value.okWide P w r b0 t v) (h : DataW.Trod enc P w base spare held t v d ps) :
    ∃ n0 n1, v = .agg #[.int k n0, .int k n1] ∧ ps = [] ∧ (Lit.int k n0).wf = true ∧ (Lit.int k n1).wf = true := by
  simp only [Value.okWide, ht] at hv
  obtain ⟨cs, rfl, hs, _⟩ := hv
  rw [hC] at hs
  obtain ⟨l⟩ := cs
  match l, hs with
  | [c0, c1], _ =>
    obtain ⟨fuel, hf⟩ := h
    obtain ⟨xs, m, _, hx, _, hl, hel⟩ := DataW.trod_array ht hf
    have h0 := hel 0 (by omega)
    have h1 := hel 1 (by omega)
    rw [hc] at h0 h1
    obtain ⟨y0, y1, rfl⟩ : ∃ y0 y1, xs = [y0, y1] := by
      match xs, hl with
      | [y0, y1], _ => exact ⟨y0, y1, rfl⟩
    have h0' : DataW.trod enc P w base spare held m e [c0] = some y0 := by simpa [Value.cells] using h0
    have h1' : DataW.trod enc P w base spare held m e [c1] = some y1 := by simpa [Value.cells] using h1
    obtain ⟨n0, e0, rfl, w0⟩ := DataW.trod_int he h0'
    obtain ⟨n1, e1, rfl, w1⟩ := DataW.trod_int he h1'
    obtain rfl : c0 = .int k n0 := List.singleton_inj.1 e0
    obtain rfl : c1 = .int k n1 := List.singleton_inj.1 e1
    simp only [Prod.mk.injEq] at hx
    exact ⟨n0, n1, rfl, by rw [hx.2]; rfl, w0, w1⟩
end Go.Proofs.YtenjohemplgnmaaDoor.P
