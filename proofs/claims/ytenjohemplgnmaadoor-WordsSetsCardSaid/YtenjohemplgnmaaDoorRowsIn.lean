/- Rows of strings and of numbers among the arguments: as the walks read them. -/
import Derived.Test.YtenjohemplgnmaaDoorPx0
import Derived.SliceStrings
import Derived.Carry
namespace Go.Proofs.YtenjohemplgnmaaDoor.P
open Go.ChangeShapes Go.WideShapes Go.RowKit Go.Proofs.YtenjohemplgnmaaDoorW.PrintWords

theorem laidOut : laidOutB Tryd.prog = true := by kernel_rfl

theorem take_at {α : Type} (xs : List α) (z : α) (n j : Nat) (h : j < n) : (xs.take n).getD j z = xs.getD j z := by
  rw [List.getD_eq_getElem?_getD, List.getD_eq_getElem?_getD, List.getElem?_take, if_pos h]

theorem row_strings {H : Type} {enc : TypeId × Value → H} {P : Program} {w : World} {t e : TypeId} {A : Option Addr} {len cap : Nat} {d : DataW H} {ps : List MemPlace}
    (ht : P.underlying t = some (.slice e)) (he : P.underlying e = some .string) (hc : P.cellsOf e = 1)
    (h : DataW.Trod enc P w 0 (fun _ => true) true t (.slice A len cap) d ps) : ∃ ss : List ByteArray, ss.length = len ∧ Kd.C Kd.string w A len ss ∧ len ≤ cap ∧ ∀ s ∈ ss, s.size ≤ maxLen := by
  obtain ⟨fuel, hf⟩ := h
  rcases open_strings ht he hc hf with ⟨hcs, _⟩ | ⟨x, l, c, zs, hcs, _, hl, hm, hz, _, hcell, hsz⟩
  · simp [Value.cells] at hcs
    obtain ⟨rfl, rfl, rfl⟩ := hcs
    exact ⟨[], rfl, Kd.C_nil _ _, Nat.le_refl _, fun s hs => by cases hs⟩
  · simp [Value.cells] at hcs
    obtain ⟨rfl, rfl, rfl⟩ := hcs
    have hlen : (zs.take len).length = len := by
      rw [List.length_take]
      simp only [if_true] at hz
      omega
    refine ⟨zs.take len, hlen, Kd.C_of_reads (d := ByteArray.empty) ⟨hlen, by unfold maxLen at hm; omega, fun _ => ⟨x, rfl, fun j hj => ?_⟩⟩, hl, fun s hs => hsz s (List.mem_of_mem_take hs)⟩
    rw [take_at _ _ _ _ hj]
    exact hcell j (by simp only [if_true] at hz; omega)

theorem row_ints {H : Type} {enc : TypeId × Value → H} {P : Program} {w : World} {t e : TypeId} {k : IntKind} {A : Option Addr} {len cap : Nat} {d : DataW H} {ps : List MemPlace}
    (ht : P.underlying t = some (.slice e)) (he : P.underlying e = some (.int k)) (hc : P.cellsOf e = 1)
    (h : DataW.Trod enc P w 0 (fun _ => true) true t (.slice A len cap) d ps) : ∃ zs : List Int, zs.length = len ∧ Kd.C (Kd.int k) w A len zs ∧ len ≤ cap ∧ ∀ n ∈ zs, (Lit.int k n).wf = true := by
  obtain ⟨fuel, hf⟩ := h
  rcases open_ints ht he hc hf with ⟨hcs, _⟩ | ⟨x, l, c, zs, hcs, _, hl, hm, hz, _, hcell, hsz⟩
  · simp [Value.cells] at hcs
    obtain ⟨rfl, rfl, rfl⟩ := hcs
    exact ⟨[], rfl, Kd.C_nil _ _, Nat.le_refl _, fun s hs => by cases hs⟩
  · simp [Value.cells] at hcs
    obtain ⟨rfl, rfl, rfl⟩ := hcs
    have hlen : (zs.take len).length = len := by
      rw [List.length_take]
      simp only [if_true] at hz
      omega
    refine ⟨zs.take len, hlen, Kd.C_of_reads (d := 0) ⟨hlen, by unfold maxLen at hm; omega, fun _ => ⟨x, rfl, fun j hj => ?_⟩⟩, hl, fun s hs => hsz s (List.mem_of_mem_take hs)⟩
    rw [take_at _ _ _ _ hj]
    exact hcell j (by simp only [if_true] at hz; omega)
end Go.Proofs.YtenjohemplgnmaaDoor.P
