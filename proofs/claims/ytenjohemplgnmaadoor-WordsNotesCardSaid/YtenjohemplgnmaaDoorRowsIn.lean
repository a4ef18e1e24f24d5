/- Rows of strings and of numbers among the arguments: as the walks read them. -/
import Derived.Test.YtenjohemplgnmaaDoorPx0
import Derived.SliceStrings
import Derived.Carry
namespace Go.Proofs.YtenjohemplgnmaaDoor.P
open Go.ChangeShapes Go.WideShapes Go.RowKit Go.Proofs.YtenjohemplgnmaaDoorW.PrintWords

theorem laidOut : laidOutB Tryd.prog = true := by kernel_rfl

theorem take_at {α : Type} (xs : List α) (z : α) (n j : Nat) (h : j < n) : (xs.take n).getD j z = xs.getD j z := by
  rw [List.getD_eq_getElem?_getD, List.getD_eq_getElem?_getD, List.getElem?_take, if_pos h]

theorem row_strings {H : Type} {enc : TypeId × Value → H} {P : Program} {w : World} {t e : TypeId} {A : Option Addr} {len cap : Nat} {d : DataW H} {ps : List MemPlace}
    (ht : P.underlying t = some (.slice e)) (he : P.underlying e = some .string) (hc : P.cellsOf e = 1)
    (h : DataW.Trod enc P w 0 (fun _ => true) true t (.slice A len cap) d ps) : ∃ ss : List ByteArray, ss.length = len ∧ Kd.C Kd.string w A len ss ∧ len ≤ cap ∧ ∀ s ∈ ss, s.size ≤ maxLen := by
  obtain ⟨fuel, hf⟩ := h
  rcases open_strings ht he hc hf with ⟨hcs, _⟩ | ⟨x, l, c, zs, hcs, _, hl, hm, hz, _, hcell, hsz⟩
  · simp [Value.cells] at hcs
    obtain ⟨rfl, rfl, rfl⟩ := hcs
    exact ⟨[], rfl, Kd.C_nil _ _, Nat.le_refl _, fun s hs => by cases hs⟩
  · simp [Value.cells] at hcs
    obtain ⟨rfl, rfl, rfl⟩ := hcs
    have hlen : (zs.take len).length = len := by
      rw [List.length_take]
      simp only [if_true] at hz
      omega
    refine ⟨zs.take len, hlen, Kd.C_of_reads (d := ByteArray.empty) ⟨hlen, by unfold maxLen at hm; omega, fun _ => ⟨x, rfl, fun j hj => ?_⟩⟩, hl, fun s hs => hsz s (List.mem_of_mem_take hs)⟩
    rw [take_at _ _ _ _ hj]
    exact hcell j (by simp only [if_true] at hz; omega)

theorem row_ints {H : Type} {enc : TypeId × Value → H} {P : Program} {w : World} {t e : TypeId} {k : IntKind} {A : Option Addr} {len cap : Nat} {d : DataW H} {ps : List MemPlace}
    (ht : P.underlying t = some (.slice e)) (he : P.underlying e = some (.int k)) (hc : P.cellsOf e = 1)
    (h : DataW.Trod enc P w 0 (fun _ => true) true t (.slice A len cap) d ps) : ∃ zs : List Int, zs.length = len ∧ Kd.C (Kd.int k) w A len zs ∧ len ≤ cap ∧ ∀ n ∈ zs, (Lit.int k n).wf = true := by
  obtain ⟨fuel, hf⟩ := h
  rcases open_ints ht he hc hf with ⟨hcs, _⟩ | ⟨x, l, c, zs, hcs, _, hl, hm, hz, _, hcell, hsz⟩
  · simp [Value.cells] at hcs
    obtain ⟨rfl, rfl, rfl⟩ := hcs
    exact ⟨[], rfl, Kd.C_nil _ _, Nat.le_refl _, fun s hs => by cases hs⟩
  · simp [Value.cells] at hcs
    obtain ⟨rfl, rfl, rfl⟩ := hcs
    have hlen : (zs.take len).length = len := by
      rw [List.length_take]
      simp only [if_true] at hz
      omega
    refine ⟨zs.take len, hlen, Kd.C_of_reads (d := 0) ⟨hlen, by unfold maxLen at hm; omega, fun _ => ⟨x, rfl, fun j hj => ?_⟩⟩, hl, fun s hs => hsz s (List.mem_of_mem_take hs)⟩
    rw [take_at _ _ _ _ hj]
    exact hcell j (by simp only [if_true] at hz; omega)

theorem cell_strings {H : Type} {enc : TypeId × Value → H} {P : Program} {w : World} {t e : TypeId} {cs : List Value} {fuel : Nat} {x : DataW H × List MemPlace}
    (ht : P.underlying t = some (.slice e)) (he : P.underlying e = some .string) (hc : P.cellsOf e = 1)
    (hf : DataW.trod enc P w 0 (fun _ => true) true fuel t cs = some x) : ∃ (A : Option Addr) (cap : Nat) (ss : List ByteArray), cs = [.slice A ss.length cap] ∧ Kd.C Kd.string w A ss.length ss ∧ ss.length ≤ cap ∧ ∀ s ∈ ss, s.size ≤ maxLen := by
  rcases open_strings ht he hc hf with ⟨hcs, _⟩ | ⟨a, len, cap, zs, hcs, _, hl, hm, hz, _, hcell, hsz⟩
  · exact ⟨none, 0, [], hcs, Kd.C_nil _ _, Nat.le_refl _, fun s hs => by cases hs⟩
  · have hlen : (zs.take len).length = len := by
      rw [List.length_take]
      simp only [if_true] at hz
      omega
    refine ⟨some a, cap, zs.take len, by rw [hlen]; exact hcs, Kd.C_of_reads (d := ByteArray.empty) ⟨rfl, by rw [hlen]; unfold maxLen at hm; omega, fun _ => ⟨a, rfl, fun j hj => ?_⟩⟩, by omega, fun s hs => hsz s (List.mem_of_mem_take hs)⟩
    rw [take_at _ _ _ _ (by omega)]
    exact hcell j (by simp only [if_true] at hz; omega)

open Classical in
theorem row_rows {H : Type} {enc : TypeId × Value → H} {P : Program} {w : World} {t t2 e : TypeId} {A : Option Addr} {len cap : Nat} {d : DataW H} {ps : List MemPlace}
    (ht : P.underlying t = some (.slice t2)) (ht2 : P.underlying t2 = some (.slice e)) (he : P.underlying e = some .string) (hc2 : P.cellsOf t2 = 1) (hc : P.cellsOf e = 1)
    (h : DataW.Trod enc P w 0 (fun _ => true) true t (.slice A len cap) d ps) : ∃ l : List (List ByteArray), l.length = len ∧ Kd.C (Kd.slice 9 Kd.string) w A len l ∧ len ≤ cap ∧ ∀ r ∈ l, ∀ s ∈ r, s.size ≤ maxLen := by
  obtain ⟨fuel, hf⟩ := h
  rcases DataW.trod_slice ht hf with ⟨hcs, _⟩ | ⟨a, l, c, elems, rest, n, _, hcs, _, _, hl, hm, hlen, hel, _, _⟩
  · simp [Value.cells] at hcs
    obtain ⟨rfl, rfl, rfl⟩ := hcs
    exact ⟨[], rfl, Kd.C_nil _ _, Nat.le_refl _, fun s hs => by cases hs⟩
  · simp [Value.cells] at hcs
    obtain ⟨rfl, rfl, rfl⟩ := hcs
    have one : ∀ i : Fin len, ∃ ss : List ByteArray, (∃ (A : Option Addr) (cap : Nat), w.cell? (a.add i.1) = some (.slice A ss.length cap) ∧ ss.length ≤ cap ∧ Kd.C Kd.string w A ss.length ss) ∧ ∀ s ∈ ss, s.size ≤ maxLen := by
      intro i
      have h1 := hel i.1 i.2
      rw [List.getElem?_eq_getElem (by omega), hc2, Nat.mul_one] at h1
      obtain ⟨cs, h2, h3⟩ := Option.bind_eq_some_iff.1 h1
      obtain ⟨A, cap, ss, rfl, hC, hle, hs⟩ := cell_strings ht2 he hc h3
      exact ⟨ss, ⟨A, cap, cell_of_cells?_one h2, hle, hC⟩, hs⟩
    refine ⟨List.ofFn (fun i : Fin len => (one i).choose), List.length_ofFn, ⟨List.length_ofFn, by unfold maxLen at hm; omega, fun _ => ⟨a, rfl, fun j p hj => ?_⟩⟩, hl, fun r hr => ?_⟩
    · obtain ⟨hj1, hj2⟩ := List.getElem?_eq_some_iff.1 hj
      rw [List.length_ofFn] at hj1
      rw [List.getElem_ofFn] at hj2
      obtain ⟨⟨A, cap, h1, h2, h3⟩, _⟩ := (one ⟨j, hj1⟩).choose_spec
      rw [hj2] at h1 h2 h3
      refine ⟨[.slice A p.length cap], rfl, ⟨A, cap, rfl, h2, h3⟩, fun i u hu => ?_⟩
      cases i with
      | zero =>
        have : Value.slice A p.length cap = u := by simpa using hu
        subst this
        simpa [Kd.slice] using h1
      | succ i => simp at hu
    · obtain ⟨i, rfl⟩ := (List.mem_ofFn).1 hr
      exact (one i).choose_spec.2
end Go.Proofs.YtenjohemplgnmaaDoor.P
