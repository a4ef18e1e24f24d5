/- The program's words of any source are the document's: every source of 300 bytes at most, line by line. -/
import Derived.Test.YtenjohemplgnmaaDoorPx6
import Derived.Test.YtenjohemplgnmaaDoorHLines
namespace Go.Proofs.YtenjohemplgnmaaDoor.P
open Go.RowKit Go.Proofs.YtenjohemplgnmaaDoorW.PrintWords Go.Proofs.YtenjohemplgnmaaDoorW.PrintLast

theorem rd_at {α : Type} (xs : List α) (z : α) (i : Nat) (h : i < xs.length) : xs.getD (i : Int).toNat z = xs[i] := by
  rw [Int.toNat_natCast, List.getD_eq_getElem?_getD, List.getElem?_eq_getElem h]
  rfl

theorem same_row (a : List (List S35)) (i : Nat) (hi : i < a.length) (hw : (a[i]).length < 9223372036854775807) (hn : Ev (fun k => L05_same.l0 k a (a.map (List.map conv)) ((i + 1 : Nat) : Int)) true) (hl : a.length < 9223372036854775807) :
    ∀ d j, j + d = a[i].length → Ev (fun k => L05_same.l1 k a (a.map (List.map conv)) (i : Int) (j : Int)) true := by
  have r0 : rd_L5 a (i : Int) = a[i] := rd_at a _ i hi
  have r1 : rd_L7 (a.map (List.map conv)) (i : Int) = a[i].map conv := by
    unfold rd_L7
    rw [rd_at _ _ i (by rw [List.length_map]; exact hi), List.getElem_map]
  have h0 : (0 : Int) ≤ (i : Int) := by omega
  have h1 : (i : Int) < (a.length : Int) := by omega
  have h2 : (i : Int) < ((a.map (List.map conv)).length : Int) := by rw [List.length_map]; omega
  intro d
  induction d with
  | zero =>
    intro j hj
    refine evs ?_
    simp only [L05_same.l1]
    have h3 : ¬ (j : Int) < ((a[i]).length : Int) := by omega
    simp only [h0, h1, r0, h3, if_true, if_false, wrapc i (by omega)]
    exact hn
  | succ d ih =>
    intro j hj
    refine evs ?_
    simp only [L05_same.l1]
    have hjl : j < a[i].length := by omega
    have h3 : (j : Int) < ((a[i]).length : Int) := by omega
    have h4 : (0 : Int) ≤ (j : Int) := by omega
    have h5 : (j : Int) < ((a[i].map conv).length : Int) := by rw [List.length_map]; omega
    have e1 : rd_T35 a[i] (j : Int) = a[i][j] := rd_at _ _ j hjl
    have e2 : rd_T36 (a[i].map conv) (j : Int) = conv a[i][j] := by
      unfold rd_T36
      rw [rd_at _ _ j (by rw [List.length_map]; exact hjl), List.getElem_map]
    simp only [h0, h1, h2, r0, r1, h3, h4, h5, e1, e2, conv, if_true, wrapc j (by omega)]
    exact ih (j + 1) (by omega)

theorem same_loop (a : List (List S35)) (hl : a.length < 9223372036854775807) (hw : ∀ x ∈ a, x.length < 9223372036854775807) :
    ∀ d i, i + d = a.length → Ev (fun k => L05_same.l0 k a (a.map (List.map conv)) (i : Int)) true := by
  intro d
  induction d with
  | zero =>
    intro i hi
    refine evs ?_
    simp only [L05_same.l0]
    have h1 : ¬ (i : Int) < (a.length : Int) := by omega
    simp only [h1, if_false]
    exact Ev.now _
  | succ d ih =>
    intro i hi
    refine evs ?_
    simp only [L05_same.l0]
    have hlt : i < a.length := by omega
    have h0 : (0 : Int) ≤ (i : Int) := by omega
    have h1 : (i : Int) < (a.length : Int) := by omega
    have h2 : (i : Int) < ((a.map (List.map conv)).length : Int) := by rw [List.length_map]; omega
    have r0 : rd_L5 a (i : Int) = a[i] := rd_at a _ i hlt
    have r1 : rd_L7 (a.map (List.map conv)) (i : Int) = a[i].map conv := by
      unfold rd_L7
      rw [rd_at _ _ i (by rw [List.length_map]; exact hlt), List.getElem_map]
    have h3 : ((a[i]).length : Int) = ((a[i].map conv).length : Int) := by rw [List.length_map]
    simp only [h0, h1, h2, r0, r1, if_true, h3]
    exact same_row a i hlt (hw _ (List.getElem_mem hlt)) (ih (i + 1) (by omega)) hl a[i].length 0 (by omega)

theorem same_ev (a : List (List S35)) (hl : a.length < 9223372036854775807) (hw : ∀ x ∈ a, x.length < 9223372036854775807) : Ev (fun k => L05_same.f k a (a.map (List.map conv))) true := by
  unfold L05_same.f
  have h : (a.length : Int) = ((a.map (List.map conv)).length : Int) := by rw [List.length_map]
  simp only [← h, if_true]
  exact same_loop a hl hw a.length 0 (by omega)

theorem words_len (p : ByteArray) (line : Int) : (wordsOf p line).length ≤ p.size + 1 := by
  have h1 := ahead_size p
  have h2 := spl_bd (ahead p) line (ahead p).size
  have h3 := tk_len (ahead p) line (spl (ahead p) line (ahead p).size).1 (spl (ahead p) line (ahead p).size).2 (ahead p).size
  unfold wordsOf
  omega

theorem linesOf_bd (B : Nat) : ∀ (ps : List ByteArray) (n : Nat), (∀ p ∈ ps, p.size ≤ B) → (linesOf ps n).length ≤ ps.length ∧ ∀ x ∈ linesOf ps n, x.length ≤ B + 1
  | [], _, _ => ⟨Nat.le_refl _, fun x hx => by cases hx⟩
  | p :: ps, n, h => by
    have ⟨h1, h2⟩ := linesOf_bd B ps (n + 1) (fun q hq => h q (List.mem_cons_of_mem _ hq))
    unfold linesOf
    split
    · refine ⟨by simp only [List.length_cons]; omega, fun x hx => ?_⟩
      rcases List.mem_cons.1 hx with hx | hx
      · rw [hx]
        have := words_len p n
        have := h p List.mem_cons_self
        omega
      · exact h2 x hx
    · exact ⟨by simp only [List.length_cons]; omega, h2⟩

theorem few_tell (s : ByteArray) : ∃ t, L05_few.f s = some t ∧ t.size ≤ 300 ∧ t = s.extract 0 (min s.size 300) := by
  unfold L05_few.f
  have h1 : mn (s.size : Int) 300 = ((min s.size 300 : Nat) : Int) := by unfold mn; omega
  rw [h1, if_pos (by omega), if_pos (by omega), Int.toNat_natCast]
  exact ⟨_, rfl, by rw [ByteArray.size_extract]; omega, rfl⟩
end Go.Proofs.YtenjohemplgnmaaDoor.P
namespace Go.Proofs.YtenjohemplgnmaaDoor.Pure
open Go.RowKit Go.Proofs.YtenjohemplgnmaaDoor.P Go.Proofs.YtenjohemplgnmaaDoorW.PrintWords Go.Proofs.YtenjohemplgnmaaDoorW.PrintLast

theorem WordsAll : L05_WordsAll.Pure := by
  intro s hs
  obtain ⟨t, ht, hsz, _⟩ := few_tell s
  refine Ev.rounds (g := fun k => L05_WordsAll.f k s) ?_
  unfold L05_WordsAll.f
  refine Ev.bind shown_true ?_
  simp only [if_true, ht, Option.bind_some]
  refine Ev.bind (lines_ev t (by omega)) ?_
  refine Ev.bind (ref_ev t (by omega)) ?_
  have hp := pcs_len t t.size 0 0
  have hb := linesOf_bd t.size (pcs t t.size 0 0) 1 (pcs_size t t.size 0 0)
  refine Ev.bind (same_ev (rowsOf t) (by unfold rowsOf; omega) (fun x hx => by have := hb.2 x hx; omega)) ?_
  exact Ev.now _

end Go.Proofs.YtenjohemplgnmaaDoor.Pure
