/- The program's sets of any words are the document's. -/
import Derived.Test.YtenjohemplgnmaaDoorPureWordsAll
import Derived.Test.YtenjohemplgnmaaDoorGRefSets
namespace Go.Proofs.YtenjohemplgnmaaDoor.P
open Go.RowKit Go.Proofs.YtenjohemplgnmaaDoorW.PrintWords Go.Proofs.YtenjohemplgnmaaDoorW.PrintLast

set_option linter.unusedSimpArgs false

/-- The sets of words: those told so far, and the row of the one that is open. -/
def setsW : List S35 → List (List S35) → Option (List S35) → List (List S35) × Bool
  | [], out, none => (out, true)
  | [], _, some _ => ([], false)
  | x :: l, out, none => if x.f2.toList = [91] then setsW l out (some []) else if x.f2.toList = [93] then ([], false) else setsW l (out ++ [[x]]) none
  | x :: l, out, some row => if x.f2.toList = [91] then ([], false) else if x.f2.toList = [93] then setsW l (out ++ [row]) none else setsW l out (some (row ++ [x]))

theorem conv_f2 (x : S35) : (conv x).f2 = x.f2 := rfl

theorem setsFrom_none (l : List S35) : ∀ (out : List (List S35)), (∀ row, setsFrom (l.map conv) (out.map (List.map conv)) false row = ((setsW l out none).1.map (List.map conv), (setsW l out none).2)) ∧
    (∀ row, setsFrom (l.map conv) (out.map (List.map conv)) true (row.map conv) = ((setsW l out (some row)).1.map (List.map conv), (setsW l out (some row)).2)) := by
  induction l with
  | nil =>
    intro out
    exact ⟨fun row => by simp [setsFrom, setsW], fun row => by simp [setsFrom, setsW]⟩
  | cons x l ih =>
    intro out
    refine ⟨fun row => ?_, fun row => ?_⟩
    · simp only [List.map_cons, setsFrom, setsW, conv_f2]
      by_cases h1 : x.f2.toList = [91]
      · simp only [h1, if_true]
        exact (ih out).2 []
      · by_cases h2 : x.f2.toList = [93]
        · simp [h1, h2]
        · simp only [h1, h2, if_false]
          have := (ih (out ++ [[x]])).1 row
          rw [List.map_append] at this
          simpa using this
    · simp only [List.map_cons, setsFrom, setsW, conv_f2]
      by_cases h1 : x.f2.toList = [91]
      · simp [h1]
      · by_cases h2 : x.f2.toList = [93]
        · simp only [h1, h2, if_false, if_true]
          have := (ih (out ++ [row])).1 (row.map conv)
          rw [List.map_append] at this
          simpa [h1] using this
        · simp only [h1, h2, if_false, if_true]
          have := (ih out).2 (row ++ [x])
          rw [List.map_append] at this
          simpa using this

theorem refSets_is (l : List S35) (h : l.length < 100000) : R05_Sets.f (l.map conv) = some ((setsW l [] none).1.map (List.map conv), (setsW l [] none).2) := by
  unfold R05_Sets.f
  rw [if_pos (by rw [List.length_map]; exact h)]
  exact congrArg some ((setsFrom_none l []).1 [])

theorem setsW_bd (B : Nat) : ∀ (l : List S35) (out : List (List S35)) (o : Option (List S35)), (∀ x ∈ out, x.length ≤ B) → (o.getD []).length + l.length + 1 ≤ B →
    (setsW l out o).1.length ≤ out.length + l.length ∧ ∀ x ∈ (setsW l out o).1, x.length ≤ B
  | [], out, none, h, _ => ⟨Nat.le_refl _, h⟩
  | [], out, some _, h, _ => ⟨Nat.zero_le _, fun x hx => by cases hx⟩
  | x :: l, out, none, h, hB => by
    simp only [Option.getD_none, List.length_nil, List.length_cons] at hB
    unfold setsW
    split
    · have := setsW_bd B l out (some []) h (by simp only [Option.getD_some, List.length_nil]; omega)
      exact ⟨by have := this.1; simp only [List.length_cons]; omega, this.2⟩
    · split
      · exact ⟨Nat.zero_le _, fun x hx => by cases hx⟩
      · have := setsW_bd B l (out ++ [[x]]) none (fun y hy => by
          rcases List.mem_append.1 hy with hy | hy
          · exact h y hy
          · rw [List.mem_singleton.1 hy]; simp only [List.length_cons, List.length_nil]; omega) (by simp only [Option.getD_none, List.length_nil]; omega)
        exact ⟨by have := this.1; simp only [List.length_append, List.length_cons, List.length_nil] at this ⊢; omega, this.2⟩
  | x :: l, out, some row, h, hB => by
    simp only [Option.getD_some, List.length_cons] at hB
    unfold setsW
    split
    · exact ⟨Nat.zero_le _, fun x hx => by cases hx⟩
    · split
      · have := setsW_bd B l (out ++ [row]) none (fun y hy => by
          rcases List.mem_append.1 hy with hy | hy
          · exact h y hy
          · rw [List.mem_singleton.1 hy]; omega) (by simp only [Option.getD_none, List.length_nil]; omega)
        exact ⟨by have := this.1; simp only [List.length_append, List.length_cons, List.length_nil] at this ⊢; omega, this.2⟩
      · have := setsW_bd B l out (some (row ++ [x])) h (by simp only [Option.getD_some, List.length_append, List.length_cons, List.length_nil]; omega)
        exact ⟨by have := this.1; simp only [List.length_cons]; omega, this.2⟩

theorem words_sets_ev (full : List S35) (hl : full.length < 100000) : ∀ d i, i + d = full.length → ∀ out : List (List S35), out.length ≤ i →
    Ev (fun k => words_Sets.l0 k full out (-1) full (full.length : Int) (i : Int)) (setsW (full.drop i) out none) ∧
    (∀ j : Nat, j < i → Ev (fun k => words_Sets.l0 k full out (j : Int) full (full.length : Int) (i : Int)) (setsW (full.drop i) out (some ((full.take i).drop (j + 1))))) := by
  intro d
  induction d with
  | zero =>
    intro i hi out ho
    have h1 : ¬ ((i : Int) < (full.length : Int)) := by omega
    have hd : full.drop i = [] := List.drop_eq_nil_of_le (by omega)
    rw [hd]
    refine ⟨?_, fun j hj => ?_⟩
    · refine evs ?_
      simp only [words_Sets.l0, h1, if_false, setsW]
      exact Ev.now _
    · refine evs ?_
      have h2 : (j : Int) ≥ 0 := by omega
      simp only [words_Sets.l0, h1, if_false, h2, if_true, setsW]
      exact Ev.now _
  | succ d ih =>
    intro i hi out ho
    have hlt : i < full.length := by omega
    have h0 : (0 : Int) ≤ (i : Int) := by omega
    have h1 : ((i : Int) < (full.length : Int)) := by omega
    have r0 : rd_T35 full (i : Int) = full[i] := rd_at full _ i hlt
    have hd : full.drop i = full[i] :: full.drop (i + 1) := List.drop_eq_getElem_cons hlt
    have hlen : out.length < 5864062014805 := by omega
    rw [hd]
    have hA := ih (i + 1) (by omega) out (by omega)
    have hT : full.take (i + 1) = full.take i ++ [full[i]] := by rw [List.take_add_one, List.getElem?_eq_getElem hlt]; rfl
    refine ⟨?_, fun j hj => ?_⟩
    · refine evs ?_
      simp only [words_Sets.l0, h0, h1, if_true, r0]
      unfold setsW
      by_cases c1 : (full[i]).f2.toList = [91]
      · simp only [c1, if_true]
        refine evs ?_
        simp only [words_Sets.j1, show decide ((-1 : Int) < 0) = true from rfl, if_true, wrapc i (by omega)]
        have := hA.2 i (by omega)
        have hN : (full.take i ++ [full[i]]).drop (i + 1) = [] := List.drop_eq_nil_of_le (by rw [List.length_append, List.length_take]; simp only [List.length_cons, List.length_nil]; omega)
        rw [hT, hN] at this
        exact this
      · simp only [c1, if_false]
        refine evs ?_
        by_cases c2 : (full[i]).f2.toList = [93]
        · simp only [words_Sets.j1, c2, if_true, if_false, show decide ((-1 : Int) ≥ 0) = false from rfl, Bool.false_eq_true]
          refine evs ?_
          simp only [words_Sets.j2, c1, c2, if_true, if_false, Bool.false_eq_true, show (([93] : List UInt8) == [93]) = true from rfl, show ¬ (([93] : List UInt8) = [91]) by decide]
          refine evs ?_
          simp only [words_Sets.j3, if_true]
          exact Ev.now _
        · have c3 : ((full[i]).f2.toList == ([93] : List UInt8)) = false := beq_eq_false_iff_ne.mpr c2
          simp only [words_Sets.j1, c2, if_false, Bool.false_eq_true]
          refine evs ?_
          simp only [words_Sets.j2, c1, c3, if_false, Bool.false_eq_true]
          refine evs ?_
          simp only [words_Sets.j3, if_false, Bool.false_eq_true, show ((-1 : Int) < 0) from by decide, if_true, hlen, wrapc i (by omega)]
          exact (ih (i + 1) (by omega) (out ++ [[full[i]]]) (by simp only [List.length_append, List.length_cons, List.length_nil]; omega)).1
    · refine evs ?_
      simp only [words_Sets.l0, h0, h1, if_true, r0]
      unfold setsW
      have hj0 : ¬ ((j : Int) < 0) := by omega
      have hj1 : (j : Int) ≥ 0 := by omega
      by_cases c1 : (full[i]).f2.toList = [91]
      · simp only [c1, if_true]
        refine evs ?_
        simp only [words_Sets.j1, c1, decide_eq_false hj0, if_false, Bool.false_eq_true, show ¬ (([91] : List UInt8) = [93]) by decide]
        refine evs ?_
        simp only [words_Sets.j2, c1, if_false, if_true, Bool.false_eq_true]
        refine evs ?_
        simp only [words_Sets.j3, if_true]
        exact Ev.now _
      · simp only [c1, if_false]
        refine evs ?_
        by_cases c2 : (full[i]).f2.toList = [93]
        · have w1 : wrap64 ((j : Int) + 1) = ((j + 1 : Nat) : Int) := wrapc j (by omega)
          have h5 : (0 : Int) ≤ ((j + 1 : Nat) : Int) := by omega
          have h6 : ((j + 1 : Nat) : Int) ≤ (i : Int) := by omega
          have h7 : (i : Int) ≤ (full.length : Int) := by omega
          have h8 : ((full.take i).drop (j + 1)).length < 4398046511104 := by rw [List.length_drop, List.length_take]; omega
          simp only [words_Sets.j1, c2, if_true, if_false, decide_eq_true hj1, Bool.false_eq_true]
          refine evs ?_
          simp only [words_Sets.j2, w1, h5, h6, h7, if_true, words_Word.f, Int.toNat_natCast, h8, Option.bind_some, hlen, wrapc i (by omega)]
          exact (ih (i + 1) (by omega) (out ++ [(full.take i).drop (j + 1)]) (by simp only [List.length_append, List.length_cons, List.length_nil]; omega)).1
        · have c3 : ((full[i]).f2.toList == ([93] : List UInt8)) = false := beq_eq_false_iff_ne.mpr c2
          simp only [words_Sets.j1, c2, if_false, Bool.false_eq_true]
          refine evs ?_
          simp only [words_Sets.j2, c1, c3, if_false, Bool.false_eq_true]
          refine evs ?_
          simp only [words_Sets.j3, if_false, Bool.false_eq_true, hj0, wrapc i (by omega)]
          have := hA.2 j (by omega)
          rw [hT, List.drop_append_of_le_length (by rw [List.length_take]; omega)] at this
          exact this

theorem words_sets (l : List S35) (hl : l.length < 100000) : Ev (fun k => words_Sets.f k l) (setsW l [] none) :=
  (words_sets_ev l hl l.length 0 (by omega) [] (Nat.le_refl _)).1
end Go.Proofs.YtenjohemplgnmaaDoor.P
