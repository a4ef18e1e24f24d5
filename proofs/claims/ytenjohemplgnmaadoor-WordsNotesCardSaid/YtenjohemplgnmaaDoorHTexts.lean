/- texts says yes of rows of words with the same texts; tame as the walks ask for it: plain. -/
import Derived.Test.YtenjohemplgnmaaDoorPureWordsAll
import Derived.Test.YtenjohemplgnmaaDoorHTame
namespace Go.Proofs.YtenjohemplgnmaaDoor.P
open Go.RowKit Go.Proofs.YtenjohemplgnmaaDoorW.PrintWords Go.Proofs.YtenjohemplgnmaaDoorW.PrintLast
set_option linter.unusedSimpArgs false

/-- The same texts, whatever their places. -/
def Alike (a b : List (List S35)) : Prop := a.map (List.map S35.f2) = b.map (List.map S35.f2)

theorem alike_len {a b : List (List S35)} (h : Alike a b) : a.length = b.length := by
  have := congrArg List.length h
  rwa [List.length_map, List.length_map] at this
theorem alike_at {a b : List (List S35)} (h : Alike a b) (i : Nat) (hi : i < a.length) (hj : i < b.length) : a[i].map S35.f2 = b[i].map S35.f2 := by
  have h1 : (a.map (List.map S35.f2))[i]? = (b.map (List.map S35.f2))[i]? := congrArg (fun l => l[i]?) h
  rw [List.getElem?_map, List.getElem?_map, List.getElem?_eq_getElem hi, List.getElem?_eq_getElem hj] at h1
  exact Option.some.inj h1

theorem texts_row (a b : List (List S35)) (hab : Alike a b) (i : Nat) (hi : i < a.length) (hw : (a[i]).length < 9223372036854775807) (hn : Ev (fun k => L05_texts.l0 k a b ((i + 1 : Nat) : Int)) true) (hl : a.length < 9223372036854775807) :
    ∀ d j, j + d = a[i].length → Ev (fun k => L05_texts.l1 k a b (i : Int) (j : Int)) true := by
  have hib : i < b.length := by rw [← alike_len hab]; exact hi
  have hm := alike_at hab i hi hib
  have hml : a[i].length = b[i].length := by
    have := congrArg List.length hm
    rwa [List.length_map, List.length_map] at this
  have r0 : rd_L5 a (i : Int) = a[i] := rd_at a _ i hi
  have r1 : rd_L5 b (i : Int) = b[i] := rd_at b _ i hib
  have h0 : (0 : Int) ≤ (i : Int) := by omega
  have h1 : (i : Int) < (a.length : Int) := by omega
  have h2 : (i : Int) < (b.length : Int) := by omega
  intro d
  induction d with
  | zero =>
    intro j hj
    refine evs ?_
    simp only [L05_texts.l1]
    have h3 : ¬ (j : Int) < ((a[i]).length : Int) := by omega
    simp only [h0, h1, r0, h3, if_true, if_false, wrapc i (by omega)]
    exact hn
  | succ d ih =>
    intro j hj
    refine evs ?_
    simp only [L05_texts.l1]
    have hjl : j < a[i].length := by omega
    have hjb : j < b[i].length := by omega
    have h3 : (j : Int) < ((a[i]).length : Int) := by omega
    have h4 : (0 : Int) ≤ (j : Int) := by omega
    have h5 : (j : Int) < ((b[i]).length : Int) := by omega
    have e1 : rd_T35 a[i] (j : Int) = a[i][j] := rd_at _ _ j hjl
    have e2 : rd_T35 b[i] (j : Int) = b[i][j] := rd_at _ _ j hjb
    have e3 : a[i][j].f2 = b[i][j].f2 := by
      have h6 : (a[i].map S35.f2)[j]? = (b[i].map S35.f2)[j]? := congrArg (fun l => l[j]?) hm
      rw [List.getElem?_map, List.getElem?_map, List.getElem?_eq_getElem hjl, List.getElem?_eq_getElem hjb] at h6
      exact Option.some.inj h6
    simp only [h0, h1, h2, r0, r1, h3, h4, h5, e1, e2, e3, if_true, wrapc j (by omega)]
    exact ih (j + 1) (by omega)

theorem texts_loop (a b : List (List S35)) (hab : Alike a b) (hl : a.length < 9223372036854775807) (hw : ∀ x ∈ a, x.length < 9223372036854775807) :
    ∀ d i, i + d = a.length → Ev (fun k => L05_texts.l0 k a b (i : Int)) true := by
  intro d
  induction d with
  | zero =>
    intro i hi
    refine evs ?_
    simp only [L05_texts.l0]
    have h1 : ¬ (i : Int) < (a.length : Int) := by omega
    simp only [h1, if_false]
    exact Ev.now _
  | succ d ih =>
    intro i hi
    refine evs ?_
    simp only [L05_texts.l0]
    have hlt : i < a.length := by omega
    have hib : i < b.length := by rw [← alike_len hab]; exact hlt
    have hm := alike_at hab i hlt hib
    have hml : (a[i].length : Int) = (b[i].length : Int) := by
      have := congrArg List.length hm
      rw [List.length_map, List.length_map] at this
      omega
    have h0 : (0 : Int) ≤ (i : Int) := by omega
    have h1 : (i : Int) < (a.length : Int) := by omega
    have h2 : (i : Int) < (b.length : Int) := by omega
    have r0 : rd_L5 a (i : Int) = a[i] := rd_at a _ i hlt
    have r1 : rd_L5 b (i : Int) = b[i] := rd_at b _ i hib
    simp only [h0, h1, h2, r0, r1, if_true, hml]
    exact texts_row a b hab i hlt (hw _ (List.getElem_mem hlt)) (ih (i + 1) (by omega)) hl a[i].length 0 (by omega)

theorem texts_ev (a b : List (List S35)) (hab : Alike a b) (hl : a.length < 9223372036854775807) (hw : ∀ x ∈ a, x.length < 9223372036854775807) : Ev (fun k => L05_texts.f k a b) true := by
  unfold L05_texts.f
  have h : (a.length : Int) = (b.length : Int) := by rw [alike_len hab]
  simp only [h, if_true]
  exact texts_loop a b hab hl hw a.length 0 (by omega)

theorem tame_tells (s : ByteArray) (hs : s.size ≤ 9223372036854775807) (W : World) : Calls Tryd.prog 19 #[.string s] W fun e w' => e = .returned (.string (tameOf s)) ∧ Drawn0 W w' := by
  obtain ⟨k, hk⟩ := (tameOf_ev s hs).1.rounds
  exact L05_tame.calls k s (tameOf s) W hk
theorem shown_tells3 (W : World) : Calls Tryd.prog 12 #[] W fun e w' => e = .returned (.bool true) ∧ Below W.heap.size W w' := by
  obtain ⟨k, hk⟩ := shown_true.rounds
  exact L05_shown.calls k true W hk
end Go.Proofs.YtenjohemplgnmaaDoor.P
