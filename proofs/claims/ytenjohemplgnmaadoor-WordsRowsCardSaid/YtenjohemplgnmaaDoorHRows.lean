/- Sets written with brackets are read as they are; with one bracket more they are wrong: plain. -/
import Derived.Test.YtenjohemplgnmaaDoorHSets
import Derived.Test.YtenjohemplgnmaaDoorHTame
namespace Go.Proofs.YtenjohemplgnmaaDoor.P
open Go.RowKit Go.Proofs.YtenjohemplgnmaaDoorW.PrintWords Go.Proofs.YtenjohemplgnmaaDoorW.PrintLast
set_option linter.unusedSimpArgs false

def opener : S35 := ⟨0, 0, ⟨#[91]⟩⟩
def closer : S35 := ⟨0, 0, ⟨#[93]⟩⟩
theorem opener_is : opener.f2.toList = [91] := by unfold opener; rw [Lib.toList_data]
theorem closer_is : closer.f2.toList = [93] := by unfold closer; rw [Lib.toList_data]

/-- No bracket. -/
def Plain (x : S35) : Prop := x.f2.toList ≠ [91] ∧ x.f2.toList ≠ [93]

/-- Of one word: how many brackets open, how many close. -/
def opens : List S35 → Nat
  | [] => 0
  | x :: l => (if x.f2.toList = [91] then 1 else 0) + opens l
def closes : List S35 → Nat
  | [] => 0
  | x :: l => (if x.f2.toList = [93] then 1 else 0) + closes l
theorem opens_app (a b : List S35) : opens (a ++ b) = opens a + opens b := by
  induction a with
  | nil => simp [opens]
  | cons x a ih => simp only [List.cons_append, opens, ih, Nat.add_assoc]
theorem closes_app (a b : List S35) : closes (a ++ b) = closes a + closes b := by
  induction a with
  | nil => simp [closes]
  | cons x a ih => simp only [List.cons_append, closes, ih, Nat.add_assoc]

theorem sets_even : ∀ (l : List S35) (out : List (List S35)) (o : Option (List S35)), (setsW l out o).2 = true → opens l + (if o.isSome = true then 1 else 0) = closes l
  | [], _, none, _ => rfl
  | [], _, some _, h => by cases h
  | x :: l, out, none, h => by
    unfold setsW at h
    by_cases c1 : x.f2.toList = [91]
    · rw [if_pos c1] at h
      have := sets_even l _ _ h
      simp only [opens, closes, c1, if_true, show ¬ (([91] : List UInt8) = [93]) by decide, if_false, Option.isSome_some, Option.isSome_none, Bool.false_eq_true] at this ⊢
      omega
    · rw [if_neg c1] at h
      by_cases c2 : x.f2.toList = [93]
      · rw [if_pos c2] at h
        cases h
      · rw [if_neg c2] at h
        have := sets_even l _ _ h
        simp only [opens, closes, c1, c2, if_false, Option.isSome_none, Bool.false_eq_true] at this ⊢
        omega
  | x :: l, out, some row, h => by
    unfold setsW at h
    by_cases c1 : x.f2.toList = [91]
    · rw [if_pos c1] at h
      cases h
    · rw [if_neg c1] at h
      by_cases c2 : x.f2.toList = [93]
      · rw [if_pos c2] at h
        have := sets_even l _ _ h
        simp only [opens, closes, c2, if_true, if_false, show ¬ (([93] : List UInt8) = [91]) by decide, Option.isSome_some, Option.isSome_none, Bool.false_eq_true] at this ⊢
        omega
      · rw [if_neg c2] at h
        have := sets_even l _ _ h
        simp only [opens, closes, c1, c2, if_true, if_false, Option.isSome_some] at this ⊢
        omega

theorem sets_none : ∀ (l : List S35) (out : List (List S35)) (o : Option (List S35)), (setsW l out o).2 = false → setsW l out o = ([], false)
  | [], _, none, h => by cases h
  | [], _, some _, _ => rfl
  | x :: l, out, none, h => by
    unfold setsW at h ⊢
    by_cases c1 : x.f2.toList = [91]
    · rw [if_pos c1] at h ⊢
      exact sets_none l _ _ h
    · rw [if_neg c1] at h ⊢
      by_cases c2 : x.f2.toList = [93]
      · rw [if_pos c2]
      · rw [if_neg c2] at h ⊢
        exact sets_none l _ _ h
  | x :: l, out, some row, h => by
    unfold setsW at h ⊢
    by_cases c1 : x.f2.toList = [91]
    · rw [if_pos c1]
    · rw [if_neg c1] at h ⊢
      by_cases c2 : x.f2.toList = [93]
      · rw [if_pos c2] at h ⊢
        exact sets_none l _ _ h
      · rw [if_neg c2] at h ⊢
        exact sets_none l _ _ h

/-- One bracket more: wrong. -/
theorem sets_odd (l : List S35) (at_ : Nat) (x : S35) (h : (setsW l [] none).2 = true) (hx : x.f2.toList = [91] ∨ x.f2.toList = [93]) : setsW (l.take at_ ++ [x] ++ l.drop at_) [] none = ([], false) := by
  refine sets_none _ _ _ ?_
  have h1 := sets_even l [] none h
  rw [← List.take_append_drop at_ l, opens_app, closes_app] at h1
  cases hb : (setsW (l.take at_ ++ [x] ++ l.drop at_) [] none).2 with
  | false => rfl
  | true =>
    exfalso
    have h2 := sets_even _ [] none hb
    rw [opens_app, opens_app, closes_app, closes_app] at h2
    simp only [Option.isSome_none, Bool.false_eq_true, if_false] at h1 h2
    rcases hx with hx | hx
    · simp only [opens, closes, hx, if_true, if_false, show ¬ (([91] : List UInt8) = [93]) by decide] at h2
      omega
    · simp only [opens, closes, hx, if_true, if_false, show ¬ (([93] : List UInt8) = [91]) by decide] at h2
      omega

theorem sets_row : ∀ (ws : List S35) (rest : List S35) (out : List (List S35)) (row : List S35), (∀ x ∈ ws, Plain x) → setsW (ws ++ closer :: rest) out (some row) = setsW rest (out ++ [row ++ ws]) none
  | [], rest, out, row, _ => by
    rw [List.nil_append]
    conv => lhs; unfold setsW
    rw [closer_is, if_neg (by decide), if_pos rfl, List.append_nil]
  | x :: ws, rest, out, row, h => by
    have hx := h x List.mem_cons_self
    rw [List.cons_append]
    conv => lhs; unfold setsW
    rw [if_neg hx.1, if_neg hx.2, sets_row ws rest out (row ++ [x]) (fun y hy => h y (List.mem_cons_of_mem _ hy)), List.append_assoc]
    rfl

/-- The words of a row: in brackets, or, if it is one word, without. -/
theorem sets_item (ws : List S35) (b : Bool) (h : ∀ x ∈ ws, Plain x) (hb : b = false → ws.length = 1) (rest : List S35) (out : List (List S35)) :
    setsW ((if b = true then [opener] else []) ++ ws ++ (if b = true then [closer] else []) ++ rest) out none = setsW rest (out ++ [ws]) none := by
  cases b with
  | true =>
    simp only [if_true, List.append_assoc, List.cons_append, List.nil_append]
    conv => lhs; unfold setsW
    rw [opener_is, if_pos rfl, sets_row ws rest out [] h, List.nil_append]
  | false =>
    simp only [Bool.false_eq_true, if_false, List.append_nil, List.nil_append]
    obtain ⟨x, rfl⟩ := List.length_eq_one_iff.1 (hb rfl)
    have hx := h x List.mem_cons_self
    rw [List.cons_append, List.nil_append]
    conv => lhs; unfold setsW
    rw [if_neg hx.1, if_neg hx.2]

/-- Words that read as these sets, whatever stands behind. -/
def Goes (l : List S35) (rows : List (List S35)) : Prop := ∀ rest out, setsW (l ++ rest) out none = setsW rest (out ++ rows) none
theorem goes_nil : Goes [] [] := fun rest out => by simp
theorem goes_item {l : List S35} {rows : List (List S35)} (hg : Goes l rows) (ws : List S35) (b : Bool) (h : ∀ x ∈ ws, Plain x) (hb : b = false → ws.length = 1) :
    Goes (l ++ (if b = true then [opener] else []) ++ ws ++ (if b = true then [closer] else [])) (rows ++ [ws]) := by
  intro rest out
  have := sets_item ws b h hb rest (out ++ rows)
  rw [← List.append_assoc out rows, ← this, ← hg]
  simp only [List.append_assoc]
theorem goes_all {l : List S35} {rows : List (List S35)} (hg : Goes l rows) : setsW l [] none = (rows, true) := by
  have := hg [] []
  rw [List.append_nil, List.nil_append] at this
  rw [this]
  rfl

/-- A text's word. -/
noncomputable def wordOf (s : ByteArray) : S35 := ⟨0, 0, nameOf s⟩
noncomputable def rowOf (r : List ByteArray) : List S35 := (r.take 6).map wordOf
theorem row_plain (r : List ByteArray) (h : ∀ s ∈ r, s.size ≤ 9223372036854775807) : ∀ x ∈ rowOf r, Plain x := by
  intro x hx
  obtain ⟨s, hs, rfl⟩ := List.mem_map.1 hx
  exact (nameOf_ev s (h s (List.mem_of_mem_take hs))).2
end Go.Proofs.YtenjohemplgnmaaDoor.P
