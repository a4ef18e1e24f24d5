/- Which texts are names, and which numbers, and what these are: the program's answers are the document's, for every text of 300 bytes at most. -/
import Derived.Test.YtenjohemplgnmaaDoorPx11
import Derived.Test.YtenjohemplgnmaaDoorHNum
namespace Go.Proofs.YtenjohemplgnmaaDoor.P
open Go.RowKit Go.Proofs.YtenjohemplgnmaaDoorW.PrintWords Go.Proofs.YtenjohemplgnmaaDoorW.PrintLast
set_option linter.unusedVariables false
set_option linter.unusedSimpArgs false

theorem letter_tell (c : Int) : R05_letter.f c = some (letterB c) := by
  unfold R05_letter.f letterB
  by_cases h1 : c ≥ 65 <;> by_cases h2 : c ≤ 90 <;> by_cases h3 : c ≥ 97 <;> by_cases h4 : c ≤ 122 <;> by_cases h5 : c = 95 <;> simp [h1, h2, h3, h4, h5] <;> (try omega)
theorem digit_tell (c : Int) : R05_digit.f c = some (decide (48 ≤ c ∧ c ≤ 57)) := by
  unfold R05_digit.f
  by_cases h1 : c ≥ 48
  · rw [if_pos h1]
    simp [show (48 : Int) ≤ c from h1]
  · rw [if_neg h1, decide_eq_false (by omega)]

/-- P5.2's names. -/
def nameOf (s : ByteArray) : Bool := decide (1 ≤ s.size ∧ s.size ≤ 16) && nameFrom s s.size 0

theorem name_loop (s : ByteArray) (hs : s.size < 4294967296) : ∀ n i, i + n = s.size →
    Ev (fun k => R05_Name.l0 k s (i : Int)) (decide (1 ≤ s.size ∧ s.size ≤ 16) && nameFrom s n i) := by
  intro n
  induction n with
  | zero =>
    intro i hi
    refine evs ?_
    simp only [R05_Name.l0]
    have h1 : ¬ ((i : Int) < (s.size : Int)) := by omega
    simp only [h1, if_false, nameFrom, Bool.and_true]
    by_cases h0 : (s.size : Int) > 0
    · have e : decide (1 ≤ s.size ∧ s.size ≤ 16) = decide ((s.size : Int) ≤ 16) := by
        rw [decide_eq_decide]
        omega
      simp only [h0, if_true, e]
      exact Ev.now _
    · have e : decide (1 ≤ s.size ∧ s.size ≤ 16) = false := decide_eq_false (by omega)
      simp only [h0, if_false, e]
      exact Ev.now _
  | succ n ih =>
    intro i hi
    refine evs ?_
    simp only [R05_Name.l0]
    have h1 : ((i : Int) < (s.size : Int)) := by omega
    have h2 : (0 : Int) ≤ (i : Int) := by omega
    simp only [h1, h2, if_true, letter_tell, digit_tell, Option.bind_some, wrapc i (by omega)]
    have next := ih (i + 1) (by omega)
    show Ev _ (_ && (if (letterB (bt s i) || (decide (0 < i) && innerB (bt s i))) = true then nameFrom s n (i + 1) else false))
    have no : ∀ (a b : Bool), b = false → (a && b) = false := fun a b h => by rw [h, Bool.and_false]
    cases hl : letterB (bt s i) with
    | true =>
      simp only [Bool.true_or, if_true]
      exact next
    | false =>
      simp only [Bool.false_eq_true, if_false, Bool.false_or]
      by_cases hi0 : i = 0
      · have h3 : (i : Int) = 0 := by omega
        have h4 : decide (0 < i) = false := decide_eq_false (by omega)
        simp only [h3, h4, Bool.false_and, Bool.false_eq_true, if_true, if_false, Bool.and_false]
        exact Ev.now _
      · have h3 : ¬ (i : Int) = 0 := by omega
        have h4 : decide (0 < i) = true := decide_eq_true (by omega)
        simp only [h3, h4, Bool.true_and, if_false]
        unfold innerB
        rw [hl, Bool.false_or]
        cases hd : decide (48 ≤ bt s (i : Int) ∧ bt s (i : Int) ≤ 57) with
        | true =>
          simp only [Bool.true_or, if_true]
          exact next
        | false =>
          simp only [Bool.false_or, Bool.false_eq_true, if_false]
          by_cases h45 : bt s (i : Int) = 45
          · have h5 : (bt s (i : Int) == 45) = true := by simp [h45]
            simp only [h5, h45, if_true]
            exact next
          · have h5 : (bt s (i : Int) == 45) = false := by simp [h45]
            simp only [h5, h45, Bool.false_eq_true, if_false, Bool.and_false]
            exact Ev.now _

theorem name_ref (s : ByteArray) (hs : s.size < 4294967296) : Ev (fun k => R05_Name.f k s) (nameOf s) := name_loop s hs s.size 0 (by omega)

/-- No number is a name. -/
theorem not_both (s : ByteArray) (h : (numOf s).2 = true) : nameOf s = false := by
  unfold nameOf
  cases hd : s.data.toList with
  | nil =>
    have : s.size = 0 := by
      have hl : s.data.toList.length = s.size := Array.length_toList
      rw [hd] at hl
      simp at hl
      omega
    rw [decide_eq_false (by omega), Bool.false_and]
  | cons b r =>
    have hb0 : bt s ((0 : Nat) : Int) = (b.toNat : Int) := bt_list s 0 b (by rw [hd]; rfl)
    have hsz : ∃ n, s.size = n + 1 := by
      have hl : s.data.toList.length = s.size := Array.length_toList
      rw [hd] at hl
      exact ⟨r.length, by simpa using hl.symm⟩
    obtain ⟨n, hn⟩ := hsz
    have hc : b.toNat = 45 ∨ (48 ≤ b.toNat ∧ b.toNat ≤ 57) := by
      by_cases hb : b = 45
      · subst hb; exact .inl rfl
      · right
        unfold numOf at h
        split at h
        · split at h
          · next m hm =>
            have hu : unsignedL s = b :: r := by
              unfold unsignedL Lib.trimPrefix Lib.hasPrefix
              rw [hd]
              have : ([45] : List UInt8).isPrefixOf (b :: r) = false := by
                simp [List.isPrefixOf]
                exact fun e => hb e.symm
              rw [this]
              rfl
            rw [hu] at hm
            by_cases hdig : 48 ≤ b.toNat ∧ b.toNat ≤ 57
            · exact hdig
            · rw [Lib.decFrom, dig_no b hdig] at hm
              cases hm
          · cases h
        · cases h
    rw [hn]
    show (_ && (if (letterB (bt s ((0 : Nat) : Int)) || (decide (0 < 0) && innerB (bt s ((0 : Nat) : Int)))) = true then _ else false)) = false
    have hl : letterB (bt s ((0 : Nat) : Int)) = false := by
      rw [hb0]
      unfold letterB
      rw [decide_eq_false (by omega), decide_eq_false (by omega), beq_eq_false_iff_ne.2 (by omega), beq_eq_false_iff_ne.2 (by omega)]
      rfl
    rw [hl]
    simp

end Go.Proofs.YtenjohemplgnmaaDoor.P
namespace Go.Proofs.YtenjohemplgnmaaDoor.Pure
open Go.RowKit Go.Proofs.YtenjohemplgnmaaDoor.P Go.Proofs.YtenjohemplgnmaaDoorW.PrintWords Go.Proofs.YtenjohemplgnmaaDoorW.PrintLast

theorem few_some (s : ByteArray) : ∃ t, L05_few.f s = some t ∧ t.size ≤ 300 := by
  unfold L05_few.f
  have h1 : mn (s.size : Int) 300 = ((min s.size 300 : Nat) : Int) := by unfold mn; omega
  rw [h1, if_pos (by omega), if_pos (by omega), Int.toNat_natCast]
  exact ⟨_, rfl, by rw [ByteArray.size_extract]; omega⟩

theorem WordsKinds : L05_WordsKinds.Pure := by
  intro s hs
  obtain ⟨t, ht, hsz⟩ := few_some s
  have hN := number_tell t (by omega)
  have hM : words_Name.f t = some (nameOf t) := rfl
  refine Ev.rounds (g := fun k => L05_WordsKinds.f k s) ?_
  unfold L05_WordsKinds.f
  refine Ev.bind shown_true ?_
  simp only [ht, hN, hM, Option.bind_some]
  refine Ev.bind (number_ref t (by omega)) ?_
  simp only [if_true, beq_self_eq_true]
  refine Ev.bind (name_ref t (by omega)) ?_
  simp only [if_true, beq_self_eq_true]
  cases h : (numOf t).2 with
  | true =>
    rw [not_both t h]
    exact Ev.now _
  | false => exact Ev.now _

end Go.Proofs.YtenjohemplgnmaaDoor.Pure
