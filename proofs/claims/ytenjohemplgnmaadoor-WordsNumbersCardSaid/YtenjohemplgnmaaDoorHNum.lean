/- What number a text is: the program's answer and the reference's are one. -/
import Derived.Test.YtenjohemplgnmaaDoorHOne
import Derived.Test.YtenjohemplgnmaaDoorGNumber
import Derived.Test.YtenjohemplgnmaaDoorGName
import Derived.Test.YtenjohemplgnmaaDoorPx10
namespace Go.Proofs.YtenjohemplgnmaaDoor.P
open Go.RowKit Go.Proofs.YtenjohemplgnmaaDoorW.PrintWords Go.Proofs.YtenjohemplgnmaaDoorW.PrintLast
set_option linter.unusedVariables false
set_option linter.unusedSimpArgs false

def signedB (s : ByteArray) : Bool := decide (s.data.toList.head? = some 45)
/-- P5.2's number. -/
def numOf (s : ByteArray) : Int × Bool :=
  if 1 ≤ (unsignedL s).length ∧ (unsignedL s).length ≤ 9 then
    match Lib.decFrom 0 (unsignedL s) with
    | some m => (if signedB s = true then -(m : Int) else (m : Int), true)
    | none => (0, false)
  else (0, false)

theorem dec_all : ∀ (l : List UInt8) (acc : Nat), (Lib.decFrom acc l).isSome = l.all (fun b => digitsL.contains b)
  | [], acc => rfl
  | b :: r, acc => by
    have hb : ∀ b : UInt8, (digitsL.contains b = true) ↔ (48 ≤ b.toNat ∧ b.toNat ≤ 57) := by
      intro b
      unfold digitsL
      simp only [List.contains_cons, List.contains_nil, Bool.or_false, Bool.or_eq_true, beq_iff_eq, ← UInt8.toNat_inj]
      simp
      omega
    unfold Lib.decFrom Lib.digitVal
    by_cases h : 48 ≤ b.toNat ∧ b.toNat ≤ 57
    · rw [if_pos h]
      simp only [List.all_cons, (hb b).2 h, Bool.true_and]
      exact dec_all r _
    · rw [if_neg h]
      have : digitsL.contains b = false := by
        cases hc : digitsL.contains b with
        | true => exact absurd ((hb b).1 hc) h
        | false => rfl
      simp only [List.all_cons, this, Bool.false_and]
      rfl

theorem dw_all {α : Type} (p : α → Bool) : ∀ l : List α, (∀ x ∈ l, p x = true) → l.dropWhile p = []
  | [], _ => rfl
  | a :: l, h => by
    rw [List.dropWhile_cons_of_pos (h a List.mem_cons_self)]
    exact dw_all p l (fun x hx => h x (List.mem_cons_of_mem _ hx))
theorem dw_mem {α : Type} (p : α → Bool) (b : α) (hb : p b = false) : ∀ l : List α, b ∈ l → b ∈ l.dropWhile p
  | [], h => h
  | a :: l, h => by
    by_cases ha : p a = true
    · rw [List.dropWhile_cons_of_pos ha]
      rcases List.mem_cons.1 h with h | h
      · rw [h, ha] at hb
        cases hb
      · exact dw_mem p b hb l h
    · rw [List.dropWhile_cons_of_neg ha]
      exact h

theorem trim_nil (l : List UInt8) : (Lib.trimS l digitsL).isEmpty = l.all (fun b => digitsL.contains b) := by
  unfold Lib.trimS Lib.trimLeftS Lib.trimRightS
  cases ha : l.all (fun b => digitsL.contains b) with
  | true =>
    rw [dw_all (digitsL.contains ·) l.reverse (fun x hx => List.all_eq_true.1 ha x (List.mem_reverse.1 hx))]
    rfl
  | false =>
    obtain ⟨b, hb, hn⟩ := List.all_eq_false.1 ha
    have hn' : digitsL.contains b = false := by
      cases hc : digitsL.contains b with
      | true => exact absurd hc hn
      | false => rfl
    have h1 := dw_mem (digitsL.contains ·) b hn' l.reverse (List.mem_reverse.2 hb)
    have h2 := dw_mem (digitsL.contains ·) b hn' (l.reverse.dropWhile (digitsL.contains ·)).reverse (List.mem_reverse.2 h1)
    cases hx : (l.reverse.dropWhile (digitsL.contains ·)).reverse.dropWhile (digitsL.contains ·) with
    | nil => rw [hx] at h2; cases h2
    | cons a t => rfl

theorem atoi_tell (s : ByteArray) (m : Nat) (h0 : unsignedL s ≠ []) (h : Lib.decFrom 0 (unsignedL s) = some m) : Lib.atoi s.data.toList = some (if signedB s = true then -(m : Int) else (m : Int)) := by
  unfold unsignedL Lib.trimPrefix Lib.hasPrefix at h h0
  unfold signedB
  cases hs : s.data.toList with
  | nil => rw [hs] at h0; exact absurd rfl h0
  | cons b r =>
    rw [hs] at h h0
    by_cases hb : b = 45
    · subst hb
      have h' : Lib.decFrom 0 r = some m := by simpa [List.isPrefixOf] using h
      have h0' : r ≠ [] := by simpa [List.isPrefixOf] using h0
      have he : r.isEmpty = false := by cases r with | nil => exact absurd rfl h0' | cons a t => rfl
      unfold Lib.atoi Lib.decNat
      simp [he, h']
    · have hb' : (b == 45) = false := by simpa using hb
      have hp : ([45] : List UInt8).isPrefixOf (b :: r) = false := by
        simp [List.isPrefixOf]
        exact fun e => hb e.symm
      rw [hp] at h
      have h' : Lib.decFrom 0 (b :: r) = some m := h
      have hp43 : (b == 43) = false := by
        cases h43 : (b == 43) with
        | false => rfl
        | true =>
          have : b = 43 := by simpa using h43
          subst this
          simp [Lib.decFrom, Lib.digitVal] at h'
      unfold Lib.atoi Lib.decNat
      simp [hb', hp43, h', hb]

theorem number_tell (s : ByteArray) (hs : s.size < 9223372036854775807) : words_Number.f s = some (numOf s) := by
  unfold words_Number.f
  rw [if_pos hs]
  have hB : numB s = (!(unsignedL s).isEmpty && decide ((unsignedL s).length ≤ 9) && (Lib.decFrom 0 (unsignedL s)).isSome) := by
    unfold numB
    rw [trim_nil, ← dec_all (unsignedL s) 0]
  rw [hB]
  by_cases h0 : unsignedL s = []
  · unfold numOf
    rw [h0]
    simp
  have hne : (unsignedL s).isEmpty = false := by
    cases hu : unsignedL s with
    | nil => exact absurd hu h0
    | cons a t => rfl
  have hlen : 1 ≤ (unsignedL s).length := by
    cases hu : unsignedL s with
    | nil => exact absurd hu h0
    | cons a t => simp
  rw [hne]
  by_cases h9 : (unsignedL s).length ≤ 9
  · have hN : numOf s = match Lib.decFrom 0 (unsignedL s) with
        | some m => (if signedB s = true then -(m : Int) else (m : Int), true)
        | none => (0, false) := by
      unfold numOf
      rw [if_pos ⟨hlen, h9⟩]
    rw [hN, decide_eq_true h9]
    cases hd : Lib.decFrom 0 (unsignedL s) with
    | none => rfl
    | some m =>
      rw [atoi_tell s m h0 hd]
      rfl
  · have hN : numOf s = (0, false) := by
      unfold numOf
      rw [if_neg (fun h => h9 h.2)]
    rw [hN, decide_eq_false h9]
    rfl


theorem bt_list (s : ByteArray) (i : Nat) (b : UInt8) (h : s.data.toList[i]? = some b) : bt s (i : Int) = (b.toNat : Int) := by
  obtain ⟨hl, hb⟩ := List.getElem?_eq_some_iff.1 h
  have hi : i < s.size := by simpa using hl
  rw [bt_cast s i hi, ← hb]
  rfl

/-- What the reference tells of a sign (d is shorter than s) and bytes, from i on. -/
def refOut (s d : ByteArray) (acc i : Nat) : Int × Bool :=
  if 1 ≤ d.size ∧ d.size ≤ 9 then
    match Lib.decFrom acc (d.data.toList.drop i) with
    | some m => (if d.size < s.size then -(m : Int) else (m : Int), true)
    | none => (0, false)
  else (0, false)

theorem num_end (s d : ByteArray) (hd : d.size < 4294967296) (hsz : s.size < 4294967296) (acc i : Nat) (hacc : acc < 10 ^ i) (hi : i ≤ 10) (h : i = d.size ∨ i = 10 ∧ i < d.size) :
    Ev (fun k => R05_Number.j3 k s d (acc : Int) (i : Int) false) (refOut s d acc i) := by
  have hp : acc < 10000000000 := Nat.lt_of_lt_of_le hacc (Nat.pow_le_pow_right (by decide) hi)
  refine evs ?_
  simp only [R05_Number.j3, Bool.false_eq_true, if_false]
  by_cases h1 : (d.size : Int) < 1
  · simp only [h1, if_true]
    refine evs ?_
    simp only [R05_Number.j4, if_true]
    have : refOut s d acc i = (0, false) := by unfold refOut; rw [if_neg (by omega)]
    rw [this]
    exact Ev.now _
  · simp only [h1, if_false]
    refine evs ?_
    simp only [R05_Number.j4]
    by_cases h9 : d.size ≤ 9
    · have hd9 : decide ((d.size : Int) > 9) = false := decide_eq_false (by omega)
      simp only [hd9, Bool.false_eq_true, if_false]
      have hi' : i = d.size := by omega
      have hdr : d.data.toList.drop i = [] := List.drop_eq_nil_of_le (by rw [hi']; simp)
      have hout : refOut s d acc i = (if d.size < s.size then -(acc : Int) else (acc : Int), true) := by
        unfold refOut
        rw [if_pos (by omega), hdr]
        rfl
      rw [hout]
      by_cases hlt : d.size < s.size
      · have hlt' : (d.size : Int) < (s.size : Int) := by omega
        have hw : wrap64 (-(acc : Int)) = -(acc : Int) := by unfold wrap64; omega
        simp only [hlt, hlt', if_true, hw]
        exact Ev.now _
      · have hlt' : ¬ (d.size : Int) < (s.size : Int) := by omega
        simp only [hlt, hlt', if_false]
        exact Ev.now _
    · have hd9 : decide ((d.size : Int) > 9) = true := decide_eq_true (by omega)
      simp only [hd9, if_true]
      have : refOut s d acc i = (0, false) := by unfold refOut; rw [if_neg (by omega)]
      rw [this]
      exact Ev.now _

theorem dig_yes (b : UInt8) (h : 48 ≤ b.toNat ∧ b.toNat ≤ 57) : Lib.digitVal b = some (b.toNat - 48) := if_pos h
theorem dig_no (b : UInt8) (h : ¬ (48 ≤ b.toNat ∧ b.toNat ≤ 57)) : Lib.digitVal b = none := if_neg h

theorem num_loop (s d : ByteArray) (hd : d.size < 4294967296) (hsz : s.size < 4294967296) : ∀ n i acc : Nat, i + n = d.size → i ≤ 10 → acc < 10 ^ i →
    Ev (fun k => R05_Number.l0 k s d (acc : Int) (i : Int)) (refOut s d acc i) := by
  intro n
  induction n with
  | zero =>
    intro i acc hi h10 hacc
    refine evs ?_
    simp only [R05_Number.l0]
    have h1 : ¬ ((i : Int) < (d.size : Int)) := by omega
    simp only [h1, if_false]
    exact num_end s d hd hsz acc i hacc h10 (.inl (by omega))
  | succ n ih =>
    intro i acc hi h10 hacc
    have hp : acc < 10000000000 := Nat.lt_of_lt_of_le hacc (Nat.pow_le_pow_right (by decide) h10)
    refine evs ?_
    simp only [R05_Number.l0]
    have h1 : ((i : Int) < (d.size : Int)) := by omega
    simp only [h1, if_true]
    by_cases hlt : i < 10
    · have h2 : decide ((i : Int) < 10) = true := decide_eq_true (by omega)
      have h3 : (0 : Int) ≤ (i : Int) := by omega
      simp only [h2]
      refine evs ?_
      simp only [R05_Number.j3, h1, h3, if_true]
      have hil : i < d.data.toList.length := by simp; omega
      obtain ⟨b, hb⟩ : ∃ b, d.data.toList[i]? = some b := ⟨_, List.getElem?_eq_getElem hil⟩
      have hbt := bt_list d i b hb
      have hdrop : d.data.toList.drop i = b :: d.data.toList.drop (i + 1) := by
        rw [List.drop_eq_getElem_cons hil]
        congr 1
        exact (List.getElem?_eq_some_iff.1 hb).2
      have hb256 : b.toNat < 256 := b.toNat_lt
      by_cases hdig : 48 ≤ b.toNat ∧ b.toNat ≤ 57
      · have hf : R05_digit.f (bt d (i : Int)) = some true := by
          unfold R05_digit.f
          rw [hbt, if_pos (by omega), decide_eq_true (by omega)]
        have hnew : wrap64 (wrap64 (10 * (acc : Int)) + (bt d (i : Int) - 48) % 256) = ((acc * 10 + (b.toNat - 48) : Nat) : Int) := by
          have e1 : (bt d (i : Int) - 48) % 256 = ((b.toNat - 48 : Nat) : Int) := by rw [hbt]; omega
          have e2 : wrap64 (10 * (acc : Int)) = ((10 * acc : Nat) : Int) := by unfold wrap64; omega
          rw [e1, e2]
          have e3 : ((10 * acc : Nat) : Int) + ((b.toNat - 48 : Nat) : Int) = ((acc * 10 + (b.toNat - 48) : Nat) : Int) := by omega
          rw [e3]
          have e4 : acc * 10 + (b.toNat - 48) < 1000000000000 := by omega
          unfold wrap64
          omega
        simp only [hf, Option.bind_some, if_true, hnew, wrapc i (by omega)]
        have hout : refOut s d acc i = refOut s d (acc * 10 + (b.toNat - 48)) (i + 1) := by
          unfold refOut
          have e5 : Lib.decFrom acc (d.data.toList.drop i) = Lib.decFrom (acc * 10 + (b.toNat - 48)) (d.data.toList.drop (i + 1)) := by
            rw [hdrop, Lib.decFrom, dig_yes b hdig]
          rw [e5]
        rw [hout]
        refine ih (i + 1) _ (by omega) (by omega) ?_
        rw [Nat.pow_succ]
        omega
      · have hf : R05_digit.f (bt d (i : Int)) = some false := by
          unfold R05_digit.f
          rw [hbt]
          by_cases h48 : 48 ≤ b.toNat
          · rw [if_pos (by omega), decide_eq_false (by omega)]
          · rw [if_neg (by omega)]
        simp only [hf, Option.bind_some, Bool.false_eq_true, if_false]
        have hout : refOut s d acc i = (0, false) := by
          unfold refOut
          have e5 : Lib.decFrom acc (d.data.toList.drop i) = none := by
            rw [hdrop, Lib.decFrom, dig_no b hdig]
          rw [e5]
          split <;> rfl
        rw [hout]
        exact Ev.now _
    · have h2 : decide ((i : Int) < 10) = false := decide_eq_false (by omega)
      simp only [h2]
      exact num_end s d hd hsz acc i hacc h10 (.inr (by omega))

theorem number_ref (s : ByteArray) (hs : s.size < 4294967296) : Ev (fun k => R05_Number.f k s) (numOf s) := by
  have plain : unsignedL s = s.data.toList → signedB s = false → Ev (fun k => R05_Number.j0 k s s false) (numOf s) := fun hu hg => by
    refine evs ?_
    simp only [R05_Number.j0, Bool.false_eq_true, if_false]
    refine evs ?_
    simp only [R05_Number.j1]
    have h := num_loop s s hs hs s.size 0 0 (by omega) (by decide) (by decide)
    have e : refOut s s 0 0 = numOf s := by
      unfold refOut numOf
      rw [hu, hg]
      have hl : s.data.toList.length = s.size := Array.length_toList
      simp [hl]
    rw [e] at h
    exact h
  unfold R05_Number.f
  by_cases h0 : s.size = 0
  · have h1 : ¬ ((s.size : Int) > 0) := by omega
    simp only [h1, if_false]
    have hn : s.data.toList = [] := List.eq_nil_of_length_eq_zero (by rw [Array.length_toList]; exact h0)
    exact plain (by unfold unsignedL Lib.trimPrefix; rw [hn]; rfl) (by unfold signedB; rw [hn]; rfl)
  · have h1 : ((s.size : Int) > 0) := by omega
    simp only [h1, if_true]
    have hl : s.data.toList.length = s.size := Array.length_toList
    cases hd : s.data.toList with
    | nil => rw [hd] at hl; simp at hl; omega
    | cons b r =>
      have hb0 : bt s 0 = (b.toNat : Int) := bt_list s 0 b (by rw [hd]; rfl)
      by_cases hb : b = 45
      · subst hb
        have hbt : (bt s 0 == 45) = true := by rw [hb0]; rfl
        simp only [hbt]
        refine evs ?_
        have h3 : (1 : Int) ≤ (s.size : Int) := by omega
        simp only [R05_Number.j0, if_true, h3]
        refine evs ?_
        simp only [R05_Number.j1]
        have hdsz : (s.extract 1 s.size).size = s.size - 1 := by rw [ByteArray.size_extract]; omega
        have hdl : (s.extract 1 s.size).data.toList = r := by
          rw [Lib.extract_to_end, hd]
          rfl
        have hu : unsignedL s = r := by
          unfold unsignedL Lib.trimPrefix Lib.hasPrefix
          rw [hd]
          simp [List.isPrefixOf]
        have hg : signedB s = true := by unfold signedB; rw [hd]; rfl
        have h := num_loop s (s.extract 1 s.size) (by omega) hs (s.extract 1 s.size).size 0 0 (by omega) (by decide) (by decide)
        have e : refOut s (s.extract 1 s.size) 0 0 = numOf s := by
          unfold refOut numOf
          rw [hu, hg, List.drop_zero, hdl]
          have hrl : r.length = s.size - 1 := by rw [hd] at hl; simp at hl; omega
          have hlt : s.size - 1 < s.size := by omega
          simp only [hdsz, hrl, hlt, if_true]
        rw [e] at h
        exact h
      · have hbt : (bt s 0 == 45) = false := by
          rw [hb0]
          refine beq_eq_false_iff_ne.2 (fun e => hb ?_)
          exact UInt8.toNat_inj.1 (by have : b.toNat = 45 := by omega
                                      exact this)
        simp only [hbt]
        refine plain ?_ ?_
        · unfold unsignedL Lib.trimPrefix Lib.hasPrefix
          rw [hd]
          have : ([45] : List UInt8).isPrefixOf (b :: r) = false := by
            simp [List.isPrefixOf]
            exact fun e => hb e.symm
          rw [this]
          rfl
        · unfold signedB
          rw [hd]
          simp [hb]
end Go.Proofs.YtenjohemplgnmaaDoor.P
