/- What numbers are told of digits with a sign, noughts, a byte more. -/
import Derived.Test.YtenjohemplgnmaaDoorHDec
namespace Go.Proofs.YtenjohemplgnmaaDoor.P
open Go.RowKit Go.Proofs.YtenjohemplgnmaaDoorW.PrintWords Go.Proofs.YtenjohemplgnmaaDoorW.PrintLast
set_option linter.unusedVariables false
set_option linter.unusedSimpArgs false

theorem num_plain (x : ByteArray) (l : List UInt8) (hx : x.data.toList = l) (h : l.head? ≠ some 45) : unsignedL x = l ∧ signedB x = false := by
  constructor
  · unfold unsignedL Lib.trimPrefix Lib.hasPrefix
    rw [hx]
    cases l with
    | nil => rfl
    | cons b r =>
      have : ([45] : List UInt8).isPrefixOf (b :: r) = false := by
        simp [List.isPrefixOf]
        exact fun e => h (by rw [← e]; rfl)
      rw [this]
      rfl
  · unfold signedB
    rw [hx]
    exact decide_eq_false h
theorem num_signed (x : ByteArray) (l : List UInt8) (hx : x.data.toList = 45 :: l) : unsignedL x = l ∧ signedB x = true := by
  constructor
  · unfold unsignedL Lib.trimPrefix Lib.hasPrefix
    rw [hx]
    simp [List.isPrefixOf]
  · unfold signedB
    rw [hx]
    rfl

/-- A row of digits that spells m, of any length, perhaps with a sign. -/
theorem num_of (x : ByteArray) (neg : Bool) (l : List UInt8) (m : Nat) (hx : x.data.toList = (if neg = true then [45] else []) ++ l) (hl : 1 ≤ l.length) (hd : Lib.decFrom 0 l = some m) :
    numOf x = if l.length ≤ 9 then (if neg = true then -(m : Int) else (m : Int), true) else (0, false) := by
  have hh : l.head? ≠ some 45 := by
    cases l with
    | nil => simp
    | cons b r =>
      intro e
      have : b = 45 := by simpa using e
      subst this
      simp [Lib.decFrom, Lib.digitVal] at hd
  have hu : unsignedL x = l ∧ signedB x = neg := by
    cases neg with
    | true => exact num_signed x l hx
    | false => exact num_plain x l hx hh
  unfold numOf
  rw [hu.1, hu.2, hd]
  by_cases h9 : l.length ≤ 9
  · rw [if_pos ⟨hl, h9⟩, if_pos h9]
  · rw [if_neg (fun h => h9 h.2), if_neg h9]
/-- A row with a byte that is no digit. -/
theorem num_none (x : ByteArray) (neg : Bool) (l : List UInt8) (hx : x.data.toList = (if neg = true then [45] else []) ++ l) (hh : l.head? ≠ some 45 ∨ neg = true) (hd : Lib.decFrom 0 l = none) : numOf x = (0, false) := by
  have hu : unsignedL x = l := by
    cases neg with
    | true => exact (num_signed x l hx).1
    | false =>
      rcases hh with hh | hh
      · exact (num_plain x l hx hh).1
      · cases hh
  unfold numOf
  rw [hu, hd]
  split <;> rfl

theorem dec_none : ∀ (l : List UInt8) (acc : Nat), (∃ b ∈ l, Lib.digitVal b = none) → Lib.decFrom acc l = none
  | [], _, h => by obtain ⟨b, hb, _⟩ := h; cases hb
  | a :: l, acc, h => by
    rw [Lib.decFrom]
    cases ha : Lib.digitVal a with
    | none => rfl
    | some d =>
      obtain ⟨b, hb, hn⟩ := h
      rcases List.mem_cons.1 hb with rfl | hb
      · rw [hn] at ha; cases ha
      · exact dec_none l _ ⟨b, hb, hn⟩

theorem dec_noughts : ∀ (n : Nat) (l : List UInt8), Lib.decFrom 0 (List.replicate n 48 ++ l) = Lib.decFrom 0 l
  | 0, l => rfl
  | n + 1, l => by
    rw [List.replicate_succ, List.cons_append, Lib.decFrom]
    exact dec_noughts n l

theorem noughts (q : Nat) (h : q ≤ 8) : ((⟨#[48, 48, 48, 48, 48, 48, 48, 48]⟩ : ByteArray).extract 0 q).data.toList = List.replicate q 48 := by
  have hq : q = 0 ∨ q = 1 ∨ q = 2 ∨ q = 3 ∨ q = 4 ∨ q = 5 ∨ q = 6 ∨ q = 7 ∨ q = 8 := by omega
  rcases hq with rfl | rfl | rfl | rfl | rfl | rfl | rfl | rfl | rfl <;> rfl

/-- The digits of a number below a thousand million either way: d its text, sg its sign, p its digits. -/
structure Digits (k : Int) (neg : Bool) (p : List UInt8) : Prop where
  neg_is : neg = decide (k < 0)
  val : Lib.decFrom 0 p = some k.natAbs
  pos : 1 ≤ p.length
  short : p.length ≤ 9

theorem digits_of (k : Int) (h : -1000000000 < k) (h' : k < 1000000000) : Digits k (decide (k < 0)) (decB 10 k.natAbs) := by
  have hm : k.natAbs < 10 ^ 9 := by
    have : (10 : Nat) ^ 9 = 1000000000 := by decide
    omega
  refine ⟨rfl, decB_value 10 _ (Nat.lt_of_lt_of_le hm (Nat.pow_le_pow_right (by decide) (by decide))) (by decide), decB_pos 10 _ (by decide), ?_⟩
  have : ∀ n m, m < 10 ^ n → 0 < n → (decB (n + 1) m).length ≤ n := by
    intro n
    induction n with
    | zero => intro m _ h; omega
    | succ n ih =>
      intro m hm _
      rw [decB, List.length_append]
      by_cases h10 : m < 10
      · rw [if_pos h10]
        simp
      · rw [if_neg h10]
        have hn : 0 < n := by
          cases n with
          | zero => simp at hm; omega
          | succ n => omega
        have := ih (m / 10) (by rw [Nat.pow_succ] at hm; omega) hn
        simp
        omega
  exact this 9 _ hm (by decide)

variable {k : Int} {neg : Bool} {p : List UInt8}
theorem Digits.itself (D : Digits k neg p) (x : ByteArray) (hx : x.data.toList = (if neg = true then [45] else []) ++ p) : numOf x = (k, true) := by
  rw [num_of x neg p k.natAbs hx D.pos D.val, if_pos D.short]
  have hn := D.neg_is
  cases neg with
  | true =>
    have : k < 0 := of_decide_eq_true hn.symm
    simp
    omega
  | false =>
    have : ¬ k < 0 := of_decide_eq_false hn.symm
    simp
    omega
theorem Digits.more (D : Digits k neg p) (q : Nat) (hq : q ≤ 8) (x : ByteArray) (hx : x.data.toList = (if neg = true then [45] else []) ++ (List.replicate q 48 ++ p)) : numOf x = if q + p.length ≤ 9 then (k, true) else (0, false) := by
  rw [num_of x neg (List.replicate q 48 ++ p) k.natAbs hx (by rw [List.length_append]; have := D.pos; omega) (by rw [dec_noughts]; exact D.val)]
  rw [List.length_append, List.length_replicate]
  have hn := D.neg_is
  by_cases h9 : q + p.length ≤ 9
  · rw [if_pos h9, if_pos h9]
    cases neg with
    | true =>
      have : k < 0 := of_decide_eq_true hn.symm
      simp
      omega
    | false =>
      have : ¬ k < 0 := of_decide_eq_false hn.symm
      simp
      omega
  · rw [if_neg h9, if_neg h9]
theorem Digits.behind (D : Digits k neg p) (c : UInt8) (x : ByteArray) (hx : x.data.toList = (if neg = true then [45] else []) ++ (p ++ [c])) : (numOf x).2 = (decide (48 ≤ c.toNat ∧ c.toNat ≤ 57) && decide (p.length < 9)) := by
  by_cases hc : 48 ≤ c.toNat ∧ c.toNat ≤ 57
  · rw [num_of x neg (p ++ [c]) (k.natAbs * 10 + (c.toNat - 48)) hx (by rw [List.length_append]; have := D.pos; omega) (by
      rw [decFrom_append, D.val]
      show Lib.decFrom k.natAbs [c] = _
      rw [Lib.decFrom, dig_yes c hc]
      rfl)]
    rw [decide_eq_true hc, Bool.true_and, List.length_append]
    by_cases h9 : p.length < 9
    · rw [if_pos (by simp; omega), decide_eq_true h9]
    · rw [if_neg (by simp; omega), decide_eq_false h9]
  · rw [num_none x neg (p ++ [c]) hx (by
      have hp := D.pos
      have hv := D.val
      cases p with
      | nil => simp at hp
      | cons b r =>
        left
        intro e
        have : b = 45 := by simpa using e
        subst this
        simp [Lib.decFrom, Lib.digitVal] at hv) (dec_none _ _ ⟨c, by simp, dig_no c hc⟩)]
    rw [decide_eq_false hc]
    rfl
theorem twice_none (x : ByteArray) (a : List UInt8) (p : List UInt8) (hx : x.data.toList = 45 :: (a ++ 45 :: p)) : numOf x = (0, false) :=
  num_none x true (a ++ 45 :: p) hx (.inr rfl) (dec_none _ _ ⟨45, by simp, by decide⟩)
end Go.Proofs.YtenjohemplgnmaaDoor.P
