/- A number's digits, as the reference writes them. -/
import Derived.Test.YtenjohemplgnmaaDoorHNum
import Derived.Test.YtenjohemplgnmaaDoorPx8
namespace Go.Proofs.YtenjohemplgnmaaDoor.P
open Go.RowKit Go.Proofs.YtenjohemplgnmaaDoorW.PrintWords Go.Proofs.YtenjohemplgnmaaDoorW.PrintLast
set_option linter.unusedVariables false
set_option linter.unusedSimpArgs false

/-- The digits of m, of n at most. -/
def decB : Nat → Nat → List UInt8
  | 0, _ => []
  | n + 1, m => (if m < 10 then [] else decB n (m / 10)) ++ [UInt8.ofNat (48 + m % 10)]

theorem decFrom_append : ∀ (l r : List UInt8) (acc : Nat), Lib.decFrom acc (l ++ r) = (Lib.decFrom acc l).bind fun a => Lib.decFrom a r
  | [], r, acc => rfl
  | b :: l, r, acc => by
    rw [List.cons_append, Lib.decFrom, Lib.decFrom]
    cases Lib.digitVal b with
    | none => rfl
    | some d => exact decFrom_append l r _

theorem dig_of (x : Nat) (h : x < 10) : Lib.digitVal (UInt8.ofNat (48 + x)) = some x := by
  have e : (UInt8.ofNat (48 + x)).toNat = 48 + x := by
    rw [UInt8.toNat_ofNat']
    omega
  rw [dig_yes _ (by rw [e]; omega), e]
  congr 1
  omega

theorem decB_value : ∀ n m, m < 10 ^ n → 0 < n → Lib.decFrom 0 (decB n m) = some m
  | n + 1, m, h, _ => by
    unfold decB
    rw [decFrom_append]
    by_cases h10 : m < 10
    · rw [if_pos h10]
      show Lib.decFrom 0 [UInt8.ofNat (48 + m % 10)] = some m
      rw [Lib.decFrom, dig_of _ (by omega)]
      show Lib.decFrom _ [] = _
      rw [Lib.decFrom]
      congr 1
      omega
    · rw [if_neg h10]
      have hn : 0 < n := by
        cases n with
        | zero => simp at h; omega
        | succ n => omega
      rw [decB_value n (m / 10) (by rw [Nat.pow_succ] at h; omega) hn]
      show Lib.decFrom (m / 10) [UInt8.ofNat (48 + m % 10)] = some m
      rw [Lib.decFrom, dig_of _ (by omega)]
      show Lib.decFrom _ [] = _
      rw [Lib.decFrom]
      congr 1
      omega

theorem decB_len : ∀ n m, (decB n m).length ≤ n
  | 0, _ => Nat.le_refl _
  | n + 1, m => by
    unfold decB
    rw [List.length_append]
    split
    · simp
    · have := decB_len n (m / 10)
      simp
      omega
theorem decB_pos (n m : Nat) (h : 0 < n) : 1 ≤ (decB n m).length := by
  obtain ⟨k, rfl⟩ : ∃ k, n = k + 1 := ⟨n - 1, by omega⟩
  unfold decB
  rw [List.length_append]
  simp

/-- The loop writes what is left ahead of what is written. -/
theorem dec_loop (sg : ByteArray) (hsg : sg.size ≤ 1) : ∀ (n m : Nat) (out : ByteArray), m < 10 ^ n → n ≤ 12 → out.size ≤ 20 - n →
    Ev (fun k => R05_Decimal.l0 k sg (m : Int) out) (sg ++ (⟨(if m = 0 then [] else decB n m).toArray⟩ ++ out)) := by
  intro n
  induction n with
  | zero =>
    intro m out hm hn ho
    have : m = 0 := by simp at hm; omega
    subst this
    refine evs ?_
    simp only [R05_Decimal.l0]
    have h1 : ¬ (((0 : Nat) : Int) > 0) := by decide
    have h2 : sg.size + out.size ≤ 9223372036854775807 := by omega
    simp only [h1, h2, if_true, if_false]
    have e : (⟨([] : List UInt8).toArray⟩ : ByteArray) ++ out = out := by
      apply ByteArray.ext
      simp
    rw [e]
    exact Ev.now _
  | succ n ih =>
    intro m out hm hn ho
    refine evs ?_
    simp only [R05_Decimal.l0]
    by_cases h0 : m = 0
    · subst h0
      have h1 : ¬ (((0 : Nat) : Int) > 0) := by decide
      have h2 : sg.size + out.size ≤ 9223372036854775807 := by omega
      simp only [h1, h2, if_true, if_false]
      have e : (⟨([] : List UInt8).toArray⟩ : ByteArray) ++ out = out := by
        apply ByteArray.ext
        simp
      rw [e]
      exact Ev.now _
    · have hp : (10 : Nat) ^ (n + 1) ≤ 10 ^ 12 := Nat.pow_le_pow_right (by decide) hn
      have hm12 : m < 1000000000000 := Nat.lt_of_lt_of_le hm hp
      have h1 : ((m : Int) > 0) := by omega
      have e1 : (48 + ((m : Int).tmod 10) % 256) % 256 = ((48 + m % 10 : Nat) : Int) := by
        rw [show (m : Int).tmod 10 = ((m % 10 : Nat) : Int) from by rw [Int.tmod_eq_emod_of_nonneg (by omega)]; omega]
        omega
      have e2 : IntKind.u64.wrap ((m : Int).tdiv 10) = ((m / 10 : Nat) : Int) := by
        rw [show (m : Int).tdiv 10 = ((m / 10 : Nat) : Int) from by rw [Int.tdiv_eq_ediv_of_nonneg (by omega)]; omega]
        simp only [IntKind.wrap, IntKind.bits]
        simp
        omega
      simp only [h1, if_true, e1, e2, Option.bind_some]
      have h3 : (strOfNums [((48 + m % 10 : Nat) : Int)]).size = 1 := strOfNums_size _
      have h2 : (strOfNums [((48 + m % 10 : Nat) : Int)]).size + out.size ≤ 9223372036854775807 := by omega
      simp only [h2, if_true]
      have := ih (m / 10) (strOfNums [((48 + m % 10 : Nat) : Int)] ++ out) (by rw [Nat.pow_succ] at hm; omega) (by omega) (by rw [ByteArray.size_append]; omega)
      have e3 : (⟨(if m / 10 = 0 then [] else decB n (m / 10)).toArray⟩ : ByteArray) ++ (strOfNums [((48 + m % 10 : Nat) : Int)] ++ out) = ⟨(if m = 0 then [] else decB (n + 1) m).toArray⟩ ++ out := by
        rw [if_neg h0]
        apply ByteArray.ext
        have e4 : (if m / 10 = 0 then ([] : List UInt8) else decB n (m / 10)) = (if m < 10 then [] else decB n (m / 10)) := by
          by_cases h10 : m < 10
          · rw [if_pos (by omega), if_pos h10]
          · rw [if_neg (by omega), if_neg h10]
        rw [e4]
        simp only [ByteArray.data_append, decB, strOfNums, Int.toNat_natCast, List.map_cons, List.map_nil]
        apply Array.toList_inj.1
        simp
      rw [e3] at this
      exact this

theorem dec_ev (k : Int) (h : -1000000000 < k) (h' : k < 1000000000) :
    Ev (fun j => R05_Decimal.f j k) ((if k < 0 then (⟨#[45]⟩ : ByteArray) else ⟨#[]⟩) ++ ⟨(decB 10 k.natAbs).toArray⟩) := by
  have hm : k.natAbs < 10 ^ 9 := by
    have : (10 : Nat) ^ 9 = 1000000000 := by decide
    omega
  have start : ∀ sg : ByteArray, sg.size ≤ 1 → Ev (fun j => R05_Decimal.j0 j sg (k.natAbs : Int)) (sg ++ ⟨(decB 10 k.natAbs).toArray⟩) := fun sg hsg => by
    refine evs ?_
    simp only [R05_Decimal.j0]
    have hm9 : k.natAbs < 1000000000 := by omega
    have e1 : (48 + ((k.natAbs : Int).tmod 10) % 256) % 256 = ((48 + k.natAbs % 10 : Nat) : Int) := by
      rw [show (k.natAbs : Int).tmod 10 = ((k.natAbs % 10 : Nat) : Int) from by rw [Int.tmod_eq_emod_of_nonneg (by omega)]; omega]
      omega
    have e2 : IntKind.u64.wrap ((k.natAbs : Int).tdiv 10) = ((k.natAbs / 10 : Nat) : Int) := by
      rw [show (k.natAbs : Int).tdiv 10 = ((k.natAbs / 10 : Nat) : Int) from by rw [Int.tdiv_eq_ediv_of_nonneg (by omega)]; omega]
      simp only [IntKind.wrap, IntKind.bits]
      simp
      omega
    rw [e1, e2]
    have := dec_loop sg hsg 9 (k.natAbs / 10) (strOfNums [((48 + k.natAbs % 10 : Nat) : Int)]) (by
      have : (10 : Nat) ^ 9 = 1000000000 := by decide
      omega) (by decide) (by rw [strOfNums_size]; simp)
    have e3 : (⟨(if k.natAbs / 10 = 0 then [] else decB 9 (k.natAbs / 10)).toArray⟩ : ByteArray) ++ strOfNums [((48 + k.natAbs % 10 : Nat) : Int)] = ⟨(decB 10 k.natAbs).toArray⟩ := by
      apply ByteArray.ext
      have e4 : (if k.natAbs / 10 = 0 then ([] : List UInt8) else decB 9 (k.natAbs / 10)) = (if k.natAbs < 10 then [] else decB 9 (k.natAbs / 10)) := by
        by_cases h10 : k.natAbs < 10
        · rw [if_pos (by omega), if_pos h10]
        · rw [if_neg (by omega), if_neg h10]
      rw [e4]
      simp only [ByteArray.data_append, strOfNums, Int.toNat_natCast, List.map_cons, List.map_nil]
      have e5 : decB 10 k.natAbs = (if k.natAbs < 10 then [] else decB 9 (k.natAbs / 10)) ++ [UInt8.ofNat (48 + k.natAbs % 10)] := rfl
      rw [e5]
      generalize (if k.natAbs < 10 then ([] : List UInt8) else decB 9 (k.natAbs / 10)) = l
      apply Array.toList_inj.1
      simp
    rw [e3] at this
    exact this
  unfold R05_Decimal.f
  by_cases hk : k < 0
  · have e : IntKind.u64.wrap (-(IntKind.u64.wrap k)) = (k.natAbs : Int) := by
      simp only [IntKind.wrap, IntKind.bits]
      simp
      omega
    simp only [hk, if_true, e]
    exact start ⟨#[45]⟩ (by decide)
  · have e : IntKind.u64.wrap k = (k.natAbs : Int) := by
      simp only [IntKind.wrap, IntKind.bits]
      simp
      omega
    simp only [hk, if_false, e]
    exact start ⟨#[]⟩ (by decide)
end Go.Proofs.YtenjohemplgnmaaDoor.P
