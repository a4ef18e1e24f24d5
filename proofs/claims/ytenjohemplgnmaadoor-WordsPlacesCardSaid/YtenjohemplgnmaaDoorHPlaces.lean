/- Where the words of a source stand: plain. -/
import Derived.Test.YtenjohemplgnmaaDoorPureWordsAll
namespace Go.Proofs.YtenjohemplgnmaaDoor.P
open Go.RowKit Go.Proofs.YtenjohemplgnmaaDoorW.PrintWords Go.Proofs.YtenjohemplgnmaaDoorW.PrintLast
set_option linter.unusedSimpArgs false

/-- A word of a line, behind what ends at at_. -/
def WordQ (q : ByteArray) (n at_ : Int) (x : S35) : Prop := x.f0 = n ∧ ∃ a b : Nat, x.f1 = (a : Int) ∧ x.f2 = q.extract a b ∧ at_ < (a : Int) ∧ a < b ∧ b ≤ q.size ∧ (0 < a → isBlank q (a - 1) = true) ∧ ∀ j, a ≤ j → j < b → isBlank q j = false
def endOf : Int → List S35 → Int
  | at_, [] => at_
  | _, x :: xs => endOf (x.f1 + (x.f2.size : Int)) xs
def LineQ (q : ByteArray) (n : Int) : Int → List S35 → Prop
  | _, [] => True
  | at_, x :: xs => WordQ q n at_ x ∧ LineQ q n (x.f1 + (x.f2.size : Int)) xs

theorem line_snoc (q : ByteArray) (n : Int) (x : S35) : ∀ (xs : List S35) (at_ : Int), LineQ q n at_ xs → WordQ q n (endOf at_ xs) x → LineQ q n at_ (xs ++ [x]) ∧ endOf at_ (xs ++ [x]) = x.f1 + (x.f2.size : Int)
  | [], _, _, h => ⟨⟨h, trivial⟩, rfl⟩
  | y :: ys, at_, hl, h => by
    have ⟨h1, h2⟩ := line_snoc q n x ys (y.f1 + (y.f2.size : Int)) hl.2 h
    exact ⟨⟨hl.1, h1⟩, h2⟩

theorem tk_line (q : ByteArray) (n : Int) (i : Nat) (hi : i ≤ q.size) (h : LineQ q n (-1) (spl q n i).2) (he : endOf (-1) (spl q n i).2 < (spl q n i).1) :
    LineQ q n (-1) (tk q n (spl q n i).1 (spl q n i).2 i) ∧ endOf (-1) (tk q n (spl q n i).1 (spl q n i).2 i) < (i : Int) + 1 := by
  have hbd := spl_bd q n i
  have hin := spl_inv q n i
  unfold tk
  by_cases c : (spl q n i).1 < (i : Int)
  · rw [if_pos c]
    obtain ⟨a, ha⟩ := Int.eq_ofNat_of_zero_le hbd.1
    rw [ha] at c he hin ⊢
    rw [Int.toNat_natCast, Int.toNat_natCast]
    have hw : WordQ q n (endOf (-1) (spl q n i).2) ⟨n, (a : Int), q.extract a i⟩ := by
      refine ⟨rfl, a, i, rfl, rfl, he, by omega, hi, fun h0 => ?_, fun j h1 h2 => hin.1 j (by omega) h2⟩
      rcases hin.2 with h3 | ⟨j, h3, hj⟩
      · omega
      · rw [show a - 1 = j from by omega]
        exact hj
    have ⟨h1, h2⟩ := line_snoc q n _ _ _ h hw
    refine ⟨h1, ?_⟩
    rw [h2]
    show (a : Int) + ((q.extract a i).size : Int) < _
    rw [ByteArray.size_extract]
    omega
  · rw [if_neg c]
    exact ⟨h, by omega⟩

theorem spl_line (q : ByteArray) (n : Int) : ∀ i : Nat, i ≤ q.size → LineQ q n (-1) (spl q n i).2 ∧ endOf (-1) (spl q n i).2 < (spl q n i).1
  | 0, _ => ⟨trivial, by show (-1 : Int) < 0; decide⟩
  | i + 1, hi => by
    have ⟨h1, h2⟩ := spl_line q n i (by omega)
    have h3 := tk_line q n i (by omega) h1 h2
    unfold spl
    split
    · exact h3
    · exact ⟨h1, h2⟩

theorem words_line (p : ByteArray) (n : Int) : LineQ (ahead p) n (-1) (wordsOf p n) := by
  have ⟨h1, h2⟩ := spl_line (ahead p) n (ahead p).size (Nat.le_refl _)
  exact (tk_line (ahead p) n (ahead p).size (Nat.le_refl _) h1 h2).1

/-- No byte that parts words. -/
def Inside (b : Int) : Prop := b ≠ 32 ∧ b ≠ 9 ∧ b ≠ 10 ∧ b ≠ 35
/-- A word of the source's line that begins at base. -/
def WordS (s : ByteArray) (base : Nat) (n at_ : Int) (x : S35) : Prop := x.f0 = n ∧ ∃ a b : Nat, x.f1 = (a : Int) ∧ x.f2 = s.extract (base + a) (base + b) ∧ at_ < (a : Int) ∧ a < b ∧ base + b ≤ s.size ∧
  (0 < a → bt s ((base + a - 1 : Nat) : Int) = 32 ∨ bt s ((base + a - 1 : Nat) : Int) = 9) ∧ ∀ j : Nat, a ≤ j → j < b → Inside (bt s ((base + j : Nat) : Int))
def LineS (s : ByteArray) (base : Nat) (n : Int) : Int → List S35 → Prop
  | _, [] => True
  | at_, x :: xs => WordS s base n at_ x ∧ LineS s base n (x.f1 + (x.f2.size : Int)) xs

theorem line_of (s q : ByteArray) (base e : Nat) (n : Int) (he : base + e ≤ s.size) (hq : q = s.extract base (base + e)) (hn : ∀ j : Nat, j < e → bt s ((base + j : Nat) : Int) ≠ 10 ∧ bt s ((base + j : Nat) : Int) ≠ 35) : ∀ (xs : List S35) (at_ : Int), LineQ q n at_ xs → LineS s base n at_ xs
  | [], _, _ => trivial
  | x :: xs, at_, h => by
    refine ⟨?_, line_of s q base e n he hq hn xs _ h.2⟩
    obtain ⟨h0, a, b, h1, h2, h3, h4, h5, h6, h7⟩ := h.1
    have hs : q.size = e := by rw [hq, ByteArray.size_extract]; omega
    have hb : ∀ j, j < e → bt q (j : Int) = bt s ((base + j : Nat) : Int) := fun j hj => by
      rw [hq, bt_extract s base (base + e) j (by omega) (by omega)]
    refine ⟨h0, a, b, h1, ?_, h3, h4, by omega, fun ha => ?_, fun j hj1 hj2 => ?_⟩
    · rw [h2, hq, ByteArray.extract_extract, Nat.min_eq_left (by omega)]
    · have h8 := h6 ha
      unfold isBlank at h8
      rw [hb (a - 1) (by omega)] at h8
      rw [show base + a - 1 = base + (a - 1) from by omega]
      simpa using h8
    · have h8 := h7 j hj1 hj2
      unfold isBlank at h8
      rw [hb j (by omega)] at h8
      have h9 := hn j (by omega)
      simp at h8
      exact ⟨h8.1, h8.2, h9.1, h9.2⟩

/-- Where the lines of the first i bytes begin. -/
def stn (s : ByteArray) : Nat → List Int
  | 0 => [0]
  | i + 1 => if bt s (i : Int) = 10 then stn s i ++ [((i + 1 : Nat) : Int)] else stn s i

theorem stn_len (s : ByteArray) (i : Nat) : 1 ≤ (stn s i).length ∧ (stn s i).length ≤ i + 1 := by
  induction i with
  | zero => exact ⟨Nat.le_refl _, Nat.le_refl _⟩
  | succ i ih =>
    unfold stn
    split
    · rw [List.length_append, List.length_singleton]; omega
    · omega

theorem stn_at (s : ByteArray) (i k : Nat) (v : Int) (h : (stn s i)[k]? = some v) : ∀ d, (stn s (i + d))[k]? = some v
  | 0 => h
  | d + 1 => by
    have ih := stn_at s i k v h d
    rw [← Nat.add_assoc]
    unfold stn
    split
    · obtain ⟨hk, _⟩ := List.getElem?_eq_some_iff.1 ih
      rw [List.getElem?_append_left hk]
      exact ih
    · exact ih

/-- The rows of words of a source, behind line was. -/
def RowsS (s : ByteArray) (st : List Int) : Nat → List (List S35) → Prop
  | _, [] => True
  | was, r :: rs => r ≠ [] ∧ ∃ n base : Nat, was < n ∧ n ≤ st.length ∧ st[n - 1]? = some (base : Int) ∧ LineS s base (n : Int) (-1) r ∧ RowsS s st n rs

theorem piece_line (s : ByteArray) (b i n : Nat) (hb : b ≤ i) (hi : i ≤ s.size) (hno : ∀ j : Nat, b ≤ j → j < i → bt s (j : Int) ≠ 10) : LineS s b (n : Int) (-1) (wordsOf (s.extract b i) (n : Int)) := by
  obtain ⟨e, he, hq, hn, _⟩ := ahead_is (s.extract b i)
  have hsz : (s.extract b i).size = i - b := by rw [ByteArray.size_extract]; omega
  refine line_of s (ahead (s.extract b i)) b e n (by omega) ?_ (fun j hj => ⟨hno (b + j) (by omega) (by omega), ?_⟩) _ _ (words_line (s.extract b i) n)
  · rw [hq, ByteArray.extract_extract, Nat.add_zero, Nat.min_eq_left (by omega)]
  · have := hn j hj
    rw [bt_extract s b i j hi (by omega)] at this
    exact this

theorem linesOf_cons (p : ByteArray) (ps : List ByteArray) (n : Nat) : linesOf (p :: ps) n = if (wordsOf p (n : Int)).length > 0 then wordsOf p (n : Int) :: linesOf ps (n + 1) else linesOf ps (n + 1) := rfl
theorem linesOf_nil (n : Nat) : linesOf [] n = [] := rfl
theorem pcs_zero (s : ByteArray) (b i : Nat) : pcs s 0 b i = [s.extract b s.size] := rfl
theorem rows_cons (s : ByteArray) (st : List Int) (was : Nat) (r : List S35) (rs : List (List S35)) (h0 : r.length > 0) (n base : Nat) (h1 : was < n) (h2 : n ≤ st.length) (h3 : st[n - 1]? = some (base : Int)) (h4 : LineS s base (n : Int) (-1) r) (h5 : RowsS s st n rs) : RowsS s st was (r :: rs) :=
  ⟨fun h => by rw [h] at h0; simp at h0, n, base, h1, h2, h3, h4, h5⟩
theorem rows_nil (s : ByteArray) (st : List Int) (was : Nat) : RowsS s st was [] := trivial

set_option maxHeartbeats 2000000 in
theorem rows_places (s : ByteArray) : ∀ d i b n was : Nat, i + d = s.size → n = (stn s i).length → (stn s i)[n - 1]? = some (b : Int) → b ≤ i → (∀ j : Nat, b ≤ j → j < i → bt s (j : Int) ≠ 10) → was < n →
    RowsS s (stn s s.size) was (linesOf (pcs s d b i) n) := by
  intro d
  induction d with
  | zero =>
    intro i b n was hi hn hb hbi hno hw
    obtain rfl : i = s.size := by omega
    have hl := piece_line s b s.size n hbi (Nat.le_refl _) hno
    rw [pcs_zero, linesOf_cons, linesOf_nil]
    by_cases h0 : (wordsOf (s.extract b s.size) (n : Int)).length > 0
    · rw [if_pos h0]
      exact rows_cons s _ was _ _ h0 n b hw (Nat.le_of_eq hn) hb hl (rows_nil _ _ _)
    · rw [if_neg h0]
      exact rows_nil _ _ _
  | succ d ih =>
    intro i b n was hi hn hb hbi hno hw
    have hmono : (stn s s.size)[n - 1]? = some (b : Int) := by
      have := stn_at s i (n - 1) b hb (d + 1)
      rwa [hi] at this
    have hlt : n ≤ (stn s s.size).length := by
      have := (List.getElem?_eq_some_iff.1 hmono).1
      have := (stn_len s i).1
      omega
    by_cases h10 : bt s (i : Int) = 10
    · have hst : stn s (i + 1) = stn s i ++ [((i + 1 : Nat) : Int)] := by
        show (if _ then _ else _) = _
        rw [if_pos h10]
      have hp : pcs s (d + 1) b i = s.extract b i :: pcs s d (i + 1) (i + 1) := by
        show (if _ then _ else _) = _
        rw [if_pos h10]
      have hl := piece_line s b i n hbi (by omega) hno
      have ih' : ∀ was, was < n + 1 → RowsS s (stn s s.size) was (linesOf (pcs s d (i + 1) (i + 1)) (n + 1)) := fun was hw => by
        refine ih (i + 1) (i + 1) (n + 1) was (by omega) ?_ ?_ (Nat.le_refl _) (fun j h1 h2 => by omega) hw
        · rw [hst, List.length_append, List.length_singleton, hn]
        · rw [hst, Nat.add_sub_cancel, hn, List.getElem?_append_right (Nat.le_refl _), Nat.sub_self]
          rfl
      rw [hp]
      rw [linesOf_cons]
      by_cases h0 : (wordsOf (s.extract b i) (n : Int)).length > 0
      · rw [if_pos h0]
        exact rows_cons s _ was _ _ h0 n b hw hlt hmono hl (ih' n (Nat.lt_succ_self n))
      · rw [if_neg h0]
        exact ih' was (by omega)
    · have hst : stn s (i + 1) = stn s i := by
        show (if _ then _ else _) = _
        rw [if_neg h10]
      have hp : pcs s (d + 1) b i = pcs s d b (i + 1) := by
        show (if _ then _ else _) = _
        rw [if_neg h10]
      rw [hp]
      refine ih (i + 1) b n was (by omega) (by rw [hst]; exact hn) (by rw [hst]; exact hb) (by omega) (fun j h1 h2 => ?_) hw
      rcases Nat.lt_or_ge j i with h | h
      · exact hno j h1 h
      · have : j = i := by omega
        subst this
        exact h10

theorem rows_of_places (s : ByteArray) : RowsS s (stn s s.size) 0 (rowsOf s) :=
  rows_places s s.size 0 0 1 0 (by omega) rfl rfl (Nat.le_refl _) (fun j _ h => by omega) (by omega)
end Go.Proofs.YtenjohemplgnmaaDoor.P
