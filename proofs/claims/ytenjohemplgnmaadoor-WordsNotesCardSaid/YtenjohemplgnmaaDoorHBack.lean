/- Words written with blanks between, in lines, are those lines' words: plain. -/
import Derived.Test.YtenjohemplgnmaaDoorPureWordsAll
import Derived.Test.YtenjohemplgnmaaDoorHTame
namespace Go.Proofs.YtenjohemplgnmaaDoor.P
open Go.RowKit Go.Proofs.YtenjohemplgnmaaDoorW.PrintWords Go.Proofs.YtenjohemplgnmaaDoorW.PrintLast
set_option linter.unusedSimpArgs false

def push (out : List (List S35)) (r : List S35) : List (List S35) := if r.length > 0 then out ++ [r] else out

/-- The lines of the first i bytes: their rows of words, the number of the line at hand, where it begins. -/
def lt (s : ByteArray) : Nat → List (List S35) × Nat × Nat
  | 0 => ([], 1, 0)
  | i + 1 => if bt s (i : Int) = 10 then (push (lt s i).1 (wordsOf (s.extract (lt s i).2.2 i) ((lt s i).2.1 : Int)), (lt s i).2.1 + 1, i + 1) else lt s i

theorem linesOf_one (p : ByteArray) (ps : List ByteArray) (n : Nat) : linesOf (p :: ps) n = if (wordsOf p (n : Int)).length > 0 then wordsOf p (n : Int) :: linesOf ps (n + 1) else linesOf ps (n + 1) := rfl

set_option maxHeartbeats 2000000 in
theorem rows_lt (s : ByteArray) : ∀ i d, i + d = s.size → (lt s i).1 ++ linesOf (pcs s d (lt s i).2.2 i) (lt s i).2.1 = rowsOf s := by
  intro i
  induction i with
  | zero =>
    intro d hd
    have : d = s.size := by omega
    rw [this]
    rfl
  | succ i ih =>
    intro d hd
    have h := ih (d + 1) (by omega)
    by_cases c : bt s (i : Int) = 10
    · have hp : pcs s (d + 1) (lt s i).2.2 i = s.extract (lt s i).2.2 i :: pcs s d (i + 1) (i + 1) := by
        show (if _ then _ else _) = _
        rw [if_pos c]
      have hl : lt s (i + 1) = (push (lt s i).1 (wordsOf (s.extract (lt s i).2.2 i) ((lt s i).2.1 : Int)), (lt s i).2.1 + 1, i + 1) := by
        show (if _ then _ else _) = _
        rw [if_pos c]
      rw [hp, linesOf_one] at h
      rw [hl, ← h]
      unfold push
      by_cases hw : (wordsOf (s.extract (lt s i).2.2 i) ((lt s i).2.1 : Int)).length > 0
      · rw [if_pos hw, if_pos hw]
        show (_ ++ [_]) ++ _ = _
        rw [List.append_assoc]
        rfl
      · rw [if_neg hw, if_neg hw]
    · have hp : pcs s (d + 1) (lt s i).2.2 i = pcs s d (lt s i).2.2 (i + 1) := by
        show (if _ then _ else _) = _
        rw [if_neg c]
      have hl : lt s (i + 1) = lt s i := by
        show (if _ then _ else _) = _
        rw [if_neg c]
      rw [hp] at h
      rw [hl]
      exact h

theorem rows_push (s : ByteArray) : rowsOf s = push (lt s s.size).1 (wordsOf (s.extract (lt s s.size).2.2 s.size) ((lt s s.size).2.1 : Int)) := by
  rw [← rows_lt s s.size 0 rfl]
  show _ ++ linesOf [_] _ = _
  rw [linesOf_one]
  unfold push
  split
  · rfl
  · exact List.append_nil _

theorem lt_bd (s : ByteArray) (i : Nat) : (lt s i).2.2 ≤ i := by
  induction i with
  | zero => exact Nat.le_refl _
  | succ i ih =>
    unfold lt
    split
    · exact Nat.le_refl _
    · omega

theorem bt_app (s x : ByteArray) (i : Nat) (h : i < s.size) : bt (s ++ x) (i : Int) = bt s (i : Int) := by
  rw [bt_cast s i h, bt_cast _ i (by rw [ByteArray.size_append]; omega), ByteArray.getElem_append_left h]
theorem bt_app_r (s x : ByteArray) (i : Nat) (h : i < x.size) : bt (s ++ x) ((s.size + i : Nat) : Int) = bt x (i : Int) := by
  rw [bt_cast x i h, bt_cast _ (s.size + i) (by rw [ByteArray.size_append]; omega), ByteArray.getElem_append_right (by omega)]
  congr 2
  simp only [Nat.add_sub_cancel_left]
theorem ext_app (s x : ByteArray) (a b : Nat) (h : b ≤ s.size) : (s ++ x).extract a b = s.extract a b := by
  have e : s = (s ++ x).extract 0 s.size := (ByteArray.extract_append_eq_left rfl).symm
  conv => rhs; rw [e]
  rw [ByteArray.extract_extract, Nat.zero_add, Nat.zero_add, Nat.min_eq_left (by omega)]
theorem ext_app_r (s x : ByteArray) (a : Nat) (h : a ≤ s.size) : (s ++ x).extract a (s ++ x).size = s.extract a s.size ++ x := by
  rw [ByteArray.extract_append]
  rw [ByteArray.size_append, Nat.add_sub_cancel_left, show a - s.size = 0 from by omega, ByteArray.extract_zero_size]
  congr 1
  refine ByteArray.ext ?_
  rw [ByteArray.data_extract, ByteArray.data_extract]
  apply Array.toList_inj.1
  rw [Array.toList_extract, Array.toList_extract, List.extract_eq_take_drop, List.extract_eq_take_drop]
  rw [List.take_of_length_le (by rw [List.length_drop, Array.length_toList]; show s.size - a ≤ _; omega), List.take_of_length_le (by rw [List.length_drop, Array.length_toList]; show s.size - a ≤ _; omega)]

theorem lt_app (s x : ByteArray) : ∀ i, i ≤ s.size → lt (s ++ x) i = lt s i
  | 0, _ => rfl
  | i + 1, h => by
    unfold lt
    rw [lt_app s x i (by omega), bt_app s x i (by omega), ext_app s x _ i (by omega)]
theorem lt_run (s : ByteArray) (i : Nat) : ∀ m, (∀ j, i ≤ j → j < i + m → bt s ((j : Nat) : Int) ≠ 10) → lt s (i + m) = lt s i
  | 0, _ => rfl
  | m + 1, h => by
    show (if bt s ((i + m : Nat) : Int) = 10 then _ else _) = _
    rw [if_neg (h (i + m) (by omega) (by omega))]
    exact lt_run s i m (fun j h1 h2 => h j h1 (by omega))

/-- No sign of a comment. -/
def NoNote (s : ByteArray) : Prop := ∀ j : Nat, j < s.size → bt s (j : Int) ≠ 35
theorem ahead_self (p : ByteArray) (h : NoNote p) : ahead p = p := by
  obtain ⟨e, he, hq, _, hend⟩ := ahead_is p
  rcases hend with h1 | ⟨h1, h2⟩
  · rw [hq, h1, ByteArray.extract_zero_size]
  · exact absurd h2 (h e h1)
theorem note_app (s x : ByteArray) (hs : NoNote s) (hx : NoNote x) : NoNote (s ++ x) := fun j hj => by
  rw [ByteArray.size_append] at hj
  rcases Nat.lt_or_ge j s.size with h | h
  · rw [bt_app s x j h]; exact hs j h
  · obtain ⟨k, rfl⟩ : ∃ k, j = s.size + k := ⟨j - s.size, by omega⟩
    rw [bt_app_r s x k (by omega)]
    exact hx k (by omega)
theorem note_ext (s : ByteArray) (a b : Nat) (hb : b ≤ s.size) (hs : NoNote s) : NoNote (s.extract a b) := fun j hj => by
  rw [ByteArray.size_extract] at hj
  rw [bt_extract s a b j hb (by omega)]
  exact hs _ (by omega)

/-- Blanks; a word. -/
def Blanks (b : ByteArray) : Prop := 0 < b.size ∧ ∀ j : Nat, j < b.size → bt b (j : Int) = 32
theorem word_bytes (w : ByteArray) (h : AllWord w) (j : Nat) (hj : j < w.size) : bt w (j : Int) ≠ 32 ∧ bt w (j : Int) ≠ 9 ∧ bt w (j : Int) ≠ 10 ∧ bt w (j : Int) ≠ 35 := by
  have hb := h (w.data.toList[j]'(by simpa using hj)) (List.getElem_mem _)
  rw [bt_lt w j hj]
  refine ⟨fun e => hb.1 (UInt8.toNat_inj.1 ?_), fun e => hb.2.1 (UInt8.toNat_inj.1 ?_), fun e => hb.2.2.1 (UInt8.toNat_inj.1 ?_), fun e => hb.2.2.2 (UInt8.toNat_inj.1 ?_)⟩
  · show _ = 32; omega
  · show _ = 9; omega
  · show _ = 10; omega
  · show _ = 35; omega

theorem words_app (p bl w : ByteArray) (n : Int) (hp : NoNote p) (hb : Blanks bl) (hw : AllWord w) (hw1 : 1 ≤ w.size) :
    wordsOf (p ++ bl ++ w) n = wordsOf p n ++ [⟨n, ((p.size + bl.size : Nat) : Int), w⟩] := by
  have hnb : NoNote bl := fun j hj => by rw [hb.2 j hj]; decide
  have hnw : NoNote w := fun j hj => (word_bytes w hw j hj).2.2.2
  have hq := ahead_self _ (note_app _ w (note_app p bl hp hnb) hnw)
  obtain ⟨q, hqd⟩ : ∃ q, q = p ++ bl ++ w := ⟨_, rfl⟩
  have hqp : q.extract 0 p.size = p := by rw [hqd, ByteArray.append_assoc]; exact ByteArray.extract_append_eq_left rfl
  have hqs : q.size = p.size + bl.size + w.size := by rw [hqd, ByteArray.size_append, ByteArray.size_append]
  have hbb : ∀ j : Nat, j < bl.size → isBlank q (p.size + j) = true := fun j hj => by
    unfold isBlank
    rw [hqd, bt_app _ w _ (by rw [ByteArray.size_append]; omega), bt_app_r p bl j hj, hb.2 j hj]
    rfl
  have hbw : ∀ j : Nat, j < w.size → isBlank q (p.size + bl.size + j) = false := fun j hj => by
    have h := word_bytes w hw j hj
    unfold isBlank
    rw [hqd, show p.size + bl.size + j = (p ++ bl).size + j from by rw [ByteArray.size_append], bt_app_r (p ++ bl) w j hj]
    simp [h.1, h.2.1]
  have hwp : wordsOf p n = tk q n (spl q n p.size).1 (spl q n p.size).2 (p.size : Int) := by
    unfold wordsOf
    rw [ahead_self p hp]
    have h1 := spl_cut q n p.size (by omega) p.size (Nat.le_refl _)
    rw [hqp] at h1
    rw [h1]
    have h2 := tk_cut q n (spl q n p.size).1 (spl q n p.size).2 p.size p.size (Nat.le_refl _)
    rw [hqp] at h2
    exact h2
  have hbl : ∀ m, m < bl.size → spl q n (p.size + m + 1) = (((p.size + m + 1 : Nat) : Int), wordsOf p n) := by
    intro m
    induction m with
    | zero =>
      intro h
      show (if isBlank q (p.size + 0) = true then _ else _) = _
      rw [if_pos (hbb 0 h), hwp]
      rfl
    | succ m ih =>
      intro h
      show (if isBlank q (p.size + (m + 1)) = true then _ else _) = _
      rw [if_pos (hbb (m + 1) h), show p.size + (m + 1) = p.size + m + 1 from by omega, ih (by omega)]
      unfold tk
      rw [if_neg (by show ¬ (((p.size + m + 1 : Nat) : Int) < ((p.size + m + 1 : Nat) : Int)); omega)]
      rfl
  have hwd : ∀ m, m ≤ w.size → spl q n (p.size + bl.size + m) = (((p.size + bl.size : Nat) : Int), wordsOf p n) := by
    intro m
    induction m with
    | zero =>
      intro h
      have h1 := hbl (bl.size - 1) (by have := hb.1; omega)
      rw [show p.size + (bl.size - 1) + 1 = p.size + bl.size from by have := hb.1; omega] at h1
      exact h1
    | succ m ih =>
      intro h
      show (if isBlank q (p.size + bl.size + m) = true then _ else _) = _
      rw [if_neg (by rw [hbw m (by omega)]; decide)]
      exact ih (by omega)
  unfold wordsOf
  rw [hq, ← hqd, hqs, hwd w.size (Nat.le_refl _)]
  unfold tk
  rw [if_pos (by show ((p.size + bl.size : Nat) : Int) < _; omega)]
  show wordsOf p n ++ [_] = _
  congr 3
  show q.extract (((p.size + bl.size : Nat) : Int)).toNat (((p.size + bl.size + w.size : Nat) : Int)).toNat = w
  rw [Int.toNat_natCast, Int.toNat_natCast, hqd]
  exact ByteArray.extract_append_eq_right (by rw [ByteArray.size_append]) (by rw [ByteArray.size_append])

theorem words_empty (n : Int) : wordsOf ⟨#[]⟩ n = [] := by
  unfold wordsOf
  rw [ahead_self ⟨#[]⟩ (fun j hj => by cases hj)]
  rfl

/-- What has been written so far. -/
structure Written (s : ByteArray) (want : List (List S35)) (row : List S35) (n b : Nat) : Prop where
  lt : lt s s.size = (want, n, b)
  note : NoNote s
  row : wordsOf (s.extract b s.size) (n : Int) = row

theorem written_start : Written ⟨#[]⟩ [] [] 1 0 := ⟨rfl, (fun j hj => by cases hj), words_empty _⟩

theorem written_word {s : ByteArray} {want : List (List S35)} {row : List S35} {n b : Nat} (h : Written s want row n b) (bl w : ByteArray) (hb : Blanks bl) (hw : AllWord w) (hw1 : 1 ≤ w.size) :
    Written (s ++ bl ++ w) want (row ++ [⟨(n : Int), (((s ++ bl).size : Nat) : Int) - (b : Int), w⟩]) n b := by
  have hbs : b ≤ s.size := by have := lt_bd s s.size; rw [h.lt] at this; exact this
  have hnb : NoNote bl := fun j hj => by rw [hb.2 j hj]; decide
  have hnw : NoNote w := fun j hj => (word_bytes w hw j hj).2.2.2
  refine ⟨?_, note_app _ w (note_app s bl h.note hnb) hnw, ?_⟩
  · rw [ByteArray.append_assoc]
    have h1 := lt_run (s ++ (bl ++ w)) s.size (bl ++ w).size (fun j h1 h2 => by
      obtain ⟨k, rfl⟩ : ∃ k, j = s.size + k := ⟨j - s.size, by omega⟩
      rw [bt_app_r s _ k (by omega)]
      rw [ByteArray.size_append] at h2
      rcases Nat.lt_or_ge k bl.size with h3 | h3
      · rw [bt_app bl w k h3, hb.2 k h3]; decide
      · obtain ⟨m, rfl⟩ : ∃ m, k = bl.size + m := ⟨k - bl.size, by omega⟩
        rw [bt_app_r bl w m (by omega)]
        exact (word_bytes w hw m (by omega)).2.2.1)
    rw [show (s ++ (bl ++ w)).size = s.size + (bl ++ w).size from ByteArray.size_append, h1, lt_app s _ s.size (Nat.le_refl _)]
    exact h.lt
  · rw [ByteArray.append_assoc, ext_app_r s (bl ++ w) b hbs, ← ByteArray.append_assoc, words_app _ bl w (n : Int) (note_ext s b s.size (Nat.le_refl _) h.note) hb hw hw1, h.row]
    congr 3
    rw [ByteArray.size_extract, ByteArray.size_append]
    omega

theorem written_line {s : ByteArray} {want : List (List S35)} {row : List S35} {n b : Nat} (h : Written s want row n b) (hr : 0 < row.length) :
    Written (s ++ ⟨#[10]⟩) (want ++ [row]) [] (n + 1) (s.size + 1) := by
  have hsz : (s ++ ⟨#[10]⟩).size = s.size + 1 := by rw [ByteArray.size_append]; rfl
  have h10 : bt (s ++ ⟨#[10]⟩) ((s.size : Nat) : Int) = 10 := by
    have := bt_app_r s ⟨#[10]⟩ 0 (by decide)
    rw [Nat.add_zero] at this
    rw [this]
    rfl
  refine ⟨?_, note_app s _ h.note (fun j hj => ?_), ?_⟩
  · rw [hsz]
    show (if _ then _ else _) = _
    rw [if_pos h10, lt_app s _ s.size (Nat.le_refl _), h.lt, ext_app s _ _ _ (Nat.le_refl _)]
    show (push want (wordsOf (s.extract b s.size) (n : Int)), _, _) = _
    rw [h.row]
    unfold push
    rw [if_pos hr]
  · have hj1 : j < 1 := hj
    obtain rfl : j = 0 := by omega
    decide
  · rw [hsz]
    have e : (s ++ ⟨#[10]⟩).extract (s.size + 1) (s.size + 1) = ⟨#[]⟩ := by
      refine ByteArray.ext ?_
      rw [ByteArray.data_extract]
      apply Array.toList_inj.1
      rw [Array.toList_extract, List.extract_eq_take_drop, Nat.sub_self]
      rfl
    rw [e]
    exact words_empty _

theorem written_end {s : ByteArray} {want : List (List S35)} {row : List S35} {n b : Nat} (h : Written s want row n b) : rowsOf s = push want row := by
  rw [rows_push s, h.lt]
  show push want (wordsOf (s.extract b s.size) (n : Int)) = _
  rw [h.row]
end Go.Proofs.YtenjohemplgnmaaDoor.P
