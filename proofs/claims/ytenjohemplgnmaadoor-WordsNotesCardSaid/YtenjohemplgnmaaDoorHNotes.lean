/- Comments, empty lines, and blanks at both ends change nothing but places: plain. -/
import Derived.Test.YtenjohemplgnmaaDoorHBack
import Derived.Test.YtenjohemplgnmaaDoorHTexts
namespace Go.Proofs.YtenjohemplgnmaaDoor.P
open Go.RowKit Go.Proofs.YtenjohemplgnmaaDoorW.PrintWords Go.Proofs.YtenjohemplgnmaaDoorW.PrintLast
set_option linter.unusedSimpArgs false

/-- The words of a line that has no comment any more. -/
def wq (q : ByteArray) (n : Int) : List S35 := tk q n (spl q n q.size).1 (spl q n q.size).2 (q.size : Int)
theorem words_wq (p : ByteArray) (n : Int) : wordsOf p n = wq (ahead p) n := rfl

theorem bt_app_r' (s x : ByteArray) (i : Nat) (h : i < x.size) : isBlank (s ++ x) (s.size + i) = isBlank x i := by
  unfold isBlank
  rw [bt_app_r s x i h]

/-- Blanks ahead move the words, and nothing else: they may have another line, too. -/
theorem spl_shift (bl q : ByteArray) (n m : Int) (hb : ∀ j : Nat, j < bl.size → bt bl (j : Int) = 32) : ∀ i, i ≤ q.size →
    (spl (bl ++ q) n (bl.size + i)).1 = (spl q m i).1 + (bl.size : Int) ∧ (spl (bl ++ q) n (bl.size + i)).2.map S35.f2 = (spl q m i).2.map S35.f2 := by
  have h0 : ∀ k, k ≤ bl.size → spl (bl ++ q) n k = ((k : Int), []) := by
    intro k
    induction k with
    | zero => intro _; rfl
    | succ k ih =>
      intro hk
      have hbk : isBlank (bl ++ q) k = true := by
        unfold isBlank
        rw [bt_app bl q k (by omega), hb k (by omega)]
        rfl
      show (if isBlank (bl ++ q) k = true then _ else _) = _
      rw [if_pos hbk, ih (by omega)]
      unfold tk
      rw [if_neg (by show ¬ ((k : Int) < (k : Int)); omega)]
      rfl
  intro i
  induction i with
  | zero =>
    intro _
    rw [Nat.add_zero, h0 bl.size (Nat.le_refl _)]
    exact ⟨by show (bl.size : Int) = 0 + _; omega, rfl⟩
  | succ i ih =>
    intro hi
    obtain ⟨h1, h2⟩ := ih (by omega)
    have hbi := bt_app_r' bl q i (by omega)
    have hbd := spl_bd q m i
    show (if isBlank (bl ++ q) (bl.size + i) = true then _ else _ : Int × List S35).1 = (if isBlank q i = true then _ else _ : Int × List S35).1 + _ ∧ List.map S35.f2 (if isBlank (bl ++ q) (bl.size + i) = true then _ else _ : Int × List S35).2 = List.map S35.f2 (if isBlank q i = true then _ else _ : Int × List S35).2
    rw [hbi]
    cases hc : isBlank q i with
    | false =>
      rw [if_neg (by decide), if_neg (by decide)]
      exact ⟨h1, h2⟩
    | true =>
      rw [if_pos rfl, if_pos rfl]
      refine ⟨by show ((bl.size + i : Nat) : Int) + 1 = (i : Int) + 1 + (bl.size : Int); omega, ?_⟩
      show (tk (bl ++ q) n (spl (bl ++ q) n (bl.size + i)).1 (spl (bl ++ q) n (bl.size + i)).2 ((bl.size + i : Nat) : Int)).map S35.f2 = (tk q m (spl q m i).1 (spl q m i).2 (i : Int)).map S35.f2
      unfold tk
      rw [h1]
      by_cases c : (spl q m i).1 < (i : Int)
      · rw [if_pos c, if_pos (by omega), List.map_append, List.map_append, h2]
        congr 1
        show [(bl ++ q).extract _ _] = [q.extract _ _]
        congr 1
        obtain ⟨a, ha⟩ := Int.eq_ofNat_of_zero_le hbd.1
        rw [ha, Int.toNat_natCast, Int.toNat_natCast, show ((a : Int) + (bl.size : Int)).toNat = bl.size + a from by omega, Int.toNat_natCast, ByteArray.extract_append]
        rw [show bl.size + a - bl.size = a from by omega, show bl.size + i - bl.size = i from by omega]
        have e : bl.extract (bl.size + a) (bl.size + i) = ByteArray.empty := by
          refine ByteArray.ext ?_
          apply Array.toList_inj.1
          rw [ByteArray.data_extract, Array.toList_extract, List.extract_eq_take_drop, List.drop_of_length_le (by rw [Array.length_toList]; show bl.size ≤ _; omega), List.take_nil]
          rfl
        rw [e, ByteArray.empty_append]
      · rw [if_neg c, if_neg (by omega)]
        exact h2

theorem tk_texts (p q : ByteArray) (n m a b : Int) (xs ys : List S35) (e f : Int) (hxy : xs.map S35.f2 = ys.map S35.f2) (hc : a < e ↔ b < f) (ht : a < e → p.extract a.toNat e.toNat = q.extract b.toNat f.toNat) : (tk p n a xs e).map S35.f2 = (tk q m b ys f).map S35.f2 := by
  unfold tk
  by_cases c : a < e
  · rw [if_pos c, if_pos (hc.1 c), List.map_append, List.map_append, hxy]
    congr 1
    show [_] = [_]
    rw [ht c]
  · rw [if_neg c, if_neg (fun h => c (hc.2 h))]
    exact hxy

theorem wq_shift (bl q : ByteArray) (n m : Int) (hb : ∀ j : Nat, j < bl.size → bt bl (j : Int) = 32) : (wq (bl ++ q) n).map S35.f2 = (wq q m).map S35.f2 := by
  obtain ⟨h1, h2⟩ := spl_shift bl q n m hb q.size (Nat.le_refl _)
  have hbd := spl_bd q m q.size
  unfold wq
  rw [ByteArray.size_append]
  refine tk_texts _ _ _ _ _ _ _ _ _ _ h2 (by rw [h1]; omega) (fun _ => ?_)
  rw [h1]
  obtain ⟨a, ha⟩ := Int.eq_ofNat_of_zero_le hbd.1
  rw [ha, Int.toNat_natCast, Int.toNat_natCast, show ((a : Int) + (bl.size : Int)).toNat = bl.size + a from by omega, Int.toNat_natCast, ByteArray.extract_append]
  rw [show bl.size + a - bl.size = a from by omega, show bl.size + q.size - bl.size = q.size from by omega]
  have e : bl.extract (bl.size + a) (bl.size + q.size) = ByteArray.empty := by
    refine ByteArray.ext ?_
    apply Array.toList_inj.1
    rw [ByteArray.data_extract, Array.toList_extract, List.extract_eq_take_drop, List.drop_of_length_le (by rw [Array.length_toList]; show bl.size ≤ _; omega), List.take_nil]
    rfl
  rw [e, ByteArray.empty_append]

/-- Blanks behind change nothing. -/
theorem wq_tail (q tb : ByteArray) (n : Int) (hb : ∀ j : Nat, j < tb.size → isBlank tb j = true) : wq (q ++ tb) n = wq q n := by
  have hqp : (q ++ tb).extract 0 q.size = q := ByteArray.extract_append_eq_left rfl
  have hsz : (q ++ tb).size = q.size + tb.size := ByteArray.size_append
  have h1 := spl_cut (q ++ tb) n q.size (by omega) q.size (Nat.le_refl _)
  rw [hqp] at h1
  have h2 := tk_cut (q ++ tb) n (spl (q ++ tb) n q.size).1 (spl (q ++ tb) n q.size).2 q.size q.size (Nat.le_refl _)
  rw [hqp] at h2
  have hq : wq q n = tk (q ++ tb) n (spl (q ++ tb) n q.size).1 (spl (q ++ tb) n q.size).2 (q.size : Int) := by
    unfold wq
    rw [h1, h2]
  rcases Nat.eq_zero_or_pos tb.size with h0 | h0
  · rw [hq]
    unfold wq
    rw [hsz, h0, Nat.add_zero]
  · have hbl : ∀ m, m < tb.size → spl (q ++ tb) n (q.size + m + 1) = (((q.size + m + 1 : Nat) : Int), wq q n) := by
      intro m
      induction m with
      | zero =>
        intro h
        show (if isBlank (q ++ tb) (q.size + 0) = true then _ else _) = _
        rw [if_pos (by rw [bt_app_r' q tb 0 h]; exact hb 0 h), hq]
        rfl
      | succ m ih =>
        intro h
        show (if isBlank (q ++ tb) (q.size + (m + 1)) = true then _ else _) = _
        rw [if_pos (by rw [bt_app_r' q tb (m + 1) h]; exact hb (m + 1) h), show q.size + (m + 1) = q.size + m + 1 from by omega, ih (by omega)]
        unfold tk
        rw [if_neg (by show ¬ (((q.size + m + 1 : Nat) : Int) < ((q.size + m + 1 : Nat) : Int)); omega)]
        rfl
    have h3 := hbl (tb.size - 1) (by omega)
    rw [show q.size + (tb.size - 1) + 1 = q.size + tb.size from by omega] at h3
    have h4 : wq (q ++ tb) n = tk (q ++ tb) n (spl (q ++ tb) n (q.size + tb.size)).1 (spl (q ++ tb) n (q.size + tb.size)).2 ((q.size + tb.size : Nat) : Int) := by
      unfold wq
      rw [hsz]
    rw [h4, h3]
    unfold tk
    rw [if_neg (by show ¬ (((q.size + tb.size : Nat) : Int) < ((q.size + tb.size : Nat) : Int)); omega)]

/-- What stands ahead of a comment: known by where the first sign is. -/
theorem ahead_at (p : ByteArray) (e : Nat) (he : e < p.size) (h35 : bt p (e : Int) = 35) (hn : ∀ j : Nat, j < e → bt p (j : Int) ≠ 35) : ahead p = p.extract 0 e := by
  obtain ⟨f, hf, hq, h1, h2⟩ := ahead_is p
  have : f = e := by
    rcases Nat.lt_trichotomy f e with h | h | h
    · rcases h2 with h3 | ⟨_, h4⟩
      · omega
      · exact absurd h4 (hn f h)
    · exact h
    · exact absurd h35 (h1 e h)
  rw [hq, this]

theorem ahead_pre (bl p : ByteArray) (hb : ∀ j : Nat, j < bl.size → bt bl (j : Int) = 32) : ahead (bl ++ p) = bl ++ ahead p := by
  obtain ⟨f, hf, hq, h1, h2⟩ := ahead_is p
  rcases h2 with h3 | ⟨h3, h4⟩
  · rw [hq, h3, ByteArray.extract_zero_size]
    refine ahead_self _ (note_app bl p (fun j hj => by rw [hb j hj]; decide) (fun j hj => h1 j (by omega)))
  · rw [hq, ahead_at (bl ++ p) (bl.size + f) (by rw [ByteArray.size_append]; omega) (by rw [bt_app_r bl p f h3]; exact h4) (fun j hj => ?_)]
    · rw [ByteArray.extract_append]
      rw [show bl.size + f - bl.size = f from by omega, show 0 - bl.size = 0 from by omega]
      congr 1
      refine ByteArray.ext ?_
      apply Array.toList_inj.1
      rw [ByteArray.data_extract, Array.toList_extract, List.extract_eq_take_drop, List.drop_zero, List.take_of_length_le (by rw [Array.length_toList]; show bl.size ≤ _; omega)]
    · rcases Nat.lt_or_ge j bl.size with h | h
      · rw [bt_app bl p j h, hb j h]; decide
      · obtain ⟨k, rfl⟩ : ∃ k, j = bl.size + k := ⟨j - bl.size, by omega⟩
        rw [bt_app_r bl p k (by omega)]
        exact h1 k (by omega)

def tab : ByteArray := ⟨#[32, 9]⟩
def noteSign : ByteArray := ⟨#[32, 9, 35]⟩
theorem tab_blank : ∀ j : Nat, j < tab.size → isBlank tab j = true := by
  intro j hj
  have h2 : j < 2 := hj
  match j, h2 with
  | 0, _ => rfl
  | 1, _ => rfl

/-- The words of a line with a comment behind it are the line's. -/
theorem words_note (p c : ByteArray) (n : Int) : wordsOf (p ++ noteSign ++ c) n = wordsOf p n := by
  rw [words_wq, words_wq, ByteArray.append_assoc]
  obtain ⟨f, hf, hq, h1, h2⟩ := ahead_is p
  rcases h2 with h3 | ⟨h3, h4⟩
  · have hp : ahead p = p := by rw [hq, h3, ByteArray.extract_zero_size]
    have hs : noteSign.size = 3 := rfl
    have ha : ahead (p ++ (noteSign ++ c)) = p ++ tab := by
      rw [ahead_at (p ++ (noteSign ++ c)) (p.size + 2) (by rw [ByteArray.size_append, ByteArray.size_append, hs]; omega) (by rw [bt_app_r p _ 2 (by rw [ByteArray.size_append, hs]; omega), bt_app noteSign c 2 (by decide)]; rfl) (fun j hj => ?_)]
      · rw [ByteArray.extract_append, show p.size + 2 - p.size = 2 from by omega, show 0 - p.size = 0 from by omega, ext_app noteSign c 0 2 (by decide)]
        congr 1
        refine ByteArray.ext ?_
        apply Array.toList_inj.1
        rw [ByteArray.data_extract, Array.toList_extract, List.extract_eq_take_drop, List.drop_zero, List.take_of_length_le (by rw [Array.length_toList]; show p.size ≤ _; omega)]
      · rcases Nat.lt_or_ge j p.size with h | h
        · rw [bt_app p _ j h]; exact h1 j (by omega)
        · obtain ⟨k, rfl⟩ : ∃ k, j = p.size + k := ⟨j - p.size, by omega⟩
          have hk : k < 2 := by omega
          rw [bt_app_r p _ k (by rw [ByteArray.size_append, hs]; omega), bt_app noteSign c k (by rw [hs]; omega)]
          match k, hk with
          | 0, _ => decide
          | 1, _ => decide
    rw [ha, hp, wq_tail p tab n tab_blank]
  · rw [ahead_at (p ++ (noteSign ++ c)) f (by rw [ByteArray.size_append]; omega) (by rw [bt_app p _ f h3]; exact h4) (fun j hj => by rw [bt_app p _ j (by omega)]; exact h1 j hj), hq, ext_app p _ 0 f (by omega)]

theorem words_pre (bl p : ByteArray) (n m : Int) (hb : ∀ j : Nat, j < bl.size → bt bl (j : Int) = 32) : (wordsOf (bl ++ p) n).map S35.f2 = (wordsOf p m).map S35.f2 := by
  rw [words_wq, words_wq, ahead_pre bl p hb]
  exact wq_shift bl (ahead p) n m hb

/-- One line more. -/
def NoEnd (x : ByteArray) : Prop := ∀ j : Nat, j < x.size → bt x (j : Int) ≠ 10
theorem noend_app (a b : ByteArray) (ha : NoEnd a) (hb : NoEnd b) : NoEnd (a ++ b) := fun j hj => by
  rw [ByteArray.size_append] at hj
  rcases Nat.lt_or_ge j a.size with h | h
  · rw [bt_app a b j h]; exact ha j h
  · obtain ⟨k, rfl⟩ : ∃ k, j = a.size + k := ⟨j - a.size, by omega⟩
    rw [bt_app_r a b k (by omega)]
    exact hb k (by omega)
def lf : ByteArray := ⟨#[10]⟩
theorem lf_size : lf.size = 1 := rfl

theorem lt_line (s x : ByteArray) (o : List (List S35)) (n : Nat) (h : lt s s.size = (o, n, s.size)) (hx : NoEnd x) : lt (s ++ x ++ lf) (s ++ x ++ lf).size = (push o (wordsOf x (n : Int)), n + 1, (s ++ x ++ lf).size) := by
  have hsz : (s ++ x ++ lf).size = s.size + x.size + 1 := by rw [ByteArray.size_append, ByteArray.size_append, lf_size]
  have h10 : bt (s ++ x ++ lf) ((s.size + x.size : Nat) : Int) = 10 := by
    have := bt_app_r (s ++ x) lf 0 (by decide)
    rw [Nat.add_zero, ByteArray.size_append] at this
    rw [this]
    rfl
  have hrun : lt (s ++ x ++ lf) (s.size + x.size) = (o, n, s.size) := by
    have h1 := lt_run (s ++ x ++ lf) s.size x.size (fun j h1 h2 => by
      obtain ⟨k, rfl⟩ : ∃ k, j = s.size + k := ⟨j - s.size, by omega⟩
      rw [bt_app _ lf _ (by rw [ByteArray.size_append]; omega), bt_app_r s x k (by omega)]
      exact hx k (by omega))
    rw [h1, ByteArray.append_assoc, lt_app s _ s.size (Nat.le_refl _)]
    exact h
  rw [hsz]
  show (if _ then _ else _) = _
  rw [if_pos h10, hrun]
  show (push o (wordsOf ((s ++ x ++ lf).extract s.size (s.size + x.size)) (n : Int)), _, _) = _
  congr 3
  rw [ext_app (s ++ x) lf s.size (s.size + x.size) (by rw [ByteArray.size_append]; omega)]
  exact ByteArray.extract_append_eq_right rfl rfl

theorem push_alike {o o' : List (List S35)} {r r' : List S35} (h : Alike o o') (hr : r.map S35.f2 = r'.map S35.f2) : Alike (push o r) (push o' r') := by
  have hl : r.length = r'.length := by
    have := congrArg List.length hr
    rwa [List.length_map, List.length_map] at this
  unfold push Alike
  by_cases c : r.length > 0
  · rw [if_pos c, if_pos (by omega), List.map_append, List.map_append]
    show _ ++ [_] = _ ++ [_]
    rw [hr, show o.map (List.map S35.f2) = o'.map (List.map S35.f2) from h]
  · rw [if_neg c, if_neg (by omega)]
    exact h
theorem push_nil (o : List (List S35)) : push o [] = o := by unfold push; rw [if_neg (by decide)]

/-- What has been written when the line that begins at from is to come. -/
structure Copied (w out : ByteArray) (from_ : Nat) : Prop where
  le : from_ ≤ w.size
  same : ∃ o o' n n', lt w from_ = (o, n, from_) ∧ lt out out.size = (o', n', out.size) ∧ Alike o o'
/-- .. and at the end. -/
def Done (w out : ByteArray) : Prop := Alike (rowsOf w) (rowsOf out)

theorem copied_start (w : ByteArray) : Copied w ⟨#[]⟩ 0 := ⟨Nat.zero_le _, [], [], 1, 1, rfl, rfl, rfl⟩

def noteEnd : ByteArray := ⟨#[10, 10, 32, 32, 35]⟩
/-- A line as it is copied. -/
def copyLine (out bl p : ByteArray) (b : Bool) (c : ByteArray) : ByteArray := (if b = true then out ++ bl ++ p ++ noteSign ++ c ++ noteEnd else out ++ bl ++ p) ++ lf

theorem words_hash (n : Int) : wordsOf ⟨#[32, 32, 35]⟩ n = [] := by
  have h := words_note ⟨#[]⟩ ⟨#[]⟩ n
  rw [words_empty] at h
  rw [words_wq, ahead_at ⟨#[32, 32, 35]⟩ 2 (by decide) (by decide) (by decide)]
  have e : (⟨#[32, 32, 35]⟩ : ByteArray).extract 0 2 = ⟨#[]⟩ ++ ⟨#[32, 32]⟩ := by decide
  rw [e, wq_tail ⟨#[]⟩ ⟨#[32, 32]⟩ n (fun j hj => by
    have h2 : j < 2 := hj
    match j, h2 with
    | 0, _ => rfl
    | 1, _ => rfl)]
  rfl

theorem copy_lt (out bl p c : ByteArray) (b : Bool) (o : List (List S35)) (n : Nat) (m : Int) (h : lt out out.size = (o, n, out.size)) (hb : ∀ j : Nat, j < bl.size → bt bl (j : Int) = 32) (hp : NoEnd p) (hc : NoEnd c) :
    ∃ r n', lt (copyLine out bl p b c) (copyLine out bl p b c).size = (push o r, n', (copyLine out bl p b c).size) ∧ r.map S35.f2 = (wordsOf p m).map S35.f2 := by
  have hbn : NoEnd bl := fun j hj => by rw [hb j hj]; decide
  cases b with
  | false =>
    refine ⟨wordsOf (bl ++ p) (n : Int), n + 1, ?_, words_pre bl p (n : Int) m hb⟩
    have := lt_line out (bl ++ p) o n h (noend_app bl p hbn hp)
    rw [← ByteArray.append_assoc] at this
    exact this
  | true =>
    have hns : NoEnd noteSign := fun j hj => by
      have h3 : j < 3 := hj
      match j, h3 with
      | 0, _ => decide
      | 1, _ => decide
      | 2, _ => decide
    have h1 := lt_line out (bl ++ p ++ noteSign ++ c) o n h (noend_app _ c (noend_app _ noteSign (noend_app bl p hbn hp) hns) hc)
    have h2 := lt_line _ ⟨#[]⟩ _ (n + 1) h1 (fun j hj => by cases hj)
    rw [words_empty, push_nil] at h2
    have h3 := lt_line _ ⟨#[32, 32, 35]⟩ _ (n + 1 + 1) h2 (fun j hj => by
      have h3 : j < 3 := hj
      match j, h3 with
      | 0, _ => decide
      | 1, _ => decide
      | 2, _ => decide)
    rw [words_hash, push_nil] at h3
    have e : out ++ (bl ++ p ++ noteSign ++ c) ++ lf ++ ⟨#[]⟩ ++ lf ++ ⟨#[32, 32, 35]⟩ ++ lf = copyLine out bl p true c := by
      unfold copyLine
      rw [if_pos rfl]
      have e1 : noteEnd = lf ++ lf ++ ⟨#[32, 32, 35]⟩ := by decide
      rw [e1]
      simp only [ByteArray.append_assoc]
      rw [show (⟨#[]⟩ : ByteArray) = ByteArray.empty from rfl, ByteArray.empty_append]
    rw [e] at h3
    refine ⟨_, _, h3, ?_⟩
    rw [words_note]
    exact words_pre bl p (n : Int) m hb

theorem ext_noend (w : ByteArray) (a b : Nat) (hb : b ≤ w.size) (h : ∀ j : Nat, a ≤ j → j < b → bt w (j : Int) ≠ 10) : NoEnd (w.extract a b) := fun j hj => by
  rw [ByteArray.size_extract] at hj
  rw [bt_extract w a b j hb (by omega)]
  exact h _ (by omega) (by omega)

theorem copied_line {w out : ByteArray} {from_ : Nat} (h : Copied w out from_) (i : Nat) (hi : i < w.size) (hf : from_ ≤ i) (hno : ∀ j : Nat, from_ ≤ j → j < i → bt w (j : Int) ≠ 10) (h10 : bt w (i : Int) = 10) (bl c : ByteArray) (b : Bool)
    (hb : ∀ j : Nat, j < bl.size → bt bl (j : Int) = 32) (hc : NoEnd c) : Copied w (copyLine out bl (w.extract from_ i) b c) (i + 1) := by
  obtain ⟨o, o', n, n', h1, h2, h3⟩ := h.same
  obtain ⟨r, n2, h4, h5⟩ := copy_lt out bl (w.extract from_ i) c b o' n' (n : Int) h2 hb (ext_noend w from_ i (by omega) hno) hc
  refine ⟨by omega, push o (wordsOf (w.extract from_ i) (n : Int)), push o' r, n + 1, n2, ?_, h4, push_alike h3 h5.symm⟩
  have hrun : lt w i = (o, n, from_) := by
    have := lt_run w from_ (i - from_) (fun j a1 a2 => hno j a1 (by omega))
    rw [show from_ + (i - from_) = i from by omega] at this
    rw [this, h1]
  show (if _ then _ else _) = _
  rw [if_pos h10, hrun]

theorem copied_last {w out : ByteArray} {from_ : Nat} (h : Copied w out from_) (hno : ∀ j : Nat, from_ ≤ j → j < w.size → bt w (j : Int) ≠ 10) (bl c : ByteArray) (b : Bool)
    (hb : ∀ j : Nat, j < bl.size → bt bl (j : Int) = 32) (hc : NoEnd c) : Done w (copyLine out bl (w.extract from_ w.size) b c) := by
  obtain ⟨o, o', n, n', h1, h2, h3⟩ := h.same
  obtain ⟨r, n2, h4, h5⟩ := copy_lt out bl (w.extract from_ w.size) c b o' n' (n : Int) h2 hb (ext_noend w from_ w.size (Nat.le_refl _) hno) hc
  have hrun : lt w w.size = (o, n, from_) := by
    have := lt_run w from_ (w.size - from_) (fun j a1 a2 => hno j a1 (by have := h.le; omega))
    rw [show from_ + (w.size - from_) = w.size from by have := h.le; omega] at this
    rw [this, h1]
  unfold Done
  rw [rows_push w, rows_push (copyLine out bl (w.extract from_ w.size) b c), hrun, h4]
  have e : (copyLine out bl (w.extract from_ w.size) b c).extract (copyLine out bl (w.extract from_ w.size) b c).size (copyLine out bl (w.extract from_ w.size) b c).size = ⟨#[]⟩ := by
    refine ByteArray.ext ?_
    rw [ByteArray.data_extract]
    apply Array.toList_inj.1
    rw [Array.toList_extract, List.extract_eq_take_drop, Nat.sub_self]
    rfl
  show Alike (push o (wordsOf (w.extract from_ w.size) (n : Int))) (push (push o' r) (wordsOf ((copyLine out bl (w.extract from_ w.size) b c).extract (copyLine out bl (w.extract from_ w.size) b c).size (copyLine out bl (w.extract from_ w.size) b c).size) (n2 : Int)))
  rw [e, words_empty, push_nil]
  exact push_alike h3 h5.symm

theorem copy_size (out bl p c : ByteArray) (b : Bool) : (copyLine out bl p b c).size ≤ out.size + bl.size + p.size + c.size + 9 := by
  unfold copyLine
  cases b with
  | true => rw [if_pos rfl]; simp only [ByteArray.size_append, lf_size, show noteSign.size = 3 from rfl, show noteEnd.size = 5 from rfl]; omega
  | false => rw [if_neg (by decide)]; simp only [ByteArray.size_append, lf_size]; omega
end Go.Proofs.YtenjohemplgnmaaDoor.P
