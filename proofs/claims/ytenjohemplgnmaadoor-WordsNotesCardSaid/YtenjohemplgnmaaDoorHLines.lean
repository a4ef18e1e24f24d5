/- The program's lines of any source are the reference's. -/
import Derived.Test.YtenjohemplgnmaaDoorHOne
import Derived.Test.YtenjohemplgnmaaDoorPx4
namespace Go.Proofs.YtenjohemplgnmaaDoor.P
open Go.RowKit Go.Proofs.YtenjohemplgnmaaDoorW.PrintWords Go.Proofs.YtenjohemplgnmaaDoorW.PrintLast

/-- A line ahead of its comment. -/
def ahead (p : ByteArray) : ByteArray := (cutB p ⟨#[35]⟩).1
/-- The words of a line. -/
def wordsOf (p : ByteArray) (line : Int) : List S35 := tk (ahead p) line (spl (ahead p) line (ahead p).size).1 (spl (ahead p) line (ahead p).size).2 (ahead p).size

theorem ahead_is (p : ByteArray) : ∃ e : Nat, e ≤ p.size ∧ ahead p = p.extract 0 e ∧ (∀ j : Nat, j < e → bt p j ≠ 35) ∧ (e = p.size ∨ e < p.size ∧ bt p e = 35) := by
  unfold ahead cutB
  rcases index_bt p 35 with ⟨h1, h2⟩ | ⟨i, h1, h2, h3, h4⟩
  · rw [if_pos h1]
    exact ⟨p.size, Nat.le_refl _, ByteArray.extract_zero_size.symm, fun j hj => h2 j hj, .inl rfl⟩
  · rw [if_neg (by omega), h1]
    exact ⟨i, by omega, rfl, fun j hj => h4 j hj, .inr ⟨h2, h3⟩⟩

theorem ahead_size (p : ByteArray) : (ahead p).size ≤ p.size := by
  obtain ⟨e, h1, h2, _⟩ := ahead_is p
  rw [h2, ByteArray.size_extract]
  omega

theorem tk_cut (p : ByteArray) (line at_ : Int) (xs : List S35) (e b : Nat) (hb : b ≤ e) : tk (p.extract 0 e) line at_ xs (b : Int) = tk p line at_ xs (b : Int) := by
  unfold tk
  rw [ByteArray.extract_extract, Nat.zero_add, Int.toNat_natCast, Nat.zero_add, Nat.min_eq_left hb]

theorem blank_cut (p : ByteArray) (e i : Nat) (he : e ≤ p.size) (hi : i < e) : isBlank (p.extract 0 e) i = isBlank p i := by
  unfold isBlank
  rw [bt_extract p 0 e i he (by omega), Nat.zero_add]

theorem spl_cut (p : ByteArray) (line : Int) (e : Nat) (he : e ≤ p.size) : ∀ i, i ≤ e → spl (p.extract 0 e) line i = spl p line i
  | 0, _ => rfl
  | i + 1, hi => by
    unfold spl
    rw [spl_cut p line e he i (by omega), blank_cut p e i he (by omega), tk_cut p line _ _ e i (by omega)]

theorem one_ev (p : ByteArray) (line : Int) (hs : p.size < 4294967296) : Ev (fun k => R05_one.f k p line) ((wordsOf p line).map conv) := by
  obtain ⟨e, he, hq, hno, hend⟩ := ahead_is p
  have hsz : (ahead p).size = e := by rw [hq, ByteArray.size_extract]; omega
  have hW : wordsOf p line = told p line e e := by
    unfold wordsOf
    rw [told_end, hsz, hq, spl_cut p line e he e (Nat.le_refl _), tk_cut p line _ _ e e (Nat.le_refl _)]
  rw [hW]
  have fin : Ev (fun k => R05_one.j1 k p line (e : Int)) ((told p line e e).map conv) := by
    refine evs ?_
    simp only [R05_one.j1]
    have := l1_ev p line e he hs e 0 (by omega)
    have h0 : told p line e 0 = [] := by
      unfold told
      rfl
    rw [h0] at this
    exact this
  have go : ∀ d i, i + d = e → Ev (fun k => R05_one.l0 k p line (i : Int)) ((told p line e e).map conv) := by
    intro d
    induction d with
    | zero =>
      intro i hi
      have : i = e := by omega
      subst this
      refine evs ?_
      simp only [R05_one.l0]
      rcases hend with h | ⟨h, h35⟩
      · have h1 : ¬ ((i : Int) < (p.size : Int)) := by omega
        simp only [h1, if_false]
        exact fin
      · have h1 : ((i : Int) < (p.size : Int)) := by omega
        have h2 : (0 : Int) ≤ (i : Int) := by omega
        simp only [h1, h2, h35, if_true]
        exact fin
    | succ d ih =>
      intro i hi
      refine evs ?_
      simp only [R05_one.l0]
      have h1 : ((i : Int) < (p.size : Int)) := by omega
      have h2 : (0 : Int) ≤ (i : Int) := by omega
      have h3 : ¬ (bt p i = 35) := hno i (by omega)
      simp only [h1, h2, h3, if_true, if_false, wrapc i (by omega)]
      exact ih (i + 1) (by omega)
  exact go e 0 (by omega)

/-- A source's lines: from is where the one at hand begins, i how far it has been looked at. -/
def pcs (s : ByteArray) : Nat → Nat → Nat → List ByteArray
  | 0, b, _ => [s.extract b s.size]
  | d + 1, b, i => if bt s i = 10 then s.extract b i :: pcs s d (i + 1) (i + 1) else pcs s d b (i + 1)

theorem pcs_run (s : ByteArray) (b : Nat) : ∀ m d i, (∀ j : Nat, i ≤ j → j < i + m → bt s j ≠ 10) → pcs s (m + d) b i = pcs s d b (i + m)
  | 0, d, i, _ => by simp
  | m + 1, d, i, h => by
    rw [show m + 1 + d = (m + d) + 1 from by omega]
    unfold pcs
    rw [if_neg (h i (Nat.le_refl _) (by omega)), pcs_run s b m d (i + 1) (fun j h1 h2 => h j (by omega) (by omega))]
    rw [show i + 1 + m = i + (m + 1) from by omega]
    cases d <;> rfl

theorem pieces (s : ByteArray) : ∀ n b, b + n = s.size → Lib.splitB ⟨#[10]⟩ 0 (Lib.countB (s.extract b s.size) ⟨#[10]⟩) (s.extract b s.size) = pcs s n b b := by
  intro n
  induction n using Nat.strongRecOn with
  | _ n ih =>
    intro b hb
    have hsz : (s.extract b s.size).size = n := by rw [ByteArray.size_extract]; omega
    rcases index_bt (s.extract b s.size) 10 with ⟨h1, h2⟩ | ⟨i, h1, h2, h3, h4⟩
    · rw [Lib.countB_miss _ _ h1, Lib.splitB_zero]
      have := pcs_run s b n 0 b (fun j hj1 hj2 => by
        have := h2 (j - b) (by omega)
        rw [bt_extract s b s.size (j - b) (Nat.le_refl _) (by omega), show b + (j - b) = j from by omega] at this
        exact this)
      rw [Nat.add_zero] at this
      rw [this]
      rfl
    · rw [hsz] at h2
      have hc := Lib.countB_hit (s.extract b s.size) ⟨#[10]⟩ i (Nat.le_refl 1) h1
      rw [hc, Nat.add_comm 1, Lib.splitB_hit _ _ _ _ i h1]
      have e1 : (s.extract b s.size).extract (i + (⟨#[10]⟩ : ByteArray).size) (s.extract b s.size).size = s.extract (b + i + 1) s.size := by
        rw [ByteArray.extract_extract, hsz]
        congr 1
        omega
      rw [e1, ih (n - i - 1) (by omega) (b + i + 1) (by omega)]
      have e2 : (s.extract b s.size).extract 0 (i + 0) = s.extract b (b + i) := by
        rw [ByteArray.extract_extract]
        congr 1
        omega
      rw [e2]
      have := pcs_run s b i (n - i) b (fun j hj1 hj2 => by
        have := h4 (j - b) (by omega)
        rw [bt_extract s b s.size (j - b) (Nat.le_refl _) (by omega), show b + (j - b) = j from by omega] at this
        exact this)
      rw [show i + (n - i) = n from by omega] at this
      rw [this]
      obtain ⟨d, hd⟩ : ∃ d, n - i = d + 1 := ⟨n - i - 1, by omega⟩
      rw [hd, Nat.add_sub_cancel]
      show _ = (if _ then _ else _)
      have h5 : bt s ((b + i : Nat) : Int) = 10 := by
        have h6 : bt (s.extract b s.size) (i : Int) = 10 := h3
        rwa [bt_extract s b s.size i (Nat.le_refl _) (by omega)] at h6
      rw [if_pos h5]


/-- The rows of words that lines have, the first of these lines being number n. -/
def linesOf : List ByteArray → Nat → List (List S35)
  | [], _ => []
  | p :: ps, n => if (wordsOf p (n : Int)).length > 0 then wordsOf p (n : Int) :: linesOf ps (n + 1) else linesOf ps (n + 1)

theorem pcs_size (s : ByteArray) : ∀ d b i, ∀ p ∈ pcs s d b i, p.size ≤ s.size
  | 0, b, i => fun p hp => by
    simp only [pcs, List.mem_singleton] at hp
    rw [hp, ByteArray.size_extract]
    omega
  | d + 1, b, i => fun p hp => by
    unfold pcs at hp
    split at hp
    · rcases List.mem_cons.1 hp with h | h
      · rw [h, ByteArray.size_extract]; omega
      · exact pcs_size s d _ _ p h
    · exact pcs_size s d _ _ p hp
theorem pcs_len (s : ByteArray) : ∀ d b i, (pcs s d b i).length ≤ d + 1 ∧ 0 < (pcs s d b i).length
  | 0, b, i => ⟨Nat.le_refl _, by simp [pcs]⟩
  | d + 1, b, i => by
    unfold pcs
    split
    · have := pcs_len s d (i + 1) (i + 1)
      simp only [List.length_cons]
      omega
    · have := pcs_len s d b (i + 1)
      omega

theorem cut_tell (p : ByteArray) (h : p.size < 4294967281) : strings_Cut.f p ⟨#[35]⟩ = some (cutB p ⟨#[35]⟩) := by
  unfold strings_Cut.f
  rw [if_pos ⟨rfl, h⟩]
theorem split_tell (p : ByteArray) (line : Int) (h : p.size < 4294967281) : words_split.f (cutB p ⟨#[35]⟩).1 line = some (wordsOf p line) := by
  unfold words_split.f
  have := ahead_size p
  have h2 : (cutB p ⟨#[35]⟩).1.size < 4398046511103 := by
    show (ahead p).size < _
    omega
  rw [if_pos h2]
  rfl

theorem lines_loop (ps : List ByteArray) (hps : ∀ p ∈ ps, p.size < 4294967281) (hl : ps.length < 4294967281) : ∀ n i out, i + n = ps.length → out.length ≤ i →
    Ev (fun k => words_Lines.l0 k out ps (ps.length : Int) (i : Int)) (out ++ linesOf (ps.drop i) (i + 1)) := by
  intro n
  induction n with
  | zero =>
    intro i out hi ho
    refine evs ?_
    simp only [words_Lines.l0]
    have h1 : ¬ ((i : Int) < (ps.length : Int)) := by omega
    simp only [h1, if_false]
    rw [List.drop_eq_nil_of_le (by omega)]
    rw [show out ++ linesOf [] (i + 1) = out from List.append_nil _]
    exact Ev.now _
  | succ n ih =>
    intro i out hi ho
    refine evs ?_
    simp only [words_Lines.l0]
    have h1 : ((i : Int) < (ps.length : Int)) := by omega
    have h2 : (0 : Int) ≤ (i : Int) := by omega
    have hlt : i < ps.length := by omega
    have hrd : rdOf ByteArray.empty ps (i : Int) = ps[i] := by
      unfold rdOf
      rw [Int.toNat_natCast, List.getD_eq_getElem?_getD, List.getElem?_eq_getElem hlt]
      rfl
    have hp : ps[i].size < 4294967281 := hps _ (List.getElem_mem hlt)
    have hd : ps.drop i = ps[i] :: ps.drop (i + 1) := List.drop_eq_getElem_cons hlt
    simp only [h1, h2, if_true, hrd, cut_tell _ hp, Option.bind_some, wrapc i (by omega), split_tell _ _ hp]
    rw [hd]
    show Ev _ (out ++ (if _ then _ else _))
    by_cases hw : (wordsOf ps[i] ((i + 1 : Nat) : Int)).length > 0
    · have h3 : ((wordsOf ps[i] ((i + 1 : Nat) : Int)).length : Int) > 0 := by omega
      have h4 : out.length < 5864062014805 := by omega
      rw [if_pos hw]
      simp only [h3, h4, if_true]
      have := ih (i + 1) (out ++ [wordsOf ps[i] ((i + 1 : Nat) : Int)]) (by omega) (by simp; omega)
      rw [List.append_assoc] at this
      exact this
    · have h3 : ¬ ((wordsOf ps[i] ((i + 1 : Nat) : Int)).length : Int) > 0 := by omega
      rw [if_neg hw]
      simp only [h3, if_false]
      exact ih (i + 1) out (by omega) (by omega)

/-- The rows of words of a source. -/
def rowsOf (s : ByteArray) : List (List S35) := linesOf (pcs s s.size 0 0) 1

theorem lines_ev (s : ByteArray) (hs : s.size < 4294967280) : Ev (fun k => words_Lines.f k s) (rowsOf s) := by
  unfold words_Lines.f strings_Split.f
  rw [if_pos ⟨rfl, by omega⟩]
  have h0 := pieces s s.size 0 (by omega)
  rw [ByteArray.extract_zero_size] at h0
  simp only [Option.bind_some, h0]
  have hl := pcs_len s s.size 0 0
  have := lines_loop (pcs s s.size 0 0) (fun p hp => by have := pcs_size s s.size 0 0 p hp; omega) (by omega) (pcs s s.size 0 0).length 0 [] (by omega) (Nat.le_refl _)
  exact this

theorem ref_loop (s : ByteArray) (hs : s.size < 4294967280) : ∀ n b i (out : List (List S36)) (line : Nat), b ≤ i → i + n = s.size → out.length ≤ line → line ≤ i + 1 →
    Ev (fun k => R05_Lines.l0 k s out (b : Int) (line : Int) (i : Int)) (out ++ (linesOf (pcs s n b i) line).map (List.map conv)) := by
  intro n
  induction n with
  | zero =>
    intro b i out line hb hi ho hn
    refine evs ?_
    simp only [R05_Lines.l0]
    have h1 : ((i : Int) ≤ (s.size : Int)) := by omega
    have h2 : ¬ ((i : Int) < (s.size : Int)) := by omega
    simp only [h1, h2, if_true, if_false]
    refine evs ?_
    simp only [R05_Lines.j1, Bool.false_eq_true, if_false]
    have h3 : (0 : Int) ≤ (b : Int) := by omega
    have h4 : (b : Int) ≤ (i : Int) := by omega
    have hi' : i = s.size := by omega
    subst hi'
    simp only [h3, h4, h1, if_true, Int.toNat_natCast]
    refine Ev.bind (one_ev _ _ (by rw [ByteArray.size_extract]; omega)) ?_
    have hend : ∀ (o : List (List S36)) (b' l' : Int), Ev (fun k => R05_Lines.l0 k s o b' l' ((s.size + 1 : Nat) : Int)) o := fun o b' l' => by
      refine evs ?_
      simp only [R05_Lines.l0]
      have h5 : ¬ (((s.size + 1 : Nat) : Int) ≤ (s.size : Int)) := by omega
      simp only [h5, if_false]
      exact Ev.now _
    simp only [pcs, linesOf]
    by_cases hw : (wordsOf (s.extract b s.size) (line : Int)).length > 0
    · have h6 : (((wordsOf (s.extract b s.size) (line : Int)).map conv).length : Int) > 0 := by rw [List.length_map]; omega
      have h7 : out.length < 5864062014805 := by omega
      simp only [h6, h7, hw, if_true, wrapc s.size (by omega), List.map_cons, List.map_nil]
      exact hend _ _ _
    · have h6 : ¬ (((wordsOf (s.extract b s.size) (line : Int)).map conv).length : Int) > 0 := by rw [List.length_map]; omega
      simp only [h6, hw, if_false, wrapc s.size (by omega), List.map_nil, List.append_nil]
      exact hend _ _ _
  | succ n ih =>
    intro b i out line hb hi ho hn
    refine evs ?_
    simp only [R05_Lines.l0]
    have h1 : ((i : Int) ≤ (s.size : Int)) := by omega
    have h2 : ((i : Int) < (s.size : Int)) := by omega
    have h0 : (0 : Int) ≤ (i : Int) := by omega
    simp only [h1, h2, h0, if_true]
    refine evs ?_
    simp only [R05_Lines.j1]
    show Ev _ (out ++ (linesOf (if _ then _ else _) line).map (List.map conv))
    by_cases h10 : bt s (i : Int) = 10
    · have h8 : (bt s (i : Int) != 10) = false := by simp [h10]
      have h3 : (0 : Int) ≤ (b : Int) := by omega
      have h4 : (b : Int) ≤ (i : Int) := by omega
      rw [if_pos h10]
      simp only [h8, Bool.false_eq_true, if_false, h3, h4, h1, if_true, Int.toNat_natCast]
      refine Ev.bind (one_ev _ _ (by rw [ByteArray.size_extract]; omega)) ?_
      simp only [linesOf]
      by_cases hw : (wordsOf (s.extract b i) (line : Int)).length > 0
      · have h6 : (((wordsOf (s.extract b i) (line : Int)).map conv).length : Int) > 0 := by rw [List.length_map]; omega
        have h7 : out.length < 5864062014805 := by omega
        simp only [h6, h7, hw, if_true, wrapc i (by omega), wrapc line (by omega), List.map_cons]
        have := ih (i + 1) (i + 1) (out ++ [(wordsOf (s.extract b i) (line : Int)).map conv]) (line + 1) (Nat.le_refl _) (by omega) (by simp; omega) (by omega)
        rw [List.append_assoc] at this
        exact this
      · have h6 : ¬ (((wordsOf (s.extract b i) (line : Int)).map conv).length : Int) > 0 := by rw [List.length_map]; omega
        simp only [h6, hw, if_false, wrapc i (by omega), wrapc line (by omega)]
        exact ih (i + 1) (i + 1) out (line + 1) (Nat.le_refl _) (by omega) (by omega) (by omega)
    · have h8 : (bt s (i : Int) != 10) = true := by simp [h10]
      rw [if_neg h10]
      simp only [h8, if_true, wrapc i (by omega)]
      exact ih b (i + 1) out line (by omega) (by omega) ho (by omega)

theorem ref_ev (s : ByteArray) (hs : s.size < 4294967280) : Ev (fun k => R05_Lines.f k s) ((rowsOf s).map (List.map conv)) :=
  ref_loop s hs s.size 0 0 [] 1 (Nat.le_refl _) (by omega) (by decide) (by omega)

end Go.Proofs.YtenjohemplgnmaaDoor.P
