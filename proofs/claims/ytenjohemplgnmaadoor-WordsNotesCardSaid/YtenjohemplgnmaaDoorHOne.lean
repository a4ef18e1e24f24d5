/- The reference's words of a line are those of the program's split. -/
import Derived.Test.YtenjohemplgnmaaDoorHBase
import Derived.Test.YtenjohemplgnmaaDoorPx5
namespace Go.Proofs.YtenjohemplgnmaaDoor.P
open Go.RowKit Go.Proofs.YtenjohemplgnmaaDoorW.PrintWords Go.Proofs.YtenjohemplgnmaaDoorW.PrintLast

theorem bt_cast (s : ByteArray) (i : Nat) (h : i < s.size) : bt s (i : Int) = (s[i].toNat : Int) := by
  unfold bt
  simp [h]
theorem bt_extract (s : ByteArray) (a b i : Nat) (hb : b ≤ s.size) (h : a + i < b) : bt (s.extract a b) (i : Int) = bt s ((a + i : Nat) : Int) := by
  rw [bt_cast s (a + i) (by omega), bt_cast _ i (by rw [ByteArray.size_extract]; omega), ByteArray.getElem_extract]

theorem index_bt (s : ByteArray) (c : UInt8) : (Lib.indexB s ⟨#[c]⟩ = -1 ∧ ∀ j : Nat, j < s.size → bt s j ≠ (c.toNat : Int)) ∨ ∃ i : Nat, Lib.indexB s ⟨#[c]⟩ = i ∧ i < s.size ∧ bt s i = (c.toNat : Int) ∧ ∀ j : Nat, j < i → bt s j ≠ (c.toNat : Int) := by
  have key : ∀ l : List UInt8, (Lib.indexByte l c = -1 ∧ ∀ (j : Nat) (b : UInt8), l[j]? = some b → b ≠ c) ∨ ∃ i : Nat, Lib.indexByte l c = i ∧ l[i]? = some c ∧ ∀ (j : Nat) (b : UInt8), j < i → l[j]? = some b → b ≠ c := by
    intro l
    induction l with
    | nil => exact .inl ⟨rfl, fun j b h => by simp at h⟩
    | cons b l ih =>
      unfold Lib.indexByte
      by_cases hb : b = c
      · subst hb
        exact .inr ⟨0, by simp, rfl, fun j b h => by omega⟩
      · have hb' : (b == c) = false := by simpa using hb
        rw [hb']
        rcases ih with ⟨h1, h2⟩ | ⟨i, h1, h2, h3⟩
        · refine .inl ⟨by simp [h1], fun j x hx => ?_⟩
          cases j with
          | zero => simp at hx; exact hx ▸ hb
          | succ j => exact h2 j x (by simpa using hx)
        · refine .inr ⟨i + 1, ?_, by simpa using h2, fun j x hj hx => ?_⟩
          · simp [h1]
          · cases j with
            | zero => simp at hx; exact hx ▸ hb
            | succ j => exact h3 j x (by omega) (by simpa using hx)
  have ge : ∀ j : Nat, ∀ h : j < s.size, s.data.toList[j]? = some s[j] := fun j h => by
    rw [List.getElem?_eq_getElem (by simpa using h)]; rfl
  have hI : Lib.indexB s ⟨#[c]⟩ = Lib.indexByte s.data.toList c := Lib.index_one s.data.toList c
  rcases key s.data.toList with ⟨h1, h2⟩ | ⟨i, h1, h2, h3⟩
  · refine .inl ⟨hI.trans h1, fun j hj e => h2 j _ (ge j hj) ?_⟩
    rw [bt_cast s j hj] at e
    exact UInt8.toNat_inj.1 (by omega)
  · have hi : i < s.size := by
      have := (List.getElem?_eq_some_iff.1 h2).1
      simpa using this
    refine .inr ⟨i, hI.trans h1, hi, ?_, fun j hj e => h3 j _ hj (ge j (by omega)) ?_⟩
    · rw [bt_cast s i hi]
      have := (ge i hi).symm.trans h2
      injection this with this
      rw [this]
    · rw [bt_cast s j (by omega)] at e
      exact UInt8.toNat_inj.1 (by omega)

theorem blank_tell (s : ByteArray) (i : Nat) : R05_blank.f (bt s i) = some (isBlank s i) := by
  unfold R05_blank.f isBlank
  by_cases h : bt s i = 32
  · simp [h]
  · have : (bt s i == 32) = false := by simpa using h
    simp [h, this]

def conv (x : S35) : S36 := ⟨x.f0, x.f1, x.f2⟩

/-- Where a word that goes on at i ends (d: how far the line's end is). -/
def we (p : ByteArray) : Nat → Nat → Nat
  | 0, i => i
  | d + 1, i => if isBlank p i = true then i else we p d (i + 1)
theorem we_le (p : ByteArray) : ∀ d i, i ≤ we p d i ∧ we p d i ≤ i + d
  | 0, i => ⟨Nat.le_refl _, Nat.le_refl _⟩
  | d + 1, i => by
    unfold we
    split
    · omega
    · have := we_le p d (i + 1)
      omega

theorem l2_ev (p : ByteArray) (line : Int) (e : Nat) (he : e ≤ p.size) (hs : p.size < 4294967296) (out : List S36) (hout : out.length < 4398046511104) (i : Nat) (r : List S36) :
    ∀ d j, j + d = e → i ≤ j → Ev (fun k => R05_one.l1 k p line (e : Int) (out ++ [⟨line, i, p.extract i (we p d j)⟩]) ((i + 1 : Nat) : Int)) r →
    Ev (fun k => R05_one.l2 k p line (e : Int) out i j) r := by
  intro d
  induction d with
  | zero =>
    intro j hj hij h
    refine evs ?_
    simp only [R05_one.l2]
    have h1 : ¬ ((j : Int) < (e : Int)) := by omega
    have h2 : (0 : Int) ≤ (i : Int) := by omega
    have h3 : (i : Int) ≤ (j : Int) := by omega
    have h4 : (j : Int) ≤ (p.size : Int) := by omega
    simp only [h1, h2, h3, h4, hout, if_true, if_false, Int.toNat_natCast, wrapc i (by omega)]
    exact h
  | succ d ih =>
    intro j hj hij h
    refine evs ?_
    simp only [R05_one.l2]
    have h1 : ((j : Int) < (e : Int)) := by omega
    have h2 : (0 : Int) ≤ (j : Int) := by omega
    have h3 : (j : Int) < (p.size : Int) := by omega
    simp only [h1, h2, h3, if_true, blank_tell, Option.bind_some]
    by_cases hb : isBlank p j = true
    · have h4 : (0 : Int) ≤ (i : Int) := by omega
      have h5 : (i : Int) ≤ (j : Int) := by omega
      have h6 : (j : Int) ≤ (p.size : Int) := by omega
      simp only [hb, if_true, h4, h5, h6, hout, Int.toNat_natCast, wrapc i (by omega)]
      unfold we at h
      rw [if_pos hb] at h
      exact h
    · simp only [hb, wrapc j (by omega)]
      unfold we at h
      rw [if_neg hb] at h
      exact ih (j + 1) (by omega) (by omega) h

/-- What the reference has told when it comes to i. -/
def told (p : ByteArray) (line : Int) (e i : Nat) : List S35 :=
  (spl p line i).2 ++ (if (spl p line i).1 < i then [⟨line, (spl p line i).1, p.extract (spl p line i).1.toNat (we p (e - (spl p line i).1.toNat) (spl p line i).1.toNat)⟩] else [])

theorem spl_inv (p : ByteArray) (line : Int) : ∀ i : Nat, (∀ j : Nat, (spl p line i).1 ≤ j → j < i → isBlank p j = false) ∧ ((spl p line i).1 = 0 ∨ ∃ j : Nat, ((j : Int) + 1 = (spl p line i).1) ∧ isBlank p j = true)
  | 0 => ⟨fun j _ h => by omega, .inl rfl⟩
  | i + 1 => by
    have ⟨h1, h2⟩ := spl_inv p line i
    unfold spl
    split
    · next hb => exact ⟨fun j h3 h4 => by simp at h3; omega, .inr ⟨i, by simp, hb⟩⟩
    · next hb =>
      refine ⟨fun j h3 h4 => ?_, h2⟩
      rcases Nat.lt_or_ge j i with h | h
      · exact h1 j h3 h
      · have : j = i := by omega
        subst this
        simpa using hb

/-- A word without a blank ends at the first one. -/
theorem we_run (p : ByteArray) : ∀ m d i, (∀ j, i ≤ j → j < i + m → isBlank p j = false) → we p (m + d) i = we p d (i + m)
  | 0, d, i, _ => by simp
  | m + 1, d, i, h => by
    have hb := h i (Nat.le_refl _) (by omega)
    rw [show m + 1 + d = (m + d) + 1 from by omega]
    unfold we
    rw [if_neg (by rw [hb]; decide)]
    rw [we_run p m d (i + 1) (fun j h1 h2 => h j (by omega) (by omega))]
    rw [show i + 1 + m = i + (m + 1) from by omega]
    cases d <;> rfl


theorem told_blank (p : ByteArray) (line : Int) (e i : Nat) (hi : i < e) (hb : isBlank p i = true) : told p line e (i + 1) = told p line e i := by
  have hbd := spl_bd p line i
  have hin := spl_inv p line i
  have hs : spl p line (i + 1) = ((i : Int) + 1, tk p line (spl p line i).1 (spl p line i).2 i) := by
    show (if isBlank p i = true then _ else _) = _
    rw [if_pos hb]
  unfold told
  rw [hs]
  have h0 : ¬ ((i : Int) + 1 < ((i + 1 : Nat) : Int)) := by omega
  simp only [h0, if_false, List.append_nil]
  unfold tk
  by_cases h : (spl p line i).1 < i
  · rw [if_pos h, if_pos h]
    obtain ⟨a, ha⟩ := Int.eq_ofNat_of_zero_le hbd.1
    rw [ha] at h hin ⊢
    have h5 := we_run p (i - a) (e - i) a (fun j h1 h2 => hin.1 j (by omega) (by omega))
    rw [show i - a + (e - i) = e - a from by omega, show a + (i - a) = i from by omega] at h5
    have h6 : we p (e - i) i = i := by
      obtain ⟨d, hd⟩ : ∃ d, e - i = d + 1 := ⟨e - i - 1, by omega⟩
      rw [hd]; unfold we; rw [if_pos hb]
    rw [Int.toNat_natCast, h5, h6, Int.toNat_natCast]
  · rw [if_neg h, if_neg h, List.append_nil]

theorem told_in (p : ByteArray) (line : Int) (e i : Nat) (hb : isBlank p i = false) (hp : 0 < i) (hw : isBlank p (i - 1) = false) : told p line e (i + 1) = told p line e i := by
  have hbd := spl_bd p line i
  have hin := spl_inv p line i
  have hs : spl p line (i + 1) = spl p line i := by
    show (if isBlank p i = true then _ else _) = _
    rw [if_neg (by rw [hb]; decide)]
  unfold told
  rw [hs]
  have h1 : (spl p line i).1 < i := by
    rcases hin.2 with h | ⟨j, h, hj⟩
    · omega
    · by_cases hji : j = i - 1
      · subst hji; rw [hw] at hj; cases hj
      · omega
  rw [if_pos h1, if_pos (by omega)]

theorem told_new (p : ByteArray) (line : Int) (e i : Nat) (hb : isBlank p i = false) (hw : i = 0 ∨ isBlank p (i - 1) = true) : told p line e (i + 1) = told p line e i ++ [⟨line, i, p.extract i (we p (e - i) i)⟩] := by
  have hbd := spl_bd p line i
  have hin := spl_inv p line i
  have hs : spl p line (i + 1) = spl p line i := by
    show (if isBlank p i = true then _ else _) = _
    rw [if_neg (by rw [hb]; decide)]
  have h1 : (spl p line i).1 = i := by
    rcases Int.lt_or_le (spl p line i).1 i with h | h
    · have h0 : 0 < i := by omega
      have := hin.1 (i - 1) (by omega) (by omega)
      rcases hw with hw | hw
      · omega
      · rw [this] at hw; cases hw
    · omega
  unfold told
  have e1 : (i : Int) < ((i + 1 : Nat) : Int) := by omega
  have e2 : ¬ (i : Int) < (i : Int) := by omega
  rw [hs, h1, if_pos e1, if_neg e2, List.append_nil, Int.toNat_natCast]

theorem told_end (p : ByteArray) (line : Int) (e : Nat) : told p line e e = tk p line (spl p line e).1 (spl p line e).2 e := by
  have hbd := spl_bd p line e
  have hin := spl_inv p line e
  unfold told tk
  by_cases h : (spl p line e).1 < e
  · rw [if_pos h, if_pos h]
    obtain ⟨a, ha⟩ := Int.eq_ofNat_of_zero_le hbd.1
    rw [ha] at h hin ⊢
    have h5 := we_run p (e - a) 0 a (fun j h1 h2 => hin.1 j (by omega) (by omega))
    rw [Nat.add_zero, show a + (e - a) = e from by omega] at h5
    rw [Int.toNat_natCast, h5, Int.toNat_natCast]
    rfl
  · rw [if_neg h, if_neg h, List.append_nil]

theorem told_len (p : ByteArray) (line : Int) (e i : Nat) : (told p line e i).length ≤ i + 1 := by
  have hbd := spl_bd p line i
  unfold told
  rw [List.length_append]
  split <;> simp <;> omega

theorem l1_ev (p : ByteArray) (line : Int) (e : Nat) (he : e ≤ p.size) (hs : p.size < 4294967296) :
    ∀ d i, i + d = e → Ev (fun k => R05_one.l1 k p line (e : Int) ((told p line e i).map conv) (i : Int)) ((told p line e e).map conv) := by
  intro d
  induction d with
  | zero =>
    intro i hi
    have : i = e := by omega
    subst this
    refine evs ?_
    simp only [R05_one.l1]
    have h1 : ¬ ((i : Int) < (i : Int)) := by omega
    simp only [h1, if_false]
    exact Ev.now _
  | succ d ih =>
    intro i hi
    have hlen := told_len p line e i
    refine evs ?_
    simp only [R05_one.l1]
    have h1 : ((i : Int) < (e : Int)) := by omega
    have h2 : (0 : Int) ≤ (i : Int) := by omega
    have h3 : (i : Int) < (p.size : Int) := by omega
    simp only [h1, h2, h3, if_true, blank_tell, Option.bind_some]
    have go : told p line e (i + 1) = told p line e i → Ev (fun k => R05_one.j3 k p line (e : Int) ((told p line e i).map conv) (i : Int) true) ((told p line e e).map conv) := fun h => by
      refine evs ?_
      simp only [R05_one.j3, if_true, wrapc i (by omega)]
      have := ih (i + 1) (by omega)
      rw [h] at this
      exact this
    have new : told p line e (i + 1) = told p line e i ++ [⟨line, i, p.extract i (we p (e - i) i)⟩] → Ev (fun k => R05_one.j3 k p line (e : Int) ((told p line e i).map conv) (i : Int) false) ((told p line e e).map conv) := fun h => by
      refine evs ?_
      simp only [R05_one.j3]
      have := ih (i + 1) (by omega)
      rw [h, List.map_append] at this
      simp only [Bool.false_eq_true, if_false]
      exact l2_ev p line e he hs _ (by rw [List.length_map]; omega) i _ (e - i) i (by omega) (Nat.le_refl _) this
    cases hb : isBlank p i with
    | true =>
      simp only [if_true]
      exact go (told_blank p line e i (by omega) hb)
    | false =>
      simp only [Bool.false_eq_true, if_false]
      by_cases hi0 : i = 0
      · have h4 : ¬ ((i : Int) > 0) := by omega
        simp only [h4, if_false]
        exact new (told_new p line e i hb (.inl hi0))
      · have h4 : ((i : Int) > 0) := by omega
        have h5 : wrap64 ((i : Int) - 1) = ((i - 1 : Nat) : Int) := by unfold wrap64; omega
        have h6 : (0 : Int) ≤ ((i - 1 : Nat) : Int) := by omega
        have h7 : ((i - 1 : Nat) : Int) < (p.size : Int) := by omega
        simp only [h4, h5, h6, h7, if_true, blank_tell, Option.bind_some]
        cases hw : isBlank p (i - 1) with
        | true => exact new (told_new p line e i hb (.inr hw))
        | false => exact go (told_in p line e i hb (by omega) hw)

end Go.Proofs.YtenjohemplgnmaaDoor.P
