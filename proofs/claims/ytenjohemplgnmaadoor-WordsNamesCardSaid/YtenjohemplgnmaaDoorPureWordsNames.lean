/- Names stay names with letters, digits and some signs behind them, up to 16 bytes; no other byte stands in one, or begins one: for every text and byte. -/
import Derived.Test.YtenjohemplgnmaaDoorNWordsNames
import Derived.Test.YtenjohemplgnmaaDoorHOne
namespace Go.Proofs.YtenjohemplgnmaaDoor.P
open Go.RowKit Go.Proofs.YtenjohemplgnmaaDoorW.PrintWords Go.Proofs.YtenjohemplgnmaaDoorW.PrintLast

def nameB (s : ByteArray) : Bool := decide (1 ≤ s.size ∧ s.size ≤ 16) && nameFrom s s.size 0

theorem nameFrom_last (s : ByteArray) : ∀ n i, nameFrom s (n + 1) i = (nameFrom s n i && ruleB (bt s ((i + n : Nat) : Int)) (i + n))
  | 0, i => by
    show (if ruleB (bt s (i : Int)) i = true then true else false) = _
    rw [Nat.add_zero]
    show _ = (true && _)
    rw [Bool.true_and]
    cases ruleB (bt s (i : Int)) i <;> rfl
  | n + 1, i => by
    have h := nameFrom_last s n (i + 1)
    show (if ruleB (bt s (i : Int)) i = true then nameFrom s (n + 1) (i + 1) else false) = ((if ruleB (bt s (i : Int)) i = true then nameFrom s n (i + 1) else false) && _)
    rw [h, show i + 1 + n = i + (n + 1) from by omega]
    cases ruleB (bt s (i : Int)) i <;> simp

theorem bt_left (t u : ByteArray) (i : Nat) (h : i < t.size) : bt (t ++ u) (i : Int) = bt t (i : Int) := by
  rw [bt_cast t i h, bt_cast _ i (by rw [ByteArray.size_append]; omega), ByteArray.getElem_append_left h]
theorem bt_end (t : ByteArray) (c : Int) (h0 : 0 ≤ c) (h1 : c ≤ 255) : bt (t ++ strOfNums [c]) (t.size : Int) = c := by
  have hs : (strOfNums [c]).size = 1 := strOfNums_size _
  rw [bt_cast _ t.size (by rw [ByteArray.size_append]; omega), ByteArray.getElem_append_right (Nat.le_refl _)]
  have : (strOfNums [c])[t.size - t.size]'(by omega) = UInt8.ofNat c.toNat := by
    simp [strOfNums]
    rfl
  rw [this, UInt8.toNat_ofNat']
  omega

theorem nameFrom_left (t u : ByteArray) : ∀ n i, i + n ≤ t.size → nameFrom (t ++ u) n i = nameFrom t n i
  | 0, _, _ => rfl
  | n + 1, i, h => by
    show (if ruleB (bt (t ++ u) (i : Int)) i = true then nameFrom (t ++ u) n (i + 1) else false) = (if ruleB (bt t (i : Int)) i = true then nameFrom t n (i + 1) else false)
    rw [bt_left t u i (by omega), nameFrom_left t u n (i + 1) (by omega)]

theorem name_more (t : ByteArray) (c : Int) (h0 : 0 ≤ c) (h1 : c ≤ 255) : nameB (t ++ strOfNums [c]) = ((nameB t && innerB c && decide (t.size < 16)) || (decide (t.size = 0) && letterB c)) := by
  have hs : (t ++ strOfNums [c]).size = t.size + 1 := by rw [ByteArray.size_append, strOfNums_size]; rfl
  unfold nameB
  rw [hs, nameFrom_last, nameFrom_left t _ t.size 0 (by omega), Nat.zero_add, bt_end t c h0 h1]
  unfold ruleB
  by_cases hz : t.size = 0
  · rw [decide_eq_true (show 1 ≤ t.size + 1 ∧ t.size + 1 ≤ 16 by omega), decide_eq_false (show ¬ (1 ≤ t.size ∧ t.size ≤ 16) by omega), decide_eq_true hz, decide_eq_false (show ¬ 0 < t.size by omega), hz]
    simp [nameFrom]
  · rw [decide_eq_false hz, decide_eq_true (show 0 < t.size by omega)]
    have hli : (letterB c || (true && innerB c)) = innerB c := by
      cases hl : letterB c with
      | true => rw [letter_inner c hl]; rfl
      | false => simp
    rw [hli]
    by_cases h16 : t.size < 16
    · rw [decide_eq_true h16, decide_eq_true (show 1 ≤ t.size + 1 ∧ t.size + 1 ≤ 16 by omega), decide_eq_true (show 1 ≤ t.size ∧ t.size ≤ 16 by omega)]
      simp
    · rw [decide_eq_false h16, decide_eq_false (show ¬ (1 ≤ t.size + 1 ∧ t.size + 1 ≤ 16) by omega)]
      simp

theorem name_alone (c : Int) (h0 : 0 ≤ c) (h1 : c ≤ 255) : nameB (strOfNums [c]) = letterB c := by
  have h := name_more ⟨#[]⟩ c h0 h1
  have e : (⟨#[]⟩ : ByteArray) ++ strOfNums [c] = strOfNums [c] := by
    apply ByteArray.ext
    simp
  rw [e] at h
  have e0 : nameB ⟨#[]⟩ = false := rfl
  have e1 : decide ((⟨#[]⟩ : ByteArray).size = 0) = true := rfl
  rw [h, e0, e1]
  simp

theorem tells_name (s : ByteArray) : Tells 22 #[.string s] (.bool (nameB s)) := fun W => words_Name.calls s (nameB s) W rfl

theorem L05_WordsNames.walk (_ : True) (a0 : ByteArray) (a1 : Int) (w : World) (_ : a0.size ≤ 140737488351232) (w1 : (Lit.int .u8 a1).wf = true) :
    Calls Tryd.prog 9 #[.string a0, .int .u8 a1] w fun e w' => e = .returned (.bool true) ∧ Below w.heap.size w w' := by
  have hc : 0 ≤ a1 ∧ a1 ≤ 255 := by
    have h1 : (decide ((0 : Int) ≤ a1) && decide (a1 ≤ 255)) = true := w1
    simpa using h1
  obtain ⟨k, hk⟩ := shown_true.rounds
  obtain ⟨t, ht, hsz⟩ : ∃ t, L05_few.f a0 = some t ∧ t.size ≤ 300 := by
    unfold L05_few.f
    have h1 : mn (a0.size : Int) 300 = ((min a0.size 300 : Nat) : Int) := by unfold mn; omega
    rw [h1, if_pos (by omega), if_pos (by omega), Int.toNat_natCast]
    exact ⟨_, rfl, by rw [ByteArray.size_extract]; omega⟩
  refine names_walk a0 t a1 (nameB t) (nameB (t ++ strOfNums [a1])) w (fun W => L05_shown.calls k true W hk) (fun W => L05_few.calls a0 t W ht) (tells_name t) (tells_name _) ?_ hsz ?_ (name_more t a1 hc.1 hc.2)
  · rw [← name_alone a1 hc.1 hc.2]
    exact tells_name _
  · intro h
    unfold nameB at h
    have := (Bool.and_eq_true _ _ ▸ h : _ ∧ _).1
    exact of_decide_eq_true this
end Go.Proofs.YtenjohemplgnmaaDoor.P
namespace Go.Proofs.YtenjohemplgnmaaDoor.Pure
theorem WordsNames : True := trivial
end Go.Proofs.YtenjohemplgnmaaDoor.Pure
