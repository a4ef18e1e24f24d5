/- What tame and name come to: a text of 1 to 12 bytes, with no blank, line's end or sign of a comment in it. -/
import Derived.Test.YtenjohemplgnmaaDoorPx6
import Derived.Test.YtenjohemplgnmaaDoorPx8
import Derived.Test.YtenjohemplgnmaaDoorHBase
namespace Go.Proofs.YtenjohemplgnmaaDoor.P
open Go.RowKit Go.Proofs.YtenjohemplgnmaaDoorW.PrintWords Go.Proofs.YtenjohemplgnmaaDoorW.PrintLast
set_option linter.unusedSimpArgs false

/-- A byte that may stand in a word. -/
def WordByte (b : UInt8) : Prop := b ≠ 32 ∧ b ≠ 9 ∧ b ≠ 10 ∧ b ≠ 35
def AllWord (r : ByteArray) : Prop := ∀ b ∈ r.data.toList, WordByte b

theorem tame_step (s x3 : ByteArray) (i : Nat) (hi : i < s.size) (h : AllWord x3) (h1 : bt s (i : Int) ≠ 32) (h2 : bt s (i : Int) ≠ 9) (h3 : bt s (i : Int) ≠ 10) (h4 : bt s (i : Int) ≠ 35) : AllWord (x3 ++ s.extract i (i + 1)) := by
  intro b hb
  rw [ByteArray.data_append, Array.toList_append] at hb
  rcases List.mem_append.1 hb with hb | hb
  · exact h b hb
  · rw [bt_lt s i hi] at h1 h2 h3 h4
    have e : (s.extract i (i + 1)).data.toList = [s.data.toList[i]'(by simpa using hi)] := by
      rw [ByteArray.data_extract, Array.toList_extract, List.extract_eq_take_drop, Nat.add_sub_cancel_left]
      rw [List.drop_eq_getElem_cons (by simpa using hi)]
      rfl
    rw [e] at hb
    have := List.mem_singleton.1 hb
    subst this
    refine ⟨fun h => h1 ?_, fun h => h2 ?_, fun h => h3 ?_, fun h => h4 ?_⟩ <;> rw [h] <;> rfl

theorem tame_loop (s : ByteArray) (hs : s.size ≤ 9223372036854775807) : ∀ d i, i + d = s.size → ∀ x3 : ByteArray, x3.size ≤ 12 → AllWord x3 →
    ∃ r, Ev (fun k => L05_tame.l0 k s x3 (i : Int)) r ∧ 1 ≤ r.size ∧ r.size ≤ 12 ∧ AllWord r := by
  have fin : ∀ x3 : ByteArray, x3.size ≤ 12 → AllWord x3 → ∀ i : Int, ∃ r, Ev (fun k => L05_tame.j1 k s x3 i false) r ∧ 1 ≤ r.size ∧ r.size ≤ 12 ∧ AllWord r := by
    intro x3 h3 ha i
    by_cases c : x3.toList = ([] : List UInt8)
    · refine ⟨⟨#[120]⟩, ?_, by decide, by decide, ?_⟩
      · refine evs ?_
        simp only [L05_tame.j1, Bool.false_eq_true, if_false, c, if_true]
        exact Ev.now _
      · intro b hb
        have := List.mem_singleton.1 (show b ∈ [(120 : UInt8)] from hb)
        subst this
        refine ⟨by decide, by decide, by decide, by decide⟩
    · refine ⟨x3, ?_, ?_, h3, ha⟩
      · refine evs ?_
        simp only [L05_tame.j1, Bool.false_eq_true, if_false, c]
        exact Ev.now _
      · rcases Nat.eq_zero_or_pos x3.size with h | h
        · exfalso
          apply c
          rw [Lib.toList_data]
          exact List.eq_nil_of_length_eq_zero (by rw [Array.length_toList]; exact h)
        · exact h
  intro d
  induction d with
  | zero =>
    intro i hi x3 h3 ha
    obtain ⟨r, hr, h⟩ := fin x3 h3 ha (i : Int)
    refine ⟨r, ?_, h⟩
    refine evs ?_
    have h1 : ¬ ((i : Int) < (s.size : Int)) := by omega
    simp only [L05_tame.l0, h1, if_false]
    exact hr
  | succ d ih =>
    intro i hi x3 h3 ha
    have h1 : ((i : Int) < (s.size : Int)) := by omega
    by_cases c : (x3.size : Int) < 12
    · have h0 : (0 : Int) ≤ (i : Int) := by omega
      have hw := wrapc i (by omega)
      have hi' : i < s.size := by omega
      have key : ∀ x, x.size ≤ 12 → AllWord x → (∀ r, Ev (fun k => L05_tame.l0 k s x (wrap64 ((i : Int) + 1))) r → Ev (fun k => L05_tame.j1 k s x3 (i : Int) true) r) → ∃ r, Ev (fun k => L05_tame.l0 k s x3 (i : Int)) r ∧ 1 ≤ r.size ∧ r.size ≤ 12 ∧ AllWord r := by
        intro x hx hax go
        obtain ⟨r, hr, h⟩ := ih (i + 1) (by omega) x hx hax
        refine ⟨r, ?_, h⟩
        refine evs ?_
        simp only [L05_tame.l0, h1, if_true, decide_eq_true c]
        exact go r (by rw [hw]; exact hr)
      by_cases c1 : bt s (i : Int) = 32
      · exact key x3 h3 ha (fun r hr => evs (by simp only [L05_tame.j1, if_true, h0, h1, c1]; exact hr))
      · by_cases c2 : bt s (i : Int) = 9
        · exact key x3 h3 ha (fun r hr => evs (by simp only [L05_tame.j1, if_true, if_false, h0, h1, c1, c2, show ¬ ((9 : Int) = 32) by decide]; exact hr))
        · by_cases c3 : bt s (i : Int) = 10
          · exact key x3 h3 ha (fun r hr => evs (by simp only [L05_tame.j1, if_true, if_false, h0, h1, c3, show ¬ ((10 : Int) = 32) by decide, show ¬ ((10 : Int) = 9) by decide]; exact hr))
          · by_cases c4 : bt s (i : Int) = 35
            · exact key x3 h3 ha (fun r hr => evs (by simp only [L05_tame.j1, if_true, if_false, h0, h1, c4, show ¬ ((35 : Int) = 32) by decide, show ¬ ((35 : Int) = 9) by decide, show ¬ ((35 : Int) = 10) by decide]; exact hr))
            · have e0 : ((i : Int)).toNat = i := Int.toNat_natCast i
              have e1 : (((i + 1 : Nat) : Int)).toNat = i + 1 := Int.toNat_natCast _
              have hx : (s.extract i (i + 1)).size = 1 := by rw [ByteArray.size_extract]; omega
              have q1 : (i : Int) ≤ ((i + 1 : Nat) : Int) := by omega
              have q2 : ((i + 1 : Nat) : Int) ≤ (s.size : Int) := by omega
              have q3 : x3.size + (s.extract i (i + 1)).size ≤ 9223372036854775807 := by omega
              exact key (x3 ++ s.extract i (i + 1)) (by rw [ByteArray.size_append, hx]; omega) (tame_step s x3 i hi' ha c1 c2 c3 c4)
                (fun r hr => evs (by simp only [L05_tame.j1, if_true, if_false, h0, h1, c1, c2, c3, c4, hw, e0, e1, q1, q2, q3]; rw [hw] at hr; exact hr))
    · obtain ⟨r, hr, h⟩ := fin x3 h3 ha (i : Int)
      refine ⟨r, ?_, h⟩
      refine evs ?_
      simp only [L05_tame.l0, h1, if_true, decide_eq_false c]
      exact hr

theorem tame_ev (s : ByteArray) (hs : s.size ≤ 9223372036854775807) : ∃ r, Ev (fun k => L05_tame.f k s) r ∧ 1 ≤ r.size ∧ r.size ≤ 12 ∧ AllWord r :=
  tame_loop s hs s.size 0 (by omega) ⟨#[]⟩ (by decide) (fun b hb => by cases hb)

theorem name_ev (s : ByteArray) (hs : s.size ≤ 9223372036854775807) : ∃ r, Ev (fun k => L05_name.f k s) r ∧ r.toList ≠ [91] ∧ r.toList ≠ [93] := by
  obtain ⟨r, hr, _⟩ := tame_ev s hs
  by_cases c1 : r.toList = [91]
  · refine ⟨⟨#[120]⟩, ?_, by rw [Lib.toList_data]; decide, by rw [Lib.toList_data]; decide⟩
    unfold L05_name.f
    refine Ev.bind hr ?_
    simp only [c1, if_true]
    exact Ev.now _
  · by_cases c2 : r.toList = [93]
    · refine ⟨⟨#[120]⟩, ?_, by rw [Lib.toList_data]; decide, by rw [Lib.toList_data]; decide⟩
      unfold L05_name.f
      refine Ev.bind hr ?_
      simp only [c2, if_true, if_false, show ¬ (([93] : List UInt8) = [91]) by decide]
      exact Ev.now _
    · refine ⟨r, ?_, c1, c2⟩
      unfold L05_name.f
      refine Ev.bind hr ?_
      simp only [c1, c2, if_false]
      exact Ev.now _

open Classical in
/-- The word that name makes of a text. -/
noncomputable def nameOf (s : ByteArray) : ByteArray := if h : s.size ≤ 9223372036854775807 then (name_ev s h).choose else ⟨#[]⟩
theorem nameOf_ev (s : ByteArray) (hs : s.size ≤ 9223372036854775807) : Ev (fun k => L05_name.f k s) (nameOf s) ∧ (nameOf s).toList ≠ [91] ∧ (nameOf s).toList ≠ [93] := by
  unfold nameOf
  rw [dif_pos hs]
  exact (name_ev s hs).choose_spec
open Classical in
/-- The word that tame makes of a text. -/
noncomputable def tameOf (s : ByteArray) : ByteArray := if h : s.size ≤ 9223372036854775807 then (tame_ev s h).choose else ⟨#[]⟩
theorem tameOf_ev (s : ByteArray) (hs : s.size ≤ 9223372036854775807) : Ev (fun k => L05_tame.f k s) (tameOf s) ∧ 1 ≤ (tameOf s).size ∧ (tameOf s).size ≤ 12 ∧ AllWord (tameOf s) := by
  unfold tameOf
  rw [dif_pos hs]
  exact (tame_ev s hs).choose_spec
end Go.Proofs.YtenjohemplgnmaaDoor.P
