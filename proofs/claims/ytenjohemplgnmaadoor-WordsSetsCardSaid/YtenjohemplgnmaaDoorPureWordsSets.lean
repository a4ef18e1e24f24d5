/- The program's sets of any words are the document's: the law's rounds come to true. -/
import Derived.Test.YtenjohemplgnmaaDoorHSets
import Derived.Test.YtenjohemplgnmaaDoorPxSets
namespace Go.Proofs.YtenjohemplgnmaaDoor.P
open Go.RowKit Go.Proofs.YtenjohemplgnmaaDoorW.PrintWords Go.Proofs.YtenjohemplgnmaaDoorW.PrintLast
set_option linter.unusedSimpArgs false

theorem sets_end (l0 : List ByteArray) (l1 : List Int) (x6 : List S35) (i : Int) (h : x6.length ≤ 60) : Ev (fun k => L05_WordsSets.j1 k l0 l1 true x6 (x6.map conv) i false) true := by
  refine evs ?_
  simp only [L05_WordsSets.j1, Bool.false_eq_true, if_false, refSets_is x6 (by omega), Option.bind_some]
  refine Ev.bind (words_sets x6 (by omega)) ?_
  have hb := setsW_bd 61 x6 [] none (fun x hx => by cases hx) (by simp only [Option.getD_none, List.length_nil]; omega)
  simp only [if_true, beq_self_eq_true]
  refine Ev.bind (same_ev _ (by have := hb.1; simp only [List.length_nil] at this; omega) (fun x hx => by have := hb.2 x hx; omega)) ?_
  exact Ev.now _

theorem sets_loop (l0 : List ByteArray) (l1 : List Int) : ∀ d i, i + d = 60 → i ≤ l0.length → ∀ x6 : List S35, x6.length = i → Ev (fun k => L05_WordsSets.l0 k l0 l1 true x6 (x6.map conv) (i : Int)) true := by
  intro d
  induction d with
  | zero =>
    intro i hi hl x6 h6
    refine evs ?_
    simp only [L05_WordsSets.l0, decide_eq_false (show ¬ ((i : Int) < 60) by omega), ite_self]
    exact sets_end l0 l1 x6 _ (by omega)
  | succ d ih =>
    intro i hi hl x6 h6
    refine evs ?_
    by_cases h1 : (i : Int) < (l0.length : Int)
    · simp only [L05_WordsSets.l0, h1, if_true, decide_eq_true (show ((i : Int) < 60) by omega)]
      refine evs ?_
      have h0 : (0 : Int) ≤ (i : Int) := by omega
      have h2 : 0 ≤ mn ((rdOf ByteArray.empty l0 (i : Int)).size : Int) 20 := by unfold mn; omega
      have h3 : mn ((rdOf ByteArray.empty l0 (i : Int)).size : Int) 20 ≤ ((rdOf ByteArray.empty l0 (i : Int)).size : Int) := by unfold mn; omega
      have key : ∀ x : S35, Ev (fun k => L05_WordsSets.l0 k l0 l1 true (x6 ++ [x]) (x6.map conv ++ [conv x]) (wrap64 ((i : Int) + 1))) true := by
        intro x
        have := ih (i + 1) (by omega) (by omega) (x6 ++ [x]) (by rw [List.length_append, h6]; rfl)
        rw [List.map_append] at this
        rw [wrapc i (by omega)]
        exact this
      have hc : ∀ a b c, conv ⟨a, b, c⟩ = ⟨a, b, c⟩ := fun _ _ _ => rfl
      have q6 : x6.length < 4398046511104 := by omega
      have q7 : (x6.map conv).length < 4398046511104 := by rw [List.length_map]; omega
      have J : ∀ x9 b, Ev (fun k => L05_WordsSets.j2 k l0 l1 true x6 (x6.map conv) (i : Int) x9 b) true := by
        intro x9 b
        refine evs ?_
        have key1 := key ⟨(i : Int), 7, (⟨#[93]⟩ : ByteArray)⟩
        have key2 := key ⟨(i : Int), 7, (⟨#[91]⟩ : ByteArray)⟩
        have key3 := key ⟨(i : Int), 7, x9⟩
        rw [hc] at key1 key2 key3
        cases b with
        | true =>
          by_cases c1 : (i : Int) < (l1.length : Int)
          · by_cases c2 : Int.tmod (rd l1 (i : Int)) 4 = 2
            · simp only [L05_WordsSets.j2, if_true, c1, h0, c2, q6, q7]; exact key1
            · simp only [L05_WordsSets.j2, if_true, if_false, c1, h0, c2, q6, q7]; exact key2
          · simp only [L05_WordsSets.j2, if_true, if_false, c1, q6, q7]; exact key2
        | false =>
          by_cases c1 : (i : Int) < (l1.length : Int)
          · by_cases c2 : Int.tmod (rd l1 (i : Int)) 4 = 2
            · simp only [L05_WordsSets.j2, if_true, if_false, Bool.false_eq_true, c1, h0, c2, q6, q7]; exact key1
            · simp only [L05_WordsSets.j2, if_true, if_false, Bool.false_eq_true, c1, h0, c2, q6, q7]; exact key3
          · simp only [L05_WordsSets.j2, if_true, if_false, Bool.false_eq_true, c1, q6, q7]; exact key3
      by_cases c1 : (i : Int) < (l1.length : Int)
      · simp only [L05_WordsSets.j1, if_true, h0, h1, h2, h3, c1]; exact J _ _
      · simp only [L05_WordsSets.j1, if_true, if_false, h0, h1, h2, h3, c1]; exact J _ _
    · simp only [L05_WordsSets.l0, h1, if_false]
      exact sets_end l0 l1 x6 _ (by omega)

theorem wordsSets_true (l0 : List ByteArray) (l1 : List Int) : Ev (fun k => L05_WordsSets.f k l0 l1) true := by
  unfold L05_WordsSets.f
  refine Ev.bind shown_true ?_
  exact sets_loop l0 l1 60 0 (by omega) (Nat.zero_le _) [] rfl
end Go.Proofs.YtenjohemplgnmaaDoor.P
namespace Go.Proofs.YtenjohemplgnmaaDoor.P
open Go.RowKit Go.Proofs.YtenjohemplgnmaaDoorW.PrintWords Go.Proofs.YtenjohemplgnmaaDoorW.PrintLast
theorem L05_WordsSets.walk (_ : True) (A0 : Option Addr) (c0 : Nat) (l0 : List ByteArray) (A1 : Option Addr) (c1 : Nat) (l1 : List Int) (w : World)
    (hr0 : Kd.C Kd.string w A0 l0.length l0) (hc0 : l0.length ≤ c0) (hr1 : Kd.C (Kd.int .u8) w A1 l1.length l1) (hc1 : l1.length ≤ c1) :
    Calls Tryd.prog 4 #[.slice A0 l0.length c0, .slice A1 l1.length c1] w fun e w' => e = .returned (.bool true) ∧ Below w.heap.size w w' := by
  obtain ⟨k, h⟩ := (wordsSets_true l0 l1).rounds
  exact L05_WordsSets.calls k A0 c0 l0 A1 c1 l1 true w hr0 hc0 hr1 hc1 h
end Go.Proofs.YtenjohemplgnmaaDoor.P
namespace Go.Proofs.YtenjohemplgnmaaDoor.Pure
theorem WordsSets : True := trivial
end Go.Proofs.YtenjohemplgnmaaDoor.Pure
