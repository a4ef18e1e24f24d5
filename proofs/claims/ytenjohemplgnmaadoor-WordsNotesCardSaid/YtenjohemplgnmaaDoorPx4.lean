/- Functions of the program as Lean functions, each with a proof that the call comes to just its answers (written by wip/gprint.py of this repo). -/
import Derived.Test.YtenjohemplgnmaaDoorPx0
namespace Go.Proofs.YtenjohemplgnmaaDoor.P
open Go.RowKit Go.Proofs.YtenjohemplgnmaaDoorW.PrintWords Go.Proofs.YtenjohemplgnmaaDoorW.PrintLast Go.Proofs.YtenjohemplgnmaaDoorW.PrintMore
attribute [local go_sem] max2_int min2_int max_two min_two max_three min_three max_four min_four   -- for this text's walks alone
set_option linter.unusedVariables false
set_option linter.unusedSimpArgs false

/-! ### L05_same: function 13 -/
mutual
def L05_same.l0 : Nat → List (List (S35)) → List (List (S36)) → Int → Option (Bool)
  | 0, _, _, _ => none
  | k + 1, x0, x1, x5 => if x5 < (x0.length : Int) then (if 0 ≤ x5 then (if x5 < (x1.length : Int) then (if ((rd_L5 x0 x5).length : Int) = ((rd_L7 x1 x5).length : Int) then (L05_same.l1 k x0 x1 x5 0) else (some false)) else (none)) else (none)) else (some true)
def L05_same.l1 : Nat → List (List (S35)) → List (List (S36)) → Int → Int → Option (Bool)
  | 0, _, _, _, _ => none
  | k + 1, x0, x1, x5, x6 => if 0 ≤ x5 then (if x5 < (x0.length : Int) then (if x6 < ((rd_L5 x0 x5).length : Int) then (if 0 ≤ x6 then (if x5 < (x1.length : Int) then (if x6 < ((rd_L7 x1 x5).length : Int) then (if ((rd_T35 (rd_L5 x0 x5) x6).f0) = ((rd_T36 (rd_L7 x1 x5) x6).f0) then (if ((rd_T35 (rd_L5 x0 x5) x6).f1) = ((rd_T36 (rd_L7 x1 x5) x6).f1) then (if ((rd_T35 (rd_L5 x0 x5) x6).f2).toList = ((rd_T36 (rd_L7 x1 x5) x6).f2).toList then (L05_same.l1 k x0 x1 x5 (wrap64 (x6 + 1))) else (some false)) else (some false)) else (some false)) else (none)) else (none)) else (none)) else (L05_same.l0 k x0 x1 (wrap64 (x5 + 1)))) else (none)) else (none)
end
def L05_same.f (k : Nat) (l0 : List (List (S35))) (l1 : List (List (S36))) : Option (Bool) := if (l0.length : Int) = (l1.length : Int) then (L05_same.l0 k l0 l1 0) else (some false)
theorem L05_same.mono_l : ∀ k, (∀ y0 y1 y2, LeO (L05_same.l0 k y0 y1 y2) (L05_same.l0 (k + 1) y0 y1 y2)) ∧ (∀ y0 y1 y2 y3, LeO (L05_same.l1 k y0 y1 y2 y3) (L05_same.l1 (k + 1) y0 y1 y2 y3))
  | 0 => ⟨fun _ _ _ r h => by simp [L05_same.l0] at h, fun _ _ _ _ r h => by simp [L05_same.l1] at h⟩
  | k + 1 => by
    obtain ⟨ih0, ih1⟩ := L05_same.mono_l k
    refine ⟨?_, ?_⟩
    · intro y0 y1 y2
      unfold L05_same.l0
      repeat' first
      | (with_reducible exact ih0 _ _ _)
      | (with_reducible exact ih1 _ _ _ _)
      | (with_reducible exact LeO.refl _)
      | (with_reducible exact LeO.none _)
      | (with_reducible refine LeO.ite ?_ ?_)
      | (with_reducible refine LeO.bind ?_ (fun _ => ?_))
      | exact ih0 _ _ _
      | exact ih1 _ _ _ _
      | exact LeO.none _
      | refine LeO.ite ?_ ?_
      | refine LeO.bind ?_ (fun _ => ?_)
    · intro y0 y1 y2 y3
      unfold L05_same.l1
      repeat' first
      | (with_reducible exact ih0 _ _ _)
      | (with_reducible exact ih1 _ _ _ _)
      | (with_reducible exact LeO.refl _)
      | (with_reducible exact LeO.none _)
      | (with_reducible refine LeO.ite ?_ ?_)
      | (with_reducible refine LeO.bind ?_ (fun _ => ?_))
      | exact ih0 _ _ _
      | exact ih1 _ _ _ _
      | exact LeO.none _
      | refine LeO.ite ?_ ?_
      | refine LeO.bind ?_ (fun _ => ?_)
theorem L05_same.mono : ∀ a0 a1 k, LeO (L05_same.f k a0 a1) (L05_same.f (k + 1) a0 a1) := by
  intro a0 a1 k
  obtain ⟨ih0, ih1⟩ := L05_same.mono_l k
  unfold L05_same.f
  repeat' first
      | (with_reducible exact ih0 _ _ _)
      | (with_reducible exact ih1 _ _ _ _)
      | (with_reducible exact LeO.refl _)
      | (with_reducible exact LeO.none _)
      | (with_reducible refine LeO.ite ?_ ?_)
      | (with_reducible refine LeO.bind ?_ (fun _ => ?_))
      | exact ih0 _ _ _
      | exact ih1 _ _ _ _
      | exact LeO.none _
      | refine LeO.ite ?_ ?_
      | refine LeO.bind ?_ (fun _ => ?_)
set_option maxHeartbeats 8000000 in
set_option maxRecDepth 100000 in
theorem L05_same.calls (k : Nat) (A0 : Option Addr) (c0 : Nat) (l0 : List (List (S35))) (A1 : Option Addr) (c1 : Nat) (l1 : List (List (S36))) (r : Bool) (w : World) (hr0 : Kd.C (Kd.slice 35 k35) w A0 l0.length l0) (hc0 : l0.length ≤ c0) (hr1 : Kd.C (Kd.slice 36 k36) w A1 l1.length l1) (hc1 : l1.length ≤ c1) (h : L05_same.f k l0 l1 = some r) :
    Calls Tryd.prog 13 #[.slice A0 l0.length c0, .slice A1 l1.length c1] w fun e w' => e = .returned (.bool r) ∧ Drawn0 w w' := by
  have HR0 := Aside0.mk hr0
  have HC0 := Aside0.mk hc0
  clear hr0 hc0
  have HR1 := Aside0.mk hr1
  have HC1 := Aside0.mk hc1
  clear hr1 hc1
  have H : (if (l0.length : Int) = (l1.length : Int) then (L05_same.l0 k l0 l1 0) else (some false)) = some r := h
  clear h
  by_cases c3 : (l0.length : Int) = (l1.length : Int)
  · rw [if_pos c3] at H
    have c3b0 : ((l0.length : Int) == (l1.length : Int)) = true := beq_iff_eq.mpr c3
    have c3b1 : ((l0.length : Int) != (l1.length : Int)) = false := bne_eq_false_iff_eq.mpr c3
    have c3b2 : (l0.length == l1.length) = true := by first | simpa using c3 | (simp at c3 ⊢; omega)
    clear c3
    have H' := Aside0.mk H
    clear H
    go_enter Tryd.func13, Tryd.ntmps13
    go_wp2
    repeat (go_quiet (fail); try go_wp2)
    go_loopg [5] k (fun kq v5 w' => ∃ (x5_1 : Int), v5 = .int .i64 x5_1 ∧ Aside0 (L05_same.l0 kq l0 l1 x5_1 = some r) ∧ Aside0 (kq ≤ k) ∧ Drawn0 w w')
    case atStart => exact ⟨(0), (by first | rfl | (simp; done) | (simp [*]; done)), H', ⟨Nat.le_refl _⟩, by repeat (first | exact Drawn0.refl _ | apply Drawn0.step)⟩
    case round =>
      clear H'
      try clear c1
      try clear p2
      try clear c3
      try clear c3b0
      try clear c3b1
      try clear c3b2
      obtain ⟨x5_1, rfl, HA, HK1, ⟨m1, rfl⟩⟩ := hrel
      cases gk with
      | zero => exact absurd HA.out (by simp [L05_same.l0])
      | succ k1 =>
        have H := HA.out
        clear HA
        simp only [L05_same.l0] at H
        by_cases c4 : x5_1 < (l0.length : Int)
        · rw [if_pos c4] at H
          have c4b0 : decide (x5_1 < (l0.length : Int)) = true := decide_eq_true c4
          clear c4
          by_cases c5 : 0 ≤ x5_1
          · rw [if_pos c5] at H
            have c5b0 : decide (0 ≤ x5_1) = true := decide_eq_true c5
            clear c5
            by_cases c6 : x5_1 < (l1.length : Int)
            · rw [if_pos c6] at H
              have c6b0 : decide (x5_1 < (l1.length : Int)) = true := decide_eq_true c6
              clear c6
              by_cases c7 : ((rd_L5 l0 x5_1).length : Int) = ((rd_L7 l1 x5_1).length : Int)
              · rw [if_pos c7] at H
                have c7b0 : (((rd_L5 l0 x5_1).length : Int) == ((rd_L7 l1 x5_1).length : Int)) = true := beq_iff_eq.mpr c7
                have c7b1 : (((rd_L5 l0 x5_1).length : Int) != ((rd_L7 l1 x5_1).length : Int)) = false := bne_eq_false_iff_eq.mpr c7
                have c7b2 : ((rd_L5 l0 x5_1).length == (rd_L7 l1 x5_1).length) = true := by first | simpa using c7 | (simp at c7 ⊢; omega)
                clear c7
                have H' := Aside0.mk H
                clear H
                have p154 : 0 ≤ (x5_1 : Int) := of_decide_eq_true (by first | (with_reducible assumption) | assumption)
                have q154 : x5_1 < (l0.length : Int) := of_decide_eq_true (by first | (with_reducible assumption) | assumption)
                obtain ⟨ad154, A154_0, c154_0, e154, hx154_0, hl154_0, hi154_0⟩ := at_L5 HR0.out x5_1 p154 q154
                cases e154
                have HR154_0 := Aside0.mk hi154_0
                have HC154_0 := Aside0.mk hl154_0
                clear hi154_0 hl154_0
                replace p154 := eq_true p154
                replace q154 := eq_true q154
                have p155 : 0 ≤ (x5_1 : Int) := of_decide_eq_true (by first | (with_reducible assumption) | assumption)
                have q155 : x5_1 < (l1.length : Int) := of_decide_eq_true (by first | (with_reducible assumption) | assumption)
                obtain ⟨ad155, A155_0, c155_0, e155, hx155_0, hl155_0, hi155_0⟩ := at_L7 HR1.out x5_1 p155 q155
                cases e155
                have HR155_0 := Aside0.mk hi155_0
                have HC155_0 := Aside0.mk hl155_0
                clear hi155_0 hl155_0
                replace p155 := eq_true p155
                replace q155 := eq_true q155
                go_wp2
                repeat (go_quiet (fail); try go_wp2)
                go_loopg [6] k1 (fun kq v6 w' => ∃ (x6_2 : Int), v6 = .int .i64 x6_2 ∧ Aside0 (L05_same.l1 kq l0 l1 x5_1 x6_2 = some r) ∧ Aside0 (kq ≤ k1) ∧ Drawn0 w w')
                case atStart => exact ⟨(0), (by first | rfl | (simp; done) | (simp [*]; done)), H', ⟨Nat.le_refl _⟩, by repeat (first | exact Drawn0.refl _ | apply Drawn0.step)⟩
                case round =>
                  clear H'
                  try clear c1
                  try clear p1
                  try clear q1
                  try clear hx1
                  try clear p2
                  try clear c3
                  try clear c3b0
                  try clear c3b1
                  try clear c3b2
                  try clear c4
                  try clear c4b0
                  try clear c5
                  try clear c5b0
                  try clear c6
                  try clear c6b0
                  try clear c7
                  try clear c7b0
                  try clear c7b1
                  try clear c7b2
                  try clear hx154_0
                  try clear hx155_0
                  try clear p154
                  try clear p155
                  try clear p2
                  try clear q154
                  try clear q155
                  obtain ⟨x6_2, rfl, HA, HK2, ⟨m2, rfl⟩⟩ := hrel
                  cases gk with
                  | zero => exact absurd HA.out (by simp [L05_same.l1])
                  | succ k2 =>
                    have H := HA.out
                    clear HA
                    simp only [L05_same.l1] at H
                    by_cases c8 : 0 ≤ x5_1
                    · rw [if_pos c8] at H
                      have c8b0 : decide (0 ≤ x5_1) = true := decide_eq_true c8
                      clear c8
                      by_cases c9 : x5_1 < (l0.length : Int)
                      · rw [if_pos c9] at H
                        have c9b0 : decide (x5_1 < (l0.length : Int)) = true := decide_eq_true c9
                        clear c9
                        by_cases c10 : x6_2 < ((rd_L5 l0 x5_1).length : Int)
                        · rw [if_pos c10] at H
                          have c10b0 : decide (x6_2 < ((rd_L5 l0 x5_1).length : Int)) = true := decide_eq_true c10
                          clear c10
                          by_cases c11 : 0 ≤ x6_2
                          · rw [if_pos c11] at H
                            have c11b0 : decide (0 ≤ x6_2) = true := decide_eq_true c11
                            clear c11
                            by_cases c12 : x5_1 < (l1.length : Int)
                            · rw [if_pos c12] at H
                              have c12b0 : decide (x5_1 < (l1.length : Int)) = true := decide_eq_true c12
                              clear c12
                              by_cases c13 : x6_2 < ((rd_L7 l1 x5_1).length : Int)
                              · rw [if_pos c13] at H
                                have c13b0 : decide (x6_2 < ((rd_L7 l1 x5_1).length : Int)) = true := decide_eq_true c13
                                clear c13
                                by_cases c14 : ((rd_T35 (rd_L5 l0 x5_1) x6_2).f0) = ((rd_T36 (rd_L7 l1 x5_1) x6_2).f0)
                                · rw [if_pos c14] at H
                                  have c14b0 : (((rd_T35 (rd_L5 l0 x5_1) x6_2).f0) == ((rd_T36 (rd_L7 l1 x5_1) x6_2).f0)) = true := beq_iff_eq.mpr c14
                                  have c14b1 : (((rd_T35 (rd_L5 l0 x5_1) x6_2).f0) != ((rd_T36 (rd_L7 l1 x5_1) x6_2).f0)) = false := bne_eq_false_iff_eq.mpr c14
                                  clear c14
                                  by_cases c15 : ((rd_T35 (rd_L5 l0 x5_1) x6_2).f1) = ((rd_T36 (rd_L7 l1 x5_1) x6_2).f1)
                                  · rw [if_pos c15] at H
                                    have c15b0 : (((rd_T35 (rd_L5 l0 x5_1) x6_2).f1) == ((rd_T36 (rd_L7 l1 x5_1) x6_2).f1)) = true := beq_iff_eq.mpr c15
                                    have c15b1 : (((rd_T35 (rd_L5 l0 x5_1) x6_2).f1) != ((rd_T36 (rd_L7 l1 x5_1) x6_2).f1)) = false := bne_eq_false_iff_eq.mpr c15
                                    clear c15
                                    by_cases c16 : ((rd_T35 (rd_L5 l0 x5_1) x6_2).f2).toList = ((rd_T36 (rd_L7 l1 x5_1) x6_2).f2).toList
                                    · rw [if_pos c16] at H
                                      have c16b0 : (((rd_T35 (rd_L5 l0 x5_1) x6_2).f2).toList == ((rd_T36 (rd_L7 l1 x5_1) x6_2).f2).toList) = true := beq_iff_eq.mpr c16
                                      have c16b1 : (((rd_T35 (rd_L5 l0 x5_1) x6_2).f2).toList != ((rd_T36 (rd_L7 l1 x5_1) x6_2).f2).toList) = false := bne_eq_false_iff_eq.mpr c16
                                      clear c16
                                      have H' := Aside0.mk H
                                      clear H
                                      have p156 : 0 ≤ (x5_1 : Int) := of_decide_eq_true (by first | (with_reducible assumption) | assumption)
                                      have q156 : x5_1 < (l0.length : Int) := of_decide_eq_true (by first | (with_reducible assumption) | assumption)
                                      obtain ⟨ad156, A156_0, c156_0, e156, hx156_0, hl156_0, hi156_0⟩ := at_L5 HR0.out x5_1 p156 q156
                                      obtain rfl : ad154 = ad156 := (by injection e156)
                                      have HR156_0 := Aside0.mk hi156_0
                                      have HC156_0 := Aside0.mk hl156_0
                                      clear hi156_0 hl156_0
                                      replace p156 := eq_true p156
                                      replace q156 := eq_true q156
                                      have p157 : 0 ≤ (x5_1 : Int) := of_decide_eq_true (by first | (with_reducible assumption) | assumption)
                                      have q157 : x5_1 < (l0.length : Int) := of_decide_eq_true (by first | (with_reducible assumption) | assumption)
                                      obtain ⟨ad157, A157_0, c157_0, e157, hx157_0, hl157_0, hi157_0⟩ := at_L5 HR0.out x5_1 p157 q157
                                      obtain rfl : ad154 = ad157 := (by injection e157)
                                      have HR157_0 := Aside0.mk hi157_0
                                      have HC157_0 := Aside0.mk hl157_0
                                      clear hi157_0 hl157_0
                                      replace p157 := eq_true p157
                                      replace q157 := eq_true q157
                                      have ea_ := Option.some.inj (hx156_0.symm.trans hx157_0)
                                      injection ea_ with ea_ en_ ec_
                                      subst ea_
                                      subst ec_
                                      clear en_
                                      have p158 : 0 ≤ (x6_2 : Int) := of_decide_eq_true (by first | (with_reducible assumption) | assumption)
                                      have q158 : x6_2 < ((rd_L5 l0 x5_1).length : Int) := of_decide_eq_true (by first | (with_reducible assumption) | assumption)
                                      obtain ⟨ad158, e158, hx158_0, hx158_1, hx158_2⟩ := at_T35 HR157_0.out x6_2 p158 q158
                                      cases e158
                                      replace p158 := eq_true p158
                                      replace q158 := eq_true q158
                                      have p159 : 0 ≤ (x5_1 : Int) := of_decide_eq_true (by first | (with_reducible assumption) | assumption)
                                      have q159 : x5_1 < (l1.length : Int) := of_decide_eq_true (by first | (with_reducible assumption) | assumption)
                                      obtain ⟨ad159, A159_0, c159_0, e159, hx159_0, hl159_0, hi159_0⟩ := at_L7 HR1.out x5_1 p159 q159
                                      obtain rfl : ad155 = ad159 := (by injection e159)
                                      have HR159_0 := Aside0.mk hi159_0
                                      have HC159_0 := Aside0.mk hl159_0
                                      clear hi159_0 hl159_0
                                      replace p159 := eq_true p159
                                      replace q159 := eq_true q159
                                      have p160 : 0 ≤ (x6_2 : Int) := of_decide_eq_true (by first | (with_reducible assumption) | assumption)
                                      have q160 : x6_2 < ((rd_L7 l1 x5_1).length : Int) := of_decide_eq_true (by first | (with_reducible assumption) | assumption)
                                      obtain ⟨ad160, e160, hx160_0, hx160_1, hx160_2⟩ := at_T36 HR159_0.out x6_2 p160 q160
                                      cases e160
                                      replace p160 := eq_true p160
                                      replace q160 := eq_true q160
                                      have p161 : 0 ≤ (x5_1 : Int) := of_decide_eq_true (by first | (with_reducible assumption) | assumption)
                                      have q161 : x5_1 < (l0.length : Int) := of_decide_eq_true (by first | (with_reducible assumption) | assumption)
                                      obtain ⟨ad161, A161_0, c161_0, e161, hx161_0, hl161_0, hi161_0⟩ := at_L5 HR0.out x5_1 p161 q161
                                      obtain rfl : ad154 = ad161 := (by injection e161)
                                      have HR161_0 := Aside0.mk hi161_0
                                      have HC161_0 := Aside0.mk hl161_0
                                      clear hi161_0 hl161_0
                                      replace p161 := eq_true p161
                                      replace q161 := eq_true q161
                                      have ea_ := Option.some.inj (hx156_0.symm.trans hx161_0)
                                      injection ea_ with ea_ en_ ec_
                                      subst ea_
                                      subst ec_
                                      clear en_
                                      have p162 : 0 ≤ (x6_2 : Int) := of_decide_eq_true (by first | (with_reducible assumption) | assumption)
                                      have q162 : x6_2 < ((rd_L5 l0 x5_1).length : Int) := of_decide_eq_true (by first | (with_reducible assumption) | assumption)
                                      obtain ⟨ad162, e162, hx162_0, hx162_1, hx162_2⟩ := at_T35 HR161_0.out x6_2 p162 q162
                                      cases e162
                                      replace p162 := eq_true p162
                                      replace q162 := eq_true q162
                                      have p163 : 0 ≤ (x5_1 : Int) := of_decide_eq_true (by first | (with_reducible assumption) | assumption)
                                      have q163 : x5_1 < (l1.length : Int) := of_decide_eq_true (by first | (with_reducible assumption) | assumption)
                                      obtain ⟨ad163, A163_0, c163_0, e163, hx163_0, hl163_0, hi163_0⟩ := at_L7 HR1.out x5_1 p163 q163
                                      obtain rfl : ad155 = ad163 := (by injection e163)
                                      have HR163_0 := Aside0.mk hi163_0
                                      have HC163_0 := Aside0.mk hl163_0
                                      clear hi163_0 hl163_0
                                      replace p163 := eq_true p163
                                      replace q163 := eq_true q163
                                      have ea_ := Option.some.inj (hx159_0.symm.trans hx163_0)
                                      injection ea_ with ea_ en_ ec_
                                      subst ea_
                                      subst ec_
                                      clear en_
                                      have p164 : 0 ≤ (x6_2 : Int) := of_decide_eq_true (by first | (with_reducible assumption) | assumption)
                                      have q164 : x6_2 < ((rd_L7 l1 x5_1).length : Int) := of_decide_eq_true (by first | (with_reducible assumption) | assumption)
                                      obtain ⟨ad164, e164, hx164_0, hx164_1, hx164_2⟩ := at_T36 HR163_0.out x6_2 p164 q164
                                      cases e164
                                      replace p164 := eq_true p164
                                      replace q164 := eq_true q164
                                      have p165 : 0 ≤ (x5_1 : Int) := of_decide_eq_true (by first | (with_reducible assumption) | assumption)
                                      have q165 : x5_1 < (l0.length : Int) := of_decide_eq_true (by first | (with_reducible assumption) | assumption)
                                      obtain ⟨ad165, A165_0, c165_0, e165, hx165_0, hl165_0, hi165_0⟩ := at_L5 HR0.out x5_1 p165 q165
                                      obtain rfl : ad154 = ad165 := (by injection e165)
                                      have HR165_0 := Aside0.mk hi165_0
                                      have HC165_0 := Aside0.mk hl165_0
                                      clear hi165_0 hl165_0
                                      replace p165 := eq_true p165
                                      replace q165 := eq_true q165
                                      have ea_ := Option.some.inj (hx156_0.symm.trans hx165_0)
                                      injection ea_ with ea_ en_ ec_
                                      subst ea_
                                      subst ec_
                                      clear en_
                                      have p166 : 0 ≤ (x6_2 : Int) := of_decide_eq_true (by first | (with_reducible assumption) | assumption)
                                      have q166 : x6_2 < ((rd_L5 l0 x5_1).length : Int) := of_decide_eq_true (by first | (with_reducible assumption) | assumption)
                                      obtain ⟨ad166, e166, hx166_0, hx166_1, hx166_2⟩ := at_T35 HR165_0.out x6_2 p166 q166
                                      cases e166
                                      replace p166 := eq_true p166
                                      replace q166 := eq_true q166
                                      have p167 : 0 ≤ (x5_1 : Int) := of_decide_eq_true (by first | (with_reducible assumption) | assumption)
                                      have q167 : x5_1 < (l1.length : Int) := of_decide_eq_true (by first | (with_reducible assumption) | assumption)
                                      obtain ⟨ad167, A167_0, c167_0, e167, hx167_0, hl167_0, hi167_0⟩ := at_L7 HR1.out x5_1 p167 q167
                                      obtain rfl : ad155 = ad167 := (by injection e167)
                                      have HR167_0 := Aside0.mk hi167_0
                                      have HC167_0 := Aside0.mk hl167_0
                                      clear hi167_0 hl167_0
                                      replace p167 := eq_true p167
                                      replace q167 := eq_true q167
                                      have ea_ := Option.some.inj (hx159_0.symm.trans hx167_0)
                                      injection ea_ with ea_ en_ ec_
                                      subst ea_
                                      subst ec_
                                      clear en_
                                      have p168 : 0 ≤ (x6_2 : Int) := of_decide_eq_true (by first | (with_reducible assumption) | assumption)
                                      have q168 : x6_2 < ((rd_L7 l1 x5_1).length : Int) := of_decide_eq_true (by first | (with_reducible assumption) | assumption)
                                      obtain ⟨ad168, e168, hx168_0, hx168_1, hx168_2⟩ := at_T36 HR167_0.out x6_2 p168 q168
                                      cases e168
                                      replace p168 := eq_true p168
                                      replace q168 := eq_true q168
                                      go_wp2
                                      repeat (go_quiet (fail); try go_wp2)
                                      go_roundg k2
                                      case measure => have := HK1.out; have := HK2.out; omega
                                      case rel => exact ⟨(wrap64 (x6_2 + 1)), (by first | rfl | (simp; done) | (simp [*]; done)), H', ⟨by have := HK1.out; have := HK2.out; omega⟩, by repeat (first | exact Drawn0.refl _ | apply Drawn0.step)⟩
                                    · rw [if_neg c16] at H
                                      have c16b0 : (((rd_T35 (rd_L5 l0 x5_1) x6_2).f2).toList == ((rd_T36 (rd_L7 l1 x5_1) x6_2).f2).toList) = false := beq_eq_false_iff_ne.mpr c16
                                      have c16b1 : (((rd_T35 (rd_L5 l0 x5_1) x6_2).f2).toList != ((rd_T36 (rd_L7 l1 x5_1) x6_2).f2).toList) = true := bne_iff_ne.mpr c16
                                      obtain rfl := Option.some.inj H
                                      have p156 : 0 ≤ (x5_1 : Int) := of_decide_eq_true (by first | (with_reducible assumption) | assumption)
                                      have q156 : x5_1 < (l0.length : Int) := of_decide_eq_true (by first | (with_reducible assumption) | assumption)
                                      obtain ⟨ad156, A156_0, c156_0, e156, hx156_0, hl156_0, hi156_0⟩ := at_L5 HR0.out x5_1 p156 q156
                                      obtain rfl : ad154 = ad156 := (by injection e156)
                                      have HR156_0 := Aside0.mk hi156_0
                                      have HC156_0 := Aside0.mk hl156_0
                                      clear hi156_0 hl156_0
                                      replace p156 := eq_true p156
                                      replace q156 := eq_true q156
                                      have p157 : 0 ≤ (x5_1 : Int) := of_decide_eq_true (by first | (with_reducible assumption) | assumption)
                                      have q157 : x5_1 < (l0.length : Int) := of_decide_eq_true (by first | (with_reducible assumption) | assumption)
                                      obtain ⟨ad157, A157_0, c157_0, e157, hx157_0, hl157_0, hi157_0⟩ := at_L5 HR0.out x5_1 p157 q157
                                      obtain rfl : ad154 = ad157 := (by injection e157)
                                      have HR157_0 := Aside0.mk hi157_0
                                      have HC157_0 := Aside0.mk hl157_0
                                      clear hi157_0 hl157_0
                                      replace p157 := eq_true p157
                                      replace q157 := eq_true q157
                                      have ea_ := Option.some.inj (hx156_0.symm.trans hx157_0)
                                      injection ea_ with ea_ en_ ec_
                                      subst ea_
                                      subst ec_
                                      clear en_
                                      have p158 : 0 ≤ (x6_2 : Int) := of_decide_eq_true (by first | (with_reducible assumption) | assumption)
                                      have q158 : x6_2 < ((rd_L5 l0 x5_1).length : Int) := of_decide_eq_true (by first | (with_reducible assumption) | assumption)
                                      obtain ⟨ad158, e158, hx158_0, hx158_1, hx158_2⟩ := at_T35 HR157_0.out x6_2 p158 q158
                                      cases e158
                                      replace p158 := eq_true p158
                                      replace q158 := eq_true q158
                                      have p159 : 0 ≤ (x5_1 : Int) := of_decide_eq_true (by first | (with_reducible assumption) | assumption)
                                      have q159 : x5_1 < (l1.length : Int) := of_decide_eq_true (by first | (with_reducible assumption) | assumption)
                                      obtain ⟨ad159, A159_0, c159_0, e159, hx159_0, hl159_0, hi159_0⟩ := at_L7 HR1.out x5_1 p159 q159
                                      obtain rfl : ad155 = ad159 := (by injection e159)
                                      have HR159_0 := Aside0.mk hi159_0
                                      have HC159_0 := Aside0.mk hl159_0
                                      clear hi159_0 hl159_0
                                      replace p159 := eq_true p159
                                      replace q159 := eq_true q159
                                      have p160 : 0 ≤ (x6_2 : Int) := of_decide_eq_true (by first | (with_reducible assumption) | assumption)
                                      have q160 : x6_2 < ((rd_L7 l1 x5_1).length : Int) := of_decide_eq_true (by first | (with_reducible assumption) | assumption)
                                      obtain ⟨ad160, e160, hx160_0, hx160_1, hx160_2⟩ := at_T36 HR159_0.out x6_2 p160 q160
                                      cases e160
                                      replace p160 := eq_true p160
                                      replace q160 := eq_true q160
                                      have p161 : 0 ≤ (x5_1 : Int) := of_decide_eq_true (by first | (with_reducible assumption) | assumption)
                                      have q161 : x5_1 < (l0.length : Int) := of_decide_eq_true (by first | (with_reducible assumption) | assumption)
                                      obtain ⟨ad161, A161_0, c161_0, e161, hx161_0, hl161_0, hi161_0⟩ := at_L5 HR0.out x5_1 p161 q161
                                      obtain rfl : ad154 = ad161 := (by injection e161)
                                      have HR161_0 := Aside0.mk hi161_0
                                      have HC161_0 := Aside0.mk hl161_0
                                      clear hi161_0 hl161_0
                                      replace p161 := eq_true p161
                                      replace q161 := eq_true q161
                                      have ea_ := Option.some.inj (hx156_0.symm.trans hx161_0)
                                      injection ea_ with ea_ en_ ec_
                                      subst ea_
                                      subst ec_
                                      clear en_
                                      have p162 : 0 ≤ (x6_2 : Int) := of_decide_eq_true (by first | (with_reducible assumption) | assumption)
                                      have q162 : x6_2 < ((rd_L5 l0 x5_1).length : Int) := of_decide_eq_true (by first | (with_reducible assumption) | assumption)
                                      obtain ⟨ad162, e162, hx162_0, hx162_1, hx162_2⟩ := at_T35 HR161_0.out x6_2 p162 q162
                                      cases e162
                                      replace p162 := eq_true p162
                                      replace q162 := eq_true q162
                                      have p163 : 0 ≤ (x5_1 : Int) := of_decide_eq_true (by first | (with_reducible assumption) | assumption)
                                      have q163 : x5_1 < (l1.length : Int) := of_decide_eq_true (by first | (with_reducible assumption) | assumption)
                                      obtain ⟨ad163, A163_0, c163_0, e163, hx163_0, hl163_0, hi163_0⟩ := at_L7 HR1.out x5_1 p163 q163
                                      obtain rfl : ad155 = ad163 := (by injection e163)
                                      have HR163_0 := Aside0.mk hi163_0
                                      have HC163_0 := Aside0.mk hl163_0
                                      clear hi163_0 hl163_0
                                      replace p163 := eq_true p163
                                      replace q163 := eq_true q163
                                      have ea_ := Option.some.inj (hx159_0.symm.trans hx163_0)
                                      injection ea_ with ea_ en_ ec_
                                      subst ea_
                                      subst ec_
                                      clear en_
                                      have p164 : 0 ≤ (x6_2 : Int) := of_decide_eq_true (by first | (with_reducible assumption) | assumption)
                                      have q164 : x6_2 < ((rd_L7 l1 x5_1).length : Int) := of_decide_eq_true (by first | (with_reducible assumption) | assumption)
                                      obtain ⟨ad164, e164, hx164_0, hx164_1, hx164_2⟩ := at_T36 HR163_0.out x6_2 p164 q164
                                      cases e164
                                      replace p164 := eq_true p164
                                      replace q164 := eq_true q164
                                      have p165 : 0 ≤ (x5_1 : Int) := of_decide_eq_true (by first | (with_reducible assumption) | assumption)
                                      have q165 : x5_1 < (l0.length : Int) := of_decide_eq_true (by first | (with_reducible assumption) | assumption)
                                      obtain ⟨ad165, A165_0, c165_0, e165, hx165_0, hl165_0, hi165_0⟩ := at_L5 HR0.out x5_1 p165 q165
                                      obtain rfl : ad154 = ad165 := (by injection e165)
                                      have HR165_0 := Aside0.mk hi165_0
                                      have HC165_0 := Aside0.mk hl165_0
                                      clear hi165_0 hl165_0
                                      replace p165 := eq_true p165
                                      replace q165 := eq_true q165
                                      have ea_ := Option.some.inj (hx156_0.symm.trans hx165_0)
                                      injection ea_ with ea_ en_ ec_
                                      subst ea_
                                      subst ec_
                                      clear en_
                                      have p166 : 0 ≤ (x6_2 : Int) := of_decide_eq_true (by first | (with_reducible assumption) | assumption)
                                      have q166 : x6_2 < ((rd_L5 l0 x5_1).length : Int) := of_decide_eq_true (by first | (with_reducible assumption) | assumption)
                                      obtain ⟨ad166, e166, hx166_0, hx166_1, hx166_2⟩ := at_T35 HR165_0.out x6_2 p166 q166
                                      cases e166
                                      replace p166 := eq_true p166
                                      replace q166 := eq_true q166
                                      have p167 : 0 ≤ (x5_1 : Int) := of_decide_eq_true (by first | (with_reducible assumption) | assumption)
                                      have q167 : x5_1 < (l1.length : Int) := of_decide_eq_true (by first | (with_reducible assumption) | assumption)
                                      obtain ⟨ad167, A167_0, c167_0, e167, hx167_0, hl167_0, hi167_0⟩ := at_L7 HR1.out x5_1 p167 q167
                                      obtain rfl : ad155 = ad167 := (by injection e167)
                                      have HR167_0 := Aside0.mk hi167_0
                                      have HC167_0 := Aside0.mk hl167_0
                                      clear hi167_0 hl167_0
                                      replace p167 := eq_true p167
                                      replace q167 := eq_true q167
                                      have ea_ := Option.some.inj (hx159_0.symm.trans hx167_0)
                                      injection ea_ with ea_ en_ ec_
                                      subst ea_
                                      subst ec_
                                      clear en_
                                      have p168 : 0 ≤ (x6_2 : Int) := of_decide_eq_true (by first | (with_reducible assumption) | assumption)
                                      have q168 : x6_2 < ((rd_L7 l1 x5_1).length : Int) := of_decide_eq_true (by first | (with_reducible assumption) | assumption)
                                      obtain ⟨ad168, e168, hx168_0, hx168_1, hx168_2⟩ := at_T36 HR167_0.out x6_2 p168 q168
                                      cases e168
                                      replace p168 := eq_true p168
                                      replace q168 := eq_true q168
                                      go_wp2
                                      repeat (go_quiet (fail); try go_wp2)
                                      go_ret
                                      exact ⟨by first | rfl | (simp; done) | (simp [*]; done), by repeat (first | exact Drawn0.refl _ | apply Drawn0.step)⟩
                                  · rw [if_neg c15] at H
                                    have c15b0 : (((rd_T35 (rd_L5 l0 x5_1) x6_2).f1) == ((rd_T36 (rd_L7 l1 x5_1) x6_2).f1)) = false := beq_eq_false_iff_ne.mpr c15
                                    have c15b1 : (((rd_T35 (rd_L5 l0 x5_1) x6_2).f1) != ((rd_T36 (rd_L7 l1 x5_1) x6_2).f1)) = true := bne_iff_ne.mpr c15
                                    obtain rfl := Option.some.inj H
                                    have p156 : 0 ≤ (x5_1 : Int) := of_decide_eq_true (by first | (with_reducible assumption) | assumption)
                                    have q156 : x5_1 < (l0.length : Int) := of_decide_eq_true (by first | (with_reducible assumption) | assumption)
                                    obtain ⟨ad156, A156_0, c156_0, e156, hx156_0, hl156_0, hi156_0⟩ := at_L5 HR0.out x5_1 p156 q156
                                    obtain rfl : ad154 = ad156 := (by injection e156)
                                    have HR156_0 := Aside0.mk hi156_0
                                    have HC156_0 := Aside0.mk hl156_0
                                    clear hi156_0 hl156_0
                                    replace p156 := eq_true p156
                                    replace q156 := eq_true q156
                                    have p157 : 0 ≤ (x5_1 : Int) := of_decide_eq_true (by first | (with_reducible assumption) | assumption)
                                    have q157 : x5_1 < (l0.length : Int) := of_decide_eq_true (by first | (with_reducible assumption) | assumption)
                                    obtain ⟨ad157, A157_0, c157_0, e157, hx157_0, hl157_0, hi157_0⟩ := at_L5 HR0.out x5_1 p157 q157
                                    obtain rfl : ad154 = ad157 := (by injection e157)
                                    have HR157_0 := Aside0.mk hi157_0
                                    have HC157_0 := Aside0.mk hl157_0
                                    clear hi157_0 hl157_0
                                    replace p157 := eq_true p157
                                    replace q157 := eq_true q157
                                    have ea_ := Option.some.inj (hx156_0.symm.trans hx157_0)
                                    injection ea_ with ea_ en_ ec_
                                    subst ea_
                                    subst ec_
                                    clear en_
                                    have p158 : 0 ≤ (x6_2 : Int) := of_decide_eq_true (by first | (with_reducible assumption) | assumption)
                                    have q158 : x6_2 < ((rd_L5 l0 x5_1).length : Int) := of_decide_eq_true (by first | (with_reducible assumption) | assumption)
                                    obtain ⟨ad158, e158, hx158_0, hx158_1, hx158_2⟩ := at_T35 HR157_0.out x6_2 p158 q158
                                    cases e158
                                    replace p158 := eq_true p158
                                    replace q158 := eq_true q158
                                    have p159 : 0 ≤ (x5_1 : Int) := of_decide_eq_true (by first | (with_reducible assumption) | assumption)
                                    have q159 : x5_1 < (l1.length : Int) := of_decide_eq_true (by first | (with_reducible assumption) | assumption)
                                    obtain ⟨ad159, A159_0, c159_0, e159, hx159_0, hl159_0, hi159_0⟩ := at_L7 HR1.out x5_1 p159 q159
                                    obtain rfl : ad155 = ad159 := (by injection e159)
                                    have HR159_0 := Aside0.mk hi159_0
                                    have HC159_0 := Aside0.mk hl159_0
                                    clear hi159_0 hl159_0
                                    replace p159 := eq_true p159
                                    replace q159 := eq_true q159
                                    have p160 : 0 ≤ (x6_2 : Int) := of_decide_eq_true (by first | (with_reducible assumption) | assumption)
                                    have q160 : x6_2 < ((rd_L7 l1 x5_1).length : Int) := of_decide_eq_true (by first | (with_reducible assumption) | assumption)
                                    obtain ⟨ad160, e160, hx160_0, hx160_1, hx160_2⟩ := at_T36 HR159_0.out x6_2 p160 q160
                                    cases e160
                                    replace p160 := eq_true p160
                                    replace q160 := eq_true q160
                                    have p161 : 0 ≤ (x5_1 : Int) := of_decide_eq_true (by first | (with_reducible assumption) | assumption)
                                    have q161 : x5_1 < (l0.length : Int) := of_decide_eq_true (by first | (with_reducible assumption) | assumption)
                                    obtain ⟨ad161, A161_0, c161_0, e161, hx161_0, hl161_0, hi161_0⟩ := at_L5 HR0.out x5_1 p161 q161
                                    obtain rfl : ad154 = ad161 := (by injection e161)
                                    have HR161_0 := Aside0.mk hi161_0
                                    have HC161_0 := Aside0.mk hl161_0
                                    clear hi161_0 hl161_0
                                    replace p161 := eq_true p161
                                    replace q161 := eq_true q161
                                    have ea_ := Option.some.inj (hx156_0.symm.trans hx161_0)
                                    injection ea_ with ea_ en_ ec_
                                    subst ea_
                                    subst ec_
                                    clear en_
                                    have p162 : 0 ≤ (x6_2 : Int) := of_decide_eq_true (by first | (with_reducible assumption) | assumption)
                                    have q162 : x6_2 < ((rd_L5 l0 x5_1).length : Int) := of_decide_eq_true (by first | (with_reducible assumption) | assumption)
                                    obtain ⟨ad162, e162, hx162_0, hx162_1, hx162_2⟩ := at_T35 HR161_0.out x6_2 p162 q162
                                    cases e162
                                    replace p162 := eq_true p162
                                    replace q162 := eq_true q162
                                    have p163 : 0 ≤ (x5_1 : Int) := of_decide_eq_true (by first | (with_reducible assumption) | assumption)
                                    have q163 : x5_1 < (l1.length : Int) := of_decide_eq_true (by first | (with_reducible assumption) | assumption)
                                    obtain ⟨ad163, A163_0, c163_0, e163, hx163_0, hl163_0, hi163_0⟩ := at_L7 HR1.out x5_1 p163 q163
                                    obtain rfl : ad155 = ad163 := (by injection e163)
                                    have HR163_0 := Aside0.mk hi163_0
                                    have HC163_0 := Aside0.mk hl163_0
                                    clear hi163_0 hl163_0
                                    replace p163 := eq_true p163
                                    replace q163 := eq_true q163
                                    have ea_ := Option.some.inj (hx159_0.symm.trans hx163_0)
                                    injection ea_ with ea_ en_ ec_
                                    subst ea_
                                    subst ec_
                                    clear en_
                                    have p164 : 0 ≤ (x6_2 : Int) := of_decide_eq_true (by first | (with_reducible assumption) | assumption)
                                    have q164 : x6_2 < ((rd_L7 l1 x5_1).length : Int) := of_decide_eq_true (by first | (with_reducible assumption) | assumption)
                                    obtain ⟨ad164, e164, hx164_0, hx164_1, hx164_2⟩ := at_T36 HR163_0.out x6_2 p164 q164
                                    cases e164
                                    replace p164 := eq_true p164
                                    replace q164 := eq_true q164
                                    go_wp2
                                    repeat (go_quiet (fail); try go_wp2)
                                    go_ret
                                    exact ⟨by first | rfl | (simp; done) | (simp [*]; done), by repeat (first | exact Drawn0.refl _ | apply Drawn0.step)⟩
                                · rw [if_neg c14] at H
                                  have c14b0 : (((rd_T35 (rd_L5 l0 x5_1) x6_2).f0) == ((rd_T36 (rd_L7 l1 x5_1) x6_2).f0)) = false := beq_eq_false_iff_ne.mpr c14
                                  have c14b1 : (((rd_T35 (rd_L5 l0 x5_1) x6_2).f0) != ((rd_T36 (rd_L7 l1 x5_1) x6_2).f0)) = true := bne_iff_ne.mpr c14
                                  obtain rfl := Option.some.inj H
                                  have p156 : 0 ≤ (x5_1 : Int) := of_decide_eq_true (by first | (with_reducible assumption) | assumption)
                                  have q156 : x5_1 < (l0.length : Int) := of_decide_eq_true (by first | (with_reducible assumption) | assumption)
                                  obtain ⟨ad156, A156_0, c156_0, e156, hx156_0, hl156_0, hi156_0⟩ := at_L5 HR0.out x5_1 p156 q156
                                  obtain rfl : ad154 = ad156 := (by injection e156)
                                  have HR156_0 := Aside0.mk hi156_0
                                  have HC156_0 := Aside0.mk hl156_0
                                  clear hi156_0 hl156_0
                                  replace p156 := eq_true p156
                                  replace q156 := eq_true q156
                                  have p157 : 0 ≤ (x5_1 : Int) := of_decide_eq_true (by first | (with_reducible assumption) | assumption)
                                  have q157 : x5_1 < (l0.length : Int) := of_decide_eq_true (by first | (with_reducible assumption) | assumption)
                                  obtain ⟨ad157, A157_0, c157_0, e157, hx157_0, hl157_0, hi157_0⟩ := at_L5 HR0.out x5_1 p157 q157
                                  obtain rfl : ad154 = ad157 := (by injection e157)
                                  have HR157_0 := Aside0.mk hi157_0
                                  have HC157_0 := Aside0.mk hl157_0
                                  clear hi157_0 hl157_0
                                  replace p157 := eq_true p157
                                  replace q157 := eq_true q157
                                  have ea_ := Option.some.inj (hx156_0.symm.trans hx157_0)
                                  injection ea_ with ea_ en_ ec_
                                  subst ea_
                                  subst ec_
                                  clear en_
                                  have p158 : 0 ≤ (x6_2 : Int) := of_decide_eq_true (by first | (with_reducible assumption) | assumption)
                                  have q158 : x6_2 < ((rd_L5 l0 x5_1).length : Int) := of_decide_eq_true (by first | (with_reducible assumption) | assumption)
                                  obtain ⟨ad158, e158, hx158_0, hx158_1, hx158_2⟩ := at_T35 HR157_0.out x6_2 p158 q158
                                  cases e158
                                  replace p158 := eq_true p158
                                  replace q158 := eq_true q158
                                  have p159 : 0 ≤ (x5_1 : Int) := of_decide_eq_true (by first | (with_reducible assumption) | assumption)
                                  have q159 : x5_1 < (l1.length : Int) := of_decide_eq_true (by first | (with_reducible assumption) | assumption)
                                  obtain ⟨ad159, A159_0, c159_0, e159, hx159_0, hl159_0, hi159_0⟩ := at_L7 HR1.out x5_1 p159 q159
                                  obtain rfl : ad155 = ad159 := (by injection e159)
                                  have HR159_0 := Aside0.mk hi159_0
                                  have HC159_0 := Aside0.mk hl159_0
                                  clear hi159_0 hl159_0
                                  replace p159 := eq_true p159
                                  replace q159 := eq_true q159
                                  have p160 : 0 ≤ (x6_2 : Int) := of_decide_eq_true (by first | (with_reducible assumption) | assumption)
                                  have q160 : x6_2 < ((rd_L7 l1 x5_1).length : Int) := of_decide_eq_true (by first | (with_reducible assumption) | assumption)
                                  obtain ⟨ad160, e160, hx160_0, hx160_1, hx160_2⟩ := at_T36 HR159_0.out x6_2 p160 q160
                                  cases e160
                                  replace p160 := eq_true p160
                                  replace q160 := eq_true q160
                                  go_wp2
                                  repeat (go_quiet (fail); try go_wp2)
                                  go_ret
                                  exact ⟨by first | rfl | (simp; done) | (simp [*]; done), by repeat (first | exact Drawn0.refl _ | apply Drawn0.step)⟩
                              · rw [if_neg c13] at H
                                exact absurd H (by simp)
                            · rw [if_neg c12] at H
                              exact absurd H (by simp)
                          · rw [if_neg c11] at H
                            exact absurd H (by simp)
                        · rw [if_neg c10] at H
                          have c10b0 : decide (x6_2 < ((rd_L5 l0 x5_1).length : Int)) = false := decide_eq_false c10
                          clear c10
                          have H' := Aside0.mk H
                          clear H
                          have p156 : 0 ≤ (x5_1 : Int) := of_decide_eq_true (by first | (with_reducible assumption) | assumption)
                          have q156 : x5_1 < (l0.length : Int) := of_decide_eq_true (by first | (with_reducible assumption) | assumption)
                          obtain ⟨ad156, A156_0, c156_0, e156, hx156_0, hl156_0, hi156_0⟩ := at_L5 HR0.out x5_1 p156 q156
                          obtain rfl : ad154 = ad156 := (by injection e156)
                          have HR156_0 := Aside0.mk hi156_0
                          have HC156_0 := Aside0.mk hl156_0
                          clear hi156_0 hl156_0
                          replace p156 := eq_true p156
                          replace q156 := eq_true q156
                          go_wp2
                          repeat (go_quiet (fail); try go_wp2)
                          go_roundg k2
                          case measure => have := HK1.out; have := HK2.out; omega
                          case rel => exact ⟨(wrap64 (x5_1 + 1)), (by first | rfl | (simp; done) | (simp [*]; done)), H', ⟨by have := HK1.out; have := HK2.out; omega⟩, by repeat (first | exact Drawn0.refl _ | apply Drawn0.step)⟩
                      · rw [if_neg c9] at H
                        exact absurd H (by simp)
                    · rw [if_neg c8] at H
                      exact absurd H (by simp)
              · rw [if_neg c7] at H
                have c7b0 : (((rd_L5 l0 x5_1).length : Int) == ((rd_L7 l1 x5_1).length : Int)) = false := beq_eq_false_iff_ne.mpr c7
                have c7b1 : (((rd_L5 l0 x5_1).length : Int) != ((rd_L7 l1 x5_1).length : Int)) = true := bne_iff_ne.mpr c7
                have c7b2 : ((rd_L5 l0 x5_1).length == (rd_L7 l1 x5_1).length) = false := by first | simpa using c7 | (simp at c7 ⊢; omega)
                obtain rfl := Option.some.inj H
                have p154 : 0 ≤ (x5_1 : Int) := of_decide_eq_true (by first | (with_reducible assumption) | assumption)
                have q154 : x5_1 < (l0.length : Int) := of_decide_eq_true (by first | (with_reducible assumption) | assumption)
                obtain ⟨ad154, A154_0, c154_0, e154, hx154_0, hl154_0, hi154_0⟩ := at_L5 HR0.out x5_1 p154 q154
                cases e154
                have HR154_0 := Aside0.mk hi154_0
                have HC154_0 := Aside0.mk hl154_0
                clear hi154_0 hl154_0
                replace p154 := eq_true p154
                replace q154 := eq_true q154
                have p155 : 0 ≤ (x5_1 : Int) := of_decide_eq_true (by first | (with_reducible assumption) | assumption)
                have q155 : x5_1 < (l1.length : Int) := of_decide_eq_true (by first | (with_reducible assumption) | assumption)
                obtain ⟨ad155, A155_0, c155_0, e155, hx155_0, hl155_0, hi155_0⟩ := at_L7 HR1.out x5_1 p155 q155
                cases e155
                have HR155_0 := Aside0.mk hi155_0
                have HC155_0 := Aside0.mk hl155_0
                clear hi155_0 hl155_0
                replace p155 := eq_true p155
                replace q155 := eq_true q155
                go_wp2
                repeat (go_quiet (fail); try go_wp2)
                go_ret
                exact ⟨by first | rfl | (simp; done) | (simp [*]; done), by repeat (first | exact Drawn0.refl _ | apply Drawn0.step)⟩
            · rw [if_neg c6] at H
              exact absurd H (by simp)
          · rw [if_neg c5] at H
            exact absurd H (by simp)
        · rw [if_neg c4] at H
          have c4b0 : decide (x5_1 < (l0.length : Int)) = false := decide_eq_false c4
          clear c4
          obtain rfl := Option.some.inj H
          go_wp2
          repeat (go_quiet (fail); try go_wp2)
          go_ret
          exact ⟨by first | rfl | (simp; done) | (simp [*]; done), by repeat (first | exact Drawn0.refl _ | apply Drawn0.step)⟩
  · rw [if_neg c3] at H
    have c3b0 : ((l0.length : Int) == (l1.length : Int)) = false := beq_eq_false_iff_ne.mpr c3
    have c3b1 : ((l0.length : Int) != (l1.length : Int)) = true := bne_iff_ne.mpr c3
    have c3b2 : (l0.length == l1.length) = false := by first | simpa using c3 | (simp at c3 ⊢; omega)
    obtain rfl := Option.some.inj H
    go_enter Tryd.func13, Tryd.ntmps13
    go_wp2
    repeat (go_quiet (fail); try go_wp2)
    go_ret
    exact ⟨by first | rfl | (simp; done) | (simp [*]; done), by repeat (first | exact Drawn0.refl _ | apply Drawn0.step)⟩

/-! ### L05_few: function 15 -/
def L05_few.f (a0 : ByteArray) : Option (ByteArray) := if 0 ≤ (mn (a0.size : Int) 300) then (if (mn (a0.size : Int) 300) ≤ (a0.size : Int) then (some (a0.extract 0 ((mn (a0.size : Int) 300) : Int).toNat)) else (none)) else (none)
set_option maxHeartbeats 8000000 in
set_option maxRecDepth 100000 in
theorem L05_few.calls (a0 : ByteArray) (r : ByteArray) (w : World) (h : L05_few.f a0 = some r) :
    Calls Tryd.prog 15 #[.string a0] w fun e w' => e = .returned (.string r) ∧ Below w.heap.size w w' := by
  have HB := Aside0.mk (Below.refl w.heap.size w)
  have H : (if 0 ≤ (mn (a0.size : Int) 300) then (if (mn (a0.size : Int) 300) ≤ (a0.size : Int) then (some (a0.extract 0 ((mn (a0.size : Int) 300) : Int).toNat)) else (none)) else (none)) = some r := h
  clear h
  obtain ⟨ji2, hji2⟩ : ∃ j_ : Int, (mn (a0.size : Int) 300) = j_ := ⟨_, rfl⟩
  replace H : (if 0 ≤ (ji2) then (if (ji2) ≤ (a0.size : Int) then (some (a0.extract 0 ((ji2) : Int).toNat)) else (none)) else (none)) = some r := by first | (rw [hji2] at H; exact H) | (simp only [hji2] at H ⊢; exact H)
  (try (have hji2h : ji2 ≤ 300 := by (rw [← hji2]; unfold mn; (repeat' split) <;> omega)))
  (try (have hji2g : ji2 ≤ 64 := by omega))
  (try (have hji2l : 0 ≤ ji2 := by (rw [← hji2]; unfold mn; (repeat' split) <;> omega)))
  (try (have hji2m : 0 ≤ ji2 := by omega))
  have hji2_ : (if 300 < (a0.size : Int) then 300 else (a0.size : Int)) = ji2 := hji2
  by_cases c3 : 0 ≤ (ji2)
  · rw [if_pos c3] at H
    have c3b0 := eq_true c3
    have c3b1 : decide (0 ≤ (ji2)) = true := decide_eq_true c3
    clear c3
    by_cases c4 : (ji2) ≤ (a0.size : Int)
    · rw [if_pos c4] at H
      have c4b0 := eq_true c4
      have c4b1 : decide ((ji2) ≤ (a0.size : Int)) = true := decide_eq_true c4
      clear c4
      obtain rfl := Option.some.inj H
      go_enter Tryd.func15, Tryd.ntmps15
      go_wp2
      go_ret
      exact ⟨by first | rfl | (simp [errW_none, errW_some] <;> rfl) | (simp only [← hji2]; first | rfl | (simp [errW_none, errW_some] <;> rfl)) | (simp [*, errW_none, errW_some] <;> rfl), by repeat (first | (with_reducible first | exact HB.out | apply below_alloc | apply pw_below_drewN | apply below_drew1) | exact HB.out)⟩
    · rw [if_neg c4] at H
      exact absurd H (by simp)
  · rw [if_neg c3] at H
    exact absurd H (by simp)

/-! ### R05_blank: function 40 -/
def R05_blank.f (a0 : Int) : Option (Bool) := if a0 = 32 then (some true) else (some (a0 == 9))
set_option maxHeartbeats 8000000 in
set_option maxRecDepth 100000 in
theorem R05_blank.calls (a0 : Int) (r : Bool) (w : World) (h : R05_blank.f a0 = some r) :
    Calls Tryd.prog 40 #[.int .u8 a0] w fun e w' => e = .returned (.bool r) ∧ Drawn0 w w' := by
  have H : (if a0 = 32 then (some true) else (some (a0 == 9))) = some r := h
  clear h
  by_cases c2 : a0 = 32
  · rw [if_pos c2] at H
    have c2b0 : (a0 == 32) = true := beq_iff_eq.mpr c2
    have c2b1 : (a0 != 32) = false := bne_eq_false_iff_eq.mpr c2
    clear c2
    obtain rfl := Option.some.inj H
    go_enter Tryd.func40, Tryd.ntmps40
    go_wp2
    go_ret
    exact ⟨by first | rfl | (simp; done) | (simp [*]; done), by repeat (first | exact Drawn0.refl _ | apply Drawn0.step)⟩
  · rw [if_neg c2] at H
    have c2b0 : (a0 == 32) = false := beq_eq_false_iff_ne.mpr c2
    have c2b1 : (a0 != 32) = true := bne_iff_ne.mpr c2
    obtain rfl := Option.some.inj H
    go_enter Tryd.func40, Tryd.ntmps40
    go_wp2
    go_ret
    exact ⟨by first | rfl | (simp; done) | (simp [*]; done), by repeat (first | exact Drawn0.refl _ | apply Drawn0.step)⟩

end Go.Proofs.YtenjohemplgnmaaDoor.P
