/- Functions of the program as Lean functions, each with a proof that the call comes to just its answers (written by wip/gprint.py of this repo). -/
import Derived.Test.YtenjohemplgnmaaDoorPx0
namespace Go.Proofs.YtenjohemplgnmaaDoor.P
open Go.RowKit Go.Proofs.YtenjohemplgnmaaDoorW.PrintWords Go.Proofs.YtenjohemplgnmaaDoorW.PrintLast Go.Proofs.YtenjohemplgnmaaDoorW.PrintMore
attribute [local go_sem] max2_int min2_int max_two min_two max_three min_three max_four min_four   -- for this text's walks alone
set_option linter.unusedVariables false
set_option linter.unusedSimpArgs false

/-! ### R05_digit: function 35 -/
def R05_digit.f (a0 : Int) : Option (Bool) := if a0 ≥ 48 then (some (decide (a0 ≤ 57))) else (some false)
set_option maxHeartbeats 8000000 in
set_option maxRecDepth 100000 in
theorem R05_digit.calls (a0 : Int) (r : Bool) (w : World) (h : R05_digit.f a0 = some r) :
    Calls Tryd.prog 35 #[.int .u8 a0] w fun e w' => e = .returned (.bool r) ∧ Drawn0 w w' := by
  have H : (if a0 ≥ 48 then (some (decide (a0 ≤ 57))) else (some false)) = some r := h
  clear h
  by_cases c2 : a0 ≥ 48
  · rw [if_pos c2] at H
    have c2b0 : decide (48 ≤ a0) = true := decide_eq_true c2
    clear c2
    obtain rfl := Option.some.inj H
    go_enter Tryd.func35, Tryd.ntmps35
    go_wp2
    go_ret
    exact ⟨by first | rfl | (simp; done) | (simp [*]; done), by repeat (first | exact Drawn0.refl _ | apply Drawn0.step)⟩
  · rw [if_neg c2] at H
    have c2b0 : decide (48 ≤ a0) = false := decide_eq_false c2
    clear c2
    obtain rfl := Option.some.inj H
    go_enter Tryd.func35, Tryd.ntmps35
    go_wp2
    go_ret
    exact ⟨by first | rfl | (simp; done) | (simp [*]; done), by repeat (first | exact Drawn0.refl _ | apply Drawn0.step)⟩

/-! ### R05_Number: function 25 -/
mutual
def R05_Number.j0 : Nat → ByteArray → ByteArray → Bool → Option (Int × Bool)
  | 0, _, _, _ => none
  | k + 1, x0, x4, x15 => if x15 = true then (if 1 ≤ (x0.size : Int) then (R05_Number.j1 k x0 (x0.extract 1 x0.size)) else (none)) else (R05_Number.j1 k x0 x4)
def R05_Number.j1 : Nat → ByteArray → ByteArray → Option (Int × Bool)
  | 0, _, _ => none
  | k + 1, x0, x4 => R05_Number.l0 k x0 x4 0 0
def R05_Number.l0 : Nat → ByteArray → ByteArray → Int → Int → Option (Int × Bool)
  | 0, _, _, _, _ => none
  | k + 1, x0, x4, x5, x6 => if x6 < (x4.size : Int) then (R05_Number.j3 k x0 x4 x5 x6 (decide (x6 < 10))) else (R05_Number.j3 k x0 x4 x5 x6 false)
def R05_Number.j3 : Nat → ByteArray → ByteArray → Int → Int → Bool → Option (Int × Bool)
  | 0, _, _, _, _, _ => none
  | k + 1, x0, x4, x5, x6, x25 => if x25 = true then (if 0 ≤ x6 then (if x6 < (x4.size : Int) then ((R05_digit.f (bt x4 x6)).bind fun t513 => (if t513 = true then (R05_Number.l0 k x0 x4 (wrap64 ((wrap64 (10 * x5)) + (((bt x4 x6) - 48) % 256))) (wrap64 (x6 + 1))) else (some (0, false)))) else (none)) else (none)) else (if (x4.size : Int) < 1 then (R05_Number.j4 k x0 x4 x5 true) else (R05_Number.j4 k x0 x4 x5 (decide ((x4.size : Int) > 9))))
def R05_Number.j4 : Nat → ByteArray → ByteArray → Int → Bool → Option (Int × Bool)
  | 0, _, _, _, _ => none
  | k + 1, x0, x4, x5, x48 => if x48 = true then (some (0, false)) else (if (x4.size : Int) < (x0.size : Int) then (some (wrap64 (-x5), true)) else (some (x5, true)))
end
def R05_Number.f (k : Nat) (a0 : ByteArray) : Option (Int × Bool) := if (a0.size : Int) > 0 then (if 0 < (a0.size : Int) then (R05_Number.j0 k a0 a0 ((bt a0 0) == 45)) else (none)) else (R05_Number.j0 k a0 a0 false)
theorem R05_Number.mono_l : ∀ k, (∀ y0 y1 y2, LeO (R05_Number.j0 k y0 y1 y2) (R05_Number.j0 (k + 1) y0 y1 y2)) ∧ (∀ y0 y1, LeO (R05_Number.j1 k y0 y1) (R05_Number.j1 (k + 1) y0 y1)) ∧ (∀ y0 y1 y2 y3, LeO (R05_Number.l0 k y0 y1 y2 y3) (R05_Number.l0 (k + 1) y0 y1 y2 y3)) ∧ (∀ y0 y1 y2 y3 y4, LeO (R05_Number.j3 k y0 y1 y2 y3 y4) (R05_Number.j3 (k + 1) y0 y1 y2 y3 y4)) ∧ (∀ y0 y1 y2 y3, LeO (R05_Number.j4 k y0 y1 y2 y3) (R05_Number.j4 (k + 1) y0 y1 y2 y3))
  | 0 => ⟨fun _ _ _ r h => by simp [R05_Number.j0] at h, fun _ _ r h => by simp [R05_Number.j1] at h, fun _ _ _ _ r h => by simp [R05_Number.l0] at h, fun _ _ _ _ _ r h => by simp [R05_Number.j3] at h, fun _ _ _ _ r h => by simp [R05_Number.j4] at h⟩
  | k + 1 => by
    obtain ⟨ih0, ih1, ih2, ih3, ih4⟩ := R05_Number.mono_l k
    refine ⟨?_, ?_, ?_, ?_, ?_⟩
    · intro y0 y1 y2
      unfold R05_Number.j0
      repeat' first
      | (with_reducible exact ih0 _ _ _)
      | (with_reducible exact ih1 _ _)
      | (with_reducible exact ih2 _ _ _ _)
      | (with_reducible exact ih3 _ _ _ _ _)
      | (with_reducible exact ih4 _ _ _ _)
      | (with_reducible exact LeO.refl _)
      | (with_reducible exact LeO.none _)
      | (with_reducible refine LeO.ite ?_ ?_)
      | (with_reducible refine LeO.bind ?_ (fun _ => ?_))
      | exact ih0 _ _ _
      | exact ih1 _ _
      | exact ih2 _ _ _ _
      | exact ih3 _ _ _ _ _
      | exact ih4 _ _ _ _
      | exact LeO.none _
      | refine LeO.ite ?_ ?_
      | refine LeO.bind ?_ (fun _ => ?_)
    · intro y0 y1
      unfold R05_Number.j1
      repeat' first
      | (with_reducible exact ih0 _ _ _)
      | (with_reducible exact ih1 _ _)
      | (with_reducible exact ih2 _ _ _ _)
      | (with_reducible exact ih3 _ _ _ _ _)
      | (with_reducible exact ih4 _ _ _ _)
      | (with_reducible exact LeO.refl _)
      | (with_reducible exact LeO.none _)
      | (with_reducible refine LeO.ite ?_ ?_)
      | (with_reducible refine LeO.bind ?_ (fun _ => ?_))
      | exact ih0 _ _ _
      | exact ih1 _ _
      | exact ih2 _ _ _ _
      | exact ih3 _ _ _ _ _
      | exact ih4 _ _ _ _
      | exact LeO.none _
      | refine LeO.ite ?_ ?_
      | refine LeO.bind ?_ (fun _ => ?_)
    · intro y0 y1 y2 y3
      unfold R05_Number.l0
      repeat' first
      | (with_reducible exact ih0 _ _ _)
      | (with_reducible exact ih1 _ _)
      | (with_reducible exact ih2 _ _ _ _)
      | (with_reducible exact ih3 _ _ _ _ _)
      | (with_reducible exact ih4 _ _ _ _)
      | (with_reducible exact LeO.refl _)
      | (with_reducible exact LeO.none _)
      | (with_reducible refine LeO.ite ?_ ?_)
      | (with_reducible refine LeO.bind ?_ (fun _ => ?_))
      | exact ih0 _ _ _
      | exact ih1 _ _
      | exact ih2 _ _ _ _
      | exact ih3 _ _ _ _ _
      | exact ih4 _ _ _ _
      | exact LeO.none _
      | refine LeO.ite ?_ ?_
      | refine LeO.bind ?_ (fun _ => ?_)
    · intro y0 y1 y2 y3 y4
      unfold R05_Number.j3
      repeat' first
      | (with_reducible exact ih0 _ _ _)
      | (with_reducible exact ih1 _ _)
      | (with_reducible exact ih2 _ _ _ _)
      | (with_reducible exact ih3 _ _ _ _ _)
      | (with_reducible exact ih4 _ _ _ _)
      | (with_reducible exact LeO.refl _)
      | (with_reducible exact LeO.none _)
      | (with_reducible refine LeO.ite ?_ ?_)
      | (with_reducible refine LeO.bind ?_ (fun _ => ?_))
      | exact ih0 _ _ _
      | exact ih1 _ _
      | exact ih2 _ _ _ _
      | exact ih3 _ _ _ _ _
      | exact ih4 _ _ _ _
      | exact LeO.none _
      | refine LeO.ite ?_ ?_
      | refine LeO.bind ?_ (fun _ => ?_)
    · intro y0 y1 y2 y3
      unfold R05_Number.j4
      repeat' first
      | (with_reducible exact ih0 _ _ _)
      | (with_reducible exact ih1 _ _)
      | (with_reducible exact ih2 _ _ _ _)
      | (with_reducible exact ih3 _ _ _ _ _)
      | (with_reducible exact ih4 _ _ _ _)
      | (with_reducible exact LeO.refl _)
      | (with_reducible exact LeO.none _)
      | (with_reducible refine LeO.ite ?_ ?_)
      | (with_reducible refine LeO.bind ?_ (fun _ => ?_))
      | exact ih0 _ _ _
      | exact ih1 _ _
      | exact ih2 _ _ _ _
      | exact ih3 _ _ _ _ _
      | exact ih4 _ _ _ _
      | exact LeO.none _
      | refine LeO.ite ?_ ?_
      | refine LeO.bind ?_ (fun _ => ?_)
theorem R05_Number.mono : ∀ a0 k, LeO (R05_Number.f k a0) (R05_Number.f (k + 1) a0) := by
  intro a0 k
  obtain ⟨ih0, ih1, ih2, ih3, ih4⟩ := R05_Number.mono_l k
  unfold R05_Number.f
  repeat' first
      | (with_reducible exact ih0 _ _ _)
      | (with_reducible exact ih1 _ _)
      | (with_reducible exact ih2 _ _ _ _)
      | (with_reducible exact ih3 _ _ _ _ _)
      | (with_reducible exact ih4 _ _ _ _)
      | (with_reducible exact LeO.refl _)
      | (with_reducible exact LeO.none _)
      | (with_reducible refine LeO.ite ?_ ?_)
      | (with_reducible refine LeO.bind ?_ (fun _ => ?_))
      | exact ih0 _ _ _
      | exact ih1 _ _
      | exact ih2 _ _ _ _
      | exact ih3 _ _ _ _ _
      | exact ih4 _ _ _ _
      | exact LeO.none _
      | refine LeO.ite ?_ ?_
      | refine LeO.bind ?_ (fun _ => ?_)
set_option maxHeartbeats 8000000 in
set_option maxRecDepth 100000 in
theorem R05_Number.calls (k : Nat) (a0 : ByteArray) (r1 : Int) (r2 : Bool) (w : World) (h : R05_Number.f k a0 = some (r1, r2)) :
    Calls Tryd.prog 25 #[.string a0] w fun e w' => e = .returned (.tuple #[.int .i64 r1, .bool r2]) ∧ Drawn0 w w' := by
  have H : (if (a0.size : Int) > 0 then (if 0 < (a0.size : Int) then (R05_Number.j0 k a0 a0 ((bt a0 0) == 45)) else (none)) else (R05_Number.j0 k a0 a0 false)) = some (r1, r2) := h
  clear h
  have HC2 := Aside0.mk H
  clear H
  go_enter Tryd.func25, Tryd.ntmps25
  go_upto_region 2 with (fail)
  go_cut [15] (fun v15 wc => ∃ (kq : Nat) (x15_1 : Bool), v15 = .bool x15_1 ∧ Aside0 (R05_Number.j0 kq a0 a0 x15_1 = some (r1, r2)) ∧ Aside0 (kq ≤ k) ∧ Drawn0 w wc)
  case first =>
    have H := HC2.out
    clear HC2
    by_cases c3 : (a0.size : Int) > 0
    · rw [if_pos c3] at H
      have c3b0 : decide (0 < (a0.size : Int)) = true := decide_eq_true c3
      have c3b1 : decide (0 < a0.size) = true := decide_eq_true (by omega)
      clear c3
      (first | rw [c3b0] | (simp only [i64_w, i32_w]; rw [c3b0]) | skip)
      by_cases c4 : 0 < (a0.size : Int)
      · rw [if_pos c4] at H
        have c4b0 : decide (0 < (a0.size : Int)) = true := decide_eq_true c4
        have c4b1 : decide (0 < a0.size) = true := decide_eq_true (by omega)
        clear c4
        have H' := Aside0.mk H
        clear H
        have p5 : 0 ≤ (0 : Int) := (by omega)
        have q5 : 0 < a0.size := (by have : (0 : Int) < (a0.size : Int) := of_decide_eq_true (by first | (with_reducible assumption) | assumption); omega)
        have hx5 : ∀ h : 0 < a0.size, ((a0[0]'h).toNat : Int) = bt a0 0 := bt_at a0 0
        clear p5
        have qi5 : (0 < (a0.size : Int)) = True := eq_true (of_decide_eq_true (by first | (with_reducible assumption) | assumption))
        replace q5 := eq_true q5
        go_wp2
        go_meet
        case rel => exact ⟨_, (((bt a0 0) == 45)), (by first | rfl | (simp; done) | (simp [*]; done)), H', ⟨by first | omega | exact Nat.le_refl _⟩, by repeat (first | exact Drawn0.refl _ | apply Drawn0.step)⟩
      · rw [if_neg c4] at H
        exact absurd H (by simp)
    · rw [if_neg c3] at H
      have c3b0 : decide (0 < (a0.size : Int)) = false := decide_eq_false c3
      have c3b1 : decide (0 < a0.size) = false := decide_eq_false (by omega)
      clear c3
      (first | rw [c3b0] | (simp only [i64_w, i32_w]; rw [c3b0]) | skip)
      have H' := Aside0.mk H
      clear H
      go_wp2
      go_meet
      case rel => exact ⟨_, (false), (by first | rfl | (simp; done) | (simp [*]; done)), H', ⟨by first | omega | exact Nat.le_refl _⟩, by repeat (first | exact Drawn0.refl _ | apply Drawn0.step)⟩
  case rest =>
    clear HC2
    try clear c2
    try clear p2
    try clear c3
    try clear c3b0
    try clear c3b1
    try clear c4
    try clear c4b0
    try clear c4b1
    try clear p5
    try clear q5
    try clear hx5
    try clear qi5
    try clear p5
    try clear q5
    obtain ⟨kq, x15_1, rfl, HA, HJ1, ⟨mc1, rfl⟩⟩ := hcut
    cases kq with
    | zero => exact absurd HA.out (by simp [R05_Number.j0])
    | succ kj1 =>
      have H := HA.out
      clear HA
      simp only [R05_Number.j0] at H
      have HC6 := Aside0.mk H
      clear H
      go_upto_if 15 with (fail)
      go_cut [4] (fun v4 wc => ∃ (kq : Nat) (x4_5 : ByteArray), v4 = .string x4_5 ∧ Aside0 (R05_Number.j1 kq a0 x4_5 = some (r1, r2)) ∧ Aside0 (kq ≤ kj1) ∧ Drawn0 w wc)
      case first =>
        have H := HC6.out
        clear HC6
        by_cases c7 : x15_1 = true
        · subst c7
          have H1 : (if 1 ≤ (a0.size : Int) then (R05_Number.j1 kj1 a0 (a0.extract 1 a0.size)) else (none)) = some (r1, r2) := by rw [if_pos rfl] at H; exact H
          clear H
          have H := H1
          clear H1
          by_cases c8 : 1 ≤ (a0.size : Int)
          · rw [if_pos c8] at H
            have c8b0 := eq_true c8
            have c8b1 : decide (1 ≤ (a0.size : Int)) = true := decide_eq_true c8
            clear c8
            have H' := Aside0.mk H
            clear H
            go_wp2
            go_meet
            case rel => exact ⟨_, (a0.extract 1 a0.size), (by first | rfl | (simp; done) | (simp [*]; done)), H', ⟨by have := HJ1.out; first | omega | exact Nat.le_refl _⟩, by repeat (first | exact Drawn0.refl _ | apply Drawn0.step)⟩
          · rw [if_neg c8] at H
            exact absurd H (by simp)
        · replace c7 := Bool.eq_false_iff.mpr c7
          subst c7
          have H1 : (R05_Number.j1 kj1 a0 a0) = some (r1, r2) := by rw [if_neg (show ¬ (false = true) by decide)] at H; exact H
          clear H
          have H := H1
          clear H1
          have H' := Aside0.mk H
          clear H
          go_wp2
          go_meet
          case rel => exact ⟨_, (a0), (by first | rfl | (simp; done) | (simp [*]; done)), H', ⟨by have := HJ1.out; first | omega | exact Nat.le_refl _⟩, by repeat (first | exact Drawn0.refl _ | apply Drawn0.step)⟩
      case rest =>
        clear HC6
        try clear c1
        try clear c2
        try clear p2
        try clear c3
        try clear c3b0
        try clear c3b1
        try clear c4
        try clear c4b0
        try clear c4b1
        try clear p5
        try clear q5
        try clear hx5
        try clear qi5
        try clear c7
        try clear c8
        try clear c8b0
        try clear c8b1
        try clear p2
        try clear p5
        try clear q5
        obtain ⟨kq, x4_5, rfl, HA, HJ5, ⟨mc5, rfl⟩⟩ := hcut
        cases kq with
        | zero => exact absurd HA.out (by simp [R05_Number.j1])
        | succ kj5 =>
          have H := HA.out
          clear HA
          simp only [R05_Number.j1] at H
          have H' := Aside0.mk H
          clear H
          go_wp2
          go_loopg [5, 6] kj5 (fun kq v5 v6 w' => ∃ (x5_3 : Int) (x6_3 : Int), v5 = .int .i64 x5_3 ∧ v6 = .int .i64 x6_3 ∧ Aside0 (R05_Number.l0 kq a0 x4_5 x5_3 x6_3 = some (r1, r2)) ∧ Aside0 (kq ≤ kj5) ∧ Drawn0 w w')
          case atStart => exact ⟨(0), (0), (by first | rfl | (simp; done) | (simp [*]; done)), (by first | rfl | (simp; done) | (simp [*]; done)), H', ⟨Nat.le_refl _⟩, by repeat (first | exact Drawn0.refl _ | apply Drawn0.step)⟩
          case round =>
            clear H'
            try clear c1
            try clear c2
            try clear p2
            try clear c3
            try clear c3b0
            try clear c3b1
            try clear c4
            try clear c4b0
            try clear c4b1
            try clear c5
            try clear p5
            try clear q5
            try clear hx5
            try clear qi5
            try clear c7
            try clear c8
            try clear c8b0
            try clear c8b1
            try clear p2
            try clear p5
            try clear q5
            obtain ⟨x5_3, x6_3, rfl, rfl, HA, HK3, ⟨m3, rfl⟩⟩ := hrel
            cases gk with
            | zero => exact absurd HA.out (by simp [R05_Number.l0])
            | succ k3 =>
              have H := HA.out
              clear HA
              simp only [R05_Number.l0] at H
              have HC9 := Aside0.mk H
              clear H
              go_upto_region 6 with (fail)
              go_cut [25] (fun v25 wc => ∃ (kq : Nat) (x25_8 : Bool), v25 = .bool x25_8 ∧ Aside0 (R05_Number.j3 kq a0 x4_5 x5_3 x6_3 x25_8 = some (r1, r2)) ∧ Aside0 (kq ≤ k3) ∧ Drawn0 w wc)
              case first =>
                have H := HC9.out
                clear HC9
                by_cases c10 : x6_3 < (x4_5.size : Int)
                · rw [if_pos c10] at H
                  have c10b0 : decide (x6_3 < (x4_5.size : Int)) = true := decide_eq_true c10
                  clear c10
                  (first | rw [c10b0] | (simp only [i64_w, i32_w]; rw [c10b0]) | skip)
                  have H' := Aside0.mk H
                  clear H
                  go_wp2
                  go_meet
                  case rel => exact ⟨_, (decide (x6_3 < 10)), (by first | rfl | (simp; done) | (simp [*]; done)), H', ⟨by have := HJ1.out; have := HJ5.out; have := HK3.out; first | omega | exact Nat.le_refl _⟩, by repeat (first | exact Drawn0.refl _ | apply Drawn0.step)⟩
                · rw [if_neg c10] at H
                  have c10b0 : decide (x6_3 < (x4_5.size : Int)) = false := decide_eq_false c10
                  clear c10
                  (first | rw [c10b0] | (simp only [i64_w, i32_w]; rw [c10b0]) | skip)
                  have H' := Aside0.mk H
                  clear H
                  go_wp2
                  go_meet
                  case rel => exact ⟨_, (false), (by first | rfl | (simp; done) | (simp [*]; done)), H', ⟨by have := HJ1.out; have := HJ5.out; have := HK3.out; first | omega | exact Nat.le_refl _⟩, by repeat (first | exact Drawn0.refl _ | apply Drawn0.step)⟩
              case rest =>
                clear HC9
                try clear c1
                try clear c2
                try clear p2
                try clear c3
                try clear c3b0
                try clear c3b1
                try clear c4
                try clear c4b0
                try clear c4b1
                try clear c5
                try clear p5
                try clear q5
                try clear hx5
                try clear qi5
                try clear c7
                try clear c8
                try clear c8b0
                try clear c8b1
                try clear c10
                try clear c10b0
                try clear p2
                try clear p5
                try clear q5
                obtain ⟨kq, x25_8, rfl, HA, HJ8, ⟨mc8, rfl⟩⟩ := hcut
                cases kq with
                | zero => exact absurd HA.out (by simp [R05_Number.j3])
                | succ kj8 =>
                  have H := HA.out
                  clear HA
                  simp only [R05_Number.j3] at H
                  by_cases c11 : x25_8 = true
                  · subst c11
                    have H1 : (if 0 ≤ x6_3 then (if x6_3 < (x4_5.size : Int) then ((R05_digit.f (bt x4_5 x6_3)).bind fun t513 => (if t513 = true then (R05_Number.l0 kj8 a0 x4_5 (wrap64 ((wrap64 (10 * x5_3)) + (((bt x4_5 x6_3) - 48) % 256))) (wrap64 (x6_3 + 1))) else (some (0, false)))) else (none)) else (none)) = some (r1, r2) := by rw [if_pos rfl] at H; exact H
                    clear H
                    have H := H1
                    clear H1
                    by_cases c12 : 0 ≤ x6_3
                    · rw [if_pos c12] at H
                      have c12b0 : decide (0 ≤ x6_3) = true := decide_eq_true c12
                      clear c12
                      by_cases c13 : x6_3 < (x4_5.size : Int)
                      · rw [if_pos c13] at H
                        have c13b0 : decide (x6_3 < (x4_5.size : Int)) = true := decide_eq_true c13
                        clear c13
                        replace H := Option.bind_eq_some_iff.mp H
                        obtain ⟨t513, A150, H⟩ := H
                        replace H : (if t513 = true then (R05_Number.l0 kj8 a0 x4_5 (wrap64 ((wrap64 (10 * x5_3)) + (((bt x4_5 x6_3) - 48) % 256))) (wrap64 (x6_3 + 1))) else (some (0, false))) = some (r1, r2) := H
                        have A15 := Aside0.mk A150
                        clear A150
                        by_cases c16 : t513 = true
                        · subst c16
                          have H1 : (R05_Number.l0 kj8 a0 x4_5 (wrap64 ((wrap64 (10 * x5_3)) + (((bt x4_5 x6_3) - 48) % 256))) (wrap64 (x6_3 + 1))) = some (r1, r2) := by rw [if_pos rfl] at H; exact H
                          clear H
                          have H := H1
                          clear H1
                          have H' := Aside0.mk H
                          clear H
                          have p14 : 0 ≤ (x6_3 : Int) := of_decide_eq_true (by first | (with_reducible assumption) | assumption)
                          have q14 : x6_3 < (x4_5.size : Int) := of_decide_eq_true (by first | (with_reducible assumption) | assumption)
                          have hx14 := bt_at x4_5 x6_3
                          replace p14 := eq_true p14
                          replace q14 := eq_true q14
                          go_wp2_with (first | ((with_reducible refine gate_callee (f := 35) rfl ?_); refine goesL_ (some 31) rfl rfl Tryd.func35 (by kernel_rfl) rfl #[.int .u8 (bt x4_5 x6_3)] rfl (by (try simp only [List.map_toArray, List.map_cons, List.map_nil]); first | done | rfl | (simp only [List.length_drop, List.length_take]; rfl)) ?_; (with_reducible refine (R05_digit.calls (bt x4_5 x6_3) true _ A15.out).mono ?_); rintro e w' ⟨rfl, ⟨nd, rfl⟩⟩; refine ⟨_, rfl, ?_⟩; have p17 : 0 ≤ (x6_3 : Int) := of_decide_eq_true (by first | (with_reducible assumption) | assumption); have q17 : x6_3 < (x4_5.size : Int) := of_decide_eq_true (by first | (with_reducible assumption) | assumption); have hx17 := bt_at x4_5 x6_3; replace p17 := eq_true p17; replace q17 := eq_true q17))
                          go_roundg kj8
                          case measure => have := HJ1.out; have := HJ5.out; have := HK3.out; have := HJ8.out; omega
                          case rel => exact ⟨(wrap64 ((wrap64 (10 * x5_3)) + (((bt x4_5 x6_3) - 48) % 256))), (wrap64 (x6_3 + 1)), (by first | rfl | (simp; done) | (simp [*]; done)), (by first | rfl | (simp; done) | (simp [*]; done)), H', ⟨by have := HJ1.out; have := HJ5.out; have := HK3.out; have := HJ8.out; omega⟩, by repeat (first | exact Drawn0.refl _ | apply Drawn0.step)⟩
                        · replace c16 := Bool.eq_false_iff.mpr c16
                          subst c16
                          have H1 : (some (0, false)) = some (r1, r2) := by rw [if_neg (show ¬ (false = true) by decide)] at H; exact H
                          clear H
                          have H := H1
                          clear H1
                          simp only [Option.some.injEq, Prod.mk.injEq] at H
                          obtain ⟨rfl, rfl⟩ := H
                          have p14 : 0 ≤ (x6_3 : Int) := of_decide_eq_true (by first | (with_reducible assumption) | assumption)
                          have q14 : x6_3 < (x4_5.size : Int) := of_decide_eq_true (by first | (with_reducible assumption) | assumption)
                          have hx14 := bt_at x4_5 x6_3
                          replace p14 := eq_true p14
                          replace q14 := eq_true q14
                          go_wp2_with (first | ((with_reducible refine gate_callee (f := 35) rfl ?_); refine goesL_ (some 31) rfl rfl Tryd.func35 (by kernel_rfl) rfl #[.int .u8 (bt x4_5 x6_3)] rfl (by (try simp only [List.map_toArray, List.map_cons, List.map_nil]); first | done | rfl | (simp only [List.length_drop, List.length_take]; rfl)) ?_; (with_reducible refine (R05_digit.calls (bt x4_5 x6_3) false _ A15.out).mono ?_); rintro e w' ⟨rfl, ⟨nd, rfl⟩⟩; refine ⟨_, rfl, ?_⟩))
                          go_ret2
                          exact ⟨by first | rfl | (simp; done) | (simp [*]; done), by repeat (first | exact Drawn0.refl _ | apply Drawn0.step)⟩
                      · rw [if_neg c13] at H
                        exact absurd H (by simp)
                    · rw [if_neg c12] at H
                      exact absurd H (by simp)
                  · replace c11 := Bool.eq_false_iff.mpr c11
                    subst c11
                    have H1 : (if (x4_5.size : Int) < 1 then (R05_Number.j4 kj8 a0 x4_5 x5_3 true) else (R05_Number.j4 kj8 a0 x4_5 x5_3 (decide ((x4_5.size : Int) > 9)))) = some (r1, r2) := by rw [if_neg (show ¬ (false = true) by decide)] at H; exact H
                    clear H
                    have H := H1
                    clear H1
                    have HC18 := Aside0.mk H
                    clear H
                    go_upto_region 11 with (fail)
                    go_cut [48] (fun v48 wc => ∃ (kq : Nat) (x48_17 : Bool), v48 = .bool x48_17 ∧ Aside0 (R05_Number.j4 kq a0 x4_5 x5_3 x48_17 = some (r1, r2)) ∧ Aside0 (kq ≤ kj8) ∧ Drawn0 w wc)
                    case first =>
                      have H := HC18.out
                      clear HC18
                      by_cases c19 : (x4_5.size : Int) < 1
                      · rw [if_pos c19] at H
                        have c19b0 : decide ((x4_5.size : Int) < 1) = true := decide_eq_true c19
                        have c19b1 : decide (x4_5.size < 1) = true := decide_eq_true (by omega)
                        clear c19
                        (first | rw [c19b0] | (simp only [i64_w, i32_w]; rw [c19b0]) | skip)
                        have H' := Aside0.mk H
                        clear H
                        go_wp2
                        go_meet
                        case rel => exact ⟨_, (true), (by first | rfl | (simp; done) | (simp [*]; done)), H', ⟨by have := HJ1.out; have := HJ5.out; have := HK3.out; have := HJ8.out; first | omega | exact Nat.le_refl _⟩, by repeat (first | exact Drawn0.refl _ | apply Drawn0.step)⟩
                      · rw [if_neg c19] at H
                        have c19b0 : decide ((x4_5.size : Int) < 1) = false := decide_eq_false c19
                        have c19b1 : decide (x4_5.size < 1) = false := decide_eq_false (by omega)
                        clear c19
                        (first | rw [c19b0] | (simp only [i64_w, i32_w]; rw [c19b0]) | skip)
                        have H' := Aside0.mk H
                        clear H
                        go_wp2
                        go_meet
                        case rel => exact ⟨_, (decide ((x4_5.size : Int) > 9)), (by first | rfl | (simp; done) | (simp [*]; done)), H', ⟨by have := HJ1.out; have := HJ5.out; have := HK3.out; have := HJ8.out; first | omega | exact Nat.le_refl _⟩, by repeat (first | exact Drawn0.refl _ | apply Drawn0.step)⟩
                    case rest =>
                      clear HC18
                      try clear c1
                      try clear p1
                      try clear q1
                      try clear hx1
                      try clear c2
                      try clear p2
                      try clear c3
                      try clear c3b0
                      try clear c3b1
                      try clear c4
                      try clear c4b0
                      try clear c4b1
                      try clear c5
                      try clear p5
                      try clear q5
                      try clear hx5
                      try clear qi5
                      try clear p6
                      try clear c7
                      try clear c8
                      try clear c8b0
                      try clear c8b1
                      try clear c10
                      try clear c10b0
                      try clear c11
                      try clear c12
                      try clear c12b0
                      try clear c13
                      try clear c13b0
                      try clear p14
                      try clear q14
                      try clear hx14
                      try clear c16
                      try clear p17
                      try clear q17
                      try clear hx17
                      try clear c19
                      try clear c19b0
                      try clear c19b1
                      try clear p14
                      try clear p17
                      try clear p2
                      try clear p5
                      try clear q14
                      try clear q17
                      try clear q5
                      obtain ⟨kq, x48_17, rfl, HA, HJ17, ⟨mc17, rfl⟩⟩ := hcut
                      cases kq with
                      | zero => exact absurd HA.out (by simp [R05_Number.j4])
                      | succ kj17 =>
                        have H := HA.out
                        clear HA
                        simp only [R05_Number.j4] at H
                        by_cases c20 : x48_17 = true
                        · subst c20
                          have H1 : (some (0, false)) = some (r1, r2) := by rw [if_pos rfl] at H; exact H
                          clear H
                          have H := H1
                          clear H1
                          simp only [Option.some.injEq, Prod.mk.injEq] at H
                          obtain ⟨rfl, rfl⟩ := H
                          go_wp2
                          go_ret2
                          exact ⟨by first | rfl | (simp; done) | (simp [*]; done), by repeat (first | exact Drawn0.refl _ | apply Drawn0.step)⟩
                        · replace c20 := Bool.eq_false_iff.mpr c20
                          subst c20
                          have H1 : (if (x4_5.size : Int) < (a0.size : Int) then (some (wrap64 (-x5_3), true)) else (some (x5_3, true))) = some (r1, r2) := by rw [if_neg (show ¬ (false = true) by decide)] at H; exact H
                          clear H
                          have H := H1
                          clear H1
                          by_cases c21 : (x4_5.size : Int) < (a0.size : Int)
                          · rw [if_pos c21] at H
                            have c21b0 : decide ((x4_5.size : Int) < (a0.size : Int)) = true := decide_eq_true c21
                            have c21b1 : decide (x4_5.size < a0.size) = true := decide_eq_true (Int.ofNat_lt.mp c21)
                            clear c21
                            simp only [Option.some.injEq, Prod.mk.injEq] at H
                            obtain ⟨rfl, rfl⟩ := H
                            go_wp2
                            go_ret2
                            exact ⟨by first | rfl | (simp; done) | (simp [*]; done), by repeat (first | exact Drawn0.refl _ | apply Drawn0.step)⟩
                          · rw [if_neg c21] at H
                            have c21b0 : decide ((x4_5.size : Int) < (a0.size : Int)) = false := decide_eq_false c21
                            have c21b1 : decide (x4_5.size < a0.size) = false := decide_eq_false (fun h => c21 (Int.ofNat_lt.mpr h))
                            clear c21
                            simp only [Option.some.injEq, Prod.mk.injEq] at H
                            obtain ⟨rfl, rfl⟩ := H
                            go_wp2
                            go_ret2
                            exact ⟨by first | rfl | (simp; done) | (simp [*]; done), by repeat (first | exact Drawn0.refl _ | apply Drawn0.step)⟩

/-! ### R05_letter: function 36 -/
def R05_letter.f (a0 : Int) : Option (Bool) := if a0 ≥ 65 then (if a0 ≤ 90 then (some true) else (if a0 ≥ 97 then (if a0 ≤ 122 then (some true) else (if a0 = 95 then (some true) else (some (a0 == 46)))) else (if a0 = 95 then (some true) else (some (a0 == 46))))) else (if a0 ≥ 97 then (if a0 ≤ 122 then (some true) else (if a0 = 95 then (some true) else (some (a0 == 46)))) else (if a0 = 95 then (some true) else (some (a0 == 46))))
set_option maxHeartbeats 8000000 in
set_option maxRecDepth 100000 in
theorem R05_letter.calls (a0 : Int) (r : Bool) (w : World) (h : R05_letter.f a0 = some r) :
    Calls Tryd.prog 36 #[.int .u8 a0] w fun e w' => e = .returned (.bool r) ∧ Drawn0 w w' := by
  have H : (if a0 ≥ 65 then (if a0 ≤ 90 then (some true) else (if a0 ≥ 97 then (if a0 ≤ 122 then (some true) else (if a0 = 95 then (some true) else (some (a0 == 46)))) else (if a0 = 95 then (some true) else (some (a0 == 46))))) else (if a0 ≥ 97 then (if a0 ≤ 122 then (some true) else (if a0 = 95 then (some true) else (some (a0 == 46)))) else (if a0 = 95 then (some true) else (some (a0 == 46))))) = some r := h
  clear h
  by_cases c2 : a0 ≥ 65
  · rw [if_pos c2] at H
    have c2b0 : decide (65 ≤ a0) = true := decide_eq_true c2
    clear c2
    by_cases c3 : a0 ≤ 90
    · rw [if_pos c3] at H
      have c3b0 : decide (a0 ≤ 90) = true := decide_eq_true c3
      clear c3
      obtain rfl := Option.some.inj H
      go_enter Tryd.func36, Tryd.ntmps36
      go_wp2
      go_ret
      exact ⟨by first | rfl | (simp; done) | (simp [*]; done), by repeat (first | exact Drawn0.refl _ | apply Drawn0.step)⟩
    · rw [if_neg c3] at H
      have c3b0 : decide (a0 ≤ 90) = false := decide_eq_false c3
      clear c3
      by_cases c4 : a0 ≥ 97
      · rw [if_pos c4] at H
        have c4b0 : decide (97 ≤ a0) = true := decide_eq_true c4
        clear c4
        by_cases c5 : a0 ≤ 122
        · rw [if_pos c5] at H
          have c5b0 : decide (a0 ≤ 122) = true := decide_eq_true c5
          clear c5
          obtain rfl := Option.some.inj H
          go_enter Tryd.func36, Tryd.ntmps36
          go_wp2
          go_ret
          exact ⟨by first | rfl | (simp; done) | (simp [*]; done), by repeat (first | exact Drawn0.refl _ | apply Drawn0.step)⟩
        · rw [if_neg c5] at H
          have c5b0 : decide (a0 ≤ 122) = false := decide_eq_false c5
          clear c5
          by_cases c6 : a0 = 95
          · rw [if_pos c6] at H
            have c6b0 : (a0 == 95) = true := beq_iff_eq.mpr c6
            have c6b1 : (a0 != 95) = false := bne_eq_false_iff_eq.mpr c6
            clear c6
            obtain rfl := Option.some.inj H
            go_enter Tryd.func36, Tryd.ntmps36
            go_wp2
            go_ret
            exact ⟨by first | rfl | (simp; done) | (simp [*]; done), by repeat (first | exact Drawn0.refl _ | apply Drawn0.step)⟩
          · rw [if_neg c6] at H
            have c6b0 : (a0 == 95) = false := beq_eq_false_iff_ne.mpr c6
            have c6b1 : (a0 != 95) = true := bne_iff_ne.mpr c6
            obtain rfl := Option.some.inj H
            go_enter Tryd.func36, Tryd.ntmps36
            go_wp2
            go_ret
            exact ⟨by first | rfl | (simp; done) | (simp [*]; done), by repeat (first | exact Drawn0.refl _ | apply Drawn0.step)⟩
      · rw [if_neg c4] at H
        have c4b0 : decide (97 ≤ a0) = false := decide_eq_false c4
        clear c4
        by_cases c7 : a0 = 95
        · rw [if_pos c7] at H
          have c7b0 : (a0 == 95) = true := beq_iff_eq.mpr c7
          have c7b1 : (a0 != 95) = false := bne_eq_false_iff_eq.mpr c7
          clear c7
          obtain rfl := Option.some.inj H
          go_enter Tryd.func36, Tryd.ntmps36
          go_wp2
          go_ret
          exact ⟨by first | rfl | (simp; done) | (simp [*]; done), by repeat (first | exact Drawn0.refl _ | apply Drawn0.step)⟩
        · rw [if_neg c7] at H
          have c7b0 : (a0 == 95) = false := beq_eq_false_iff_ne.mpr c7
          have c7b1 : (a0 != 95) = true := bne_iff_ne.mpr c7
          obtain rfl := Option.some.inj H
          go_enter Tryd.func36, Tryd.ntmps36
          go_wp2
          go_ret
          exact ⟨by first | rfl | (simp; done) | (simp [*]; done), by repeat (first | exact Drawn0.refl _ | apply Drawn0.step)⟩
  · rw [if_neg c2] at H
    have c2b0 : decide (65 ≤ a0) = false := decide_eq_false c2
    clear c2
    by_cases c8 : a0 ≥ 97
    · rw [if_pos c8] at H
      have c8b0 : decide (97 ≤ a0) = true := decide_eq_true c8
      clear c8
      by_cases c9 : a0 ≤ 122
      · rw [if_pos c9] at H
        have c9b0 : decide (a0 ≤ 122) = true := decide_eq_true c9
        clear c9
        obtain rfl := Option.some.inj H
        go_enter Tryd.func36, Tryd.ntmps36
        go_wp2
        go_ret
        exact ⟨by first | rfl | (simp; done) | (simp [*]; done), by repeat (first | exact Drawn0.refl _ | apply Drawn0.step)⟩
      · rw [if_neg c9] at H
        have c9b0 : decide (a0 ≤ 122) = false := decide_eq_false c9
        clear c9
        by_cases c10 : a0 = 95
        · rw [if_pos c10] at H
          have c10b0 : (a0 == 95) = true := beq_iff_eq.mpr c10
          have c10b1 : (a0 != 95) = false := bne_eq_false_iff_eq.mpr c10
          clear c10
          obtain rfl := Option.some.inj H
          go_enter Tryd.func36, Tryd.ntmps36
          go_wp2
          go_ret
          exact ⟨by first | rfl | (simp; done) | (simp [*]; done), by repeat (first | exact Drawn0.refl _ | apply Drawn0.step)⟩
        · rw [if_neg c10] at H
          have c10b0 : (a0 == 95) = false := beq_eq_false_iff_ne.mpr c10
          have c10b1 : (a0 != 95) = true := bne_iff_ne.mpr c10
          obtain rfl := Option.some.inj H
          go_enter Tryd.func36, Tryd.ntmps36
          go_wp2
          go_ret
          exact ⟨by first | rfl | (simp; done) | (simp [*]; done), by repeat (first | exact Drawn0.refl _ | apply Drawn0.step)⟩
    · rw [if_neg c8] at H
      have c8b0 : decide (97 ≤ a0) = false := decide_eq_false c8
      clear c8
      by_cases c11 : a0 = 95
      · rw [if_pos c11] at H
        have c11b0 : (a0 == 95) = true := beq_iff_eq.mpr c11
        have c11b1 : (a0 != 95) = false := bne_eq_false_iff_eq.mpr c11
        clear c11
        obtain rfl := Option.some.inj H
        go_enter Tryd.func36, Tryd.ntmps36
        go_wp2
        go_ret
        exact ⟨by first | rfl | (simp; done) | (simp [*]; done), by repeat (first | exact Drawn0.refl _ | apply Drawn0.step)⟩
      · rw [if_neg c11] at H
        have c11b0 : (a0 == 95) = false := beq_eq_false_iff_ne.mpr c11
        have c11b1 : (a0 != 95) = true := bne_iff_ne.mpr c11
        obtain rfl := Option.some.inj H
        go_enter Tryd.func36, Tryd.ntmps36
        go_wp2
        go_ret
        exact ⟨by first | rfl | (simp; done) | (simp [*]; done), by repeat (first | exact Drawn0.refl _ | apply Drawn0.step)⟩

end Go.Proofs.YtenjohemplgnmaaDoor.P
