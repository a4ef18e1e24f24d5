/- The walk of WordsNames. -/
import Derived.Test.YtenjohemplgnmaaDoorPx4
import Derived.Test.YtenjohemplgnmaaDoorPx3
import Derived.Test.YtenjohemplgnmaaDoorGName
import Derived.Deep.DeepCutAuto
import Derived.Lib.Hide
namespace Go.Proofs.YtenjohemplgnmaaDoor.P
open Go.RowKit Go.Proofs.YtenjohemplgnmaaDoorW.PrintWords Go.Proofs.YtenjohemplgnmaaDoorW.PrintLast Go.Proofs.YtenjohemplgnmaaDoorW.PrintMore

/-- A call of function f comes to v, in whatever world; what was there stands. -/
def Tells (f : Nat) (args : Array Value) (v : Value) : Prop := ∀ W : World, Calls Tryd.prog f args W fun e w' => e = .returned v ∧ Below W.heap.size W w'

theorem notEmpty_of {t : ByteArray} (h : 1 ≤ t.size) : t.toList.isEmpty = false := by
  rw [Lib.toList_data]
  cases hd : t.data.toList with
  | nil =>
    have h2 : t.data.toList.length = t.size := Array.length_toList
    rw [hd] at h2
    simp at h2
    omega
  | cons a l => rfl
theorem letter_of (c : Int) (a b d e f g h i j : Bool) (T : Tests c a b d e f g h i j) : letterB c = ((a && b) || (d && e) || f || g) := by
  unfold letterB
  rw [← T.t65, ← T.t90, ← T.t97, ← T.t122, ← T.t95, ← T.t46]
  simp only [Bool.decide_and]
theorem letter_inner (c : Int) (h : letterB c = true) : innerB c = true := by
  unfold innerB
  rw [h]
  rfl
theorem inner_of (c : Int) (a b d e f g h i j : Bool) (T : Tests c a b d e f g h i j) : innerB c = ((a && b) || (d && e) || f || g || (h && i) || j) := by
  unfold innerB
  rw [letter_of c a b d e f g h i j T, ← T.t48, ← T.t57, ← T.t45]
  simp only [Bool.decide_and]

set_option maxRecDepth 100000 in
set_option maxHeartbeats 4000000 in
theorem names_walk (s t : ByteArray) (c : Int) (is more : Bool) (w : World)
    (HS : Tells 12 #[] (.bool true)) (HF : Tells 15 #[.string s] (.string t)) (HI : Tells 22 #[.string t] (.bool is)) (HM : Tells 22 #[.string (t ++ strOfNums [c])] (.bool more)) (HA : Tells 22 #[.string (strOfNums [c])] (.bool (letterB c))) (ht : t.size ≤ 300) (hI : is = true → 1 ≤ t.size ∧ t.size ≤ 16) (hM : more = ((is && innerB c && decide (t.size < 16)) || (decide (t.size = 0) && letterB c))) :
    Calls Tryd.prog 9 #[.string s, .int .u8 c] w fun e w' => e = .returned (.bool true) ∧ Below w.heap.size w w' := by
  have HIS := Lib.hid hI
  have HMO := Lib.hid hM
  have HINN := Lib.hid (letter_inner c)
  clear hI hM
  have HB0 := Aside0.mk (Below.refl w.heap.size w)
  have hsz1 : (strOfNums [c]).size = 1 := strOfNums_size _
  have hcat : decide (t.size + (strOfNums [c]).size ≤ 9223372036854775807) = true := decide_eq_true (by omega)
  have hcat2 : (9223372036854775807 < t.size + (strOfNums [c]).size) = False := eq_false (by omega)
  have hsz := Lib.hid hsz1
  clear hsz1
  go_enter Tryd.func9, Tryd.ntmps9
  go_wp2_with fail
  refine (HS _).mono ?_
  rintro e w1 ⟨rfl, hb1⟩
  have HB1 := Aside0.mk (below_step (by repeat (first | exact HB0.out | apply below_alloc | apply pw_below_drewN | apply below_drew1)) hb1)
  clear hb1 HB0
  go_wp2_with fail
  refine (HF _).mono ?_
  rintro e w2 ⟨rfl, hb1⟩
  have HB2 := Aside0.mk (below_step (by repeat (first | exact HB1.out | apply below_alloc | apply pw_below_drewN | apply below_drew1)) hb1)
  clear hb1 HB1
  go_wp2_with fail
  refine (HI _).mono ?_
  rintro e w3 ⟨rfl, hb1⟩
  have HB3 := Aside0.mk (below_step (by repeat (first | exact HB2.out | apply below_alloc | apply pw_below_drewN | apply below_drew1)) hb1)
  clear hb1 HB2
  go_wp2_with (((with_reducible refine gate_dst (N := 19) rfl ?_); refine Kd.R_lit (Kd.int .u8) _ 5 ?hg (N := 19) ?hd (xs := ([c] : List Int)) (inner := [.int .u8 c]) (ok := fun _ => True) (okp := fun _ => True) ?hr ?hp (fun _ hk => hk) trivial (Below.refl _ _) (Nat.le_refl _) (by simp) ?_; (case hd => rfl); (case hg => rfl); (case hr => first | (go_simp; done) | (go_simp; rfl)); (case hp => exact (Reps.one (show Kd.M (Kd.int .u8) _ _ _ c [.int .u8 c] from rfl) (Reps.none _ _))); intro v4 w4 ho hb hg_ hnew_; clear hg_ hnew_; have hcv4 := own_string (P := Tryd.prog) Tryd.underlying31 Tryd.underlying5 Tryd.underlying9 (Kd.own_of_R ho); have HB4 := Aside0.mk (below_step (by repeat (first | exact HB3.out | apply below_alloc | apply pw_below_drewN | apply below_drew1)) hb); clear hb HB3 ho))
  refine (HM _).mono ?_
  rintro e w5 ⟨rfl, hb1⟩
  have HB5 := Aside0.mk (below_step (by repeat (first | exact HB4.out | apply below_alloc | apply pw_below_drewN | apply below_drew1)) hb1)
  clear hb1 HB4
  go_upto_region 5 with fail
  go_cut [9] (fun s9 wx => s9 = .bool (letterB c) ∧ w5 = wx)
  case first =>
    rcases classes c with hc | hc | hc | hc | hc | hc | hc | hc | hc | hc | hc | hc
    · have T := tests0 hc
      have hl := letter_of c _ _ _ _ _ _ _ _ _ T
      obtain ⟨t65, t90, t97, t122, t95, t46, t48, t57, t45⟩ := T
      have HL := Lib.hid hl
      clear hl hc
      go_wp2
      go_meet
      exact ⟨congrArg Value.bool HL.out.symm, rfl⟩
    · have T := tests1 hc
      have hl := letter_of c _ _ _ _ _ _ _ _ _ T
      obtain ⟨t65, t90, t97, t122, t95, t46, t48, t57, t45⟩ := T
      have HL := Lib.hid hl
      clear hl hc
      go_wp2
      go_meet
      exact ⟨congrArg Value.bool HL.out.symm, rfl⟩
    · have T := tests2 hc
      have hl := letter_of c _ _ _ _ _ _ _ _ _ T
      obtain ⟨t65, t90, t97, t122, t95, t46, t48, t57, t45⟩ := T
      have HL := Lib.hid hl
      clear hl hc
      go_wp2
      go_meet
      exact ⟨congrArg Value.bool HL.out.symm, rfl⟩
    · have T := tests3 hc
      have hl := letter_of c _ _ _ _ _ _ _ _ _ T
      obtain ⟨t65, t90, t97, t122, t95, t46, t48, t57, t45⟩ := T
      have HL := Lib.hid hl
      clear hl hc
      go_wp2
      go_meet
      exact ⟨congrArg Value.bool HL.out.symm, rfl⟩
    · have T := tests4 hc
      have hl := letter_of c _ _ _ _ _ _ _ _ _ T
      obtain ⟨t65, t90, t97, t122, t95, t46, t48, t57, t45⟩ := T
      have HL := Lib.hid hl
      clear hl hc
      go_wp2
      go_meet
      exact ⟨congrArg Value.bool HL.out.symm, rfl⟩
    · have T := tests5 hc
      have hl := letter_of c _ _ _ _ _ _ _ _ _ T
      obtain ⟨t65, t90, t97, t122, t95, t46, t48, t57, t45⟩ := T
      have HL := Lib.hid hl
      clear hl hc
      go_wp2
      go_meet
      exact ⟨congrArg Value.bool HL.out.symm, rfl⟩
    · have T := tests6 hc
      have hl := letter_of c _ _ _ _ _ _ _ _ _ T
      obtain ⟨t65, t90, t97, t122, t95, t46, t48, t57, t45⟩ := T
      have HL := Lib.hid hl
      clear hl hc
      go_wp2
      go_meet
      exact ⟨congrArg Value.bool HL.out.symm, rfl⟩
    · have T := tests7 hc
      have hl := letter_of c _ _ _ _ _ _ _ _ _ T
      obtain ⟨t65, t90, t97, t122, t95, t46, t48, t57, t45⟩ := T
      have HL := Lib.hid hl
      clear hl hc
      go_wp2
      go_meet
      exact ⟨congrArg Value.bool HL.out.symm, rfl⟩
    · have T := tests8 hc
      have hl := letter_of c _ _ _ _ _ _ _ _ _ T
      obtain ⟨t65, t90, t97, t122, t95, t46, t48, t57, t45⟩ := T
      have HL := Lib.hid hl
      clear hl hc
      go_wp2
      go_meet
      exact ⟨congrArg Value.bool HL.out.symm, rfl⟩
    · have T := tests9 hc
      have hl := letter_of c _ _ _ _ _ _ _ _ _ T
      obtain ⟨t65, t90, t97, t122, t95, t46, t48, t57, t45⟩ := T
      have HL := Lib.hid hl
      clear hl hc
      go_wp2
      go_meet
      exact ⟨congrArg Value.bool HL.out.symm, rfl⟩
    · have T := tests10 hc
      have hl := letter_of c _ _ _ _ _ _ _ _ _ T
      obtain ⟨t65, t90, t97, t122, t95, t46, t48, t57, t45⟩ := T
      have HL := Lib.hid hl
      clear hl hc
      go_wp2
      go_meet
      exact ⟨congrArg Value.bool HL.out.symm, rfl⟩
    · have T := tests11 hc
      have hl := letter_of c _ _ _ _ _ _ _ _ _ T
      obtain ⟨t65, t90, t97, t122, t95, t46, t48, t57, t45⟩ := T
      have HL := Lib.hid hl
      clear hl hc
      go_wp2
      go_meet
      exact ⟨congrArg Value.bool HL.out.symm, rfl⟩
  case rest =>
    obtain ⟨rfl, rfl⟩ := hcut
    go_upto_region 6 with fail
    go_cut [9, 10] (fun s9 s10 wx => s9 = .bool (letterB c) ∧ s10 = .bool (innerB c) ∧ w5 = wx)
    case first =>
      rcases classes c with hc | hc | hc | hc | hc | hc | hc | hc | hc | hc | hc | hc
      · have T := tests0 hc
        have hi := inner_of c _ _ _ _ _ _ _ _ _ T
        have hl : letterB c = true := letter_of c _ _ _ _ _ _ _ _ _ T
        obtain ⟨t65, t90, t97, t122, t95, t46, t48, t57, t45⟩ := T
        have HI2 := Lib.hid hi
        clear hi hc
        go_wp2
        go_meet
        exact ⟨congrArg Value.bool hl.symm, congrArg Value.bool HI2.out.symm, rfl⟩
      · have T := tests1 hc
        have hi := inner_of c _ _ _ _ _ _ _ _ _ T
        have hl : letterB c = true := letter_of c _ _ _ _ _ _ _ _ _ T
        obtain ⟨t65, t90, t97, t122, t95, t46, t48, t57, t45⟩ := T
        have HI2 := Lib.hid hi
        clear hi hc
        go_wp2
        go_meet
        exact ⟨congrArg Value.bool hl.symm, congrArg Value.bool HI2.out.symm, rfl⟩
      · have T := tests2 hc
        have hi := inner_of c _ _ _ _ _ _ _ _ _ T
        have hl : letterB c = true := letter_of c _ _ _ _ _ _ _ _ _ T
        obtain ⟨t65, t90, t97, t122, t95, t46, t48, t57, t45⟩ := T
        have HI2 := Lib.hid hi
        clear hi hc
        go_wp2
        go_meet
        exact ⟨congrArg Value.bool hl.symm, congrArg Value.bool HI2.out.symm, rfl⟩
      · have T := tests3 hc
        have hi := inner_of c _ _ _ _ _ _ _ _ _ T
        have hl : letterB c = true := letter_of c _ _ _ _ _ _ _ _ _ T
        obtain ⟨t65, t90, t97, t122, t95, t46, t48, t57, t45⟩ := T
        have HI2 := Lib.hid hi
        clear hi hc
        go_wp2
        go_meet
        exact ⟨congrArg Value.bool hl.symm, congrArg Value.bool HI2.out.symm, rfl⟩
      · have T := tests4 hc
        have hi := inner_of c _ _ _ _ _ _ _ _ _ T
        have hl : letterB c = false := letter_of c _ _ _ _ _ _ _ _ _ T
        obtain ⟨t65, t90, t97, t122, t95, t46, t48, t57, t45⟩ := T
        have HI2 := Lib.hid hi
        clear hi hc
        go_wp2
        go_meet
        exact ⟨congrArg Value.bool hl.symm, congrArg Value.bool HI2.out.symm, rfl⟩
      · have T := tests5 hc
        have hi := inner_of c _ _ _ _ _ _ _ _ _ T
        have hl : letterB c = false := letter_of c _ _ _ _ _ _ _ _ _ T
        obtain ⟨t65, t90, t97, t122, t95, t46, t48, t57, t45⟩ := T
        have HI2 := Lib.hid hi
        clear hi hc
        go_wp2
        go_meet
        exact ⟨congrArg Value.bool hl.symm, congrArg Value.bool HI2.out.symm, rfl⟩
      · have T := tests6 hc
        have hi := inner_of c _ _ _ _ _ _ _ _ _ T
        have hl : letterB c = false := letter_of c _ _ _ _ _ _ _ _ _ T
        obtain ⟨t65, t90, t97, t122, t95, t46, t48, t57, t45⟩ := T
        have HI2 := Lib.hid hi
        clear hi hc
        go_wp2
        go_meet
        exact ⟨congrArg Value.bool hl.symm, congrArg Value.bool HI2.out.symm, rfl⟩
      · have T := tests7 hc
        have hi := inner_of c _ _ _ _ _ _ _ _ _ T
        have hl : letterB c = false := letter_of c _ _ _ _ _ _ _ _ _ T
        obtain ⟨t65, t90, t97, t122, t95, t46, t48, t57, t45⟩ := T
        have HI2 := Lib.hid hi
        clear hi hc
        go_wp2
        go_meet
        exact ⟨congrArg Value.bool hl.symm, congrArg Value.bool HI2.out.symm, rfl⟩
      · have T := tests8 hc
        have hi := inner_of c _ _ _ _ _ _ _ _ _ T
        have hl : letterB c = false := letter_of c _ _ _ _ _ _ _ _ _ T
        obtain ⟨t65, t90, t97, t122, t95, t46, t48, t57, t45⟩ := T
        have HI2 := Lib.hid hi
        clear hi hc
        go_wp2
        go_meet
        exact ⟨congrArg Value.bool hl.symm, congrArg Value.bool HI2.out.symm, rfl⟩
      · have T := tests9 hc
        have hi := inner_of c _ _ _ _ _ _ _ _ _ T
        have hl : letterB c = false := letter_of c _ _ _ _ _ _ _ _ _ T
        obtain ⟨t65, t90, t97, t122, t95, t46, t48, t57, t45⟩ := T
        have HI2 := Lib.hid hi
        clear hi hc
        go_wp2
        go_meet
        exact ⟨congrArg Value.bool hl.symm, congrArg Value.bool HI2.out.symm, rfl⟩
      · have T := tests10 hc
        have hi := inner_of c _ _ _ _ _ _ _ _ _ T
        have hl : letterB c = false := letter_of c _ _ _ _ _ _ _ _ _ T
        obtain ⟨t65, t90, t97, t122, t95, t46, t48, t57, t45⟩ := T
        have HI2 := Lib.hid hi
        clear hi hc
        go_wp2
        go_meet
        exact ⟨congrArg Value.bool hl.symm, congrArg Value.bool HI2.out.symm, rfl⟩
      · have T := tests11 hc
        have hi := inner_of c _ _ _ _ _ _ _ _ _ T
        have hl : letterB c = false := letter_of c _ _ _ _ _ _ _ _ _ T
        obtain ⟨t65, t90, t97, t122, t95, t46, t48, t57, t45⟩ := T
        have HI2 := Lib.hid hi
        clear hi hc
        go_wp2
        go_meet
        exact ⟨congrArg Value.bool hl.symm, congrArg Value.bool HI2.out.symm, rfl⟩
    case rest =>
      obtain ⟨rfl, rfl, rfl⟩ := hcut
      go_wp2_with (((with_reducible refine gate_dst (N := 59) rfl ?_); refine Kd.R_lit (Kd.int .u8) _ 5 ?hg (N := 59) ?hd (xs := ([c] : List Int)) (inner := [.int .u8 c]) (ok := fun _ => True) (okp := fun _ => True) ?hr ?hp (fun _ hk => hk) trivial (Below.refl _ _) (Nat.le_refl _) (by simp) ?_; (case hd => rfl); (case hg => rfl); (case hr => first | (go_simp; done) | (go_simp; rfl)); (case hp => exact (Reps.one (show Kd.M (Kd.int .u8) _ _ _ c [.int .u8 c] from rfl) (Reps.none _ _))); intro v6 w6 ho hb hg_ hnew_; clear hg_ hnew_; have hcv6 := own_string (P := Tryd.prog) Tryd.underlying31 Tryd.underlying5 Tryd.underlying9 (Kd.own_of_R ho); have HB6 := Aside0.mk (below_step (by repeat (first | exact HB5.out | apply below_alloc | apply pw_below_drewN | apply below_drew1)) hb); clear hb HB5 ho))
      refine (HA _).mono ?_
      rintro e w7 ⟨rfl, hb1⟩
      have HB7 := Aside0.mk (below_step (by repeat (first | exact HB6.out | apply below_alloc | apply pw_below_drewN | apply below_drew1)) hb1)
      clear hb1 HB6
      have hsz2 : t.size = 0 ∨ (1 ≤ t.size ∧ t.size ≤ 15) ∨ t.size = 16 ∨ 17 ≤ t.size := by omega
      rcases hsz2 with hz | hz | hz | hz
      · have z1 : decide (t.size < 16) = true := decide_eq_true (by omega)
        have z2 : decide ((t.size : Int) < 16) = true := decide_eq_true (by omega)
        have z3 : decide (t.size ≤ 16) = true := decide_eq_true (by omega)
        have z4 : decide ((t.size : Int) ≤ 16) = true := decide_eq_true (by omega)
        have z5 : decide (0 < t.size) = false := decide_eq_false (by omega)
        have z6 : decide ((0 : Int) < (t.size : Int)) = false := decide_eq_false (by omega)
        have z7 : decide (t.size = 0) = true := decide_eq_true (by omega)
        have z8 : t.toList = [] := by rw [Lib.toList_data]; exact List.eq_nil_of_length_eq_zero (by rw [Array.length_toList]; exact hz)
        have Z7 := Lib.hid z7
        clear z7
        cases hL : letterB c with
        | true =>
          have hN := HINN.out hL
          cases is with
          | true =>
            have := HIS.out rfl
            omega
          | false =>
            have hm : more = true := by rw [HMO.out, Z7.out, hL, hN, z1]; rfl
            subst hm
            clear HM
            go_wp2_with fail
            go_ret
            exact ⟨rfl, HB7.out⟩
        | false =>
          cases hN : innerB c with
          | true =>
            cases is with
            | true =>
              have := HIS.out rfl
              omega
            | false =>
              have hm : more = false := by rw [HMO.out, Z7.out, hL, hN, z1]; rfl
              subst hm
              clear HM
              go_wp2_with fail
              go_ret
              exact ⟨rfl, HB7.out⟩
          | false =>
            cases is with
            | true =>
              have := HIS.out rfl
              omega
            | false =>
              have hm : more = false := by rw [HMO.out, Z7.out, hL, hN, z1]; rfl
              subst hm
              clear HM
              go_wp2_with fail
              go_ret
              exact ⟨rfl, HB7.out⟩
      · have z1 : decide (t.size < 16) = true := decide_eq_true (by omega)
        have z2 : decide ((t.size : Int) < 16) = true := decide_eq_true (by omega)
        have z3 : decide (t.size ≤ 16) = true := decide_eq_true (by omega)
        have z4 : decide ((t.size : Int) ≤ 16) = true := decide_eq_true (by omega)
        have z5 : decide (0 < t.size) = true := decide_eq_true (by omega)
        have z6 : decide ((0 : Int) < (t.size : Int)) = true := decide_eq_true (by omega)
        have z7 : decide (t.size = 0) = false := decide_eq_false (by omega)
        have z8 : t.toList.isEmpty = false := notEmpty_of (by omega)
        have Z7 := Lib.hid z7
        clear z7
        cases hL : letterB c with
        | true =>
          have hN := HINN.out hL
          cases is with
          | true =>
            have hm : more = true := by rw [HMO.out, Z7.out, hL, hN, z1]; rfl
            subst hm
            clear HM
            go_wp2_with fail
            go_ret
            exact ⟨rfl, HB7.out⟩
          | false =>
            have hm : more = false := by rw [HMO.out, Z7.out, hL, hN, z1]; rfl
            subst hm
            clear HM
            go_wp2_with fail
            go_ret
            exact ⟨rfl, HB7.out⟩
        | false =>
          cases hN : innerB c with
          | true =>
            cases is with
            | true =>
              have hm : more = true := by rw [HMO.out, Z7.out, hL, hN, z1]; rfl
              subst hm
              clear HM
              go_wp2_with fail
              go_ret
              exact ⟨rfl, HB7.out⟩
            | false =>
              have hm : more = false := by rw [HMO.out, Z7.out, hL, hN, z1]; rfl
              subst hm
              clear HM
              go_wp2_with fail
              go_ret
              exact ⟨rfl, HB7.out⟩
          | false =>
            cases is with
            | true =>
              have hm : more = false := by rw [HMO.out, Z7.out, hL, hN, z1]; rfl
              subst hm
              clear HM
              go_wp2_with fail
              go_ret
              exact ⟨rfl, HB7.out⟩
            | false =>
              have hm : more = false := by rw [HMO.out, Z7.out, hL, hN, z1]; rfl
              subst hm
              clear HM
              go_wp2_with fail
              go_ret
              exact ⟨rfl, HB7.out⟩
      · have z1 : decide (t.size < 16) = false := decide_eq_false (by omega)
        have z2 : decide ((t.size : Int) < 16) = false := decide_eq_false (by omega)
        have z3 : decide (t.size ≤ 16) = true := decide_eq_true (by omega)
        have z4 : decide ((t.size : Int) ≤ 16) = true := decide_eq_true (by omega)
        have z5 : decide (0 < t.size) = true := decide_eq_true (by omega)
        have z6 : decide ((0 : Int) < (t.size : Int)) = true := decide_eq_true (by omega)
        have z7 : decide (t.size = 0) = false := decide_eq_false (by omega)
        have z8 : t.toList.isEmpty = false := notEmpty_of (by omega)
        have Z7 := Lib.hid z7
        clear z7
        cases hL : letterB c with
        | true =>
          have hN := HINN.out hL
          cases is with
          | true =>
            have hm : more = false := by rw [HMO.out, Z7.out, hL, hN, z1]; rfl
            subst hm
            clear HM
            go_wp2_with fail
            go_ret
            exact ⟨rfl, HB7.out⟩
          | false =>
            have hm : more = false := by rw [HMO.out, Z7.out, hL, hN, z1]; rfl
            subst hm
            clear HM
            go_wp2_with fail
            go_ret
            exact ⟨rfl, HB7.out⟩
        | false =>
          cases hN : innerB c with
          | true =>
            cases is with
            | true =>
              have hm : more = false := by rw [HMO.out, Z7.out, hL, hN, z1]; rfl
              subst hm
              clear HM
              go_wp2_with fail
              go_ret
              exact ⟨rfl, HB7.out⟩
            | false =>
              have hm : more = false := by rw [HMO.out, Z7.out, hL, hN, z1]; rfl
              subst hm
              clear HM
              go_wp2_with fail
              go_ret
              exact ⟨rfl, HB7.out⟩
          | false =>
            cases is with
            | true =>
              have hm : more = false := by rw [HMO.out, Z7.out, hL, hN, z1]; rfl
              subst hm
              clear HM
              go_wp2_with fail
              go_ret
              exact ⟨rfl, HB7.out⟩
            | false =>
              have hm : more = false := by rw [HMO.out, Z7.out, hL, hN, z1]; rfl
              subst hm
              clear HM
              go_wp2_with fail
              go_ret
              exact ⟨rfl, HB7.out⟩
      · have z1 : decide (t.size < 16) = false := decide_eq_false (by omega)
        have z2 : decide ((t.size : Int) < 16) = false := decide_eq_false (by omega)
        have z3 : decide (t.size ≤ 16) = false := decide_eq_false (by omega)
        have z4 : decide ((t.size : Int) ≤ 16) = false := decide_eq_false (by omega)
        have z5 : decide (0 < t.size) = true := decide_eq_true (by omega)
        have z6 : decide ((0 : Int) < (t.size : Int)) = true := decide_eq_true (by omega)
        have z7 : decide (t.size = 0) = false := decide_eq_false (by omega)
        have z8 : t.toList.isEmpty = false := notEmpty_of (by omega)
        have Z7 := Lib.hid z7
        clear z7
        cases hL : letterB c with
        | true =>
          have hN := HINN.out hL
          cases is with
          | true =>
            have := HIS.out rfl
            omega
          | false =>
            have hm : more = false := by rw [HMO.out, Z7.out, hL, hN, z1]; rfl
            subst hm
            clear HM
            go_wp2_with fail
            go_ret
            exact ⟨rfl, HB7.out⟩
        | false =>
          cases hN : innerB c with
          | true =>
            cases is with
            | true =>
              have := HIS.out rfl
              omega
            | false =>
              have hm : more = false := by rw [HMO.out, Z7.out, hL, hN, z1]; rfl
              subst hm
              clear HM
              go_wp2_with fail
              go_ret
              exact ⟨rfl, HB7.out⟩
          | false =>
            cases is with
            | true =>
              have := HIS.out rfl
              omega
            | false =>
              have hm : more = false := by rw [HMO.out, Z7.out, hL, hN, z1]; rfl
              subst hm
              clear HM
              go_wp2_with fail
              go_ret
              exact ⟨rfl, HB7.out⟩
end Go.Proofs.YtenjohemplgnmaaDoor.P
