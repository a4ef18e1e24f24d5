/- Functions of the program as Lean functions, each with a proof that the call comes to just its answers (written by wip/gprint.py of this repo). -/
import Derived.Test.YtenjohemplgnmaaDoorPx0
import Derived.Test.YtenjohemplgnmaaDoorPx6
namespace Go.Proofs.YtenjohemplgnmaaDoor.P
open Go.RowKit Go.Proofs.YtenjohemplgnmaaDoorW.PrintWords Go.Proofs.YtenjohemplgnmaaDoorW.PrintLast Go.Proofs.YtenjohemplgnmaaDoorW.PrintMore
attribute [local go_sem] max2_int min2_int max_two min_two max_three min_three max_four min_four   -- for this text's walks alone
set_option linter.unusedVariables false
set_option linter.unusedSimpArgs false

-- NOT PRINTED: function 6 (L05_WordsPlaces)

-- NOT PRINTED: function 7 (L05_WordsNotes)

/-! ### L05_name: function 21 -/
def L05_name.f (k : Nat) (a0 : ByteArray) : Option (ByteArray) := (L05_tame.f k a0).bind fun t298 => (if t298.toList = ([91] : List UInt8) then (some (⟨#[120]⟩ : ByteArray)) else (if t298.toList = ([93] : List UInt8) then (some (⟨#[120]⟩ : ByteArray)) else (some t298)))
theorem L05_name.mono : ∀ a0 k, LeO (L05_name.f k a0) (L05_name.f (k + 1) a0) := by
  intro a0 k
  unfold L05_name.f
  repeat' first
      | (with_reducible exact L05_tame.mono _ _)
      | (with_reducible exact LeO.refl _)
      | (with_reducible exact LeO.none _)
      | (with_reducible refine LeO.ite ?_ ?_)
      | (with_reducible refine LeO.bind ?_ (fun _ => ?_))
      | exact L05_tame.mono _ _
      | exact LeO.none _
      | refine LeO.ite ?_ ?_
      | refine LeO.bind ?_ (fun _ => ?_)
set_option maxHeartbeats 8000000 in
set_option maxRecDepth 100000 in
theorem L05_name.calls (k : Nat) (a0 : ByteArray) (r : ByteArray) (w : World) (h : L05_name.f k a0 = some r) :
    Calls Tryd.prog 21 #[.string a0] w fun e w' => e = .returned (.string r) ∧ Drawn0 w w' := by
  have H : ((L05_tame.f k a0).bind fun t298 => (if t298.toList = ([91] : List UInt8) then (some (⟨#[120]⟩ : ByteArray)) else (if t298.toList = ([93] : List UInt8) then (some (⟨#[120]⟩ : ByteArray)) else (some t298)))) = some r := h
  clear h
  replace H := Option.bind_eq_some_iff.mp H
  obtain ⟨t298, A20, H⟩ := H
  replace H : (if t298.toList = ([91] : List UInt8) then (some (⟨#[120]⟩ : ByteArray)) else (if t298.toList = ([93] : List UInt8) then (some (⟨#[120]⟩ : ByteArray)) else (some t298))) = some r := H
  have A2 := Aside0.mk A20
  clear A20
  by_cases c3 : t298.toList = ([91] : List UInt8)
  · rw [if_pos c3] at H
    have c3b0 : (t298.toList == ([91] : List UInt8)) = true := beq_iff_eq.mpr c3
    have c3b1 : (t298.toList != ([91] : List UInt8)) = false := bne_eq_false_iff_eq.mpr c3
    clear c3
    obtain rfl := Option.some.inj H
    go_enter Tryd.func21, Tryd.ntmps21
    go_wp2_with (first | ((with_reducible refine gate_callee (f := 19) rfl ?_); refine goesL_ (some 5) rfl rfl Tryd.func19 (by kernel_rfl) rfl #[.string a0] rfl (by (try simp only [List.map_toArray, List.map_cons, List.map_nil]); first | done | rfl | (simp only [List.length_drop, List.length_take]; rfl)) ?_; (with_reducible refine (L05_tame.calls k a0 t298 _ A2.out).mono ?_); rintro e w' ⟨rfl, ⟨nd, rfl⟩⟩; refine ⟨_, rfl, ?_⟩))
    go_ret
    exact ⟨by first | rfl | (simp; done) | (simp [*]; done), by repeat (first | exact Drawn0.refl _ | apply Drawn0.step)⟩
  · rw [if_neg c3] at H
    have c3b0 : (t298.toList == ([91] : List UInt8)) = false := beq_eq_false_iff_ne.mpr c3
    have c3b1 : (t298.toList != ([91] : List UInt8)) = true := bne_iff_ne.mpr c3
    by_cases c4 : t298.toList = ([93] : List UInt8)
    · rw [if_pos c4] at H
      have c4b0 : (t298.toList == ([93] : List UInt8)) = true := beq_iff_eq.mpr c4
      have c4b1 : (t298.toList != ([93] : List UInt8)) = false := bne_eq_false_iff_eq.mpr c4
      clear c4
      obtain rfl := Option.some.inj H
      go_enter Tryd.func21, Tryd.ntmps21
      go_wp2_with (first | ((with_reducible refine gate_callee (f := 19) rfl ?_); refine goesL_ (some 5) rfl rfl Tryd.func19 (by kernel_rfl) rfl #[.string a0] rfl (by (try simp only [List.map_toArray, List.map_cons, List.map_nil]); first | done | rfl | (simp only [List.length_drop, List.length_take]; rfl)) ?_; (with_reducible refine (L05_tame.calls k a0 t298 _ A2.out).mono ?_); rintro e w' ⟨rfl, ⟨nd, rfl⟩⟩; refine ⟨_, rfl, ?_⟩))
      go_ret
      exact ⟨by first | rfl | (simp; done) | (simp [*]; done), by repeat (first | exact Drawn0.refl _ | apply Drawn0.step)⟩
    · rw [if_neg c4] at H
      have c4b0 : (t298.toList == ([93] : List UInt8)) = false := beq_eq_false_iff_ne.mpr c4
      have c4b1 : (t298.toList != ([93] : List UInt8)) = true := bne_iff_ne.mpr c4
      obtain rfl := Option.some.inj H
      go_enter Tryd.func21, Tryd.ntmps21
      go_wp2_with (first | ((with_reducible refine gate_callee (f := 19) rfl ?_); refine goesL_ (some 5) rfl rfl Tryd.func19 (by kernel_rfl) rfl #[.string a0] rfl (by (try simp only [List.map_toArray, List.map_cons, List.map_nil]); first | done | rfl | (simp only [List.length_drop, List.length_take]; rfl)) ?_; (with_reducible refine (L05_tame.calls k a0 t298 _ A2.out).mono ?_); rintro e w' ⟨rfl, ⟨nd, rfl⟩⟩; refine ⟨_, rfl, ?_⟩))
      go_ret
      exact ⟨by first | rfl | (simp; done) | (simp [*]; done), by repeat (first | exact Drawn0.refl _ | apply Drawn0.step)⟩

-- NOT PRINTED: function 8 (L05_WordsRows)


-- NOT PRINTED: function 9 (L05_WordsNames)

/-! ### R05_Decimal: function 23 -/
mutual
def R05_Decimal.j0 : Nat → ByteArray → Int → Option (ByteArray)
  | 0, _, _ => none
  | k + 1, x3, x4 => R05_Decimal.l0 k x3 (IntKind.u64.wrap (Int.tdiv x4 10)) (strOfNums (([(48 + ((Int.tmod x4 10) % 256)) % 256] : List Int)))
def R05_Decimal.l0 : Nat → ByteArray → Int → ByteArray → Option (ByteArray)
  | 0, _, _, _ => none
  | k + 1, x3, x4, x5 => if x4 > 0 then ((some (([(48 + ((Int.tmod x4 10) % 256)) % 256] : List Int) : List Int)).bind fun y493 => (if (strOfNums y493).size + x5.size ≤ 9223372036854775807 then (R05_Decimal.l0 k x3 (IntKind.u64.wrap (Int.tdiv x4 10)) ((strOfNums y493) ++ x5)) else (none))) else (if x3.size + x5.size ≤ 9223372036854775807 then (some (x3 ++ x5)) else (none))
end
def R05_Decimal.f (k : Nat) (a0 : Int) : Option (ByteArray) := if a0 < 0 then (R05_Decimal.j0 k (⟨#[45]⟩ : ByteArray) (IntKind.u64.wrap (-(IntKind.u64.wrap (a0))))) else (R05_Decimal.j0 k (⟨#[]⟩ : ByteArray) (IntKind.u64.wrap (a0)))
theorem R05_Decimal.mono_l : ∀ k, (∀ y0 y1, LeO (R05_Decimal.j0 k y0 y1) (R05_Decimal.j0 (k + 1) y0 y1)) ∧ (∀ y0 y1 y2, LeO (R05_Decimal.l0 k y0 y1 y2) (R05_Decimal.l0 (k + 1) y0 y1 y2))
  | 0 => ⟨fun _ _ r h => by simp [R05_Decimal.j0] at h, fun _ _ _ r h => by simp [R05_Decimal.l0] at h⟩
  | k + 1 => by
    obtain ⟨ih0, ih1⟩ := R05_Decimal.mono_l k
    refine ⟨?_, ?_⟩
    · intro y0 y1
      unfold R05_Decimal.j0
      repeat' first
      | (with_reducible exact ih0 _ _)
      | (with_reducible exact ih1 _ _ _)
      | (with_reducible exact LeO.refl _)
      | (with_reducible exact LeO.none _)
      | (with_reducible refine LeO.ite ?_ ?_)
      | (with_reducible refine LeO.bind ?_ (fun _ => ?_))
      | exact ih0 _ _
      | exact ih1 _ _ _
      | exact LeO.none _
      | refine LeO.ite ?_ ?_
      | refine LeO.bind ?_ (fun _ => ?_)
    · intro y0 y1 y2
      unfold R05_Decimal.l0
      repeat' first
      | (with_reducible exact ih0 _ _)
      | (with_reducible exact ih1 _ _ _)
      | (with_reducible exact LeO.refl _)
      | (with_reducible exact LeO.none _)
      | (with_reducible refine LeO.ite ?_ ?_)
      | (with_reducible refine LeO.bind ?_ (fun _ => ?_))
      | exact ih0 _ _
      | exact ih1 _ _ _
      | exact LeO.none _
      | refine LeO.ite ?_ ?_
      | refine LeO.bind ?_ (fun _ => ?_)
theorem R05_Decimal.mono : ∀ a0 k, LeO (R05_Decimal.f k a0) (R05_Decimal.f (k + 1) a0) := by
  intro a0 k
  obtain ⟨ih0, ih1⟩ := R05_Decimal.mono_l k
  unfold R05_Decimal.f
  repeat' first
      | (with_reducible exact ih0 _ _)
      | (with_reducible exact ih1 _ _ _)
      | (with_reducible exact LeO.refl _)
      | (with_reducible exact LeO.none _)
      | (with_reducible refine LeO.ite ?_ ?_)
      | (with_reducible refine LeO.bind ?_ (fun _ => ?_))
      | exact ih0 _ _
      | exact ih1 _ _ _
      | exact LeO.none _
      | refine LeO.ite ?_ ?_
      | refine LeO.bind ?_ (fun _ => ?_)
set_option maxHeartbeats 8000000 in
set_option maxRecDepth 100000 in
theorem R05_Decimal.calls (k : Nat) (a0 : Int) (r : ByteArray) (w : World) (h : R05_Decimal.f k a0 = some r) :
    Calls Tryd.prog 23 #[.int .i64 a0] w fun e w' => e = .returned (.string r) ∧ Below w.heap.size w w' := by
  have HB := Aside0.mk (Below.refl w.heap.size w)
  have H : (if a0 < 0 then (R05_Decimal.j0 k (⟨#[45]⟩ : ByteArray) (IntKind.u64.wrap (-(IntKind.u64.wrap (a0))))) else (R05_Decimal.j0 k (⟨#[]⟩ : ByteArray) (IntKind.u64.wrap (a0)))) = some r := h
  clear h
  have HC2 := Aside0.mk H
  clear H
  go_enter Tryd.func23, Tryd.ntmps23
  go_upto_if 9 with (fail)
  go_cut [3, 4] (fun v3 v4 wc => ∃ (kq : Nat) (x3_1 : ByteArray) (x4_1 : Int), v3 = .string x3_1 ∧ v4 = .int .u64 x4_1 ∧ Aside0 (R05_Decimal.j0 kq x3_1 x4_1 = some r) ∧ Aside0 (kq ≤ k) ∧ Aside0 (Below w.heap.size w wc))
  case first =>
    have H := HC2.out
    clear HC2
    by_cases c3 : a0 < 0
    · rw [if_pos c3] at H
      have c3b0 : decide (a0 < 0) = true := decide_eq_true c3
      clear c3
      (first | rw [c3b0] | (simp only [i64_w, i32_w]; rw [c3b0]) | skip)
      have H' := Aside0.mk H
      clear H
      go_wp2
      go_meet
      case rel => exact ⟨_, ((⟨#[45]⟩ : ByteArray)), (IntKind.u64.wrap (-(IntKind.u64.wrap (a0)))), (by first | rfl | (simp; done) | (simp [*]; done)), (by first | rfl | (simp; done) | (simp [*]; done)), H', ⟨by first | omega | exact Nat.le_refl _⟩, ⟨by repeat (first | (with_reducible first | exact HB.out | apply below_alloc | apply pw_below_drewN | apply below_drew1) | exact HB.out)⟩⟩
    · rw [if_neg c3] at H
      have c3b0 : decide (a0 < 0) = false := decide_eq_false c3
      clear c3
      (first | rw [c3b0] | (simp only [i64_w, i32_w]; rw [c3b0]) | skip)
      have H' := Aside0.mk H
      clear H
      go_wp2
      go_meet
      case rel => exact ⟨_, ((⟨#[]⟩ : ByteArray)), (IntKind.u64.wrap (a0)), (by first | rfl | (simp; done) | (simp [*]; done)), (by first | rfl | (simp; done) | (simp [*]; done)), H', ⟨by first | omega | exact Nat.le_refl _⟩, ⟨by repeat (first | (with_reducible first | exact HB.out | apply below_alloc | apply pw_below_drewN | apply below_drew1) | exact HB.out)⟩⟩
  case rest =>
    clear HC2
    try clear c2
    try clear p2
    try clear c3
    try clear c3b0
    obtain ⟨kq, x3_1, x4_1, rfl, rfl, HA, HJ1, HB⟩ := hcut
    cases kq with
    | zero => exact absurd HA.out (by simp [R05_Decimal.j0])
    | succ kj1 =>
      have H := HA.out
      clear HA
      simp only [R05_Decimal.j0] at H
      obtain ⟨y490, hy490⟩ : ∃ y_ : List Int, y_ = (([(48 + ((Int.tmod x4_1 10) % 256)) % 256] : List Int)) := ⟨_, rfl⟩
      replace H : (R05_Decimal.l0 kj1 x3_1 (IntKind.u64.wrap (Int.tdiv x4_1 10)) (strOfNums y490)) = some r := by first | (rw [hy490]; with_reducible exact H) | (have H2_ := (Option.bind_some _ _).symm.trans H; rw [hy490]; with_reducible exact H2_) | (have H2_ := (Option.bind_some _ _).symm.trans H; with_reducible exact H2_) | with_reducible exact H | (rw [hy490]; exact H) | exact H
      have Ny490 := Aside0.mk hy490
      clear hy490
      have H' := Aside0.mk H
      clear H
      go_wp2_with (first | ((with_reducible refine gate_dst (N := 16) rfl ?_); refine Kd.R_lit (Kd.int .u8) _ 5 ?hg (N := 16) ?hd (xs := ([(48 + ((Int.tmod x4_1 10) % 256)) % 256] : List Int)) (inner := [.int .u8 ((48 + ((Int.tmod x4_1 10) % 256)) % 256)]) (ok := fun _ => True) (okp := fun _ => True) ?hr ?hp (fun _ hk => hk) trivial (Below.refl _ _) (Nat.le_refl _) (by simp) ?_; (case hd => rfl); (case hg => rfl); (case hr => first | (go_simp; done) | (go_simp; rfl)); (case hp => exact (Reps.one (show Kd.M (Kd.int .u8) _ _ _ ((48 + ((Int.tmod x4_1 10) % 256)) % 256) [.int .u8 ((48 + ((Int.tmod x4_1 10) % 256)) % 256)] from rfl) (Reps.none _ _))); intro v491 w4 ho5 hb hg_ hnew_; clear hg_ hnew_; (first | rw [← Ny490.out] at ho5 | (simp only [Int.reduceToNat] at ho5; rw [← Ny490.out] at ho5)); have n0_ := Aside0.mk (Kd.R_lower ho5 (below_size (by repeat (first | (with_reducible first | exact HB.out | apply below_alloc | apply pw_below_drewN | apply below_drew1) | exact HB.out)))); have n1_ := Aside0.mk (below_step (by repeat (first | (with_reducible first | exact HB.out | apply below_alloc | apply pw_below_drewN | apply below_drew1) | exact HB.out)) hb); clear HB; have HO492 := n0_; have HB := n1_; clear n0_ n1_; clear hb ho5; have hcv6 := own_string (P := Tryd.prog) Tryd.underlying31 Tryd.underlying5 Tryd.underlying9 (Kd.own_of_R HO492.out)))
      go_loopg [4, 5] kj1 (fun kq v4 v5 w' => ∃ (x4_2 : Int) (x5_2 : ByteArray), v4 = .int .u64 x4_2 ∧ v5 = .string x5_2 ∧ Aside0 (R05_Decimal.l0 kq x3_1 x4_2 x5_2 = some r) ∧ Aside0 (kq ≤ kj1) ∧ Aside0 (Below w.heap.size w w'))
      case atStart => exact ⟨(IntKind.u64.wrap (Int.tdiv x4_1 10)), (strOfNums y490), (by first | rfl | (simp; done) | (simp [*]; done)), (by first | rfl | (simp; done) | (simp [*]; done)), H', ⟨Nat.le_refl _⟩, ⟨by repeat (first | (with_reducible first | exact HB.out | apply below_alloc | apply pw_below_drewN | apply below_drew1) | exact HB.out)⟩⟩
      case round =>
        clear H'
        try clear c2
        try clear p2
        try clear c3
        try clear c3b0
        try clear hcv6
        try clear p2
        obtain ⟨x4_2, x5_2, rfl, rfl, HA, HK2, HB⟩ := hrel
        cases gk with
        | zero => exact absurd HA.out (by simp [R05_Decimal.l0])
        | succ k2 =>
          have H := HA.out
          clear HA
          simp only [R05_Decimal.l0] at H
          by_cases c7 : x4_2 > 0
          · rw [if_pos c7] at H
            have c7b0 : decide (0 < x4_2) = true := decide_eq_true c7
            clear c7
            obtain ⟨y493, hy493⟩ : ∃ y_ : List Int, y_ = (([(48 + ((Int.tmod x4_2 10) % 256)) % 256] : List Int)) := ⟨_, rfl⟩
            replace H : (if (strOfNums y493).size + x5_2.size ≤ 9223372036854775807 then (R05_Decimal.l0 k2 x3_1 (IntKind.u64.wrap (Int.tdiv x4_2 10)) ((strOfNums y493) ++ x5_2)) else (none)) = some r := by first | (rw [hy493]; with_reducible exact H) | (have H2_ := (Option.bind_some _ _).symm.trans H; rw [hy493]; with_reducible exact H2_) | (have H2_ := (Option.bind_some _ _).symm.trans H; with_reducible exact H2_) | with_reducible exact H | (rw [hy493]; exact H) | exact H
            have Ny493 := Aside0.mk hy493
            clear hy493
            by_cases c8 : (strOfNums y493).size + x5_2.size ≤ 9223372036854775807
            · rw [if_pos c8] at H
              have c8b0 := eq_true c8
              have c8b1 : decide ((strOfNums y493).size + x5_2.size ≤ 9223372036854775807) = true := decide_eq_true c8
              try have c8b2 : (9223372036854775807 < (strOfNums y493).size + x5_2.size) = False := eq_false (Nat.not_lt.2 c8)
              have H' := Aside0.mk H
              clear H
              go_wp2_with (first | ((with_reducible refine gate_dst (N := 28) rfl ?_); refine Kd.R_lit (Kd.int .u8) _ 5 ?hg (N := 28) ?hd (xs := ([(48 + ((Int.tmod x4_2 10) % 256)) % 256] : List Int)) (inner := [.int .u8 ((48 + ((Int.tmod x4_2 10) % 256)) % 256)]) (ok := fun _ => True) (okp := fun _ => True) ?hr ?hp (fun _ hk => hk) trivial (Below.refl _ _) (Nat.le_refl _) (by simp) ?_; (case hd => rfl); (case hg => rfl); (case hr => first | (go_simp; done) | (go_simp; rfl)); (case hp => exact (Reps.one (show Kd.M (Kd.int .u8) _ _ _ ((48 + ((Int.tmod x4_2 10) % 256)) % 256) [.int .u8 ((48 + ((Int.tmod x4_2 10) % 256)) % 256)] from rfl) (Reps.none _ _))); intro v494 w9 ho10 hb hg_ hnew_; clear hg_ hnew_; (first | rw [← Ny493.out] at ho10 | (simp only [Int.reduceToNat] at ho10; rw [← Ny493.out] at ho10)); have n0_ := Aside0.mk (Kd.R_lower ho10 (below_size (by repeat (first | (with_reducible first | exact HB.out | apply below_alloc | apply pw_below_drewN | apply below_drew1) | exact HB.out)))); have n1_ := Aside0.mk (below_step (by repeat (first | (with_reducible first | exact HB.out | apply below_alloc | apply pw_below_drewN | apply below_drew1) | exact HB.out)) hb); clear HB; have HO495 := n0_; have HB := n1_; clear n0_ n1_; clear hb ho10; have hcv11 := own_string (P := Tryd.prog) Tryd.underlying31 Tryd.underlying5 Tryd.underlying9 (Kd.own_of_R HO495.out)))
              go_roundg k2
              case measure => have := HJ1.out; have := HK2.out; omega
              case rel => exact ⟨(IntKind.u64.wrap (Int.tdiv x4_2 10)), ((strOfNums y493) ++ x5_2), (by first | rfl | (simp; done) | (simp [*]; done)), (by first | rfl | (simp; done) | (simp [*]; done)), H', ⟨by have := HJ1.out; have := HK2.out; omega⟩, ⟨by repeat (first | (with_reducible first | exact HB.out | apply below_alloc | apply pw_below_drewN | apply below_drew1) | exact HB.out)⟩⟩
            · rw [if_neg c8] at H
              exact absurd H (by simp)
          · rw [if_neg c7] at H
            have c7b0 : decide (0 < x4_2) = false := decide_eq_false c7
            clear c7
            by_cases c12 : x3_1.size + x5_2.size ≤ 9223372036854775807
            · rw [if_pos c12] at H
              have c12b0 := eq_true c12
              have c12b1 : decide (x3_1.size + x5_2.size ≤ 9223372036854775807) = true := decide_eq_true c12
              try have c12b2 : (9223372036854775807 < x3_1.size + x5_2.size) = False := eq_false (Nat.not_lt.2 c12)
              obtain rfl := Option.some.inj H
              go_wp2
              go_ret
              exact ⟨by first | rfl | (simp [errW_none, errW_some] <;> rfl) | (simp [*, errW_none, errW_some] <;> rfl), by repeat (first | (with_reducible first | exact HB.out | apply below_alloc | apply pw_below_drewN | apply below_drew1) | exact HB.out)⟩
            · rw [if_neg c12] at H
              exact absurd H (by simp)


end Go.Proofs.YtenjohemplgnmaaDoor.P
