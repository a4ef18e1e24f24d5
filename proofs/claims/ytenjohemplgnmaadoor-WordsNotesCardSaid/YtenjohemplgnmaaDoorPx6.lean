/- Functions of the program as Lean functions, each with a proof that the call comes to just its answers (written by wip/gprint.py of this repo). -/
import Derived.Test.YtenjohemplgnmaaDoorPx0
import Derived.Test.YtenjohemplgnmaaDoorPx2
import Derived.Test.YtenjohemplgnmaaDoorPx3
import Derived.Test.YtenjohemplgnmaaDoorPx4
import Derived.Test.YtenjohemplgnmaaDoorPx5
namespace Go.Proofs.YtenjohemplgnmaaDoor.P
open Go.RowKit Go.Proofs.YtenjohemplgnmaaDoorW.PrintWords Go.Proofs.YtenjohemplgnmaaDoorW.PrintLast Go.Proofs.YtenjohemplgnmaaDoorW.PrintMore
attribute [local go_sem] max2_int min2_int max_two min_two max_three min_three max_four min_four   -- for this text's walks alone
set_option linter.unusedVariables false
set_option linter.unusedSimpArgs false

/-! ### L05_WordsAll: function 3 -/
def L05_WordsAll.f (k : Nat) (a0 : ByteArray) : Option (Bool) := (L05_shown.f k).bind fun t190 => (if t190 = true then ((L05_few.f a0).bind fun t191 => ((words_Lines.f k t191).bind fun t192 => ((L05_few.f a0).bind fun t195 => ((R05_Lines.f k t195).bind fun t196 => ((L05_same.f k t192 t196).bind fun t199 => (some t199)))))) else (some false))
theorem L05_WordsAll.mono : ∀ a0 k, LeO (L05_WordsAll.f k a0) (L05_WordsAll.f (k + 1) a0) := by
  intro a0 k
  unfold L05_WordsAll.f
  repeat' first
      | (with_reducible exact L05_same.mono _ _ _)
      | (with_reducible exact L05_shown.mono _)
      | (with_reducible exact R05_Lines.mono _ _)
      | (with_reducible exact words_Lines.mono _ _)
      | (with_reducible exact LeO.refl _)
      | (with_reducible exact LeO.none _)
      | (with_reducible refine LeO.ite ?_ ?_)
      | (with_reducible refine LeO.bind ?_ (fun _ => ?_))
      | exact L05_same.mono _ _ _
      | exact L05_shown.mono _
      | exact R05_Lines.mono _ _
      | exact words_Lines.mono _ _
      | exact LeO.none _
      | refine LeO.ite ?_ ?_
      | refine LeO.bind ?_ (fun _ => ?_)
set_option maxHeartbeats 8000000 in
set_option maxRecDepth 100000 in
theorem L05_WordsAll.calls (k : Nat) (a0 : ByteArray) (r : Bool) (w : World) (h : L05_WordsAll.f k a0 = some r) :
    Calls Tryd.prog 3 #[.string a0] w fun e w' => e = .returned (.bool r) ∧ Below w.heap.size w w' := by
  have HB := Aside0.mk (Below.refl w.heap.size w)
  have H : ((L05_shown.f k).bind fun t190 => (if t190 = true then ((L05_few.f a0).bind fun t191 => ((words_Lines.f k t191).bind fun t192 => ((L05_few.f a0).bind fun t195 => ((R05_Lines.f k t195).bind fun t196 => ((L05_same.f k t192 t196).bind fun t199 => (some t199)))))) else (some false))) = some r := h
  clear h
  replace H := Option.bind_eq_some_iff.mp H
  obtain ⟨t190, A20, H⟩ := H
  replace H : (if t190 = true then ((L05_few.f a0).bind fun t191 => ((words_Lines.f k t191).bind fun t192 => ((L05_few.f a0).bind fun t195 => ((R05_Lines.f k t195).bind fun t196 => ((L05_same.f k t192 t196).bind fun t199 => (some t199)))))) else (some false)) = some r := H
  have A2 := Aside0.mk A20
  clear A20
  by_cases c3 : t190 = true
  · subst c3
    have H1 : ((L05_few.f a0).bind fun t191 => ((words_Lines.f k t191).bind fun t192 => ((L05_few.f a0).bind fun t195 => ((R05_Lines.f k t195).bind fun t196 => ((L05_same.f k t192 t196).bind fun t199 => (some t199)))))) = some r := by rw [if_pos rfl] at H; exact H
    clear H
    have H := H1
    clear H1
    replace H := Option.bind_eq_some_iff.mp H
    obtain ⟨t191, A40, H⟩ := H
    replace H : ((words_Lines.f k t191).bind fun t192 => ((L05_few.f a0).bind fun t195 => ((R05_Lines.f k t195).bind fun t196 => ((L05_same.f k t192 t196).bind fun t199 => (some t199))))) = some r := H
    have A4 := Aside0.mk A40
    clear A40
    replace H := Option.bind_eq_some_iff.mp H
    obtain ⟨t192, A50, H⟩ := H
    replace H : ((L05_few.f a0).bind fun t195 => ((R05_Lines.f k t195).bind fun t196 => ((L05_same.f k t192 t196).bind fun t199 => (some t199)))) = some r := H
    have A5 := Aside0.mk A50
    clear A50
    replace H := Option.bind_eq_some_iff.mp H
    obtain ⟨t195, A60, H⟩ := H
    replace H : ((R05_Lines.f k t195).bind fun t196 => ((L05_same.f k t192 t196).bind fun t199 => (some t199))) = some r := H
    have A6 := Aside0.mk A60
    clear A60
    replace H := Option.bind_eq_some_iff.mp H
    obtain ⟨t196, A70, H⟩ := H
    replace H : ((L05_same.f k t192 t196).bind fun t199 => (some t199)) = some r := H
    have A7 := Aside0.mk A70
    clear A70
    replace H := Option.bind_eq_some_iff.mp H
    obtain ⟨t199, A80, H⟩ := H
    replace H : (some t199) = some r := H
    have A8 := Aside0.mk A80
    clear A80
    obtain rfl := Option.some.inj H
    go_enter Tryd.func3, Tryd.ntmps3
    go_wp2_with (first | ((with_reducible refine gate_callee (f := 12) rfl ?_); refine goesL_ (some 4) rfl rfl Tryd.func12 (by kernel_rfl) rfl #[] rfl (by (try simp only [List.map_toArray, List.map_cons, List.map_nil]); first | done | rfl | (simp only [List.length_drop, List.length_take]; rfl)) ?_; (with_reducible refine (L05_shown.calls k  true _ A2.out).mono ?_); rintro e w9 ⟨rfl, hb⟩; refine ⟨_, rfl, ?_⟩; have n0_ := Aside0.mk (below_step (by repeat (first | (with_reducible first | exact HB.out | apply below_alloc | apply pw_below_drewN | apply below_drew1) | exact HB.out)) hb); clear HB; have HB := n0_; clear n0_; (try clear hb); (try clear hb2); (try clear hk); (try clear hi)) | (go_at_call 15; (with_reducible refine (L05_few.calls a0 t191 _ A4.out).mono ?_); rintro e w10 ⟨rfl, hb⟩; have n0_ := Aside0.mk (below_step (by repeat (first | (with_reducible first | exact HB.out | apply below_alloc | apply pw_below_drewN | apply below_drew1) | exact HB.out)) hb); clear HB; have HB := n0_; clear n0_; (try clear hb); (try clear hb2); (try clear hk); (try clear hi); clear A4) | (go_at_call 14; (with_reducible refine (words_Lines.calls k t191 t192 _ A5.out).mono ?_); rintro e w11 ⟨v193, rfl, ho0, hb⟩; have n0_ := Aside0.mk (Kd.S_lower ho0 (below_size (by repeat (first | (with_reducible first | exact HB.out | apply below_alloc | apply pw_below_drewN | apply below_drew1) | exact HB.out)))); have n1_ := Aside0.mk (below_step (by repeat (first | (with_reducible first | exact HB.out | apply below_alloc | apply pw_below_drewN | apply below_drew1) | exact HB.out)) hb); clear HB; have HO194 := n0_; have HB := n1_; clear n0_ n1_; (try clear hb); (try clear hb2); (try clear hk); (try clear hi); (try clear ho0)) | (go_at_call 15; (with_reducible refine (L05_few.calls a0 t195 _ A6.out).mono ?_); rintro e w12 ⟨rfl, hb⟩; have n0_ := Aside0.mk (Kd.S_below (by (with_reducible repeat (first | apply Kd.S_alloc | apply Kd.S_drewN | apply Kd.S_drew)); exact HO194.out) hb); have n1_ := Aside0.mk (below_step (by repeat (first | (with_reducible first | exact HB.out | apply below_alloc | apply pw_below_drewN | apply below_drew1) | exact HB.out)) hb); clear HO194; clear HB; have HO194 := n0_; have HB := n1_; clear n0_ n1_; (try clear hb); (try clear hb2); (try clear hk); (try clear hi); clear A6) | (go_at_call 16; (with_reducible refine (R05_Lines.calls k t195 t196 _ A7.out).mono ?_); rintro e w13 ⟨v197, rfl, ho0, hb⟩; have n0_ := Aside0.mk (Kd.S_below (by (with_reducible repeat (first | apply Kd.S_alloc | apply Kd.S_drewN | apply Kd.S_drew)); exact HO194.out) hb); have n1_ := Aside0.mk (Kd.S_lower ho0 (below_size (by repeat (first | (with_reducible first | exact HB.out | apply below_alloc | apply pw_below_drewN | apply below_drew1) | exact HB.out)))); have n2_ := Aside0.mk (below_step (by repeat (first | (with_reducible first | exact HB.out | apply below_alloc | apply pw_below_drewN | apply below_drew1) | exact HB.out)) hb); clear HO194; clear HB; have HO194 := n0_; have HO198 := n1_; have HB := n2_; clear n0_ n1_ n2_; (try clear hb); (try clear hb2); (try clear hk); (try clear hi); (try clear ho0); obtain ⟨Ao14, co14, eo14⟩ := Kd.S_slice HO194.out; subst eo14; obtain ⟨Ao15, co15, eo15⟩ := Kd.S_slice HO198.out; subst eo15) | (go_at_call 13; (with_reducible refine (L05_same.calls k _ _ t192 _ _ t196 t199 _ ?side1 ?side2 ?side3 ?side4 A8.out).mono ?_); (case side1 => repeat (first | exact (Kd.S_reads' HO194.out).2.2 | (with_reducible refine Kd.C_alloc ?_ _) | (with_reducible refine Kd.C_drewN ?_ _) | (with_reducible refine Kd.C_drew ?_))); (case side2 => exact (Kd.S_reads' HO194.out).2.1); (case side3 => repeat (first | exact (Kd.S_reads' HO198.out).2.2 | (with_reducible refine Kd.C_alloc ?_ _) | (with_reducible refine Kd.C_drewN ?_ _) | (with_reducible refine Kd.C_drew ?_))); (case side4 => exact (Kd.S_reads' HO198.out).2.1); rintro e w' ⟨rfl, ⟨nd, rfl⟩⟩))
    go_ret
    exact ⟨by first | rfl | (simp [errW_none, errW_some] <;> rfl) | (simp [*, errW_none, errW_some] <;> rfl), by repeat (first | (with_reducible first | exact HB.out | apply below_alloc | apply pw_below_drewN | apply below_drew1) | exact HB.out)⟩
  · replace c3 := Bool.eq_false_iff.mpr c3
    subst c3
    have H1 : (some false) = some r := by rw [if_neg (show ¬ (false = true) by decide)] at H; exact H
    clear H
    have H := H1
    clear H1
    obtain rfl := Option.some.inj H
    go_enter Tryd.func3, Tryd.ntmps3
    go_wp2_with (first | ((with_reducible refine gate_callee (f := 12) rfl ?_); refine goesL_ (some 4) rfl rfl Tryd.func12 (by kernel_rfl) rfl #[] rfl (by (try simp only [List.map_toArray, List.map_cons, List.map_nil]); first | done | rfl | (simp only [List.length_drop, List.length_take]; rfl)) ?_; (with_reducible refine (L05_shown.calls k  false _ A2.out).mono ?_); rintro e w16 ⟨rfl, hb⟩; refine ⟨_, rfl, ?_⟩; have n0_ := Aside0.mk (below_step (by repeat (first | (with_reducible first | exact HB.out | apply below_alloc | apply pw_below_drewN | apply below_drew1) | exact HB.out)) hb); clear HB; have HB := n0_; clear n0_; (try clear hb); (try clear hb2); (try clear hk); (try clear hi)))
    go_ret
    exact ⟨by first | rfl | (simp [errW_none, errW_some] <;> rfl) | (simp [*, errW_none, errW_some] <;> rfl), by repeat (first | (with_reducible first | exact HB.out | apply below_alloc | apply pw_below_drewN | apply below_drew1) | exact HB.out)⟩

/-- THE ONE PURE STATEMENT of L05_WordsAll: yours. -/
def L05_WordsAll.Pure : Prop := ∀ (a0 : ByteArray), a0.size ≤ 140737488351232 → ∃ k, L05_WordsAll.f k a0 = some true
theorem L05_WordsAll.walk (P : L05_WordsAll.Pure) (a0 : ByteArray) (w : World) (w0 : a0.size ≤ 140737488351232) :
    Calls Tryd.prog 3 #[.string a0] w fun e w' => e = .returned (.bool true) ∧ Below w.heap.size w w' := by
  obtain ⟨k, h⟩ := P a0 w0
  refine (L05_WordsAll.calls k a0 true w h).mono ?_
  rintro e w' ⟨rfl, hd⟩
  exact ⟨rfl, hd⟩

-- NOT PRINTED: function 18 (R05_Sets)

-- NOT PRINTED: function 4 (L05_WordsSets)

/-! ### L05_tame: function 19 -/
mutual
def L05_tame.l0 : Nat → ByteArray → ByteArray → Int → Option (ByteArray)
  | 0, _, _, _ => none
  | k + 1, x0, x3, x4 => if x4 < (x0.size : Int) then (L05_tame.j1 k x0 x3 x4 (decide ((x3.size : Int) < 12))) else (L05_tame.j1 k x0 x3 x4 false)
def L05_tame.j1 : Nat → ByteArray → ByteArray → Int → Bool → Option (ByteArray)
  | 0, _, _, _, _ => none
  | k + 1, x0, x3, x4, x13 => if x13 = true then (if 0 ≤ x4 then (if x4 < (x0.size : Int) then (if (bt x0 x4) = 32 then (L05_tame.l0 k x0 x3 (wrap64 (x4 + 1))) else (if (bt x0 x4) = 9 then (L05_tame.l0 k x0 x3 (wrap64 (x4 + 1))) else (if (bt x0 x4) = 10 then (L05_tame.l0 k x0 x3 (wrap64 (x4 + 1))) else (if (bt x0 x4) = 35 then (L05_tame.l0 k x0 x3 (wrap64 (x4 + 1))) else (if x4 ≤ (wrap64 (x4 + 1)) then (if (wrap64 (x4 + 1)) ≤ (x0.size : Int) then (if x3.size + (x0.extract (x4 : Int).toNat ((wrap64 (x4 + 1)) : Int).toNat).size ≤ 9223372036854775807 then (L05_tame.l0 k x0 (x3 ++ (x0.extract (x4 : Int).toNat ((wrap64 (x4 + 1)) : Int).toNat)) (wrap64 (x4 + 1))) else (none)) else (none)) else (none)))))) else (none)) else (none)) else (if x3.toList = ([] : List UInt8) then (some (⟨#[120]⟩ : ByteArray)) else (some x3))
end
def L05_tame.f (k : Nat) (a0 : ByteArray) : Option (ByteArray) := L05_tame.l0 k a0 (⟨#[]⟩ : ByteArray) 0
theorem L05_tame.mono_l : ∀ k, (∀ y0 y1 y2, LeO (L05_tame.l0 k y0 y1 y2) (L05_tame.l0 (k + 1) y0 y1 y2)) ∧ (∀ y0 y1 y2 y3, LeO (L05_tame.j1 k y0 y1 y2 y3) (L05_tame.j1 (k + 1) y0 y1 y2 y3))
  | 0 => ⟨fun _ _ _ r h => by simp [L05_tame.l0] at h, fun _ _ _ _ r h => by simp [L05_tame.j1] at h⟩
  | k + 1 => by
    obtain ⟨ih0, ih1⟩ := L05_tame.mono_l k
    refine ⟨?_, ?_⟩
    · intro y0 y1 y2
      unfold L05_tame.l0
      repeat' first
      | (with_reducible exact ih0 _ _ _)
      | (with_reducible exact ih1 _ _ _ _)
      | (with_reducible exact LeO.refl _)
      | (with_reducible exact LeO.none _)
      | (with_reducible refine LeO.ite ?_ ?_)
      | (with_reducible refine LeO.bind ?_ (fun _ => ?_))
      | exact ih0 _ _ _
      | exact ih1 _ _ _ _
      | exact LeO.none _
      | refine LeO.ite ?_ ?_
      | refine LeO.bind ?_ (fun _ => ?_)
    · intro y0 y1 y2 y3
      unfold L05_tame.j1
      repeat' first
      | (with_reducible exact ih0 _ _ _)
      | (with_reducible exact ih1 _ _ _ _)
      | (with_reducible exact LeO.refl _)
      | (with_reducible exact LeO.none _)
      | (with_reducible refine LeO.ite ?_ ?_)
      | (with_reducible refine LeO.bind ?_ (fun _ => ?_))
      | exact ih0 _ _ _
      | exact ih1 _ _ _ _
      | exact LeO.none _
      | refine LeO.ite ?_ ?_
      | refine LeO.bind ?_ (fun _ => ?_)
theorem L05_tame.mono : ∀ a0 k, LeO (L05_tame.f k a0) (L05_tame.f (k + 1) a0) := by
  intro a0 k
  obtain ⟨ih0, ih1⟩ := L05_tame.mono_l k
  unfold L05_tame.f
  repeat' first
      | (with_reducible exact ih0 _ _ _)
      | (with_reducible exact ih1 _ _ _ _)
      | (with_reducible exact LeO.refl _)
      | (with_reducible exact LeO.none _)
      | (with_reducible refine LeO.ite ?_ ?_)
      | (with_reducible refine LeO.bind ?_ (fun _ => ?_))
      | exact ih0 _ _ _
      | exact ih1 _ _ _ _
      | exact LeO.none _
      | refine LeO.ite ?_ ?_
      | refine LeO.bind ?_ (fun _ => ?_)
set_option maxHeartbeats 8000000 in
set_option maxRecDepth 100000 in
theorem L05_tame.calls (k : Nat) (a0 : ByteArray) (r : ByteArray) (w : World) (h : L05_tame.f k a0 = some r) :
    Calls Tryd.prog 19 #[.string a0] w fun e w' => e = .returned (.string r) ∧ Drawn0 w w' := by
  have H : (L05_tame.l0 k a0 (⟨#[]⟩ : ByteArray) 0) = some r := h
  clear h
  have H' := Aside0.mk H
  clear H
  go_enter Tryd.func19, Tryd.ntmps19
  go_wp2
  go_loopg [3, 4] k (fun kq v3 v4 w' => ∃ (x3_1 : ByteArray) (x4_1 : Int), v3 = .string x3_1 ∧ v4 = .int .i64 x4_1 ∧ Aside0 (L05_tame.l0 kq a0 x3_1 x4_1 = some r) ∧ Aside0 (kq ≤ k) ∧ Drawn0 w w')
  case atStart => exact ⟨((⟨#[]⟩ : ByteArray)), (0), (by first | rfl | (simp; done) | (simp [*]; done)), (by first | rfl | (simp; done) | (simp [*]; done)), H', ⟨Nat.le_refl _⟩, by repeat (first | exact Drawn0.refl _ | apply Drawn0.step)⟩
  case round =>
    clear H'
    try clear c1
    obtain ⟨x3_1, x4_1, rfl, rfl, HA, HK1, ⟨m1, rfl⟩⟩ := hrel
    cases gk with
    | zero => exact absurd HA.out (by simp [L05_tame.l0])
    | succ k1 =>
      have H := HA.out
      clear HA
      simp only [L05_tame.l0] at H
      have HC2 := Aside0.mk H
      clear H
      go_upto_region 3 with (fail)
      go_cut [13] (fun v13 wc => ∃ (kq : Nat) (x13_1 : Bool), v13 = .bool x13_1 ∧ Aside0 (L05_tame.j1 kq a0 x3_1 x4_1 x13_1 = some r) ∧ Aside0 (kq ≤ k1) ∧ Drawn0 w wc)
      case first =>
        have H := HC2.out
        clear HC2
        by_cases c3 : x4_1 < (a0.size : Int)
        · rw [if_pos c3] at H
          have c3b0 : decide (x4_1 < (a0.size : Int)) = true := decide_eq_true c3
          clear c3
          (first | rw [c3b0] | (simp only [i64_w, i32_w]; rw [c3b0]) | skip)
          have H' := Aside0.mk H
          clear H
          go_wp2
          go_meet
          case rel => exact ⟨_, (decide ((x3_1.size : Int) < 12)), (by first | rfl | (simp; done) | (simp [*]; done)), H', ⟨by have := HK1.out; first | omega | exact Nat.le_refl _⟩, by repeat (first | exact Drawn0.refl _ | apply Drawn0.step)⟩
        · rw [if_neg c3] at H
          have c3b0 : decide (x4_1 < (a0.size : Int)) = false := decide_eq_false c3
          clear c3
          (first | rw [c3b0] | (simp only [i64_w, i32_w]; rw [c3b0]) | skip)
          have H' := Aside0.mk H
          clear H
          go_wp2
          go_meet
          case rel => exact ⟨_, (false), (by first | rfl | (simp; done) | (simp [*]; done)), H', ⟨by have := HK1.out; first | omega | exact Nat.le_refl _⟩, by repeat (first | exact Drawn0.refl _ | apply Drawn0.step)⟩
      case rest =>
        clear HC2
        try clear c1
        try clear p2
        try clear c3
        try clear c3b0
        obtain ⟨kq, x13_1, rfl, HA, HJ1, ⟨mc1, rfl⟩⟩ := hcut
        cases kq with
        | zero => exact absurd HA.out (by simp [L05_tame.j1])
        | succ kj1 =>
          have H := HA.out
          clear HA
          simp only [L05_tame.j1] at H
          by_cases c4 : x13_1 = true
          · subst c4
            have H1 : (if 0 ≤ x4_1 then (if x4_1 < (a0.size : Int) then (if (bt a0 x4_1) = 32 then (L05_tame.l0 kj1 a0 x3_1 (wrap64 (x4_1 + 1))) else (if (bt a0 x4_1) = 9 then (L05_tame.l0 kj1 a0 x3_1 (wrap64 (x4_1 + 1))) else (if (bt a0 x4_1) = 10 then (L05_tame.l0 kj1 a0 x3_1 (wrap64 (x4_1 + 1))) else (if (bt a0 x4_1) = 35 then (L05_tame.l0 kj1 a0 x3_1 (wrap64 (x4_1 + 1))) else (if x4_1 ≤ (wrap64 (x4_1 + 1)) then (if (wrap64 (x4_1 + 1)) ≤ (a0.size : Int) then (if x3_1.size + (a0.extract (x4_1 : Int).toNat ((wrap64 (x4_1 + 1)) : Int).toNat).size ≤ 9223372036854775807 then (L05_tame.l0 kj1 a0 (x3_1 ++ (a0.extract (x4_1 : Int).toNat ((wrap64 (x4_1 + 1)) : Int).toNat)) (wrap64 (x4_1 + 1))) else (none)) else (none)) else (none)))))) else (none)) else (none)) = some r := by rw [if_pos rfl] at H; exact H
            clear H
            have H := H1
            clear H1
            by_cases c5 : 0 ≤ x4_1
            · rw [if_pos c5] at H
              have c5b0 : decide (0 ≤ x4_1) = true := decide_eq_true c5
              clear c5
              by_cases c6 : x4_1 < (a0.size : Int)
              · rw [if_pos c6] at H
                have c6b0 : decide (x4_1 < (a0.size : Int)) = true := decide_eq_true c6
                clear c6
                by_cases c8 : (bt a0 x4_1) = 32
                · rw [if_pos c8] at H
                  have c8b0 : ((bt a0 x4_1) == 32) = true := beq_iff_eq.mpr c8
                  have c8b1 : ((bt a0 x4_1) != 32) = false := bne_eq_false_iff_eq.mpr c8
                  clear c8
                  have H' := Aside0.mk H
                  clear H
                  have p7 : 0 ≤ (x4_1 : Int) := of_decide_eq_true (by first | (with_reducible assumption) | assumption)
                  have q7 : x4_1 < (a0.size : Int) := of_decide_eq_true (by first | (with_reducible assumption) | assumption)
                  have hx7 := bt_at a0 x4_1
                  replace p7 := eq_true p7
                  replace q7 := eq_true q7
                  go_wp2
                  go_roundg kj1
                  case measure => have := HK1.out; have := HJ1.out; omega
                  case rel => exact ⟨(x3_1), (wrap64 (x4_1 + 1)), (by first | rfl | (simp; done) | (simp [*]; done)), (by first | rfl | (simp; done) | (simp [*]; done)), H', ⟨by have := HK1.out; have := HJ1.out; omega⟩, by repeat (first | exact Drawn0.refl _ | apply Drawn0.step)⟩
                · rw [if_neg c8] at H
                  have c8b0 : ((bt a0 x4_1) == 32) = false := beq_eq_false_iff_ne.mpr c8
                  have c8b1 : ((bt a0 x4_1) != 32) = true := bne_iff_ne.mpr c8
                  by_cases c10 : (bt a0 x4_1) = 9
                  · rw [if_pos c10] at H
                    have c10b0 : ((bt a0 x4_1) == 9) = true := beq_iff_eq.mpr c10
                    have c10b1 : ((bt a0 x4_1) != 9) = false := bne_eq_false_iff_eq.mpr c10
                    clear c10
                    have H' := Aside0.mk H
                    clear H
                    have p7 : 0 ≤ (x4_1 : Int) := of_decide_eq_true (by first | (with_reducible assumption) | assumption)
                    have q7 : x4_1 < (a0.size : Int) := of_decide_eq_true (by first | (with_reducible assumption) | assumption)
                    have hx7 := bt_at a0 x4_1
                    replace p7 := eq_true p7
                    replace q7 := eq_true q7
                    have p9 : 0 ≤ (x4_1 : Int) := of_decide_eq_true (by first | (with_reducible assumption) | assumption)
                    have q9 : x4_1 < (a0.size : Int) := of_decide_eq_true (by first | (with_reducible assumption) | assumption)
                    have hx9 := bt_at a0 x4_1
                    replace p9 := eq_true p9
                    replace q9 := eq_true q9
                    go_wp2
                    go_roundg kj1
                    case measure => have := HK1.out; have := HJ1.out; omega
                    case rel => exact ⟨(x3_1), (wrap64 (x4_1 + 1)), (by first | rfl | (simp; done) | (simp [*]; done)), (by first | rfl | (simp; done) | (simp [*]; done)), H', ⟨by have := HK1.out; have := HJ1.out; omega⟩, by repeat (first | exact Drawn0.refl _ | apply Drawn0.step)⟩
                  · rw [if_neg c10] at H
                    have c10b0 : ((bt a0 x4_1) == 9) = false := beq_eq_false_iff_ne.mpr c10
                    have c10b1 : ((bt a0 x4_1) != 9) = true := bne_iff_ne.mpr c10
                    by_cases c12 : (bt a0 x4_1) = 10
                    · rw [if_pos c12] at H
                      have c12b0 : ((bt a0 x4_1) == 10) = true := beq_iff_eq.mpr c12
                      have c12b1 : ((bt a0 x4_1) != 10) = false := bne_eq_false_iff_eq.mpr c12
                      clear c12
                      have H' := Aside0.mk H
                      clear H
                      have p7 : 0 ≤ (x4_1 : Int) := of_decide_eq_true (by first | (with_reducible assumption) | assumption)
                      have q7 : x4_1 < (a0.size : Int) := of_decide_eq_true (by first | (with_reducible assumption) | assumption)
                      have hx7 := bt_at a0 x4_1
                      replace p7 := eq_true p7
                      replace q7 := eq_true q7
                      have p9 : 0 ≤ (x4_1 : Int) := of_decide_eq_true (by first | (with_reducible assumption) | assumption)
                      have q9 : x4_1 < (a0.size : Int) := of_decide_eq_true (by first | (with_reducible assumption) | assumption)
                      have hx9 := bt_at a0 x4_1
                      replace p9 := eq_true p9
                      replace q9 := eq_true q9
                      have p11 : 0 ≤ (x4_1 : Int) := of_decide_eq_true (by first | (with_reducible assumption) | assumption)
                      have q11 : x4_1 < (a0.size : Int) := of_decide_eq_true (by first | (with_reducible assumption) | assumption)
                      have hx11 := bt_at a0 x4_1
                      replace p11 := eq_true p11
                      replace q11 := eq_true q11
                      go_wp2
                      go_roundg kj1
                      case measure => have := HK1.out; have := HJ1.out; omega
                      case rel => exact ⟨(x3_1), (wrap64 (x4_1 + 1)), (by first | rfl | (simp; done) | (simp [*]; done)), (by first | rfl | (simp; done) | (simp [*]; done)), H', ⟨by have := HK1.out; have := HJ1.out; omega⟩, by repeat (first | exact Drawn0.refl _ | apply Drawn0.step)⟩
                    · rw [if_neg c12] at H
                      have c12b0 : ((bt a0 x4_1) == 10) = false := beq_eq_false_iff_ne.mpr c12
                      have c12b1 : ((bt a0 x4_1) != 10) = true := bne_iff_ne.mpr c12
                      by_cases c14 : (bt a0 x4_1) = 35
                      · rw [if_pos c14] at H
                        have c14b0 : ((bt a0 x4_1) == 35) = true := beq_iff_eq.mpr c14
                        have c14b1 : ((bt a0 x4_1) != 35) = false := bne_eq_false_iff_eq.mpr c14
                        clear c14
                        have H' := Aside0.mk H
                        clear H
                        have p7 : 0 ≤ (x4_1 : Int) := of_decide_eq_true (by first | (with_reducible assumption) | assumption)
                        have q7 : x4_1 < (a0.size : Int) := of_decide_eq_true (by first | (with_reducible assumption) | assumption)
                        have hx7 := bt_at a0 x4_1
                        replace p7 := eq_true p7
                        replace q7 := eq_true q7
                        have p9 : 0 ≤ (x4_1 : Int) := of_decide_eq_true (by first | (with_reducible assumption) | assumption)
                        have q9 : x4_1 < (a0.size : Int) := of_decide_eq_true (by first | (with_reducible assumption) | assumption)
                        have hx9 := bt_at a0 x4_1
                        replace p9 := eq_true p9
                        replace q9 := eq_true q9
                        have p11 : 0 ≤ (x4_1 : Int) := of_decide_eq_true (by first | (with_reducible assumption) | assumption)
                        have q11 : x4_1 < (a0.size : Int) := of_decide_eq_true (by first | (with_reducible assumption) | assumption)
                        have hx11 := bt_at a0 x4_1
                        replace p11 := eq_true p11
                        replace q11 := eq_true q11
                        have p13 : 0 ≤ (x4_1 : Int) := of_decide_eq_true (by first | (with_reducible assumption) | assumption)
                        have q13 : x4_1 < (a0.size : Int) := of_decide_eq_true (by first | (with_reducible assumption) | assumption)
                        have hx13 := bt_at a0 x4_1
                        replace p13 := eq_true p13
                        replace q13 := eq_true q13
                        go_wp2
                        go_roundg kj1
                        case measure => have := HK1.out; have := HJ1.out; omega
                        case rel => exact ⟨(x3_1), (wrap64 (x4_1 + 1)), (by first | rfl | (simp; done) | (simp [*]; done)), (by first | rfl | (simp; done) | (simp [*]; done)), H', ⟨by have := HK1.out; have := HJ1.out; omega⟩, by repeat (first | exact Drawn0.refl _ | apply Drawn0.step)⟩
                      · rw [if_neg c14] at H
                        have c14b0 : ((bt a0 x4_1) == 35) = false := beq_eq_false_iff_ne.mpr c14
                        have c14b1 : ((bt a0 x4_1) != 35) = true := bne_iff_ne.mpr c14
                        have c15b0 := eq_true (of_decide_eq_true (by first | (with_reducible assumption) | assumption) : 0 ≤ x4_1)
                        by_cases c16 : x4_1 ≤ (wrap64 (x4_1 + 1))
                        · rw [if_pos c16] at H
                          have c16b0 := eq_true c16
                          have c16b1 : decide (x4_1 ≤ (wrap64 (x4_1 + 1))) = true := decide_eq_true c16
                          by_cases c17 : (wrap64 (x4_1 + 1)) ≤ (a0.size : Int)
                          · rw [if_pos c17] at H
                            have c17b0 := eq_true c17
                            have c17b1 : decide ((wrap64 (x4_1 + 1)) ≤ (a0.size : Int)) = true := decide_eq_true c17
                            by_cases c18 : x3_1.size + (a0.extract (x4_1 : Int).toNat ((wrap64 (x4_1 + 1)) : Int).toNat).size ≤ 9223372036854775807
                            · rw [if_pos c18] at H
                              have c18b0 := eq_true c18
                              have c18b1 : decide (x3_1.size + (a0.extract (x4_1 : Int).toNat ((wrap64 (x4_1 + 1)) : Int).toNat).size ≤ 9223372036854775807) = true := decide_eq_true c18
                              try have c18b2 : (9223372036854775807 < x3_1.size + (a0.extract (x4_1 : Int).toNat ((wrap64 (x4_1 + 1)) : Int).toNat).size) = False := eq_false (Nat.not_lt.2 c18)
                              have H' := Aside0.mk H
                              clear H
                              have p7 : 0 ≤ (x4_1 : Int) := of_decide_eq_true (by first | (with_reducible assumption) | assumption)
                              have q7 : x4_1 < (a0.size : Int) := of_decide_eq_true (by first | (with_reducible assumption) | assumption)
                              have hx7 := bt_at a0 x4_1
                              replace p7 := eq_true p7
                              replace q7 := eq_true q7
                              have p9 : 0 ≤ (x4_1 : Int) := of_decide_eq_true (by first | (with_reducible assumption) | assumption)
                              have q9 : x4_1 < (a0.size : Int) := of_decide_eq_true (by first | (with_reducible assumption) | assumption)
                              have hx9 := bt_at a0 x4_1
                              replace p9 := eq_true p9
                              replace q9 := eq_true q9
                              have p11 : 0 ≤ (x4_1 : Int) := of_decide_eq_true (by first | (with_reducible assumption) | assumption)
                              have q11 : x4_1 < (a0.size : Int) := of_decide_eq_true (by first | (with_reducible assumption) | assumption)
                              have hx11 := bt_at a0 x4_1
                              replace p11 := eq_true p11
                              replace q11 := eq_true q11
                              have p13 : 0 ≤ (x4_1 : Int) := of_decide_eq_true (by first | (with_reducible assumption) | assumption)
                              have q13 : x4_1 < (a0.size : Int) := of_decide_eq_true (by first | (with_reducible assumption) | assumption)
                              have hx13 := bt_at a0 x4_1
                              replace p13 := eq_true p13
                              replace q13 := eq_true q13
                              go_wp2
                              go_roundg kj1
                              case measure => have := HK1.out; have := HJ1.out; omega
                              case rel => exact ⟨(x3_1 ++ (a0.extract (x4_1 : Int).toNat ((wrap64 (x4_1 + 1)) : Int).toNat)), (wrap64 (x4_1 + 1)), (by first | rfl | (simp; done) | (simp [*]; done)), (by first | rfl | (simp; done) | (simp [*]; done)), H', ⟨by have := HK1.out; have := HJ1.out; omega⟩, by repeat (first | exact Drawn0.refl _ | apply Drawn0.step)⟩
                            · rw [if_neg c18] at H
                              exact absurd H (by simp)
                          · rw [if_neg c17] at H
                            exact absurd H (by simp)
                        · rw [if_neg c16] at H
                          exact absurd H (by simp)
              · rw [if_neg c6] at H
                exact absurd H (by simp)
            · rw [if_neg c5] at H
              exact absurd H (by simp)
          · replace c4 := Bool.eq_false_iff.mpr c4
            subst c4
            have H1 : (if x3_1.toList = ([] : List UInt8) then (some (⟨#[120]⟩ : ByteArray)) else (some x3_1)) = some r := by rw [if_neg (show ¬ (false = true) by decide)] at H; exact H
            clear H
            have H := H1
            clear H1
            by_cases c19 : x3_1.toList = ([] : List UInt8)
            · rw [if_pos c19] at H
              have c19b0 : (x3_1.toList == ([] : List UInt8)) = true := beq_iff_eq.mpr c19
              have c19b1 : (x3_1.toList != ([] : List UInt8)) = false := bne_eq_false_iff_eq.mpr c19
              clear c19
              obtain rfl := Option.some.inj H
              go_wp2
              go_ret
              exact ⟨by first | rfl | (simp; done) | (simp [*]; done), by repeat (first | exact Drawn0.refl _ | apply Drawn0.step)⟩
            · rw [if_neg c19] at H
              have c19b0 : (x3_1.toList == ([] : List UInt8)) = false := beq_eq_false_iff_ne.mpr c19
              have c19b1 : (x3_1.toList != ([] : List UInt8)) = true := bne_iff_ne.mpr c19
              obtain rfl := Option.some.inj H
              go_wp2
              go_ret
              exact ⟨by first | rfl | (simp; done) | (simp [*]; done), by repeat (first | exact Drawn0.refl _ | apply Drawn0.step)⟩

/-! ### L05_texts: function 20 -/
mutual
def L05_texts.l0 : Nat → List (List (S35)) → List (List (S35)) → Int → Option (Bool)
  | 0, _, _, _ => none
  | k + 1, x0, x1, x5 => if x5 < (x0.length : Int) then (if 0 ≤ x5 then (if x5 < (x1.length : Int) then (if ((rd_L5 x0 x5).length : Int) = ((rd_L5 x1 x5).length : Int) then (L05_texts.l1 k x0 x1 x5 0) else (some false)) else (none)) else (none)) else (some true)
def L05_texts.l1 : Nat → List (List (S35)) → List (List (S35)) → Int → Int → Option (Bool)
  | 0, _, _, _, _ => none
  | k + 1, x0, x1, x5, x6 => if 0 ≤ x5 then (if x5 < (x0.length : Int) then (if x6 < ((rd_L5 x0 x5).length : Int) then (if 0 ≤ x6 then (if x5 < (x1.length : Int) then (if x6 < ((rd_L5 x1 x5).length : Int) then (if ((rd_T35 (rd_L5 x0 x5) x6).f2).toList = ((rd_T35 (rd_L5 x1 x5) x6).f2).toList then (L05_texts.l1 k x0 x1 x5 (wrap64 (x6 + 1))) else (some false)) else (none)) else (none)) else (none)) else (L05_texts.l0 k x0 x1 (wrap64 (x5 + 1)))) else (none)) else (none)
end
def L05_texts.f (k : Nat) (l0 : List (List (S35))) (l1 : List (List (S35))) : Option (Bool) := if (l0.length : Int) = (l1.length : Int) then (L05_texts.l0 k l0 l1 0) else (some false)
theorem L05_texts.mono_l : ∀ k, (∀ y0 y1 y2, LeO (L05_texts.l0 k y0 y1 y2) (L05_texts.l0 (k + 1) y0 y1 y2)) ∧ (∀ y0 y1 y2 y3, LeO (L05_texts.l1 k y0 y1 y2 y3) (L05_texts.l1 (k + 1) y0 y1 y2 y3))
  | 0 => ⟨fun _ _ _ r h => by simp [L05_texts.l0] at h, fun _ _ _ _ r h => by simp [L05_texts.l1] at h⟩
  | k + 1 => by
    obtain ⟨ih0, ih1⟩ := L05_texts.mono_l k
    refine ⟨?_, ?_⟩
    · intro y0 y1 y2
      unfold L05_texts.l0
      repeat' first
      | (with_reducible exact ih0 _ _ _)
      | (with_reducible exact ih1 _ _ _ _)
      | (with_reducible exact LeO.refl _)
      | (with_reducible exact LeO.none _)
      | (with_reducible refine LeO.ite ?_ ?_)
      | (with_reducible refine LeO.bind ?_ (fun _ => ?_))
      | exact ih0 _ _ _
      | exact ih1 _ _ _ _
      | exact LeO.none _
      | refine LeO.ite ?_ ?_
      | refine LeO.bind ?_ (fun _ => ?_)
    · intro y0 y1 y2 y3
      unfold L05_texts.l1
      repeat' first
      | (with_reducible exact ih0 _ _ _)
      | (with_reducible exact ih1 _ _ _ _)
      | (with_reducible exact LeO.refl _)
      | (with_reducible exact LeO.none _)
      | (with_reducible refine LeO.ite ?_ ?_)
      | (with_reducible refine LeO.bind ?_ (fun _ => ?_))
      | exact ih0 _ _ _
      | exact ih1 _ _ _ _
      | exact LeO.none _
      | refine LeO.ite ?_ ?_
      | refine LeO.bind ?_ (fun _ => ?_)
theorem L05_texts.mono : ∀ a0 a1 k, LeO (L05_texts.f k a0 a1) (L05_texts.f (k + 1) a0 a1) := by
  intro a0 a1 k
  obtain ⟨ih0, ih1⟩ := L05_texts.mono_l k
  unfold L05_texts.f
  repeat' first
      | (with_reducible exact ih0 _ _ _)
      | (with_reducible exact ih1 _ _ _ _)
      | (with_reducible exact LeO.refl _)
      | (with_reducible exact LeO.none _)
      | (with_reducible refine LeO.ite ?_ ?_)
      | (with_reducible refine LeO.bind ?_ (fun _ => ?_))
      | exact ih0 _ _ _
      | exact ih1 _ _ _ _
      | exact LeO.none _
      | refine LeO.ite ?_ ?_
      | refine LeO.bind ?_ (fun _ => ?_)
set_option maxHeartbeats 8000000 in
set_option maxRecDepth 100000 in
theorem L05_texts.calls (k : Nat) (A0 : Option Addr) (c0 : Nat) (l0 : List (List (S35))) (A1 : Option Addr) (c1 : Nat) (l1 : List (List (S35))) (r : Bool) (w : World) (hr0 : Kd.C (Kd.slice 35 k35) w A0 l0.length l0) (hc0 : l0.length ≤ c0) (hr1 : Kd.C (Kd.slice 35 k35) w A1 l1.length l1) (hc1 : l1.length ≤ c1) (h : L05_texts.f k l0 l1 = some r) :
    Calls Tryd.prog 20 #[.slice A0 l0.length c0, .slice A1 l1.length c1] w fun e w' => e = .returned (.bool r) ∧ Drawn0 w w' := by
  have HR0 := Aside0.mk hr0
  have HC0 := Aside0.mk hc0
  clear hr0 hc0
  have HR1 := Aside0.mk hr1
  have HC1 := Aside0.mk hc1
  clear hr1 hc1
  have H : (if (l0.length : Int) = (l1.length : Int) then (L05_texts.l0 k l0 l1 0) else (some false)) = some r := h
  clear h
  by_cases c3 : (l0.length : Int) = (l1.length : Int)
  · rw [if_pos c3] at H
    have c3b0 : ((l0.length : Int) == (l1.length : Int)) = true := beq_iff_eq.mpr c3
    have c3b1 : ((l0.length : Int) != (l1.length : Int)) = false := bne_eq_false_iff_eq.mpr c3
    have c3b2 : (l0.length == l1.length) = true := by first | simpa using c3 | (simp at c3 ⊢; omega)
    clear c3
    have H' := Aside0.mk H
    clear H
    go_enter Tryd.func20, Tryd.ntmps20
    go_wp2
    repeat (go_quiet (fail); try go_wp2)
    go_loopg [5] k (fun kq v5 w' => ∃ (x5_1 : Int), v5 = .int .i64 x5_1 ∧ Aside0 (L05_texts.l0 kq l0 l1 x5_1 = some r) ∧ Aside0 (kq ≤ k) ∧ Drawn0 w w')
    case atStart => exact ⟨(0), (by first | rfl | (simp; done) | (simp [*]; done)), H', ⟨Nat.le_refl _⟩, by repeat (first | exact Drawn0.refl _ | apply Drawn0.step)⟩
    case round =>
      clear H'
      try clear c1
      try clear c2
      try clear p2
      try clear c3
      try clear c3b0
      try clear c3b1
      try clear c3b2
      obtain ⟨x5_1, rfl, HA, HK1, ⟨m1, rfl⟩⟩ := hrel
      cases gk with
      | zero => exact absurd HA.out (by simp [L05_texts.l0])
      | succ k1 =>
        have H := HA.out
        clear HA
        simp only [L05_texts.l0] at H
        by_cases c4 : x5_1 < (l0.length : Int)
        · rw [if_pos c4] at H
          have c4b0 : decide (x5_1 < (l0.length : Int)) = true := decide_eq_true c4
          clear c4
          by_cases c5 : 0 ≤ x5_1
          · rw [if_pos c5] at H
            have c5b0 : decide (0 ≤ x5_1) = true := decide_eq_true c5
            clear c5
            by_cases c6 : x5_1 < (l1.length : Int)
            · rw [if_pos c6] at H
              have c6b0 : decide (x5_1 < (l1.length : Int)) = true := decide_eq_true c6
              clear c6
              by_cases c7 : ((rd_L5 l0 x5_1).length : Int) = ((rd_L5 l1 x5_1).length : Int)
              · rw [if_pos c7] at H
                have c7b0 : (((rd_L5 l0 x5_1).length : Int) == ((rd_L5 l1 x5_1).length : Int)) = true := beq_iff_eq.mpr c7
                have c7b1 : (((rd_L5 l0 x5_1).length : Int) != ((rd_L5 l1 x5_1).length : Int)) = false := bne_eq_false_iff_eq.mpr c7
                have c7b2 : ((rd_L5 l0 x5_1).length == (rd_L5 l1 x5_1).length) = true := by first | simpa using c7 | (simp at c7 ⊢; omega)
                clear c7
                have H' := Aside0.mk H
                clear H
                have p239 : 0 ≤ (x5_1 : Int) := of_decide_eq_true (by first | (with_reducible assumption) | assumption)
                have q239 : x5_1 < (l0.length : Int) := of_decide_eq_true (by first | (with_reducible assumption) | assumption)
                obtain ⟨ad239, A239_0, c239_0, e239, hx239_0, hl239_0, hi239_0⟩ := at_L5 HR0.out x5_1 p239 q239
                cases e239
                have HR239_0 := Aside0.mk hi239_0
                have HC239_0 := Aside0.mk hl239_0
                clear hi239_0 hl239_0
                replace p239 := eq_true p239
                replace q239 := eq_true q239
                have p240 : 0 ≤ (x5_1 : Int) := of_decide_eq_true (by first | (with_reducible assumption) | assumption)
                have q240 : x5_1 < (l1.length : Int) := of_decide_eq_true (by first | (with_reducible assumption) | assumption)
                obtain ⟨ad240, A240_0, c240_0, e240, hx240_0, hl240_0, hi240_0⟩ := at_L5 HR1.out x5_1 p240 q240
                cases e240
                have HR240_0 := Aside0.mk hi240_0
                have HC240_0 := Aside0.mk hl240_0
                clear hi240_0 hl240_0
                replace p240 := eq_true p240
                replace q240 := eq_true q240
                go_wp2
                repeat (go_quiet (fail); try go_wp2)
                go_loopg [6] k1 (fun kq v6 w' => ∃ (x6_2 : Int), v6 = .int .i64 x6_2 ∧ Aside0 (L05_texts.l1 kq l0 l1 x5_1 x6_2 = some r) ∧ Aside0 (kq ≤ k1) ∧ Drawn0 w w')
                case atStart => exact ⟨(0), (by first | rfl | (simp; done) | (simp [*]; done)), H', ⟨Nat.le_refl _⟩, by repeat (first | exact Drawn0.refl _ | apply Drawn0.step)⟩
                case round =>
                  clear H'
                  try clear c1
                  try clear c2
                  try clear p2
                  try clear q2
                  try clear hx2
                  try clear c3
                  try clear c3b0
                  try clear c3b1
                  try clear c3b2
                  try clear c4
                  try clear c4b0
                  try clear c5
                  try clear c5b0
                  try clear c6
                  try clear c6b0
                  try clear c7
                  try clear c7b0
                  try clear c7b1
                  try clear c7b2
                  try clear hx239_0
                  try clear hx240_0
                  try clear p2
                  try clear p239
                  try clear p240
                  try clear q239
                  try clear q240
                  obtain ⟨x6_2, rfl, HA, HK2, ⟨m2, rfl⟩⟩ := hrel
                  cases gk with
                  | zero => exact absurd HA.out (by simp [L05_texts.l1])
                  | succ k2 =>
                    have H := HA.out
                    clear HA
                    simp only [L05_texts.l1] at H
                    by_cases c8 : 0 ≤ x5_1
                    · rw [if_pos c8] at H
                      have c8b0 : decide (0 ≤ x5_1) = true := decide_eq_true c8
                      clear c8
                      by_cases c9 : x5_1 < (l0.length : Int)
                      · rw [if_pos c9] at H
                        have c9b0 : decide (x5_1 < (l0.length : Int)) = true := decide_eq_true c9
                        clear c9
                        by_cases c10 : x6_2 < ((rd_L5 l0 x5_1).length : Int)
                        · rw [if_pos c10] at H
                          have c10b0 : decide (x6_2 < ((rd_L5 l0 x5_1).length : Int)) = true := decide_eq_true c10
                          clear c10
                          by_cases c11 : 0 ≤ x6_2
                          · rw [if_pos c11] at H
                            have c11b0 : decide (0 ≤ x6_2) = true := decide_eq_true c11
                            clear c11
                            by_cases c12 : x5_1 < (l1.length : Int)
                            · rw [if_pos c12] at H
                              have c12b0 : decide (x5_1 < (l1.length : Int)) = true := decide_eq_true c12
                              clear c12
                              by_cases c13 : x6_2 < ((rd_L5 l1 x5_1).length : Int)
                              · rw [if_pos c13] at H
                                have c13b0 : decide (x6_2 < ((rd_L5 l1 x5_1).length : Int)) = true := decide_eq_true c13
                                clear c13
                                by_cases c14 : ((rd_T35 (rd_L5 l0 x5_1) x6_2).f2).toList = ((rd_T35 (rd_L5 l1 x5_1) x6_2).f2).toList
                                · rw [if_pos c14] at H
                                  have c14b0 : (((rd_T35 (rd_L5 l0 x5_1) x6_2).f2).toList == ((rd_T35 (rd_L5 l1 x5_1) x6_2).f2).toList) = true := beq_iff_eq.mpr c14
                                  have c14b1 : (((rd_T35 (rd_L5 l0 x5_1) x6_2).f2).toList != ((rd_T35 (rd_L5 l1 x5_1) x6_2).f2).toList) = false := bne_eq_false_iff_eq.mpr c14
                                  clear c14
                                  have H' := Aside0.mk H
                                  clear H
                                  have p241 : 0 ≤ (x5_1 : Int) := of_decide_eq_true (by first | (with_reducible assumption) | assumption)
                                  have q241 : x5_1 < (l0.length : Int) := of_decide_eq_true (by first | (with_reducible assumption) | assumption)
                                  obtain ⟨ad241, A241_0, c241_0, e241, hx241_0, hl241_0, hi241_0⟩ := at_L5 HR0.out x5_1 p241 q241
                                  obtain rfl : ad239 = ad241 := (by injection e241)
                                  have HR241_0 := Aside0.mk hi241_0
                                  have HC241_0 := Aside0.mk hl241_0
                                  clear hi241_0 hl241_0
                                  replace p241 := eq_true p241
                                  replace q241 := eq_true q241
                                  have p242 : 0 ≤ (x5_1 : Int) := of_decide_eq_true (by first | (with_reducible assumption) | assumption)
                                  have q242 : x5_1 < (l0.length : Int) := of_decide_eq_true (by first | (with_reducible assumption) | assumption)
                                  obtain ⟨ad242, A242_0, c242_0, e242, hx242_0, hl242_0, hi242_0⟩ := at_L5 HR0.out x5_1 p242 q242
                                  obtain rfl : ad239 = ad242 := (by injection e242)
                                  have HR242_0 := Aside0.mk hi242_0
                                  have HC242_0 := Aside0.mk hl242_0
                                  clear hi242_0 hl242_0
                                  replace p242 := eq_true p242
                                  replace q242 := eq_true q242
                                  have ea_ := Option.some.inj (hx241_0.symm.trans hx242_0)
                                  injection ea_ with ea_ en_ ec_
                                  subst ea_
                                  subst ec_
                                  clear en_
                                  have p243 : 0 ≤ (x6_2 : Int) := of_decide_eq_true (by first | (with_reducible assumption) | assumption)
                                  have q243 : x6_2 < ((rd_L5 l0 x5_1).length : Int) := of_decide_eq_true (by first | (with_reducible assumption) | assumption)
                                  obtain ⟨ad243, e243, hx243_0, hx243_1, hx243_2⟩ := at_T35 HR242_0.out x6_2 p243 q243
                                  cases e243
                                  replace p243 := eq_true p243
                                  replace q243 := eq_true q243
                                  have p244 : 0 ≤ (x5_1 : Int) := of_decide_eq_true (by first | (with_reducible assumption) | assumption)
                                  have q244 : x5_1 < (l1.length : Int) := of_decide_eq_true (by first | (with_reducible assumption) | assumption)
                                  obtain ⟨ad244, A244_0, c244_0, e244, hx244_0, hl244_0, hi244_0⟩ := at_L5 HR1.out x5_1 p244 q244
                                  obtain rfl : ad240 = ad244 := (by injection e244)
                                  have HR244_0 := Aside0.mk hi244_0
                                  have HC244_0 := Aside0.mk hl244_0
                                  clear hi244_0 hl244_0
                                  replace p244 := eq_true p244
                                  replace q244 := eq_true q244
                                  have p245 : 0 ≤ (x6_2 : Int) := of_decide_eq_true (by first | (with_reducible assumption) | assumption)
                                  have q245 : x6_2 < ((rd_L5 l1 x5_1).length : Int) := of_decide_eq_true (by first | (with_reducible assumption) | assumption)
                                  obtain ⟨ad245, e245, hx245_0, hx245_1, hx245_2⟩ := at_T35 HR244_0.out x6_2 p245 q245
                                  cases e245
                                  replace p245 := eq_true p245
                                  replace q245 := eq_true q245
                                  go_wp2
                                  repeat (go_quiet (fail); try go_wp2)
                                  go_roundg k2
                                  case measure => have := HK1.out; have := HK2.out; omega
                                  case rel => exact ⟨(wrap64 (x6_2 + 1)), (by first | rfl | (simp; done) | (simp [*]; done)), H', ⟨by have := HK1.out; have := HK2.out; omega⟩, by repeat (first | exact Drawn0.refl _ | apply Drawn0.step)⟩
                                · rw [if_neg c14] at H
                                  have c14b0 : (((rd_T35 (rd_L5 l0 x5_1) x6_2).f2).toList == ((rd_T35 (rd_L5 l1 x5_1) x6_2).f2).toList) = false := beq_eq_false_iff_ne.mpr c14
                                  have c14b1 : (((rd_T35 (rd_L5 l0 x5_1) x6_2).f2).toList != ((rd_T35 (rd_L5 l1 x5_1) x6_2).f2).toList) = true := bne_iff_ne.mpr c14
                                  obtain rfl := Option.some.inj H
                                  have p241 : 0 ≤ (x5_1 : Int) := of_decide_eq_true (by first | (with_reducible assumption) | assumption)
                                  have q241 : x5_1 < (l0.length : Int) := of_decide_eq_true (by first | (with_reducible assumption) | assumption)
                                  obtain ⟨ad241, A241_0, c241_0, e241, hx241_0, hl241_0, hi241_0⟩ := at_L5 HR0.out x5_1 p241 q241
                                  obtain rfl : ad239 = ad241 := (by injection e241)
                                  have HR241_0 := Aside0.mk hi241_0
                                  have HC241_0 := Aside0.mk hl241_0
                                  clear hi241_0 hl241_0
                                  replace p241 := eq_true p241
                                  replace q241 := eq_true q241
                                  have p242 : 0 ≤ (x5_1 : Int) := of_decide_eq_true (by first | (with_reducible assumption) | assumption)
                                  have q242 : x5_1 < (l0.length : Int) := of_decide_eq_true (by first | (with_reducible assumption) | assumption)
                                  obtain ⟨ad242, A242_0, c242_0, e242, hx242_0, hl242_0, hi242_0⟩ := at_L5 HR0.out x5_1 p242 q242
                                  obtain rfl : ad239 = ad242 := (by injection e242)
                                  have HR242_0 := Aside0.mk hi242_0
                                  have HC242_0 := Aside0.mk hl242_0
                                  clear hi242_0 hl242_0
                                  replace p242 := eq_true p242
                                  replace q242 := eq_true q242
                                  have ea_ := Option.some.inj (hx241_0.symm.trans hx242_0)
                                  injection ea_ with ea_ en_ ec_
                                  subst ea_
                                  subst ec_
                                  clear en_
                                  have p243 : 0 ≤ (x6_2 : Int) := of_decide_eq_true (by first | (with_reducible assumption) | assumption)
                                  have q243 : x6_2 < ((rd_L5 l0 x5_1).length : Int) := of_decide_eq_true (by first | (with_reducible assumption) | assumption)
                                  obtain ⟨ad243, e243, hx243_0, hx243_1, hx243_2⟩ := at_T35 HR242_0.out x6_2 p243 q243
                                  cases e243
                                  replace p243 := eq_true p243
                                  replace q243 := eq_true q243
                                  have p244 : 0 ≤ (x5_1 : Int) := of_decide_eq_true (by first | (with_reducible assumption) | assumption)
                                  have q244 : x5_1 < (l1.length : Int) := of_decide_eq_true (by first | (with_reducible assumption) | assumption)
                                  obtain ⟨ad244, A244_0, c244_0, e244, hx244_0, hl244_0, hi244_0⟩ := at_L5 HR1.out x5_1 p244 q244
                                  obtain rfl : ad240 = ad244 := (by injection e244)
                                  have HR244_0 := Aside0.mk hi244_0
                                  have HC244_0 := Aside0.mk hl244_0
                                  clear hi244_0 hl244_0
                                  replace p244 := eq_true p244
                                  replace q244 := eq_true q244
                                  have p245 : 0 ≤ (x6_2 : Int) := of_decide_eq_true (by first | (with_reducible assumption) | assumption)
                                  have q245 : x6_2 < ((rd_L5 l1 x5_1).length : Int) := of_decide_eq_true (by first | (with_reducible assumption) | assumption)
                                  obtain ⟨ad245, e245, hx245_0, hx245_1, hx245_2⟩ := at_T35 HR244_0.out x6_2 p245 q245
                                  cases e245
                                  replace p245 := eq_true p245
                                  replace q245 := eq_true q245
                                  go_wp2
                                  repeat (go_quiet (fail); try go_wp2)
                                  go_ret
                                  exact ⟨by first | rfl | (simp; done) | (simp [*]; done), by repeat (first | exact Drawn0.refl _ | apply Drawn0.step)⟩
                              · rw [if_neg c13] at H
                                exact absurd H (by simp)
                            · rw [if_neg c12] at H
                              exact absurd H (by simp)
                          · rw [if_neg c11] at H
                            exact absurd H (by simp)
                        · rw [if_neg c10] at H
                          have c10b0 : decide (x6_2 < ((rd_L5 l0 x5_1).length : Int)) = false := decide_eq_false c10
                          clear c10
                          have H' := Aside0.mk H
                          clear H
                          have p241 : 0 ≤ (x5_1 : Int) := of_decide_eq_true (by first | (with_reducible assumption) | assumption)
                          have q241 : x5_1 < (l0.length : Int) := of_decide_eq_true (by first | (with_reducible assumption) | assumption)
                          obtain ⟨ad241, A241_0, c241_0, e241, hx241_0, hl241_0, hi241_0⟩ := at_L5 HR0.out x5_1 p241 q241
                          obtain rfl : ad239 = ad241 := (by injection e241)
                          have HR241_0 := Aside0.mk hi241_0
                          have HC241_0 := Aside0.mk hl241_0
                          clear hi241_0 hl241_0
                          replace p241 := eq_true p241
                          replace q241 := eq_true q241
                          go_wp2
                          repeat (go_quiet (fail); try go_wp2)
                          go_roundg k2
                          case measure => have := HK1.out; have := HK2.out; omega
                          case rel => exact ⟨(wrap64 (x5_1 + 1)), (by first | rfl | (simp; done) | (simp [*]; done)), H', ⟨by have := HK1.out; have := HK2.out; omega⟩, by repeat (first | exact Drawn0.refl _ | apply Drawn0.step)⟩
                      · rw [if_neg c9] at H
                        exact absurd H (by simp)
                    · rw [if_neg c8] at H
                      exact absurd H (by simp)
              · rw [if_neg c7] at H
                have c7b0 : (((rd_L5 l0 x5_1).length : Int) == ((rd_L5 l1 x5_1).length : Int)) = false := beq_eq_false_iff_ne.mpr c7
                have c7b1 : (((rd_L5 l0 x5_1).length : Int) != ((rd_L5 l1 x5_1).length : Int)) = true := bne_iff_ne.mpr c7
                have c7b2 : ((rd_L5 l0 x5_1).length == (rd_L5 l1 x5_1).length) = false := by first | simpa using c7 | (simp at c7 ⊢; omega)
                obtain rfl := Option.some.inj H
                have p239 : 0 ≤ (x5_1 : Int) := of_decide_eq_true (by first | (with_reducible assumption) | assumption)
                have q239 : x5_1 < (l0.length : Int) := of_decide_eq_true (by first | (with_reducible assumption) | assumption)
                obtain ⟨ad239, A239_0, c239_0, e239, hx239_0, hl239_0, hi239_0⟩ := at_L5 HR0.out x5_1 p239 q239
                cases e239
                have HR239_0 := Aside0.mk hi239_0
                have HC239_0 := Aside0.mk hl239_0
                clear hi239_0 hl239_0
                replace p239 := eq_true p239
                replace q239 := eq_true q239
                have p240 : 0 ≤ (x5_1 : Int) := of_decide_eq_true (by first | (with_reducible assumption) | assumption)
                have q240 : x5_1 < (l1.length : Int) := of_decide_eq_true (by first | (with_reducible assumption) | assumption)
                obtain ⟨ad240, A240_0, c240_0, e240, hx240_0, hl240_0, hi240_0⟩ := at_L5 HR1.out x5_1 p240 q240
                cases e240
                have HR240_0 := Aside0.mk hi240_0
                have HC240_0 := Aside0.mk hl240_0
                clear hi240_0 hl240_0
                replace p240 := eq_true p240
                replace q240 := eq_true q240
                go_wp2
                repeat (go_quiet (fail); try go_wp2)
                go_ret
                exact ⟨by first | rfl | (simp; done) | (simp [*]; done), by repeat (first | exact Drawn0.refl _ | apply Drawn0.step)⟩
            · rw [if_neg c6] at H
              exact absurd H (by simp)
          · rw [if_neg c5] at H
            exact absurd H (by simp)
        · rw [if_neg c4] at H
          have c4b0 : decide (x5_1 < (l0.length : Int)) = false := decide_eq_false c4
          clear c4
          obtain rfl := Option.some.inj H
          go_wp2
          repeat (go_quiet (fail); try go_wp2)
          go_ret
          exact ⟨by first | rfl | (simp; done) | (simp [*]; done), by repeat (first | exact Drawn0.refl _ | apply Drawn0.step)⟩
  · rw [if_neg c3] at H
    have c3b0 : ((l0.length : Int) == (l1.length : Int)) = false := beq_eq_false_iff_ne.mpr c3
    have c3b1 : ((l0.length : Int) != (l1.length : Int)) = true := bne_iff_ne.mpr c3
    have c3b2 : (l0.length == l1.length) = false := by first | simpa using c3 | (simp at c3 ⊢; omega)
    obtain rfl := Option.some.inj H
    go_enter Tryd.func20, Tryd.ntmps20
    go_wp2
    repeat (go_quiet (fail); try go_wp2)
    go_ret
    exact ⟨by first | rfl | (simp; done) | (simp [*]; done), by repeat (first | exact Drawn0.refl _ | apply Drawn0.step)⟩

end Go.Proofs.YtenjohemplgnmaaDoor.P
