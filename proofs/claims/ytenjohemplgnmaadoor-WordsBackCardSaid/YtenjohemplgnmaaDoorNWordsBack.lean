/- The walk of WordsBack. -/
import Derived.Test.YtenjohemplgnmaaDoorHBack
import Derived.Test.YtenjohemplgnmaaDoorHTexts
namespace Go.Proofs.YtenjohemplgnmaaDoor.P
open Go.RowKit Go.Proofs.YtenjohemplgnmaaDoorW.PrintWords Go.Proofs.YtenjohemplgnmaaDoorW.PrintLast Go.Proofs.YtenjohemplgnmaaDoorW.PrintMore
attribute [local go_sem] max2_int min2_int max_two min_two max_three min_three max_four min_four   -- for this text's walks alone
set_option linter.unusedVariables false
set_option linter.unusedSimpArgs false

def eight : ByteArray := ⟨#[32, 32, 32, 32, 32, 32, 32, 32]⟩
theorem eight_size : eight.size = 8 := rfl
theorem eight_blanks (k : Nat) (h0 : 0 < k) (h8 : k ≤ 8) : Blanks (eight.extract 0 k) ∧ (eight.extract 0 k).size ≤ 8 := by
  have hs : (eight.extract 0 k).size = k := by rw [ByteArray.size_extract, eight_size]; omega
  refine ⟨⟨by omega, fun j hj => ?_⟩, by omega⟩
  rw [bt_extract eight 0 k j (by rw [eight_size]; omega) (by omega), Nat.zero_add]
  have hj8 : j < 8 := by omega
  match j, hj8 with
  | 0, _ => rfl
  | 1, _ => rfl
  | 2, _ => rfl
  | 3, _ => rfl
  | 4, _ => rfl
  | 5, _ => rfl
  | 6, _ => rfl
  | 7, _ => rfl

set_option maxHeartbeats 60000000 in
set_option maxRecDepth 100000 in
theorem back_walk (A0 : Option Addr) (c0 : Nat) (l : List ByteArray) (A1 : Option Addr) (c1 : Nat) (ends : List Int) (w : World) (hr0 : Kd.C Kd.string w A0 l.length l) (hc0 : l.length ≤ c0) (hsz : ∀ s ∈ l, s.size ≤ 9223372036854775807)
    (hr1 : Kd.C (Kd.int .u8) w A1 ends.length ends) (hc1 : ends.length ≤ c1) (hez : ∀ e ∈ ends, 0 ≤ e ∧ e ≤ 255) :
    Calls Tryd.prog 5 #[.slice A0 l.length c0, .slice A1 ends.length c1] w fun e w' => e = .returned (.bool true) ∧ Below w.heap.size w w' := by
  have hu35 := Tryd.underlying35
  obtain ⟨many, hmany⟩ : ∃ many, many = min l.length 30 := ⟨_, rfl⟩
  have HMany := Aside0.mk hmany
  have HR0 := Aside0.mk hr0
  have HR1 := Aside0.mk hr1
  have HSZ := Aside0.mk hsz
  have HEZ := Aside0.mk hez
  have HC0 := Aside0.mk hc0
  have HC1 := Aside0.mk hc1
  clear hr0 hc0 hsz hr1 hc1 hez hmany
  have HB := Aside0.mk (Below.refl w.heap.size w)
  go_enter Tryd.func5, Tryd.ntmps5
  go_upto_region 7 with (first | (go_at_call 12; (with_reducible refine (shown_tells3 _).mono ?_); rintro e w' ⟨rfl, hb⟩; have n0_ := Aside0.mk (below_step (by repeat (first | (with_reducible first | exact HB.out | apply below_alloc | apply pw_below_drewN | apply below_drew1) | exact HB.out)) hb); clear HB hb; have HB := n0_; clear n0_) | ((with_reducible refine gate_dst (N := 17) rfl ?_); refine Kd.S_lit (Kd.slice 35 k35) _ 32 ?hg (N := 17) ?hd (xs := ([] : List (List S35))) (inner := []) (ok := fun _ => True) (okp := fun _ => True) ?hr ?hp (fun _ hk => hk) trivial (Below.refl _ _) (Nat.le_refl _) (by simp) ?_; (case hd => rfl); (case hg => rfl); (case hr => first | (go_simp; done) | (go_simp; rfl)); (case hp => exact (Reps.none _ _)); intro v1 w1 ho1 hb1 hg_ hnew_; clear hg_ hnew_; have n0_ := Aside0.mk (Kd.S_lower ho1 (below_size (by repeat (first | (with_reducible first | exact HB.out | apply below_alloc | apply pw_below_drewN | apply below_drew1) | exact HB.out)))); have n1_ := Aside0.mk (below_step (by repeat (first | (with_reducible first | exact HB.out | apply below_alloc | apply pw_below_drewN | apply below_drew1) | exact HB.out)) hb1); clear HB; have HO1 := n0_; have HB := n1_; clear n0_ n1_; clear hb1 ho1) | ((with_reducible refine gate_dst (N := 18) rfl ?_); refine Kd.R_lit k35 _ 35 ?hg (N := 18) ?hd (xs := ([] : List S35)) (inner := []) (ok := fun _ => True) (okp := fun _ => True) ?hr ?hp (fun _ hk => hk) trivial (Below.refl _ _) (Nat.le_refl _) (by simp) ?_; (case hd => rfl); (case hg => rfl); (case hr => first | (go_simp; done) | (go_simp; rfl)); (case hp => exact (Reps.none _ _)); intro v2 w2 ho2 hb2 hg_ hnew_; clear hg_ hnew_; have n0_ := Aside0.mk (Kd.S_elder' (by (with_reducible repeat (first | apply Kd.S_alloc | apply Kd.S_drewN | apply Kd.S_drew)); exact HO1.out) (Kd.R_base ho2) hb2); have n2_ := Aside0.mk (Kd.R_lower ho2 (below_size (by repeat (first | (with_reducible first | exact HB.out | apply below_alloc | apply pw_below_drewN | apply below_drew1) | exact HB.out)))); have n1_ := Aside0.mk (below_step (by repeat (first | (with_reducible first | exact HB.out | apply below_alloc | apply pw_below_drewN | apply below_drew1) | exact HB.out)) hb2); clear HB HO1; have HF1 := n0_; have HO2 := n2_; have HB := n1_; clear n0_ n1_ n2_; clear hb2 ho2))
  go_wp2
  go_loopg [6, 7, 8, 9, 10, 11] many (fun kq v6 v7 v8 v9 v10 v11 w' => ∃ (s : ByteArray) (want : List (List S35)) (row : List S35) (n b i : Nat), v6 = .string s ∧ v9 = .int .i64 (n : Int) ∧ v10 = .int .i64 (b : Int) ∧ v11 = .int .i64 (i : Int) ∧ Aside0 (i + kq = many) ∧ Aside0 (s.size ≤ 21 * i ∧ want.length ≤ i ∧ row.length ≤ i ∧ (∀ r ∈ want, r.length ≤ 30) ∧ n ≤ i + 1 ∧ b ≤ s.size) ∧ Aside0 (Written s want row n b) ∧ Aside0 (Kd.S (Kd.slice 35 k35) 32 w' w.heap.size (fun k_ => True ∧ some k_ ≠ v8.ownBlock) v7 want ∧ Kd.R k35 35 w' w.heap.size (fun _ => True) v8 row) ∧ Aside0 (Below w.heap.size w w'))
  case atStart => exact ⟨_, [], [], 1, 0, 0, rfl, rfl, rfl, rfl, ⟨by omega⟩, ⟨⟨by decide, by decide, by decide, (fun r hr => by cases hr), by decide, by decide⟩⟩, ⟨written_start⟩, ⟨⟨by (with_reducible repeat (first | apply Kd.S_alloc | apply Kd.S_drewN | apply Kd.S_drew)); exact HF1.out, by (with_reducible repeat (first | apply Kd.R_alloc | apply Kd.R_drewN | apply Kd.R_drew)); exact HO2.out⟩⟩, ⟨(by repeat (first | (with_reducible first | exact HB.out | apply below_alloc | apply pw_below_drewN | apply below_drew1) | exact HB.out))⟩⟩
  case round =>
    clear HF1 HO2 HB
    obtain ⟨s, want, row, n, b, i, rfl, rfl, rfl, rfl, HI, HN, HWr, HO, HB⟩ := hrel
    have HF1 := Aside0.mk HO.out.1
    have HO2 := Aside0.mk HO.out.2
    clear HO
    cases gk with
    | zero =>
      have hm1 := HMany.out
      have hi1 := HI.out
      have hi : i = many := by omega
      have hrow := written_end HWr.out
      have hi30 : i ≤ 30 := by omega
      have HI30 := Aside0.mk hi30
      have HRowE := Aside0.mk hrow
      have hcase : i = l.length ∨ (i < l.length ∧ i = 30) := by omega
      clear hm1 hi1 hi hi30 hrow HI
      obtain ⟨wm, hwm⟩ : ∃ wm : World, wm = wr := ⟨_, rfl⟩
      subst hwm
      go_upto_region 8 with fail
      go_cut [26] (fun v26 wx => v26 = .bool false ∧ wm = wx)
      case first =>
        rcases hcase with h | ⟨h, h30⟩
        · have c1 : decide ((i : Int) < (l.length : Int)) = false := decide_eq_false (by omega)
          have c1n : decide (i < l.length) = false := decide_eq_false (by omega)
          clear h
          go_wp2
          go_meet
          exact ⟨rfl, rfl⟩
        · have c1 : decide ((i : Int) < (l.length : Int)) = true := decide_eq_true (by omega)
          have c1n : decide (i < l.length) = true := decide_eq_true h
          have c2 : decide ((i : Int) < 30) = false := decide_eq_false (by omega)
          have c2n : decide (i < 30) = false := decide_eq_false (by omega)
          clear h h30
          go_wp2
          go_meet
          exact ⟨rfl, rfl⟩
      case rest =>
      obtain ⟨rfl, rfl⟩ := hcut
      clear hcase
      have LW := Aside0.mk (show want.length ≤ 30 from by have := HN.out.2.1; have := HI30.out; omega)
      have LWR := Aside0.mk (show (push want row).length ≤ 31 ∧ ∀ r ∈ push want row, r.length ≤ 30 from by
        have h1 := HN.out; have h2 := HI30.out
        unfold push
        split
        · refine ⟨by rw [List.length_append, List.length_singleton]; omega, fun r hr => ?_⟩
          rcases List.mem_append.1 hr with hr | hr
          · exact h1.2.2.2.1 r hr
          · rw [List.mem_singleton.1 hr]; omega
        · exact ⟨by omega, h1.2.2.2.1⟩)
      have LS := Aside0.mk (show s.size ≤ 700 from by have := HN.out.1; have := HI30.out; omega)
      clear HN HWr
      obtain ⟨K, hK⟩ := (lines_ev s (by have := LS.out; omega)).rounds
      rw [HRowE.out] at hK
      have HKL := Aside0.mk hK
      clear hK HRowE
      obtain ⟨Ao, co, eo⟩ := Kd.R_slice HO2.out
      subst eo
      go_upto_region 22 with fail
      go_cut [81] (fun v81 wx => v81 = .bool (decide (0 < row.length)) ∧ wm = wx)
      case first =>
        go_wp2
        go_meet
        exact ⟨by first | rfl | (simp; done), rfl⟩
      case rest =>
      obtain ⟨rfl, rfl⟩ := hcut
      go_step
      go_cut [7] (fun v7 wx => Aside0 (Kd.S (Kd.slice 35 k35) 32 wx w.heap.size (fun _ => True) v7 (push want row)) ∧ Aside0 (Below w.heap.size w wx))
      case first =>
        by_cases h : 0 < row.length
        · have hp : push want row = want ++ [row] := by unfold push; rw [if_pos h]
          have c1 : decide (0 < row.length) = true := decide_eq_true h
          rw [c1]
          have HP := Aside0.mk hp
          clear h hp c1
          go_wp2_with (first | ((with_reducible refine gate_builtin (b := .append) (xs := #[.tmp 82, .tmp 84]) rfl ?_); at_builtin; refine Kd.S_append (Kd.slice 35 k35) (w0 := w) w.heap.size rfl (.tmp 82) (.tmp 84) 24 32 (.slice none 0 0) 24 rfl Tryd.underlying24 info32 rfl (by decide) (by omega) u7 want row [.slice Ao row.length co] (fun _ => True) (fun k_ => some k_ = (.slice Ao row.length co : Value).ownBlock) rfl rfl ?aP (fun k_ hk_ => ((Kd.R_mono (ok' := fun k_ => ((fun _ => True)) k_ ∧ some k_ ≠ (u7 : Value).ownBlock) (Kd.R_apart' (HO2.out) (Kd.S_typed HF1.out) (by decide)) (fun k_ hk => ⟨trivial, hk.2⟩))).1 k_ hk_.symm) ?aF ?aO ?aB ?aS ?aL ?_; (case aP => exact Kd.M_row (Kd.R_mono (Kd.R_tight rfl (Kd.R_mono (ok' := fun k_ => ((fun _ => True)) k_ ∧ some k_ ≠ (u7 : Value).ownBlock) (Kd.R_apart' (HO2.out) (Kd.S_typed HF1.out) (by decide)) (fun k_ hk => ⟨trivial, hk.2⟩))) (fun _ h_ => h_))); (case aB => exact (by repeat (first | (with_reducible first | exact HB.out | apply below_alloc | apply pw_below_drewN | apply below_drew1) | exact HB.out))); (case aF => exact (fun _ _ => trivial)); (case aO => exact (by (with_reducible repeat (first | apply Kd.S_alloc | apply Kd.S_drewN | apply Kd.S_drew)); exact Kd.S_mono HF1.out (fun k_ hk => ⟨trivial, fun e_ => hk.2 e_⟩))); (case aS => exact (below_size (by repeat (first | (with_reducible first | exact HB.out | apply below_alloc | apply pw_below_drewN | apply below_drew1) | exact HB.out)))); (case aL => have := LW.out; omega); intro v5 w5 ho hb hg hat; have n0_ := Aside0.mk (hb); have n1_ := Aside0.mk (ho); clear HB; clear HF1; clear HO2; have HB := n0_; have HO3 := n1_; clear n0_ n1_; clear ho hb hg hat))
          go_meet
          exact ⟨⟨by rw [HP.out]; (with_reducible repeat (first | apply Kd.S_alloc | apply Kd.S_drewN | apply Kd.S_drew)); exact Kd.S_mono HO3.out (fun _ _ => trivial)⟩, ⟨(by repeat (first | (with_reducible first | exact HB.out | apply below_alloc | apply pw_below_drewN | apply below_drew1) | exact HB.out))⟩⟩
        · have hp : push want row = want := by unfold push; rw [if_neg h]
          have c1 : decide (0 < row.length) = false := decide_eq_false h
          rw [c1]
          have HP := Aside0.mk hp
          clear h hp c1
          go_wp2
          go_meet
          exact ⟨⟨by rw [HP.out]; (with_reducible repeat (first | apply Kd.S_alloc | apply Kd.S_drewN | apply Kd.S_drew)); exact Kd.S_mono HF1.out (fun _ _ => trivial)⟩, ⟨(by repeat (first | (with_reducible first | exact HB.out | apply below_alloc | apply pw_below_drewN | apply below_drew1) | exact HB.out))⟩⟩
      case rest =>
      clear HF1 HO2 HB
      obtain ⟨HS7, HB⟩ := hcut
      obtain ⟨rows, hrows⟩ : ∃ rows, rows = push want row := ⟨_, rfl⟩
      rw [← hrows] at HS7 LWR HKL
      clear hrows
      obtain ⟨A7, c7, e7⟩ := Kd.S_slice HS7.out
      subst e7
      obtain ⟨KT, hKT⟩ := (texts_ev rows rows rfl (by have := LWR.out.1; omega) (fun x hx => by have := LWR.out.2 x hx; omega)).rounds
      have HKT := Aside0.mk hKT
      clear hKT
      go_upto_region 27 with (first | (go_at_call 14; (with_reducible refine (words_Lines.calls K s rows _ HKL.out).mono ?_); rintro e w8 ⟨v8, rfl, ho0, hb⟩; have n0_ := Aside0.mk (Kd.S_below (by (with_reducible repeat (first | apply Kd.S_alloc | apply Kd.S_drewN | apply Kd.S_drew)); exact HS7.out) hb); have n1_ := Aside0.mk (below_step (by repeat (first | (with_reducible first | exact HB.out | apply below_alloc | apply pw_below_drewN | apply below_drew1) | exact HB.out)) hb); have n2_ := Aside0.mk ho0; clear HB HS7; have HS7 := n0_; have HB := n1_; have HS8 := n2_; clear n0_ n1_ n2_ ho0 hb; obtain ⟨A8, c8, e8⟩ := Kd.S_slice HS8.out; subst e8) | (go_at_call 20; (with_reducible refine (L05_texts.calls KT _ _ rows _ _ rows true _ ?side1 ?side2 ?side3 ?side4 HKT.out).mono ?_); (case side1 => exact (Kd.S_reads' (by (with_reducible repeat (first | apply Kd.S_alloc | apply Kd.S_drewN | apply Kd.S_drew)); exact HS8.out)).2.2); (case side2 => exact (Kd.S_reads' HS8.out).2.1); (case side3 => exact (Kd.S_reads' (by (with_reducible repeat (first | apply Kd.S_alloc | apply Kd.S_drewN | apply Kd.S_drew)); exact HS7.out)).2.2); (case side4 => exact (Kd.S_reads' HS7.out).2.1); rintro e w9 ⟨rfl, ⟨nd, rfl⟩⟩))
      have HC7 := Aside0.mk (Kd.S_reads' HS7.out).2.2
      have HC8 := Aside0.mk (Kd.S_reads' HS8.out).2.2
      have HBW := Aside0.mk HB.out
      clear HS7 HS8 HB HKT HKL LS LW HSZ HEZ HR0 HR1
      have HB2 := Aside0.mk (Below.refl w8.heap.size w8)
      go_wp2
      go_loopg [14] rows.length (fun kq v14 w' => ∃ i : Nat, v14 = .int .i64 (i : Int) ∧ Aside0 (i + kq = rows.length) ∧ Aside0 (Below w8.heap.size w8 w'))
      case atStart => exact ⟨0, rfl, ⟨by omega⟩, ⟨(by repeat (first | (with_reducible first | exact HB2.out | apply below_alloc | apply pw_below_drewN | apply below_drew1) | exact HB2.out))⟩⟩
      case round =>
        clear HB2
        obtain ⟨i2, rfl, HI2, HB2⟩ := hrel
        have hi2 := HI2.out
        cases gk with
        | zero =>
          have c1 : decide ((i2 : Int) < (rows.length : Int)) = false := decide_eq_false (by omega)
          have c1n : decide (i2 < rows.length) = false := decide_eq_false (by omega)
          clear hi2
          go_wp2
          go_ret
          exact ⟨rfl, below_step HBW.out (by repeat (first | (with_reducible first | exact HB2.out | apply below_alloc | apply pw_below_drewN | apply below_drew1) | exact HB2.out))⟩
        | succ k2 =>
          obtain ⟨wn, hwn⟩ : ∃ wn : World, wn = wr := ⟨_, rfl⟩
          subst hwn
          have hlt : i2 < rows.length := by omega
          obtain ⟨r, hr⟩ : ∃ r, r = rows[i2] := ⟨_, rfl⟩
          have hrl : r.length ≤ 30 := LWR.out.2 r (by rw [hr]; exact List.getElem_mem _)
          have hrd : rd_L5 rows (i2 : Int) = r := by rw [hr]; exact rd_at rows _ i2 hlt
          have p1 : (0 : Int) ≤ (i2 : Int) := by omega
          have q1 : (i2 : Int) < (rows.length : Int) := by omega
          obtain ⟨ad7, A7r, c7r, e7, hx7, hl7, hC7⟩ := at_L5 HC7.out (i2 : Int) p1 q1
          obtain ⟨ad8, A8r, c8r, e8, hx8, hl8, hC8⟩ := at_L5 HC8.out (i2 : Int) p1 q1
          subst e7
          subst e8
          rw [hrd] at hx7 hx8 hl7 hl8 hC7 hC8
          rw [Int.toNat_natCast] at hx7 hx8
          have HX7 := Aside0.mk hx7
          have HX8 := Aside0.mk hx8
          have HQ7 := Aside0.mk hC7
          have HQ8 := Aside0.mk hC8
          have HRL := Aside0.mk hrl
          clear hC7 hC8 hrd hr hrl
          replace hx8 := (HB2.out.cell (World.block_lt_of_cell? w8 _ hx8)).trans hx8
          replace hx7 := (HB2.out.cell (World.block_lt_of_cell? w8 _ hx7)).trans hx7
          have c1 : decide ((i2 : Int) < (rows.length : Int)) = true := decide_eq_true q1
          have c1n : decide (i2 < rows.length) = true := decide_eq_true hlt
          have HI2' := HI2
          replace p1 := eq_true p1
          replace q1 := eq_true q1
          clear hlt hi2
          go_wp2
          go_loopg [15] r.length (fun kq v15 w' => ∃ k : Nat, v15 = .int .i64 (k : Int) ∧ Aside0 (k + kq = r.length) ∧ Aside0 (Below w8.heap.size w8 w'))
          case atStart => exact ⟨0, rfl, ⟨by omega⟩, ⟨(by repeat (first | (with_reducible first | exact HB2.out | apply below_alloc | apply pw_below_drewN | apply below_drew1) | exact HB2.out))⟩⟩
          case round =>
            clear HB2 hx7 hx8
            obtain ⟨k, rfl, HK3, HB2⟩ := hrel
            have hk3 := HK3.out
            obtain ⟨wk, hwk⟩ : ∃ wk : World, wk = wr := ⟨_, rfl⟩
            subst hwk
            have hx7 := (HB2.out.cell (World.block_lt_of_cell? w8 _ HX7.out)).trans HX7.out
            have hx8 := (HB2.out.cell (World.block_lt_of_cell? w8 _ HX8.out)).trans HX8.out
            cases gk with
            | zero =>
              have c3 : decide ((k : Int) < (r.length : Int)) = false := decide_eq_false (by omega)
              have c3n : decide (k < r.length) = false := decide_eq_false (by omega)
              have Ewi : wrap64 ((i2 : Int) + 1) = ((i2 + 1 : Nat) : Int) := wrapc i2 (by have := HI2.out; have := LWR.out.1; omega)
              clear hk3
              go_wp2
              go_roundg k2
              case measure => omega
              case rel => exact ⟨i2 + 1, (by first | rfl | (rw [Ewi]) | (simp [Ewi]; done)), ⟨by have := HI2.out; omega⟩, ⟨(by repeat (first | (with_reducible first | exact HB2.out | apply below_alloc | apply pw_below_drewN | apply below_drew1) | exact HB2.out))⟩⟩
            | succ k3 =>
              have hkl : k < r.length := by omega
              obtain ⟨x, hx⟩ : ∃ x, x = r[k] := ⟨_, rfl⟩
              have hrd : rd_T35 r (k : Int) = x := by rw [hx]; exact rd_at r _ k hkl
              have p2 : (0 : Int) ≤ (k : Int) := by omega
              have q2 : (k : Int) < (r.length : Int) := by omega
              obtain ⟨b7, e7, ha0, ha1, ha2⟩ := at_T35 HQ7.out (k : Int) p2 q2
              obtain ⟨b8, e8, hb0, hb1, hb2⟩ := at_T35 HQ8.out (k : Int) p2 q2
              subst e7
              subst e8
              rw [hrd, Int.toNat_natCast] at ha0 ha1 ha2 hb0 hb1 hb2
              replace ha0 := (HB2.out.cell (World.block_lt_of_cell? w8 _ ha0)).trans ha0
              replace ha1 := (HB2.out.cell (World.block_lt_of_cell? w8 _ ha1)).trans ha1
              replace ha2 := (HB2.out.cell (World.block_lt_of_cell? w8 _ ha2)).trans ha2
              replace hb0 := (HB2.out.cell (World.block_lt_of_cell? w8 _ hb0)).trans hb0
              replace hb1 := (HB2.out.cell (World.block_lt_of_cell? w8 _ hb1)).trans hb1
              replace hb2 := (HB2.out.cell (World.block_lt_of_cell? w8 _ hb2)).trans hb2
              have c3 : decide ((k : Int) < (r.length : Int)) = true := decide_eq_true q2
              have c3n : decide (k < r.length) = true := decide_eq_true hkl
              have Ewk : wrap64 ((k : Int) + 1) = ((k + 1 : Nat) : Int) := wrapc k (by have := HRL.out; omega)
              replace p2 := eq_true p2
              replace q2 := eq_true q2
              clear hx hrd hkl hk3
              go_upto_region 33 with fail
              go_quiet (fail)
              go_wp2
              go_roundg k3
              case measure => omega
              case rel => exact ⟨k + 1, (by first | rfl | (rw [Ewk]) | (simp [Ewk]; done)), ⟨by have := HK3.out; omega⟩, ⟨(by repeat (first | (with_reducible first | exact HB2.out | apply below_alloc | apply pw_below_drewN | apply below_drew1) | exact HB2.out))⟩⟩
    | succ k1 =>
      have hm1 := HMany.out
      have hi1 := HI.out
      have hil : i < l.length := by omega
      have hi30 : i < 30 := by omega
      have c1 : decide ((i : Int) < (l.length : Int)) = true := decide_eq_true (by omega)
      have c1n : decide (i < l.length) = true := decide_eq_true hil
      have c2 : decide ((i : Int) < 30) = true := decide_eq_true (by omega)
      have c2n : decide (i < 30) = true := decide_eq_true hi30
      obtain ⟨wm, hwm⟩ : ∃ wm : World, wm = wr := ⟨_, rfl⟩
      subst hwm
      have p1 : (0 : Int) ≤ (i : Int) := by omega
      have q1 : (i : Int) < (l.length : Int) := by omega
      obtain ⟨adl, el, hxl⟩ := Kd.at_string HR0.out (i : Int) p1 q1
      subst el
      obtain ⟨t, ht⟩ : ∃ t, t = rdOf ByteArray.empty l (i : Int) := ⟨_, rfl⟩
      have htm : t ∈ l := by rw [ht, show rdOf ByteArray.empty l (i : Int) = l[i] from rd_at l _ i hil]; exact List.getElem_mem _
      rw [← ht, Int.toNat_natCast] at hxl
      have HT := fun W => tame_tells t (HSZ.out t htm) W
      obtain ⟨_, ht1, ht2, ht3⟩ := tameOf_ev t (HSZ.out t htm)
      obtain ⟨tm, htm2⟩ : ∃ tm, tm = tameOf t := ⟨_, rfl⟩
      rw [← htm2] at ht1 ht2 ht3 HT
      have HTM := Aside0.mk (And.intro ht1 (And.intro ht2 ht3))
      have HXL := Aside0.mk hxl
      have HIL := Aside0.mk (And.intro hil hi30)
      clear ht htm ht1 ht2 ht3 htm2 hxl hm1 hi1 hil hi30
      go_upto_region 10 with fail
      go_cut [12] (fun v12 wx => v12 = .int .u8 0 ∧ wm = wx)
      case first =>
        go_wp2
        go_meet
        exact ⟨rfl, rfl⟩
      case rest =>
      obtain ⟨rfl, rfl⟩ := hcut
      go_step
      go_step
      go_cut [12] (fun v12 wx => ∃ e : Int, v12 = .int .u8 e ∧ Aside0 (0 ≤ e ∧ e ≤ 255) ∧ wm = wx)
      case first =>
        by_cases c : (i : Int) < (ends.length : Int)
        · have c3 : decide ((i : Int) < (ends.length : Int)) = true := decide_eq_true c
          have c3n : decide (i < ends.length) = true := decide_eq_true (by omega)
          obtain ⟨ade, ee, hxe⟩ := Kd.at_int HR1.out (i : Int) p1 c
          subst ee
          have hem := HEZ.out (rd ends (i : Int)) (by rw [show rd ends (i : Int) = ends[i]'(by omega) from rd_at ends _ i (by omega)]; exact List.getElem_mem _)
          have HE := Aside0.mk hem
          clear hem
          replace hxe := (HB.out.cell (World.block_lt_of_cell? w _ hxe)).trans hxe
          rw [Int.toNat_natCast] at hxe
          have q2 := eq_true c
          replace p1 := eq_true p1
          clear c
          go_wp2
          go_meet
          exact ⟨_, rfl, HE, rfl⟩
        · have c3 : decide ((i : Int) < (ends.length : Int)) = false := decide_eq_false c
          have c3n : decide (i < ends.length) = false := decide_eq_false (by omega)
          clear c
          go_wp2
          go_meet
          exact ⟨0, rfl, ⟨by decide⟩, rfl⟩
      case rest =>
      obtain ⟨e, rfl, HE, rfl⟩ := hcut
      have he0 := HE.out.1
      have he1 := HE.out.2
      have hk0 : 0 < (1 + e / 2 % 8).toNat := by omega
      have hk8 : (1 + e / 2 % 8).toNat ≤ 8 := by omega
      have hbk := eight_blanks (1 + e / 2 % 8).toNat hk0 hk8
      have hsum : s.size + ((⟨#[32, 32, 32, 32, 32, 32, 32, 32]⟩ : ByteArray).extract 0 (1 + e / 2 % 8).toNat).size ≤ 9223372036854775807 := by
        have h1 := hbk.2
        have h2 := HN.out.1
        have h3 := HIL.out.2
        show s.size + (eight.extract 0 (1 + e / 2 % 8).toNat).size ≤ _
        omega
      have HBK := Aside0.mk hbk
      clear hk0 hk8 hbk
      go_upto_region 13 with fail
      go_cut [6] (fun v6 wx => ∃ bl : ByteArray, v6 = .string (s ++ bl) ∧ Aside0 (Blanks bl ∧ bl.size ≤ 8) ∧ wm = wx)
      case first =>
        go_wp2
        go_meet
        exact ⟨_, rfl, HBK, rfl⟩
      case rest =>
      clear hsum HBK
      obtain ⟨bl, rfl, HBK, rfl⟩ := hcut
      have HE := Aside0.mk (And.intro he0 he1)
      obtain ⟨row2, hrow2⟩ : ∃ row2, row2 = row ++ [(⟨(n : Int), (((s ++ bl).size : Nat) : Int) - (b : Int), tm⟩ : S35)] := ⟨_, rfl⟩
      have HRow := Aside0.mk hrow2
      clear hrow2
      have hxl := (HB.out.cell (World.block_lt_of_cell? w _ HXL.out)).trans HXL.out
      have HSB := Aside0.mk (show (s ++ bl).size ≤ 21 * 30 ∧ b ≤ s.size ∧ s.size ≤ (s ++ bl).size from by
        have h1 := HBK.out.2; have h2 := HN.out; have h3 := HIL.out.2
        rw [ByteArray.size_append]
        obtain ⟨h4, _, _, _, _, h5⟩ := h2
        omega)
      obtain ⟨sb, hsb⟩ : ∃ sb, sb = s ++ bl := ⟨_, rfl⟩
      rw [← hsb] at HSB HRow ⊢
      have HSBE := Aside0.mk hsb
      clear hsb
      have hs1 := HSB.out.1
      have hs2 := HSB.out.2.1
      have hs3 := HSB.out.2.2
      have hw1 : wrap64 ((sb.size : Int) - (b : Int)) = (sb.size : Int) - (b : Int) := by unfold wrap64; omega
      have hsum2 : sb.size + tm.size ≤ 9223372036854775807 := by have := HTM.out.2.1; omega
      have LX := Aside0.mk (show row.length ≤ 30 from by have := HN.out.2.2.1; have := HIL.out.2; omega)
      replace p1 := eq_true p1
      replace q1 := eq_true q1
      go_upto_region 16 with (first | (go_at_call 19; (with_reducible refine (HT _).mono ?_); rintro e w' ⟨rfl, ⟨nd, rfl⟩⟩) | ((with_reducible refine gate_builtin (b := .append) (xs := #[.tmp 44, .tmp 56]) rfl ?_); at_builtin; refine Kd.R_append k35 (w0 := w) w.heap.size rfl (.tmp 44) (.tmp 56) 32 35 (.agg #[(.int .i64 0), (.int .i64 0), (.string ⟨#[]⟩)]) 32 rfl Tryd.underlying32 info35 rfl (by decide) (by omega) u8 row (⟨(n : Int), (sb.size : Int) - (b : Int), tm⟩ : S35) [.int .i64 (n : Int), .int .i64 ((sb.size : Int) - (b : Int)), .string tm] (fun _ => True) (fun _ => False) rfl rfl ?aP (fun _ hk => hk.elim) ?aF ?aO ?aB ?aS ?aL ?_; (case aP => exact k35_mkM _ _ _ (⟨(n : Int), (sb.size : Int) - (b : Int), tm⟩ : S35)); (case aB => exact (by repeat (first | (with_reducible first | exact HB.out | apply below_alloc | apply pw_below_drewN | apply below_drew1) | exact HB.out))); (case aF => exact (fun _ _ => trivial)); (case aO => exact (by (with_reducible repeat (first | apply Kd.R_alloc | apply Kd.R_drewN | apply Kd.R_drew)); exact HO2.out)); (case aS => exact (below_size (by repeat (first | (with_reducible first | exact HB.out | apply below_alloc | apply pw_below_drewN | apply below_drew1) | exact HB.out)))); (case aL => have := LX.out; omega); intro v3 w3 ho hb hg hat; clear hxl; have hxl := (hb.cell (World.block_lt_of_cell? w _ HXL.out)).trans HXL.out; have n0_ := Aside0.mk (hb); have n1_ := Aside0.mk (ho); have n2_ := Aside0.mk (Kd.S_after (by (with_reducible repeat (first | apply Kd.S_alloc | apply Kd.S_drewN | apply Kd.S_drew)); exact HF1.out) hg hat); clear HB; clear HF1; clear HO2; have HB := n0_; have HO2 := n1_; have HF1 := n2_; clear n0_ n1_ n2_; clear ho hb hg hat))
      clear hxl hw1 hs1 hs2 hs3
      have HSU := Aside0.mk hsum2
      clear hsum2
      rw [← HRow.out] at HO2
      obtain ⟨s2, hs2⟩ : ∃ s2, s2 = sb ++ tm := ⟨_, rfl⟩
      have HW2 : Aside0 (Written s2 want row2 n b) := ⟨by
        rw [hs2, HSBE.out, HRow.out, HSBE.out]
        exact written_word HWr.out bl tm HBK.out.1 HTM.out.2.2 HTM.out.1⟩
      have HS2 := Aside0.mk (show s2.size ≤ 21 * i + 20 ∧ b ≤ s2.size from by
        rw [hs2, ByteArray.size_append]
        have h1 := HBK.out.2; have h2 := HN.out.1; have h3 := HTM.out.2.1; have h4 := HSB.out.2
        have h5 : sb.size = s.size + bl.size := by rw [HSBE.out, ByteArray.size_append]
        omega)
      rw [← hs2]
      clear hs2
      have LR := Aside0.mk (show 0 < row2.length ∧ row2.length ≤ i + 1 from by
        rw [HRow.out, List.length_append, List.length_singleton]; have := HN.out.2.2.1; omega)
      have HWT := Aside0.mk (show want.length ≤ i ∧ (∀ r ∈ want, r.length ≤ 30) ∧ n ≤ i + 1 from ⟨HN.out.2.1, HN.out.2.2.2.1, HN.out.2.2.2.2.1⟩)
      clear HRow HSU HSB HSBE HBK HTM HWr HN LX HT HXL
      go_cut [67] (fun v67 wx => ∃ o : Bool, v67 = .bool o ∧ Aside0 (Kd.S (Kd.slice 35 k35) 32 wx w.heap.size (fun k_ => True ∧ some k_ ≠ v3.ownBlock) u7 want) ∧ Aside0 (Kd.R k35 35 wx w.heap.size (fun _ => True) v3 row2) ∧ Aside0 (Below w.heap.size w wx))
      case first =>
        go_wp2
        go_meet
        exact ⟨_, rfl, ⟨by (with_reducible repeat (first | apply Kd.S_alloc | apply Kd.S_drewN | apply Kd.S_drew)); exact HF1.out⟩, ⟨by (with_reducible repeat (first | apply Kd.R_alloc | apply Kd.R_drewN | apply Kd.R_drew)); exact HO2.out⟩, ⟨(by repeat (first | (with_reducible first | exact HB.out | apply below_alloc | apply pw_below_drewN | apply below_drew1) | exact HB.out))⟩⟩
      case rest =>
      clear HF1 HO2 HB
      obtain ⟨o, rfl, HF1, HO2, HB⟩ := hcut
      have hi30 := HIL.out.2
      have Ewi : wrap64 ((i : Int) + 1) = ((i + 1 : Nat) : Int) := wrapc i (by omega)
      cases o with
      | false =>
        go_wp2
        go_roundg k1
        case measure => omega
        case rel => exact ⟨s2, want, row2, n, b, i + 1, rfl, rfl, rfl, (by first | rfl | (rw [Ewi]) | (simp [Ewi]; done)), ⟨by have := HI.out; omega⟩, ⟨by have h1 := HS2.out; have h2 := LR.out; have h3 := HWT.out; exact ⟨by omega, by omega, by omega, h3.2.1, by omega, h1.2⟩⟩, HW2, ⟨⟨by (with_reducible repeat (first | apply Kd.S_alloc | apply Kd.S_drewN | apply Kd.S_drew)); exact HF1.out, by (with_reducible repeat (first | apply Kd.R_alloc | apply Kd.R_drewN | apply Kd.R_drew)); exact HO2.out⟩⟩, ⟨(by repeat (first | (with_reducible first | exact HB.out | apply below_alloc | apply pw_below_drewN | apply below_drew1) | exact HB.out))⟩⟩
      | true =>
        obtain ⟨Ao, co, eo⟩ := Kd.R_slice HO2.out
        subst eo
        have hsum3 : s2.size + 1 ≤ 9223372036854775807 := by have := HS2.out.1; omega
        have hs4 : s2.size ≤ 700 := by have := HS2.out.1; omega
        have Ewn : wrap64 ((n : Int) + 1) = ((n + 1 : Nat) : Int) := wrapc n (by have := HWT.out.2.2; omega)
        go_upto_region 21 with (first | ((with_reducible refine gate_builtin (b := .append) (xs := #[.tmp 74, .tmp 76]) rfl ?_); at_builtin; refine Kd.S_append (Kd.slice 35 k35) (w0 := w) w.heap.size rfl (.tmp 74) (.tmp 76) 24 32 (.slice none 0 0) 24 rfl Tryd.underlying24 info32 rfl (by decide) (by omega) u7 want row2 [.slice Ao row2.length co] (fun _ => True) (fun k_ => some k_ = (.slice Ao row2.length co : Value).ownBlock) rfl rfl ?aP (fun k_ hk_ => ((Kd.R_mono (ok' := fun k_ => ((fun _ => True)) k_ ∧ some k_ ≠ (u7 : Value).ownBlock) (Kd.R_apart' (HO2.out) (Kd.S_typed HF1.out) (by decide)) (fun k_ hk => ⟨trivial, hk.2⟩))).1 k_ hk_.symm) ?aF ?aO ?aB ?aS ?aL ?_; (case aP => exact Kd.M_row (Kd.R_mono (Kd.R_tight rfl (Kd.R_mono (ok' := fun k_ => ((fun _ => True)) k_ ∧ some k_ ≠ (u7 : Value).ownBlock) (Kd.R_apart' (HO2.out) (Kd.S_typed HF1.out) (by decide)) (fun k_ hk => ⟨trivial, hk.2⟩))) (fun _ h_ => h_))); (case aB => exact (by repeat (first | (with_reducible first | exact HB.out | apply below_alloc | apply pw_below_drewN | apply below_drew1) | exact HB.out))); (case aF => exact (fun _ _ => trivial)); (case aO => exact (by (with_reducible repeat (first | apply Kd.S_alloc | apply Kd.S_drewN | apply Kd.S_drew)); exact Kd.S_mono HF1.out (fun k_ hk => ⟨trivial, fun e_ => hk.2 e_⟩))); (case aS => exact (below_size (by repeat (first | (with_reducible first | exact HB.out | apply below_alloc | apply pw_below_drewN | apply below_drew1) | exact HB.out)))); (case aL => have := HWT.out.1; omega); intro v5 w5 ho hb hg hat; have n0_ := Aside0.mk (hb); have n1_ := Aside0.mk (ho); clear HB; clear HF1; clear HO2; have HB := n0_; have HO3 := n1_; clear n0_ n1_; clear ho hb hg hat))
        clear hsum3
        have hq3 := Aside0.mk (Kd.S_mono (ok' := fun _ => True) HO3.out (fun _ _ => trivial))
        clear HO3
        have HO3 := hq3
        clear hq3
        go_wp2_with (first | ((with_reducible refine gate_dst (N := 78) rfl ?_); refine Kd.R_lit k35 _ 35 ?hg (N := 78) ?hd (xs := ([] : List S35)) (inner := []) (ok := fun _ => True) (okp := fun _ => True) ?hr ?hp (fun _ hk => hk) trivial (Below.refl _ _) (Nat.le_refl _) (by simp) ?_; (case hd => rfl); (case hg => rfl); (case hr => first | (go_simp; done) | (go_simp; rfl)); (case hp => exact (Reps.none _ _)); intro v6 w6 ho6 hb6 hg_ hnew_; clear hg_ hnew_; have n0_ := Aside0.mk (Kd.S_elder' (by (with_reducible repeat (first | apply Kd.S_alloc | apply Kd.S_drewN | apply Kd.S_drew)); exact HO3.out) (Kd.R_base ho6) hb6); have n2_ := Aside0.mk (Kd.R_lower ho6 (below_size (by repeat (first | (with_reducible first | exact HB.out | apply below_alloc | apply pw_below_drewN | apply below_drew1) | exact HB.out)))); have n1_ := Aside0.mk (below_step (by repeat (first | (with_reducible first | exact HB.out | apply below_alloc | apply pw_below_drewN | apply below_drew1) | exact HB.out)) hb6); clear HB HO3; have HF1 := n0_; have HO2 := n2_; have HB := n1_; clear n0_ n1_ n2_; clear hb6 ho6))
        go_roundg k1
        case measure => omega
        case rel =>
          have h1 := HS2.out; have h2 := LR.out; have h3 := HWT.out
          have hz : (s2 ++ (⟨#[10]⟩ : ByteArray)).size = s2.size + 1 := by rw [ByteArray.size_append]; rfl
          refine ⟨s2 ++ ⟨#[10]⟩, want ++ [row2], [], n + 1, s2.size + 1, i + 1, rfl, (by first | rfl | (rw [Ewn]) | (simp [Ewn]; done)), (by first | rfl | (simp; done)), (by first | rfl | (rw [Ewi]) | (simp [Ewi]; done)), ⟨by have := HI.out; omega⟩, ⟨?_⟩, ⟨written_line HW2.out h2.1⟩, ⟨⟨by (with_reducible repeat (first | apply Kd.S_alloc | apply Kd.S_drewN | apply Kd.S_drew)); exact HF1.out, by (with_reducible repeat (first | apply Kd.R_alloc | apply Kd.R_drewN | apply Kd.R_drew)); exact HO2.out⟩⟩, ⟨(by repeat (first | (with_reducible first | exact HB.out | apply below_alloc | apply pw_below_drewN | apply below_drew1) | exact HB.out))⟩⟩
          refine ⟨by rw [hz]; omega, by rw [List.length_append, List.length_singleton]; omega, by simp, fun r hr => ?_, by omega, by rw [hz]; omega⟩
          rcases List.mem_append.1 hr with hr | hr
          · exact h3.2.1 r hr
          · rw [List.mem_singleton.1 hr]; have := HIL.out.2; omega
end Go.Proofs.YtenjohemplgnmaaDoor.P
