/- The walk of WordsRows (written by wip/nrows.py). -/
import Derived.Test.YtenjohemplgnmaaDoorHRows
import Derived.Test.YtenjohemplgnmaaDoorNWordsNames
namespace Go.Proofs.YtenjohemplgnmaaDoor.P
open Go.RowKit Go.Proofs.YtenjohemplgnmaaDoorW.PrintWords Go.Proofs.YtenjohemplgnmaaDoorW.PrintLast Go.Proofs.YtenjohemplgnmaaDoorW.PrintMore
attribute [local go_sem] max2_int min2_int max_two min_two max_three min_three max_four min_four   -- for this text's walks alone
set_option linter.unusedVariables false
set_option linter.unusedSimpArgs false


theorem rowOf_at (row : List ByteArray) (n : Nat) (h : n < row.length) (h6 : n < 6) : (rd_T35 (rowOf row) (n : Int)).f2 = nameOf row[n] := by
  have hl : n < ((row.take 6).map wordOf).length := by rw [List.length_map, List.length_take]; omega
  show (rd_T35 ((row.take 6).map wordOf) (n : Int)).f2 = _
  unfold rd_T35
  rw [rd_at _ _ n hl, List.getElem_map, List.getElem_take]
  rfl

theorem s91 : (⟨#[91]⟩ : ByteArray).toList = [91] := by rw [Lib.toList_data]
theorem s93 : (⟨#[93]⟩ : ByteArray).toList = [93] := by rw [Lib.toList_data]

/-- A call of name comes to the word that it makes. -/
theorem name_tells (s : ByteArray) (hs : s.size ≤ 9223372036854775807) (W : World) : Calls Tryd.prog 21 #[.string s] W fun e w' => e = .returned (.string (nameOf s)) ∧ Drawn0 W w' := by
  obtain ⟨k, hk⟩ := (nameOf_ev s hs).1.rounds
  exact L05_name.calls k s (nameOf s) W hk

theorem shown_tells (W : World) : Calls Tryd.prog 12 #[] W fun e w' => e = .returned (.bool true) ∧ Below W.heap.size W w' := by
  obtain ⟨k, hk⟩ := shown_true.rounds
  exact L05_shown.calls k true W hk

set_option maxHeartbeats 60000000 in
set_option maxRecDepth 100000 in
theorem rows_walk (A0 : Option Addr) (c0 : Nat) (l : List (List ByteArray)) (bits odd : Int) (w : World) (hr0 : Kd.C (Kd.slice 9 Kd.string) w A0 l.length l) (hc0 : l.length ≤ c0)
    (hsz : ∀ r ∈ l, ∀ s ∈ r, s.size ≤ 9223372036854775807) (hb0 : 0 ≤ bits ∧ bits ≤ 65535) (ho0 : 0 ≤ odd ∧ odd ≤ 255) :
    Calls Tryd.prog 8 #[.slice A0 l.length c0, .int .u16 bits, .int .u8 odd] w fun e w' => e = .returned (.bool true) ∧ Below w.heap.size w w' := by
  have hu35 := Tryd.underlying35
  obtain ⟨many, hmany⟩ : ∃ many, many = min l.length 12 := ⟨_, rfl⟩
  have HMany := Aside0.mk hmany
  have HR0 := Aside0.mk hr0
  have HSZ := Aside0.mk hsz
  have HB0 := Aside0.mk hb0
  have HO0 := Aside0.mk ho0
  have HC0 := Aside0.mk hc0
  clear hr0 hc0 hsz hb0 ho0 hmany
  have HB := Aside0.mk (Below.refl w.heap.size w)
  go_enter Tryd.func8, Tryd.ntmps8
  go_upto_region 3 with (first | (go_at_call 12; (with_reducible refine (shown_tells _).mono ?_); rintro e w' ⟨rfl, hb⟩; have n0_ := Aside0.mk (below_step (by repeat (first | (with_reducible first | exact HB.out | apply below_alloc | apply pw_below_drewN | apply below_drew1) | exact HB.out)) hb); clear HB hb; have HB := n0_; clear n0_) | ((with_reducible refine gate_dst (N := 24) rfl ?_); refine Kd.R_lit k35 _ 35 ?hg (N := 24) ?hd (xs := ([] : List S35)) (inner := []) (ok := fun _ => True) (okp := fun _ => True) ?hr ?hp (fun _ hk => hk) trivial (Below.refl _ _) (Nat.le_refl _) (by simp) ?_; (case hd => rfl); (case hg => rfl); (case hr => first | (go_simp; done) | (go_simp; rfl)); (case hp => exact (Reps.none _ _)); intro v2 w2 ho2 hb2 hg_ hnew_; clear hg_ hnew_; have n0_ := Aside0.mk (Kd.R_lower ho2 (below_size (by repeat (first | (with_reducible first | exact HB.out | apply below_alloc | apply pw_below_drewN | apply below_drew1) | exact HB.out)))); have n1_ := Aside0.mk (below_step (by repeat (first | (with_reducible first | exact HB.out | apply below_alloc | apply pw_below_drewN | apply below_drew1) | exact HB.out)) hb2); clear HB; have HW := n0_; have HB := n1_; clear n0_ n1_; clear hb2 ho2))
  have hmany := HMany.out
  go_cut [9] (fun v9 wx => v9 = .int .i64 (many : Int) ∧ w2 = wx)
  case first =>
    by_cases h12 : (12 : Int) < (l.length : Int)
    · go_wp2
      go_meet
      exact ⟨congrArg (Value.int .i64) (by omega), rfl⟩
    · go_wp2
      go_meet
      exact ⟨congrArg (Value.int .i64) (by omega), rfl⟩
  case rest =>
  obtain ⟨rfl, rfl⟩ := hcut
  clear hmany
  go_wp2
  go_loopg [8, 10] many (fun kq v8 v10 w' => ∃ (x8 : List S35) (i : Nat), v10 = .int .i64 (i : Int) ∧ Aside0 (i + kq = many) ∧ Aside0 (Goes x8 ((l.take i).map rowOf)) ∧ Aside0 (x8.length ≤ 8 * i) ∧ Aside0 (Kd.R k35 35 w' w.heap.size (fun _ => True) v8 x8) ∧ Aside0 (Below w.heap.size w w'))
  case atStart => exact ⟨[], 0, rfl, ⟨by omega⟩, ⟨goes_nil⟩, ⟨Nat.le_refl _⟩, ⟨by (with_reducible repeat (first | apply Kd.R_alloc | apply Kd.R_drewN | apply Kd.R_drew)); exact HW.out⟩, ⟨(by repeat (first | (with_reducible first | exact HB.out | apply below_alloc | apply pw_below_drewN | apply below_drew1) | exact HB.out))⟩⟩
  case round =>
    clear HW
    obtain ⟨x8, i, rfl, HI, HG, HX, HW, HB⟩ := hrel
    have hM12 : many ≤ 12 := by have := HMany.out; omega
    have hMl : many ≤ l.length := by have := HMany.out; omega
    cases gk with
    | zero =>
      have hi : i = many := by have := HI.out; omega
      have c1 : decide ((i : Int) < (many : Int)) = false := decide_eq_false (by omega)
      clear c1
      subst hi
      obtain ⟨rows, hrows⟩ : ∃ rows, rows = (l.take i).map rowOf := ⟨_, rfl⟩
      rw [← hrows] at HG
      have hrl : rows.length = i := by rw [hrows, List.length_map, List.length_take]; omega
      have hsets := goes_all HG.out
      have hx96 : x8.length ≤ 96 := by have := HX.out; omega
      obtain ⟨K, hK⟩ := (words_sets x8 (by omega)).rounds
      rw [hsets] at hK
      have HK := Aside0.mk hK
      have HSE := Aside0.mk hsets
      have HRO := Aside0.mk hrows
      have HRL := Aside0.mk hrl
      have HX96 := Aside0.mk hx96
      clear hK hsets hrows hx96 HG HX
      obtain ⟨Ao, co, eo⟩ := Kd.R_slice HW.out
      subst eo
      have c1 : decide ((i : Int) < (i : Int)) = false := decide_eq_false (by omega)
      have c6 : ((rows.length : Int) != (i : Int)) = false := bne_eq_false_iff_eq.mpr (by omega)
      have c7 : (rows.length != i) = false := bne_eq_false_iff_eq.mpr hrl
      go_upto_region 20 with (first | (go_at_call 17; (with_reducible refine (words_Sets.calls K _ _ x8 rows true _ ?side1 ?side2 HK.out).mono ?_); (case side1 => repeat (first | exact (Kd.R_reads' HW.out).2.2 | (with_reducible refine Kd.C_alloc ?_ _) | (with_reducible refine Kd.C_drewN ?_ _) | (with_reducible refine Kd.C_drew ?_))); (case side2 => exact (Kd.R_reads' HW.out).2.1); rintro e w4 ⟨vr, rfl, ho0, hb⟩; have n0_ := Aside0.mk (Kd.R_below (by (with_reducible repeat (first | apply Kd.R_alloc | apply Kd.R_drewN | apply Kd.R_drew)); exact HW.out) hb); have n1_ := Aside0.mk (below_step (by repeat (first | (with_reducible first | exact HB.out | apply below_alloc | apply pw_below_drewN | apply below_drew1) | exact HB.out)) hb); clear HB HW hb; have HB := n1_; have HW := n0_; clear n0_ n1_; obtain ⟨Ar, cr, er⟩ := Kd.S_slice ho0; subst er; have HS := Aside0.mk (Kd.S_reads' ho0).2.2; clear ho0))
      have HB4 := Aside0.mk (Below.refl w4.heap.size w4)
      have hrl2 : ∀ j, j < i → ∃ row, row ∈ l ∧ rd_L1 l (j : Int) = row ∧ rd_L5 rows (j : Int) = rowOf row := by
        intro j hj
        refine ⟨l[j], List.getElem_mem _, rd_at l _ j (by omega), ?_⟩
        unfold rd_L5
        rw [rd_at rows _ j (by omega)]
        simp only [HRO.out, List.getElem_map, List.getElem_take]
      have HRD := Aside0.mk hrl2
      clear hrl2
      go_wp2
      go_loopg [16] i (fun kq v16 w' => ∃ j : Nat, v16 = .int .i64 (j : Int) ∧ Aside0 (j + kq = i) ∧ Aside0 (Below w4.heap.size w4 w'))
      case atStart => exact ⟨0, rfl, ⟨by omega⟩, ⟨(by repeat (first | (with_reducible first | exact HB4.out | apply below_alloc | apply pw_below_drewN | apply below_drew1) | exact HB4.out))⟩⟩
      case round =>
        clear HB4
        obtain ⟨j, rfl, HJ, HB4⟩ := hrel
        cases gk with
        | zero =>
          have hj : j = i := by have := HJ.out; omega
          subst hj
          have c8 : decide ((j : Int) < (j : Int)) = false := decide_eq_false (by omega)

          have hWr := Kd.R_below HW.out HB4.out
          have HWR := Aside0.mk hWr
          have HBR := Aside0.mk (below_step HB.out HB4.out)
          have hodd := HO0.out
          clear hWr HB4 HB HW
          have pne : ((x8.length : Int) + 1 == 0) = false := beq_eq_false_iff_ne.mpr (by omega)
          have wl : wrap64 ((x8.length : Int) + 1) = (x8.length : Int) + 1 := by have := HX96.out; unfold wrap64; omega
          go_upto_region 30 with fail
          go_cut [18] (fun v18 wx => ∃ p : Nat, v18 = .int .i64 (p : Int) ∧ Aside0 (p ≤ x8.length) ∧ wr = wx)
          case first =>
            go_wp2
            go_meet
            have e1 := Int.emod_nonneg (odd / 2) (show ((x8.length : Int) + 1) ≠ 0 by omega)
            have e2 := Int.emod_lt_of_pos (odd / 2) (show 0 < (x8.length : Int) + 1 by omega)
            exact ⟨(odd / 2 % ((x8.length : Int) + 1)).toNat, congrArg (Value.int .i64) (Int.toNat_of_nonneg e1).symm, ⟨by omega⟩, rfl⟩
          case rest =>
          obtain ⟨pp, rfl, HP, rfl⟩ := hcut
          clear pne wl hodd
          go_upto_region 31 with fail
          go_cut [19] (fun v19 wx => v19 = .string (⟨#[91]⟩ : ByteArray) ∧ wr = wx)
          case first =>
            go_wp2
            go_meet
            exact ⟨rfl, rfl⟩
          case rest =>
          obtain ⟨rfl, rfl⟩ := hcut
          go_step
          go_step
          go_cut [19] (fun v19 wx => ∃ sg : ByteArray, v19 = .string sg ∧ Aside0 (sg.toList = [91] ∨ sg.toList = [93]) ∧ wr = wx)
          case first =>
            go_wp2 <;> (go_meet; first | exact ⟨_, rfl, ⟨Or.inl s91⟩, rfl⟩ | exact ⟨_, rfl, ⟨Or.inr s93⟩, rfl⟩)
          case rest =>
          obtain ⟨sg, rfl, HSG, rfl⟩ := hcut
          obtain ⟨i023, hi023, _, hsz23, _⟩ := info_parts info35
          obtain ⟨_, hroom, hCx⟩ := Kd.R_reads' HWR.out
          have hp0 : (0 : Int) ≤ (pp : Int) := by omega
          have hp1 : (pp : Int) ≤ ((x8.length : Nat) : Int) := by have := HP.out; omega
          have hcutA := cut_to (P := Tryd.prog) 32 35 .i64 Tryd.underlying32 hi023 Ao x8.length co (pp : Int) hp0 hp1 hroom
          have hcutB := cut_from (P := Tryd.prog) 32 35 .i64 Tryd.underlying32 hi023 3 hsz23 Ao x8.length co (pp : Int) hp0 hp1
          have hCA := Kd.C_take (m := pp) hCx (by omega)
          have hCB := Kd.C_drop (m := pp) (c := co) hCx (by omega) hroom
          rw [Int.toNat_natCast] at hcutA hcutB
          obtain ⟨AB, hAB⟩ : ∃ AB, AB = (if co = pp then Ao else Ao.map (·.add (pp * 3))) := ⟨_, rfl⟩
          replace hCB : Kd.C k35 wr AB (x8.drop pp).length (x8.drop pp) := by rw [hAB]; exact hCB
          rw [← hAB] at hcutB
          have hlA : (x8.take pp).length = pp := by rw [List.length_take]; omega
          have hlB : (x8.drop pp).length = x8.length - pp := List.length_drop
          rw [← hlB] at hcutB
          rw [hlA] at hCA
          obtain ⟨cB, hcB⟩ : ∃ cB, cB = co - pp := ⟨_, rfl⟩
          rw [← hcB] at hcutB
          have HCA := Aside0.mk hCA
          have HCB := Aside0.mk hCB
          have HLA := Aside0.mk hlA
          have HLB := Aside0.mk hlB
          have HP1 := Aside0.mk (show pp ≤ x8.length by omega)
          clear hAB hcB hCA hCB hlA hlB hCx hi023 hsz23 hroom
          replace hp0 := eq_true hp0
          replace hp1 := eq_true hp1
          obtain ⟨ws, hws⟩ : ∃ ws : S35, ws = ⟨0, 0, sg⟩ := ⟨_, rfl⟩
          have HWS := Aside0.mk hws
          clear hws
          obtain ⟨xa, hxa⟩ : ∃ xa, xa = x8.take pp := ⟨_, rfl⟩
          obtain ⟨xb, hxb⟩ : ∃ xb, xb = x8.drop pp := ⟨_, rfl⟩
          rw [← hxa] at HCA HLA
          rw [← hxb] at HCB HLB hcutB
          have HXA := Aside0.mk hxa
          have HXB := Aside0.mk hxb
          clear hxa hxb
          go_upto_region 34 with fail
          refine wp_region_noPanic ?_
          refine wp_region_held_drew (S := (fun _ => True)) (by kernel_rfl) trivial (fun hHeld => ?_)
          refine wpAnyH_take (i := 1) (v := ?_) rfl (by kernel_rfl) (by kernel_rfl) (by kernel_rfl) (fun _ _ _ h => h) (Or.inl ⟨by rfl, ?_⟩) trivial ?_
          rotate_left
          · (intro w hSw; go_simp; try (with_reducible rfl))
          (try simp only [Act.put, List.setIfInBounds_toArray, List.set_cons_zero, List.set_cons_succ])
          refine wpAnyH_take (i := 2) (v := ?_) rfl (by kernel_rfl) (by kernel_rfl) (by kernel_rfl) (fun _ _ _ h => h) (Or.inl ⟨by rfl, ?_⟩) trivial ?_
          rotate_left
          · (intro w hSw; go_simp; try (with_reducible rfl))
          (try simp only [Act.put, List.setIfInBounds_toArray, List.set_cons_zero, List.set_cons_succ])
          refine wpAnyH_take (i := 3) (v := ?_) rfl (by kernel_rfl) (by kernel_rfl) (by kernel_rfl) (fun _ _ _ h => h) (Or.inl ⟨by rfl, ?_⟩) trivial ?_
          rotate_left
          · (intro w hSw; go_simp; try (with_reducible rfl))
          (try simp only [Act.put, List.setIfInBounds_toArray, List.set_cons_zero, List.set_cons_succ])
          refine wpAnyH_take (i := 5) (v := ?_) rfl (by kernel_rfl) (by kernel_rfl) (by kernel_rfl) (fun _ _ _ h => h) (Or.inl ⟨by rfl, ?_⟩) trivial ?_
          rotate_left
          · (intro w hSw; go_simp; try (with_reducible rfl))
          (try simp only [Act.put, List.setIfInBounds_toArray, List.set_cons_zero, List.set_cons_succ])
          refine wpAnyH_take (i := 6) (v := ?_) rfl (by kernel_rfl) (by kernel_rfl) (by kernel_rfl) (fun _ _ _ h => h) (Or.inl ⟨by rfl, ?_⟩) trivial ?_
          rotate_left
          · (intro w hSw; go_simp; try (with_reducible rfl))
          (try simp only [Act.put, List.setIfInBounds_toArray, List.set_cons_zero, List.set_cons_succ])
          refine wpAnyH_take (i := 9) (v := ?_) rfl (by kernel_rfl) (by kernel_rfl) (by kernel_rfl) (fun _ _ _ h => h) (Or.inl ⟨by rfl, ?_⟩) trivial ?_
          rotate_left
          · (intro w hSw; go_simp; try (with_reducible rfl))
          (try simp only [Act.put, List.setIfInBounds_toArray, List.set_cons_zero, List.set_cons_succ])
          refine wpAnyH_take (i := 10) (v := ?_) rfl (by kernel_rfl) (by kernel_rfl) (by kernel_rfl) (fun _ _ _ h => h) (Or.inl ⟨by rfl, ?_⟩) trivial ?_
          rotate_left
          · (intro w hSw; go_simp; try (with_reducible rfl))
          (try simp only [Act.put, List.setIfInBounds_toArray, List.set_cons_zero, List.set_cons_succ])
          refine wpAnyH_take (i := 11) (v := ?_) rfl (by kernel_rfl) (by kernel_rfl) (by kernel_rfl) (fun _ _ _ h => h) (Or.inl ⟨by rfl, ?_⟩) trivial ?_
          rotate_left
          · (intro w hSw; go_simp; try (with_reducible rfl))
          (try simp only [Act.put, List.setIfInBounds_toArray, List.set_cons_zero, List.set_cons_succ])
          have HB5 := Aside0.mk (below_drew (Below.refl wr.heap.size wr))
          refine wpAnyH_ready (rs := [0, 7]) (by kernel_rfl) (by simp) ?_
          refine AllReadyH.cons rfl (fun K hK => ?_) ?_
          · skip
            refine Kd.R_lit_step k35 _ 35 (by rfl) (N := 145) rfl (xs := ([] : List S35)) (inner := []) (ok := fun _ => True) (okp := fun _ => True) ?hr ?hp (fun _ hk => hk) trivial (Below.refl _ _) (Nat.le_refl _) (by simp) ?_
            case hr => first | (go_simp; done) | (go_simp; rfl)
            case hp => exact (Reps.none _ _)
            intro v145 w145 ho145 hb145 hg145 hn145
            have n0_ := Aside0.mk (Kd.R_lower ho145 (below_size HB5.out))
            have n1_ := Aside0.mk (below_step HB5.out hb145)
            clear HB5 
            have HB5 := n1_
            have HM := n0_
            refine hK.out _ _ trivial (fun hHeld => ?_)
            clear hK K
            (try simp only [Act.put, List.setIfInBounds_toArray, List.set_cons_zero, List.set_cons_succ])
            refine wpAnyH_ready (rs := [4, 7]) (by kernel_rfl) (by simp) ?_
            refine AllReadyH.cons rfl (fun K hK => ?_) ?_
            · skip
              refine Kd.R_append_rows_step k35 (w0 := wr) wr.heap.size (by rfl) (.tmp 145) (.tmp 148) 32 35 (.agg #[(.int .i64 0), (.int .i64 0), (.string ⟨#[]⟩)]) 32 (by rfl) Tryd.underlying32 info35 rfl (by decide) (by omega) v145 [] xa Ao pp co (fun _ => True) (fun _ => False) (by kernel_rfl) (by kernel_rfl) (Kd.R_mono HM.out (fun _ _ => trivial)) (show ReadsRow (k35.K _) k35.sz _ Ao pp xa from Kd.C_below HCA.out HB5.out) (fun x cs h => by obtain rfl := k35_open h; exact k35_mkM _ _ _ x) (fun _ h => h.elim) (fun _ _ => trivial) HB5.out (below_size HB5.out) (by have := HLA.out; have := HP1.out; have := HX96.out; simp only [List.length_nil]; omega) ?_
              intro vA w_vA ho hb hg hat
              have n0_ := Aside0.mk hb
              have n1_ := Aside0.mk ho
              clear HB5 HM  hb ho hg hat
              have HB5 := n0_
              have HM := n1_
              refine hK.out _ _ trivial (fun hHeld => ?_)
              clear hK K
              (try simp only [Act.put, List.setIfInBounds_toArray, List.set_cons_zero, List.set_cons_succ])
              refine wpAnyH_ready (rs := [7]) (by kernel_rfl) (by simp) ?_
              refine AllReadyH.cons rfl (fun K hK => ?_) ?_
              · skip
                refine Kd.R_lit_step k35 _ 35 (by rfl) (N := 152) rfl (xs := ([ws] : List S35)) (inner := [.int .i64 0, .int .i64 0, .string sg]) (ok := fun _ => True) (okp := fun _ => True) ?hr ?hp (fun _ hk => hk) trivial (Below.refl _ _) (Nat.le_refl _) (by simp) ?_
                case hr => first | (go_simp; done) | (go_simp; rfl)
                case hp => exact (Reps.c3 (show Kd.M k35 _ _ _ ws [.int .i64 0, .int .i64 0, .string sg] from (by rw [HWS.out]; exact k35_mkM _ _ _ (⟨0, 0, sg⟩ : S35))) (Reps.none _ _))
                intro v152 w152 ho152 hb152 hg152 hn152
                have n0_ := Aside0.mk (Kd.R_lower ho152 (below_size HB5.out))
                have n1_ := Aside0.mk (below_step HB5.out hb152)
                have n2_ := Aside0.mk (Kd.R_elder' HM.out (Kd.R_base ho152) hb152)
                have n3_ := Aside0.mk (Kd.R_lower (Kd.R_new' ho152 (Kd.R_lt HM.out)) (below_size HB5.out))
                clear HB5 HM
                have HB5 := n1_
                have HM := n2_
                have HL := n3_
                refine hK.out _ _ trivial (fun hHeld => ?_)
                clear hK K
                (try simp only [Act.put, List.setIfInBounds_toArray, List.set_cons_zero, List.set_cons_succ])
                refine wpAnyH_ready (rs := [8]) (by kernel_rfl) (by simp) ?_
                refine AllReadyH.cons rfl (fun K hK => ?_) ?_
                · skip
                  obtain ⟨Al, cl, el⟩ := Kd.R_slice HL.out
                  subst el
                  refine Kd.R_append_rows_step k35 (w0 := wr) wr.heap.size (by rfl) (.tmp 149) (.tmp 152) 32 35 (.agg #[(.int .i64 0), (.int .i64 0), (.string ⟨#[]⟩)]) 32 (by rfl) Tryd.underlying32 info35 rfl (by decide) (by omega) vA ([] ++ xa) [ws] Al 1 cl (fun _ => True) (fun _ => False) (by kernel_rfl) (by kernel_rfl) (Kd.R_mono HM.out (fun _ _ => trivial)) (show ReadsRow (k35.K _) k35.sz _ Al 1 [ws] from (Kd.R_reads' HL.out).2.2) (fun x cs h => by obtain rfl := k35_open h; exact k35_mkM _ _ _ x) (fun _ h => h.elim) (fun _ _ => trivial) HB5.out (below_size HB5.out) (by have := HLA.out; have := HP1.out; have := HX96.out; simp only [List.length_append, List.length_nil]; omega) ?_
                  intro vB w_vB ho hb hg hat
                  have n0_ := Aside0.mk hb
                  have n1_ := Aside0.mk ho
                  clear HB5 HM  hb ho hg hat
                  have HB5 := n0_
                  have HM := n1_
                  refine hK.out _ _ trivial (fun hHeld => ?_)
                  clear hK K
                  (try simp only [Act.put, List.setIfInBounds_toArray, List.set_cons_zero, List.set_cons_succ])
                  refine wpAnyH_ready (rs := [12]) (by kernel_rfl) (by simp) ?_
                  refine AllReadyH.cons rfl (fun K hK => ?_) ?_
                  · skip
                    refine Kd.R_append_rows_step k35 (w0 := wr) wr.heap.size (by rfl) (.tmp 153) (.tmp 156) 32 35 (.agg #[(.int .i64 0), (.int .i64 0), (.string ⟨#[]⟩)]) 32 (by rfl) Tryd.underlying32 info35 rfl (by decide) (by omega) vB ([] ++ xa ++ [ws]) xb AB xb.length cB (fun _ => True) (fun _ => False) (by kernel_rfl) (by kernel_rfl) (Kd.R_mono HM.out (fun _ _ => trivial)) (show ReadsRow (k35.K _) k35.sz _ AB xb.length xb from Kd.C_below HCB.out HB5.out) (fun x cs h => by obtain rfl := k35_open h; exact k35_mkM _ _ _ x) (fun _ h => h.elim) (fun _ _ => trivial) HB5.out (below_size HB5.out) (by have := HLA.out; have := HLB.out; have := HP1.out; have := HX96.out; simp only [List.length_append, List.length_nil, List.length_cons]; omega) ?_
                    intro vC w_vC ho hb hg hat
                    have n0_ := Aside0.mk hb
                    have n1_ := Aside0.mk ho
                    clear HB5 HM  hb ho hg hat
                    have HB5 := n0_
                    have HM := n1_
                    refine hK.out _ _ trivial (fun hHeld => ?_)
                    clear hK K
                    (try simp only [Act.put, List.setIfInBounds_toArray, List.set_cons_zero, List.set_cons_succ])
                    refine wpAnyH_ready (rs := [13]) (by kernel_rfl) (by simp) ?_
                    refine AllReadyH.cons rfl (fun K hK => ?_) ?_
                    · skip
                      go_simp
                      refine hK.out _ _ trivial (fun hHeld => ?_)
                      clear hK K
                      (try simp only [Act.put, List.setIfInBounds_toArray, List.set_cons_zero, List.set_cons_succ])
                      refine wpAnyH_done (by kernel_rfl) ?_ _
                      refine NoPanic.normal ?_
                      clear hHeld
                      have hset := sets_odd x8 pp ws (by rw [HSE.out]) (by rw [HWS.out]; exact HSG.out)
                      rw [← HXA.out, ← HXB.out] at hset
                      have hlen : (xa ++ [ws] ++ xb).length < 100000 := by
                        have := HLA.out; have := HLB.out; have := HP1.out; have := HX96.out; simp only [List.length_append, List.length_nil, List.length_cons]; omega
                      obtain ⟨xm, hxm⟩ : ∃ xm, xm = xa ++ [ws] ++ xb := ⟨_, rfl⟩
                      rw [← hxm] at hset hlen
                      obtain ⟨K2, hK2⟩ := (words_sets xm hlen).rounds
                      rw [hset] at hK2
                      have hnil : ([] ++ xa ++ [ws] ++ xb : List S35) = xa ++ [ws] ++ xb := rfl
                      rw [hnil, ← hxm] at HM
                      obtain ⟨Am, cm, em⟩ := Kd.R_slice HM.out
                      subst em
                      have HK2 := Aside0.mk hK2
                      clear hK2 hset hlen hnil hxm
                      go_wp2_with (first | (go_at_call 17; (with_reducible refine (words_Sets.calls K2 _ _ xm [] false _ ?side1 ?side2 HK2.out).mono ?_); (case side1 => repeat (first | exact (Kd.R_reads' HM.out).2.2 | (with_reducible refine Kd.C_alloc ?_ _) | (with_reducible refine Kd.C_drewN ?_ _) | (with_reducible refine Kd.C_drew ?_))); (case side2 => exact (Kd.R_reads' HM.out).2.1); rintro e w9 ⟨vr9, rfl, ho0, hb⟩; have n1_ := Aside0.mk (below_step HB5.out hb); clear HB5 hb; have HB5 := n1_; clear n1_; obtain ⟨Ar9, cr9, er9⟩ := Kd.S_slice ho0; subst er9; clear ho0))
                      go_ret
                      exact ⟨by first | rfl | (simp; done), below_step HBR.out HB5.out⟩
                    exact AllReadyH.nil
                  exact AllReadyH.nil
                exact AllReadyH.nil
              exact AllReadyH.nil
            refine AllReadyH.cons rfl (fun K hK => ?_) ?_
            · skip
              refine Kd.R_lit_step k35 _ 35 (by rfl) (N := 152) rfl (xs := ([ws] : List S35)) (inner := [.int .i64 0, .int .i64 0, .string sg]) (ok := fun _ => True) (okp := fun _ => True) ?hr ?hp (fun _ hk => hk) trivial (Below.refl _ _) (Nat.le_refl _) (by simp) ?_
              case hr => first | (go_simp; done) | (go_simp; rfl)
              case hp => exact (Reps.c3 (show Kd.M k35 _ _ _ ws [.int .i64 0, .int .i64 0, .string sg] from (by rw [HWS.out]; exact k35_mkM _ _ _ (⟨0, 0, sg⟩ : S35))) (Reps.none _ _))
              intro v152 w152 ho152 hb152 hg152 hn152
              have n0_ := Aside0.mk (Kd.R_lower ho152 (below_size HB5.out))
              have n1_ := Aside0.mk (below_step HB5.out hb152)
              have n2_ := Aside0.mk (Kd.R_elder' HM.out (Kd.R_base ho152) hb152)
              have n3_ := Aside0.mk (Kd.R_lower (Kd.R_new' ho152 (Kd.R_lt HM.out)) (below_size HB5.out))
              clear HB5 HM
              have HB5 := n1_
              have HM := n2_
              have HL := n3_
              refine hK.out _ _ trivial (fun hHeld => ?_)
              clear hK K
              (try simp only [Act.put, List.setIfInBounds_toArray, List.set_cons_zero, List.set_cons_succ])
              refine wpAnyH_ready (rs := [4]) (by kernel_rfl) (by simp) ?_
              refine AllReadyH.cons rfl (fun K hK => ?_) ?_
              · skip
                refine Kd.R_append_rows_step k35 (w0 := wr) wr.heap.size (by rfl) (.tmp 145) (.tmp 148) 32 35 (.agg #[(.int .i64 0), (.int .i64 0), (.string ⟨#[]⟩)]) 32 (by rfl) Tryd.underlying32 info35 rfl (by decide) (by omega) v145 [] xa Ao pp co (fun _ => True) (fun _ => False) (by kernel_rfl) (by kernel_rfl) (Kd.R_mono HM.out (fun _ _ => trivial)) (show ReadsRow (k35.K _) k35.sz _ Ao pp xa from Kd.C_below HCA.out HB5.out) (fun x cs h => by obtain rfl := k35_open h; exact k35_mkM _ _ _ x) (fun _ h => h.elim) (fun _ _ => trivial) HB5.out (below_size HB5.out) (by have := HLA.out; have := HP1.out; have := HX96.out; simp only [List.length_nil]; omega) ?_
                intro vA w_vA ho hb hg hat
                have n0_ := Aside0.mk hb
                have n1_ := Aside0.mk ho
                have n2_ := Aside0.mk (Kd.R_after HL.out hg hat)
                clear HB5 HM HL hb ho hg hat
                have HB5 := n0_
                have HM := n1_
                have HL := n2_
                refine hK.out _ _ trivial (fun hHeld => ?_)
                clear hK K
                (try simp only [Act.put, List.setIfInBounds_toArray, List.set_cons_zero, List.set_cons_succ])
                refine wpAnyH_ready (rs := [8]) (by kernel_rfl) (by simp) ?_
                refine AllReadyH.cons rfl (fun K hK => ?_) ?_
                · skip
                  obtain ⟨Al, cl, el⟩ := Kd.R_slice HL.out
                  subst el
                  refine Kd.R_append_rows_step k35 (w0 := wr) wr.heap.size (by rfl) (.tmp 149) (.tmp 152) 32 35 (.agg #[(.int .i64 0), (.int .i64 0), (.string ⟨#[]⟩)]) 32 (by rfl) Tryd.underlying32 info35 rfl (by decide) (by omega) vA ([] ++ xa) [ws] Al 1 cl (fun _ => True) (fun _ => False) (by kernel_rfl) (by kernel_rfl) (Kd.R_mono HM.out (fun _ _ => trivial)) (show ReadsRow (k35.K _) k35.sz _ Al 1 [ws] from (Kd.R_reads' HL.out).2.2) (fun x cs h => by obtain rfl := k35_open h; exact k35_mkM _ _ _ x) (fun _ h => h.elim) (fun _ _ => trivial) HB5.out (below_size HB5.out) (by have := HLA.out; have := HP1.out; have := HX96.out; simp only [List.length_append, List.length_nil]; omega) ?_
                  intro vB w_vB ho hb hg hat
                  have n0_ := Aside0.mk hb
                  have n1_ := Aside0.mk ho
                  clear HB5 HM  hb ho hg hat
                  have HB5 := n0_
                  have HM := n1_
                  refine hK.out _ _ trivial (fun hHeld => ?_)
                  clear hK K
                  (try simp only [Act.put, List.setIfInBounds_toArray, List.set_cons_zero, List.set_cons_succ])
                  refine wpAnyH_ready (rs := [12]) (by kernel_rfl) (by simp) ?_
                  refine AllReadyH.cons rfl (fun K hK => ?_) ?_
                  · skip
                    refine Kd.R_append_rows_step k35 (w0 := wr) wr.heap.size (by rfl) (.tmp 153) (.tmp 156) 32 35 (.agg #[(.int .i64 0), (.int .i64 0), (.string ⟨#[]⟩)]) 32 (by rfl) Tryd.underlying32 info35 rfl (by decide) (by omega) vB ([] ++ xa ++ [ws]) xb AB xb.length cB (fun _ => True) (fun _ => False) (by kernel_rfl) (by kernel_rfl) (Kd.R_mono HM.out (fun _ _ => trivial)) (show ReadsRow (k35.K _) k35.sz _ AB xb.length xb from Kd.C_below HCB.out HB5.out) (fun x cs h => by obtain rfl := k35_open h; exact k35_mkM _ _ _ x) (fun _ h => h.elim) (fun _ _ => trivial) HB5.out (below_size HB5.out) (by have := HLA.out; have := HLB.out; have := HP1.out; have := HX96.out; simp only [List.length_append, List.length_nil, List.length_cons]; omega) ?_
                    intro vC w_vC ho hb hg hat
                    have n0_ := Aside0.mk hb
                    have n1_ := Aside0.mk ho
                    clear HB5 HM  hb ho hg hat
                    have HB5 := n0_
                    have HM := n1_
                    refine hK.out _ _ trivial (fun hHeld => ?_)
                    clear hK K
                    (try simp only [Act.put, List.setIfInBounds_toArray, List.set_cons_zero, List.set_cons_succ])
                    refine wpAnyH_ready (rs := [13]) (by kernel_rfl) (by simp) ?_
                    refine AllReadyH.cons rfl (fun K hK => ?_) ?_
                    · skip
                      go_simp
                      refine hK.out _ _ trivial (fun hHeld => ?_)
                      clear hK K
                      (try simp only [Act.put, List.setIfInBounds_toArray, List.set_cons_zero, List.set_cons_succ])
                      refine wpAnyH_done (by kernel_rfl) ?_ _
                      refine NoPanic.normal ?_
                      clear hHeld
                      have hset := sets_odd x8 pp ws (by rw [HSE.out]) (by rw [HWS.out]; exact HSG.out)
                      rw [← HXA.out, ← HXB.out] at hset
                      have hlen : (xa ++ [ws] ++ xb).length < 100000 := by
                        have := HLA.out; have := HLB.out; have := HP1.out; have := HX96.out; simp only [List.length_append, List.length_nil, List.length_cons]; omega
                      obtain ⟨xm, hxm⟩ : ∃ xm, xm = xa ++ [ws] ++ xb := ⟨_, rfl⟩
                      rw [← hxm] at hset hlen
                      obtain ⟨K2, hK2⟩ := (words_sets xm hlen).rounds
                      rw [hset] at hK2
                      have hnil : ([] ++ xa ++ [ws] ++ xb : List S35) = xa ++ [ws] ++ xb := rfl
                      rw [hnil, ← hxm] at HM
                      obtain ⟨Am, cm, em⟩ := Kd.R_slice HM.out
                      subst em
                      have HK2 := Aside0.mk hK2
                      clear hK2 hset hlen hnil hxm
                      go_wp2_with (first | (go_at_call 17; (with_reducible refine (words_Sets.calls K2 _ _ xm [] false _ ?side1 ?side2 HK2.out).mono ?_); (case side1 => repeat (first | exact (Kd.R_reads' HM.out).2.2 | (with_reducible refine Kd.C_alloc ?_ _) | (with_reducible refine Kd.C_drewN ?_ _) | (with_reducible refine Kd.C_drew ?_))); (case side2 => exact (Kd.R_reads' HM.out).2.1); rintro e w9 ⟨vr9, rfl, ho0, hb⟩; have n1_ := Aside0.mk (below_step HB5.out hb); clear HB5 hb; have HB5 := n1_; clear n1_; obtain ⟨Ar9, cr9, er9⟩ := Kd.S_slice ho0; subst er9; clear ho0))
                      go_ret
                      exact ⟨by first | rfl | (simp; done), below_step HBR.out HB5.out⟩
                    exact AllReadyH.nil
                  exact AllReadyH.nil
                exact AllReadyH.nil
              exact AllReadyH.nil
            exact AllReadyH.nil
          refine AllReadyH.cons rfl (fun K hK => ?_) ?_
          · skip
            refine Kd.R_lit_step k35 _ 35 (by rfl) (N := 152) rfl (xs := ([ws] : List S35)) (inner := [.int .i64 0, .int .i64 0, .string sg]) (ok := fun _ => True) (okp := fun _ => True) ?hr ?hp (fun _ hk => hk) trivial (Below.refl _ _) (Nat.le_refl _) (by simp) ?_
            case hr => first | (go_simp; done) | (go_simp; rfl)
            case hp => exact (Reps.c3 (show Kd.M k35 _ _ _ ws [.int .i64 0, .int .i64 0, .string sg] from (by rw [HWS.out]; exact k35_mkM _ _ _ (⟨0, 0, sg⟩ : S35))) (Reps.none _ _))
            intro v152 w152 ho152 hb152 hg152 hn152
            have n0_ := Aside0.mk (Kd.R_lower ho152 (below_size HB5.out))
            have n1_ := Aside0.mk (below_step HB5.out hb152)
            clear HB5 
            have HB5 := n1_
            have HL := n0_
            refine hK.out _ _ trivial (fun hHeld => ?_)
            clear hK K
            (try simp only [Act.put, List.setIfInBounds_toArray, List.set_cons_zero, List.set_cons_succ])
            refine wpAnyH_ready (rs := [0]) (by kernel_rfl) (by simp) ?_
            refine AllReadyH.cons rfl (fun K hK => ?_) ?_
            · skip
              refine Kd.R_lit_step k35 _ 35 (by rfl) (N := 145) rfl (xs := ([] : List S35)) (inner := []) (ok := fun _ => True) (okp := fun _ => True) ?hr ?hp (fun _ hk => hk) trivial (Below.refl _ _) (Nat.le_refl _) (by simp) ?_
              case hr => first | (go_simp; done) | (go_simp; rfl)
              case hp => exact (Reps.none _ _)
              intro v145 w145 ho145 hb145 hg145 hn145
              have n0_ := Aside0.mk (Kd.R_lower ho145 (below_size HB5.out))
              have n1_ := Aside0.mk (below_step HB5.out hb145)
              have n2_ := Aside0.mk (Kd.R_elder' HL.out (Kd.R_base ho145) hb145)
              clear HB5 HL
              have HB5 := n1_
              have HM := n0_
              have HL := n2_
              refine hK.out _ _ trivial (fun hHeld => ?_)
              clear hK K
              (try simp only [Act.put, List.setIfInBounds_toArray, List.set_cons_zero, List.set_cons_succ])
              refine wpAnyH_ready (rs := [4]) (by kernel_rfl) (by simp) ?_
              refine AllReadyH.cons rfl (fun K hK => ?_) ?_
              · skip
                refine Kd.R_append_rows_step k35 (w0 := wr) wr.heap.size (by rfl) (.tmp 145) (.tmp 148) 32 35 (.agg #[(.int .i64 0), (.int .i64 0), (.string ⟨#[]⟩)]) 32 (by rfl) Tryd.underlying32 info35 rfl (by decide) (by omega) v145 [] xa Ao pp co (fun _ => True) (fun _ => False) (by kernel_rfl) (by kernel_rfl) (Kd.R_mono HM.out (fun _ _ => trivial)) (show ReadsRow (k35.K _) k35.sz _ Ao pp xa from Kd.C_below HCA.out HB5.out) (fun x cs h => by obtain rfl := k35_open h; exact k35_mkM _ _ _ x) (fun _ h => h.elim) (fun _ _ => trivial) HB5.out (below_size HB5.out) (by have := HLA.out; have := HP1.out; have := HX96.out; simp only [List.length_nil]; omega) ?_
                intro vA w_vA ho hb hg hat
                have n0_ := Aside0.mk hb
                have n1_ := Aside0.mk ho
                have n2_ := Aside0.mk (Kd.R_after HL.out hg hat)
                clear HB5 HM HL hb ho hg hat
                have HB5 := n0_
                have HM := n1_
                have HL := n2_
                refine hK.out _ _ trivial (fun hHeld => ?_)
                clear hK K
                (try simp only [Act.put, List.setIfInBounds_toArray, List.set_cons_zero, List.set_cons_succ])
                refine wpAnyH_ready (rs := [8]) (by kernel_rfl) (by simp) ?_
                refine AllReadyH.cons rfl (fun K hK => ?_) ?_
                · skip
                  obtain ⟨Al, cl, el⟩ := Kd.R_slice HL.out
                  subst el
                  refine Kd.R_append_rows_step k35 (w0 := wr) wr.heap.size (by rfl) (.tmp 149) (.tmp 152) 32 35 (.agg #[(.int .i64 0), (.int .i64 0), (.string ⟨#[]⟩)]) 32 (by rfl) Tryd.underlying32 info35 rfl (by decide) (by omega) vA ([] ++ xa) [ws] Al 1 cl (fun _ => True) (fun _ => False) (by kernel_rfl) (by kernel_rfl) (Kd.R_mono HM.out (fun _ _ => trivial)) (show ReadsRow (k35.K _) k35.sz _ Al 1 [ws] from (Kd.R_reads' HL.out).2.2) (fun x cs h => by obtain rfl := k35_open h; exact k35_mkM _ _ _ x) (fun _ h => h.elim) (fun _ _ => trivial) HB5.out (below_size HB5.out) (by have := HLA.out; have := HP1.out; have := HX96.out; simp only [List.length_append, List.length_nil]; omega) ?_
                  intro vB w_vB ho hb hg hat
                  have n0_ := Aside0.mk hb
                  have n1_ := Aside0.mk ho
                  clear HB5 HM  hb ho hg hat
                  have HB5 := n0_
                  have HM := n1_
                  refine hK.out _ _ trivial (fun hHeld => ?_)
                  clear hK K
                  (try simp only [Act.put, List.setIfInBounds_toArray, List.set_cons_zero, List.set_cons_succ])
                  refine wpAnyH_ready (rs := [12]) (by kernel_rfl) (by simp) ?_
                  refine AllReadyH.cons rfl (fun K hK => ?_) ?_
                  · skip
                    refine Kd.R_append_rows_step k35 (w0 := wr) wr.heap.size (by rfl) (.tmp 153) (.tmp 156) 32 35 (.agg #[(.int .i64 0), (.int .i64 0), (.string ⟨#[]⟩)]) 32 (by rfl) Tryd.underlying32 info35 rfl (by decide) (by omega) vB ([] ++ xa ++ [ws]) xb AB xb.length cB (fun _ => True) (fun _ => False) (by kernel_rfl) (by kernel_rfl) (Kd.R_mono HM.out (fun _ _ => trivial)) (show ReadsRow (k35.K _) k35.sz _ AB xb.length xb from Kd.C_below HCB.out HB5.out) (fun x cs h => by obtain rfl := k35_open h; exact k35_mkM _ _ _ x) (fun _ h => h.elim) (fun _ _ => trivial) HB5.out (below_size HB5.out) (by have := HLA.out; have := HLB.out; have := HP1.out; have := HX96.out; simp only [List.length_append, List.length_nil, List.length_cons]; omega) ?_
                    intro vC w_vC ho hb hg hat
                    have n0_ := Aside0.mk hb
                    have n1_ := Aside0.mk ho
                    clear HB5 HM  hb ho hg hat
                    have HB5 := n0_
                    have HM := n1_
                    refine hK.out _ _ trivial (fun hHeld => ?_)
                    clear hK K
                    (try simp only [Act.put, List.setIfInBounds_toArray, List.set_cons_zero, List.set_cons_succ])
                    refine wpAnyH_ready (rs := [13]) (by kernel_rfl) (by simp) ?_
                    refine AllReadyH.cons rfl (fun K hK => ?_) ?_
                    · skip
                      go_simp
                      refine hK.out _ _ trivial (fun hHeld => ?_)
                      clear hK K
                      (try simp only [Act.put, List.setIfInBounds_toArray, List.set_cons_zero, List.set_cons_succ])
                      refine wpAnyH_done (by kernel_rfl) ?_ _
                      refine NoPanic.normal ?_
                      clear hHeld
                      have hset := sets_odd x8 pp ws (by rw [HSE.out]) (by rw [HWS.out]; exact HSG.out)
                      rw [← HXA.out, ← HXB.out] at hset
                      have hlen : (xa ++ [ws] ++ xb).length < 100000 := by
                        have := HLA.out; have := HLB.out; have := HP1.out; have := HX96.out; simp only [List.length_append, List.length_nil, List.length_cons]; omega
                      obtain ⟨xm, hxm⟩ : ∃ xm, xm = xa ++ [ws] ++ xb := ⟨_, rfl⟩
                      rw [← hxm] at hset hlen
                      obtain ⟨K2, hK2⟩ := (words_sets xm hlen).rounds
                      rw [hset] at hK2
                      have hnil : ([] ++ xa ++ [ws] ++ xb : List S35) = xa ++ [ws] ++ xb := rfl
                      rw [hnil, ← hxm] at HM
                      obtain ⟨Am, cm, em⟩ := Kd.R_slice HM.out
                      subst em
                      have HK2 := Aside0.mk hK2
                      clear hK2 hset hlen hnil hxm
                      go_wp2_with (first | (go_at_call 17; (with_reducible refine (words_Sets.calls K2 _ _ xm [] false _ ?side1 ?side2 HK2.out).mono ?_); (case side1 => repeat (first | exact (Kd.R_reads' HM.out).2.2 | (with_reducible refine Kd.C_alloc ?_ _) | (with_reducible refine Kd.C_drewN ?_ _) | (with_reducible refine Kd.C_drew ?_))); (case side2 => exact (Kd.R_reads' HM.out).2.1); rintro e w9 ⟨vr9, rfl, ho0, hb⟩; have n1_ := Aside0.mk (below_step HB5.out hb); clear HB5 hb; have HB5 := n1_; clear n1_; obtain ⟨Ar9, cr9, er9⟩ := Kd.S_slice ho0; subst er9; clear ho0))
                      go_ret
                      exact ⟨by first | rfl | (simp; done), below_step HBR.out HB5.out⟩
                    exact AllReadyH.nil
                  exact AllReadyH.nil
                exact AllReadyH.nil
              exact AllReadyH.nil
            exact AllReadyH.nil
          exact AllReadyH.nil
        | succ k1 =>
          have hj : j < i := by have := HJ.out; omega
          have c8 : decide ((j : Int) < (i : Int)) = true := decide_eq_true (by omega)
          obtain ⟨row, hrm, e1, e2⟩ := HRD.out j hj
          have HRM := Aside0.mk hrm
          clear hrm
          have p0 : (0 : Int) ≤ (j : Int) := by omega
          have q0 : (j : Int) < (l.length : Int) := by omega
          have q2 : (j : Int) < (rows.length : Int) := by omega
          obtain ⟨ad, A1, c1_, ea, hx1, hl1, hi1⟩ := at_L1 HR0.out (j : Int) p0 q0
          cases ea
          rw [e1] at hx1 hl1 hi1
          rw [Int.toNat_natCast] at hx1
          obtain ⟨ad2, A2, c2_, eb, hy1, hl2, hi2⟩ := at_L5 HS.out (j : Int) p0 q2
          cases eb
          rw [e2] at hy1 hl2 hi2
          rw [Int.toNat_natCast] at hy1
          have HR1 := Aside0.mk hi1
          have HR2 := Aside0.mk hi2
          have hx1' := (HB.out.cell (World.block_lt_of_cell? w _ hx1)).trans hx1
          have hx1w := Aside0.mk hx1'
          have hy1w := Aside0.mk hy1
          clear hi1 hi2 hl1 hl2 e1 e2 hx1 hy1 hx1'
          have hrol : (rowOf row).length = min row.length 6 := by unfold rowOf; rw [List.length_map, List.length_take, Nat.min_comm]
          have HROL := Aside0.mk hrol
          obtain ⟨ro, hro⟩ : ∃ ro, ro = rowOf row := ⟨_, rfl⟩
          rw [← hro] at hrol HROL HR2 hy1w
          have HROW := Aside0.mk hro
          clear hro
          have hx1 := (HB4.out.cell (World.block_lt_of_cell? w4 _ hx1w.out)).trans hx1w.out
          have hy1 := (HB4.out.cell (World.block_lt_of_cell? w4 _ hy1w.out)).trans hy1w.out
          have Ew : wrap64 ((j : Int) + 1) = ((j + 1 : Nat) : Int) := wrapc j (by omega)
          have HJI := Aside0.mk hj
          replace p0 := eq_true p0
          replace q0 := eq_true q0
          replace q2 := eq_true q2
          go_upto_region 23 with fail
          go_cut [108] (fun v108 wx => v108 = .bool false ∧ Aside0 (Below w4.heap.size w4 wx))
          case first =>
            by_cases h6 : (6 : Int) < (row.length : Int)
            · have c9 : ((ro.length : Int) != 6) = false := bne_eq_false_iff_eq.mpr (by omega)
              have c10 : (ro.length != 6) = false := bne_eq_false_iff_eq.mpr (by omega)
              clear hrol
              go_wp2
              repeat (go_quiet (fail); try go_wp2)
              go_meet
              exact ⟨by first | rfl | trivial | simp, ⟨(by repeat (first | (with_reducible first | exact HB4.out | apply below_alloc | apply pw_below_drewN | apply below_drew1) | exact HB4.out))⟩⟩
            · have c9 : ((ro.length : Int) != (row.length : Int)) = false := bne_eq_false_iff_eq.mpr (by omega)
              have c10 : (ro.length != row.length) = false := bne_eq_false_iff_eq.mpr (by omega)
              clear hrol
              go_wp2
              repeat (go_quiet (fail); try go_wp2)
              go_meet
              exact ⟨by first | rfl | trivial | simp, ⟨(by repeat (first | (with_reducible first | exact HB4.out | apply below_alloc | apply pw_below_drewN | apply below_drew1) | exact HB4.out))⟩⟩
          case rest =>
          clear HB4 hx1 hy1 hrol
          obtain ⟨rfl, HB4⟩ := hcut
          go_wp2
          go_loopg [17] ro.length (fun kq v17 w' => ∃ n : Nat, v17 = .int .i64 (n : Int) ∧ Aside0 (n + kq = ro.length) ∧ Aside0 (Below w4.heap.size w4 w'))
          case atStart => exact ⟨0, rfl, ⟨by omega⟩, ⟨(by repeat (first | (with_reducible first | exact HB4.out | apply below_alloc | apply pw_below_drewN | apply below_drew1) | exact HB4.out))⟩⟩
          case round =>
            clear HB4
            obtain ⟨n, rfl, HN, HB4⟩ := hrel
            have hx1 := (HB4.out.cell (World.block_lt_of_cell? w4 _ hx1w.out)).trans hx1w.out
            have hy1 := (HB4.out.cell (World.block_lt_of_cell? w4 _ hy1w.out)).trans hy1w.out
            cases gk with
            | zero =>
              have hn : ¬ n < ro.length := by have := HN.out; omega
              have c11 : decide ((n : Int) < (ro.length : Int)) = false := decide_eq_false (by omega)
              go_wp2
              go_roundg k1
              case measure => omega
              case rel => exact ⟨j + 1, (by first | rfl | (rw [Ew]) | (simp [Ew]; done)), ⟨by have := HJ.out; omega⟩, ⟨(by repeat (first | (with_reducible first | exact HB4.out | apply below_alloc | apply pw_below_drewN | apply below_drew1) | exact HB4.out))⟩⟩
            | succ k2 =>
              have hn : n < ro.length := by have := HN.out; omega
              have c11 : decide ((n : Int) < (ro.length : Int)) = true := decide_eq_true (by omega)
              have hnr : n < row.length := by have := HROL.out; omega
              have p1 : (0 : Int) ≤ (n : Int) := by omega
              have q1 : (n : Int) < (row.length : Int) := by omega
              have q3 : (n : Int) < (ro.length : Int) := by omega
              obtain ⟨s, hs⟩ : ∃ s, s = rdOf ByteArray.empty row (n : Int) := ⟨_, rfl⟩
              have hs' : s = row[n] := by rw [hs]; exact rd_at row _ n hnr
              have hsm : s ∈ row := by rw [hs']; exact List.getElem_mem _
              have hf2 : (rd_T35 ro (n : Int)).f2 = nameOf s := by
                rw [HROW.out, hs']
                exact rowOf_at row n hnr (by have := HROL.out; omega)
              obtain ⟨ad3, e3, hx2⟩ := Kd.at_string HR1.out (n : Int) p1 q1
              cases e3
              rw [← hs, Int.toNat_natCast] at hx2
              obtain ⟨ad4, e4, hz0, hz1, hz2⟩ := at_T35 HR2.out (n : Int) p1 q3
              cases e4
              rw [hf2] at hz2
              rw [Int.toNat_natCast] at hz0 hz1 hz2
              clear hz0 hz1
              replace hx2 := (HB.out.cell (World.block_lt_of_cell? w _ hx2)).trans hx2
              replace hx2 := (HB4.out.cell (World.block_lt_of_cell? w4 _ hx2)).trans hx2
              replace hz2 := (HB4.out.cell (World.block_lt_of_cell? w4 _ hz2)).trans hz2
              have HNm := fun W => name_tells s (HSZ.out row HRM.out s hsm) W
              have Ew2 : wrap64 ((n : Int) + 1) = ((n + 1 : Nat) : Int) := wrapc n (by have := HROL.out; omega)
              clear hs hs' hsm hnr hf2
              obtain ⟨nm, hnm⟩ : ∃ nm, nm = nameOf s := ⟨_, rfl⟩
              rw [← hnm] at HNm hz2
              clear hnm
              have c12 : (nm.toList != nm.toList) = false := bne_self_eq_false _
              replace p1 := eq_true p1
              replace q1 := eq_true q1
              replace q3 := eq_true q3
              go_wp2
              repeat (go_quiet ((go_at_call 21; exact Calls.quiet_of ((HNm _).mono fun e w' h => ⟨h.1, h.2.out⟩))); try go_wp2)
              go_roundg k2
              case measure => omega
              case rel => exact ⟨n + 1, (by first | rfl | (rw [Ew2]) | (simp [Ew2]; done)), ⟨by have := HN.out; omega⟩, ⟨(by repeat (first | (with_reducible first | exact HB4.out | apply below_alloc | apply pw_below_drewN | apply below_drew1) | exact HB4.out))⟩⟩
    | succ k1 =>
      have hi : i < many := by have := HI.out; omega
      have c1 : decide ((i : Int) < (many : Int)) = true := decide_eq_true (by omega)
      have p0 : (0 : Int) ≤ (i : Int) := by omega
      have q0 : (i : Int) < (l.length : Int) := by omega
      obtain ⟨row, hrow⟩ : ∃ row, row = rd_L1 l (i : Int) := ⟨_, rfl⟩
      have hrm : row ∈ l := by
        rw [hrow]; unfold rd_L1
        rw [rd_at l _ i (by omega)]
        exact List.getElem_mem _
      have hrt : (l.take (i + 1)).map rowOf = (l.take i).map rowOf ++ [rowOf row] := by
        rw [List.take_add_one, List.getElem?_eq_getElem (by omega), hrow]
        unfold rd_L1
        rw [rd_at l _ i (by omega), List.map_append]
        rfl
      have HRT := Aside0.mk hrt
      have HRM := Aside0.mk hrm
      clear hrt hrm
      obtain ⟨ad, A1, c1_, e1, hx1, hl1, hi1⟩ := at_L1 HR0.out (i : Int) p0 q0
      cases e1
      rw [← hrow] at hx1 hl1 hi1
      rw [Int.toNat_natCast] at hx1
      clear hrow
      have HR1 := Aside0.mk hi1
      have HC1 := Aside0.mk hl1
      clear hi1 hl1
      have hx1w := Aside0.mk hx1
      clear hx1
      obtain ⟨nn, hnn⟩ : ∃ nn, nn = min row.length 6 := ⟨_, rfl⟩
      have HNn := Aside0.mk hnn
      clear hnn
      replace p0 := eq_true p0
      replace q0 := eq_true q0
      have hx1 := (HB.out.cell (World.block_lt_of_cell? w _ hx1w.out)).trans hx1w.out
      have Ew : wrap64 ((i : Int) + 1) = ((i + 1 : Nat) : Int) := wrapc i (by omega)
      have hnn := HNn.out
      go_upto_region 7 with fail
      go_cut [11] (fun v11 wx => v11 = .int .i64 (nn : Int) ∧ wr = wx)
      case first =>
        by_cases h6 : (6 : Int) < (row.length : Int)
        · go_wp2
          go_meet
          exact ⟨congrArg (Value.int .i64) (by omega), rfl⟩
        · go_wp2
          go_meet
          exact ⟨congrArg (Value.int .i64) (by omega), rfl⟩
      case rest =>
      obtain ⟨rfl, rfl⟩ := hcut
      clear hnn
      go_upto_region 8 with fail
      go_cut [12] (fun v12 wx => ∃ b : Bool, v12 = .bool b ∧ Aside0 (b = false → nn = 1) ∧ wr = wx)
      case first =>
        by_cases hn1 : nn = 1
        · subst hn1
          go_wp2
          go_meet
          exact ⟨_, rfl, ⟨fun _ => by first | rfl | trivial⟩, rfl⟩
        · have c2 : ((nn : Int) == 1) = false := beq_eq_false_iff_ne.mpr (by omega)
          have c3 : ((nn : Int) != 1) = true := bne_iff_ne.mpr (by omega)
          have c4 : (nn == 1) = false := beq_eq_false_iff_ne.mpr hn1
          go_wp2
          go_meet
          exact ⟨true, by first | rfl | trivial | simp, ⟨fun h => by cases h⟩, rfl⟩
      case rest =>
        obtain ⟨b, rfl, HBn, rfl⟩ := hcut
        have hNn := HNn.out
        have hXl := HX.out
        have LX := Aside0.mk (show x8.length ≤ 96 by omega)
        have hnr : nn ≤ row.length ∧ nn ≤ 6 := by omega
        have HNR := Aside0.mk hnr
        clear hNn hXl hnr
        go_step
        go_step
        go_cut [8] (fun v8 wx => Aside0 (Kd.R k35 35 wx w.heap.size (fun _ => True) v8 (x8 ++ (if b = true then [opener] else []))) ∧ Aside0 (Below w.heap.size w wx))
        case first =>
          cases b with
          | false =>
            go_wp2
            go_meet
            exact ⟨⟨by simp only [Bool.false_eq_true, if_false, List.append_nil]; (with_reducible repeat (first | apply Kd.R_alloc | apply Kd.R_drewN | apply Kd.R_drew)); exact HW.out⟩, ⟨(by repeat (first | (with_reducible first | exact HB.out | apply below_alloc | apply pw_below_drewN | apply below_drew1) | exact HB.out))⟩⟩
          | true =>
            go_wp2_with (first | ((with_reducible refine gate_builtin (b := .append) (xs := #[.tmp 49, .tmp 51]) rfl ?_); at_builtin; refine Kd.R_append k35 (w0 := w) w.heap.size rfl (.tmp 49) (.tmp 51) 32 35 (.agg #[(.int .i64 0), (.int .i64 0), (.string ⟨#[]⟩)]) 32 rfl Tryd.underlying32 info35 rfl (by decide) (by omega) u8 x8 (opener : S35) [.int .i64 0, .int .i64 0, .string (⟨#[91]⟩ : ByteArray)] (fun _ => True) (fun _ => False) rfl rfl ?aP (fun _ hk => hk.elim) ?aF ?aO ?aB ?aS ?aL ?_; (case aP => exact k35_mkM _ _ _ (opener : S35)); (case aB => exact (by repeat (first | (with_reducible first | exact HB.out | apply below_alloc | apply pw_below_drewN | apply below_drew1) | exact HB.out))); (case aF => exact (fun _ _ => trivial)); (case aO => exact (by (with_reducible repeat (first | apply Kd.R_alloc | apply Kd.R_drewN | apply Kd.R_drew)); exact HW.out)); (case aS => exact (below_size (by repeat (first | (with_reducible first | exact HB.out | apply below_alloc | apply pw_below_drewN | apply below_drew1) | exact HB.out)))); (case aL => have := LX.out; omega); intro v3 w3 ho hb hg hat; have n0_ := Aside0.mk (hb); have n1_ := Aside0.mk (ho); clear HB; clear HW; have HB := n0_; have HW := n1_; clear n0_ n1_; clear ho hb hg hat))
            go_meet
            exact ⟨⟨by simp only [if_true]; (with_reducible repeat (first | apply Kd.R_alloc | apply Kd.R_drewN | apply Kd.R_drew)); exact HW.out⟩, ⟨(by repeat (first | (with_reducible first | exact HB.out | apply below_alloc | apply pw_below_drewN | apply below_drew1) | exact HB.out))⟩⟩
        case rest =>
        clear HB HW hx1
        obtain ⟨HW, HB⟩ := hcut
        go_wp2
        go_loopg [8, 13] nn (fun kq v8 v13 w' => ∃ (j : Nat), v13 = .int .i64 (j : Int) ∧ Aside0 (j + kq = nn) ∧ Aside0 (Kd.R k35 35 w' w.heap.size (fun _ => True) v8 (x8 ++ (if b = true then [opener] else []) ++ (row.take j).map wordOf)) ∧ Aside0 (Below w.heap.size w w'))
        case atStart => exact ⟨0, rfl, ⟨by omega⟩, ⟨by rw [List.take_zero, List.map_nil, List.append_nil]; (with_reducible repeat (first | apply Kd.R_alloc | apply Kd.R_drewN | apply Kd.R_drew)); exact HW.out⟩, ⟨(by repeat (first | (with_reducible first | exact HB.out | apply below_alloc | apply pw_below_drewN | apply below_drew1) | exact HB.out))⟩⟩
        case round =>
          clear HW HB
          obtain ⟨j, rfl, HJ, HW, HB⟩ := hrel
          cases gk with
          | zero =>
            have hj : j = nn := by have := HJ.out; omega
            subst hj
            have c5 : decide ((j : Int) < (j : Int)) = false := decide_eq_false (by omega)
            cases b with
            | false =>
              simp only [Bool.false_eq_true, if_false, List.append_nil] at HW
              go_wp2
              go_roundg k1
              case measure => omega
              case rel =>
                have hrow6 : (row.take j).map wordOf = rowOf row := by
                  have := HNn.out
                  unfold rowOf
                  congr 1
                  rcases Nat.lt_or_ge row.length 6 with h | h
                  · rw [List.take_of_length_le (by omega), List.take_of_length_le (by omega)]
                  · rw [show j = 6 by omega]
                rw [hrow6] at HW
                have hg := goes_item HG.out (rowOf row) false (row_plain row (HSZ.out row HRM.out)) (fun _ => by rw [← hrow6, List.length_map, List.length_take]; have := HBn.out (by first | rfl | trivial); have := HNR.out; omega)
                rw [← HRT.out] at hg
                simp only [Bool.false_eq_true, if_false, if_true, List.append_nil] at hg
                have h1 : (rowOf row).length ≤ 6 := by unfold rowOf; rw [List.length_map, List.length_take]; omega
                have h2 := HX.out
                exact ⟨_, i + 1, (by first | rfl | (rw [Ew]) | (simp [Ew]; done)), ⟨by have := HI.out; omega⟩, ⟨hg⟩, ⟨by simp only [List.length_append, List.length_cons, List.length_nil]; omega⟩, ⟨by (with_reducible repeat (first | apply Kd.R_alloc | apply Kd.R_drewN | apply Kd.R_drew)); exact HW.out⟩, ⟨(by repeat (first | (with_reducible first | exact HB.out | apply below_alloc | apply pw_below_drewN | apply below_drew1) | exact HB.out))⟩⟩
            | true =>
              simp only [if_true] at HW
              have hLy : (x8 ++ [opener] ++ (row.take j).map wordOf).length ≤ 200 := by
                have := LX.out; have := HNR.out
                simp only [List.length_append, List.length_map, List.length_take, List.length_cons, List.length_nil]; omega
              obtain ⟨ys, hys⟩ : ∃ ys, ys = x8 ++ [opener] ++ (row.take j).map wordOf := ⟨_, rfl⟩
              rw [← hys] at HW hLy
              have LY := Aside0.mk hLy
              have HYS := Aside0.mk hys
              clear hLy hys
              go_wp2_with (first | ((with_reducible refine gate_builtin (b := .append) (xs := #[.tmp 71, .tmp 73]) rfl ?_); at_builtin; refine Kd.R_append k35 (w0 := w) w.heap.size rfl (.tmp 71) (.tmp 73) 32 35 (.agg #[(.int .i64 0), (.int .i64 0), (.string ⟨#[]⟩)]) 32 rfl Tryd.underlying32 info35 rfl (by decide) (by omega) u8 ys (closer : S35) [.int .i64 0, .int .i64 0, .string (⟨#[93]⟩ : ByteArray)] (fun _ => True) (fun _ => False) rfl rfl ?aP (fun _ hk => hk.elim) ?aF ?aO ?aB ?aS ?aL ?_; (case aP => exact k35_mkM _ _ _ (closer : S35)); (case aB => exact (by repeat (first | (with_reducible first | exact HB.out | apply below_alloc | apply pw_below_drewN | apply below_drew1) | exact HB.out))); (case aF => exact (fun _ _ => trivial)); (case aO => exact (by (with_reducible repeat (first | apply Kd.R_alloc | apply Kd.R_drewN | apply Kd.R_drew)); exact HW.out)); (case aS => exact (below_size (by repeat (first | (with_reducible first | exact HB.out | apply below_alloc | apply pw_below_drewN | apply below_drew1) | exact HB.out)))); (case aL => have := LY.out; omega); intro v3 w3 ho hb hg hat; have n0_ := Aside0.mk (hb); have n1_ := Aside0.mk (ho); clear HB; clear HW; have HB := n0_; have HW := n1_; clear n0_ n1_; clear ho hb hg hat))
              rw [HYS.out] at HW
              go_roundg k1
              case measure => omega
              case rel =>
                have hrow6 : (row.take j).map wordOf = rowOf row := by
                  have := HNn.out
                  unfold rowOf
                  congr 1
                  rcases Nat.lt_or_ge row.length 6 with h | h
                  · rw [List.take_of_length_le (by omega), List.take_of_length_le (by omega)]
                  · rw [show j = 6 by omega]
                rw [hrow6] at HW
                have hg := goes_item HG.out (rowOf row) true (row_plain row (HSZ.out row HRM.out)) (fun hb => by cases hb)
                rw [← HRT.out] at hg
                simp only [Bool.false_eq_true, if_false, if_true, List.append_nil] at hg
                have h1 : (rowOf row).length ≤ 6 := by unfold rowOf; rw [List.length_map, List.length_take]; omega
                have h2 := HX.out
                exact ⟨_, i + 1, (by first | rfl | (rw [Ew]) | (simp [Ew]; done)), ⟨by have := HI.out; omega⟩, ⟨hg⟩, ⟨by simp only [List.length_append, List.length_cons, List.length_nil]; omega⟩, ⟨by (with_reducible repeat (first | apply Kd.R_alloc | apply Kd.R_drewN | apply Kd.R_drew)); exact HW.out⟩, ⟨(by repeat (first | (with_reducible first | exact HB.out | apply below_alloc | apply pw_below_drewN | apply below_drew1) | exact HB.out))⟩⟩
          | succ j1 =>
            have hj : j < nn := by have := HJ.out; omega
            have c5 : decide ((j : Int) < (nn : Int)) = true := decide_eq_true (by omega)
            have hjr : j < row.length := by have := HNR.out; omega
            have p1 : (0 : Int) ≤ (j : Int) := by omega
            have q1 : (j : Int) < (row.length : Int) := by omega
            obtain ⟨s, hs⟩ : ∃ s, s = rdOf ByteArray.empty row (j : Int) := ⟨_, rfl⟩
            have hs' : s = row[j] := by rw [hs]; exact rd_at row _ j hjr
            have hsm : s ∈ row := by rw [hs']; exact List.getElem_mem _
            obtain ⟨ad2, e2, hx2⟩ := Kd.at_string HR1.out (j : Int) p1 q1
            cases e2
            rw [← hs, Int.toNat_natCast] at hx2
            replace hx2 := (HB.out.cell (World.block_lt_of_cell? w _ hx2)).trans hx2
            have hx1 := (HB.out.cell (World.block_lt_of_cell? w _ hx1w.out)).trans hx1w.out
            have HNm := fun W => name_tells s (HSZ.out row HRM.out s hsm) W
            have HTk := Aside0.mk (show (row.take (j + 1)).map wordOf = (row.take j).map wordOf ++ [wordOf s] by
              rw [List.take_add_one, List.getElem?_eq_getElem hjr, List.map_append, hs']; rfl)
            have Ew2 : wrap64 ((j : Int) + 1) = ((j + 1 : Nat) : Int) := wrapc j (by have := HNR.out; omega)
            have HJN := Aside0.mk hj
            clear hs hs' hsm hjr
            have c5n : decide (j < nn) = true := decide_eq_true hj
            replace p1 := eq_true p1
            replace q1 := eq_true q1
            obtain ⟨nm, hnm⟩ : ∃ nm, nm = nameOf s := ⟨_, rfl⟩
            rw [← hnm] at HNm
            have HNM := Aside0.mk hnm
            clear hnm
            obtain ⟨ys, hys⟩ : ∃ ys, ys = x8 ++ (if b = true then [opener] else []) ++ (row.take j).map wordOf := ⟨_, rfl⟩
            have hLy : ys.length ≤ 200 := by
              have := LX.out; have := HNR.out; have := HJN.out
              rw [hys]
              cases b <;> simp only [List.length_append, List.length_map, List.length_take, List.length_cons, List.length_nil, if_true, if_false, Bool.false_eq_true] <;> omega
            rw [← hys] at HW
            have LY := Aside0.mk hLy
            have HYS := Aside0.mk hys
            clear hLy hys
            go_wp2_with (first | (go_at_call 21; (with_reducible refine (HNm _).mono ?_); rintro e w' ⟨rfl, ⟨nd, rfl⟩⟩) | ((with_reducible refine gate_builtin (b := .append) (xs := #[.tmp 58, .tmp 68]) rfl ?_); at_builtin; refine Kd.R_append k35 (w0 := w) w.heap.size rfl (.tmp 58) (.tmp 68) 32 35 (.agg #[(.int .i64 0), (.int .i64 0), (.string ⟨#[]⟩)]) 32 rfl Tryd.underlying32 info35 rfl (by decide) (by omega) u8 ys (⟨0, 0, nm⟩ : S35) [.int .i64 0, .int .i64 0, .string nm] (fun _ => True) (fun _ => False) rfl rfl ?aP (fun _ hk => hk.elim) ?aF ?aO ?aB ?aS ?aL ?_; (case aP => exact k35_mkM _ _ _ (⟨0, 0, nm⟩ : S35)); (case aB => exact (by repeat (first | (with_reducible first | exact HB.out | apply below_alloc | apply pw_below_drewN | apply below_drew1) | exact HB.out))); (case aF => exact (fun _ _ => trivial)); (case aO => exact (by (with_reducible repeat (first | apply Kd.R_alloc | apply Kd.R_drewN | apply Kd.R_drew)); exact HW.out)); (case aS => exact (below_size (by repeat (first | (with_reducible first | exact HB.out | apply below_alloc | apply pw_below_drewN | apply below_drew1) | exact HB.out)))); (case aL => have := LY.out; omega); intro v3 w3 ho hb hg hat; have n0_ := Aside0.mk (hb); have n1_ := Aside0.mk (ho); clear HB; clear HW; have HB := n0_; have HW := n1_; clear n0_ n1_; clear ho hb hg hat))
            go_roundg j1
            case measure => omega
            case rel =>
              refine ⟨j + 1, (by first | rfl | (rw [Ew2]) | (simp [Ew2]; done)), ⟨by have := HJ.out; omega⟩, ⟨?_⟩, ⟨(by repeat (first | (with_reducible first | exact HB.out | apply below_alloc | apply pw_below_drewN | apply below_drew1) | exact HB.out))⟩⟩
              rw [HTk.out, ← List.append_assoc, ← HYS.out]
              have hq := HW.out
              rw [HNM.out] at hq
              (with_reducible repeat (first | apply Kd.R_alloc | apply Kd.R_drewN | apply Kd.R_drew))
              exact hq

end Go.Proofs.YtenjohemplgnmaaDoor.P
