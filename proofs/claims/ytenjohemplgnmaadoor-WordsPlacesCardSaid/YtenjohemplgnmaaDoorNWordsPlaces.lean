/- The walk of WordsPlaces. -/
import Derived.Test.YtenjohemplgnmaaDoorHPlaces
import Derived.Test.YtenjohemplgnmaaDoorNWordsNames
namespace Go.Proofs.YtenjohemplgnmaaDoor.P
open Go.RowKit Go.Proofs.YtenjohemplgnmaaDoorW.PrintWords Go.Proofs.YtenjohemplgnmaaDoorW.PrintLast Go.Proofs.YtenjohemplgnmaaDoorW.PrintMore
attribute [local go_sem] max2_int min2_int max_two min_two max_three min_three max_four min_four   -- for this text's walks alone
set_option linter.unusedVariables false
set_option linter.unusedSimpArgs false

theorem shown_tells2 (W : World) : Calls Tryd.prog 12 #[] W fun e w' => e = .returned (.bool true) ∧ Below W.heap.size W w' := by
  obtain ⟨k, hk⟩ := shown_true.rounds
  exact L05_shown.calls k true W hk

set_option maxHeartbeats 60000000 in
set_option maxRecDepth 100000 in
theorem places_walk (s : ByteArray) (w : World) : Calls Tryd.prog 6 #[.string s] w fun e w' => e = .returned (.bool true) ∧ Below w.heap.size w w' := by
  obtain ⟨t, ht, htz, hq_⟩ := few_tell s
  clear hq_
  obtain ⟨K, hK⟩ := (lines_ev t (by omega)).rounds
  obtain ⟨rows, hrows⟩ : ∃ rows, rows = rowsOf t := ⟨_, rfl⟩
  have hbd := linesOf_bd t.size (pcs t t.size 0 0) 1 (pcs_size t t.size 0 0)
  have hpl := (pcs_len t t.size 0 0).1
  have hRL : rows.length ≤ 400 := by rw [hrows]; unfold rowsOf; omega
  have hRW : ∀ r ∈ rows, r.length ≤ 400 := fun r hr => by rw [hrows] at hr; have := hbd.2 r hr; omega
  have hPl := rows_of_places t
  rw [← hrows] at hK hPl
  have HT := Aside0.mk ht
  have HK := Aside0.mk hK
  have HTZ := Aside0.mk htz
  have HRL := Aside0.mk hRL
  have HRW := Aside0.mk hRW
  have HPL := Aside0.mk hPl
  clear hrows hbd hpl hRL hRW hPl ht hK htz
  have HB := Aside0.mk (Below.refl w.heap.size w)
  go_enter Tryd.func6, Tryd.ntmps6
  go_upto_region 4 with (first | (go_at_call 12; (with_reducible refine (shown_tells2 _).mono ?_); rintro e w' ⟨rfl, hb⟩; have n0_ := Aside0.mk (below_step (by repeat (first | (with_reducible first | exact HB.out | apply below_alloc | apply pw_below_drewN | apply below_drew1) | exact HB.out)) hb); clear HB hb; have HB := n0_; clear n0_) | (go_at_call 15; (with_reducible refine (L05_few.calls s t _ HT.out).mono ?_); rintro e w' ⟨rfl, hb⟩; have n0_ := Aside0.mk (below_step (by repeat (first | (with_reducible first | exact HB.out | apply below_alloc | apply pw_below_drewN | apply below_drew1) | exact HB.out)) hb); clear HB hb; have HB := n0_; clear n0_) | (go_at_call 14; (with_reducible refine (words_Lines.calls K t rows _ HK.out).mono ?_); rintro e w11 ⟨v5, rfl, ho0, hb⟩; have n0_ := Aside0.mk (below_step (by repeat (first | (with_reducible first | exact HB.out | apply below_alloc | apply pw_below_drewN | apply below_drew1) | exact HB.out)) hb); clear HB; have HO := Aside0.mk ho0; have HB := n0_; clear n0_ ho0 hb))
  obtain ⟨A5, c5, e5⟩ := Kd.S_slice HO.out
  subst e5
  have HB1 := Aside0.mk (Below.refl w11.heap.size w11)
  go_upto_region 5 with (first | ((with_reducible refine gate_dst (N := 21) rfl ?_); refine Kd.R_lit (Kd.int .i64) _ 3 ?hg (N := 21) ?hd (xs := ([0] : List Int)) (inner := [.int .i64 0]) (ok := fun _ => True) (okp := fun _ => True) ?hr ?hp (fun _ hk => hk) trivial (Below.refl _ _) (Nat.le_refl _) (by simp) ?_; (case hd => rfl); (case hg => rfl); (case hr => first | (go_simp; done) | (go_simp; rfl)); (case hp => exact (Reps.one (show Kd.M (Kd.int .i64) _ _ _ 0 [.int .i64 0] from rfl) (Reps.none _ _))); intro v6 w2 ho2 hb2 hg_ hnew_; clear hg_ hnew_; have n0_ := Aside0.mk (Kd.R_lower ho2 (below_size (by repeat (first | (with_reducible first | exact HB1.out | apply below_alloc | apply pw_below_drewN | apply below_drew1) | exact HB1.out)))); have n1_ := Aside0.mk (below_step (by repeat (first | (with_reducible first | exact HB1.out | apply below_alloc | apply pw_below_drewN | apply below_drew1) | exact HB1.out)) hb2); clear HB1; have HW := n0_; have HB1 := n1_; clear n0_ n1_; clear hb2 ho2))
  go_wp2
  go_loopg [6, 7] t.size (fun kq v6 v7 w' => ∃ (x6 : List Int) (i : Int), v7 = .int .i64 i ∧ Aside0 (0 ≤ i ∧ i + kq = t.size) ∧ Aside0 (x6 = stn t i.toNat) ∧ Aside0 (Kd.R (Kd.int .i64) 3 w' w11.heap.size (fun _ => True) v6 x6) ∧ Aside0 (Below w11.heap.size w11 w'))
  case atStart => exact ⟨[0], 0, rfl, ⟨by omega⟩, ⟨rfl⟩, ⟨by (with_reducible repeat (first | apply Kd.R_alloc | apply Kd.R_drewN | apply Kd.R_drew)); exact HW.out⟩, ⟨(by repeat (first | (with_reducible first | exact HB1.out | apply below_alloc | apply pw_below_drewN | apply below_drew1) | exact HB1.out))⟩⟩
  case round =>
    clear HW HB1
    obtain ⟨x6, i, rfl, HI, HX, HW, HB1⟩ := hrel
    have hi0 := HI.out.1
    have hi1 := HI.out.2
    have htz := HTZ.out
    cases gk with
    | zero =>
      have hi : i = (t.size : Int) := by omega
      have HX' : Aside0 (x6 = stn t t.size) := ⟨by rw [HX.out, hi, Int.toNat_natCast]⟩
      clear HX HI
      subst hi
      have c1 : decide ((t.size : Int) < (t.size : Int)) = false := decide_eq_false (by omega)
      clear hi0 hi1 htz
      obtain ⟨A6, c6, e6⟩ := Kd.R_slice HW.out
      subst e6
      have HBW := Aside0.mk (below_step HB.out HB1.out)
      have hCi := (Kd.R_reads' HW.out).2.2
      have hCl := Kd.C_below (Kd.S_reads' HO.out).2.2 HB1.out
      have HCI := Aside0.mk hCi
      have HCL := Aside0.mk hCl
      have HXL : Aside0 (x6.length ≤ 301) := ⟨by have := (stn_len t t.size).2; rw [HX'.out]; have := HTZ.out; omega⟩
      clear hCi hCl HW HO HB HB1 HK HT
      obtain ⟨wo, hwo⟩ : ∃ wo : World, wo = wr := ⟨_, rfl⟩
      subst hwo
      have HB2 := Aside0.mk (Below.refl wo.heap.size wo)
      go_wp2
      go_loopg [8, 9] rows.length (fun kq v8 v9 w' => ∃ (was i : Nat), v8 = .int .i64 (was : Int) ∧ v9 = .int .i64 (i : Int) ∧ Aside0 (i + kq = rows.length) ∧ Aside0 (RowsS t x6 was (rows.drop i)) ∧ Aside0 (Below wo.heap.size wo w'))
      case atStart => exact ⟨0, 0, rfl, rfl, ⟨by omega⟩, ⟨by rw [HX'.out]; exact HPL.out⟩, ⟨(by repeat (first | (with_reducible first | exact HB2.out | apply below_alloc | apply pw_below_drewN | apply below_drew1) | exact HB2.out))⟩⟩
      case round =>
        clear HB2
        obtain ⟨was, i, rfl, rfl, HI, HRS, HB2⟩ := hrel
        have hi1 := HI.out
        cases gk with
        | zero =>
          have hi : i = rows.length := by omega
          have c2 : decide ((i : Int) < (rows.length : Int)) = false := decide_eq_false (by omega)
          have c3 : decide (i < rows.length) = false := decide_eq_false (by omega)
          clear hi hi1
          go_wp2
          go_ret
          exact ⟨rfl, below_step HBW.out (by repeat (first | (with_reducible first | exact HB2.out | apply below_alloc | apply pw_below_drewN | apply below_drew1) | exact HB2.out))⟩
        | succ k1 =>
          obtain ⟨wm, hwm⟩ : ∃ wm : World, wm = wr := ⟨_, rfl⟩
          subst hwm
          have hlt : i < rows.length := by omega
          obtain ⟨r, hr⟩ : ∃ r, r = rows[i] := ⟨_, rfl⟩
          have hrm : r ∈ rows := by rw [hr]; exact List.getElem_mem _
          have hdr : rows.drop i = r :: rows.drop (i + 1) := by rw [hr]; exact List.drop_eq_getElem_cons hlt
          have hrs := HRS.out
          rw [hdr] at hrs
          obtain ⟨hne, n, base, hwn, hnl, hst, hLS, hrest⟩ := hrs
          have hr400 := HRW.out r hrm
          have hrd : rd_L5 rows (i : Int) = r := by rw [hr]; exact rd_at rows _ i hlt
          have p1 : (0 : Int) ≤ (i : Int) := by omega
          have q1 : (i : Int) < (rows.length : Int) := by omega
          obtain ⟨adl, Ar, cr, el, hxl, hlr, hCr⟩ := at_L5 HCL.out (i : Int) p1 q1
          subst el
          rw [hrd] at hxl hlr hCr
          rw [Int.toNat_natCast] at hxl
          have hlen0 : 0 < r.length := List.length_pos_iff.2 hne
          obtain ⟨adr, er, hx0, hx1, hx2⟩ := at_T35 hCr (0 : Int) (by omega) (by omega)
          subst er
          have hrd0 : (rd_T35 r 0).f0 = (n : Int) := by
            obtain ⟨x, xs, hxx⟩ := List.exists_cons_of_ne_nil hne
            rw [hxx] at hLS ⊢
            exact hLS.1.1
          rw [hrd0] at hx0
          rw [show ((0 : Int)).toNat = 0 from rfl, Nat.zero_mul, Addr.add_zero'] at hx0
          have HCR := Aside0.mk hCr
          have HLS := Aside0.mk hLS
          have HRE := Aside0.mk hrest
          have HST := Aside0.mk hst
          have HLR := Aside0.mk hr400
          have HXL1 := Aside0.mk hxl
          replace hxl := (HB2.out.cell (World.block_lt_of_cell? wo _ hxl)).trans hxl
          replace hx0 := (HB2.out.cell (World.block_lt_of_cell? wo _ hx0)).trans hx0
          clear hCr hLS hrest hst hdr hrd hrd0 hne hx1 hx2 hrm hr HRS
          have HWN := Aside0.mk hwn
          have HNL := Aside0.mk hnl
          have HIL := Aside0.mk hi1
          have HR0 := Aside0.mk hlen0
          have c2 : decide ((i : Int) < (rows.length : Int)) = true := decide_eq_true (by omega)
          have c2n : decide (i < rows.length) = true := decide_eq_true (by omega)
          have c3 : ((r.length : Int) == 0) = false := beq_eq_false_iff_ne.mpr (by omega)
          have c3n : (r.length == 0) = false := beq_eq_false_iff_ne.mpr (by omega)
          have c4 : decide ((n : Int) ≤ (was : Int)) = false := decide_eq_false (by omega)
          have c4n : decide (n ≤ was) = false := decide_eq_false (by omega)
          have hXL := HXL.out
          have c5 : decide ((n : Int) > (x6.length : Int)) = false := decide_eq_false (by omega)
          have c5n : decide (x6.length < n) = false := decide_eq_false (by omega)
          have q0 : (0 : Int) < (r.length : Int) := by omega
          replace p1 := eq_true p1
          replace q1 := eq_true q1
          replace q0 := eq_true q0
          have q0n : (0 < r.length) = True := eq_true hlen0
          clear hwn hnl hi1 hlen0 hlt hXL
          go_wp2
          go_loopg [11, 12] r.length (fun kq v11 v12 w' => ∃ (at_ : Int) (k : Nat), v11 = .int .i64 at_ ∧ v12 = .int .i64 (k : Int) ∧ Aside0 (k + kq = r.length) ∧ Aside0 (-1 ≤ at_ ∧ at_ ≤ 300) ∧ Aside0 (LineS t base (n : Int) at_ (r.drop k)) ∧ Aside0 (Below wo.heap.size wo w'))
          case atStart => exact ⟨-1, 0, rfl, rfl, ⟨by omega⟩, ⟨by omega⟩, ⟨HLS.out⟩, ⟨(by repeat (first | (with_reducible first | exact HB2.out | apply below_alloc | apply pw_below_drewN | apply below_drew1) | exact HB2.out))⟩⟩
          case round =>
            clear HB2 HLS hx0 hxl
            obtain ⟨at_, k, rfl, rfl, HKQ, HAT, HLS, HB2⟩ := hrel
            have hk1 := HKQ.out
            cases gk with
            | zero =>
              have c6 : decide ((k : Int) < (r.length : Int)) = false := decide_eq_false (by omega)
              have c6n : decide (k < r.length) = false := decide_eq_false (by omega)
              have Ewi : wrap64 ((i : Int) + 1) = ((i + 1 : Nat) : Int) := wrapc i (by have := HIL.out; have := HRL.out; omega)
              clear hk1
              have hxl := HXL1.out
              replace hxl := (HB2.out.cell (World.block_lt_of_cell? wo _ hxl)).trans hxl
              go_wp2
              go_roundg k1
              case measure => omega
              case rel => exact ⟨n, i + 1, rfl, (by first | rfl | (rw [Ewi]) | (simp [Ewi]; done)), ⟨by have := HIL.out; omega⟩, ⟨HRE.out⟩, ⟨(by repeat (first | (with_reducible first | exact HB2.out | apply below_alloc | apply pw_below_drewN | apply below_drew1) | exact HB2.out))⟩⟩
            | succ j1 =>
              obtain ⟨wk, hwk⟩ : ∃ wk : World, wk = wr := ⟨_, rfl⟩
              subst hwk
              have hkl : k < r.length := by omega
              obtain ⟨x, hx⟩ : ∃ x, x = r[k] := ⟨_, rfl⟩
              have hdr : r.drop k = x :: r.drop (k + 1) := by rw [hx]; exact List.drop_eq_getElem_cons hkl
              have hls := HLS.out
              rw [hdr] at hls
              obtain ⟨⟨hf0, a, b, hf1, hf2, hata, hab, hbs, hbl, hin⟩, hrest⟩ := hls
              have hrd : rd_T35 r (k : Int) = x := by rw [hx]; exact rd_at r _ k hkl
              have p1 : (0 : Int) ≤ (k : Int) := by omega
              have q1 : (k : Int) < (r.length : Int) := by omega
              obtain ⟨adr', er, hx0, hx1, hx2⟩ := at_T35 HCR.out (k : Int) p1 q1
              obtain rfl : adr = adr' := Option.some.inj er
              clear er
              rw [hrd] at hx0 hx1 hx2
              rw [hf0, Int.toNat_natCast] at hx0
              rw [hf1, Int.toNat_natCast] at hx1
              rw [Int.toNat_natCast] at hx2
              obtain ⟨tx, htx⟩ : ∃ tx, tx = x.f2 := ⟨_, rfl⟩
              rw [← htx] at hx2 hf2 hrest
              rw [hf1] at hrest
              have htz := HTZ.out
              have hts : tx.size = b - a := by rw [hf2, ByteArray.size_extract]; omega
              have HN1 := HNL.out
              have HW1 := HWN.out
              have hst := HST.out
              have p2 : (0 : Int) ≤ (n : Int) - 1 := by omega
              have q2 : (n : Int) - 1 < (x6.length : Int) := by omega
              obtain ⟨ad6, e6, hb0⟩ := Kd.at_int HCI.out ((n : Int) - 1) p2 q2
              subst e6
              have hxl := HXL1.out
              replace hxl := (HB2.out.cell (World.block_lt_of_cell? wo _ hxl)).trans hxl
              replace hx0 := (HB2.out.cell (World.block_lt_of_cell? wo _ hx0)).trans hx0
              replace hx1 := (HB2.out.cell (World.block_lt_of_cell? wo _ hx1)).trans hx1
              replace hx2 := (HB2.out.cell (World.block_lt_of_cell? wo _ hx2)).trans hx2
              replace hb0 := (HB2.out.cell (World.block_lt_of_cell? wo _ hb0)).trans hb0
              have hbase : rd x6 ((n : Int) - 1) = (base : Int) := by
                unfold rd
                rw [show ((n : Int) - 1).toNat = n - 1 from by omega, List.getD_eq_getElem?_getD, hst]
                rfl
              rw [hbase, show ((n : Int) - 1).toNat = n - 1 from by omega] at hb0
              have p3 : (1 ≤ (n : Int)) = True := eq_true (by omega)
              have HF2 := Aside0.mk hf2
              have HTS := Aside0.mk hts
              have HIN := Aside0.mk hin
              have HBL := Aside0.mk hbl
              have HRT := Aside0.mk hrest
              have HBD := Aside0.mk (show at_ < (a : Int) ∧ a < b ∧ base + b ≤ t.size ∧ t.size ≤ 300 from ⟨hata, hab, hbs, htz⟩)
              have HK2 := Aside0.mk hk1
              have c2 : decide ((k : Int) < (r.length : Int)) = true := decide_eq_true q1
              have c2n : decide (k < r.length) = true := decide_eq_true hkl
              have w1 : IntKind.i64.wrap ((n : Int) - 1) = (n : Int) - 1 := IntWalk.i64_in _ (by have := HXL.out; omega)
              have w2 : IntKind.i64.wrap ((base : Int) + (a : Int)) = (base : Int) + (a : Int) := IntWalk.i64_in _ (by omega)
              replace p1 := eq_true p1
              replace q1 := eq_true q1
              replace p2 := eq_true p2
              replace q2 := eq_true q2
              clear hbase hst hf0 hf1 hf2 hin hbl hbs hab hata hts hdr hrd hx htx HW1 HN1 htz hkl hk1 hrest
              go_upto_region 25 with fail
              have hb0a := (((Below.refl wk.heap.size wk).alloc (Nat.le_refl _) (.cells #[.int .i64 (n : Int), .int .i64 (a : Int), .string tx] 35)).cell (World.block_lt_of_cell? wk _ hb0)).trans hb0
              go_quiet (fail)
              clear w1 w2
              have HBD1 := HBD.out
              have HTS1 := HTS.out
              have HIN1 := HIN.out
              have ne0 : (tx.toList = []) = False := eq_false (by rw [Lib.toList_data]; intro h; have := congrArg List.length h; rw [Array.length_toList] at this; change tx.size = 0 at this; omega)
              have ne1 : tx.toList.isEmpty = false := by rw [Lib.toList_data]; cases h : tx.data.toList with
                | nil => exfalso; have := congrArg List.length h; rw [Array.length_toList] at this; change tx.size = 0 at this; omega
                | cons y ys => rfl
              have d1 : decide ((a : Int) ≤ at_) = false := decide_eq_false (by omega)
              have d2 : decide ((a : Int) < 0) = false := decide_eq_false (by omega)
              have w3 : IntKind.i64.wrap ((base : Int) + (a : Int) + (tx.size : Int)) = (base : Int) + (a : Int) + (tx.size : Int) := IntWalk.i64_in _ (by omega)
              have d3 : decide ((base : Int) + (a : Int) + (tx.size : Int) > (t.size : Int)) = false := decide_eq_false (by omega)
              have d3' : decide ((t.size : Int) < (base : Int) + (a : Int) + (tx.size : Int)) = false := decide_eq_false (by omega)
              have b1 : ((0 : Int) ≤ (base : Int) + (a : Int)) = True := eq_true (by omega)
              have b2 : ((base : Int) + (a : Int) ≤ (base : Int) + (a : Int) + (tx.size : Int)) = True := eq_true (by omega)
              have b3 : ((base : Int) + (a : Int) + (tx.size : Int) ≤ (t.size : Int)) = True := eq_true (by omega)
              have eqt : ((t.extract (base + a) (base + a + tx.size)).toList == tx.toList) = true := by rw [show base + a + tx.size = base + b from by omega, ← HF2.out]; exact beq_self_eq_true _
              clear HTS1 HBD1 HIN1
              go_upto_region 26 with fail
              go_quiet (fail)
              clear w3 d1 d2 d3 d3' b1 b2 b3 ne0 ne1 hx0 hxl hb0 hb0a
              have HBA := Aside0.mk (below_step HB2.out ((Below.refl wk.heap.size wk).alloc (Nat.le_refl _) (.cells #[.int .i64 (n : Int), .int .i64 (a : Int), .string tx] 35)))
              have HBL1 := HBL.out
              have HBD1 := HBD.out
              go_upto_region 28 with fail
              go_cut [149] (fun v149 wx => v149 = .bool false ∧ Aside0 (wx.cell? ⟨wk.heap.size, 1, none⟩ = some (.int .i64 (a : Int))) ∧ Aside0 (wx.cell? ⟨wk.heap.size, 2, none⟩ = some (.string tx)) ∧ Aside0 (Below wo.heap.size wo wx))
              case first =>
                rcases Nat.eq_zero_or_pos a with ha | ha
                · have g1 : decide ((a : Int) > 0) = false := decide_eq_false (by omega)
                  have g1n : decide (0 < a) = false := decide_eq_false (by omega)
                  have g1i : decide ((0 : Int) < (a : Int)) = false := decide_eq_false (by omega)
                  clear HBL1 HBD1 ha
                  go_wp2
                  go_meet
                  exact ⟨rfl, ⟨by first | (go_simp; done) | simp⟩, ⟨by first | (go_simp; done) | simp⟩, ⟨(by repeat (first | (with_reducible first | exact HBA.out | apply pw_below_drewN | apply below_drew1) | exact HBA.out))⟩⟩
                · have hb := HBL1 ha
                  have hlt9 : base + a - 1 < t.size := by omega
                  have g1 : decide ((a : Int) > 0) = true := decide_eq_true (by omega)
                  have g1n : decide (0 < a) = true := decide_eq_true (by omega)
                  have g1i : decide ((0 : Int) < (a : Int)) = true := decide_eq_true (by omega)
                  have p4 : ((0 : Int) ≤ (base : Int) + (a : Int) - 1) = True := eq_true (by omega)
                  have p5 : ((1 : Int) ≤ (base : Int) + (a : Int)) = True := eq_true (by omega)
                  have p6 : ((base : Int) + (a : Int) - 1 < (t.size : Int)) = True := eq_true (by omega)
                  have l1 : (base : Int) + (a : Int) ≤ 300 := by omega
                  rw [bt_cast t _ hlt9] at hb
                  have hv : ∀ c : Int, ((t[base + a - 1]'hlt9).toNat : Int) = c → ∀ h : base + a - 1 < t.size, ((t[base + a - 1]'h).toNat : Int) = c := fun c hc h => hc
                  clear HBL1 HBD1 ha
                  rcases hb with hb | hb
                  · have hv1 := hv 32 hb
                    clear hb hv hlt9
                    go_wp2
                    go_meet
                    exact ⟨rfl, ⟨by first | (go_simp; done) | simp⟩, ⟨by first | (go_simp; done) | simp⟩, ⟨(by repeat (first | (with_reducible first | exact HBA.out | apply pw_below_drewN | apply below_drew1) | exact HBA.out))⟩⟩
                  · have hv1 := hv 9 hb
                    clear hb hv hlt9
                    go_wp2
                    go_meet
                    exact ⟨rfl, ⟨by first | (go_simp; done) | simp⟩, ⟨by first | (go_simp; done) | simp⟩, ⟨(by repeat (first | (with_reducible first | exact HBA.out | apply pw_below_drewN | apply below_drew1) | exact HBA.out))⟩⟩
              case rest =>
                clear HBL1 HBD1 HBA HB2
                obtain ⟨rfl, HX1, HX2, HB2⟩ := hcut
                have HX1o := HX1
                have HX2o := HX2
                clear HX1 HX2
                have hx1 := HX1o.out
                have hx2 := HX2o.out
                have HBD2 := HBD.out
                go_wp2
                go_loopg [15] tx.size (fun kq v15 w' => ∃ jj : Int, v15 = .int .i64 jj ∧ Aside0 (0 ≤ jj ∧ jj + kq = tx.size) ∧ Aside0 (w'.cell? ⟨wk.heap.size, 1, none⟩ = some (.int .i64 (a : Int))) ∧ Aside0 (w'.cell? ⟨wk.heap.size, 2, none⟩ = some (.string tx)) ∧ Aside0 (Below wo.heap.size wo w'))
                case atStart => exact ⟨0, rfl, ⟨by omega⟩, ⟨by (try simp only [World.cell?_drew]); first | exact HX1o.out | (go_simp; done)⟩, ⟨by (try simp only [World.cell?_drew]); first | exact HX2o.out | (go_simp; done)⟩, ⟨(by repeat (first | (with_reducible first | exact HB2.out | apply below_alloc | apply pw_below_drewN | apply below_drew1) | exact HB2.out))⟩⟩
                case round =>
                  clear HB2 HX1o HX2o hx1 hx2
                  obtain ⟨jj, rfl, HJ, HX1, HX2, HB2⟩ := hrel
                  have hx1 := HX1.out
                  have hx2 := HX2.out
                  have hj0 := HJ.out.1
                  have hj1 := HJ.out.2
                  have hts := HTS.out
                  cases gk with
                  | zero =>
                    have hj : jj = (tx.size : Int) := by omega
                    clear HJ
                    subst hj
                    have c7 : decide ((tx.size : Int) < (tx.size : Int)) = false := decide_eq_false (by omega)
                    have c7n : decide (tx.size < tx.size) = false := decide_eq_false (by omega)
                    have Ewk : wrap64 ((k : Int) + 1) = ((k + 1 : Nat) : Int) := wrapc k (by have := HK2.out; have := HLR.out; omega)
                    have l2 : (a : Int) + (tx.size : Int) ≤ 300 := by omega
                    clear hj0 hj1 hts HBD2
                    go_wp2
                    go_roundg j1
                    case measure => omega
                    case rel => exact ⟨(a : Int) + (tx.size : Int), k + 1, rfl, (by first | rfl | (rw [Ewk]) | (simp [Ewk]; done)), ⟨by have := HK2.out; omega⟩, ⟨by have := HBD.out; omega⟩, ⟨HRT.out⟩, ⟨(by repeat (first | (with_reducible first | exact HB2.out | apply below_alloc | apply pw_below_drewN | apply below_drew1) | exact HB2.out))⟩⟩
                  | succ m1 =>
                    have hlt : jj < (tx.size : Int) := by omega
                    have hin := HIN.out (a + jj.toNat) (by omega) (by omega)
                    have hbt : bt tx jj = bt t ((base + (a + jj.toNat) : Nat) : Int) := by
                      rw [show jj = ((jj.toNat : Nat) : Int) from by omega, HF2.out, bt_extract t (base + a) (base + b) jj.toNat (by omega) (by omega), Int.toNat_natCast]
                      congr 2
                      omega
                    rw [← hbt] at hin
                    have e0 : (bt tx jj == 32) = false := beq_eq_false_iff_ne.mpr hin.1
                    have e1 : (bt tx jj == 9) = false := beq_eq_false_iff_ne.mpr hin.2.1
                    have e2 : (bt tx jj == 10) = false := beq_eq_false_iff_ne.mpr hin.2.2.1
                    have e3 : (bt tx jj == 35) = false := beq_eq_false_iff_ne.mpr hin.2.2.2
                    have c7 : decide (jj < (tx.size : Int)) = true := decide_eq_true hlt
                    have hw9 : wrap64 (jj + 1) = jj + 1 := by unfold wrap64; omega
                    have l2 : jj ≤ 300 := by omega
                    have hx7 := bt_at tx jj
                    have p7 := eq_true hj0
                    have q7 := eq_true hlt
                    clear hbt hin hlt hj0 hj1 hts HBD2
                    go_wp2
                    go_roundg m1
                    case measure => omega
                    case rel => exact ⟨jj + 1, (by first | rfl | (rw [hw9]) | (simp [hw9]; done)), ⟨by have := HJ.out; omega⟩, HX1, HX2, ⟨(by repeat (first | (with_reducible first | exact HB2.out | apply below_alloc | apply pw_below_drewN | apply below_drew1) | exact HB2.out))⟩⟩
    | succ k1 =>
      have hlt : i < (t.size : Int) := by omega
      have c1 : decide (i < (t.size : Int)) = true := decide_eq_true hlt
      have hw1 : wrap64 (i + 1) = i + 1 := by unfold wrap64; omega
      have hnn : (i + 1).toNat = i.toNat + 1 := by omega
      have hst : stn t (i + 1).toNat = if bt t i = 10 then x6 ++ [i + 1] else x6 := by
        rw [hnn]
        show (if bt t (i.toNat : Int) = 10 then stn t i.toNat ++ [((i.toNat + 1 : Nat) : Int)] else stn t i.toNat) = _
        rw [HX.out, show ((i.toNat : Nat) : Int) = i from by omega, show ((i.toNat + 1 : Nat) : Int) = i + 1 from by omega]
      have hxl : x6.length ≤ 301 := by have := (stn_len t i.toNat).2; rw [HX.out]; omega
      have HXL := Aside0.mk hxl
      have hx7 := bt_at t i
      have p7 := eq_true hi0
      have q7 := eq_true hlt
      clear hnn hxl hlt hi0 hi1 htz
      by_cases c8 : bt t i = 10
      · rw [if_pos c8] at hst
        have HST := Aside0.mk hst
        clear hst
        have c8b0 : ((bt t i) == 10) = true := beq_iff_eq.mpr c8
        have c8b1 : ((bt t i) != 10) = false := bne_eq_false_iff_eq.mpr c8
        clear c8
        go_wp2_with (first | ((with_reducible refine gate_builtin (b := .append) (xs := #[.tmp 32, .tmp 35]) rfl ?_); at_builtin; refine Kd.R_append (Kd.int .i64) (w0 := w11) w11.heap.size rfl (.tmp 32) (.tmp 35) 44 3 (.int .i64 0) 8 rfl Tryd.underlying44 info3 rfl (by decide) (by omega) u6 x6 (i + 1) [.int .i64 (i + 1)] (fun _ => True) (fun _ => False) rfl rfl ?aP (fun _ hk => hk.elim) ?aF ?aO ?aB ?aS ?aL ?_; (case aP => exact rfl); (case aB => exact (by repeat (first | (with_reducible first | exact HB1.out | apply below_alloc | apply pw_below_drewN | apply below_drew1) | exact HB1.out))); (case aF => exact (fun _ _ => trivial)); (case aO => exact (by (with_reducible repeat (first | apply Kd.R_alloc | apply Kd.R_drewN | apply Kd.R_drew)); exact HW.out)); (case aS => exact (below_size (by repeat (first | (with_reducible first | exact HB1.out | apply below_alloc | apply pw_below_drewN | apply below_drew1) | exact HB1.out)))); (case aL => have := HXL.out; omega); intro v3 w3 ho hb hg hat; have n0_ := Aside0.mk (hb); have n1_ := Aside0.mk (ho); clear HB1; clear HW; have HB1 := n0_; have HW := n1_; clear n0_ n1_; clear ho hb hg hat))
        go_roundg k1
        case measure => omega
        case rel => exact ⟨x6 ++ [i + 1], i + 1, (by first | rfl | (rw [hw1]) | (simp [hw1]; done)), ⟨by have := HI.out; omega⟩, ⟨HST.out.symm⟩, ⟨by (with_reducible repeat (first | apply Kd.R_alloc | apply Kd.R_drewN | apply Kd.R_drew)); exact HW.out⟩, ⟨(by repeat (first | (with_reducible first | exact HB1.out | apply below_alloc | apply pw_below_drewN | apply below_drew1) | exact HB1.out))⟩⟩
      · rw [if_neg c8] at hst
        have HST := Aside0.mk hst
        clear hst
        have c8b0 : ((bt t i) == 10) = false := beq_eq_false_iff_ne.mpr c8
        have c8b1 : ((bt t i) != 10) = true := bne_iff_ne.mpr c8
        clear c8
        go_wp2
        go_roundg k1
        case measure => omega
        case rel => exact ⟨x6, i + 1, (by first | rfl | (rw [hw1]) | (simp [hw1]; done)), ⟨by have := HI.out; omega⟩, ⟨HST.out.symm⟩, ⟨by (with_reducible repeat (first | apply Kd.R_alloc | apply Kd.R_drewN | apply Kd.R_drew)); exact HW.out⟩, ⟨(by repeat (first | (with_reducible first | exact HB1.out | apply below_alloc | apply pw_below_drewN | apply below_drew1) | exact HB1.out))⟩⟩

end Go.Proofs.YtenjohemplgnmaaDoor.P
