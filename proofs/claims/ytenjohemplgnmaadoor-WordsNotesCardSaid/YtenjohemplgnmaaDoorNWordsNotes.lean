/- The walk of WordsNotes. -/
import Derived.Test.YtenjohemplgnmaaDoorHNotes
namespace Go.Proofs.YtenjohemplgnmaaDoor.P
open Go.RowKit Go.Proofs.YtenjohemplgnmaaDoorW.PrintWords Go.Proofs.YtenjohemplgnmaaDoorW.PrintLast Go.Proofs.YtenjohemplgnmaaDoorW.PrintMore
attribute [local go_sem] max2_int min2_int max_two min_two max_three min_three max_four min_four   -- for this text's walks alone
set_option linter.unusedVariables false
set_option linter.unusedSimpArgs false

def seven : ByteArray := ⟨#[32, 32, 32, 32, 32, 32, 32]⟩
theorem seven_size : seven.size = 7 := rfl
theorem seven_blanks (k : Nat) (h8 : k ≤ 7) : (∀ j : Nat, j < (seven.extract 0 k).size → bt (seven.extract 0 k) (j : Int) = 32) ∧ (seven.extract 0 k).size ≤ 7 := by
  have hs : (seven.extract 0 k).size = k := by rw [ByteArray.size_extract, seven_size]; omega
  refine ⟨fun j hj => ?_, by omega⟩
  rw [bt_extract seven 0 k j (by rw [seven_size]; omega) (by omega), Nat.zero_add]
  have hj8 : j < 7 := by omega
  match j, hj8 with
  | 0, _ => rfl
  | 1, _ => rfl
  | 2, _ => rfl
  | 3, _ => rfl
  | 4, _ => rfl
  | 5, _ => rfl
  | 6, _ => rfl

theorem noend_more (s c : ByteArray) (i : Int) (h0 : 0 ≤ i) (h1 : i < s.size) (hc : NoEnd c) (hb : bt s i ≠ 10) : NoEnd (c ++ s.extract i.toNat (i + 1).toNat) := by
  obtain ⟨n, rfl⟩ := Int.eq_ofNat_of_zero_le h0
  refine noend_app c _ hc (fun j hj => ?_)
  rw [show ((n : Int) + 1).toNat = n + 1 from by omega, Int.toNat_natCast] at hj ⊢
  rw [ByteArray.size_extract] at hj
  rw [bt_extract s n (n + 1) j (by omega) (by omega), show n + j = n from by omega]
  exact hb

theorem wraps_u16 (n : Int) (h0 : 0 ≤ n) (h1 : n < 2 ^ 16) : IntKind.u16.wrap n = n := by
  have : IntKind.u16.wrap n = n % 65536 := by simp [IntKind.wrap, IntKind.bits, IntKind.signed]
  rw [this]; omega
theorem u16_and3 (x : Int) (h0 : 0 ≤ x) (h1 : x < 65536) : bits .and .u16 x 3 = x % 4 := bits_mask .u16 16 (by decide) wraps_u16 2 (by decide) x h0 h1

set_option maxHeartbeats 60000000 in
set_option maxRecDepth 100000 in
theorem notes_walk (s note : ByteArray) (b0 b1 : Int) (w : World) (hns : note.size ≤ 9223372036854775807) (hb0 : 0 ≤ b0 ∧ b0 ≤ 65535) (hb1 : 0 ≤ b1 ∧ b1 ≤ 65535) :
    Calls Tryd.prog 7 #[.string s, .string note, .agg #[.int .u16 b0, .int .u16 b1]] w fun e w' => e = .returned (.bool true) ∧ Below w.heap.size w w' := by
  obtain ⟨t, ht, htz, hq_⟩ := few_tell s
  clear hq_
  obtain ⟨tn, htn, htnz, hq_⟩ := few_tell note
  have hnz : tn.size ≤ note.size := by rw [hq_, ByteArray.size_extract]; omega
  clear hq_
  have HT := Aside0.mk ht
  have HTN := Aside0.mk htn
  have HTZ := Aside0.mk htz
  have HNZ := Aside0.mk (And.intro htnz hnz)
  have HNS := Aside0.mk hns
  have HB0 := Aside0.mk hb0
  have HB1 := Aside0.mk hb1
  clear ht htn htz htnz hnz hns hb0 hb1
  go_enter Tryd.func7, Tryd.ntmps7
  go_upto_region 1 with fail
  have HA := Aside0.mk ((Below.refl w.heap.size w).alloc (Nat.le_refl _) (.cells #[.int .u16 b0, .int .u16 b1] 46))
  have hc0 : (w.alloc (.cells #[.int .u16 b0, .int .u16 b1] 46)).cell? ⟨w.heap.size, 0, none⟩ = some (.int .u16 b0) := by go_simp
  have hc1 : (w.alloc (.cells #[.int .u16 b0, .int .u16 b1] 46)).cell? ⟨w.heap.size, 1, none⟩ = some (.int .u16 b1) := by go_simp
  generalize w.alloc (.cells #[.int .u16 b0, .int .u16 b1] 46) = w0 at *
  have HC0 := Aside0.mk hc0
  have HC1 := Aside0.mk hc1
  clear hc0 hc1
  have HB := Aside0.mk (Below.refl w0.heap.size w0)
  go_upto_region 4 with (first | (go_at_call 12; (with_reducible refine (shown_tells3 _).mono ?_); rintro e w' ⟨rfl, hb⟩; have n0_ := Aside0.mk (below_step (by repeat (first | (with_reducible first | exact HB.out | apply below_alloc | apply pw_below_drewN | apply below_drew1) | exact HB.out)) hb); clear HB hb; have HB := n0_; clear n0_) | (go_at_call 15; (with_reducible refine (L05_few.calls s t _ HT.out).mono ?_); rintro e w' ⟨rfl, hb⟩; have n0_ := Aside0.mk (below_step (by repeat (first | (with_reducible first | exact HB.out | apply below_alloc | apply pw_below_drewN | apply below_drew1) | exact HB.out)) hb); clear HB hb; have HB := n0_; clear n0_))
  go_wp2
  go_loopg [9, 10] tn.size (fun kq v9 v10 w' => ∃ (c : ByteArray) (i : Int), v9 = .string c ∧ v10 = .int .i64 i ∧ Aside0 (0 ≤ i ∧ i + kq = tn.size) ∧ Aside0 (NoEnd c ∧ c.size ≤ i) ∧ Aside0 (Below w0.heap.size w0 w'))
  case atStart => exact ⟨⟨#[]⟩, 0, rfl, rfl, ⟨by omega⟩, ⟨⟨(fun j hj => by cases hj), by decide⟩⟩, ⟨(by repeat (first | (with_reducible first | exact HB.out | apply below_alloc | apply pw_below_drewN | apply below_drew1) | exact HB.out))⟩⟩
  case round =>
    clear HB
    obtain ⟨c, i, rfl, rfl, HI, HC, HB⟩ := hrel
    have hi0 := HI.out.1
    have hi1 := HI.out.2
    cases gk with
    | zero =>
      have c1 : decide (i < (tn.size : Int)) = false := decide_eq_false (by omega)
      have HCC := Aside0.mk (show NoEnd c ∧ c.size ≤ 300 from ⟨HC.out.1, by have := HC.out.2; have := HNZ.out.1; omega⟩)
      clear hi0 hi1 HC HI
      go_wp2_with (go_at_call 15; (with_reducible refine (L05_few.calls note tn _ HTN.out).mono ?_); rintro e w' ⟨rfl, hb⟩; have n0_ := Aside0.mk (below_step (by repeat (first | (with_reducible first | exact HB.out | apply below_alloc | apply pw_below_drewN | apply below_drew1) | exact HB.out)) hb); clear HB hb; have HB := n0_; clear n0_)
      go_loopg [11, 12, 13, 14] (t.size + 1) (fun kq v11 v12 v13 v14 w' => ∃ (out : ByteArray) (ln : Int) (fr i : Nat), v11 = .string out ∧ v12 = .int .i64 ln ∧ v13 = .int .i64 (fr : Int) ∧ v14 = .int .i64 (i : Int) ∧ Aside0 (i + kq = t.size + 1) ∧ Aside0 (0 ≤ ln ∧ ln ≤ i ∧ (out.size : Int) ≤ ln * 316 + (fr : Int)) ∧ Aside0 ((i ≤ t.size ∧ fr ≤ i ∧ Copied t out fr ∧ ∀ j : Nat, fr ≤ j → j < i → bt t (j : Int) ≠ 10) ∨ (i = t.size + 1 ∧ fr ≤ 302 ∧ Done t out)) ∧ Aside0 (Below w0.heap.size w0 w'))
      case atStart => exact ⟨⟨#[]⟩, 0, 0, 0, rfl, rfl, rfl, rfl, ⟨by omega⟩, ⟨by decide⟩, ⟨Or.inl ⟨by omega, by omega, copied_start t, fun j h1 h2 => by omega⟩⟩, ⟨(by repeat (first | (with_reducible first | exact HB.out | apply below_alloc | apply pw_below_drewN | apply below_drew1) | exact HB.out))⟩⟩
      case round =>
        clear HB
        obtain ⟨out, ln, fr, i, rfl, rfl, rfl, rfl, HI, HL, HCp, HB⟩ := hrel
        have hi1 := HI.out
        obtain ⟨wm, hwm⟩ : ∃ wm : World, wm = wr := ⟨_, rfl⟩
        subst hwm
        cases gk with
        | zero =>
          have hi : i = t.size + 1 := by omega
          have c1 : decide ((i : Int) ≤ (t.size : Int)) = false := decide_eq_false (by omega)
          have c1n : decide (i ≤ t.size) = false := decide_eq_false (by omega)
          have hdone : Done t out := by
            rcases HCp.out with h | h
            · exact absurd h.1 (by omega)
            · exact h.2.2
          have hfr : fr ≤ 302 := by
            rcases HCp.out with h | h
            · exact absurd h.1 (by omega)
            · exact h.2.1
          have LO := Aside0.mk (show out.size ≤ 100000 from by have h1 := HL.out; have h2 := HTZ.out; omega)
          have HD := Aside0.mk hdone
          clear hi hi1 hdone hfr
          obtain ⟨K1, hK1⟩ := (lines_ev t (by have := HTZ.out; omega)).rounds
          obtain ⟨K2, hK2⟩ := (lines_ev out (by have := LO.out; omega)).rounds
          obtain ⟨r1, hr1⟩ : ∃ r1, r1 = rowsOf t := ⟨_, rfl⟩
          obtain ⟨r2, hr2⟩ : ∃ r2, r2 = rowsOf out := ⟨_, rfl⟩
          have hbd := linesOf_bd t.size (pcs t t.size 0 0) 1 (pcs_size t t.size 0 0)
          have hpl := (pcs_len t t.size 0 0).1
          have hal : Alike r1 r2 := by rw [hr1, hr2]; exact HD.out
          obtain ⟨KT, hKT⟩ := (texts_ev r1 r2 hal (by have := HTZ.out; rw [hr1]; unfold rowsOf; omega) (fun x hx => by rw [hr1] at hx; have := HTZ.out; have := hbd.2 x hx; omega)).rounds
          rw [← hr1] at hK1
          rw [← hr2] at hK2
          have HK1 := Aside0.mk hK1
          have HK2 := Aside0.mk hK2
          have HKT := Aside0.mk hKT
          clear hK1 hK2 hKT hr1 hr2 hbd hpl hal
          go_wp2_with (first | (go_at_call_of 14 (Value.string t); (with_reducible refine (words_Lines.calls K1 t r1 _ HK1.out).mono ?_); rintro e w8 ⟨v8, rfl, ho0, hb⟩; have n1_ := Aside0.mk (below_step (by repeat (first | (with_reducible first | exact HB.out | apply below_alloc | apply pw_below_drewN | apply below_drew1) | exact HB.out)) hb); have n2_ := Aside0.mk ho0; clear HB; have HB := n1_; have HS8 := n2_; clear n1_ n2_ ho0 hb; obtain ⟨A8, c8, e8⟩ := Kd.S_slice HS8.out; subst e8) | (go_at_call_of 14 (Value.string out); (with_reducible refine (words_Lines.calls K2 out r2 _ HK2.out).mono ?_); rintro e w9 ⟨v9, rfl, ho0, hb⟩; have n0_ := Aside0.mk (Kd.S_below (by (with_reducible repeat (first | apply Kd.S_alloc | apply Kd.S_drewN | apply Kd.S_drew)); exact HS8.out) hb); have n1_ := Aside0.mk (below_step (by repeat (first | (with_reducible first | exact HB.out | apply below_alloc | apply pw_below_drewN | apply below_drew1) | exact HB.out)) hb); have n2_ := Aside0.mk ho0; clear HB HS8; have HS8 := n0_; have HB := n1_; have HS9 := n2_; clear n0_ n1_ n2_ ho0 hb; obtain ⟨A9, c9, e9⟩ := Kd.S_slice HS9.out; subst e9) | (go_at_call 20; (with_reducible refine (L05_texts.calls KT _ _ r1 _ _ r2 true _ ?side1 ?side2 ?side3 ?side4 HKT.out).mono ?_); (case side1 => exact (Kd.S_reads' (by (with_reducible repeat (first | apply Kd.S_alloc | apply Kd.S_drewN | apply Kd.S_drew)); exact HS8.out)).2.2); (case side2 => exact (Kd.S_reads' HS8.out).2.1); (case side3 => exact (Kd.S_reads' (by (with_reducible repeat (first | apply Kd.S_alloc | apply Kd.S_drewN | apply Kd.S_drew)); exact HS9.out)).2.2); (case side4 => exact (Kd.S_reads' HS9.out).2.1); rintro e w10 ⟨rfl, ⟨nd, rfl⟩⟩))
          go_ret
          exact ⟨rfl, below_step HA.out (by repeat (first | (with_reducible first | exact HB.out | apply below_alloc | apply pw_below_drewN | apply below_drew1) | exact HB.out))⟩
        | succ k1 =>
          have hi : i ≤ t.size := by omega
          have htz := HTZ.out
          obtain ⟨_, hfi, hcp, hno⟩ : i ≤ t.size ∧ fr ≤ i ∧ Copied t out fr ∧ ∀ j : Nat, fr ≤ j → j < i → bt t (j : Int) ≠ 10 := by
            rcases HCp.out with h | h
            · exact h
            · exact absurd h.1 (by omega)
          have HCO := Aside0.mk hcp
          have HNO := Aside0.mk hno
          have c1 : decide ((i : Int) ≤ (t.size : Int)) = true := decide_eq_true (by omega)
          have c1n : decide (i ≤ t.size) = true := decide_eq_true hi
          have Ewi : wrap64 ((i : Int) + 1) = ((i + 1 : Nat) : Int) := wrapc i (by omega)
          clear hcp hno HCp
          by_cases hc : i < t.size ∧ bt t (i : Int) ≠ 10
          · obtain ⟨hlt, hb⟩ := hc
            have c2 : decide ((i : Int) < (t.size : Int)) = true := decide_eq_true (by omega)
            have c2n : decide (i < t.size) = true := decide_eq_true hlt
            have hx7 := bt_at t (i : Int)
            have p7 : ((0 : Int) ≤ (i : Int)) = True := eq_true (by omega)
            have q7 : ((i : Int) < (t.size : Int)) = True := eq_true (by omega)
            have e1 : (bt t (i : Int) != 10) = true := bne_iff_ne.mpr hb
            have hv : ∀ h : i < t.size, ((t[i]'h).toNat : Int) = bt t (i : Int) := fun h => (bt_cast t i h).symm
            have HNO2 := Aside0.mk (show ∀ j : Nat, fr ≤ j → j < i + 1 → bt t (j : Int) ≠ 10 from fun j h1 h2 => by
              rcases Nat.lt_or_ge j i with h | h
              · exact HNO.out j h1 h
              · have : j = i := by omega
                subst this
                exact hb)
            have HLT := Aside0.mk hlt
            clear hb hlt hi1 htz
            go_wp2
            go_roundg k1
            case measure => omega
            case rel => exact ⟨out, ln, fr, i + 1, rfl, rfl, rfl, (by first | rfl | (rw [Ewi]) | (simp [Ewi]; done)), ⟨by have := HI.out; omega⟩, ⟨by have := HL.out; omega⟩, ⟨Or.inl ⟨HLT.out, by omega, HCO.out, HNO2.out⟩⟩, ⟨(by repeat (first | (with_reducible first | exact HB.out | apply below_alloc | apply pw_below_drewN | apply below_drew1) | exact HB.out))⟩⟩
          · have hend : i = t.size ∨ (i < t.size ∧ bt t (i : Int) = 10) := by
              rcases Nat.lt_or_ge i t.size with h | h
              · right; exact ⟨h, by by_cases hb : bt t (i : Int) = 10; exact hb; exact absurd ⟨h, hb⟩ hc⟩
              · left; omega
            have HEnd := Aside0.mk hend
            clear hc
            go_upto_region 15 with fail
            go_cut [52] (fun v52 wx => v52 = .bool false ∧ wm = wx)
            case first =>
              rcases hend with h | ⟨h, hb⟩
              · have c2 : decide ((i : Int) < (t.size : Int)) = false := decide_eq_false (by omega)
                have c2n : decide (i < t.size) = false := decide_eq_false (by omega)
                clear h hi1 htz
                go_wp2
                go_meet
                exact ⟨rfl, rfl⟩
              · have c2 : decide ((i : Int) < (t.size : Int)) = true := decide_eq_true (by omega)
                have c2n : decide (i < t.size) = true := decide_eq_true h
                have hx7 := bt_at t (i : Int)
                have p7 : ((0 : Int) ≤ (i : Int)) = True := eq_true (by omega)
                have q7 : ((i : Int) < (t.size : Int)) = True := eq_true (by omega)
                have e1 : (bt t (i : Int) != 10) = false := bne_eq_false_iff_eq.mpr hb
                have hv : ∀ h : i < t.size, ((t[i]'h).toNat : Int) = bt t (i : Int) := fun h => (bt_cast t i h).symm
                clear h hb hi1 htz
                go_wp2
                go_meet
                exact ⟨rfl, rfl⟩
            case rest =>
            obtain ⟨rfl, rfl⟩ := hcut
            clear hend
            have hl0 := HL.out.1
            have hl1 := HL.out.2.1
            have hcb0 := (HB.out.cell (World.block_lt_of_cell? w0 _ HC0.out)).trans HC0.out
            have hcb1 := (HB.out.cell (World.block_lt_of_cell? w0 _ HC1.out)).trans HC1.out
            have hx0 : 0 ≤ b1 / 2 ^ (ln % 16).toNat := Int.ediv_nonneg HB1.out.1 (Int.le_of_lt (Int.pow_pos (by decide)))
            have hx1 : b1 / 2 ^ (ln % 16).toNat ≤ 65535 := Int.le_trans (Int.ediv_le_self _ HB1.out.1) HB1.out.2
            have hsev := seven_blanks (b1 / 2 ^ (ln % 16).toNat % 4).toNat (by omega)
            have HSEV := Aside0.mk hsev
            have hos := HL.out.2.2
            have hs1 : (9223372036854775807 < out.size + (b1 / 2 ^ (ln % 16).toNat % 4).toNat) = False := eq_false (by omega)
            have hs2 : (9223372036854775807 < out.size + (b1 / 2 ^ (ln % 16).toNat % 4).toNat + (i - fr)) = False := eq_false (by omega)
            have p1 : ((0 : Int) ≤ (fr : Int)) = True := eq_true (by omega)
            have p2 : ((fr : Int) ≤ (i : Int)) = True := eq_true (by omega)
            have p2n : (fr ≤ i) = True := eq_true hfi
            have p3 : ((i : Int) ≤ (t.size : Int)) = True := eq_true (by omega)
            have p3n : (i ≤ t.size) = True := eq_true hi
            have hand := u16_and3 (b1 / 2 ^ (ln % 16).toNat) hx0 (by omega)
            have hk0 : (0 ≤ b1 / 2 ^ (ln % 16).toNat % 4) = True := eq_true (by omega)
            have hk7 : (b1 / 2 ^ (ln % 16).toNat % 4 ≤ 7) = True := eq_true (by omega)
            clear hsev hos
            go_upto_region 17 with fail
            go_quiet (fail)
            clear hs1 hs2 hand hk0 hk7 hx0 hx1 p1 p2 p2n p3 p3n hcb1
            have hes : (t.extract fr i).size = i - fr := by rw [ByteArray.size_extract]; omega
            obtain ⟨bl, hbl⟩ : ∃ bl, bl = seven.extract 0 (b1 / 2 ^ (ln % 16).toNat % 4).toNat := ⟨_, rfl⟩
            rw [← hbl] at HSEV
            rw [show (⟨#[32, 32, 32, 32, 32, 32, 32]⟩ : ByteArray).extract 0 (b1 / 2 ^ (ln % 16).toNat % 4).toNat = bl from hbl.symm]
            clear hbl
            obtain ⟨p, hp⟩ : ∃ p, p = t.extract fr i := ⟨_, rfl⟩
            rw [← hp] at hes ⊢
            have HP := Aside0.mk hp
            have HES := Aside0.mk hes
            clear hp
            have hblz := HSEV.out.2
            have hosz := HL.out.2.2
            have hccz := HCC.out.2
            obtain ⟨x, hx⟩ : ∃ x, x = out ++ bl ++ p := ⟨_, rfl⟩
            have hxz : x.size ≤ 110000 := by rw [hx, ByteArray.size_append, ByteArray.size_append]; omega
            rw [← hx]
            have HX := Aside0.mk hx
            have s1 : (9223372036854775807 < x.size + 3) = False := eq_false (by omega)
            have s2 : (9223372036854775807 < x.size + 3 + c.size) = False := eq_false (by omega)
            have s3 : (9223372036854775807 < x.size + 3 + c.size + 5) = False := eq_false (by omega)
            have HXZ := Aside0.mk hxz
            clear hx hes hblz hosz hccz hxz
            have HI0 := Aside0.mk (And.intro hi hfi)
            have HLN := Aside0.mk (And.intro hl0 hl1)
            clear hi hfi hl0 hl1 htz hi1
            go_step
            go_step
            go_step
            go_cut [11] (fun v11 wx => ∃ b : Bool, v11 = .string (if b = true then x ++ noteSign ++ c ++ noteEnd else x) ∧ Aside0 (Below w0.heap.size w0 wx))
            case first =>
              go_wp2
              · go_meet
                exact ⟨true, by first | rfl | (simp; done) | (rw [if_pos rfl]; rfl), ⟨(by repeat (first | (with_reducible first | exact HB.out | apply below_alloc | apply pw_below_drewN | apply below_drew1) | exact HB.out))⟩⟩
              · go_meet
                exact ⟨false, by first | rfl | (simp; done), ⟨(by repeat (first | (with_reducible first | exact HB.out | apply below_alloc | apply pw_below_drewN | apply below_drew1) | exact HB.out))⟩⟩
            case rest =>
            clear HB s1 s2 s3 hcb0
            obtain ⟨b, rfl, HB⟩ := hcut
            obtain ⟨y, hy⟩ : ∃ y, y = (if b = true then x ++ noteSign ++ c ++ noteEnd else x) := ⟨_, rfl⟩
            have hyz : y.size ≤ 120000 := by
              have h1 := HXZ.out
              have h2 := HCC.out.2
              rw [hy]
              cases b with
              | true => rw [if_pos rfl]; simp only [ByteArray.size_append, show noteSign.size = 3 from rfl, show noteEnd.size = 5 from rfl]; omega
              | false => rw [if_neg (by decide)]; omega
            rw [← hy]
            have HY := Aside0.mk hy
            have s4 : (9223372036854775807 < y.size + 1) = False := eq_false (by omega)
            have Ewl : wrap64 (ln + 1) = ln + 1 := by have := HLN.out; have := HI0.out; have := HTZ.out; unfold wrap64; omega
            clear hy hyz
            go_wp2
            go_roundg k1
            case measure => omega
            case rel =>
              have hy2 : y ++ (⟨#[10]⟩ : ByteArray) = copyLine out bl p b c := by
                unfold copyLine
                rw [HY.out, HX.out]
                rfl
              have hsz := copy_size out bl p c b
              have h1 := HES.out
              have h2 := HSEV.out
              have h3 := HCC.out
              have h4 := HL.out
              have h5 := HI0.out
              have h6 := HLN.out
              have h7 := HTZ.out
              refine ⟨y ++ ⟨#[10]⟩, ln + 1, i + 1, i + 1, rfl, (by first | rfl | (rw [Ewl]) | (simp [Ewl]; done)), (by first | rfl | (rw [Ewi]) | (simp [Ewi]; done)), (by first | rfl | (rw [Ewi]) | (simp [Ewi]; done)), ⟨by have := HI.out; omega⟩, ⟨?_⟩, ⟨?_⟩, ⟨(by repeat (first | (with_reducible first | exact HB.out | apply below_alloc | apply pw_below_drewN | apply below_drew1) | exact HB.out))⟩⟩
              · rw [hy2]; omega
              · rw [hy2, HP.out]
                rcases HEnd.out with h | ⟨h, hb⟩
                · right
                  refine ⟨by omega, by omega, ?_⟩
                  rw [h]
                  exact copied_last HCO.out (fun j a1 a2 => HNO.out j a1 (by omega)) bl c b h2.1 h3.1
                · left
                  exact ⟨by omega, by omega, copied_line HCO.out i h h5.2 HNO.out hb bl c b h2.1 h3.1, fun j a1 a2 => by omega⟩
    | succ k1 =>
      have hlt : i < (tn.size : Int) := by omega
      have hln : i < (note.size : Int) := by have := HNZ.out.2; omega
      have c1 : decide (i < (tn.size : Int)) = true := decide_eq_true hlt
      have hw1 : wrap64 (i + 1) = i + 1 := by have := HNZ.out.1; unfold wrap64; omega
      have hx7 := bt_at note i
      have p7 := eq_true hi0
      have q7 := eq_true hln
      have l1 : i ≤ 300 := by have := HNZ.out.1; omega
      have q8 : (i + 1 ≤ (note.size : Int)) = True := eq_true (by omega)
      have q9 : (i ≤ i + 1) = True := eq_true (by omega)
      by_cases c8 : bt note i = 10
      · have c8b1 : ((bt note i) != 10) = false := bne_eq_false_iff_eq.mpr c8
        have c8b0 : ((bt note i) == 10) = true := beq_iff_eq.mpr c8
        clear c8 hi0 hi1 hlt hln
        go_wp2_with (go_at_call 15; (with_reducible refine (L05_few.calls note tn _ HTN.out).mono ?_); rintro e w' ⟨rfl, hb⟩; have n0_ := Aside0.mk (below_step (by repeat (first | (with_reducible first | exact HB.out | apply below_alloc | apply pw_below_drewN | apply below_drew1) | exact HB.out)) hb); clear HB hb; have HB := n0_; clear n0_)
        go_roundg k1
        case measure => omega
        case rel => exact ⟨c, i + 1, rfl, (by first | rfl | (rw [hw1]) | (simp [hw1]; done)), ⟨by have := HI.out; omega⟩, ⟨⟨HC.out.1, by have := HC.out.2; omega⟩⟩, ⟨(by repeat (first | (with_reducible first | exact HB.out | apply below_alloc | apply pw_below_drewN | apply below_drew1) | exact HB.out))⟩⟩
      · have c8b1 : ((bt note i) != 10) = true := bne_iff_ne.mpr c8
        have c8b0 : ((bt note i) == 10) = false := beq_eq_false_iff_ne.mpr c8
        have hmore := noend_more note c i hi0 hln HC.out.1 c8
        have HM := Aside0.mk hmore
        have hes : (note.extract i.toNat (i + 1).toNat).size = 1 := by rw [ByteArray.size_extract]; omega
        have HES := Aside0.mk hes
        have hsum : c.size + (note.extract i.toNat (i + 1).toNat).size ≤ 9223372036854775807 := by have := HC.out.2; omega
        clear c8 hi0 hi1 hlt hln hmore hes
        go_wp2_with (go_at_call 15; (with_reducible refine (L05_few.calls note tn _ HTN.out).mono ?_); rintro e w' ⟨rfl, hb⟩; have n0_ := Aside0.mk (below_step (by repeat (first | (with_reducible first | exact HB.out | apply below_alloc | apply pw_below_drewN | apply below_drew1) | exact HB.out)) hb); clear HB hb; have HB := n0_; clear n0_)
        go_roundg k1
        case measure => omega
        case rel => exact ⟨_, i + 1, rfl, (by first | rfl | (rw [hw1]) | (simp [hw1]; done)), ⟨by have := HI.out; omega⟩, ⟨⟨HM.out, by rw [ByteArray.size_append, HES.out]; have := HC.out.2; omega⟩⟩, ⟨(by repeat (first | (with_reducible first | exact HB.out | apply below_alloc | apply pw_below_drewN | apply below_drew1) | exact HB.out))⟩⟩
end Go.Proofs.YtenjohemplgnmaaDoor.P
