/- The walk of WordsNumbers. -/
import Derived.Test.YtenjohemplgnmaaDoorNWordsNames
namespace Go.Proofs.YtenjohemplgnmaaDoor.P
open Go.RowKit Go.Proofs.YtenjohemplgnmaaDoorW.PrintWords Go.Proofs.YtenjohemplgnmaaDoorW.PrintLast Go.Proofs.YtenjohemplgnmaaDoorW.PrintMore

set_option maxRecDepth 100000 in
set_option maxHeartbeats 8000000 in
theorem numbers_neg (n q c b v o2 : Int) (fits odd : Bool) (d : ByteArray) (w : World) (hq0 : 0 ≤ q) (hq1 : q ≤ 255) (hneg : n.tmod 1000000000 < 0) (hd1 : 1 ≤ d.size) (hd2 : d.size ≤ 10)
    (HS : Tells 12 #[] (.bool true)) (HD : Tells 23 #[.int .i64 (n.tmod 1000000000)] (.string d)) (HA : Tells 24 #[.string d] (.tuple #[.int .i64 (n.tmod 1000000000), .bool true]))
    (HL : Tells 24 #[.string ((⟨#[45]⟩ : ByteArray) ++ (((⟨#[48, 48, 48, 48, 48, 48, 48, 48]⟩ : ByteArray).extract 0 (1 + q % 8).toNat) ++ (d.extract 1 d.size)))] (.tuple #[.int .i64 b, .bool fits])) (HO : Tells 24 #[.string (d ++ strOfNums [c])] (.tuple #[.int .i64 v, .bool odd]))
    (HT : Tells 24 #[.string ((⟨#[45, 45, 45]⟩ : ByteArray) ++ (d.extract 1 d.size))] (.tuple #[.int .i64 o2, .bool false])) (HE : Tells 24 #[.string ⟨#[]⟩] (.tuple #[.int .i64 0, .bool false])) (HM : Tells 24 #[.string ⟨#[45]⟩] (.tuple #[.int .i64 0, .bool false]))
    (hfits : fits = decide ((((⟨#[48, 48, 48, 48, 48, 48, 48, 48]⟩ : ByteArray).extract 0 (1 + q % 8).toNat) ++ (d.extract 1 d.size)).size ≤ 9)) (hb : b = if fits = true then (n.tmod 1000000000) else 0) (hodd : odd = (decide (48 ≤ c ∧ c ≤ 57) && decide ((d.extract 1 d.size).size < 9))) :
    Calls Tryd.prog 10 #[.int .i64 n, .int .u8 q, .int .u8 c] w fun e w' => e = .returned (.bool true) ∧ Below w.heap.size w w' := by
  have hk : decide (n.tmod 1000000000 < 0) = true := decide_eq_true hneg
  have hl1 : (((⟨#[48, 48, 48, 48, 48, 48, 48, 48]⟩ : ByteArray).extract 0 (1 + q % 8).toNat) ++ (d.extract 1 d.size)).size ≤ 30 := by rw [ByteArray.size_append, ByteArray.size_extract]; rw [ByteArray.size_extract]; simp; omega
  have hd1i : (1 : Int) ≤ (d.size : Int) := by omega
  have hsz1 : (strOfNums [c]).size = 1 := strOfNums_size _
  have hcat : decide (d.size + (strOfNums [c]).size ≤ 9223372036854775807) = true := decide_eq_true (by omega)
  have hcat2 : (9223372036854775807 < d.size + (strOfNums [c]).size) = False := eq_false (by omega)
  have hsz := Lib.hid hsz1
  have HFI := Lib.hid hfits
  have HBV := Lib.hid hb
  have HOD := Lib.hid hodd
  clear hsz1 hfits hb hodd
  have HB0 := Aside0.mk (Below.refl w.heap.size w)
  go_enter Tryd.func10, Tryd.ntmps10
  go_wp2_with fail
  refine (HS _).mono ?_
  rintro e w1 ⟨rfl, hb1⟩
  have HB1 := Aside0.mk (below_step (by repeat (first | exact HB0.out | apply below_alloc | apply pw_below_drewN | apply below_drew1)) hb1)
  clear hb1 HB0
  go_wp2_with fail
  refine (HD _).mono ?_
  rintro e w2 ⟨rfl, hb1⟩
  have HB2 := Aside0.mk (below_step (by repeat (first | exact HB1.out | apply below_alloc | apply pw_below_drewN | apply below_drew1)) hb1)
  clear hb1 HB1
  go_wp2_with fail
  refine (HA _).mono ?_
  rintro e w3 ⟨rfl, hb1⟩
  have HB3 := Aside0.mk (below_step (by repeat (first | exact HB2.out | apply below_alloc | apply pw_below_drewN | apply below_drew1)) hb1)
  clear hb1 HB2
  go_wp2_with fail
  have hps : (d.extract 1 d.size).size ≤ 10 := by rw [ByteArray.size_extract]; omega
  generalize hpp : d.extract 1 d.size = p at *
  generalize hLL : (⟨#[48, 48, 48, 48, 48, 48, 48, 48]⟩ : ByteArray).extract 0 (1 + q % 8).toNat ++ p = L at *
  clear hpp hLL
  refine (HL _).mono ?_
  rintro e w4 ⟨rfl, hb1⟩
  have HB4 := Aside0.mk (below_step (by repeat (first | exact HB3.out | apply below_alloc | apply pw_below_drewN | apply below_drew1)) hb1)
  clear hb1 HB3
  go_wp2_with (((with_reducible refine gate_dst (N := 58) rfl ?_); refine Kd.R_lit (Kd.int .u8) _ 5 ?hg (N := 58) ?hd (xs := ([c] : List Int)) (inner := [.int .u8 c]) (ok := fun _ => True) (okp := fun _ => True) ?hr ?hp (fun _ hk => hk) trivial (Below.refl _ _) (Nat.le_refl _) (by simp) ?_; (case hd => rfl); (case hg => rfl); (case hr => first | (go_simp; done) | (go_simp; rfl)); (case hp => exact (Reps.one (show Kd.M (Kd.int .u8) _ _ _ c [.int .u8 c] from rfl) (Reps.none _ _))); intro v5 w5 ho hb hg_ hnew_; clear hg_ hnew_; have hcv5 := own_string (P := Tryd.prog) Tryd.underlying31 Tryd.underlying5 Tryd.underlying9 (Kd.own_of_R ho); have HB5 := Aside0.mk (below_step (by repeat (first | exact HB4.out | apply below_alloc | apply pw_below_drewN | apply below_drew1)) hb); clear hb HB4 ho))
  refine (HO _).mono ?_
  rintro e w6 ⟨rfl, hb1⟩
  have HB6 := Aside0.mk (below_step (by repeat (first | exact HB5.out | apply below_alloc | apply pw_below_drewN | apply below_drew1)) hb1)
  clear hb1 HB5
  go_wp2_with fail
  refine (HT _).mono ?_
  rintro e w7 ⟨rfl, hb1⟩
  have HB7 := Aside0.mk (below_step (by repeat (first | exact HB6.out | apply below_alloc | apply pw_below_drewN | apply below_drew1)) hb1)
  clear hb1 HB6
  go_wp2_with fail
  refine (HE _).mono ?_
  rintro e w8 ⟨rfl, hb1⟩
  have HB8 := Aside0.mk (below_step (by repeat (first | exact HB7.out | apply below_alloc | apply pw_below_drewN | apply below_drew1)) hb1)
  clear hb1 HB7
  go_wp2_with fail
  refine (HM _).mono ?_
  rintro e w9 ⟨rfl, hb1⟩
  have HB9 := Aside0.mk (below_step (by repeat (first | exact HB8.out | apply below_alloc | apply pw_below_drewN | apply below_drew1)) hb1)
  clear hb1 HB8
  have hcc : (c < 48) ∨ (48 ≤ c ∧ c ≤ 57) ∨ (57 < c) := by omega
  clear HS HD HA HL HO HT HE HM
  rcases hcc with hc | hc | hc
  · have t48 : decide (48 ≤ c) = false := decide_eq_false (by omega)
    have t57 : decide (c ≤ 57) = true := decide_eq_true (by omega)
    have T := Lib.hid (show decide (48 ≤ c ∧ c ≤ 57) = false from decide_eq_false (by omega))
    clear hc
    obtain rfl : odd = false := HOD.out.trans (by rw [T.out]; rfl)
    by_cases hf : L.size ≤ 9
    · have f1 : decide ((L.size : Int) ≤ 9) = true := decide_eq_true (by omega)
      have f2 : decide (L.size ≤ 9) = true := decide_eq_true hf
      obtain rfl : fits = true := HFI.out.trans f2
      obtain rfl : b = (n.tmod 1000000000) := HBV.out.trans (if_pos rfl)
      clear hf HFI HBV
      go_wp2_with fail
      all_goals go_ret
      all_goals exact ⟨by first | rfl | (simp; done), HB9.out⟩
    · have f1 : decide ((L.size : Int) ≤ 9) = false := decide_eq_false (by omega)
      have f2 : decide (L.size ≤ 9) = false := decide_eq_false hf
      obtain rfl : fits = false := HFI.out.trans f2
      obtain rfl : b = 0 := HBV.out.trans (if_neg (by decide))
      clear hf HFI HBV
      go_wp2_with fail
      all_goals go_ret
      all_goals exact ⟨by first | rfl | (simp; done), HB9.out⟩
  · have t48 : decide (48 ≤ c) = true := decide_eq_true (by omega)
    have t57 : decide (c ≤ 57) = true := decide_eq_true (by omega)
    have T := Lib.hid (show decide (48 ≤ c ∧ c ≤ 57) = true from decide_eq_true (by omega))
    clear hc
    by_cases h9 : p.size < 9
    · have g1 : decide ((p.size : Int) < 9) = true := decide_eq_true (by omega)
      have g2 : decide (p.size < 9) = true := decide_eq_true h9
      obtain rfl : odd = true := HOD.out.trans (by rw [T.out, g2]; rfl)
      clear h9
      by_cases hf : L.size ≤ 9
      · have f1 : decide ((L.size : Int) ≤ 9) = true := decide_eq_true (by omega)
        have f2 : decide (L.size ≤ 9) = true := decide_eq_true hf
        obtain rfl : fits = true := HFI.out.trans f2
        obtain rfl : b = (n.tmod 1000000000) := HBV.out.trans (if_pos rfl)
        clear hf HFI HBV
        go_wp2_with fail
        all_goals go_ret
        all_goals exact ⟨by first | rfl | (simp; done), HB9.out⟩
      · have f1 : decide ((L.size : Int) ≤ 9) = false := decide_eq_false (by omega)
        have f2 : decide (L.size ≤ 9) = false := decide_eq_false hf
        obtain rfl : fits = false := HFI.out.trans f2
        obtain rfl : b = 0 := HBV.out.trans (if_neg (by decide))
        clear hf HFI HBV
        go_wp2_with fail
        all_goals go_ret
        all_goals exact ⟨by first | rfl | (simp; done), HB9.out⟩
    · have g1 : decide ((p.size : Int) < 9) = false := decide_eq_false (by omega)
      have g2 : decide (p.size < 9) = false := decide_eq_false h9
      obtain rfl : odd = false := HOD.out.trans (by rw [T.out, g2]; rfl)
      clear h9
      by_cases hf : L.size ≤ 9
      · have f1 : decide ((L.size : Int) ≤ 9) = true := decide_eq_true (by omega)
        have f2 : decide (L.size ≤ 9) = true := decide_eq_true hf
        obtain rfl : fits = true := HFI.out.trans f2
        obtain rfl : b = (n.tmod 1000000000) := HBV.out.trans (if_pos rfl)
        clear hf HFI HBV
        go_wp2_with fail
        all_goals go_ret
        all_goals exact ⟨by first | rfl | (simp; done), HB9.out⟩
      · have f1 : decide ((L.size : Int) ≤ 9) = false := decide_eq_false (by omega)
        have f2 : decide (L.size ≤ 9) = false := decide_eq_false hf
        obtain rfl : fits = false := HFI.out.trans f2
        obtain rfl : b = 0 := HBV.out.trans (if_neg (by decide))
        clear hf HFI HBV
        go_wp2_with fail
        all_goals go_ret
        all_goals exact ⟨by first | rfl | (simp; done), HB9.out⟩
  · have t48 : decide (48 ≤ c) = true := decide_eq_true (by omega)
    have t57 : decide (c ≤ 57) = false := decide_eq_false (by omega)
    have T := Lib.hid (show decide (48 ≤ c ∧ c ≤ 57) = false from decide_eq_false (by omega))
    clear hc
    obtain rfl : odd = false := HOD.out.trans (by rw [T.out]; rfl)
    by_cases hf : L.size ≤ 9
    · have f1 : decide ((L.size : Int) ≤ 9) = true := decide_eq_true (by omega)
      have f2 : decide (L.size ≤ 9) = true := decide_eq_true hf
      obtain rfl : fits = true := HFI.out.trans f2
      obtain rfl : b = (n.tmod 1000000000) := HBV.out.trans (if_pos rfl)
      clear hf HFI HBV
      go_wp2_with fail
      all_goals go_ret
      all_goals exact ⟨by first | rfl | (simp; done), HB9.out⟩
    · have f1 : decide ((L.size : Int) ≤ 9) = false := decide_eq_false (by omega)
      have f2 : decide (L.size ≤ 9) = false := decide_eq_false hf
      obtain rfl : fits = false := HFI.out.trans f2
      obtain rfl : b = 0 := HBV.out.trans (if_neg (by decide))
      clear hf HFI HBV
      go_wp2_with fail
      all_goals go_ret
      all_goals exact ⟨by first | rfl | (simp; done), HB9.out⟩

set_option maxRecDepth 100000 in
set_option maxHeartbeats 8000000 in
theorem numbers_pos (n q c b v o2 : Int) (fits odd : Bool) (d : ByteArray) (w : World) (hq0 : 0 ≤ q) (hq1 : q ≤ 255) (hneg : ¬ n.tmod 1000000000 < 0) (hd1 : 1 ≤ d.size) (hd2 : d.size ≤ 10)
    (HS : Tells 12 #[] (.bool true)) (HD : Tells 23 #[.int .i64 (n.tmod 1000000000)] (.string d)) (HA : Tells 24 #[.string d] (.tuple #[.int .i64 (n.tmod 1000000000), .bool true]))
    (HL : Tells 24 #[.string (((⟨#[48, 48, 48, 48, 48, 48, 48, 48]⟩ : ByteArray).extract 0 (1 + q % 8).toNat) ++ d)] (.tuple #[.int .i64 b, .bool fits])) (HO : Tells 24 #[.string (d ++ strOfNums [c])] (.tuple #[.int .i64 v, .bool odd]))
    (HT : Tells 24 #[.string ((⟨#[45, 45]⟩ : ByteArray) ++ d)] (.tuple #[.int .i64 o2, .bool false])) (HE : Tells 24 #[.string ⟨#[]⟩] (.tuple #[.int .i64 0, .bool false])) (HM : Tells 24 #[.string ⟨#[45]⟩] (.tuple #[.int .i64 0, .bool false]))
    (hfits : fits = decide ((((⟨#[48, 48, 48, 48, 48, 48, 48, 48]⟩ : ByteArray).extract 0 (1 + q % 8).toNat) ++ d).size ≤ 9)) (hb : b = if fits = true then (n.tmod 1000000000) else 0) (hodd : odd = (decide (48 ≤ c ∧ c ≤ 57) && decide (d.size < 9))) :
    Calls Tryd.prog 10 #[.int .i64 n, .int .u8 q, .int .u8 c] w fun e w' => e = .returned (.bool true) ∧ Below w.heap.size w w' := by
  have hk : decide (n.tmod 1000000000 < 0) = false := decide_eq_false hneg
  have hl1 : (((⟨#[48, 48, 48, 48, 48, 48, 48, 48]⟩ : ByteArray).extract 0 (1 + q % 8).toNat) ++ d).size ≤ 30 := by rw [ByteArray.size_append, ByteArray.size_extract]; simp; omega
  have hd1i : (1 : Int) ≤ (d.size : Int) := by omega
  have hsz1 : (strOfNums [c]).size = 1 := strOfNums_size _
  have hcat : decide (d.size + (strOfNums [c]).size ≤ 9223372036854775807) = true := decide_eq_true (by omega)
  have hcat2 : (9223372036854775807 < d.size + (strOfNums [c]).size) = False := eq_false (by omega)
  have hsz := Lib.hid hsz1
  have HFI := Lib.hid hfits
  have HBV := Lib.hid hb
  have HOD := Lib.hid hodd
  clear hsz1 hfits hb hodd
  have HB0 := Aside0.mk (Below.refl w.heap.size w)
  go_enter Tryd.func10, Tryd.ntmps10
  go_wp2_with fail
  refine (HS _).mono ?_
  rintro e w1 ⟨rfl, hb1⟩
  have HB1 := Aside0.mk (below_step (by repeat (first | exact HB0.out | apply below_alloc | apply pw_below_drewN | apply below_drew1)) hb1)
  clear hb1 HB0
  go_wp2_with fail
  refine (HD _).mono ?_
  rintro e w2 ⟨rfl, hb1⟩
  have HB2 := Aside0.mk (below_step (by repeat (first | exact HB1.out | apply below_alloc | apply pw_below_drewN | apply below_drew1)) hb1)
  clear hb1 HB1
  go_wp2_with fail
  refine (HA _).mono ?_
  rintro e w3 ⟨rfl, hb1⟩
  have HB3 := Aside0.mk (below_step (by repeat (first | exact HB2.out | apply below_alloc | apply pw_below_drewN | apply below_drew1)) hb1)
  clear hb1 HB2
  go_wp2_with fail
  generalize hLL : (⟨#[48, 48, 48, 48, 48, 48, 48, 48]⟩ : ByteArray).extract 0 (1 + q % 8).toNat ++ d = L at *
  clear hLL
  refine (HL _).mono ?_
  rintro e w4 ⟨rfl, hb1⟩
  have HB4 := Aside0.mk (below_step (by repeat (first | exact HB3.out | apply below_alloc | apply pw_below_drewN | apply below_drew1)) hb1)
  clear hb1 HB3
  go_wp2_with (((with_reducible refine gate_dst (N := 58) rfl ?_); refine Kd.R_lit (Kd.int .u8) _ 5 ?hg (N := 58) ?hd (xs := ([c] : List Int)) (inner := [.int .u8 c]) (ok := fun _ => True) (okp := fun _ => True) ?hr ?hp (fun _ hk => hk) trivial (Below.refl _ _) (Nat.le_refl _) (by simp) ?_; (case hd => rfl); (case hg => rfl); (case hr => first | (go_simp; done) | (go_simp; rfl)); (case hp => exact (Reps.one (show Kd.M (Kd.int .u8) _ _ _ c [.int .u8 c] from rfl) (Reps.none _ _))); intro v5 w5 ho hb hg_ hnew_; clear hg_ hnew_; have hcv5 := own_string (P := Tryd.prog) Tryd.underlying31 Tryd.underlying5 Tryd.underlying9 (Kd.own_of_R ho); have HB5 := Aside0.mk (below_step (by repeat (first | exact HB4.out | apply below_alloc | apply pw_below_drewN | apply below_drew1)) hb); clear hb HB4 ho))
  refine (HO _).mono ?_
  rintro e w6 ⟨rfl, hb1⟩
  have HB6 := Aside0.mk (below_step (by repeat (first | exact HB5.out | apply below_alloc | apply pw_below_drewN | apply below_drew1)) hb1)
  clear hb1 HB5
  go_wp2_with fail
  refine (HT _).mono ?_
  rintro e w7 ⟨rfl, hb1⟩
  have HB7 := Aside0.mk (below_step (by repeat (first | exact HB6.out | apply below_alloc | apply pw_below_drewN | apply below_drew1)) hb1)
  clear hb1 HB6
  go_wp2_with fail
  refine (HE _).mono ?_
  rintro e w8 ⟨rfl, hb1⟩
  have HB8 := Aside0.mk (below_step (by repeat (first | exact HB7.out | apply below_alloc | apply pw_below_drewN | apply below_drew1)) hb1)
  clear hb1 HB7
  go_wp2_with fail
  refine (HM _).mono ?_
  rintro e w9 ⟨rfl, hb1⟩
  have HB9 := Aside0.mk (below_step (by repeat (first | exact HB8.out | apply below_alloc | apply pw_below_drewN | apply below_drew1)) hb1)
  clear hb1 HB8
  have hcc : (c < 48) ∨ (48 ≤ c ∧ c ≤ 57) ∨ (57 < c) := by omega
  clear HS HD HA HL HO HT HE HM
  rcases hcc with hc | hc | hc
  · have t48 : decide (48 ≤ c) = false := decide_eq_false (by omega)
    have t57 : decide (c ≤ 57) = true := decide_eq_true (by omega)
    have T := Lib.hid (show decide (48 ≤ c ∧ c ≤ 57) = false from decide_eq_false (by omega))
    clear hc
    obtain rfl : odd = false := HOD.out.trans (by rw [T.out]; rfl)
    by_cases hf : L.size ≤ 9
    · have f1 : decide ((L.size : Int) ≤ 9) = true := decide_eq_true (by omega)
      have f2 : decide (L.size ≤ 9) = true := decide_eq_true hf
      obtain rfl : fits = true := HFI.out.trans f2
      obtain rfl : b = (n.tmod 1000000000) := HBV.out.trans (if_pos rfl)
      clear hf HFI HBV
      go_wp2_with fail
      all_goals go_ret
      all_goals exact ⟨by first | rfl | (simp; done), HB9.out⟩
    · have f1 : decide ((L.size : Int) ≤ 9) = false := decide_eq_false (by omega)
      have f2 : decide (L.size ≤ 9) = false := decide_eq_false hf
      obtain rfl : fits = false := HFI.out.trans f2
      obtain rfl : b = 0 := HBV.out.trans (if_neg (by decide))
      clear hf HFI HBV
      go_wp2_with fail
      all_goals go_ret
      all_goals exact ⟨by first | rfl | (simp; done), HB9.out⟩
  · have t48 : decide (48 ≤ c) = true := decide_eq_true (by omega)
    have t57 : decide (c ≤ 57) = true := decide_eq_true (by omega)
    have T := Lib.hid (show decide (48 ≤ c ∧ c ≤ 57) = true from decide_eq_true (by omega))
    clear hc
    by_cases h9 : d.size < 9
    · have g1 : decide ((d.size : Int) < 9) = true := decide_eq_true (by omega)
      have g2 : decide (d.size < 9) = true := decide_eq_true h9
      obtain rfl : odd = true := HOD.out.trans (by rw [T.out, g2]; rfl)
      clear h9
      by_cases hf : L.size ≤ 9
      · have f1 : decide ((L.size : Int) ≤ 9) = true := decide_eq_true (by omega)
        have f2 : decide (L.size ≤ 9) = true := decide_eq_true hf
        obtain rfl : fits = true := HFI.out.trans f2
        obtain rfl : b = (n.tmod 1000000000) := HBV.out.trans (if_pos rfl)
        clear hf HFI HBV
        go_wp2_with fail
        all_goals go_ret
        all_goals exact ⟨by first | rfl | (simp; done), HB9.out⟩
      · have f1 : decide ((L.size : Int) ≤ 9) = false := decide_eq_false (by omega)
        have f2 : decide (L.size ≤ 9) = false := decide_eq_false hf
        obtain rfl : fits = false := HFI.out.trans f2
        obtain rfl : b = 0 := HBV.out.trans (if_neg (by decide))
        clear hf HFI HBV
        go_wp2_with fail
        all_goals go_ret
        all_goals exact ⟨by first | rfl | (simp; done), HB9.out⟩
    · have g1 : decide ((d.size : Int) < 9) = false := decide_eq_false (by omega)
      have g2 : decide (d.size < 9) = false := decide_eq_false h9
      obtain rfl : odd = false := HOD.out.trans (by rw [T.out, g2]; rfl)
      clear h9
      by_cases hf : L.size ≤ 9
      · have f1 : decide ((L.size : Int) ≤ 9) = true := decide_eq_true (by omega)
        have f2 : decide (L.size ≤ 9) = true := decide_eq_true hf
        obtain rfl : fits = true := HFI.out.trans f2
        obtain rfl : b = (n.tmod 1000000000) := HBV.out.trans (if_pos rfl)
        clear hf HFI HBV
        go_wp2_with fail
        all_goals go_ret
        all_goals exact ⟨by first | rfl | (simp; done), HB9.out⟩
      · have f1 : decide ((L.size : Int) ≤ 9) = false := decide_eq_false (by omega)
        have f2 : decide (L.size ≤ 9) = false := decide_eq_false hf
        obtain rfl : fits = false := HFI.out.trans f2
        obtain rfl : b = 0 := HBV.out.trans (if_neg (by decide))
        clear hf HFI HBV
        go_wp2_with fail
        all_goals go_ret
        all_goals exact ⟨by first | rfl | (simp; done), HB9.out⟩
  · have t48 : decide (48 ≤ c) = true := decide_eq_true (by omega)
    have t57 : decide (c ≤ 57) = false := decide_eq_false (by omega)
    have T := Lib.hid (show decide (48 ≤ c ∧ c ≤ 57) = false from decide_eq_false (by omega))
    clear hc
    obtain rfl : odd = false := HOD.out.trans (by rw [T.out]; rfl)
    by_cases hf : L.size ≤ 9
    · have f1 : decide ((L.size : Int) ≤ 9) = true := decide_eq_true (by omega)
      have f2 : decide (L.size ≤ 9) = true := decide_eq_true hf
      obtain rfl : fits = true := HFI.out.trans f2
      obtain rfl : b = (n.tmod 1000000000) := HBV.out.trans (if_pos rfl)
      clear hf HFI HBV
      go_wp2_with fail
      all_goals go_ret
      all_goals exact ⟨by first | rfl | (simp; done), HB9.out⟩
    · have f1 : decide ((L.size : Int) ≤ 9) = false := decide_eq_false (by omega)
      have f2 : decide (L.size ≤ 9) = false := decide_eq_false hf
      obtain rfl : fits = false := HFI.out.trans f2
      obtain rfl : b = 0 := HBV.out.trans (if_neg (by decide))
      clear hf HFI HBV
      go_wp2_with fail
      all_goals go_ret
      all_goals exact ⟨by first | rfl | (simp; done), HB9.out⟩
end Go.Proofs.YtenjohemplgnmaaDoor.P
