/- fleuronref05.Sets, as the print states contracts (written by wip/grefsets.py). -/
import Derived.Test.YtenjohemplgnmaaDoorPx0
namespace Go.Proofs.YtenjohemplgnmaaDoor.P
open Go.RowKit Go.Proofs.YtenjohemplgnmaaDoorW.PrintWords Go.Proofs.YtenjohemplgnmaaDoorW.PrintLast Go.Proofs.YtenjohemplgnmaaDoorW.PrintMore
set_option linter.unusedVariables false
set_option linter.unusedSimpArgs false

/-- What Sets makes of words: the sets so far, whether one is open, and its row. -/
def setsFrom : List S36 → List (List S36) → Bool → List S36 → List (List S36) × Bool
  | [], out, open_, _ => if open_ = true then ([], false) else (out, true)
  | x :: l, out, open_, row =>
    if x.f2.toList = [91] then (if open_ = true then ([], false) else setsFrom l out true [])
    else if x.f2.toList = [93] then (if open_ = true then setsFrom l (out ++ [row]) false row else ([], false))
    else if open_ = true then setsFrom l out true (row ++ [x]) else setsFrom l (out ++ [[x]]) false row

def R05_Sets.f (l0 : List S36) : Option (List (List S36) × Bool) := if l0.length < 100000 then some (setsFrom l0 [] false []) else none

theorem drop_rd (l : List S36) (i : Int) (h0 : 0 ≤ i) (h1 : i < l.length) : l.drop i.toNat = rd_T36 l i :: l.drop (i + 1).toNat := by
  obtain ⟨n, rfl⟩ := Int.eq_ofNat_of_zero_le h0
  have hn : n < l.length := by omega
  have e : ((n : Int) + 1).toNat = n + 1 := by omega
  rw [e, Int.toNat_natCast, List.drop_eq_getElem_cons hn]
  rw [show rd_T36 l (n : Int) = l[n] from by
    show l.getD (n : Int).toNat z36 = _
    rw [Int.toNat_natCast]
    simp [List.getD, List.getElem?_eq_getElem hn]]

theorem drop_end (l : List S36) (i : Int) (h1 : ¬ i < l.length) : l.drop i.toNat = [] := List.drop_eq_nil_of_le (by omega)

set_option maxHeartbeats 8000000 in
set_option maxRecDepth 100000 in
theorem R05_Sets.calls (A0 : Option Addr) (c0 : Nat) (l0 : List S36) (r1 : List (List S36)) (r2 : Bool) (w : World) (hr0 : Kd.C k36 w A0 l0.length l0) (hc0 : l0.length ≤ c0) (h : R05_Sets.f l0 = some (r1, r2)) :
    Calls Tryd.prog 18 #[.slice A0 l0.length c0] w fun e w' => ∃ v0_ : Value, e = .returned (.tuple #[v0_, .bool r2]) ∧ Kd.S (Kd.slice 36 k36) 33 w' w.heap.size (fun _ => True) v0_ r1 ∧ Below w.heap.size w w' := by
  have hu36 := Tryd.underlying36
  have hl : l0.length < 100000 := by
    unfold R05_Sets.f at h
    by_cases hl : l0.length < 100000
    · exact hl
    · rw [if_neg hl] at h; exact absurd h (by simp)
  have H : setsFrom l0 [] false [] = (r1, r2) := by
    unfold R05_Sets.f at h
    rw [if_pos hl] at h
    exact Option.some.inj h
  clear h
  have HR0 := Aside0.mk hr0
  have HC0 := Aside0.mk hc0
  have HL := Aside0.mk hl
  clear hr0 hc0 hl
  have HB := Aside0.mk (Below.refl w.heap.size w)
  have H' := Aside0.mk H
  clear H
  go_enter Tryd.func18, Tryd.ntmps18
  go_wp2_with (first | ((with_reducible refine gate_dst (N := 8) rfl ?_); refine Kd.S_lit (Kd.slice 36 k36) _ 33 ?hg (N := 8) ?hd (xs := ([] : List (List S36))) (inner := []) (ok := fun _ => True) (okp := fun _ => True) ?hr ?hp (fun _ hk => hk) trivial (Below.refl _ _) (Nat.le_refl _) (by simp) ?_; (case hd => rfl); (case hg => rfl); (case hr => first | (go_simp; done) | (go_simp; rfl)); (case hp => exact (Reps.none _ _)); intro v1 w1 ho1 hb1 hg_ hnew_; clear hg_ hnew_; have n0_ := Aside0.mk (Kd.S_lower ho1 (below_size (by repeat (first | (with_reducible first | exact HB.out | apply below_alloc | apply pw_below_drewN | apply below_drew1) | exact HB.out)))); have n1_ := Aside0.mk (below_step (by repeat (first | (with_reducible first | exact HB.out | apply below_alloc | apply pw_below_drewN | apply below_drew1) | exact HB.out)) hb1); clear HB; have HO1 := n0_; have HB := n1_; clear n0_ n1_; clear hb1 ho1) | ((with_reducible refine gate_dst (N := 9) rfl ?_); refine Kd.R_lit k36 _ 36 ?hg (N := 9) ?hd (xs := ([] : List S36)) (inner := []) (ok := fun _ => True) (okp := fun _ => True) ?hr ?hp (fun _ hk => hk) trivial (Below.refl _ _) (Nat.le_refl _) (by simp) ?_; (case hd => rfl); (case hg => rfl); (case hr => first | (go_simp; done) | (go_simp; rfl)); (case hp => exact (Reps.none _ _)); intro v2 w2 ho2 hb2 hg_ hnew_; clear hg_ hnew_; have n0_ := Aside0.mk (Kd.S_elder' (by (with_reducible repeat (first | apply Kd.S_alloc | apply Kd.S_drewN | apply Kd.S_drew)); exact HO1.out) (Kd.R_base ho2) hb2); have n1_ := Aside0.mk (below_step (by repeat (first | (with_reducible first | exact HB.out | apply below_alloc | apply pw_below_drewN | apply below_drew1) | exact HB.out)) hb2); clear HB HO1; have HO1 := n0_; have HB := n1_; clear n0_ n1_; clear hb2 ho2))
  go_loopg [4, 5, 6, 7] l0.length (fun kq v4 v5 v6 v7 w' => ∃ (x4 : List (List S36)) (x5 : Bool) (x6 : List S36) (x7 : Int), v5 = .bool x5 ∧ v7 = .int .i64 x7 ∧ Aside0 (0 ≤ x7 ∧ x7 + kq = l0.length ∧ x4.length ≤ x7 ∧ x6.length ≤ x7) ∧ Aside0 (setsFrom (l0.drop x7.toNat) x4 x5 x6 = (r1, r2)) ∧ Aside0 (x5 = false → Kd.S (Kd.slice 36 k36) 33 w' w.heap.size (fun _ => True) v4 x4) ∧ Aside0 (x5 = true → Kd.S (Kd.slice 36 k36) 33 w' w.heap.size (fun k_ => True ∧ some k_ ≠ v6.ownBlock) v4 x4 ∧ Kd.R k36 36 w' w.heap.size (fun _ => True) v6 x6) ∧ Aside0 (Below w.heap.size w w'))
  case atStart => exact ⟨[], false, [], 0, rfl, rfl, ⟨by simp⟩, H', ⟨fun _ => by (with_reducible repeat (first | apply Kd.S_alloc | apply Kd.S_drewN | apply Kd.S_drew)); exact Kd.S_mono HO1.out (fun _ _ => trivial)⟩, ⟨fun h => absurd h (by simp)⟩, ⟨(by repeat (first | (with_reducible first | exact HB.out | apply below_alloc | apply pw_below_drewN | apply below_drew1) | exact HB.out))⟩⟩
  case round =>
    clear H'
    obtain ⟨x4, x5, x6, x7, rfl, rfl, HI, HA, HF, HT, HB⟩ := hrel
    have H := HA.out
    clear HA
    by_cases c2 : x7 < (l0.length : Int)
    · have c2b0 : decide (x7 < (l0.length : Int)) = true := decide_eq_true c2
      have hi0 := HI.out.1
      have HL0 := HL.out
      cases gk with
      | zero => exact absurd HI.out.2.1 (by omega)
      | succ k1 =>
        obtain ⟨y, hy⟩ : ∃ y, y = rd_T36 l0 x7 := ⟨_, rfl⟩
        have Ew : wrap64 (x7 + 1) = x7 + 1 := by unfold wrap64; omega
        rw [drop_rd l0 x7 hi0 c2, ← hy] at H
        simp only [setsFrom] at H
        obtain ⟨ad, e114, hx0, hx1, hx2⟩ := at_T36 HR0.out x7 hi0 c2
        cases e114
        rw [← hy] at hx0 hx1 hx2
        clear hy
        replace hx0 := (HB.out.cell (World.block_lt_of_cell? w _ hx0)).trans hx0
        replace hx1 := (HB.out.cell (World.block_lt_of_cell? w _ hx1)).trans hx1
        replace hx2 := (HB.out.cell (World.block_lt_of_cell? w _ hx2)).trans hx2
        have hi0' := eq_true hi0
        have c2' := eq_true c2
        have Hi0 := Aside0.mk hi0
        have C2 := Aside0.mk c2
        clear c2 hi0
        by_cases ct : y.f2.toList = ([91] : List UInt8)
        · have ctb : (y.f2.toList == ([91] : List UInt8)) = true := beq_iff_eq.mpr ct
          rw [if_pos ct] at H
          have ct2b : (y.f2.toList == ([93] : List UInt8)) = false := beq_eq_false_iff_ne.mpr (by rw [ct]; decide)
          clear ct
          cases x5 with
          | true =>
            rw [if_pos rfl] at H
            obtain ⟨rfl, rfl⟩ := Prod.mk.inj H
            clear H
            go_wp2
            go_ret2
            exact ⟨_, rfl, Kd.S_nil _ _ _ _ _, (by repeat (first | (with_reducible first | exact HB.out | apply below_alloc | apply pw_below_drewN | apply below_drew1) | exact HB.out))⟩
          | false =>
            rw [if_neg (by decide)] at H
            have H' := Aside0.mk H
            clear H
            have HF1 := Aside0.mk (HF.out rfl)
            clear HF HT
            go_wp2_with (first | ((with_reducible refine gate_dst (N := 53) rfl ?_); refine Kd.R_lit k36 _ 36 ?hg (N := 53) ?hd (xs := ([] : List S36)) (inner := []) (ok := fun _ => True) (okp := fun _ => True) ?hr ?hp (fun _ hk => hk) trivial (Below.refl _ _) (Nat.le_refl _) (by simp) ?_; (case hd => rfl); (case hg => rfl); (case hr => first | (go_simp; done) | (go_simp; rfl)); (case hp => exact (Reps.none _ _)); intro v2 w2 ho2 hb2 hg_ hnew_; clear hg_ hnew_; have n0_ := Aside0.mk (Kd.S_elder' (by (with_reducible repeat (first | apply Kd.S_alloc | apply Kd.S_drewN | apply Kd.S_drew)); exact HF1.out) (Kd.R_base ho2) hb2); have n1_ := Aside0.mk (Kd.R_lower ho2 (below_size (by repeat (first | (with_reducible first | exact HB.out | apply below_alloc | apply pw_below_drewN | apply below_drew1) | exact HB.out)))); have n2_ := Aside0.mk (below_step (by repeat (first | (with_reducible first | exact HB.out | apply below_alloc | apply pw_below_drewN | apply below_drew1) | exact HB.out)) hb2); clear HB HF1; have HF1 := n0_; have HO2 := n1_; have HB := n2_; clear n0_ n1_ n2_; clear hb2 ho2))
            go_roundg k1
            case measure => omega
            case rel => exact ⟨x4, true, [], (x7 + 1), rfl, rfl, ⟨by have := HI.out; have := Hi0.out; simp only [List.length_nil]; omega⟩, H', ⟨fun h => absurd h (by simp)⟩, ⟨fun _ => ⟨by (with_reducible repeat (first | apply Kd.S_alloc | apply Kd.S_drewN | apply Kd.S_drew)); exact HF1.out, by (with_reducible repeat (first | apply Kd.R_alloc | apply Kd.R_drewN | apply Kd.R_drew)); exact HO2.out⟩⟩, ⟨(by repeat (first | (with_reducible first | exact HB.out | apply below_alloc | apply pw_below_drewN | apply below_drew1) | exact HB.out))⟩⟩
        · have ctb : (y.f2.toList == ([91] : List UInt8)) = false := beq_eq_false_iff_ne.mpr ct
          rw [if_neg ct] at H
          clear ct
          by_cases cu : y.f2.toList = ([93] : List UInt8)
          · have cub : (y.f2.toList == ([93] : List UInt8)) = true := beq_iff_eq.mpr cu
            rw [if_pos cu] at H
            clear cu
            cases x5 with
            | false =>
              rw [if_neg (by decide)] at H
              obtain ⟨rfl, rfl⟩ := Prod.mk.inj H
              clear H
              go_wp2
              go_ret2
              exact ⟨_, rfl, Kd.S_nil _ _ _ _ _, (by repeat (first | (with_reducible first | exact HB.out | apply below_alloc | apply pw_below_drewN | apply below_drew1) | exact HB.out))⟩
            | true =>
              rw [if_pos rfl] at H
              have H' := Aside0.mk H
              clear H
              have HF1 := Aside0.mk (HT.out rfl).1
              have HO2 := Aside0.mk (HT.out rfl).2
              have hlx : x4.length < 100000 := by have := HI.out; have := C2.out; omega
              have LX := Aside0.mk hlx
              clear hlx
              clear HF HT
              obtain ⟨Ao, co, eo⟩ := Kd.R_slice HO2.out
              subst eo
              go_wp2_with (first | ((with_reducible refine gate_builtin (b := .append) (xs := #[.tmp 61, .tmp 63]) rfl ?_); at_builtin; refine Kd.S_append (Kd.slice 36 k36) (w0 := w) w.heap.size rfl (.tmp 61) (.tmp 63) 27 33 (.slice none 0 0) 24 rfl Tryd.underlying27 info33 rfl (by decide) (by omega) u4 x4 x6 [.slice Ao x6.length co] (fun _ => True) (fun k_ => some k_ = (.slice Ao x6.length co : Value).ownBlock) rfl rfl ?aP (fun k_ hk_ => ((Kd.R_mono (ok' := fun k_ => ((fun _ => True)) k_ ∧ some k_ ≠ (u4 : Value).ownBlock) (Kd.R_apart' (HO2.out) (Kd.S_typed HF1.out) (by decide)) (fun k_ hk => ⟨trivial, hk.2⟩))).1 k_ hk_.symm) ?aF ?aO ?aB ?aS ?aL ?_; (case aP => exact Kd.M_row (Kd.R_mono (Kd.R_tight rfl (Kd.R_mono (ok' := fun k_ => ((fun _ => True)) k_ ∧ some k_ ≠ (u4 : Value).ownBlock) (Kd.R_apart' (HO2.out) (Kd.S_typed HF1.out) (by decide)) (fun k_ hk => ⟨trivial, hk.2⟩))) (fun _ h_ => h_))); (case aB => exact (by repeat (first | (with_reducible first | exact HB.out | apply below_alloc | apply pw_below_drewN | apply below_drew1) | exact HB.out))); (case aF => exact (fun _ _ => trivial)); (case aO => exact (by (with_reducible repeat (first | apply Kd.S_alloc | apply Kd.S_drewN | apply Kd.S_drew)); exact Kd.S_mono HF1.out (fun k_ hk => ⟨trivial, fun e_ => hk.2 e_⟩))); (case aS => exact (below_size (by repeat (first | (with_reducible first | exact HB.out | apply below_alloc | apply pw_below_drewN | apply below_drew1) | exact HB.out)))); (case aL => have := LX.out; omega); intro v3 w3 ho hb hg hat; have n0_ := Aside0.mk (hb); have n1_ := Aside0.mk (ho); clear HB; clear HF1; clear HO2; have HB := n0_; have HO3 := n1_; clear n0_ n1_; clear ho hb hg hat))
              go_roundg k1
              case measure => omega
              case rel => exact ⟨x4 ++ [x6], false, x6, (x7 + 1), rfl, rfl, ⟨by have := HI.out; have := Hi0.out; simp only [List.length_append, List.length_cons, List.length_nil]; omega⟩, H', ⟨fun _ => by (with_reducible repeat (first | apply Kd.S_alloc | apply Kd.S_drewN | apply Kd.S_drew)); exact Kd.S_mono HO3.out (fun _ _ => trivial)⟩, ⟨fun h => absurd h (by simp)⟩, ⟨(by repeat (first | (with_reducible first | exact HB.out | apply below_alloc | apply pw_below_drewN | apply below_drew1) | exact HB.out))⟩⟩
          · have cub : (y.f2.toList == ([93] : List UInt8)) = false := beq_eq_false_iff_ne.mpr cu
            rw [if_neg cu] at H
            clear cu
            cases x5 with
            | true =>
              rw [if_pos rfl] at H
              have H' := Aside0.mk H
              clear H
              have HF1 := Aside0.mk (HT.out rfl).1
              have HO2 := Aside0.mk (HT.out rfl).2
              have hlx : x6.length < 100000 := by have := HI.out; have := C2.out; omega
              have LX := Aside0.mk hlx
              clear hlx
              clear HF HT
              go_wp2_with (first | ((with_reducible refine gate_builtin (b := .append) (xs := #[.tmp 67, .tmp 72]) rfl ?_); at_builtin; refine Kd.R_append k36 (w0 := w) w.heap.size rfl (.tmp 67) (.tmp 72) 33 36 (.agg #[(.int .i64 0), (.int .i64 0), (.string ⟨#[]⟩)]) 32 rfl Tryd.underlying33 info36 rfl (by decide) (by omega) u6 x6 y [.int .i64 y.f0, .int .i64 y.f1, .string y.f2] (fun _ => True) (fun _ => False) rfl rfl ?aP (fun _ hk => hk.elim) ?aF ?aO ?aB ?aS ?aL ?_; (case aP => exact k36_mkM _ _ _ y); (case aB => exact (by repeat (first | (with_reducible first | exact HB.out | apply below_alloc | apply pw_below_drewN | apply below_drew1) | exact HB.out))); (case aF => exact (fun _ _ => trivial)); (case aO => exact (by (with_reducible repeat (first | apply Kd.R_alloc | apply Kd.R_drewN | apply Kd.R_drew)); exact HO2.out)); (case aS => exact (below_size (by repeat (first | (with_reducible first | exact HB.out | apply below_alloc | apply pw_below_drewN | apply below_drew1) | exact HB.out)))); (case aL => have := LX.out; omega); intro v3 w3 ho hb hg hat; have n0_ := Aside0.mk (hb); have n1_ := Aside0.mk (ho); have n2_ := Aside0.mk (Kd.S_after (by (with_reducible repeat (first | apply Kd.S_alloc | apply Kd.S_drewN | apply Kd.S_drew)); exact HF1.out) hg hat); clear HB; clear HF1; clear HO2; have HB := n0_; have HO2 := n1_; have HF1 := n2_; clear n0_ n1_ n2_; clear ho hb hg hat))
              go_roundg k1
              case measure => omega
              case rel => exact ⟨x4, true, x6 ++ [y], (x7 + 1), rfl, rfl, ⟨by have := HI.out; have := Hi0.out; simp only [List.length_append, List.length_cons, List.length_nil]; omega⟩, H', ⟨fun h => absurd h (by simp)⟩, ⟨fun _ => ⟨by (with_reducible repeat (first | apply Kd.S_alloc | apply Kd.S_drewN | apply Kd.S_drew)); exact HF1.out, by (with_reducible repeat (first | apply Kd.R_alloc | apply Kd.R_drewN | apply Kd.R_drew)); exact HO2.out⟩⟩, ⟨(by repeat (first | (with_reducible first | exact HB.out | apply below_alloc | apply pw_below_drewN | apply below_drew1) | exact HB.out))⟩⟩
            | false =>
              rw [if_neg (by decide)] at H
              have H' := Aside0.mk H
              clear H
              have HF1 := Aside0.mk (HF.out rfl)
              have hlx : x4.length < 100000 := by have := HI.out; have := C2.out; omega
              have LX := Aside0.mk hlx
              clear hlx
              clear HF HT
              obtain ⟨row, hrow⟩ : ∃ row : List S36, row = [y] := ⟨_, rfl⟩
              have HRow := Aside0.mk hrow
              clear hrow
              go_wp2_with (first | ((with_reducible refine gate_dst (N := 21) rfl ?_); refine Kd.R_lit k36 _ 36 ?hg (N := 21) ?hd (xs := ([y] : List S36)) (inner := [.int .i64 y.f0, .int .i64 y.f1, .string y.f2]) (ok := fun _ => True) (okp := fun _ => True) ?hr ?hp (fun _ hk => hk) trivial (Below.refl _ _) (Nat.le_refl _) (by simp) ?_; (case hd => rfl); (case hg => rfl); (case hr => first | (go_simp; done) | (go_simp; rfl)); (case hp => exact (Reps.c3 (show Kd.M k36 _ _ _ y [.int .i64 y.f0, .int .i64 y.f1, .string y.f2] from (k36_mkM _ _ _ y)) (Reps.none _ _))); intro v2 w2 ho2 hb2 hg_ hnew_; clear hg_ hnew_; (rw [← HRow.out] at ho2); have n0_ := Aside0.mk (Kd.S_elder' (by (with_reducible repeat (first | apply Kd.S_alloc | apply Kd.S_drewN | apply Kd.S_drew)); exact HF1.out) (Kd.R_base ho2) hb2); have n1_ := Aside0.mk (Kd.R_lower ho2 (below_size (by repeat (first | (with_reducible first | exact HB.out | apply below_alloc | apply pw_below_drewN | apply below_drew1) | exact HB.out)))); have n2_ := Aside0.mk (below_step (by repeat (first | (with_reducible first | exact HB.out | apply below_alloc | apply pw_below_drewN | apply below_drew1) | exact HB.out)) hb2); clear HB HF1; have HF1 := n0_; have HO2 := n1_; have HB := n2_; clear n0_ n1_ n2_; clear hb2 ho2; obtain ⟨Ao, co, eo⟩ := Kd.R_slice HO2.out; subst eo) | ((with_reducible refine gate_builtin (b := .append) (xs := #[.tmp 16, .tmp 22]) rfl ?_); at_builtin; refine Kd.S_append (Kd.slice 36 k36) (w0 := w) w.heap.size rfl (.tmp 16) (.tmp 22) 27 33 (.slice none 0 0) 24 rfl Tryd.underlying27 info33 rfl (by decide) (by omega) u4 x4 row [.slice Ao row.length co] (fun _ => True) (fun k_ => some k_ = (.slice Ao row.length co : Value).ownBlock) rfl rfl ?aP (fun k_ hk_ => ((Kd.R_mono (ok' := fun k_ => ((fun _ => True)) k_ ∧ some k_ ≠ (u4 : Value).ownBlock) (Kd.R_apart' (HO2.out) (Kd.S_typed HF1.out) (by decide)) (fun k_ hk => ⟨trivial, hk.2⟩))).1 k_ hk_.symm) ?aF ?aO ?aB ?aS ?aL ?_; (case aP => exact Kd.M_row (Kd.R_mono (Kd.R_tight rfl (Kd.R_mono (ok' := fun k_ => ((fun _ => True)) k_ ∧ some k_ ≠ (u4 : Value).ownBlock) (Kd.R_apart' (HO2.out) (Kd.S_typed HF1.out) (by decide)) (fun k_ hk => ⟨trivial, hk.2⟩))) (fun _ h_ => h_))); (case aB => exact (by repeat (first | (with_reducible first | exact HB.out | apply below_alloc | apply pw_below_drewN | apply below_drew1) | exact HB.out))); (case aF => exact (fun _ _ => trivial)); (case aO => exact (by (with_reducible repeat (first | apply Kd.S_alloc | apply Kd.S_drewN | apply Kd.S_drew)); exact Kd.S_mono HF1.out (fun k_ hk => ⟨trivial, fun e_ => hk.2 e_⟩))); (case aS => exact (below_size (by repeat (first | (with_reducible first | exact HB.out | apply below_alloc | apply pw_below_drewN | apply below_drew1) | exact HB.out)))); (case aL => have := LX.out; omega); intro v3 w3 ho hb hg hat; have n0_ := Aside0.mk (hb); have n1_ := Aside0.mk (ho); clear HB; clear HF1; clear HO2; have HB := n0_; have HO3 := n1_; clear n0_ n1_; clear ho hb hg hat))
              go_roundg k1
              case measure => omega
              case rel => exact ⟨x4 ++ [row], false, x6, (x7 + 1), rfl, rfl, ⟨by have := HI.out; have := Hi0.out; simp only [List.length_append, List.length_cons, List.length_nil]; omega⟩, ⟨by rw [HRow.out]; exact H'.out⟩, ⟨fun _ => by (with_reducible repeat (first | apply Kd.S_alloc | apply Kd.S_drewN | apply Kd.S_drew)); exact Kd.S_mono HO3.out (fun _ _ => trivial)⟩, ⟨fun h => absurd h (by simp)⟩, ⟨(by repeat (first | (with_reducible first | exact HB.out | apply below_alloc | apply pw_below_drewN | apply below_drew1) | exact HB.out))⟩⟩
    · have c2b0 : decide (x7 < (l0.length : Int)) = false := decide_eq_false c2
      rw [drop_end l0 x7 c2] at H
      clear c2
      simp only [setsFrom] at H
      cases x5 with
      | true =>
        rw [if_pos rfl] at H
        obtain ⟨rfl, rfl⟩ := Prod.mk.inj H
        clear H
        go_wp2
        go_ret2
        exact ⟨_, rfl, Kd.S_nil _ _ _ _ _, (by repeat (first | (with_reducible first | exact HB.out | apply below_alloc | apply pw_below_drewN | apply below_drew1) | exact HB.out))⟩
      | false =>
        rw [if_neg (by decide)] at H
        obtain ⟨rfl, rfl⟩ := Prod.mk.inj H
        clear H
        have HF1 := Aside0.mk (HF.out rfl)
        clear HF HT
        go_wp2
        go_ret2
        exact ⟨_, rfl, by (with_reducible repeat (first | apply Kd.S_alloc | apply Kd.S_drewN | apply Kd.S_drew)); exact HF1.out, (by repeat (first | (with_reducible first | exact HB.out | apply below_alloc | apply pw_below_drewN | apply below_drew1) | exact HB.out))⟩

end Go.Proofs.YtenjohemplgnmaaDoor.P
