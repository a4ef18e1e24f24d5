/- words.split and its closure, as the print states contracts. -/
import Derived.Test.YtenjohemplgnmaaDoorPx0
import Derived.Lib.Hide
import Derived.OneCell
import Derived.StillTailTactics
import Derived.Outline
namespace Go.Proofs.YtenjohemplgnmaaDoor.P
open Go.RowKit Go.Proofs.YtenjohemplgnmaaDoorW.PrintWords Go.Proofs.YtenjohemplgnmaaDoorW.PrintLast Go.Proofs.YtenjohemplgnmaaDoorW.PrintMore

set_option linter.unusedSimpArgs false
set_option maxHeartbeats 400000 in
theorem take_no (ba bo bl bs : Nat) (at_ end_ : Int) (w : World) (hle : end_ ≤ at_) (h0 : 0 ≤ end_) (h1 : end_ ≤ 9223372036854775806)
    (ca : w.cell? ⟨ba, 0, none⟩ = some (.int .i64 at_)) (fa : w.frozen? ⟨ba, 0, none⟩ = false) :
    Calls Tryd.prog 39 #[.int .i64 end_, .pointer (some ⟨ba, 0, none⟩), .pointer (some ⟨bo, 0, none⟩), .pointer (some ⟨bl, 0, none⟩), .pointer (some ⟨bs, 0, none⟩)] w fun e w' =>
      e = .returned (.tuple #[]) ∧ w' = w.setCell ⟨ba, 0, none⟩ (.int .i64 (end_ + 1)) := by
  have hd : decide (at_ < end_) = false := decide_eq_false (by omega)
  go_enter Tryd.func39, Tryd.ntmps39
  go_wp2
  go_end0
  exact ⟨rfl, rfl⟩

set_option maxRecDepth 100000 in
set_option maxHeartbeats 1000000 in
theorem take_yes (ba bo bl bs : Nat) (s : ByteArray) (line at_ end_ : Int) (v : Value) (xs : List S35) (w0 w : World) (hlt : at_ < end_) (h0 : 0 ≤ at_) (h1 : end_ ≤ s.size) (h2 : end_ ≤ 9223372036854775806)
    (ha : w.heap[ba]? = some (.cells #[.int .i64 at_] 3 (0, 0))) (ho : w.heap[bo]? = some (.cells #[v] 32 (0, 0))) (hl : w.heap[bl]? = some (.cells #[.int .i64 line] 3 (0, 0))) (hs : w.heap[bs]? = some (.cells #[.string s] 9 (0, 0)))
    (hne : ba ≠ bl) (HO : Kd.R k35 35 w w0.heap.size (fun _ => True) v xs) (HB : Below w0.heap.size w0 w) (ga : w0.heap.size ≤ ba) (go : w0.heap.size ≤ bo) (hx : xs.length < 4398046511103) :
    Calls Tryd.prog 39 #[.int .i64 end_, .pointer (some ⟨ba, 0, none⟩), .pointer (some ⟨bo, 0, none⟩), .pointer (some ⟨bl, 0, none⟩), .pointer (some ⟨bs, 0, none⟩)] w fun e w' =>
      e = .returned (.tuple #[]) ∧ ∃ v', w'.heap[ba]? = some (.cells #[.int .i64 (end_ + 1)] 3 (0, 0)) ∧ w'.heap[bo]? = some (.cells #[v'] 32 (0, 0)) ∧ w'.heap[bl]? = some (.cells #[.int .i64 line] 3 (0, 0)) ∧ w'.heap[bs]? = some (.cells #[.string s] 9 (0, 0)) ∧
        Kd.R k35 35 w' w0.heap.size (fun _ => True) v' (xs ++ [⟨line, at_, s.extract at_.toNat end_.toNat⟩]) ∧ Below w0.heap.size w0 w' := by
  have hd : decide (at_ < end_) = true := decide_eq_true hlt
  have ca := cell_of_one ha
  have co := cell_of_one ho
  have cl := cell_of_one hl
  have cs := cell_of_one hs
  have b1 : at_ ≤ end_ := by omega
  have b3 : 0 ≤ end_ := by omega
  have fo := free_of_one ho
  have na := Kd.R_ne HO ha (by decide)
  have no := Kd.R_ne HO ho (by decide)
  have nl := Kd.R_ne HO hl (by decide)
  have ns := Kd.R_ne HO hs (by decide)
  have nao := blk_ne ha ho (by decide)
  have nlo := blk_ne hl ho (by decide)
  have cwo : ∀ X, (w.alloc X).cell? ⟨bo, 0, none⟩ = some v := fun X => cell_of_one (blk_alloc ho X)
  have nso := blk_ne hs ho (by decide)
  have nsa := blk_ne hs ha (by decide)
  go_enter Tryd.func39, Tryd.ntmps39
  go_wp2
  refine wp_region_noPanic ?_
  refine wp_region_held_drew (S := (fun W => W.cell? ⟨ba, 0, none⟩ = some (.int .i64 at_) ∧ W.cell? ⟨bl, 0, none⟩ = some (.int .i64 line) ∧ W.cell? ⟨bs, 0, none⟩ = some (.string s))) (by kernel_rfl) ⟨ca, cl, cs⟩ (fun hHeld => ?_)
  refine wpAnyH_take (i := 1) (v := ?_) rfl (by kernel_rfl) (by kernel_rfl) (by kernel_rfl) (fun _ _ _ h => h) (Or.inl ⟨by rfl, ?_⟩) hHeld ?_
  rotate_left
  · (intro w hSw; (try dsimp only at hSw); obtain ⟨hS1, hS2, hS3⟩ := hSw; go_simp; try (with_reducible rfl))
  (try simp only [Act.put, List.setIfInBounds_toArray, List.set_cons_zero, List.set_cons_succ])
  refine wpAnyH_take (i := 2) (v := ?_) rfl (by kernel_rfl) (by kernel_rfl) (by kernel_rfl) (fun _ _ _ h => h) (Or.inl ⟨by rfl, ?_⟩) hHeld ?_
  rotate_left
  · (intro w hSw; (try dsimp only at hSw); obtain ⟨hS1, hS2, hS3⟩ := hSw; go_simp; try (with_reducible rfl))
  (try simp only [Act.put, List.setIfInBounds_toArray, List.set_cons_zero, List.set_cons_succ])
  refine wpAnyH_take (i := 3) (v := ?_) rfl (by kernel_rfl) (by kernel_rfl) (by kernel_rfl) (fun _ _ _ h => h) (Or.inl ⟨by rfl, ?_⟩) hHeld ?_
  rotate_left
  · (intro w hSw; (try dsimp only at hSw); obtain ⟨hS1, hS2, hS3⟩ := hSw; go_simp; try (with_reducible rfl))
  (try simp only [Act.put, List.setIfInBounds_toArray, List.set_cons_zero, List.set_cons_succ])
  refine wpAnyH_take (i := 4) (v := ?_) rfl (by kernel_rfl) (by kernel_rfl) (by kernel_rfl) (fun _ _ _ h => h) (Or.inl ⟨by rfl, ?_⟩) hHeld ?_
  rotate_left
  · (intro w hSw; (try dsimp only at hSw); obtain ⟨hS1, hS2, hS3⟩ := hSw; go_simp; try (with_reducible rfl))
  (try simp only [Act.put, List.setIfInBounds_toArray, List.set_cons_zero, List.set_cons_succ])
  refine wpAnyH_take (i := 5) (v := ?_) rfl (by kernel_rfl) (by kernel_rfl) (by kernel_rfl) (fun _ _ _ h => h) (Or.inl ⟨by rfl, ?_⟩) hHeld ?_
  rotate_left
  · (intro w hSw; (try dsimp only at hSw); obtain ⟨hS1, hS2, hS3⟩ := hSw; go_simp; try (with_reducible rfl))
  (try simp only [Act.put, List.setIfInBounds_toArray, List.set_cons_zero, List.set_cons_succ])
  refine wpAnyH_take (i := 6) (v := ?_) rfl (by kernel_rfl) (by kernel_rfl) (by kernel_rfl) (fun _ _ _ h => h) (Or.inl ⟨by rfl, ?_⟩) hHeld ?_
  rotate_left
  · (intro w hSw; (try dsimp only at hSw); obtain ⟨hS1, hS2, hS3⟩ := hSw; go_simp; try (with_reducible rfl))
  (try simp only [Act.put, List.setIfInBounds_toArray, List.set_cons_zero, List.set_cons_succ])
  refine wpAnyH_take (i := 7) (v := ?_) rfl (by kernel_rfl) (by kernel_rfl) (by kernel_rfl) (fun _ _ _ h => h) (Or.inl ⟨by rfl, ?_⟩) hHeld ?_
  rotate_left
  · (intro w hSw; (try dsimp only at hSw); obtain ⟨hS1, hS2, hS3⟩ := hSw; go_simp; try (with_reducible rfl))
  (try simp only [Act.put, List.setIfInBounds_toArray, List.set_cons_zero, List.set_cons_succ])
  refine wpAnyH_ready (rs := [0, 8]) (by kernel_rfl) (by simp) ?_
  refine AllReadyH.cons rfl (fun K hK => ?_) ?_
  · skip
    go_simp
    refine hK.out _ _ (by first | exact hHeld | go_keep) (fun hHeld => ?_)
    clear hK K
    (try simp only [Act.put, List.setIfInBounds_toArray, List.set_cons_zero, List.set_cons_succ])
    refine wpAnyH_ready (rs := [8]) (by kernel_rfl) (by simp) ?_
    refine AllReadyH.cons rfl (fun K hK => ?_) ?_
    · skip
      go_simp
      refine hK.out _ _ (by first | exact hHeld | go_keep) (fun hHeld => ?_)
      clear hK K
      (try simp only [Act.put, List.setIfInBounds_toArray, List.set_cons_zero, List.set_cons_succ])
      refine wpAnyH_ready (rs := [9]) (by kernel_rfl) (by simp) ?_
      refine AllReadyH.cons rfl (fun K hK => ?_) ?_
      · skip
        refine Kd.R_append_step k35 (w0 := w0) (W := w.drew) w0.heap.size (by rfl) _ _ 32 35 _ 32 (by rfl) Tryd.underlying32 info35 rfl (by decide) (by decide) v xs ⟨line, at_, s.extract at_.toNat end_.toNat⟩ _ (fun _ => True) (fun _ => False) (by rfl) (by rfl) (k35_mkM _ _ _ _) (fun _ h => h.elim) (fun _ _ => trivial) (Kd.R_drew HO) HB.drew HB.size (by omega) ?_
        intro v1 w1 HO1 HB1 hg1 hat1
        obtain ⟨A1, c1, rfl⟩ := Kd.R_slice HO1
        rw [List.length_append, List.length_singleton] at HO1
        have ea := blk_grown (blk_drew ha) hg1 na; have eo := blk_grown (blk_drew ho) hg1 no; have el := blk_grown (blk_drew hl) hg1 nl; have es := blk_grown (blk_drew hs) hg1 ns; have fo1 := free_of_one eo; have co1 := cell_of_one eo
        refine hK.out _ _ ⟨cell_of_one ea, cell_of_one el, cell_of_one es⟩ (fun hHeld => ?_)
        clear hK K
        (try simp only [Act.put, List.setIfInBounds_toArray, List.set_cons_zero, List.set_cons_succ])
        refine wpAnyH_ready (rs := [10]) (by kernel_rfl) (by simp) ?_
        refine AllReadyH.cons rfl (fun K hK => ?_) ?_
        · skip
          go_simp
          refine hK.out _ _ ⟨cell_of_one (blk_far (p := ⟨bo, 0, none⟩) ea nao _), cell_of_one (blk_far (p := ⟨bo, 0, none⟩) el nlo _), cell_of_one (blk_far (p := ⟨bo, 0, none⟩) es nso _)⟩ (fun hHeld => ?_)
          clear hK K
          (try simp only [Act.put, List.setIfInBounds_toArray, List.set_cons_zero, List.set_cons_succ])
          refine wpAnyH_done (by kernel_rfl) ?_ _
          refine NoPanic.normal ?_
          have ea2 := blk_far (p := ⟨bo, 0, none⟩) ea nao (.slice A1 (xs.length + 1) c1)
          have eo2 := one_setCell (u := .slice A1 (xs.length + 1) c1) eo
          have el2 := blk_far (p := ⟨bo, 0, none⟩) el nlo (.slice A1 (xs.length + 1) c1)
          have es2 := blk_far (p := ⟨bo, 0, none⟩) es nso (.slice A1 (xs.length + 1) c1)
          have HO2 := Kd.R_set HO1 eo (by decide) 0 (.slice A1 (xs.length + 1) c1)
          have HB2 := below_set (v := .slice A1 (xs.length + 1) c1) (j := 0) HB1 go
          clear hHeld
          generalize w1.setCell ⟨bo, 0, none⟩ (.slice A1 (xs.length + 1) c1) = w2 at *
          have ca2 := cell_of_one ea2
          have fa2 := free_of_one ea2
          go_wp2
          go_end0
          exact ⟨rfl, _, one_setCell ea2, blk_far (p := ⟨ba, 0, none⟩) eo2 (Ne.symm nao) _, blk_far (p := ⟨ba, 0, none⟩) el2 (Ne.symm hne) _, blk_far (p := ⟨ba, 0, none⟩) es2 nsa _, Kd.R_set HO2 ea2 (by decide) 0 _, below_set HB2 ga⟩
        exact AllReadyH.nil
      exact AllReadyH.nil
    exact AllReadyH.nil
  refine AllReadyH.cons rfl (fun K hK => ?_) ?_
  · skip
    go_simp
    refine hK.out _ _ (by first | exact hHeld | go_keep) (fun hHeld => ?_)
    clear hK K
    (try simp only [Act.put, List.setIfInBounds_toArray, List.set_cons_zero, List.set_cons_succ])
    refine wpAnyH_ready (rs := [0]) (by kernel_rfl) (by simp) ?_
    refine AllReadyH.cons rfl (fun K hK => ?_) ?_
    · skip
      go_simp
      refine hK.out _ _ (by first | exact hHeld | go_keep) (fun hHeld => ?_)
      clear hK K
      (try simp only [Act.put, List.setIfInBounds_toArray, List.set_cons_zero, List.set_cons_succ])
      refine wpAnyH_ready (rs := [9]) (by kernel_rfl) (by simp) ?_
      refine AllReadyH.cons rfl (fun K hK => ?_) ?_
      · skip
        refine Kd.R_append_step k35 (w0 := w0) (W := w.drew) w0.heap.size (by rfl) _ _ 32 35 _ 32 (by rfl) Tryd.underlying32 info35 rfl (by decide) (by decide) v xs ⟨line, at_, s.extract at_.toNat end_.toNat⟩ _ (fun _ => True) (fun _ => False) (by rfl) (by rfl) (k35_mkM _ _ _ _) (fun _ h => h.elim) (fun _ _ => trivial) (Kd.R_drew HO) HB.drew HB.size (by omega) ?_
        intro v1 w1 HO1 HB1 hg1 hat1
        obtain ⟨A1, c1, rfl⟩ := Kd.R_slice HO1
        rw [List.length_append, List.length_singleton] at HO1
        have ea := blk_grown (blk_drew ha) hg1 na; have eo := blk_grown (blk_drew ho) hg1 no; have el := blk_grown (blk_drew hl) hg1 nl; have es := blk_grown (blk_drew hs) hg1 ns; have fo1 := free_of_one eo; have co1 := cell_of_one eo
        refine hK.out _ _ ⟨cell_of_one ea, cell_of_one el, cell_of_one es⟩ (fun hHeld => ?_)
        clear hK K
        (try simp only [Act.put, List.setIfInBounds_toArray, List.set_cons_zero, List.set_cons_succ])
        refine wpAnyH_ready (rs := [10]) (by kernel_rfl) (by simp) ?_
        refine AllReadyH.cons rfl (fun K hK => ?_) ?_
        · skip
          go_simp
          refine hK.out _ _ ⟨cell_of_one (blk_far (p := ⟨bo, 0, none⟩) ea nao _), cell_of_one (blk_far (p := ⟨bo, 0, none⟩) el nlo _), cell_of_one (blk_far (p := ⟨bo, 0, none⟩) es nso _)⟩ (fun hHeld => ?_)
          clear hK K
          (try simp only [Act.put, List.setIfInBounds_toArray, List.set_cons_zero, List.set_cons_succ])
          refine wpAnyH_done (by kernel_rfl) ?_ _
          refine NoPanic.normal ?_
          have ea2 := blk_far (p := ⟨bo, 0, none⟩) ea nao (.slice A1 (xs.length + 1) c1)
          have eo2 := one_setCell (u := .slice A1 (xs.length + 1) c1) eo
          have el2 := blk_far (p := ⟨bo, 0, none⟩) el nlo (.slice A1 (xs.length + 1) c1)
          have es2 := blk_far (p := ⟨bo, 0, none⟩) es nso (.slice A1 (xs.length + 1) c1)
          have HO2 := Kd.R_set HO1 eo (by decide) 0 (.slice A1 (xs.length + 1) c1)
          have HB2 := below_set (v := .slice A1 (xs.length + 1) c1) (j := 0) HB1 go
          clear hHeld
          generalize w1.setCell ⟨bo, 0, none⟩ (.slice A1 (xs.length + 1) c1) = w2 at *
          have ca2 := cell_of_one ea2
          have fa2 := free_of_one ea2
          go_wp2
          go_end0
          exact ⟨rfl, _, one_setCell ea2, blk_far (p := ⟨ba, 0, none⟩) eo2 (Ne.symm nao) _, blk_far (p := ⟨ba, 0, none⟩) el2 (Ne.symm hne) _, blk_far (p := ⟨ba, 0, none⟩) es2 nsa _, Kd.R_set HO2 ea2 (by decide) 0 _, below_set HB2 ga⟩
        exact AllReadyH.nil
      exact AllReadyH.nil
    exact AllReadyH.nil
  exact AllReadyH.nil

def tk (s : ByteArray) (line at_ : Int) (xs : List S35) (end_ : Int) : List S35 := if at_ < end_ then xs ++ [⟨line, at_, s.extract at_.toNat end_.toNat⟩] else xs

theorem tk_len (s : ByteArray) (line at_ : Int) (xs : List S35) (end_ : Int) : (tk s line at_ xs end_).length ≤ xs.length + 1 := by
  unfold tk; split <;> simp

theorem take_any (ba bo bl bs : Nat) (s : ByteArray) (line at_ end_ : Int) (v : Value) (xs : List S35) (w0 w : World) (h0 : 0 ≤ at_) (h00 : 0 ≤ end_) (h1 : end_ ≤ s.size) (h2 : end_ ≤ 9223372036854775806)
    (ha : w.heap[ba]? = some (.cells #[.int .i64 at_] 3 (0, 0))) (ho : w.heap[bo]? = some (.cells #[v] 32 (0, 0))) (hl : w.heap[bl]? = some (.cells #[.int .i64 line] 3 (0, 0))) (hs : w.heap[bs]? = some (.cells #[.string s] 9 (0, 0)))
    (hne : ba ≠ bl) (HO : Kd.R k35 35 w w0.heap.size (fun _ => True) v xs) (HB : Below w0.heap.size w0 w) (ga : w0.heap.size ≤ ba) (go : w0.heap.size ≤ bo) (hx : xs.length < 4398046511103) :
    Calls Tryd.prog 39 #[.int .i64 end_, .pointer (some ⟨ba, 0, none⟩), .pointer (some ⟨bo, 0, none⟩), .pointer (some ⟨bl, 0, none⟩), .pointer (some ⟨bs, 0, none⟩)] w fun e w' =>
      e = .returned (.tuple #[]) ∧ ∃ v', w'.heap[ba]? = some (.cells #[.int .i64 (end_ + 1)] 3 (0, 0)) ∧ w'.heap[bo]? = some (.cells #[v'] 32 (0, 0)) ∧ w'.heap[bl]? = some (.cells #[.int .i64 line] 3 (0, 0)) ∧ w'.heap[bs]? = some (.cells #[.string s] 9 (0, 0)) ∧
        Kd.R k35 35 w' w0.heap.size (fun _ => True) v' (tk s line at_ xs end_) ∧ Below w0.heap.size w0 w' := by
  by_cases hlt : at_ < end_
  · have := take_yes ba bo bl bs s line at_ end_ v xs w0 w hlt h0 h1 h2 ha ho hl hs hne HO HB ga go hx
    unfold tk
    rw [if_pos hlt]
    exact this
  · unfold tk
    rw [if_neg hlt]
    refine (take_no ba bo bl bs at_ end_ w (by omega) h00 h2 (cell_of_one ha) (free_of_one ha)).mono fun e w' ⟨he, hw⟩ => ⟨he, v, ?_⟩
    subst hw
    have nao := blk_ne ha ho (by decide)
    have nsa := blk_ne hs ha (by decide)
    exact ⟨one_setCell ha, blk_far (p := ⟨ba, 0, none⟩) ho (Ne.symm nao) _, blk_far (p := ⟨ba, 0, none⟩) hl (Ne.symm hne) _, blk_far (p := ⟨ba, 0, none⟩) hs nsa _, Kd.R_set HO ha (by decide) 0 _, below_set HB ga⟩

theorem two_tests {a : Int} (h : (a == 32) = true ∨ (a == 9) = true) : a = 32 ∨ a = 9 := by simpa using h

def isBlank (s : ByteArray) (i : Nat) : Bool := bt s i == 32 || bt s i == 9
def spl (s : ByteArray) (line : Int) : Nat → Int × List S35
  | 0 => (0, [])
  | i + 1 => if isBlank s i = true then ((i : Int) + 1, tk s line (spl s line i).1 (spl s line i).2 i) else spl s line i
theorem spl_bd (s : ByteArray) (line : Int) (i : Nat) : 0 ≤ (spl s line i).1 ∧ (spl s line i).1 ≤ i ∧ (spl s line i).2.length ≤ i := by
  induction i with
  | zero => exact ⟨Int.le_refl _, Int.le_refl _, Nat.le_refl _⟩
  | succ i ih =>
    unfold spl
    split
    · have := tk_len s line (spl s line i).1 (spl s line i).2 i
      exact ⟨by simp; omega, by simp, by simp; omega⟩
    · exact ⟨by omega, by omega, by omega⟩

/-- What the loop knows of the world. -/
def SplRel (s : ByteArray) (line : Int) (w0 : World) (k : Nat) (w : World) : Prop :=
  ∃ v, w.heap[w0.heap.size + 1 + 1 + 1]? = some (.cells #[.int .i64 (spl s line k).1] 3 (0, 0)) ∧ w.heap[w0.heap.size + 1 + 1]? = some (.cells #[v] 32 (0, 0)) ∧ w.heap[w0.heap.size + 1]? = some (.cells #[.int .i64 line] 3 (0, 0)) ∧ w.heap[w0.heap.size]? = some (.cells #[.string s] 9 (0, 0)) ∧
    Kd.R k35 35 w w0.heap.size (fun _ => True) v (spl s line k).2 ∧ Below w0.heap.size w0 w

theorem splRel_start (s : ByteArray) (line : Int) (w : World) : SplRel s line w 0 ((((w.alloc (Obj.cells #[Value.string s] 9)).alloc (Obj.cells #[Value.int IntKind.i64 line] 3)).alloc (Obj.cells #[Value.slice none 0 0] 32)).alloc (Obj.cells #[Value.int IntKind.i64 0] 3)) := by
  refine ⟨.slice none 0 0, ?_, ?_, ?_, ?_, Kd.R_nil _ _ _ _ _, ?_⟩
  · have := blk_new (((w.alloc (Obj.cells #[Value.string s] 9)).alloc (Obj.cells #[Value.int IntKind.i64 line] 3)).alloc (Obj.cells #[Value.slice none 0 0] 32)) (Obj.cells #[Value.int IntKind.i64 0] 3)
    simpa [spl] using this
  · have := blk_alloc (blk_new ((w.alloc (Obj.cells #[Value.string s] 9)).alloc (Obj.cells #[Value.int IntKind.i64 line] 3)) (Obj.cells #[Value.slice none 0 0] 32)) (Obj.cells #[Value.int IntKind.i64 0] 3)
    simpa using this
  · have := blk_alloc (blk_alloc (blk_new (w.alloc (Obj.cells #[Value.string s] 9)) (Obj.cells #[Value.int IntKind.i64 line] 3)) (Obj.cells #[Value.slice none 0 0] 32)) (Obj.cells #[Value.int IntKind.i64 0] 3)
    simpa using this
  · exact blk_alloc (blk_alloc (blk_alloc (blk_new w (Obj.cells #[Value.string s] 9)) _) _) _
  · exact below_alloc (below_alloc (below_alloc (below_alloc (Below.refl _ _) _) _) _) _

def words_split.f (a0 : ByteArray) (a1 : Int) : Option (List S35) :=
  if a0.size < 4398046511103 then some (tk a0 a1 (spl a0 a1 a0.size).1 (spl a0 a1 a0.size).2 a0.size) else none

set_option maxRecDepth 100000 in
set_option maxHeartbeats 1000000 in
theorem words_split.calls (a0 : ByteArray) (a1 : Int) (r : List S35) (w : World) (h : words_split.f a0 a1 = some r) :
    Calls Tryd.prog 29 #[.string a0, .int .i64 a1] w fun e w' => ∃ v0_ : Value, e = .returned (v0_) ∧ Kd.R k35 35 w' w.heap.size (fun _ => True) v0_ r ∧ Below w.heap.size w w' := by
  unfold words_split.f at h
  split at h
  case isFalse => cases h
  case isTrue hsz =>
  injection h with h
  have hr := Lib.hid h
  clear h
  have hB : isBlank a0 = isBlank a0 := rfl
  have start := Lib.hid (splRel_start a0 a1 w)
  clear hB
  go_enter Tryd.func29, Tryd.ntmps29
  go_wp2_with fail
  go_loopw [11] (fun i wr => ∃ k : Nat, k ≤ a0.size ∧ i = .int .i64 k ∧ Aside0 (SplRel a0 a1 w k wr)) (fun i _ => a0.size - (intOf i).toNat)
  case atStart => exact ⟨0, Nat.zero_le _, rfl, ⟨start.out⟩⟩
  case round =>
    obtain ⟨k, hk, rfl, HR⟩ := hrel
    obtain ⟨v, ha, ho, hl, hs, HO, HB⟩ := HR.out
    clear HR start
    have hbd := spl_bd a0 a1 k
    have cs := cell_of_one hs
    by_cases hlt : k < a0.size
    · have hbt := bt_at a0 k (by simpa using hlt)
      have hbk := Lib.hid (show (isBlank a0 k = true) ↔ ((a0[k].toNat : Int) = 32 ∨ (a0[k].toNat : Int) = 9) by
        unfold isBlank
        rw [← hbt]
        simp)
      clear hbt
      have yes := Lib.hid (fun hb : isBlank a0 k = true => show spl a0 a1 (k + 1) = ((k : Int) + 1, tk a0 a1 (spl a0 a1 k).1 (spl a0 a1 k).2 k) from if_pos hb)
      have no := Lib.hid (fun hb : ¬ isBlank a0 k = true => show spl a0 a1 (k + 1) = spl a0 a1 k from if_neg hb)
      go_wp2_with fail
      · refine (take_any (w.heap.size + 1 + 1 + 1) (w.heap.size + 1 + 1) (w.heap.size + 1) w.heap.size a0 a1 (spl a0 a1 k).1 k v (spl a0 a1 k).2 w wr hbd.1 (by omega) (by omega) (by omega) ha ho hl hs (by omega) HO HB (by omega) (by omega) (by omega)).mono ?_
        rintro e w1 ⟨rfl, v1, ha1, ho1, hl1, hs1, HO1, HB1⟩
        have hbb := yes.out (hbk.out.2 (.inl ‹_›))
        go_wp2_with fail
        go_roundw
        case rel => exact ⟨k + 1, by omega, by go_num, ⟨⟨v1, by rw [hbb]; exact ha1, ho1, hl1, hs1, by rw [hbb]; exact HO1, HB1⟩⟩⟩
        case measure => simp [intOf]; omega
      · refine (take_any (w.heap.size + 1 + 1 + 1) (w.heap.size + 1 + 1) (w.heap.size + 1) w.heap.size a0 a1 (spl a0 a1 k).1 k v (spl a0 a1 k).2 w wr hbd.1 (by omega) (by omega) (by omega) ha ho hl hs (by omega) HO HB (by omega) (by omega) (by omega)).mono ?_
        rintro e w1 ⟨rfl, v1, ha1, ho1, hl1, hs1, HO1, HB1⟩
        have hbb := yes.out (hbk.out.2 (two_tests ‹_›))
        go_wp2_with fail
        go_roundw
        case rel => exact ⟨k + 1, by omega, by go_num, ⟨⟨v1, by rw [hbb]; exact ha1, ho1, hl1, hs1, by rw [hbb]; exact HO1, HB1⟩⟩⟩
        case measure => simp [intOf]; omega
      · have hbb := no.out (fun hb => by
          have h2 : ((a0[k].toNat : Int) == 32) = false ∧ ((a0[k].toNat : Int) == 9) = false := by assumption
          have h3 := hbk.out.1 hb
          simp at h2
          omega)
        refine ⟨⟨k + 1, by omega, by go_num, ⟨⟨v, by rw [hbb]; exact ha, ho, hl, hs, by rw [hbb]; exact HO, HB⟩⟩⟩, by simp [intOf]; omega⟩
    · have hk' : k = a0.size := by omega
      subst hk'
      go_wp2_with fail
      refine (take_any (w.heap.size + 1 + 1 + 1) (w.heap.size + 1 + 1) (w.heap.size + 1) w.heap.size a0 a1 (spl a0 a1 a0.size).1 a0.size v (spl a0 a1 a0.size).2 w wr hbd.1 (by omega) (by omega) (by omega) ha ho hl hs (by omega) HO HB (by omega) (by omega) (by omega)).mono ?_
      rintro e w1 ⟨rfl, v1, ha1, ho1, hl1, hs1, HO1, HB1⟩
      rw [hr.out] at HO1
      obtain ⟨A1, c1, rfl⟩ := Kd.R_slice HO1
      have co1 := cell_of_one ho1
      have fo1 := free_of_one ho1
      have HO2 := Kd.R_set HO1 ho1 (by decide) 0 (.slice A1 r.length c1)
      have HB2 := below_set (v := .slice A1 r.length c1) (j := 0) HB1 (show w.heap.size ≤ w.heap.size + 1 + 1 by omega)
      have co2 := cell_of_one (one_setCell (u := .slice A1 r.length c1) ho1)
      go_wp2_with fail
      generalize w1.setCell ⟨w.heap.size + 1 + 1, 0, none⟩ (.slice A1 r.length c1) = w2 at *
      exact bodyPost_ret (v := .slice A1 r.length c1) (by simp [results, Tryd.results29, co2, go_sem]) rfl ⟨_, rfl, HO2, HB2⟩
end Go.Proofs.YtenjohemplgnmaaDoor.P
