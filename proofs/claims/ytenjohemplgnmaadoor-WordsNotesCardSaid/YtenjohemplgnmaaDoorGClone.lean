/- slices.Clone of a row of words, as the print states contracts. -/
import Derived.Test.YtenjohemplgnmaaDoorPx0
import Derived.Lib.Hide
import Derived.Lib.SliceRun
import Derived.Outline
namespace Go.Proofs.YtenjohemplgnmaaDoor.P
open Go.RowKit Go.Proofs.YtenjohemplgnmaaDoorW.PrintWords Go.Proofs.YtenjohemplgnmaaDoorW.PrintLast Go.Proofs.YtenjohemplgnmaaDoorW.PrintMore

theorem flat_len {α : Type} (enc : α → List Value) (sz : Nat) (hsz : ∀ x, (enc x).length = sz) : ∀ xs : List α, (xs.flatMap enc).length = xs.length * sz
  | [] => by simp
  | x :: xs => by rw [List.flatMap_cons, List.length_append, flat_len enc sz hsz xs, hsz, List.length_cons, Nat.succ_mul, Nat.add_comm]

theorem flat_cells {α : Type} (enc : α → List Value) (sz : Nat) (hsz : ∀ x, (enc x).length = sz) (w : World) (ad : Addr) : ∀ (ps : List α) (off : Nat),
    (∀ j p, ps[j]? = some p → ∀ i u, (enc p)[i]? = some u → w.cell? (ad.add (off + j * sz + i)) = some u) → ∀ j u, (ps.flatMap enc)[j]? = some u → w.cell? (ad.add (off + j)) = some u
  | [], _, _ => fun j u h => by simp at h
  | p :: ps, off, H => fun j u h => by
    rw [List.flatMap_cons] at h
    rcases Nat.lt_or_ge j sz with hj | hj
    · rw [List.getElem?_append_left (by rw [hsz]; exact hj)] at h
      have := H 0 p rfl j u h
      rwa [Nat.zero_mul, Nat.add_zero] at this
    · rw [List.getElem?_append_right (by rw [hsz]; exact hj), hsz] at h
      have := flat_cells enc sz hsz w ad ps (off + sz) (fun j p hp i u hu => by
        have := H (j + 1) p (by simpa using hp) i u hu
        rw [Nat.succ_mul] at this
        rw [show off + sz + j * sz + i = off + (j * sz + sz) + i from by omega]
        exact this) (j - sz) u h
      rwa [show off + sz + (j - sz) = off + j from by omega] at this

theorem flat_reps {α : Type} {R : α → List Value → Prop} (enc : α → List Value) (sz : Nat) (hsz : ∀ x, (enc x).length = sz) (hR : ∀ x, R x (enc x)) (xs : List α) : Reps R sz xs (xs.flatMap enc) := by
  refine ⟨flat_len enc sz hsz xs, ?_⟩
  induction xs with
  | nil => intro j p h; simp at h
  | cons x xs ih =>
    intro j p h
    rw [List.flatMap_cons]
    cases j with
    | zero =>
      have e : x = p := by simpa using h
      subst e
      rw [Nat.zero_mul, List.drop_zero, List.take_append_of_le_length (by rw [hsz]; exact Nat.le_refl _), ← hsz x, List.take_length]
      exact hR x
    | succ j =>
      have := ih j p (by simpa using h)
      rw [Nat.succ_mul, Nat.add_comm (j * sz) sz, ← List.drop_drop]
      have e : List.drop sz (enc x ++ xs.flatMap enc) = xs.flatMap enc := by rw [← hsz x, List.drop_left]
      rw [e]
      exact this

def cells35 (x : S35) : List Value := [.int .i64 x.f0, .int .i64 x.f1, .string x.f2]

def words_Word.f (l0 : List S35) : Option (List S35) := if l0.length < 4398046511104 then some l0 else none

set_option maxRecDepth 100000 in
set_option maxHeartbeats 1000000 in
theorem words_Word.calls (A0 : Option Addr) (c0 : Nat) (l0 : List S35) (r : List S35) (w : World) (hr0 : Kd.C k35 w A0 l0.length l0) (hc0 : l0.length ≤ c0) (h : words_Word.f l0 = some r) :
    Calls Tryd.prog 31 #[.slice A0 l0.length c0] w fun e w' => ∃ v0_ : Value, e = .returned (v0_) ∧ Kd.R k35 35 w' w.heap.size (fun _ => True) v0_ r ∧ Below w.heap.size w w' := by
  unfold words_Word.f at h
  split at h
  case isFalse => cases h
  case isTrue hsz =>
  injection h with h
  subst h
  cases A0 with
  | none =>
    have hn : l0 = [] := by
      cases l0 with
      | nil => rfl
      | cons x xs => obtain ⟨ad, e, _⟩ := hr0.2.2 (by simp); cases e
    subst hn
    have hq : ∀ w, (binOp .eql 32 (.slice none 0 c0) (.slice none 0 0)).run Tryd.prog w = .ok (.bool true) w := fun w => Lib.run_eql_slice_nil w 32 35 none 0 c0 0 0 Tryd.underlying32
    go_enter Tryd.func31, Tryd.ntmps31
    go_wp2
    go_ret
    exact ⟨_, rfl, Kd.R_nil _ _ _ _ _, Below.refl _ _⟩
  | some ad =>
    have hq : ∀ w, (binOp .eql 32 (.slice (some ad) l0.length c0) (.slice none 0 0)).run Tryd.prog w = .ok (.bool false) w := fun w => Lib.run_eql_slice_nil w 32 35 (some ad) l0.length c0 0 0 Tryd.underlying32
    obtain ⟨i0, hi0, hz0, hz1, hz2⟩ := info_parts info35
    have hr1 := Lib.hid hr0
    have hcells := Lib.hid (show ∀ j u, (l0.flatMap cells35)[j]? = some u → (w.alloc (.cells #[] 35)).cell? (ad.add j) = some u from fun j u hu => by
      have hb := below_alloc (Below.refl w.heap.size w) (.cells #[] 35)
      have hc := Kd.C_below hr0 hb
      rcases Nat.eq_zero_or_pos l0.length with h0 | h0
      · have : l0 = [] := List.eq_nil_of_length_eq_zero h0
        subst this
        simp at hu
      · obtain ⟨ad', e', H⟩ := hc.2.2 h0
        cases e'
        have := flat_cells cells35 3 (fun _ => rfl) (w.alloc (.cells #[] 35)) ad l0 0 (fun j p hp i u hu => by
          obtain ⟨c, hl, hK, hcc⟩ := H j p hp
          have hc35 := k35_open hK
          rw [Nat.zero_add]
          exact hcc i u (by rw [hc35]; exact hu)) j u hu
        rwa [Nat.zero_add] at this)
    have hone := Lib.hid (show ∀ u ∈ l0.flatMap cells35, u.oneCell' = true from fun u hu => by
      obtain ⟨x, _, hx⟩ := List.mem_flatMap.1 hu
      exact k35.K_one (k35_mk w x) u hx)
    clear hr0
    have hown := World.ownsRow_lit (base := w.heap.size) (e := 35) (size := 3) w #[] 0 (Nat.le_refl _) (by decide) rfl
    go_enter Tryd.func31, Tryd.ntmps31
    go_wp2_with (at_builtin; refine wpList_append_own _ rfl _ _ 32 rfl w.heap.size 35 i0 _ 3 32 Tryd.underlying32 hi0 hz0 hz1 hz2 rfl (by decide) _ 0 [] rfl hown ad l0.length c0 (l0.flatMap cells35) rfl (flat_len cells35 3 (fun _ => rfl) l0) hcells.out hone.out (by unfold maxLen; omega) (by omega) (by simp) ?_; intro v1 w1 hown1 hgrow _)
    rw [Nat.zero_add, List.nil_append] at hown1
    have HO : Kd.R k35 35 w1 w.heap.size (fun _ => True) v1 l0 := ⟨fun _ _ => trivial, _, hown1, flat_reps cells35 3 (fun _ => rfl) (fun x => k35_mkM _ _ _ x) l0⟩
    obtain ⟨A1, c1, rfl⟩ := Kd.R_slice HO
    go_ret
    refine ⟨_, rfl, HO, ?_⟩
    refine pw_below_grown (below_alloc (Below.refl _ _) _) _ (by simp) hgrow (fun k hk => ?_)
    have hk' : (Value.slice (some ⟨w.heap.size, 0, none⟩) 0 0).ownBlock = some k := hk
    have : w.heap.size = k := by simpa [Value.ownBlock] using hk'
    omega
end Go.Proofs.YtenjohemplgnmaaDoor.P
