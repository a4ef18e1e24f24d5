/- strings.Split and strings.Cut at a separator of one byte, as the print states contracts. -/
import Derived.Test.YtenjohemplgnmaaDoorGShelf
import Derived.Test.YtenjohemplgnmaaDoorPx0
import Derived.Lib.Hide
namespace Go.Proofs.YtenjohemplgnmaaDoor.P
open Go.RowKit Go.Proofs.YtenjohemplgnmaaDoorW.PrintWords Go.Proofs.YtenjohemplgnmaaDoorW.PrintLast Go.Proofs.YtenjohemplgnmaaDoorW.PrintMore
open Go.Shelf

theorem one_byte {a : ByteArray} (h : a.size = 1) : ∃ c : UInt8, a = ⟨#[c]⟩ := by
  obtain ⟨⟨l⟩⟩ := a
  match l, h with
  | [c], _ => exact ⟨c, rfl⟩

theorem count_one_byte (s : ByteArray) (c : UInt8) (w : World) :
    Calls Tryd.prog 52 #[.string s, .string ⟨#[c]⟩] w fun e w' => e = .returned (.int .i64 (Lib.countB s ⟨#[c]⟩)) ∧ w' = w :=
  (Any.strings_Count_one (P := Tryd.prog) (ρ := Tryd.lays146_ren) { Tryd.lays146 with } s c w).mono fun e w' ⟨he, hw⟩ => ⟨by
    rw [he]
    show _ = Ending.returned (Value.int .i64 ((Lib.count s.data.toList [c] : Nat) : Int))
    rw [Lib.count_one]
    rfl, hw⟩

theorem index_one_byte (s : ByteArray) (c : UInt8) (w : World) :
    Calls Tryd.prog 53 #[.string s, .string ⟨#[c]⟩] w fun e w' => e = .returned (.int .i64 (Lib.indexB s ⟨#[c]⟩)) ∧ w' = w :=
  (Any.strings_Index_one (P := Tryd.prog) (ρ := Tryd.lays146_ren) { Tryd.lays146 with } s c w).mono fun e w' ⟨he, hw⟩ => ⟨by
    rw [he]
    show _ = Ending.returned (Value.int .i64 (Lib.index s.data.toList [c]))
    rw [Lib.index_one], hw⟩


def strings_Split.f (a0 a1 : ByteArray) : Option (List ByteArray) :=
  if a1.size = 1 ∧ a0.size < 4294967281 then some (Lib.splitB a1 0 (Lib.countB a0 a1) a0) else none

set_option maxHeartbeats 1000000 in
theorem split_one_byte (s : ByteArray) (c : UInt8) (w : World) (hs : s.size < 4294967281) :
    Calls Tryd.prog 27 #[.string s, .string ⟨#[c]⟩] w fun e w' =>
      e = .returned (.slice (some ⟨w.heap.size, 0, none⟩) (Lib.splitB ⟨#[c]⟩ 0 (Lib.countB s ⟨#[c]⟩) s).length (Lib.countB s ⟨#[c]⟩ + 1)) ∧ w' = w.alloc (.cells ((Lib.splitB ⟨#[c]⟩ 0 (Lib.countB s ⟨#[c]⟩) s).map Value.string).toArray 9) := by
  have h1 : 1 ≤ (⟨#[c]⟩ : ByteArray).size := Nat.le_refl 1
  have hle := Lib.countB_le ⟨#[c]⟩ h1 s.size s (Nat.le_refl _)
  have hlen := Lib.splitB_all ⟨#[c]⟩ h1 0 _ s rfl
  have hk := Any.strings_genSplit_core (P := Tryd.prog) (ρ := Tryd.lays146_ren) { Tryd.lays146 with } (by kernel_rfl) s ⟨#[c]⟩ 0 (-1) (Lib.countB s ⟨#[c]⟩ + 1) w hs h1 (Nat.zero_le _) (fun x _ _ => index_one_byte x c _) (count_one_byte s c w) (by decide) (by decide) (by rw [if_pos (by decide)]; omega)
  rw [Nat.add_sub_cancel] at hk
  have e2 : Lib.cellsOf (Lib.splitB ⟨#[c]⟩ 0 (Lib.countB s ⟨#[c]⟩) s) (Lib.countB s ⟨#[c]⟩ + 1) = ((Lib.splitB ⟨#[c]⟩ 0 (Lib.countB s ⟨#[c]⟩) s).map Value.string).toArray := by rw [← hlen]; exact Lib.cellsOf_full _
  rw [e2] at hk
  have H : Calls Tryd.prog 37 #[.string s, .string ⟨#[c]⟩, .int .i64 0, .int .i64 (-1)] w fun e w' =>
      e = .returned (.slice (some ⟨w.heap.size, 0, none⟩) (Lib.splitB ⟨#[c]⟩ 0 (Lib.countB s ⟨#[c]⟩) s).length (Lib.countB s ⟨#[c]⟩ + 1)) ∧ w' = w.alloc (.cells ((Lib.splitB ⟨#[c]⟩ 0 (Lib.countB s ⟨#[c]⟩) s).map Value.string).toArray 9) := hk
  have HH := Lib.hid H
  clear hk H e2 hlen hle
  go_enter Tryd.func27, Tryd.ntmps27
  go_wp2_with (go_at_call 37; refine HH.out.mono ?_; rintro e w' ⟨rfl, hw⟩; rw [hw])
  go_ret
  exact ⟨rfl, rfl⟩

theorem strings_Split.calls (a0 a1 : ByteArray) (r : List ByteArray) (w : World) (h : strings_Split.f a0 a1 = some r) :
    Calls Tryd.prog 27 #[.string a0, .string a1] w fun e w' => ∃ v0_ : Value, e = .returned (v0_) ∧ Kd.R Kd.string 9 w' w.heap.size (fun _ => True) v0_ r ∧ Below w.heap.size w w' := by
  unfold strings_Split.f at h
  split at h
  · next hh =>
    injection h with h
    obtain ⟨c, rfl⟩ := one_byte hh.1
    have hlen := Lib.splitB_all ⟨#[c]⟩ (Nat.le_refl 1) 0 _ a0 rfl
    refine (split_one_byte a0 c w hh.2).mono fun e w' ⟨he, hw⟩ => ⟨_, he, ?_, ?_⟩
    · rw [hw]
      subst h
      refine Kd.R_of_own ?_ (fun _ _ => trivial)
      have hle := Lib.countB_le ⟨#[c]⟩ (Nat.le_refl 1) a0.size a0 (Nat.le_refl _)
      have e2 := World.ownsRow_lit (base := w.heap.size) (e := 9) (size := 1) w (encs Value.string (Lib.splitB ⟨#[c]⟩ 0 (Lib.countB a0 ⟨#[c]⟩) a0)).toArray (Lib.splitB ⟨#[c]⟩ 0 (Lib.countB a0 ⟨#[c]⟩) a0).length (Nat.le_refl _) (by unfold maxLen; omega) (by simp [encs])
      have e3 : Lib.countB a0 ⟨#[c]⟩ + 1 = (Lib.splitB ⟨#[c]⟩ 0 (Lib.countB a0 ⟨#[c]⟩) a0).length := hlen.symm
      rw [e3]
      simpa [encs] using e2
    · rw [hw]; exact (Below.refl _ _).alloc (Nat.le_refl _) _
  · cases h

theorem lindex_one_byte (s : ByteArray) (c : UInt8) (w : World) :
    Calls Tryd.prog 54 #[.string s, .string ⟨#[c]⟩] w fun e w' => e = .returned (.int .i64 (Lib.indexB s ⟨#[c]⟩)) ∧ w' = w :=
  (Any.stringslite_Index_one (P := Tryd.prog) (ρ := Tryd.lays145_ren) { Tryd.lays145 with } s c w).mono fun e w' ⟨he, hw⟩ => ⟨by
    rw [he]
    show _ = Ending.returned (Value.int .i64 (Lib.index s.data.toList [c]))
    rw [Lib.index_one], hw⟩

/-- The text before and after the first place of the byte; whether there is one. -/
def cutB (s sep : ByteArray) : ByteArray × ByteArray × Bool :=
  if Lib.indexB s sep = -1 then (s, ByteArray.empty, false) else (s.extract 0 (Lib.indexB s sep).toNat, s.extract ((Lib.indexB s sep).toNat + sep.size) s.size, true)

set_option maxHeartbeats 1000000 in
theorem lcut_one_byte (s : ByteArray) (c : UInt8) (w : World) (hs : s.size < 4294967281) :
    Calls Tryd.prog 38 #[.string s, .string ⟨#[c]⟩] w fun e w' => e = .returned (.tuple #[.string (cutB s ⟨#[c]⟩).1, .string (cutB s ⟨#[c]⟩).2.1, .bool (cutB s ⟨#[c]⟩).2.2]) ∧ Drawn0 w w' := by
  have hI := Lib.hid (fun W => lindex_one_byte s c W)
  rcases Lib.indexB_cases s ⟨#[c]⟩ with hix | ⟨i, hix, hroom⟩
  · have HC := Lib.hid (show cutB s ⟨#[c]⟩ = (s, ByteArray.empty, false) by unfold cutB; rw [if_pos hix])
    have HX := Lib.hid hix
    clear hix
    rw [HC.out]
    go_enter Tryd.func38, Tryd.ntmps38
    go_wp2_with (go_at_call 54; refine (hI.out _).mono ?_; rintro e w' ⟨rfl, rfl⟩; rw [HX.out])
    go_ret3
    exact ⟨rfl, ⟨0, rfl⟩⟩
  · have HC := Lib.hid (show cutB s ⟨#[c]⟩ = (s.extract 0 i, s.extract (i + 1) s.size, true) by unfold cutB; rw [if_neg (by omega), hix]; rfl)
    have HX := Lib.hid hix
    clear hix
    rw [HC.out]
    have hr : i + 1 ≤ s.size := hroom
    have c1 : (0 : Int) ≤ ↑i := by omega
    have c2 : (↑i : Int) ≤ ↑s.size := by omega
    have c3 : (0 : Int) ≤ ↑i + 1 := by omega
    have c4 : (↑i + 1 : Int) ≤ ↑s.size := by omega
    go_enter Tryd.func38, Tryd.ntmps38
    go_wp2_with (go_at_call 54; refine (hI.out _).mono ?_; rintro e w' ⟨rfl, rfl⟩; rw [HX.out])
    go_region
    go_wp2
    go_ret3
    exact ⟨rfl, ⟨1, rfl⟩⟩

def strings_Cut.f (a0 a1 : ByteArray) : Option (ByteArray × ByteArray × Bool) :=
  if a1.size = 1 ∧ a0.size < 4294967281 then some (cutB a0 a1) else none
set_option maxHeartbeats 1000000 in
theorem strings_Cut.calls (a0 a1 : ByteArray) (r1 r2 : ByteArray) (r3 : Bool) (w : World) (h : strings_Cut.f a0 a1 = some (r1, r2, r3)) :
    Calls Tryd.prog 28 #[.string a0, .string a1] w fun e w' => e = .returned (.tuple #[.string r1, .string r2, .bool r3]) ∧ Drawn0 w w' := by
  unfold strings_Cut.f at h
  split at h
  · next hh =>
    injection h with h
    obtain ⟨c, rfl⟩ := one_byte hh.1
    have hk := lcut_one_byte a0 c w hh.2
    rw [h] at hk
    have HK := Lib.hid hk
    clear hk h
    go_enter Tryd.func28, Tryd.ntmps28
    go_wp2_with (go_at_call 38; refine HK.out.mono ?_; rintro e w' ⟨rfl, ⟨n, rfl⟩⟩)
    go_ret3
    exact ⟨rfl, ⟨n, rfl⟩⟩
  · cases h
end Go.Proofs.YtenjohemplgnmaaDoor.P
