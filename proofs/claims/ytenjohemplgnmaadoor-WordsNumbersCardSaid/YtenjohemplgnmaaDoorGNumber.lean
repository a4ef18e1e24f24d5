/- words.Number, as the print states contracts: of the bytes behind a sign; what is no number is told as 0, false. -/
import Derived.Test.YtenjohemplgnmaaDoorPx0
import Derived.Test.YtenjohemplgnmaaDoorGShelf2
import Derived.Lib.Hide
import Derived.Shelf.Strings.SlTrimAscii
import Derived.Lib.ConvBytes
import Derived.Deep.QuietTactic
import Derived.BigQuiet
namespace Go.Proofs.YtenjohemplgnmaaDoor.P
open Go.RowKit Go.Proofs.YtenjohemplgnmaaDoorW.PrintWords Go.Proofs.YtenjohemplgnmaaDoorW.PrintLast Go.Proofs.YtenjohemplgnmaaDoorW.PrintMore
open Go.Shelf

def digitsL : List UInt8 := [48, 49, 50, 51, 52, 53, 54, 55, 56, 57]
def unsignedL (s : ByteArray) : List UInt8 := Lib.trimPrefix s.data.toList [45]
/-- Is it of 1 to 9 bytes that are digits, behind a sign? -/
def numB (s : ByteArray) : Bool := !(unsignedL s).isEmpty && decide ((unsignedL s).length ≤ 9) && (Lib.trimS (unsignedL s) digitsL).isEmpty
def words_Number.f (a0 : ByteArray) : Option (Int × Bool) :=
  if a0.size < 9223372036854775807 then
    if numB a0 = true then (Lib.atoi a0.data.toList).map fun n => (n, true) else some (0, false)
  else none

theorem trim_tell (s : ByteArray) (w : World) (hs : s.size ≤ 9223372036854775807) :
    Calls Tryd.prog 33 #[.string s, .string ⟨#[48, 49, 50, 51, 52, 53, 54, 55, 56, 57]⟩] w fun e w' => e = .returned (.string ⟨(Lib.trimS s.data.toList digitsL).toArray⟩) ∧ Below w.heap.size w w' :=
  Any.strings_Trim_laid Tryd.lays160 (by kernel_rfl) s ⟨#[48, 49, 50, 51, 52, 53, 54, 55, 56, 57]⟩ w hs (by decide) (ascii_of_all (by decide))

theorem prefix_tell (s : ByteArray) (w : World) :
    Calls Tryd.prog 32 #[.string s, .string ⟨#[45]⟩] w fun e w' => e = .returned (.string ⟨(unsignedL s).toArray⟩) ∧ w' = w := Tryd.strings_TrimPrefix s ⟨#[45]⟩ w

theorem unsigned_len (s : ByteArray) : (unsignedL s).length ≤ s.size := by
  unfold unsignedL Lib.trimPrefix
  have : s.data.toList.length = s.size := Array.length_toList
  split
  · rw [List.length_drop]; omega
  · omega

set_option maxRecDepth 100000 in
set_option maxHeartbeats 1000000 in
theorem number_empty (s : ByteArray) (w : World) (h : unsignedL s = []) :
    Calls Tryd.prog 24 #[.string s] w fun e w' => e = .returned (.tuple #[.int .i64 0, .bool false]) ∧ Below w.heap.size w w' := by
  have hp := prefix_tell s w
  rw [h] at hp
  have HP := Lib.hid hp
  clear hp h
  go_enter Tryd.func24, Tryd.ntmps24
  go_wp2_with (go_at_call 32; refine HP.out.mono ?_; rintro e w' ⟨rfl, rfl⟩)
  all_goals (go_ret2; exact ⟨rfl, Below.refl _ _⟩)

set_option maxRecDepth 100000 in
set_option maxHeartbeats 1000000 in
theorem number_long (s : ByteArray) (w : World) (h : 9 < (unsignedL s).length) :
    Calls Tryd.prog 24 #[.string s] w fun e w' => e = .returned (.tuple #[.int .i64 0, .bool false]) ∧ Below w.heap.size w w' := by
  have hp := prefix_tell s w
  generalize hd : (⟨(unsignedL s).toArray⟩ : ByteArray) = d at hp
  have HP := Lib.hid hp
  have hsz : d.size = (unsignedL s).length := by rw [← hd]; simp [ByteArray.size]
  have e1 : d.toList.isEmpty = false := by
    rw [Lib.toList_data, ← hd]
    cases hu : unsignedL s with
    | nil => rw [hu] at h; simp at h
    | cons a l => rfl
  have e2 : decide (9 < d.size) = true := decide_eq_true (by omega)
  have e3 : decide ((9 : Int) < (d.size : Int)) = true := decide_eq_true (by omega)
  clear hp h hd hsz
  go_enter Tryd.func24, Tryd.ntmps24
  go_wp2_with (go_at_call 32; refine HP.out.mono ?_; rintro e w' ⟨rfl, rfl⟩)
  all_goals (go_ret2; exact ⟨rfl, Below.refl _ _⟩)

theorem list_notEmpty {d : ByteArray} {l : List UInt8} (h : (⟨l.toArray⟩ : ByteArray) = d) (hl : l ≠ []) : d.toList.isEmpty = false := by
  rw [Lib.toList_data, ← h]
  cases l with
  | nil => exact absurd rfl hl
  | cons a l => rfl
theorem list_empty {d : ByteArray} {l : List UInt8} (h : (⟨l.toArray⟩ : ByteArray) = d) (hl : l = []) : d.toList = [] := by
  rw [Lib.toList_data, ← h, hl]

set_option maxRecDepth 100000 in
set_option maxHeartbeats 1000000 in
theorem number_odd (s : ByteArray) (w : World) (h0 : unsignedL s ≠ []) (h1 : (unsignedL s).length ≤ 9) (h2 : Lib.trimS (unsignedL s) digitsL ≠ []) :
    Calls Tryd.prog 24 #[.string s] w fun e w' => e = .returned (.tuple #[.int .i64 0, .bool false]) ∧ Below w.heap.size w w' := by
  have hp := prefix_tell s w
  generalize hd : (⟨(unsignedL s).toArray⟩ : ByteArray) = d at hp
  have HP := Lib.hid hp
  have hsz : d.size = (unsignedL s).length := by rw [← hd]; simp [ByteArray.size]
  have hdl : d.data.toList = unsignedL s := by rw [← hd]
  have ht := trim_tell d w (by omega)
  rw [hdl] at ht
  generalize he : (⟨(Lib.trimS (unsignedL s) digitsL).toArray⟩ : ByteArray) = t at ht
  have HT := Lib.hid ht
  have e1 : d.toList.isEmpty = false := list_notEmpty hd h0
  have e0 : t.toList.isEmpty = false := list_notEmpty he h2
  have e2 : decide (9 < d.size) = false := decide_eq_false (by omega)
  have e3 : decide ((9 : Int) < (d.size : Int)) = false := decide_eq_false (by omega)
  clear hp hd hsz ht he h0 h1 h2 hdl
  go_enter Tryd.func24, Tryd.ntmps24
  go_wp2_with (first | (go_at_call 32; refine HP.out.mono ?_; rintro e w' ⟨rfl, rfl⟩) | (go_at_call 33; refine HT.out.mono ?_; rintro e w' ⟨rfl, hb⟩; have HB := Aside0.mk hb; clear hb))
  all_goals (go_ret2; exact ⟨rfl, HB.out⟩)

set_option maxRecDepth 100000 in
set_option maxHeartbeats 1000000 in
theorem number_yes (s : ByteArray) (w : World) (h0 : unsignedL s ≠ []) (h1 : (unsignedL s).length ≤ 9) (h2 : Lib.trimS (unsignedL s) digitsL = []) (n : Int) (hn : Lib.atoi s.data.toList = some n) (hs : s.size ≤ 18) :
    Calls Tryd.prog 24 #[.string s] w fun e w' => e = .returned (.tuple #[.int .i64 n, .bool true]) ∧ Below w.heap.size w w' := by
  have hp := prefix_tell s w
  generalize hd : (⟨(unsignedL s).toArray⟩ : ByteArray) = d at hp
  have HP := Lib.hid hp
  have hsz : d.size = (unsignedL s).length := by rw [← hd]; simp [ByteArray.size]
  have hdl : d.data.toList = unsignedL s := by rw [← hd]
  have ht := trim_tell d w (by omega)
  rw [hdl] at ht
  generalize he : (⟨(Lib.trimS (unsignedL s) digitsL).toArray⟩ : ByteArray) = t at ht
  have HT := Lib.hid ht
  have HA := Lib.hid (fun W => Tryd.strconv_Atoi s n hs hn W)
  have e1 : d.toList.isEmpty = false := list_notEmpty hd h0
  have e0 : t.toList = [] := list_empty he h2
  have e2 : decide (9 < d.size) = false := decide_eq_false (by omega)
  have e3 : decide ((9 : Int) < (d.size : Int)) = false := decide_eq_false (by omega)
  clear hp hd hsz ht he h0 h1 h2 hdl hn hs
  go_enter Tryd.func24, Tryd.ntmps24
  go_wp2_with (first | (go_at_call 32; refine HP.out.mono ?_; rintro e w' ⟨rfl, rfl⟩) | (go_at_call 33; refine HT.out.mono ?_; rintro e w' ⟨rfl, hb⟩; have HB := Aside0.mk hb; clear hb) | (go_at_call 34; refine (HA.out _).mono ?_; rintro e w2 ⟨rfl, hb⟩; have HB2 := Aside0.mk hb; clear hb))
  go_quiet (fail)
  go_wp2
  go_ret2
  refine ⟨rfl, pw_below_drewN (below_step HB.out ?_) _⟩
  obtain ⟨x, hx⟩ := HB2.out
  rw [hx]
  exact bytes_below (Below.refl _ _) (Nat.le_refl _) 5 x

theorem words_Number.calls (a0 : ByteArray) (r1 : Int) (r2 : Bool) (w : World) (h : words_Number.f a0 = some (r1, r2)) :
    Calls Tryd.prog 24 #[.string a0] w fun e w' => e = .returned (.tuple #[.int .i64 r1, .bool r2]) ∧ Below w.heap.size w w' := by
  unfold words_Number.f at h
  split at h
  case isFalse => cases h
  case isTrue hs =>
  have hu := unsigned_len a0
  by_cases h0 : unsignedL a0 = []
  · have hf : numB a0 = false := by unfold numB; rw [h0]; rfl
    rw [hf, if_neg (by decide)] at h
    cases h
    exact number_empty a0 w h0
  by_cases h1 : 9 < (unsignedL a0).length
  · have hf : numB a0 = false := by unfold numB; rw [decide_eq_false (by omega)]; simp
    rw [hf, if_neg (by decide)] at h
    cases h
    exact number_long a0 w h1
  by_cases h2 : Lib.trimS (unsignedL a0) digitsL = []
  · have hf : numB a0 = true := by
      unfold numB
      rw [decide_eq_true (by omega), h2]
      simp [h0]
    rw [if_pos hf] at h
    obtain ⟨n, hn, hr⟩ := Option.map_eq_some_iff.1 h
    cases hr
    refine number_yes a0 w h0 (by omega) h2 _ hn ?_
    have h3 : a0.size ≤ (unsignedL a0).length + 1 := by
      unfold unsignedL Lib.trimPrefix
      have : a0.data.toList.length = a0.size := Array.length_toList
      split
      · rw [List.length_drop]; simp; omega
      · omega
    omega
  · have hf : numB a0 = false := by
      unfold numB
      have : (Lib.trimS (unsignedL a0) digitsL).isEmpty = false := by
        cases hx : Lib.trimS (unsignedL a0) digitsL with
        | nil => exact absurd hx h2
        | cons a l => rfl
      rw [this, Bool.and_false]
    rw [hf, if_neg (by decide)] at h
    cases h
    exact number_odd a0 w h0 (by omega) h2
end Go.Proofs.YtenjohemplgnmaaDoor.P
