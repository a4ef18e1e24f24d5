/- words.Name: a text of 1 to 16 bytes, each of which may stand where it stands; as the print states contracts. -/
import Derived.Test.YtenjohemplgnmaaDoorPx0
import Derived.Lib.Hide
import Derived.WalkMore
import Derived.Lib.Strings
import Derived.Lib.CutLaws
import Derived.Lib.Slices
import Derived.Laws.RangeString
import Derived.Laws.RangeAny
namespace Go.Proofs.YtenjohemplgnmaaDoor.P
open Go.RowKit Go.Proofs.YtenjohemplgnmaaDoorW.PrintWords Go.Proofs.YtenjohemplgnmaaDoorW.PrintLast Go.Proofs.YtenjohemplgnmaaDoorW.PrintMore

def letterB (c : Int) : Bool := decide (65 ≤ c ∧ c ≤ 90) || decide (97 ≤ c ∧ c ≤ 122) || c == 95 || c == 46
def innerB (c : Int) : Bool := letterB c || decide (48 ≤ c ∧ c ≤ 57) || c == 45
def nameFrom (s : ByteArray) : Nat → Nat → Bool
  | 0, _ => true
  | d + 1, i => if (letterB (bt s i) || (decide (0 < i) && innerB (bt s i))) = true then nameFrom s d (i + 1) else false
def words_Name.f (a0 : ByteArray) : Option Bool := some (decide (1 ≤ a0.size ∧ a0.size ≤ 16) && nameFrom a0 a0.size 0)

theorem name_empty (s : ByteArray) (w : World) (h : s.size = 0) :
    Calls Tryd.prog 22 #[.string s] w fun e w' => e = .returned (.bool false) ∧ w' = w := by
  have e1 : s.toList = [] := by
    rw [Lib.toList_data]
    exact List.eq_nil_of_length_eq_zero (by rw [Array.length_toList]; exact h)
  have H := Lib.hid h
  clear h
  go_enter Tryd.func22, Tryd.ntmps22
  go_wp2
  go_step3
  go_wp2
  rw [Exit.noGoto_ret]
  go_ret
  exact ⟨rfl, rfl⟩
theorem name_long (s : ByteArray) (w : World) (h : 16 < s.size) :
    Calls Tryd.prog 22 #[.string s] w fun e w' => e = .returned (.bool false) ∧ w' = w := by
  have e1 : s.toList.isEmpty = false := by
    rw [Lib.toList_data]
    cases hd : s.data.toList with
    | nil =>
      have h2 : s.data.toList.length = s.size := Array.length_toList
      rw [hd] at h2
      simp at h2
      omega
    | cons a l => rfl
  have e2 : decide (16 < s.size) = true := decide_eq_true h
  have e3 : decide ((16 : Int) < (s.size : Int)) = true := decide_eq_true (by omega)
  go_enter Tryd.func22, Tryd.ntmps22
  go_wp2
  go_step3
  go_wp2
  rw [Exit.noGoto_ret]
  go_ret
  exact ⟨rfl, rfl⟩

theorem width_pos (s : ByteArray) (pos : Nat) (h : pos < s.size) : 1 ≤ (Utf8.decode s pos).2 := by
  by_cases ha : (s[pos]'h).toNat < 128
  · rw [decode_ascii s pos h ha]
    exact Nat.le_refl _
  · exact (decode_high s pos h (by omega)).2

/-- The tests that words.Name makes of a rune. -/
structure Tests (c : Int) (a b d e f g h i j : Bool) : Prop where
  t65 : decide (65 ≤ c) = a
  t90 : decide (c ≤ 90) = b
  t97 : decide (97 ≤ c) = d
  t122 : decide (c ≤ 122) = e
  t95 : (c == 95) = f
  t46 : (c == 46) = g
  t48 : decide (48 ≤ c) = h
  t57 : decide (c ≤ 57) = i
  t45 : (c == 45) = j

def ruleB (c : Int) (pos : Nat) : Bool := letterB c || (decide (0 < pos) && innerB c)

theorem rule_of (c : Int) (pos : Nat) (a b d e f g h i j : Bool) (T : Tests c a b d e f g h i j) : ruleB c pos = ((a && b) || (d && e) || f || g || (decide (0 < pos) && ((a && b) || (d && e) || f || g || (h && i) || j))) := by
  unfold ruleB innerB letterB
  rw [← T.t65, ← T.t90, ← T.t97, ← T.t122, ← T.t95, ← T.t46, ← T.t48, ← T.t57, ← T.t45]
  simp only [Bool.decide_and]

theorem classes (c : Int) : (65 ≤ c ∧ c ≤ 90) ∨ (97 ≤ c ∧ c ≤ 122) ∨ (c = 95) ∨ (c = 46) ∨ (48 ≤ c ∧ c ≤ 57) ∨ (c = 45) ∨ (c < 45) ∨ (c = 47) ∨ (58 ≤ c ∧ c ≤ 64) ∨ (91 ≤ c ∧ c ≤ 94) ∨ (c = 96) ∨ (123 ≤ c) := by omega
theorem tests0 {c : Int} (h : 65 ≤ c ∧ c ≤ 90) : Tests c true true false true false false true false false := ⟨decide_eq_true (by omega), decide_eq_true (by omega), decide_eq_false (by omega), decide_eq_true (by omega), beq_eq_false_iff_ne.2 (by omega), beq_eq_false_iff_ne.2 (by omega), decide_eq_true (by omega), decide_eq_false (by omega), beq_eq_false_iff_ne.2 (by omega)⟩
theorem tests1 {c : Int} (h : 97 ≤ c ∧ c ≤ 122) : Tests c true false true true false false true false false := ⟨decide_eq_true (by omega), decide_eq_false (by omega), decide_eq_true (by omega), decide_eq_true (by omega), beq_eq_false_iff_ne.2 (by omega), beq_eq_false_iff_ne.2 (by omega), decide_eq_true (by omega), decide_eq_false (by omega), beq_eq_false_iff_ne.2 (by omega)⟩
theorem tests2 {c : Int} (h : c = 95) : Tests c true false false true true false true false false := ⟨decide_eq_true (by omega), decide_eq_false (by omega), decide_eq_false (by omega), decide_eq_true (by omega), beq_iff_eq.2 (by omega), beq_eq_false_iff_ne.2 (by omega), decide_eq_true (by omega), decide_eq_false (by omega), beq_eq_false_iff_ne.2 (by omega)⟩
theorem tests3 {c : Int} (h : c = 46) : Tests c false true false true false true false true false := ⟨decide_eq_false (by omega), decide_eq_true (by omega), decide_eq_false (by omega), decide_eq_true (by omega), beq_eq_false_iff_ne.2 (by omega), beq_iff_eq.2 (by omega), decide_eq_false (by omega), decide_eq_true (by omega), beq_eq_false_iff_ne.2 (by omega)⟩
theorem tests4 {c : Int} (h : 48 ≤ c ∧ c ≤ 57) : Tests c false true false true false false true true false := ⟨decide_eq_false (by omega), decide_eq_true (by omega), decide_eq_false (by omega), decide_eq_true (by omega), beq_eq_false_iff_ne.2 (by omega), beq_eq_false_iff_ne.2 (by omega), decide_eq_true (by omega), decide_eq_true (by omega), beq_eq_false_iff_ne.2 (by omega)⟩
theorem tests5 {c : Int} (h : c = 45) : Tests c false true false true false false false true true := ⟨decide_eq_false (by omega), decide_eq_true (by omega), decide_eq_false (by omega), decide_eq_true (by omega), beq_eq_false_iff_ne.2 (by omega), beq_eq_false_iff_ne.2 (by omega), decide_eq_false (by omega), decide_eq_true (by omega), beq_iff_eq.2 (by omega)⟩
theorem tests6 {c : Int} (h : c < 45) : Tests c false true false true false false false true false := ⟨decide_eq_false (by omega), decide_eq_true (by omega), decide_eq_false (by omega), decide_eq_true (by omega), beq_eq_false_iff_ne.2 (by omega), beq_eq_false_iff_ne.2 (by omega), decide_eq_false (by omega), decide_eq_true (by omega), beq_eq_false_iff_ne.2 (by omega)⟩
theorem tests7 {c : Int} (h : c = 47) : Tests c false true false true false false false true false := ⟨decide_eq_false (by omega), decide_eq_true (by omega), decide_eq_false (by omega), decide_eq_true (by omega), beq_eq_false_iff_ne.2 (by omega), beq_eq_false_iff_ne.2 (by omega), decide_eq_false (by omega), decide_eq_true (by omega), beq_eq_false_iff_ne.2 (by omega)⟩
theorem tests8 {c : Int} (h : 58 ≤ c ∧ c ≤ 64) : Tests c false true false true false false true false false := ⟨decide_eq_false (by omega), decide_eq_true (by omega), decide_eq_false (by omega), decide_eq_true (by omega), beq_eq_false_iff_ne.2 (by omega), beq_eq_false_iff_ne.2 (by omega), decide_eq_true (by omega), decide_eq_false (by omega), beq_eq_false_iff_ne.2 (by omega)⟩
theorem tests9 {c : Int} (h : 91 ≤ c ∧ c ≤ 94) : Tests c true false false true false false true false false := ⟨decide_eq_true (by omega), decide_eq_false (by omega), decide_eq_false (by omega), decide_eq_true (by omega), beq_eq_false_iff_ne.2 (by omega), beq_eq_false_iff_ne.2 (by omega), decide_eq_true (by omega), decide_eq_false (by omega), beq_eq_false_iff_ne.2 (by omega)⟩
theorem tests10 {c : Int} (h : c = 96) : Tests c true false false true false false true false false := ⟨decide_eq_true (by omega), decide_eq_false (by omega), decide_eq_false (by omega), decide_eq_true (by omega), beq_eq_false_iff_ne.2 (by omega), beq_eq_false_iff_ne.2 (by omega), decide_eq_true (by omega), decide_eq_false (by omega), beq_eq_false_iff_ne.2 (by omega)⟩
theorem tests11 {c : Int} (h : 123 ≤ c) : Tests c true false true false false false true false false := ⟨decide_eq_true (by omega), decide_eq_false (by omega), decide_eq_true (by omega), decide_eq_false (by omega), beq_eq_false_iff_ne.2 (by omega), beq_eq_false_iff_ne.2 (by omega), decide_eq_true (by omega), decide_eq_false (by omega), beq_eq_false_iff_ne.2 (by omega)⟩

theorem name_yes (s : ByteArray) (pos : Nat) (hp : pos < s.size) (h : ruleB (bt s pos) pos = true) : nameFrom s (s.size - pos) pos = nameFrom s (s.size - (pos + 1)) (pos + 1) := by
  rw [show s.size - pos = (s.size - (pos + 1)) + 1 from by omega]
  show (if _ then _ else _) = _
  exact if_pos h
theorem name_no (s : ByteArray) (pos : Nat) (hp : pos < s.size) (h : ruleB (bt s pos) pos = false) : nameFrom s (s.size - pos) pos = false := by
  rw [show s.size - pos = (s.size - (pos + 1)) + 1 from by omega]
  show (if _ then _ else _) = _
  exact if_neg (fun e => by
    have e' : ruleB (bt s pos) pos = true := e
    rw [h] at e'
    cases e')

theorem next_tell (s : ByteArray) (w : World) (pos : Nat) (hp : pos < s.size) : ∃ (c : Int) (adv : Nat),
    (∀ ty, (Instr.next (.pointer (some ⟨w.heap.size, 0, none⟩)) true ty).run Tryd.prog (w.iter s pos) = .ok (.tuple #[.bool true, .int .i64 pos, .int .i32 c]) (w.iter s (pos + adv))) ∧
    Hid (ruleB c pos = ruleB (bt s pos) pos) ∧ Hid (ruleB c pos = true → adv = 1) ∧ 1 ≤ adv := by
  refine ⟨((Utf8.decode s pos).1 : Int), (Utf8.decode s pos).2, fun ty => run_next_any w s pos ty hp, ?_, ?_, width_pos s pos hp⟩
  · by_cases ha : (s[pos]'hp).toNat < 128
    · rw [decode_ascii s pos hp ha]
      exact Lib.hid (by unfold bt; simp [hp])
    · have hd := (decode_high s pos hp (by omega)).1
      have hb : 128 ≤ bt s pos := by unfold bt; simp [hp]; omega
      have no : ∀ c : Int, 128 ≤ c → ruleB c pos = false := fun c hc => by
        unfold ruleB innerB letterB
        have x1 : decide (65 ≤ c ∧ c ≤ 90) = false := decide_eq_false (by omega)
        have x2 : decide (97 ≤ c ∧ c ≤ 122) = false := decide_eq_false (by omega)
        have x3 : (c == 95) = false := beq_eq_false_iff_ne.2 (by omega)
        have x4 : (c == 46) = false := beq_eq_false_iff_ne.2 (by omega)
        have x5 : decide (48 ≤ c ∧ c ≤ 57) = false := decide_eq_false (by omega)
        have x6 : (c == 45) = false := beq_eq_false_iff_ne.2 (by omega)
        rw [x1, x2, x3, x4, x5, x6]
        simp
      exact Lib.hid (by rw [no _ (by omega), no _ hb])
  · by_cases ha : (s[pos]'hp).toNat < 128
    · rw [decode_ascii s pos hp ha]
      exact Lib.hid (fun _ => rfl)
    · have hd := (decode_high s pos hp (by omega)).1
      refine Lib.hid (fun h => ?_)
      unfold ruleB innerB letterB at h
      have x1 : decide (65 ≤ ((Utf8.decode s pos).1 : Int) ∧ ((Utf8.decode s pos).1 : Int) ≤ 90) = false := decide_eq_false (by omega)
      have x2 : decide (97 ≤ ((Utf8.decode s pos).1 : Int) ∧ ((Utf8.decode s pos).1 : Int) ≤ 122) = false := decide_eq_false (by omega)
      have x3 : (((Utf8.decode s pos).1 : Int) == 95) = false := beq_eq_false_iff_ne.2 (by omega)
      have x4 : (((Utf8.decode s pos).1 : Int) == 46) = false := beq_eq_false_iff_ne.2 (by omega)
      have x5 : decide (48 ≤ ((Utf8.decode s pos).1 : Int) ∧ ((Utf8.decode s pos).1 : Int) ≤ 57) = false := decide_eq_false (by omega)
      have x6 : (((Utf8.decode s pos).1 : Int) == 45) = false := beq_eq_false_iff_ne.2 (by omega)
      rw [x1, x2, x3, x4, x5, x6] at h
      simp at h

set_option maxRecDepth 100000 in
set_option maxHeartbeats 4000000 in
theorem name_main (s : ByteArray) (w : World) (h0 : 1 ≤ s.size) (h1 : s.size ≤ 16) :
    Calls Tryd.prog 22 #[.string s] w fun e w' => e = .returned (.bool (nameFrom s s.size 0)) ∧ Below w.heap.size w w' := by
  have e1 : s.toList.isEmpty = false := by
    rw [Lib.toList_data]
    cases hd : s.data.toList with
    | nil =>
      have h2 : s.data.toList.length = s.size := Array.length_toList
      rw [hd] at h2
      simp at h2
      omega
    | cons a l => rfl
  have e2 : decide (16 < s.size) = false := decide_eq_false (by omega)
  have e3 : decide ((16 : Int) < (s.size : Int)) = false := decide_eq_false (by omega)
  go_enter Tryd.func22, Tryd.ntmps22
  go_wp2
  go_step3
  go_wp2
  go_step3
  go_wp2
  clear e1 e2 e3
  go_loopw [2] (fun n w' => ∃ (pos : Nat), n = .bool false ∧ pos ≤ s.size ∧ w' = w.iter s pos ∧ Aside0 (nameFrom s (s.size - pos) pos = nameFrom s s.size 0)) (fun _ w' => s.size - w'.iterPos w.heap.size)
  case atStart => exact ⟨0, rfl, Nat.zero_le _, rfl, ⟨rfl⟩⟩
  case round =>
    obtain ⟨pos, rfl, hps, rfl, hR⟩ := hrel
    by_cases hp : pos < s.size
    · obtain ⟨c, adv, hnx, hrule, hadv, hadv1⟩ := next_tell s w pos hp
      clear h0 h1
      rcases classes c with hc | hc | hc | hc | hc | hc | hc | hc | hc | hc | hc | hc
      · have T := tests0 hc
        clear hc
        have hro := Lib.hid (rule_of c pos _ _ _ _ _ _ _ _ _ T)
        obtain ⟨t65, t90, t97, t122, t95, t46, t48, t57, t45⟩ := T
        have hy := Lib.hid (show ruleB c pos = true from hro.out.trans (by simp []))
        obtain rfl : adv = 1 := hadv.out hy.out
        have hnext := Lib.hid (name_yes s pos hp (hrule.out.symm.trans hy.out))
        go_wp2
        go_roundw
        case rel => exact ⟨pos + 1, rfl, by omega, rfl, ⟨hnext.out.symm.trans hR.out⟩⟩
        case measure => simp; omega
      · have T := tests1 hc
        clear hc
        have hro := Lib.hid (rule_of c pos _ _ _ _ _ _ _ _ _ T)
        obtain ⟨t65, t90, t97, t122, t95, t46, t48, t57, t45⟩ := T
        have hy := Lib.hid (show ruleB c pos = true from hro.out.trans (by simp []))
        obtain rfl : adv = 1 := hadv.out hy.out
        have hnext := Lib.hid (name_yes s pos hp (hrule.out.symm.trans hy.out))
        go_wp2
        go_roundw
        case rel => exact ⟨pos + 1, rfl, by omega, rfl, ⟨hnext.out.symm.trans hR.out⟩⟩
        case measure => simp; omega
      · have T := tests2 hc
        clear hc
        have hro := Lib.hid (rule_of c pos _ _ _ _ _ _ _ _ _ T)
        obtain ⟨t65, t90, t97, t122, t95, t46, t48, t57, t45⟩ := T
        have hy := Lib.hid (show ruleB c pos = true from hro.out.trans (by simp []))
        obtain rfl : adv = 1 := hadv.out hy.out
        have hnext := Lib.hid (name_yes s pos hp (hrule.out.symm.trans hy.out))
        go_wp2
        go_roundw
        case rel => exact ⟨pos + 1, rfl, by omega, rfl, ⟨hnext.out.symm.trans hR.out⟩⟩
        case measure => simp; omega
      · have T := tests3 hc
        clear hc
        have hro := Lib.hid (rule_of c pos _ _ _ _ _ _ _ _ _ T)
        obtain ⟨t65, t90, t97, t122, t95, t46, t48, t57, t45⟩ := T
        have hy := Lib.hid (show ruleB c pos = true from hro.out.trans (by simp []))
        obtain rfl : adv = 1 := hadv.out hy.out
        have hnext := Lib.hid (name_yes s pos hp (hrule.out.symm.trans hy.out))
        go_wp2
        go_roundw
        case rel => exact ⟨pos + 1, rfl, by omega, rfl, ⟨hnext.out.symm.trans hR.out⟩⟩
        case measure => simp; omega
      · have T := tests4 hc
        clear hc
        have hro := Lib.hid (rule_of c pos _ _ _ _ _ _ _ _ _ T)
        obtain ⟨t65, t90, t97, t122, t95, t46, t48, t57, t45⟩ := T
        by_cases h00 : 0 < pos
        · have hz : decide ((0 : Int) < (pos : Int)) = true := decide_eq_true (by omega)
          have hz2 : decide (0 < pos) = true := decide_eq_true h00
          have hy := Lib.hid (show ruleB c pos = true from hro.out.trans (by simp [h00]))
          obtain rfl : adv = 1 := hadv.out hy.out
          have hnext := Lib.hid (name_yes s pos hp (hrule.out.symm.trans hy.out))
          go_wp2
          go_roundw
          case rel => exact ⟨pos + 1, rfl, by omega, rfl, ⟨hnext.out.symm.trans hR.out⟩⟩
          case measure => simp; omega
        · have hz : decide ((0 : Int) < (pos : Int)) = false := decide_eq_false (by omega)
          have hz2 : decide (0 < pos) = false := decide_eq_false h00
          have hn := Lib.hid (show ruleB c pos = false from hro.out.trans (by simp [h00]))
          have hend := Lib.hid (hR.out.symm.trans (name_no s pos hp (hrule.out.symm.trans hn.out)))
          go_wp2
          (try rw [Exit.noGoto_ret])
          go_ret
          exact ⟨(congrArg (fun b => Ending.returned (Value.bool b)) hend.out.symm : _), below_alloc (Below.refl _ _) _⟩
      · have T := tests5 hc
        clear hc
        have hro := Lib.hid (rule_of c pos _ _ _ _ _ _ _ _ _ T)
        obtain ⟨t65, t90, t97, t122, t95, t46, t48, t57, t45⟩ := T
        by_cases h00 : 0 < pos
        · have hz : decide ((0 : Int) < (pos : Int)) = true := decide_eq_true (by omega)
          have hz2 : decide (0 < pos) = true := decide_eq_true h00
          have hy := Lib.hid (show ruleB c pos = true from hro.out.trans (by simp [h00]))
          obtain rfl : adv = 1 := hadv.out hy.out
          have hnext := Lib.hid (name_yes s pos hp (hrule.out.symm.trans hy.out))
          go_wp2
          go_roundw
          case rel => exact ⟨pos + 1, rfl, by omega, rfl, ⟨hnext.out.symm.trans hR.out⟩⟩
          case measure => simp; omega
        · have hz : decide ((0 : Int) < (pos : Int)) = false := decide_eq_false (by omega)
          have hz2 : decide (0 < pos) = false := decide_eq_false h00
          have hn := Lib.hid (show ruleB c pos = false from hro.out.trans (by simp [h00]))
          have hend := Lib.hid (hR.out.symm.trans (name_no s pos hp (hrule.out.symm.trans hn.out)))
          go_wp2
          (try rw [Exit.noGoto_ret])
          go_ret
          exact ⟨(congrArg (fun b => Ending.returned (Value.bool b)) hend.out.symm : _), below_alloc (Below.refl _ _) _⟩
      · have T := tests6 hc
        clear hc
        have hro := Lib.hid (rule_of c pos _ _ _ _ _ _ _ _ _ T)
        obtain ⟨t65, t90, t97, t122, t95, t46, t48, t57, t45⟩ := T
        by_cases h00 : 0 < pos
        · have hz : decide ((0 : Int) < (pos : Int)) = true := decide_eq_true (by omega)
          have hz2 : decide (0 < pos) = true := decide_eq_true h00
          have hn := Lib.hid (show ruleB c pos = false from hro.out.trans (by simp [h00]))
          have hend := Lib.hid (hR.out.symm.trans (name_no s pos hp (hrule.out.symm.trans hn.out)))
          go_wp2
          (try rw [Exit.noGoto_ret])
          go_ret
          exact ⟨(congrArg (fun b => Ending.returned (Value.bool b)) hend.out.symm : _), below_alloc (Below.refl _ _) _⟩
        · have hz : decide ((0 : Int) < (pos : Int)) = false := decide_eq_false (by omega)
          have hz2 : decide (0 < pos) = false := decide_eq_false h00
          have hn := Lib.hid (show ruleB c pos = false from hro.out.trans (by simp [h00]))
          have hend := Lib.hid (hR.out.symm.trans (name_no s pos hp (hrule.out.symm.trans hn.out)))
          go_wp2
          (try rw [Exit.noGoto_ret])
          go_ret
          exact ⟨(congrArg (fun b => Ending.returned (Value.bool b)) hend.out.symm : _), below_alloc (Below.refl _ _) _⟩
      · have T := tests7 hc
        clear hc
        have hro := Lib.hid (rule_of c pos _ _ _ _ _ _ _ _ _ T)
        obtain ⟨t65, t90, t97, t122, t95, t46, t48, t57, t45⟩ := T
        by_cases h00 : 0 < pos
        · have hz : decide ((0 : Int) < (pos : Int)) = true := decide_eq_true (by omega)
          have hz2 : decide (0 < pos) = true := decide_eq_true h00
          have hn := Lib.hid (show ruleB c pos = false from hro.out.trans (by simp [h00]))
          have hend := Lib.hid (hR.out.symm.trans (name_no s pos hp (hrule.out.symm.trans hn.out)))
          go_wp2
          (try rw [Exit.noGoto_ret])
          go_ret
          exact ⟨(congrArg (fun b => Ending.returned (Value.bool b)) hend.out.symm : _), below_alloc (Below.refl _ _) _⟩
        · have hz : decide ((0 : Int) < (pos : Int)) = false := decide_eq_false (by omega)
          have hz2 : decide (0 < pos) = false := decide_eq_false h00
          have hn := Lib.hid (show ruleB c pos = false from hro.out.trans (by simp [h00]))
          have hend := Lib.hid (hR.out.symm.trans (name_no s pos hp (hrule.out.symm.trans hn.out)))
          go_wp2
          (try rw [Exit.noGoto_ret])
          go_ret
          exact ⟨(congrArg (fun b => Ending.returned (Value.bool b)) hend.out.symm : _), below_alloc (Below.refl _ _) _⟩
      · have T := tests8 hc
        clear hc
        have hro := Lib.hid (rule_of c pos _ _ _ _ _ _ _ _ _ T)
        obtain ⟨t65, t90, t97, t122, t95, t46, t48, t57, t45⟩ := T
        by_cases h00 : 0 < pos
        · have hz : decide ((0 : Int) < (pos : Int)) = true := decide_eq_true (by omega)
          have hz2 : decide (0 < pos) = true := decide_eq_true h00
          have hn := Lib.hid (show ruleB c pos = false from hro.out.trans (by simp [h00]))
          have hend := Lib.hid (hR.out.symm.trans (name_no s pos hp (hrule.out.symm.trans hn.out)))
          go_wp2
          (try rw [Exit.noGoto_ret])
          go_ret
          exact ⟨(congrArg (fun b => Ending.returned (Value.bool b)) hend.out.symm : _), below_alloc (Below.refl _ _) _⟩
        · have hz : decide ((0 : Int) < (pos : Int)) = false := decide_eq_false (by omega)
          have hz2 : decide (0 < pos) = false := decide_eq_false h00
          have hn := Lib.hid (show ruleB c pos = false from hro.out.trans (by simp [h00]))
          have hend := Lib.hid (hR.out.symm.trans (name_no s pos hp (hrule.out.symm.trans hn.out)))
          go_wp2
          (try rw [Exit.noGoto_ret])
          go_ret
          exact ⟨(congrArg (fun b => Ending.returned (Value.bool b)) hend.out.symm : _), below_alloc (Below.refl _ _) _⟩
      · have T := tests9 hc
        clear hc
        have hro := Lib.hid (rule_of c pos _ _ _ _ _ _ _ _ _ T)
        obtain ⟨t65, t90, t97, t122, t95, t46, t48, t57, t45⟩ := T
        by_cases h00 : 0 < pos
        · have hz : decide ((0 : Int) < (pos : Int)) = true := decide_eq_true (by omega)
          have hz2 : decide (0 < pos) = true := decide_eq_true h00
          have hn := Lib.hid (show ruleB c pos = false from hro.out.trans (by simp [h00]))
          have hend := Lib.hid (hR.out.symm.trans (name_no s pos hp (hrule.out.symm.trans hn.out)))
          go_wp2
          (try rw [Exit.noGoto_ret])
          go_ret
          exact ⟨(congrArg (fun b => Ending.returned (Value.bool b)) hend.out.symm : _), below_alloc (Below.refl _ _) _⟩
        · have hz : decide ((0 : Int) < (pos : Int)) = false := decide_eq_false (by omega)
          have hz2 : decide (0 < pos) = false := decide_eq_false h00
          have hn := Lib.hid (show ruleB c pos = false from hro.out.trans (by simp [h00]))
          have hend := Lib.hid (hR.out.symm.trans (name_no s pos hp (hrule.out.symm.trans hn.out)))
          go_wp2
          (try rw [Exit.noGoto_ret])
          go_ret
          exact ⟨(congrArg (fun b => Ending.returned (Value.bool b)) hend.out.symm : _), below_alloc (Below.refl _ _) _⟩
      · have T := tests10 hc
        clear hc
        have hro := Lib.hid (rule_of c pos _ _ _ _ _ _ _ _ _ T)
        obtain ⟨t65, t90, t97, t122, t95, t46, t48, t57, t45⟩ := T
        by_cases h00 : 0 < pos
        · have hz : decide ((0 : Int) < (pos : Int)) = true := decide_eq_true (by omega)
          have hz2 : decide (0 < pos) = true := decide_eq_true h00
          have hn := Lib.hid (show ruleB c pos = false from hro.out.trans (by simp [h00]))
          have hend := Lib.hid (hR.out.symm.trans (name_no s pos hp (hrule.out.symm.trans hn.out)))
          go_wp2
          (try rw [Exit.noGoto_ret])
          go_ret
          exact ⟨(congrArg (fun b => Ending.returned (Value.bool b)) hend.out.symm : _), below_alloc (Below.refl _ _) _⟩
        · have hz : decide ((0 : Int) < (pos : Int)) = false := decide_eq_false (by omega)
          have hz2 : decide (0 < pos) = false := decide_eq_false h00
          have hn := Lib.hid (show ruleB c pos = false from hro.out.trans (by simp [h00]))
          have hend := Lib.hid (hR.out.symm.trans (name_no s pos hp (hrule.out.symm.trans hn.out)))
          go_wp2
          (try rw [Exit.noGoto_ret])
          go_ret
          exact ⟨(congrArg (fun b => Ending.returned (Value.bool b)) hend.out.symm : _), below_alloc (Below.refl _ _) _⟩
      · have T := tests11 hc
        clear hc
        have hro := Lib.hid (rule_of c pos _ _ _ _ _ _ _ _ _ T)
        obtain ⟨t65, t90, t97, t122, t95, t46, t48, t57, t45⟩ := T
        by_cases h00 : 0 < pos
        · have hz : decide ((0 : Int) < (pos : Int)) = true := decide_eq_true (by omega)
          have hz2 : decide (0 < pos) = true := decide_eq_true h00
          have hn := Lib.hid (show ruleB c pos = false from hro.out.trans (by simp [h00]))
          have hend := Lib.hid (hR.out.symm.trans (name_no s pos hp (hrule.out.symm.trans hn.out)))
          go_wp2
          (try rw [Exit.noGoto_ret])
          go_ret
          exact ⟨(congrArg (fun b => Ending.returned (Value.bool b)) hend.out.symm : _), below_alloc (Below.refl _ _) _⟩
        · have hz : decide ((0 : Int) < (pos : Int)) = false := decide_eq_false (by omega)
          have hz2 : decide (0 < pos) = false := decide_eq_false h00
          have hn := Lib.hid (show ruleB c pos = false from hro.out.trans (by simp [h00]))
          have hend := Lib.hid (hR.out.symm.trans (name_no s pos hp (hrule.out.symm.trans hn.out)))
          go_wp2
          (try rw [Exit.noGoto_ret])
          go_ret
          exact ⟨(congrArg (fun b => Ending.returned (Value.bool b)) hend.out.symm : _), below_alloc (Below.refl _ _) _⟩
    · have hnx : ∀ ty, (Instr.next (.pointer (some ⟨w.heap.size, 0, none⟩)) true ty).run Tryd.prog (w.iter s pos) = _ := fun ty => run_next_end w s pos ty hp
      have hend := Lib.hid (show nameFrom s s.size 0 = true from hR.out.symm.trans (by rw [show s.size - pos = 0 by omega]; rfl))
      go_wp2
      (try rw [Exit.noGoto_ret])
      go_ret
      exact ⟨(congrArg (fun b => Ending.returned (Value.bool b)) hend.out.symm : _), below_alloc (Below.refl _ _) _⟩

theorem words_Name.calls (a0 : ByteArray) (r : Bool) (w : World) (h : words_Name.f a0 = some r) :
    Calls Tryd.prog 22 #[.string a0] w fun e w' => e = .returned (.bool r) ∧ Below w.heap.size w w' := by
  unfold words_Name.f at h
  injection h with h
  subst h
  by_cases h0 : a0.size = 0
  · rw [decide_eq_false (by omega), Bool.false_and]
    exact (name_empty a0 w h0).mono fun e w' ⟨he, hw⟩ => ⟨he, hw ▸ Below.refl _ _⟩
  · by_cases h1 : 16 < a0.size
    · rw [decide_eq_false (by omega), Bool.false_and]
      exact (name_long a0 w h1).mono fun e w' ⟨he, hw⟩ => ⟨he, hw ▸ Below.refl _ _⟩
    · rw [decide_eq_true (by omega), Bool.true_and]
      exact name_main a0 w (by omega) (by omega)
end Go.Proofs.YtenjohemplgnmaaDoor.P
