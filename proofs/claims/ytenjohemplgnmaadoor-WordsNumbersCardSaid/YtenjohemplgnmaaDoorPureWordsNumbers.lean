/- A number's digits say it, with noughts ahead, too, up to nine digits; ten are none; nothing else is one: for every number, count of noughts and byte. -/
import Derived.Test.YtenjohemplgnmaaDoorNWordsNumbers
import Derived.Test.YtenjohemplgnmaaDoorHNumbers
namespace Go.Proofs.YtenjohemplgnmaaDoor.P
open Go.RowKit Go.Proofs.YtenjohemplgnmaaDoorW.PrintWords Go.Proofs.YtenjohemplgnmaaDoorW.PrintLast
set_option linter.unusedVariables false
set_option linter.unusedSimpArgs false

theorem tells_number (s : ByteArray) (v : Int) (b : Bool) (hs : s.size < 9223372036854775807) (h : numOf s = (v, b)) : Tells 24 #[.string s] (.tuple #[.int .i64 v, .bool b]) :=
  fun W => words_Number.calls s v b W (by rw [number_tell s hs, h])

theorem data_app (a b : ByteArray) : (a ++ b).data.toList = a.data.toList ++ b.data.toList := by simp

theorem L05_WordsNumbers.walk (_ : True) (a0 a1 a2 : Int) (w : World) (_ : (Lit.int .i64 a0).wf = true) (w1 : (Lit.int .u8 a1).wf = true) (w2 : (Lit.int .u8 a2).wf = true) :
    Calls Tryd.prog 10 #[.int .i64 a0, .int .u8 a1, .int .u8 a2] w fun e w' => e = .returned (.bool true) ∧ Below w.heap.size w w' := by
  have hq : 0 ≤ a1 ∧ a1 ≤ 255 := by
    have h1 : (decide ((0 : Int) ≤ a1) && decide (a1 ≤ 255)) = true := w1
    simpa using h1
  have hc : 0 ≤ a2 ∧ a2 ≤ 255 := by
    have h1 : (decide ((0 : Int) ≤ a2) && decide (a2 ≤ 255)) = true := w2
    simpa using h1
  have hk1 : -1000000000 < a0.tmod 1000000000 := by
    have h2 := Int.natAbs_tmod a0 1000000000
    have h3 : (a0.natAbs % (1000000000 : Int).natAbs) < 1000000000 := Nat.mod_lt _ (by decide)
    omega
  have hk2 : a0.tmod 1000000000 < 1000000000 := by
    have h2 := Int.natAbs_tmod a0 1000000000
    have h3 : (a0.natAbs % (1000000000 : Int).natAbs) < 1000000000 := Nat.mod_lt _ (by decide)
    omega
  generalize hK : a0.tmod 1000000000 = K at hk1 hk2
  have D := digits_of K hk1 hk2
  obtain ⟨k1, hs⟩ := shown_true.rounds
  obtain ⟨k2, hd⟩ := (dec_ev K hk1 hk2).rounds
  have HS : Tells 12 #[] (.bool true) := fun W => L05_shown.calls k1 true W hs
  have hqq : (1 + a1 % 8).toNat ≤ 8 := by omega
  obtain ⟨c, hcc⟩ : ∃ c : UInt8, (c.toNat : Int) = a2 := ⟨UInt8.ofNat a2.toNat, by rw [UInt8.toNat_ofNat']; omega⟩
  have hcd : (strOfNums [a2]).data.toList = [c] := by
    rw [strOfNums_data]
    simp only [List.map_cons, List.map_nil]
    congr 1
    apply UInt8.toNat_inj.1
    rw [UInt8.toNat_ofNat']
    omega
  have hcb : (decide (48 ≤ c.toNat ∧ c.toNat ≤ 57)) = decide (48 ≤ a2 ∧ a2 ≤ 57) := by
    rw [decide_eq_decide]
    omega
  have hcs : (strOfNums [a2]).size = 1 := strOfNums_size _
  have hE : numOf ⟨#[]⟩ = (0, false) := rfl
  have hM : numOf ⟨#[45]⟩ = (0, false) := rfl
  have hZ := noughts (1 + a1 % 8).toNat hqq
  have hZs : ((⟨#[48, 48, 48, 48, 48, 48, 48, 48]⟩ : ByteArray).extract 0 (1 + a1 % 8).toNat).size = (1 + a1 % 8).toNat := by
    rw [ByteArray.size_extract]
    show min (1 + a1 % 8).toNat 8 - 0 = _
    omega
  generalize hp : decB 10 K.natAbs = p at D hd
  have hps : (⟨p.toArray⟩ : ByteArray).size = p.length := by simp [ByteArray.size]
  have hp1 := D.pos
  have hp9 := D.short
  have hfits : ∀ x : ByteArray, x.size = p.length → decide (((⟨#[48, 48, 48, 48, 48, 48, 48, 48]⟩ : ByteArray).extract 0 (1 + a1 % 8).toNat ++ x).size ≤ 9) = decide ((1 + a1 % 8).toNat + p.length ≤ 9) := fun x hx => by
    rw [ByteArray.size_append, hZs, hx]
  by_cases hneg : K < 0
  · rw [if_pos hneg] at hd
    have hDn : decide (K < 0) = true := decide_eq_true hneg
    rw [hDn] at D
    have hds : ((⟨#[45]⟩ : ByteArray) ++ ⟨p.toArray⟩).size = p.length + 1 := by rw [ByteArray.size_append, hps]; show 1 + _ = _; omega
    have hex : ((⟨#[45]⟩ : ByteArray) ++ ⟨p.toArray⟩).extract 1 ((⟨#[45]⟩ : ByteArray) ++ ⟨p.toArray⟩).size = ⟨p.toArray⟩ := by
      apply ByteArray.ext
      apply Array.toList_inj.1
      rw [Lib.extract_to_end]
      simp
    have hA := D.itself ((⟨#[45]⟩ : ByteArray) ++ ⟨p.toArray⟩) (by rw [data_app]; rfl)
    have hL := D.more (1 + a1 % 8).toNat hqq ((⟨#[45]⟩ : ByteArray) ++ ((⟨#[48, 48, 48, 48, 48, 48, 48, 48]⟩ : ByteArray).extract 0 (1 + a1 % 8).toNat ++ ⟨p.toArray⟩)) (by rw [data_app, data_app, hZ]; rfl)
    have hO := D.behind c ((⟨#[45]⟩ : ByteArray) ++ ⟨p.toArray⟩ ++ strOfNums [a2]) (by rw [data_app, data_app, hcd]; simp)
    have hT := twice_none ((⟨#[45, 45, 45]⟩ : ByteArray) ++ ⟨p.toArray⟩) [45] p (by rw [data_app]; rfl)
    generalize hdd : (⟨#[45]⟩ : ByteArray) ++ ⟨p.toArray⟩ = d at hd hds hex hA hO
    refine numbers_neg a0 a1 a2 (if (1 + a1 % 8).toNat + p.length ≤ 9 then K else 0) (numOf (d ++ strOfNums [a2])).1 0 (decide ((1 + a1 % 8).toNat + p.length ≤ 9)) (numOf (d ++ strOfNums [a2])).2 d w hq.1 hq.2 (hK ▸ hneg) (by omega) (by omega)
      HS (fun W => by rw [hK]; exact R05_Decimal.calls k2 K d W hd) (hK ▸ tells_number d K true (by omega) hA) ?_ ?_ ?_ (tells_number _ _ _ (by decide) hE) (tells_number _ _ _ (by decide) hM) ?_ ?_ ?_
    · rw [hex]
      refine tells_number _ _ _ (by rw [ByteArray.size_append, ByteArray.size_append, hZs, hps]; show 1 + _ < _; omega) ?_
      rw [hL]
      by_cases h9 : (1 + a1 % 8).toNat + p.length ≤ 9
      · rw [if_pos h9, if_pos h9, decide_eq_true h9]
      · rw [if_neg h9, if_neg h9, decide_eq_false h9]
    · exact tells_number _ _ _ (by rw [ByteArray.size_append]; omega) rfl
    · rw [hex]
      exact tells_number _ _ _ (by rw [ByteArray.size_append, hps]; show 3 + _ < _; omega) hT
    · rw [hex, hfits _ hps]
    · rw [hK]
      by_cases h9 : (1 + a1 % 8).toNat + p.length ≤ 9
      · rw [if_pos h9, decide_eq_true h9, if_pos rfl]
      · rw [if_neg h9, decide_eq_false h9, if_neg (by decide)]
    · rw [hO, hcb, hex, hps]
  · rw [if_neg hneg] at hd
    have hDn : decide (K < 0) = false := decide_eq_false hneg
    rw [hDn] at D
    have hemp : (⟨#[]⟩ : ByteArray) ++ ⟨p.toArray⟩ = ⟨p.toArray⟩ := by
      apply ByteArray.ext
      simp
    rw [hemp] at hd
    have hA := D.itself (⟨p.toArray⟩ : ByteArray) (by simp)
    have hL := D.more (1 + a1 % 8).toNat hqq ((⟨#[48, 48, 48, 48, 48, 48, 48, 48]⟩ : ByteArray).extract 0 (1 + a1 % 8).toNat ++ ⟨p.toArray⟩) (by rw [data_app, hZ]; rfl)
    have hO := D.behind c ((⟨p.toArray⟩ : ByteArray) ++ strOfNums [a2]) (by rw [data_app, hcd]; simp)
    have hT := twice_none ((⟨#[45, 45]⟩ : ByteArray) ++ ⟨p.toArray⟩) [] p (by rw [data_app]; rfl)
    generalize hdd : (⟨p.toArray⟩ : ByteArray) = d at hd hps hA hL hO hT
    refine numbers_pos a0 a1 a2 (if (1 + a1 % 8).toNat + p.length ≤ 9 then K else 0) (numOf (d ++ strOfNums [a2])).1 0 (decide ((1 + a1 % 8).toNat + p.length ≤ 9)) (numOf (d ++ strOfNums [a2])).2 d w hq.1 hq.2 (hK ▸ hneg) (by omega) (by omega)
      HS (fun W => by rw [hK]; exact R05_Decimal.calls k2 K d W hd) (hK ▸ tells_number d K true (by omega) hA) ?_ ?_ ?_ (tells_number _ _ _ (by decide) hE) (tells_number _ _ _ (by decide) hM) ?_ ?_ ?_
    · refine tells_number _ _ _ (by rw [ByteArray.size_append, hZs, hps]; omega) ?_
      rw [hL]
      by_cases h9 : (1 + a1 % 8).toNat + p.length ≤ 9
      · rw [if_pos h9, if_pos h9, decide_eq_true h9]
      · rw [if_neg h9, if_neg h9, decide_eq_false h9]
    · exact tells_number _ _ _ (by rw [ByteArray.size_append]; omega) rfl
    · exact tells_number _ _ _ (by rw [ByteArray.size_append, hps]; show 2 + _ < _; omega) hT
    · rw [hfits _ hps]
    · rw [hK]
      by_cases h9 : (1 + a1 % 8).toNat + p.length ≤ 9
      · rw [if_pos h9, decide_eq_true h9, if_pos rfl]
      · rw [if_neg h9, decide_eq_false h9, if_neg (by decide)]
    · rw [hO, hcb, hps]
end Go.Proofs.YtenjohemplgnmaaDoor.P
namespace Go.Proofs.YtenjohemplgnmaaDoor.Pure
theorem WordsNumbers : True := trivial
end Go.Proofs.YtenjohemplgnmaaDoor.Pure
