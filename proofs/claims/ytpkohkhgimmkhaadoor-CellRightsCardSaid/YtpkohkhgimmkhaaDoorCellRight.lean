/-
  Plain law: a text is whole just if it is valid UTF-8 and no byte of it is 0, as package cell asks it.
-/
import Derived.Test.YtpkohkhgimmkhaaDoorCellWhole
import Derived.Lib.IndexAny
namespace Go.Proofs.YtpkohkhgimmkhaaDoor
open Go.RowKit
set_option linter.unusedVariables false
set_option linter.unusedSimpArgs false

theorem no_nought (l : List UInt8) : decide (Lib.indexByte l 0 < 0) = !(l.contains 0) := by
  rw [Lib.contains_iff_indexByte]
  by_cases h : Lib.indexByte l 0 < 0
  · rw [decide_eq_true h, decide_eq_false (by omega)]; rfl
  · rw [decide_eq_false h, decide_eq_true (by omega)]; rfl
theorem decN_nz (n b0 b1 b2 b3 : Nat) : (1 < (Lib.decodeN n b0 b1 b2 b3).2 → b1 ≠ 0) ∧ (2 < (Lib.decodeN n b0 b1 b2 b3).2 → b2 ≠ 0) ∧ (3 < (Lib.decodeN n b0 b1 b2 b3).2 → b3 ≠ 0) ∧ (Lib.decodeN n b0 b1 b2 b3).2 ≤ 4 := by
  unfold Lib.decodeN
  repeat' split
  all_goals (refine ⟨fun h => ?_, fun h => ?_, fun h => ?_, ?_⟩ <;> simp only at * <;> omega)
/-- the bytes of a rune that stands whole are none of them 0 -/
theorem step_no_nought (l : List UInt8) (h0 : l.headD 0 ≠ 0) : (l.take (Lib.decodeL l).2).contains 0 = false := by
  have e := Lib.decodeL_drop ⟨l.toArray⟩ 0
  simp only [List.drop_zero] at e
  have e' : Lib.decodeL l = Utf8.decode ⟨l.toArray⟩ 0 := e
  rw [e', Lib.decode_N]
  obtain ⟨n1, n2, n3, n4⟩ := decN_nz ((⟨l.toArray⟩ : ByteArray).data.toList.length - 0) ((⟨l.toArray⟩ : ByteArray).data.toList.getD 0 0).toNat ((⟨l.toArray⟩ : ByteArray).data.toList.getD (0 + 1) 0).toNat ((⟨l.toArray⟩ : ByteArray).data.toList.getD (0 + 2) 0).toNat ((⟨l.toArray⟩ : ByteArray).data.toList.getD (0 + 3) 0).toNat
  generalize (Lib.decodeN _ _ _ _ _).2 = w at *
  cases hc : (l.take w).contains 0 with
  | false => rfl
  | true =>
    exfalso
    have hm : (0 : UInt8) ∈ l.take w := by simpa using hc
    obtain ⟨j, hj, hx⟩ := List.mem_iff_getElem.1 hm
    rw [List.length_take] at hj
    rw [List.getElem_take] at hx
    have hg : l.getD j 0 = 0 := by
      rw [List.getD_eq_getElem?_getD, List.getElem?_eq_getElem (by omega), hx]; rfl
    have : j = 0 ∨ j = 1 ∨ j = 2 ∨ j = 3 := by omega
    rcases this with rfl | rfl | rfl | rfl
    · apply h0
      rw [List.headD_eq_head?_getD, List.head?_eq_getElem?, ← List.getD_eq_getElem?_getD]
      exact hg
    · exact n1 (by omega) (by show (l.getD 1 0).toNat = 0; rw [hg]; rfl)
    · exact n2 (by omega) (by show (l.getD 2 0).toNat = 0; rw [hg]; rfl)
    · exact n3 (by omega) (by show (l.getD 3 0).toNat = 0; rw [hg]; rfl)
theorem whole_split : ∀ n l, l.length ≤ n → wholeN n l = (Lib.validGoD n l && !(l.contains 0))
  | 0, l, h => by
    obtain rfl : l = [] := List.length_eq_zero_iff.1 (by omega)
    rfl
  | n + 1, l, h => by
    rw [wholeN, Lib.validGoD]
    by_cases hl : l = []
    · rw [if_pos hl, if_pos hl, hl]; rfl
    rw [if_neg hl, if_neg hl]
    by_cases h0 : l.headD 0 = 0
    · rw [if_pos h0]
      have : l.contains 0 = true := by
        match l, hl with
        | a :: m, _ =>
          have : a = 0 := h0
          simp [this]
      rw [this]; simp
    rw [if_neg h0]
    by_cases hb : (Lib.decodeL l).1 = 65533 ∧ (Lib.decodeL l).2 = 1
    · rw [if_pos hb, if_pos hb]; rfl
    rw [if_neg hb, if_neg hb]
    have hw : 1 ≤ (Lib.decodeL l).2 := by
      have e := Lib.decodeL_drop ⟨l.toArray⟩ 0
      simp only [List.drop_zero] at e
      have e' : Lib.decodeL l = Utf8.decode ⟨l.toArray⟩ 0 := e
      rw [e']
      exact Lib.width_pos _ _
    rw [whole_split n _ (by rw [List.length_drop]; omega)]
    have hs := step_no_nought l h0
    have : l.contains 0 = ((l.take (Lib.decodeL l).2).contains 0 || (l.drop (Lib.decodeL l).2).contains 0) := by
      conv => lhs; rw [← List.take_append_drop (Lib.decodeL l).2 l]
      rw [List.contains_append]
    rw [this, hs]
    rfl
theorem whole_eq (s : ByteArray) : wholeV s = (Lib.validD s.data.toList && decide (Lib.indexByte s.data.toList 0 < 0)) := by
  unfold wholeV Lib.validD
  rw [no_nought]
  have : s.size = s.data.toList.length := by simp
  rw [this]
  exact whole_split _ _ (Nat.le_refl _)
end Go.Proofs.YtpkohkhgimmkhaaDoor
