/-
  Plain law of decimal digits, second part: how great a number of so many digits is; two rows of digits of one length compare as their numbers do. No program in sight. No conditions.
-/
import Derived.Test.YtgfhkfmankcheaaDoorDigits
import GoSem.Op.String
namespace Go.Proofs.YtgfhkfmankcheaaDoor
open Go.RowKit
set_option linter.unusedVariables false
set_option linter.unusedSimpArgs false

theorem foldl_num (l : List UInt8) : ∀ n, l.foldl numF n = n * 10 ^ l.length + num l := by
  induction l with
  | nil => intro n; simp [num]
  | cons c l ih =>
    intro n
    have h1 := ih (numF n c)
    have h2 := ih (numF 0 c)
    have h3 : num (c :: l) = l.foldl numF (numF 0 c) := rfl
    rw [List.foldl_cons, h1, h3, h2, List.length_cons, Nat.pow_succ]
    unfold numF
    rw [Nat.add_mul, Nat.add_mul, Nat.mul_assoc n 10, Nat.mul_comm 10 (10 ^ l.length)]
    simp
    omega
theorem num_cons (c : UInt8) (l : List UInt8) : num (c :: l) = (c.toNat - 48) * 10 ^ l.length + num l := by
  have h3 : num (c :: l) = l.foldl numF (numF 0 c) := rfl
  rw [h3, foldl_num]
  simp [numF]
theorem num_lt (l : List UInt8) (h : l.all isDig = true) : num l < 10 ^ l.length := by
  induction l with
  | nil => simp [num]
  | cons c l ih =>
    simp only [List.all_cons, Bool.and_eq_true] at h
    have h1 := ih h.2
    have h2 := (isDig_iff c).1 h.1
    rw [num_cons, List.length_cons, Nat.pow_succ]
    have : (c.toNat - 48) * 10 ^ l.length ≤ 9 * 10 ^ l.length := Nat.mul_le_mul_right _ (by omega)
    omega
theorem num_ge (c : UInt8) (l : List UInt8) (h : 49 ≤ c.toNat) : 10 ^ l.length ≤ num (c :: l) := by
  rw [num_cons]
  have : 1 * 10 ^ l.length ≤ (c.toNat - 48) * 10 ^ l.length := Nat.mul_le_mul_right _ (by omega)
  omega
theorem num_nought (l : List UInt8) : num (48 :: l) = num l := by
  rw [num_cons]
  simp
theorem less_num (a b : List UInt8) (ha : a.all isDig = true) (hb : b.all isDig = true) (hl : a.length = b.length) : Op.bytesLess a b = decide (num a < num b) := by
  induction a generalizing b with
  | nil =>
    cases b with
    | nil => rfl
    | cons y b => simp at hl
  | cons x a ih =>
    cases b with
    | nil => simp at hl
    | cons y b =>
      simp only [List.all_cons, Bool.and_eq_true] at ha hb
      simp only [List.length_cons, Nat.add_right_cancel_iff] at hl
      have h1 := ih b ha.2 hb.2 hl
      have h2 := num_lt a ha.2
      have h3 := num_lt b hb.2
      have h4 := (isDig_iff x).1 ha.1
      have h5 := (isDig_iff y).1 hb.1
      rw [hl] at h2
      rw [num_cons, num_cons, hl]
      show (decide (x < y) || (x == y && Op.bytesLess a b)) = _
      rw [h1]
      by_cases hxy : x = y
      · subst hxy
        have : ¬ x < x := by rw [UInt8.lt_iff_toNat_lt]; omega
        simp [this]
      · have hn : x.toNat ≠ y.toNat := fun h => hxy (UInt8.toNat_inj.1 h)
        by_cases hlt : x.toNat < y.toNat
        · have e1 : x < y := by rw [UInt8.lt_iff_toNat_lt]; exact hlt
          have : (x.toNat - 48) * 10 ^ b.length + 1 * 10 ^ b.length ≤ (y.toNat - 48) * 10 ^ b.length := by
            rw [← Nat.add_mul]
            exact Nat.mul_le_mul_right _ (by omega)
          have e2 : (x.toNat - 48) * 10 ^ b.length + num a < (y.toNat - 48) * 10 ^ b.length + num b := by omega
          rw [decide_eq_true e1, decide_eq_true e2]
          simp
        · have e1 : ¬ x < y := by rw [UInt8.lt_iff_toNat_lt]; exact hlt
          have : (y.toNat - 48) * 10 ^ b.length + 1 * 10 ^ b.length ≤ (x.toNat - 48) * 10 ^ b.length := by
            rw [← Nat.add_mul]
            exact Nat.mul_le_mul_right _ (by omega)
          have e2 : ¬ (x.toNat - 48) * 10 ^ b.length + num a < (y.toNat - 48) * 10 ^ b.length + num b := by omega
          rw [decide_eq_false e1, decide_eq_false e2]
          simp [hxy]
theorem eq_num (a b : List UInt8) (ha : a.all isDig = true) (hb : b.all isDig = true) (hl : a.length = b.length) : a = b ↔ num a = num b := by
  refine ⟨fun h => by rw [h], ?_⟩
  induction a generalizing b with
  | nil =>
    cases b with
    | nil => intro _; rfl
    | cons y b => simp at hl
  | cons x a ih =>
    cases b with
    | nil => simp at hl
    | cons y b =>
      simp only [List.all_cons, Bool.and_eq_true] at ha hb
      simp only [List.length_cons, Nat.add_right_cancel_iff] at hl
      have h2 := num_lt a ha.2
      have h3 := num_lt b hb.2
      have h4 := (isDig_iff x).1 ha.1
      have h5 := (isDig_iff y).1 hb.1
      rw [hl] at h2
      rw [num_cons, num_cons, hl]
      intro h
      have hxy : x.toNat = y.toNat := by
        rcases Nat.lt_trichotomy x.toNat y.toNat with h' | h' | h'
        · have : (x.toNat - 48) * 10 ^ b.length + 1 * 10 ^ b.length ≤ (y.toNat - 48) * 10 ^ b.length := by
            rw [← Nat.add_mul]
            exact Nat.mul_le_mul_right _ (by omega)
          omega
        · exact h'
        · have : (y.toNat - 48) * 10 ^ b.length + 1 * 10 ^ b.length ≤ (x.toNat - 48) * 10 ^ b.length := by
            rw [← Nat.add_mul]
            exact Nat.mul_le_mul_right _ (by omega)
          omega
      have e := UInt8.toNat_inj.1 hxy
      subst e
      rw [ih b ha.2 hb.2 hl (by omega)]
/-- 2^63 - 1 in digits -/
def most : List UInt8 := [57, 50, 50, 51, 51, 55, 50, 48, 51, 54, 56, 53, 52, 55, 55, 53, 56, 48, 55]
theorem most_num : num most = 9223372036854775807 := by decide
theorem most_dig : most.all isDig = true := by decide
/-- the reference's test on 19 digits -/
theorem over_most (a : List UInt8) (ha : a.all isDig = true) (hl : a.length = 19) : (!(Op.bytesLess a most || a == most)) = decide (9223372036854775807 < num a) := by
  have h1 := less_num a most ha most_dig hl
  have h2 := eq_num a most ha most_dig hl
  rw [most_num] at h1 h2
  rw [h1]
  by_cases h : num a < 9223372036854775807
  · rw [decide_eq_true h, decide_eq_false (by omega)]; rfl
  · rw [decide_eq_false h]
    by_cases h3 : num a = 9223372036854775807
    · rw [h2.2 h3, decide_eq_false (by rw [most_num]; omega)]; decide
    · rw [decide_eq_true (by omega)]
      have : ¬ a = most := fun e => h3 (h2.1 e)
      simp [this]
theorem over_len (c : UInt8) (l : List UInt8) (h : 49 ≤ c.toNat) (hl : 19 ≤ l.length) : 9223372036854775807 < num (c :: l) := by
  have h1 := num_ge c l h
  have h2 : 10 ^ 19 ≤ 10 ^ l.length := Nat.pow_le_pow_right (by omega) hl
  omega
theorem under_len (l : List UInt8) (h : l.all isDig = true) (hl : l.length ≤ 18) : num l ≤ 9223372036854775807 := by
  have h1 := num_lt l h
  have h2 : 10 ^ l.length ≤ 10 ^ 18 := Nat.pow_le_pow_right (by omega) hl
  omega
end Go.Proofs.YtgfhkfmankcheaaDoor
