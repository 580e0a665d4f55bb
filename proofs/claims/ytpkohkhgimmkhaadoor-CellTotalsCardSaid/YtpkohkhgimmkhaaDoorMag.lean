/-
  Plain arithmetic: the size of a number and its sign: products, quotients and remainders by size and sign. No program in sight. No conditions.
-/
import Derived.Test.YtpkohkhgimmkhaaDoorNums
namespace Go.Proofs.YtpkohkhgimmkhaaDoor
open Go.RowKit
set_option linter.unusedVariables false
set_option linter.unusedSimpArgs false

/-- how great a number is, without its sign -/
def mag (n : Int) : Int := if 0 ≤ n then n else -n
theorem mag_pos {n : Int} (h : 0 ≤ n) : mag n = n := if_pos h
theorem mag_neg {n : Int} (h : n < 0) : mag n = -n := if_neg (by omega)
theorem mag_rng {n : Int} (h : R n) : 0 ≤ mag n ∧ mag n ≤ 9223372036854775808 := by unfold R at h; unfold mag; split <;> omega
theorem mag_one {n : Int} (h : n ≠ 0) : 1 ≤ mag n := by unfold mag; split <;> omega
/-- are the signs apart? -/
def apart (a b : Int) : Bool := decide (a < 0) != decide (b < 0)
theorem mul_mag (a b : Int) : a * b = if apart a b = true then -(mag a * mag b) else mag a * mag b := by
  unfold apart mag
  by_cases ha : 0 ≤ a <;> by_cases hb : 0 ≤ b
  · rw [if_pos ha, if_pos hb, show decide (a < 0) = false from by simp; omega, show decide (b < 0) = false from by simp; omega]; rfl
  · rw [if_pos ha, if_neg hb, show decide (a < 0) = false from by simp; omega, show decide (b < 0) = true from by simp; omega]
    simp [Int.neg_mul, Int.mul_neg]
  · rw [if_neg ha, if_pos hb, show decide (a < 0) = true from by simp; omega, show decide (b < 0) = false from by simp; omega]
    simp [Int.neg_mul, Int.mul_neg]
  · rw [if_neg ha, if_neg hb, show decide (a < 0) = true from by simp; omega, show decide (b < 0) = true from by simp; omega]
    simp [Int.neg_mul, Int.mul_neg]
theorem div_mag (a b : Int) : a.tdiv b = if apart a b = true then -(mag a / mag b) else mag a / mag b := by
  unfold apart mag
  by_cases ha : 0 ≤ a <;> by_cases hb : 0 ≤ b
  · rw [if_pos ha, if_pos hb, show decide (a < 0) = false from by simp; omega, show decide (b < 0) = false from by simp; omega, Int.tdiv_eq_ediv_of_nonneg ha]; rfl
  · rw [if_pos ha, if_neg hb, show decide (a < 0) = false from by simp; omega, show decide (b < 0) = true from by simp; omega, Int.tdiv_eq_ediv_of_nonneg ha]
    simp
  · rw [if_neg ha, if_pos hb, show decide (a < 0) = true from by simp; omega, show decide (b < 0) = false from by simp; omega, ← Int.tdiv_eq_ediv_of_nonneg (show 0 ≤ -a from by omega), Int.neg_tdiv]
    simp
  · rw [if_neg ha, if_neg hb, show decide (a < 0) = true from by simp; omega, show decide (b < 0) = true from by simp; omega, ← Int.tdiv_eq_ediv_of_nonneg (show 0 ≤ -a from by omega), Int.neg_tdiv, Int.tdiv_neg]
    simp
theorem mod_mag (a b : Int) : a.tmod b = if a < 0 then -(mag a % mag b) else mag a % mag b := by
  unfold mag
  by_cases ha : 0 ≤ a <;> by_cases hb : 0 ≤ b
  · rw [if_pos ha, if_pos hb, if_neg (by omega), Int.tmod_eq_emod_of_nonneg ha]
  · rw [if_pos ha, if_neg hb, if_neg (by omega), Int.tmod_eq_emod_of_nonneg ha, Int.emod_neg]
  · rw [if_neg ha, if_pos hb, if_pos (by omega), ← Int.tmod_eq_emod_of_nonneg (show 0 ≤ -a from by omega), Int.neg_tmod, Int.neg_neg]
  · rw [if_neg ha, if_neg hb, if_pos (by omega), ← Int.tmod_eq_emod_of_nonneg (show 0 ≤ -a from by omega), Int.neg_tmod, Int.tmod_neg, Int.neg_neg]
theorem quo_rng {a b : Int} (ha : R a) (hb : b ≠ 0) : 0 ≤ mag a / mag b ∧ mag a / mag b ≤ 9223372036854775808 := by
  have h1 := mag_rng ha
  have h2 := mag_one hb
  exact ⟨Int.ediv_nonneg h1.1 (by omega), Int.le_trans (Int.ediv_le_self _ h1.1) h1.2⟩
theorem rem_rng {a b : Int} (hR : R b) (hb : b ≠ 0) : 0 ≤ mag a % mag b ∧ mag a % mag b ≤ 9223372036854775807 := by
  have h1 := mag_rng hR
  have h2 := mag_one hb
  have h3 := Int.emod_nonneg (mag a) (b := mag b) (by omega)
  have h4 := Int.emod_lt_of_pos (mag a) (b := mag b) (by omega)
  omega
theorem prod_rng {a b : Int} (ha : R a) (hb : R b) : 0 ≤ mag a * mag b ∧ mag a * mag b ≤ 85070591730234615865843651857942052864 := by
  have h1 := mag_rng ha
  have h2 := mag_rng hb
  refine ⟨Int.mul_nonneg h1.1 h2.1, ?_⟩
  have := Int.mul_le_mul h1.2 h2.2 h2.1 (by omega)
  omega
end Go.Proofs.YtpkohkhgimmkhaaDoor
