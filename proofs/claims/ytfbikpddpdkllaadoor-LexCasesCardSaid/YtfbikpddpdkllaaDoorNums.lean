/-
  Plain arithmetic on 64-bit integers with bounds: when a sum, a difference, a product, a quotient fits, and that the tests of package calc tell just that. No program in sight. No conditions.
-/
import Derived.RowKit
namespace Go.Proofs.YtfbikpddpdkllaaDoor
open Go.RowKit
set_option linter.unusedVariables false
set_option linter.unusedSimpArgs false

/-- does the number fit 64 bits? -/
def fits (n : Int) : Bool := decide (-9223372036854775808 ≤ n) && decide (n ≤ 9223372036854775807)
/-- the number, or 0 -/
def val (n : Int) : Int := if fits n = true then n else 0
/-- no error, or ErrOver -/
def err (n : Int) : Int := if fits n = true then 0 else 9
/-- what calc.told hands back -/
def toldV (n : Int) (ok : Bool) : Int := if ok = true then n else 0
def toldE (ok : Bool) : Int := if ok = true then 0 else 9
/-- in range -/
def R (n : Int) : Prop := -9223372036854775808 ≤ n ∧ n ≤ 9223372036854775807

theorem fits_iff (n : Int) : fits n = true ↔ -9223372036854775808 ≤ n ∧ n ≤ 9223372036854775807 := by simp [fits]
theorem fits_of {n : Int} (h : R n) : fits n = true := (fits_iff n).2 h
theorem wrap_fit {n : Int} (h : fits n = true) : wrap64 n = n := by have := (fits_iff n).1 h; unfold wrap64; omega
theorem wrap_rng (n : Int) : -9223372036854775808 ≤ wrap64 n ∧ wrap64 n ≤ 9223372036854775807 := by unfold wrap64; omega
/-- the wrap differs by a multiple of 2^64, which is none only where the number fits -/
theorem wrap_off (n : Int) : ∃ k : Int, wrap64 n = n + k * 18446744073709551616 ∧ (fits n = false → k ≠ 0) := by
  refine ⟨-((n + 9223372036854775808) / 18446744073709551616), ?_, ?_⟩
  · unfold wrap64; omega
  · intro h
    have : ¬ (fits n = true) := by simp [h]
    rw [fits_iff] at this
    omega

theorem told_val {n : Int} {ok : Bool} (h : ok = fits n) : toldV (wrap64 n) ok = val n := by
  subst h
  unfold toldV val
  by_cases h : fits n = true
  · rw [if_pos h, if_pos h, wrap_fit h]
  · rw [if_neg h, if_neg h]
theorem told_err {n : Int} {ok : Bool} (h : ok = fits n) : toldE ok = err n := by subst h; rfl

theorem add_ok (a b : Int) (ha : R a) (hb : R b) : (decide (a < wrap64 (a + b)) == decide (0 < b)) = fits (a + b) := by
  unfold R at ha hb
  rw [Bool.eq_iff_iff, fits_iff, beq_iff_eq, Bool.eq_iff_iff, decide_eq_true_iff, decide_eq_true_iff]
  unfold wrap64
  omega
theorem sub_ok (a b : Int) (ha : R a) (hb : R b) : (decide (wrap64 (a - b) < a) == decide (0 < b)) = fits (a - b) := by
  unfold R at ha hb
  rw [Bool.eq_iff_iff, fits_iff, beq_iff_eq, Bool.eq_iff_iff, decide_eq_true_iff, decide_eq_true_iff]
  unfold wrap64
  omega

theorem neg_ok (a : Int) (ha : R a) : (a != -9223372036854775808) = fits (-a) := by
  unfold R at ha
  rw [Bool.eq_iff_iff, fits_iff, bne_iff_ne]
  omega
/-- a quotient that is cut towards nought, and what is left -/
theorem tdiv_left (n b : Int) (hb : b ≠ 0) : ∃ r : Int, n = b * n.tdiv b + r ∧ r.natAbs < b.natAbs := by
  refine ⟨n.tmod b, (Int.mul_tdiv_add_tmod n b).symm, ?_⟩
  have := Int.natAbs_tmod n b
  rw [this]
  exact Nat.mod_lt _ (by omega)

theorem mul_fits {a b : Int} (ha : R a) (hb : b ≠ 0) (h : fits (a * b) = true) : wrap64 ((wrap64 (a * b)).tdiv b) = a := by
  rw [wrap_fit h, Int.mul_tdiv_cancel _ hb, wrap_fit (fits_of ha)]
theorem mul_not {a b : Int} (ha : R a) (hb : R b) (h0 : b ≠ 0) (hm : ¬ (b = -1 ∧ a = -9223372036854775808)) (h : wrap64 ((wrap64 (a * b)).tdiv b) = a) : fits (a * b) = true := by
  obtain ⟨k, hk, hk0⟩ := wrap_off (a * b)
  have hr := wrap_rng (a * b)
  obtain ⟨r, hr1, hr2⟩ := tdiv_left (wrap64 (a * b)) b h0
  generalize wrap64 (a * b) = n at *
  have hq : n.tdiv b = a ∨ (b = -1 ∧ n = -9223372036854775808) := by
    by_cases e : b = -1 ∧ n = -9223372036854775808
    · exact .inr e
    · left
      have hq2 : R (n.tdiv b) := by
        have hn : (n.tdiv b).natAbs = n.natAbs / b.natAbs := Int.natAbs_tdiv n b
        by_cases b1 : b = -1
        · subst b1
          have : n.tdiv (-1) = -n := by rw [Int.tdiv_neg, Int.tdiv_one]
          rw [this]; unfold R; omega
        · by_cases b2 : b = 1
          · subst b2; rw [Int.tdiv_one]; exact hr
          · have h2 : 2 ≤ b.natAbs := by omega
            have : n.natAbs / b.natAbs ≤ n.natAbs / 2 := Nat.div_le_div_left h2 (by omega)
            unfold R; omega
      rw [wrap_fit (fits_of hq2)] at h
      exact h
  rcases hq with hq | ⟨hb1, hn⟩
  · rw [hq] at hr1
    have hr3 : r = k * 18446744073709551616 := by
      have : b * a = a * b := Int.mul_comm _ _
      omega
    unfold R at hb
    have : k = 0 := by omega
    cases hf : fits (a * b) with
    | true => rfl
    | false => exact absurd this (hk0 hf)
  · subst hb1 hn
    exfalso
    apply hm
    refine ⟨rfl, ?_⟩
    rw [← h]
    decide
theorem mul_least : fits (-1 * -9223372036854775808) = false := by decide
/-- the test of calc.Mul, as it is written there -/
def mulB (a b : Int) : Bool := (wrap64 ((wrap64 (a * b)).tdiv b) == a) && !(a == -1 && b == -9223372036854775808) && !(b == -1 && a == -9223372036854775808)
theorem mul_ok (a b : Int) (ha : R a) (hb : R b) (h0 : b ≠ 0) : mulB a b = fits (a * b) := by
  rw [Bool.eq_iff_iff]
  constructor
  · intro h
    simp only [mulB, Bool.and_eq_true, Bool.not_eq_true', beq_iff_eq, Bool.and_eq_false_iff, beq_eq_false_iff_ne] at h
    obtain ⟨⟨h1, _⟩, h3⟩ := h
    exact mul_not ha hb h0 (by rintro ⟨x, y⟩; rcases h3 with h | h <;> contradiction) h1
  · intro h
    have h1 := mul_fits ha h0 h
    have hn1 : ¬ (a = -1 ∧ b = -9223372036854775808) := by rintro ⟨rfl, rfl⟩; exact absurd h (by decide)
    have hn2 : ¬ (b = -1 ∧ a = -9223372036854775808) := by rintro ⟨rfl, rfl⟩; exact absurd h (by decide)
    simp only [mulB, h1, beq_self_eq_true, Bool.true_and, Bool.and_eq_true, Bool.not_eq_true', Bool.and_eq_false_iff, beq_eq_false_iff_ne]
    omega

/-- quotients -/
theorem div_fits (a b : Int) (ha : R a) (hb : R b) (h0 : b ≠ 0) : fits (a.tdiv b) = true ↔ ¬ (b = -1 ∧ a = -9223372036854775808) := by
  rw [fits_iff]
  unfold R at ha hb
  constructor
  · rintro h ⟨rfl, rfl⟩
    exact absurd h (by decide)
  · intro hm
    have hn : (a.tdiv b).natAbs = a.natAbs / b.natAbs := Int.natAbs_tdiv a b
    by_cases b1 : b = -1
    · subst b1
      have : a.tdiv (-1) = -a := by rw [Int.tdiv_neg, Int.tdiv_one]
      rw [this]; omega
    · by_cases b2 : b = 1
      · subst b2; rw [Int.tdiv_one]; exact ha
      · have h2 : 2 ≤ b.natAbs := by omega
        have : a.natAbs / b.natAbs ≤ a.natAbs / 2 := Nat.div_le_div_left h2 (by omega)
        omega
theorem mod_rng (a b : Int) (h0 : b ≠ 0) (hb : R b) : R (a.tmod b) := by
  have := Int.natAbs_tmod a b
  have h2 : a.natAbs % b.natAbs < b.natAbs := Nat.mod_lt _ (by omega)
  unfold R at *
  omega
/-- what calc.Div, calc.Mod hand back -/
def divV (a b : Int) : Int := if b = 0 then 0 else val (a.tdiv b)
def divE (a b : Int) : Int := if b = 0 then 10 else err (a.tdiv b)
def modV (a b : Int) : Int := if b = 0 then 0 else a.tmod b
def modE (b : Int) : Int := if b = 0 then 10 else 0
end Go.Proofs.YtfbikpddpdkllaaDoor
