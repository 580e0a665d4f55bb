/-
  Plain law: the digits of a number read as that number, if it isn't below 0; with a sign ahead they are no digits. No program in sight. No conditions.
-/
import Derived.Test.YtgfhkfmankcheaaDoorDigits
import Derived.Lib.ItoaMem
namespace Go.Proofs.YtgfhkfmankcheaaDoor
open Go.RowKit
set_option linter.unusedVariables false
set_option linter.unusedSimpArgs false

theorem dig_toNat (d : Nat) (h : d < 10) : (UInt8.ofNat (48 + d)).toNat = 48 + d := by
  have : d = 0 ∨ d = 1 ∨ d = 2 ∨ d = 3 ∨ d = 4 ∨ d = 5 ∨ d = 6 ∨ d = 7 ∨ d = 8 ∨ d = 9 := by omega
  rcases this with rfl | rfl | rfl | rfl | rfl | rfl | rfl | rfl | rfl | rfl <;> rfl
theorem dec_digits (u : Nat) : (Lib.decDigits u).all isDig = true ∧ Lib.decDigits u ≠ [] ∧ num (Lib.decDigits u) = u := by
  induction u using Nat.strongRecOn with
  | _ u ih =>
    rw [Lib.decDigits]
    by_cases h : u < 10
    · rw [dif_pos h]
      have e := dig_toNat u h
      refine ⟨by simp only [List.all_cons, List.all_nil, Bool.and_true]; rw [isDig_iff]; omega, by simp, ?_⟩
      show 0 * 10 + ((UInt8.ofNat (48 + u)).toNat - 48) = u
      omega
    · rw [dif_neg h]
      obtain ⟨h1, h2, h3⟩ := ih (u / 10) (by omega)
      have e := dig_toNat (u % 10) (by omega)
      refine ⟨?_, by simp, ?_⟩
      · rw [List.all_append, h1]
        simp only [List.all_cons, List.all_nil, Bool.and_true, Bool.true_and]
        rw [isDig_iff]; omega
      · rw [num_snoc, h3]
        omega
theorem read_dec_pos (n : Int) (h : 0 ≤ n) (h1 : n ≤ 9223372036854775807) : readV (Lib.itoa n) = n ∧ readE (Lib.itoa n) = 0 := by
  obtain ⟨u, rfl⟩ := Int.eq_ofNat_of_zero_le h
  rw [Lib.itoa_nonneg]
  obtain ⟨h1, h2, h3⟩ := dec_digits u
  have hd : digits (Lib.decDigits u) = true := by
    unfold digits
    rw [h1, Bool.and_true]
    simpa using h2
  have hf : fits (u : Int) = true := fits_of ⟨by omega, by omega⟩
  obtain ⟨h4, h5⟩ := read_yes hd
  rw [h4, h5, h3]
  simp [val, err, hf]
theorem read_dec_neg (n : Int) (h : n < 0) : readV (Lib.itoa n) = 0 ∧ readE (Lib.itoa n) = 3 := by
  apply read_not
  unfold Lib.itoa
  rw [if_pos h]
  rfl
end Go.Proofs.YtgfhkfmankcheaaDoor
