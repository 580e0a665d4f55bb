/-
  Contracts of package calc's Add, Sub, Mul, Div, Mod, Neg: each hands back the number, or 0 and ErrOver (ErrZero). Conditions: the arguments are int64.
-/
import Derived.Test.YtgfhkfmankcheaaDoorNums
import Derived.Test.YtgfhkfmankcheaaDoorProg
import Derived.WalkKit
import Derived.WalkLawsBesides
namespace Go.Proofs.YtgfhkfmankcheaaDoor
open Go.RowKit
set_option linter.unusedVariables false
set_option linter.unusedSimpArgs false

theorem told_any (n : Int) (ok : Bool) (w : World) :
    Calls Tryd.prog 15 #[.int .i64 n, .bool ok] w fun e w' => e = .returned (.tuple #[.int .i64 (toldV n ok), .int .i64 (toldE ok)]) ∧ w = w' := by
  cases ok
  · go_enter Tryd.func15, Tryd.ntmps15
    go_wp2
    go_ret2
    exact ⟨rfl, rfl⟩
  · go_enter Tryd.func15, Tryd.ntmps15
    go_wp2
    go_ret2
    exact ⟨rfl, rfl⟩


theorem add_any (a b : Int) (w : World) (ha : R a) (hb : R b) :
    Calls Tryd.prog 9 #[.int .i64 a, .int .i64 b] w fun e w' => e = .returned (.tuple #[.int .i64 (val (a + b)), .int .i64 (err (a + b))]) ∧ w = w' := by
  have H := add_ok a b ha hb
  rw [← told_val H, ← told_err H]
  clear H ha hb
  go_enter Tryd.func9, Tryd.ntmps9
  go_wp2_with (go_at_call 15; refine (told_any _ _ _).mono ?_; rintro e w' ⟨rfl, rfl⟩)
  go_ret2
  exact ⟨rfl, rfl⟩

theorem mul_0a (b : Int) (w : World) :
    Calls Tryd.prog 12 #[.int .i64 0, .int .i64 b] w fun e w' => e = .returned (.tuple #[.int .i64 0, .int .i64 0]) ∧ w = w' := by
  go_enter Tryd.func12, Tryd.ntmps12
  go_wp2
  go_ret2
  exact ⟨rfl, rfl⟩
theorem mul_0b (a : Int) (w : World) (h0 : (a == 0) = false) :
    Calls Tryd.prog 12 #[.int .i64 a, .int .i64 0] w fun e w' => e = .returned (.tuple #[.int .i64 0, .int .i64 0]) ∧ w = w' := by
  go_enter Tryd.func12, Tryd.ntmps12
  go_wp2
  go_ret2
  exact ⟨rfl, rfl⟩
theorem mul_ab (a b : Int) (w : World) (h0 : (a == 0) = false) (h1 : (b == 0) = false) :
    Calls Tryd.prog 12 #[.int .i64 a, .int .i64 b] w fun e w' => e = .returned (.tuple #[.int .i64 (toldV (wrap64 (a * b)) (mulB a b)), .int .i64 (toldE (mulB a b))]) ∧ w = w' := by
  have hB : mulB a b = ((wrap64 ((wrap64 (a * b)).tdiv b) == a) && !(a == -1 && b == -9223372036854775808) && !(b == -1 && a == -9223372036854775808)) := rfl
  have hb0 : ¬ b = 0 := beq_eq_false_iff_ne.1 h1
  cases p1 : (wrap64 ((wrap64 (a * b)).tdiv b) == a)
  · rw [show mulB a b = false from by rw [hB, p1]; rfl]
    clear hB
    go_enter Tryd.func12, Tryd.ntmps12
    go_wp2_with (go_at_call 15; refine (told_any _ _ _).mono ?_; rintro e w' ⟨rfl, rfl⟩)
    go_ret2
    exact ⟨rfl, rfl⟩
  · cases p2 : (a == -1)
    · cases p4 : (b == -1)
      · rw [show mulB a b = true from by rw [hB, p1, p2, p4]; rfl]
        clear hB
        go_enter Tryd.func12, Tryd.ntmps12
        go_wp2_with (go_at_call 15; refine (told_any _ _ _).mono ?_; rintro e w' ⟨rfl, rfl⟩)
        go_ret2
        exact ⟨rfl, rfl⟩
      · cases p5 : (a == -9223372036854775808)
        · rw [show mulB a b = true from by rw [hB, p1, p2, p4, p5]; rfl]
          clear hB
          go_enter Tryd.func12, Tryd.ntmps12
          go_wp2_with (go_at_call 15; refine (told_any _ _ _).mono ?_; rintro e w' ⟨rfl, rfl⟩)
          go_ret2
          exact ⟨rfl, rfl⟩
        · rw [show mulB a b = false from by rw [hB, p1, p2, p4, p5]; rfl]
          clear hB
          go_enter Tryd.func12, Tryd.ntmps12
          go_wp2_with (go_at_call 15; refine (told_any _ _ _).mono ?_; rintro e w' ⟨rfl, rfl⟩)
          go_ret2
          exact ⟨rfl, rfl⟩
    · cases p3 : (b == -9223372036854775808)
      · cases p4 : (b == -1)
        · rw [show mulB a b = true from by rw [hB, p1, p2, p3, p4]; rfl]
          clear hB
          go_enter Tryd.func12, Tryd.ntmps12
          go_wp2_with (go_at_call 15; refine (told_any _ _ _).mono ?_; rintro e w' ⟨rfl, rfl⟩)
          go_ret2
          exact ⟨rfl, rfl⟩
        · obtain rfl : a = -1 := by simpa using p2
          obtain rfl : b = -1 := by simpa using p4
          clear hB p1 p2 p3 p4 h0 h1 hb0
          go_enter Tryd.func12, Tryd.ntmps12
          go_wp2_with (go_at_call 15; refine (told_any _ _ _).mono ?_; rintro e w' ⟨rfl, rfl⟩)
          go_ret2
          exact ⟨by kernel_rfl, rfl⟩
      · obtain rfl : a = -1 := by simpa using p2
        obtain rfl : b = -9223372036854775808 := by simpa using p3
        exact absurd p1 (by decide +kernel)

theorem mul_any (a b : Int) (w : World) (ha : R a) (hb : R b) :
    Calls Tryd.prog 12 #[.int .i64 a, .int .i64 b] w fun e w' => e = .returned (.tuple #[.int .i64 (val (a * b)), .int .i64 (err (a * b))]) ∧ w = w' := by
  by_cases h0 : a = 0
  · subst h0
    rw [show val (0 * b) = 0 from by rw [Int.zero_mul]; rfl, show err (0 * b) = 0 from by rw [Int.zero_mul]; rfl]
    exact mul_0a b w
  · by_cases h1 : b = 0
    · subst h1
      rw [show val (a * 0) = 0 from by rw [Int.mul_zero]; rfl, show err (a * 0) = 0 from by rw [Int.mul_zero]; rfl]
      exact mul_0b a w (beq_eq_false_iff_ne.2 h0)
    · have H := mul_ok a b ha hb h1
      rw [← told_val H, ← told_err H]
      exact mul_ab a b w (beq_eq_false_iff_ne.2 h0) (beq_eq_false_iff_ne.2 h1)

theorem div_any (a b : Int) (w : World) (ha : R a) (hb : R b) :
    Calls Tryd.prog 10 #[.int .i64 a, .int .i64 b] w fun e w' => e = .returned (.tuple #[.int .i64 (divV a b), .int .i64 (divE a b)]) ∧ w = w' := by
  by_cases h1 : b = 0
  · subst h1
    go_enter Tryd.func10, Tryd.ntmps10
    go_wp2
    go_ret2
    exact ⟨rfl, rfl⟩
  · have p1 : (b == 0) = false := beq_eq_false_iff_ne.2 h1
    by_cases hm : b = -1 ∧ a = -9223372036854775808
    · obtain ⟨rfl, rfl⟩ := hm
      go_enter Tryd.func10, Tryd.ntmps10
      go_wp2_with (go_at_call 15; refine (told_any _ _ _).mono ?_; rintro e w' ⟨rfl, rfl⟩)
      go_ret2
      exact ⟨rfl, rfl⟩
    · have hf := (div_fits a b ha hb h1).2 hm
      have H : true = fits (a.tdiv b) := hf.symm
      rw [show divV a b = toldV (wrap64 (a.tdiv b)) true from by rw [told_val H, divV, if_neg h1], show divE a b = toldE true from by rw [told_err H, divE, if_neg h1]]
      clear hf H
      by_cases p2 : a = -9223372036854775808
      · have p3 : (b != -1) = true := by
          rw [bne_iff_ne]
          exact fun h => hm ⟨h, p2⟩
        have p4 : (a != -9223372036854775808) = false := by simp [p2]
        clear hm ha hb p2
        go_enter Tryd.func10, Tryd.ntmps10
        go_wp2_with (go_at_call 15; refine (told_any _ _ _).mono ?_; rintro e w' ⟨rfl, rfl⟩)
        go_ret2
        exact ⟨rfl, rfl⟩
      · have p3 : (a != -9223372036854775808) = true := bne_iff_ne.2 p2
        clear hm p2 ha hb
        go_enter Tryd.func10, Tryd.ntmps10
        go_wp2_with (go_at_call 15; refine (told_any _ _ _).mono ?_; rintro e w' ⟨rfl, rfl⟩)
        go_ret2
        exact ⟨rfl, rfl⟩

theorem mod_any (a b : Int) (w : World) (ha : R a) (hb : R b) :
    Calls Tryd.prog 11 #[.int .i64 a, .int .i64 b] w fun e w' => e = .returned (.tuple #[.int .i64 (modV a b), .int .i64 (modE b)]) ∧ w = w' := by
  by_cases h1 : b = 0
  · subst h1
    go_enter Tryd.func11, Tryd.ntmps11
    go_wp2
    go_ret2
    exact ⟨rfl, rfl⟩
  · have p1 : (b == 0) = false := beq_eq_false_iff_ne.2 h1
    by_cases h2 : b = -1
    · subst h2
      rw [show modV a (-1) = 0 from by rw [modV, if_neg h1]; simp [Int.tmod_neg]]
      go_enter Tryd.func11, Tryd.ntmps11
      go_wp2
      go_ret2
      exact ⟨rfl, rfl⟩
    · have p2 : (b == -1) = false := beq_eq_false_iff_ne.2 h2
      rw [show modV a b = a.tmod b from by rw [modV, if_neg h1], show modE b = 0 from by rw [modE, if_neg h1]]
      clear h2 ha hb
      go_enter Tryd.func11, Tryd.ntmps11
      go_wp2
      go_ret2
      exact ⟨rfl, rfl⟩

theorem add_fit (a b : Int) (w : World) (ha : R a) (hb : R b) (h : fits (a + b) = true) :
    Calls Tryd.prog 9 #[.int .i64 a, .int .i64 b] w fun e w' => e = .returned (.tuple #[.int .i64 (a + b), .int .i64 0]) ∧ w = w' := by
  have := add_any a b w ha hb
  rwa [show val (a + b) = a + b from by simp [val, h], show err (a + b) = 0 from by simp [err, h]] at this
theorem add_over (a b : Int) (w : World) (ha : R a) (hb : R b) (h : fits (a + b) = false) :
    Calls Tryd.prog 9 #[.int .i64 a, .int .i64 b] w fun e w' => e = .returned (.tuple #[.int .i64 0, .int .i64 9]) ∧ w = w' := by
  have := add_any a b w ha hb
  rwa [show val (a + b) = 0 from by simp [val, h], show err (a + b) = 9 from by simp [err, h]] at this

theorem mul_fit (a b : Int) (w : World) (ha : R a) (hb : R b) (h : fits (a * b) = true) :
    Calls Tryd.prog 12 #[.int .i64 a, .int .i64 b] w fun e w' => e = .returned (.tuple #[.int .i64 (a * b), .int .i64 0]) ∧ w = w' := by
  have := mul_any a b w ha hb
  rwa [show val (a * b) = a * b from by simp [val, h], show err (a * b) = 0 from by simp [err, h]] at this
theorem mul_over (a b : Int) (w : World) (ha : R a) (hb : R b) (h : fits (a * b) = false) :
    Calls Tryd.prog 12 #[.int .i64 a, .int .i64 b] w fun e w' => e = .returned (.tuple #[.int .i64 0, .int .i64 9]) ∧ w = w' := by
  have := mul_any a b w ha hb
  rwa [show val (a * b) = 0 from by simp [val, h], show err (a * b) = 9 from by simp [err, h]] at this

theorem add_zero (a : Int) (w : World) (ha : R a) :
    Calls Tryd.prog 9 #[.int .i64 a, .int .i64 0] w fun e w' => e = .returned (.tuple #[.int .i64 a, .int .i64 0]) ∧ w = w' := by
  have := add_fit a 0 w ha ⟨by omega, by omega⟩ (by rw [Int.add_zero]; exact fits_of ha)
  rwa [Int.add_zero] at this
theorem div_zero (a : Int) (w : World) (ha : R a) :
    Calls Tryd.prog 10 #[.int .i64 a, .int .i64 0] w fun e w' => e = .returned (.tuple #[.int .i64 0, .int .i64 10]) ∧ w = w' := by
  have := div_any a 0 w ha ⟨by omega, by omega⟩
  rwa [show divV a 0 = 0 from rfl, show divE a 0 = 10 from rfl] at this
theorem div_over (w : World) :
    Calls Tryd.prog 10 #[.int .i64 (-9223372036854775808), .int .i64 (-1)] w fun e w' => e = .returned (.tuple #[.int .i64 0, .int .i64 9]) ∧ w = w' := by
  have := div_any (-9223372036854775808) (-1) w ⟨by omega, by omega⟩ ⟨by omega, by omega⟩
  rwa [show divV (-9223372036854775808) (-1) = 0 from by decide +kernel, show divE (-9223372036854775808) (-1) = 9 from by decide +kernel] at this
theorem div_fit (a b : Int) (w : World) (ha : R a) (hb : R b) (h0 : b ≠ 0) (h : fits (a.tdiv b) = true) :
    Calls Tryd.prog 10 #[.int .i64 a, .int .i64 b] w fun e w' => e = .returned (.tuple #[.int .i64 (a.tdiv b), .int .i64 0]) ∧ w = w' := by
  have := div_any a b w ha hb
  rwa [show divV a b = a.tdiv b from by simp [divV, val, h, h0], show divE a b = 0 from by simp [divE, err, h, h0]] at this
theorem mod_fit (a b : Int) (w : World) (ha : R a) (hb : R b) (h0 : b ≠ 0) :
    Calls Tryd.prog 11 #[.int .i64 a, .int .i64 b] w fun e w' => e = .returned (.tuple #[.int .i64 (a.tmod b), .int .i64 0]) ∧ w = w' := by
  have := mod_any a b w ha hb
  rwa [show modV a b = a.tmod b from by simp [modV, h0], show modE b = 0 from by simp [modE, h0]] at this

end Go.Proofs.YtgfhkfmankcheaaDoor
