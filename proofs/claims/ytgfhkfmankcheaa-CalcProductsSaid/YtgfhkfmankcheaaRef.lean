/-
  Contracts of the reference's arithmetic (lapidaryref01): size, sign, answer, Add, Sub, Neg, Mul, Div, Mod: each hands back the number, or 0 and the error. Conditions: the arguments are int64.
-/
import Derived.Test.YtgfhkfmankcheaaAwake
import Derived.Test.YtgfhkfmankcheaaShelf
namespace Go.Proofs.Ytgfhkfmankcheaa
open Go.RowKit Go.Shelf
set_option linter.unusedVariables false
set_option linter.unusedSimpArgs false

theorem ret_int {k : IntKind} {a b : Int} (h : a = b) : Ending.returned (.int k a) = .returned (.int k b) := by rw [h]
theorem ret_ib {k : IntKind} {a b : Int} {x y : Bool} (h : a = b) (h' : x = y) : Ending.returned (.tuple #[.int k a, .bool x]) = .returned (.tuple #[.int k b, .bool y]) := by rw [h, h']
theorem add64 (x y : Int) (hx : 0 ≤ x) (hy : 0 ≤ y) (h : x + y ≤ 18446744073709551615) (w : World) : (callFunc 23 #[.int .u64 x, .int .u64 y, .int .u64 0]).run Try.prog w = .ok (.value (.tuple #[.int .u64 (x + y), .int .u64 0])) w := by
  obtain ⟨x, rfl⟩ := Int.eq_ofNat_of_zero_le hx
  obtain ⟨y, rfl⟩ := Int.eq_ofNat_of_zero_le hy
  have e1 : (((x + y + 0) % 18446744073709551616 : Nat) : Int) = (x : Int) + y := by omega
  have e2 : (((x + y + 0) / 18446744073709551616 : Nat) : Int) = 0 := by omega
  have := Any7.bits_Add64 Try.lays25 x y 0 (by omega) w
  rw [e1, e2] at this
  exact this
theorem add64_top (w : World) : (callFunc 23 #[.int .u64 9223372036854775808, .int .u64 9223372036854775808, .int .u64 0]).run Try.prog w = .ok (.value (.tuple #[.int .u64 0, .int .u64 1])) w :=
  Any7.bits_Add64 Try.lays25 9223372036854775808 9223372036854775808 0 (by omega) w
theorem mul64 (x y : Int) (hx : 0 ≤ x) (hy : 0 ≤ y) (hx1 : x ≤ 18446744073709551615) (hy1 : y ≤ 18446744073709551615) (w : World) :
    Calls Try.prog 27 #[.int .u64 x, .int .u64 y] w fun e w' => e = .returned (.tuple #[.int .u64 (x * y / 18446744073709551616), .int .u64 (x * y % 18446744073709551616)]) ∧ w = w' := by
  obtain ⟨x, rfl⟩ := Int.eq_ofNat_of_zero_le hx
  obtain ⟨y, rfl⟩ := Int.eq_ofNat_of_zero_le hy
  refine (Try.bits_Mul64 x y (by omega) (by omega) w).mono ?_
  rintro e w' ⟨rfl, rfl⟩
  exact ⟨rfl, rfl⟩

theorem size_pos (n : Int) (w : World) (h0 : 0 ≤ n) (h1 : n ≤ 9223372036854775807) :
    Calls Try.prog 24 #[.int .i64 n] w fun e w' => e = .returned (.int .u64 n) ∧ w = w' := by
  go_enter Try.func24, Try.ntmps24
  go_wp2_with fail
  go_ret
  exact ⟨rfl, rfl⟩
theorem size_neg (n : Int) (w : World) (h0 : n < 0) (h1 : -9223372036854775808 ≤ n) :
    Calls Try.prog 24 #[.int .i64 n] w fun e w' => e = .returned (.int .u64 (-n)) ∧ w = w' := by
  go_enter Try.func24, Try.ntmps24
  go_wp2_with fail
  go_ret
  exact ⟨ret_int (by omega), rfl⟩
theorem sign_pf (s : Int) (w : World) (h0 : 0 ≤ s) (h1 : s ≤ 9223372036854775807) :
    Calls Try.prog 25 #[.int .u64 s, .bool false] w fun e w' => e = .returned (.tuple #[.int .i64 s, .bool true]) ∧ w = w' := by
  go_enter Try.func25, Try.ntmps25
  go_wp2_with fail
  go_ret2
  exact ⟨rfl, rfl⟩
theorem sign_pn (s : Int) (w : World) (h0 : 9223372036854775807 < s) (h1 : s ≤ 18446744073709551615) :
    Calls Try.prog 25 #[.int .u64 s, .bool false] w fun e w' => e = .returned (.tuple #[.int .i64 0, .bool false]) ∧ w = w' := by
  go_enter Try.func25, Try.ntmps25
  go_wp2_with fail
  go_ret2
  exact ⟨rfl, rfl⟩
theorem sign_nl (w : World) :
    Calls Try.prog 25 #[.int .u64 9223372036854775808, .bool true] w fun e w' => e = .returned (.tuple #[.int .i64 (-9223372036854775808), .bool true]) ∧ w = w' := by
  go_enter Try.func25, Try.ntmps25
  go_wp2_with fail
  go_ret2
  exact ⟨rfl, rfl⟩
theorem sign_ns (s : Int) (w : World) (h0 : 0 ≤ s) (h1 : s ≤ 9223372036854775807) :
    Calls Try.prog 25 #[.int .u64 s, .bool true] w fun e w' => e = .returned (.tuple #[.int .i64 (-s), .bool true]) ∧ w = w' := by
  have h2 : ((s == 9223372036854775808) = false) := beq_eq_false_iff_ne.2 (by omega)
  go_enter Try.func25, Try.ntmps25
  go_wp2_with fail
  go_ret2
  exact ⟨rfl, rfl⟩
theorem sign_nf (s : Int) (w : World) (h0 : 0 ≤ s) (h1 : s ≤ 9223372036854775808) :
    Calls Try.prog 25 #[.int .u64 s, .bool true] w fun e w' => e = .returned (.tuple #[.int .i64 (-s), .bool true]) ∧ w = w' := by
  by_cases h : s = 9223372036854775808
  · subst h
    exact sign_nl w
  · exact sign_ns s w h0 (by omega)
theorem sign_nn (s : Int) (w : World) (h0 : 9223372036854775808 < s) (h1 : s ≤ 18446744073709551615) :
    Calls Try.prog 25 #[.int .u64 s, .bool true] w fun e w' => e = .returned (.tuple #[.int .i64 0, .bool false]) ∧ w = w' := by
  go_enter Try.func25, Try.ntmps25
  go_wp2_with fail
  go_ret2
  exact ⟨rfl, rfl⟩
theorem answer_t (n : Int) (w : World) :
    Calls Try.prog 26 #[.int .i64 n, .bool true] w fun e w' => e = .returned (.tuple #[.int .i64 n, .int .i64 0]) ∧ w = w' := by
  go_enter Try.func26, Try.ntmps26
  go_wp2_with fail
  go_ret2
  exact ⟨rfl, rfl⟩
theorem answer_f (n : Int) (w : World) :
    Calls Try.prog 26 #[.int .i64 n, .bool false] w fun e w' => e = .returned (.tuple #[.int .i64 0, .int .i64 9]) ∧ w = w' := by
  go_enter Try.func26, Try.ntmps26
  go_wp2_with fail
  go_ret2
  exact ⟨rfl, rfl⟩
theorem add1 (a b : Int) (w : World) (ha : 0 ≤ a) (la : a ≤ 9223372036854775807) (hb : 0 ≤ b) (lb : b ≤ 9223372036854775807) (h : a + b ≤ 9223372036854775807) :
    Calls Try.prog 15 #[.int .i64 a, .int .i64 b] w fun e w' => e = .returned (.tuple #[.int .i64 (a + b), .int .i64 0]) ∧ w = w' := by
  have ta : decide (a < 0) = false := by simp; omega
  have tc : decide (0 ≤ a) = true := by simp; omega
  have tb : decide (b < 0) = false := by simp; omega
  go_enter Try.func15, Try.ntmps15
  go_wp2_with fail
  refine (size_pos a _ ha la).mono ?_
  rintro e w' ⟨rfl, rfl⟩
  go_wp2_with (fail)
  refine (size_pos b _ hb lb).mono ?_
  rintro e w' ⟨rfl, rfl⟩
  go_wp2_with (simp only [add64 a b (by omega) (by omega) (by omega)])
  refine (sign_pf _ _ (by omega) (by omega)).mono ?_
  rintro e w' ⟨rfl, rfl⟩
  go_wp2_with fail
  refine (answer_t _ _).mono ?_
  rintro e w' ⟨rfl, rfl⟩
  go_wp2_with fail
  go_ret2
  exact ⟨ret_ii (by omega) rfl, rfl⟩
theorem add2 (a b : Int) (w : World) (ha : 0 ≤ a) (la : a ≤ 9223372036854775807) (hb : 0 ≤ b) (lb : b ≤ 9223372036854775807) (h : 9223372036854775807 < a + b) :
    Calls Try.prog 15 #[.int .i64 a, .int .i64 b] w fun e w' => e = .returned (.tuple #[.int .i64 (0), .int .i64 9]) ∧ w = w' := by
  have ta : decide (a < 0) = false := by simp; omega
  have tc : decide (0 ≤ a) = true := by simp; omega
  have tb : decide (b < 0) = false := by simp; omega
  go_enter Try.func15, Try.ntmps15
  go_wp2_with fail
  refine (size_pos a _ ha la).mono ?_
  rintro e w' ⟨rfl, rfl⟩
  go_wp2_with (fail)
  refine (size_pos b _ hb lb).mono ?_
  rintro e w' ⟨rfl, rfl⟩
  go_wp2_with (simp only [add64 a b (by omega) (by omega) (by omega)])
  refine (sign_pn _ _ (by omega) (by omega)).mono ?_
  rintro e w' ⟨rfl, rfl⟩
  go_wp2_with fail
  refine (answer_f _ _).mono ?_
  rintro e w' ⟨rfl, rfl⟩
  go_wp2_with fail
  go_ret2
  exact ⟨ret_ii (by omega) rfl, rfl⟩
theorem add3 (a b : Int) (w : World) (ha : a < 0) (la : -9223372036854775808 ≤ a) (hb : b < 0) (lb : -9223372036854775808 ≤ b) (h : -9223372036854775808 ≤ a + b) :
    Calls Try.prog 15 #[.int .i64 a, .int .i64 b] w fun e w' => e = .returned (.tuple #[.int .i64 (a + b), .int .i64 0]) ∧ w = w' := by
  have ta : decide (a < 0) = true := by simp; omega
  have tc : decide (0 ≤ a) = false := by simp; omega
  have tb : decide (b < 0) = true := by simp; omega
  go_enter Try.func15, Try.ntmps15
  go_wp2_with fail
  refine (size_neg a _ ha la).mono ?_
  rintro e w' ⟨rfl, rfl⟩
  go_wp2_with (fail)
  refine (size_neg b _ hb lb).mono ?_
  rintro e w' ⟨rfl, rfl⟩
  go_wp2_with (simp only [add64 (-a) (-b) (by omega) (by omega) (by omega)])
  refine (sign_nf _ _ (by omega) (by omega)).mono ?_
  rintro e w' ⟨rfl, rfl⟩
  go_wp2_with fail
  refine (answer_t _ _).mono ?_
  rintro e w' ⟨rfl, rfl⟩
  go_wp2_with fail
  go_ret2
  exact ⟨ret_ii (by omega) rfl, rfl⟩
theorem add4 (a b : Int) (w : World) (ha : a < 0) (la : -9223372036854775808 ≤ a) (hb : b < 0) (lb : -9223372036854775808 ≤ b) (h : a + b < -9223372036854775808) (h2 : -18446744073709551615 ≤ a + b) :
    Calls Try.prog 15 #[.int .i64 a, .int .i64 b] w fun e w' => e = .returned (.tuple #[.int .i64 (0), .int .i64 9]) ∧ w = w' := by
  have ta : decide (a < 0) = true := by simp; omega
  have tc : decide (0 ≤ a) = false := by simp; omega
  have tb : decide (b < 0) = true := by simp; omega
  go_enter Try.func15, Try.ntmps15
  go_wp2_with fail
  refine (size_neg a _ ha la).mono ?_
  rintro e w' ⟨rfl, rfl⟩
  go_wp2_with (fail)
  refine (size_neg b _ hb lb).mono ?_
  rintro e w' ⟨rfl, rfl⟩
  go_wp2_with (simp only [add64 (-a) (-b) (by omega) (by omega) (by omega)])
  refine (sign_nn _ _ (by omega) (by omega)).mono ?_
  rintro e w' ⟨rfl, rfl⟩
  go_wp2_with fail
  refine (answer_f _ _).mono ?_
  rintro e w' ⟨rfl, rfl⟩
  go_wp2_with fail
  go_ret2
  exact ⟨ret_ii (by omega) rfl, rfl⟩
theorem add6 (a b : Int) (w : World) (ha : 0 ≤ a) (la : a ≤ 9223372036854775807) (hb : b < 0) (lb : -9223372036854775808 ≤ b) (h : -b ≤ a) :
    Calls Try.prog 15 #[.int .i64 a, .int .i64 b] w fun e w' => e = .returned (.tuple #[.int .i64 (a + b), .int .i64 0]) ∧ w = w' := by
  have ta : decide (a < 0) = false := by simp; omega
  have tc : decide (0 ≤ a) = true := by simp; omega
  have tb : decide (b < 0) = true := by simp; omega
  go_enter Try.func15, Try.ntmps15
  go_wp2_with fail
  refine (size_pos a _ ha la).mono ?_
  rintro e w' ⟨rfl, rfl⟩
  go_wp2_with (fail)
  refine (size_neg b _ hb lb).mono ?_
  rintro e w' ⟨rfl, rfl⟩
  go_wp2_with (fail)
  refine (size_pos a _ ha la).mono ?_
  rintro e w' ⟨rfl, rfl⟩
  go_wp2_with (fail)
  refine (size_neg b _ hb lb).mono ?_
  rintro e w' ⟨rfl, rfl⟩
  go_wp2_with (fail)
  refine (sign_pf _ _ (by omega) (by omega)).mono ?_
  rintro e w' ⟨rfl, rfl⟩
  go_wp2_with fail
  refine (answer_t _ _).mono ?_
  rintro e w' ⟨rfl, rfl⟩
  go_wp2_with fail
  go_ret2
  exact ⟨ret_ii (by omega) rfl, rfl⟩
theorem add7 (a b : Int) (w : World) (ha : 0 ≤ a) (la : a ≤ 9223372036854775807) (hb : b < 0) (lb : -9223372036854775808 ≤ b) (h : a < -b) :
    Calls Try.prog 15 #[.int .i64 a, .int .i64 b] w fun e w' => e = .returned (.tuple #[.int .i64 (a + b), .int .i64 0]) ∧ w = w' := by
  have ta : decide (a < 0) = false := by simp; omega
  have tc : decide (0 ≤ a) = true := by simp; omega
  have tb : decide (b < 0) = true := by simp; omega
  go_enter Try.func15, Try.ntmps15
  go_wp2_with fail
  refine (size_pos a _ ha la).mono ?_
  rintro e w' ⟨rfl, rfl⟩
  go_wp2_with (fail)
  refine (size_neg b _ hb lb).mono ?_
  rintro e w' ⟨rfl, rfl⟩
  go_wp2_with (fail)
  refine (size_neg b _ hb lb).mono ?_
  rintro e w' ⟨rfl, rfl⟩
  go_wp2_with (fail)
  refine (size_pos a _ ha la).mono ?_
  rintro e w' ⟨rfl, rfl⟩
  go_wp2_with (fail)
  refine (sign_nf _ _ (by omega) (by omega)).mono ?_
  rintro e w' ⟨rfl, rfl⟩
  go_wp2_with fail
  refine (answer_t _ _).mono ?_
  rintro e w' ⟨rfl, rfl⟩
  go_wp2_with fail
  go_ret2
  exact ⟨ret_ii (by omega) rfl, rfl⟩
theorem add8 (a b : Int) (w : World) (ha : a < 0) (la : -9223372036854775808 ≤ a) (hb : 0 ≤ b) (lb : b ≤ 9223372036854775807) (h : b ≤ -a) :
    Calls Try.prog 15 #[.int .i64 a, .int .i64 b] w fun e w' => e = .returned (.tuple #[.int .i64 (a + b), .int .i64 0]) ∧ w = w' := by
  have ta : decide (a < 0) = true := by simp; omega
  have tc : decide (0 ≤ a) = false := by simp; omega
  have tb : decide (b < 0) = false := by simp; omega
  go_enter Try.func15, Try.ntmps15
  go_wp2_with fail
  refine (size_neg a _ ha la).mono ?_
  rintro e w' ⟨rfl, rfl⟩
  go_wp2_with (fail)
  refine (size_pos b _ hb lb).mono ?_
  rintro e w' ⟨rfl, rfl⟩
  go_wp2_with (fail)
  refine (size_neg a _ ha la).mono ?_
  rintro e w' ⟨rfl, rfl⟩
  go_wp2_with (fail)
  refine (size_pos b _ hb lb).mono ?_
  rintro e w' ⟨rfl, rfl⟩
  go_wp2_with (fail)
  refine (sign_nf _ _ (by omega) (by omega)).mono ?_
  rintro e w' ⟨rfl, rfl⟩
  go_wp2_with fail
  refine (answer_t _ _).mono ?_
  rintro e w' ⟨rfl, rfl⟩
  go_wp2_with fail
  go_ret2
  exact ⟨ret_ii (by omega) rfl, rfl⟩
theorem add9 (a b : Int) (w : World) (ha : a < 0) (la : -9223372036854775808 ≤ a) (hb : 0 ≤ b) (lb : b ≤ 9223372036854775807) (h : -a < b) :
    Calls Try.prog 15 #[.int .i64 a, .int .i64 b] w fun e w' => e = .returned (.tuple #[.int .i64 (a + b), .int .i64 0]) ∧ w = w' := by
  have ta : decide (a < 0) = true := by simp; omega
  have tc : decide (0 ≤ a) = false := by simp; omega
  have tb : decide (b < 0) = false := by simp; omega
  go_enter Try.func15, Try.ntmps15
  go_wp2_with fail
  refine (size_neg a _ ha la).mono ?_
  rintro e w' ⟨rfl, rfl⟩
  go_wp2_with (fail)
  refine (size_pos b _ hb lb).mono ?_
  rintro e w' ⟨rfl, rfl⟩
  go_wp2_with (fail)
  refine (size_pos b _ hb lb).mono ?_
  rintro e w' ⟨rfl, rfl⟩
  go_wp2_with (fail)
  refine (size_neg a _ ha la).mono ?_
  rintro e w' ⟨rfl, rfl⟩
  go_wp2_with (fail)
  refine (sign_pf _ _ (by omega) (by omega)).mono ?_
  rintro e w' ⟨rfl, rfl⟩
  go_wp2_with fail
  refine (answer_t _ _).mono ?_
  rintro e w' ⟨rfl, rfl⟩
  go_wp2_with fail
  go_ret2
  exact ⟨ret_ii (by omega) rfl, rfl⟩
theorem sub1 (a b : Int) (w : World) (ha : 0 ≤ a) (la : a ≤ 9223372036854775807) (hb : b < 0) (lb : -9223372036854775808 ≤ b) (h : a - b ≤ 9223372036854775807) :
    Calls Try.prog 16 #[.int .i64 a, .int .i64 b] w fun e w' => e = .returned (.tuple #[.int .i64 (a - b), .int .i64 0]) ∧ w = w' := by
  have ta : decide (a < 0) = false := by simp; omega
  have tc : decide (0 ≤ a) = true := by simp; omega
  have tb : decide (b < 0) = true := by simp; omega
  go_enter Try.func16, Try.ntmps16
  go_wp2_with fail
  refine (size_pos a _ ha la).mono ?_
  rintro e w' ⟨rfl, rfl⟩
  go_wp2_with (fail)
  refine (size_neg b _ hb lb).mono ?_
  rintro e w' ⟨rfl, rfl⟩
  go_wp2_with (simp only [add64 a (-b) (by omega) (by omega) (by omega)])
  refine (sign_pf _ _ (by omega) (by omega)).mono ?_
  rintro e w' ⟨rfl, rfl⟩
  go_wp2_with fail
  refine (answer_t _ _).mono ?_
  rintro e w' ⟨rfl, rfl⟩
  go_wp2_with fail
  go_ret2
  exact ⟨ret_ii (by omega) rfl, rfl⟩
theorem sub2 (a b : Int) (w : World) (ha : 0 ≤ a) (la : a ≤ 9223372036854775807) (hb : b < 0) (lb : -9223372036854775808 ≤ b) (h : 9223372036854775807 < a - b) :
    Calls Try.prog 16 #[.int .i64 a, .int .i64 b] w fun e w' => e = .returned (.tuple #[.int .i64 (0), .int .i64 9]) ∧ w = w' := by
  have ta : decide (a < 0) = false := by simp; omega
  have tc : decide (0 ≤ a) = true := by simp; omega
  have tb : decide (b < 0) = true := by simp; omega
  go_enter Try.func16, Try.ntmps16
  go_wp2_with fail
  refine (size_pos a _ ha la).mono ?_
  rintro e w' ⟨rfl, rfl⟩
  go_wp2_with (fail)
  refine (size_neg b _ hb lb).mono ?_
  rintro e w' ⟨rfl, rfl⟩
  go_wp2_with (simp only [add64 a (-b) (by omega) (by omega) (by omega)])
  refine (sign_pn _ _ (by omega) (by omega)).mono ?_
  rintro e w' ⟨rfl, rfl⟩
  go_wp2_with fail
  refine (answer_f _ _).mono ?_
  rintro e w' ⟨rfl, rfl⟩
  go_wp2_with fail
  go_ret2
  exact ⟨ret_ii (by omega) rfl, rfl⟩
theorem sub3 (a b : Int) (w : World) (ha : a < 0) (la : -9223372036854775808 ≤ a) (hb : 0 ≤ b) (lb : b ≤ 9223372036854775807) (h : -9223372036854775808 ≤ a - b) :
    Calls Try.prog 16 #[.int .i64 a, .int .i64 b] w fun e w' => e = .returned (.tuple #[.int .i64 (a - b), .int .i64 0]) ∧ w = w' := by
  have ta : decide (a < 0) = true := by simp; omega
  have tc : decide (0 ≤ a) = false := by simp; omega
  have tb : decide (b < 0) = false := by simp; omega
  go_enter Try.func16, Try.ntmps16
  go_wp2_with fail
  refine (size_neg a _ ha la).mono ?_
  rintro e w' ⟨rfl, rfl⟩
  go_wp2_with (fail)
  refine (size_pos b _ hb lb).mono ?_
  rintro e w' ⟨rfl, rfl⟩
  go_wp2_with (simp only [add64 (-a) b (by omega) (by omega) (by omega)])
  refine (sign_nf _ _ (by omega) (by omega)).mono ?_
  rintro e w' ⟨rfl, rfl⟩
  go_wp2_with fail
  refine (answer_t _ _).mono ?_
  rintro e w' ⟨rfl, rfl⟩
  go_wp2_with fail
  go_ret2
  exact ⟨ret_ii (by omega) rfl, rfl⟩
theorem sub4 (a b : Int) (w : World) (ha : a < 0) (la : -9223372036854775808 ≤ a) (hb : 0 ≤ b) (lb : b ≤ 9223372036854775807) (h : a - b < -9223372036854775808) :
    Calls Try.prog 16 #[.int .i64 a, .int .i64 b] w fun e w' => e = .returned (.tuple #[.int .i64 (0), .int .i64 9]) ∧ w = w' := by
  have ta : decide (a < 0) = true := by simp; omega
  have tc : decide (0 ≤ a) = false := by simp; omega
  have tb : decide (b < 0) = false := by simp; omega
  go_enter Try.func16, Try.ntmps16
  go_wp2_with fail
  refine (size_neg a _ ha la).mono ?_
  rintro e w' ⟨rfl, rfl⟩
  go_wp2_with (fail)
  refine (size_pos b _ hb lb).mono ?_
  rintro e w' ⟨rfl, rfl⟩
  go_wp2_with (simp only [add64 (-a) b (by omega) (by omega) (by omega)])
  refine (sign_nn _ _ (by omega) (by omega)).mono ?_
  rintro e w' ⟨rfl, rfl⟩
  go_wp2_with fail
  refine (answer_f _ _).mono ?_
  rintro e w' ⟨rfl, rfl⟩
  go_wp2_with fail
  go_ret2
  exact ⟨ret_ii (by omega) rfl, rfl⟩
theorem sub5 (a b : Int) (w : World) (ha : 0 ≤ a) (la : a ≤ 9223372036854775807) (hb : 0 ≤ b) (lb : b ≤ 9223372036854775807) (h : b ≤ a) :
    Calls Try.prog 16 #[.int .i64 a, .int .i64 b] w fun e w' => e = .returned (.tuple #[.int .i64 (a - b), .int .i64 0]) ∧ w = w' := by
  have ta : decide (a < 0) = false := by simp; omega
  have tc : decide (0 ≤ a) = true := by simp; omega
  have tb : decide (b < 0) = false := by simp; omega
  go_enter Try.func16, Try.ntmps16
  go_wp2_with fail
  refine (size_pos a _ ha la).mono ?_
  rintro e w' ⟨rfl, rfl⟩
  go_wp2_with (fail)
  refine (size_pos b _ hb lb).mono ?_
  rintro e w' ⟨rfl, rfl⟩
  go_wp2_with (fail)
  refine (size_pos a _ ha la).mono ?_
  rintro e w' ⟨rfl, rfl⟩
  go_wp2_with (fail)
  refine (size_pos b _ hb lb).mono ?_
  rintro e w' ⟨rfl, rfl⟩
  go_wp2_with (fail)
  refine (sign_pf _ _ (by omega) (by omega)).mono ?_
  rintro e w' ⟨rfl, rfl⟩
  go_wp2_with fail
  refine (answer_t _ _).mono ?_
  rintro e w' ⟨rfl, rfl⟩
  go_wp2_with fail
  go_ret2
  exact ⟨ret_ii (by omega) rfl, rfl⟩
theorem sub6 (a b : Int) (w : World) (ha : 0 ≤ a) (la : a ≤ 9223372036854775807) (hb : 0 ≤ b) (lb : b ≤ 9223372036854775807) (h : a < b) :
    Calls Try.prog 16 #[.int .i64 a, .int .i64 b] w fun e w' => e = .returned (.tuple #[.int .i64 (a - b), .int .i64 0]) ∧ w = w' := by
  have ta : decide (a < 0) = false := by simp; omega
  have tc : decide (0 ≤ a) = true := by simp; omega
  have tb : decide (b < 0) = false := by simp; omega
  go_enter Try.func16, Try.ntmps16
  go_wp2_with fail
  refine (size_pos a _ ha la).mono ?_
  rintro e w' ⟨rfl, rfl⟩
  go_wp2_with (fail)
  refine (size_pos b _ hb lb).mono ?_
  rintro e w' ⟨rfl, rfl⟩
  go_wp2_with (fail)
  refine (size_pos b _ hb lb).mono ?_
  rintro e w' ⟨rfl, rfl⟩
  go_wp2_with (fail)
  refine (size_pos a _ ha la).mono ?_
  rintro e w' ⟨rfl, rfl⟩
  go_wp2_with (fail)
  refine (sign_nf _ _ (by omega) (by omega)).mono ?_
  rintro e w' ⟨rfl, rfl⟩
  go_wp2_with fail
  refine (answer_t _ _).mono ?_
  rintro e w' ⟨rfl, rfl⟩
  go_wp2_with fail
  go_ret2
  exact ⟨ret_ii (by omega) rfl, rfl⟩
theorem sub7 (a b : Int) (w : World) (ha : a < 0) (la : -9223372036854775808 ≤ a) (hb : b < 0) (lb : -9223372036854775808 ≤ b) (h : a ≤ b) :
    Calls Try.prog 16 #[.int .i64 a, .int .i64 b] w fun e w' => e = .returned (.tuple #[.int .i64 (a - b), .int .i64 0]) ∧ w = w' := by
  have ta : decide (a < 0) = true := by simp; omega
  have tc : decide (0 ≤ a) = false := by simp; omega
  have tb : decide (b < 0) = true := by simp; omega
  go_enter Try.func16, Try.ntmps16
  go_wp2_with fail
  refine (size_neg a _ ha la).mono ?_
  rintro e w' ⟨rfl, rfl⟩
  go_wp2_with (fail)
  refine (size_neg b _ hb lb).mono ?_
  rintro e w' ⟨rfl, rfl⟩
  go_wp2_with (fail)
  refine (size_neg a _ ha la).mono ?_
  rintro e w' ⟨rfl, rfl⟩
  go_wp2_with (fail)
  refine (size_neg b _ hb lb).mono ?_
  rintro e w' ⟨rfl, rfl⟩
  go_wp2_with (fail)
  refine (sign_nf _ _ (by omega) (by omega)).mono ?_
  rintro e w' ⟨rfl, rfl⟩
  go_wp2_with fail
  refine (answer_t _ _).mono ?_
  rintro e w' ⟨rfl, rfl⟩
  go_wp2_with fail
  go_ret2
  exact ⟨ret_ii (by omega) rfl, rfl⟩
theorem sub8 (a b : Int) (w : World) (ha : a < 0) (la : -9223372036854775808 ≤ a) (hb : b < 0) (lb : -9223372036854775808 ≤ b) (h : b < a) :
    Calls Try.prog 16 #[.int .i64 a, .int .i64 b] w fun e w' => e = .returned (.tuple #[.int .i64 (a - b), .int .i64 0]) ∧ w = w' := by
  have ta : decide (a < 0) = true := by simp; omega
  have tc : decide (0 ≤ a) = false := by simp; omega
  have tb : decide (b < 0) = true := by simp; omega
  go_enter Try.func16, Try.ntmps16
  go_wp2_with fail
  refine (size_neg a _ ha la).mono ?_
  rintro e w' ⟨rfl, rfl⟩
  go_wp2_with (fail)
  refine (size_neg b _ hb lb).mono ?_
  rintro e w' ⟨rfl, rfl⟩
  go_wp2_with (fail)
  refine (size_neg b _ hb lb).mono ?_
  rintro e w' ⟨rfl, rfl⟩
  go_wp2_with (fail)
  refine (size_neg a _ ha la).mono ?_
  rintro e w' ⟨rfl, rfl⟩
  go_wp2_with (fail)
  refine (sign_pf _ _ (by omega) (by omega)).mono ?_
  rintro e w' ⟨rfl, rfl⟩
  go_wp2_with fail
  refine (answer_t _ _).mono ?_
  rintro e w' ⟨rfl, rfl⟩
  go_wp2_with fail
  go_ret2
  exact ⟨ret_ii (by omega) rfl, rfl⟩

theorem sat (v : Int) (h : R v) : val v = v ∧ err v = 0 := by
  have := fits_of h
  unfold val err
  simp [this]
theorem sat_not (v : Int) (h : ¬ R v) : val v = 0 ∧ err v = 9 := by
  have : fits v = false := by
    cases hf : fits v with
    | false => rfl
    | true => exact absurd ((fits_iff v).1 hf) h
  unfold val err
  simp [this]
theorem add5 (w : World) :
    Calls Try.prog 15 #[.int .i64 (-9223372036854775808), .int .i64 (-9223372036854775808)] w fun e w' => e = .returned (.tuple #[.int .i64 0, .int .i64 9]) ∧ w = w' := by
  go_enter Try.func15, Try.ntmps15
  go_wp2_with fail
  refine (size_neg (-9223372036854775808) _ (by omega) (by omega)).mono ?_
  rintro e w' ⟨rfl, rfl⟩
  go_wp2_with fail
  refine (size_neg (-9223372036854775808) _ (by omega) (by omega)).mono ?_
  rintro e w' ⟨rfl, rfl⟩
  go_wp2_with (simp only [Int.neg_neg, add64_top])
  refine (sign_nf 0 _ (by omega) (by omega)).mono ?_
  rintro e w' ⟨rfl, rfl⟩
  go_wp2_with fail
  refine (answer_f _ _).mono ?_
  rintro e w' ⟨rfl, rfl⟩
  go_wp2_with fail
  go_ret2
  exact ⟨rfl, rfl⟩
theorem ref_add (a b : Int) (w : World) (ha : R a) (hb : R b) :
    Calls Try.prog 15 #[.int .i64 a, .int .i64 b] w fun e w' => e = .returned (.tuple #[.int .i64 (val (a + b)), .int .i64 (err (a + b))]) ∧ w = w' := by
  obtain ⟨a1, a2⟩ := ha
  obtain ⟨b1, b2⟩ := hb
  by_cases h : R (a + b)
  · rw [(sat _ h).1, (sat _ h).2]
    unfold R at h
    by_cases na : 0 ≤ a
    · by_cases nb : 0 ≤ b
      · exact add1 a b w na a2 nb b2 (by omega)
      · by_cases k : -b ≤ a
        · exact add6 a b w na a2 (by omega) b1 k
        · exact add7 a b w na a2 (by omega) b1 (by omega)
    · by_cases nb : 0 ≤ b
      · by_cases k : b ≤ -a
        · exact add8 a b w (by omega) a1 nb b2 k
        · exact add9 a b w (by omega) a1 nb b2 (by omega)
      · exact add3 a b w (by omega) a1 (by omega) b1 (by omega)
  · rw [(sat_not _ h).1, (sat_not _ h).2]
    unfold R at h
    by_cases na : 0 ≤ a
    · exact add2 a b w na a2 (by omega) b2 (by omega)
    · by_cases k : -18446744073709551615 ≤ a + b
      · exact add4 a b w (by omega) a1 (by omega) b1 (by omega) k
      · obtain rfl : a = -9223372036854775808 := by omega
        obtain rfl : b = -9223372036854775808 := by omega
        exact add5 w
theorem ref_sub (a b : Int) (w : World) (ha : R a) (hb : R b) :
    Calls Try.prog 16 #[.int .i64 a, .int .i64 b] w fun e w' => e = .returned (.tuple #[.int .i64 (val (a - b)), .int .i64 (err (a - b))]) ∧ w = w' := by
  obtain ⟨a1, a2⟩ := ha
  obtain ⟨b1, b2⟩ := hb
  by_cases h : R (a - b)
  · rw [(sat _ h).1, (sat _ h).2]
    unfold R at h
    by_cases na : 0 ≤ a
    · by_cases nb : 0 ≤ b
      · by_cases k : b ≤ a
        · exact sub5 a b w na a2 nb b2 k
        · exact sub6 a b w na a2 nb b2 (by omega)
      · exact sub1 a b w na a2 (by omega) b1 (by omega)
    · by_cases nb : 0 ≤ b
      · exact sub3 a b w (by omega) a1 nb b2 (by omega)
      · by_cases k : a ≤ b
        · exact sub7 a b w (by omega) a1 (by omega) b1 k
        · exact sub8 a b w (by omega) a1 (by omega) b1 (by omega)
  · rw [(sat_not _ h).1, (sat_not _ h).2]
    unfold R at h
    by_cases na : 0 ≤ a
    · exact sub2 a b w na a2 (by omega) b1 (by omega)
    · exact sub4 a b w (by omega) a1 (by omega) b2 (by omega)
theorem ref_neg (a : Int) (w : World) (ha : R a) :
    Calls Try.prog 17 #[.int .i64 a] w fun e w' => e = .returned (.tuple #[.int .i64 (val (-a)), .int .i64 (err (-a))]) ∧ w = w' := by
  obtain ⟨a1, a2⟩ := ha
  by_cases h0 : 0 < a
  · rw [(sat (-a) ⟨by omega, by omega⟩).1, (sat (-a) ⟨by omega, by omega⟩).2]
    have tt : decide (0 < a) = true := by simp; omega
    go_enter Try.func17, Try.ntmps17
    go_wp2_with fail
    refine (size_pos a _ (by omega) a2).mono ?_
    rintro e w' ⟨rfl, rfl⟩
    go_wp2_with fail
    refine (sign_nf _ _ (by omega) (by omega)).mono ?_
    rintro e w' ⟨rfl, rfl⟩
    go_wp2_with fail
    refine (answer_t _ _).mono ?_
    rintro e w' ⟨rfl, rfl⟩
    go_wp2_with fail
    go_ret2
    exact ⟨rfl, rfl⟩
  · have tt : decide (0 < a) = false := by simp; omega
    by_cases h1 : a = 0
    · subst h1
      go_enter Try.func17, Try.ntmps17
      go_wp2_with fail
      refine (size_pos 0 _ (by omega) (by omega)).mono ?_
      rintro e w' ⟨rfl, rfl⟩
      go_wp2_with fail
      refine (sign_pf 0 _ (by omega) (by omega)).mono ?_
      rintro e w' ⟨rfl, rfl⟩
      go_wp2_with fail
      refine (answer_t _ _).mono ?_
      rintro e w' ⟨rfl, rfl⟩
      go_wp2_with fail
      go_ret2
      exact ⟨rfl, rfl⟩
    · by_cases h2 : a = -9223372036854775808
      · subst h2
        go_enter Try.func17, Try.ntmps17
        go_wp2_with fail
        refine (size_neg (-9223372036854775808) _ (by omega) (by omega)).mono ?_
        rintro e w' ⟨rfl, rfl⟩
        go_wp2_with fail
        refine (sign_pn _ _ (by omega) (by omega)).mono ?_
        rintro e w' ⟨rfl, rfl⟩
        go_wp2_with fail
        refine (answer_f _ _).mono ?_
        rintro e w' ⟨rfl, rfl⟩
        go_wp2_with fail
        go_ret2
        exact ⟨rfl, rfl⟩
      · rw [(sat (-a) ⟨by omega, by omega⟩).1, (sat (-a) ⟨by omega, by omega⟩).2]
        go_enter Try.func17, Try.ntmps17
        go_wp2_with fail
        refine (size_neg a _ (by omega) (by omega)).mono ?_
        rintro e w' ⟨rfl, rfl⟩
        go_wp2_with fail
        refine (sign_pf _ _ (by omega) (by omega)).mono ?_
        rintro e w' ⟨rfl, rfl⟩
        go_wp2_with fail
        refine (answer_t _ _).mono ?_
        rintro e w' ⟨rfl, rfl⟩
        go_wp2_with fail
        go_ret2
        exact ⟨rfl, rfl⟩
end Go.Proofs.Ytgfhkfmankcheaa
