/-
  Contracts of the reference's Mul, Div, Mod (lapidaryref01): each hands back the number, or 0 and the error. Conditions: the arguments are int64.
-/
import Derived.Test.YtgfhkfmankcheaaRef
import Derived.Test.YtgfhkfmankcheaaMag
namespace Go.Proofs.Ytgfhkfmankcheaa
open Go.RowKit Go.Shelf
set_option linter.unusedVariables false
set_option linter.unusedSimpArgs false

theorem size_any (n : Int) (w : World) (h : R n) :
    Calls Try.prog 24 #[.int .i64 n] w fun e w' => e = .returned (.int .u64 (mag n)) ∧ w = w' := by
  by_cases h0 : 0 ≤ n
  · rw [mag_pos h0]
    exact size_pos n w h0 h.2
  · rw [mag_neg (by omega)]
    exact size_neg n w (by omega) h.1
/-- a size and a sign make the number, or there is none -/
def sgn (s : Int) (below : Bool) : Int := if below = true then -s else s
def ValB (s : Int) (below : Bool) (w : World) (e : Ending) (w' : World) : Prop := e = .returned (.tuple #[.int .i64 (val (sgn s below)), .bool (fits (sgn s below))]) ∧ w = w'
theorem sign_any (s : Int) (below : Bool) (w : World) (h0 : 0 ≤ s) (h1 : s ≤ 18446744073709551615) :
    Calls Try.prog 25 #[.int .u64 s, .bool below] w fun e w' => e = .returned (.tuple #[.int .i64 (val (sgn s below)), .bool (fits (sgn s below))]) ∧ w = w' := by
  cases below with
  | false =>
    by_cases h : s ≤ 9223372036854775807
    · have hf : fits s = true := fits_of ⟨by omega, by omega⟩
      rw [show val (sgn s false) = s from by simp [sgn, val, hf], show fits (sgn s false) = true from hf]
      exact sign_pf s w h0 h
    · have hf : fits s = false := by
        cases hf : fits s with
        | false => rfl
        | true => exact absurd ((fits_iff s).1 hf) (by omega)
      rw [show val (sgn s false) = 0 from by simp [sgn, val, hf], show fits (sgn s false) = false from hf]
      exact sign_pn s w (by omega) h1
  | true =>
    by_cases h : s ≤ 9223372036854775808
    · have hf : fits (-s) = true := fits_of ⟨by omega, by omega⟩
      rw [show val (sgn s true) = -s from by simp [sgn, val, hf], show fits (sgn s true) = true from hf]
      exact sign_nf s w h0 h
    · have hf : fits (-s) = false := by
        cases hf : fits (-s) with
        | false => rfl
        | true => exact absurd ((fits_iff (-s)).1 hf) (by omega)
      rw [show val (sgn s true) = 0 from by simp [sgn, val, hf], show fits (sgn s true) = false from hf]
      exact sign_nn s w (by omega) h1
theorem answer_any (v : Int) (ok : Bool) (w : World) :
    Calls Try.prog 26 #[.int .i64 v, .bool ok] w fun e w' => e = .returned (.tuple #[.int .i64 (toldV v ok), .int .i64 (toldE ok)]) ∧ w = w' := by
  cases ok with
  | true => exact answer_t v w
  | false => exact answer_f v w
theorem told_fits (t : Int) : toldV (val t) (fits t) = val t ∧ toldE (fits t) = err t := by
  unfold toldV toldE val err
  cases fits t <;> simp

theorem ref_div0 (a : Int) (w : World) :
    Calls Try.prog 19 #[.int .i64 a, .int .i64 0] w fun e w' => e = .returned (.tuple #[.int .i64 0, .int .i64 10]) ∧ w = w' := by
  go_enter Try.func19, Try.ntmps19
  go_wp2_with fail
  go_ret2
  exact ⟨rfl, rfl⟩
theorem ref_mod0 (a : Int) (w : World) :
    Calls Try.prog 20 #[.int .i64 a, .int .i64 0] w fun e w' => e = .returned (.tuple #[.int .i64 0, .int .i64 10]) ∧ w = w' := by
  go_enter Try.func20, Try.ntmps20
  go_wp2_with fail
  go_ret2
  exact ⟨rfl, rfl⟩
theorem ref_div1 (a b : Int) (w : World) (ha : R a) (hb : R b) (h0 : (b == 0) = false) (x y q : Int) (hx : mag a = x) (hy : mag b = y) (y1 : 1 ≤ y) (hq : x / y = q) (q0 : 0 ≤ q) (q1 : q ≤ 9223372036854775808) (x0 : 0 ≤ x) (x1 : x ≤ 9223372036854775808) (y2 : y ≤ 9223372036854775808) (t : Bool) (ht' : (!(decide (a < 0) == decide (b < 0))) = t) :
    Calls Try.prog 19 #[.int .i64 a, .int .i64 b] w fun e w' => e = .returned (.tuple #[.int .i64 (val (sgn q t)), .int .i64 (err (sgn q t))]) ∧ w = w' := by
  have hy0 : ¬ y = 0 := by omega
  have ca := size_any a w ha
  have cb := size_any b w hb
  have cs := sign_any q t w q0 (by omega)
  have cn := answer_any (val (sgn q t)) (fits (sgn q t)) w
  rw [(told_fits _).1, (told_fits _).2] at cn
  rw [hx] at ca
  rw [hy] at cb
  have HA := Lib.hid ca
  have HB := Lib.hid cb
  have HS := Lib.hid cs
  have HN := Lib.hid cn
  clear ca cb cs cn hx hy
  go_enter Try.func19, Try.ntmps19
  go_wp2_with fail
  refine HA.out.mono ?_
  rintro e w' ⟨rfl, rfl⟩
  go_wp2_with fail
  refine HB.out.mono ?_
  rintro e w' ⟨rfl, rfl⟩
  go_wp2_with fail
  refine HS.out.mono ?_
  rintro e w' ⟨rfl, rfl⟩
  go_wp2_with fail
  refine HN.out.mono ?_
  rintro e w' ⟨rfl, rfl⟩
  go_wp2_with fail
  go_ret2
  exact ⟨rfl, rfl⟩
theorem ref_mod1 (a b : Int) (w : World) (ha : R a) (hb : R b) (h0 : (b == 0) = false) (x y q : Int) (hx : mag a = x) (hy : mag b = y) (y1 : 1 ≤ y) (hq : x % y = q) (q0 : 0 ≤ q) (q1 : q ≤ 9223372036854775808) (x0 : 0 ≤ x) (x1 : x ≤ 9223372036854775808) (y2 : y ≤ 9223372036854775808) (t : Bool) (ht' : decide (a < 0) = t) :
    Calls Try.prog 20 #[.int .i64 a, .int .i64 b] w fun e w' => e = .returned (.tuple #[.int .i64 (val (sgn q t)), .int .i64 (err (sgn q t))]) ∧ w = w' := by
  have hy0 : ¬ y = 0 := by omega
  have ca := size_any a w ha
  have cb := size_any b w hb
  have cs := sign_any q t w q0 (by omega)
  have cn := answer_any (val (sgn q t)) (fits (sgn q t)) w
  rw [(told_fits _).1, (told_fits _).2] at cn
  rw [hx] at ca
  rw [hy] at cb
  have HA := Lib.hid ca
  have HB := Lib.hid cb
  have HS := Lib.hid cs
  have HN := Lib.hid cn
  clear ca cb cs cn hx hy
  go_enter Try.func20, Try.ntmps20
  go_wp2_with fail
  refine HA.out.mono ?_
  rintro e w' ⟨rfl, rfl⟩
  go_wp2_with fail
  refine HB.out.mono ?_
  rintro e w' ⟨rfl, rfl⟩
  go_wp2_with fail
  refine HS.out.mono ?_
  rintro e w' ⟨rfl, rfl⟩
  go_wp2_with fail
  refine HN.out.mono ?_
  rintro e w' ⟨rfl, rfl⟩
  go_wp2_with fail
  go_ret2
  exact ⟨rfl, rfl⟩
theorem ref_mul1 (a b : Int) (w : World) (ha : R a) (hb : R b) (x y q : Int) (hx : mag a = x) (hy : mag b = y) (hq : x * y = q) (q0 : 0 ≤ q) (q1 : q ≤ 18446744073709551615) (x0 : 0 ≤ x) (x1 : x ≤ 9223372036854775808) (y0 : 0 ≤ y) (y2 : y ≤ 9223372036854775808) (t : Bool) (ht' : (!(decide (a < 0) == decide (b < 0))) = t) :
    Calls Try.prog 18 #[.int .i64 a, .int .i64 b] w fun e w' => e = .returned (.tuple #[.int .i64 (val (sgn q t)), .int .i64 (err (sgn q t))]) ∧ w = w' := by
  have cm := mul64 x y x0 y0 (by omega) (by omega) w
  rw [hq, show q / 18446744073709551616 = 0 from by omega, show q % 18446744073709551616 = q from by omega] at cm
  have HM := Lib.hid cm
  clear cm hq
  have ca := size_any a w ha
  have cb := size_any b w hb
  have cs := sign_any q t w q0 (by omega)
  have cn := answer_any (val (sgn q t)) (fits (sgn q t)) w
  rw [(told_fits _).1, (told_fits _).2] at cn
  rw [hx] at ca
  rw [hy] at cb
  have HA := Lib.hid ca
  have HB := Lib.hid cb
  have HS := Lib.hid cs
  have HN := Lib.hid cn
  clear ca cb cs cn hx hy
  cases hf : fits (sgn q t) with
  | true =>
    have HS2 := HS.out
    have HN2 := HN.out
    rw [hf] at HS2 HN2
    have HS3 := Lib.hid HS2
    have HN3 := Lib.hid HN2
    clear HS2 HN2 HS HN hf
    go_enter Try.func18, Try.ntmps18
    go_wp2_with fail
    refine HA.out.mono ?_
    rintro e w' ⟨rfl, rfl⟩
    go_wp2_with fail
    refine HB.out.mono ?_
    rintro e w' ⟨rfl, rfl⟩
    go_wp2_with fail
    refine HM.out.mono ?_
    rintro e w' ⟨rfl, rfl⟩
    go_wp2_with fail
    refine HS3.out.mono ?_
    rintro e w' ⟨rfl, rfl⟩
    go_wp2_with fail
    refine HN3.out.mono ?_
    rintro e w' ⟨rfl, rfl⟩
    go_wp2_with fail
    go_ret2
    exact ⟨rfl, rfl⟩
  | false =>
    have HS2 := HS.out
    have HN2 := HN.out
    rw [hf] at HS2 HN2
    have HS3 := Lib.hid HS2
    have HN3 := Lib.hid HN2
    clear HS2 HN2 HS HN hf
    go_enter Try.func18, Try.ntmps18
    go_wp2_with fail
    refine HA.out.mono ?_
    rintro e w' ⟨rfl, rfl⟩
    go_wp2_with fail
    refine HB.out.mono ?_
    rintro e w' ⟨rfl, rfl⟩
    go_wp2_with fail
    refine HM.out.mono ?_
    rintro e w' ⟨rfl, rfl⟩
    go_wp2_with fail
    refine HS3.out.mono ?_
    rintro e w' ⟨rfl, rfl⟩
    go_wp2_with fail
    refine HN3.out.mono ?_
    rintro e w' ⟨rfl, rfl⟩
    go_wp2_with fail
    go_ret2
    exact ⟨rfl, rfl⟩
theorem ref_mul2 (a b : Int) (w : World) (ha : R a) (hb : R b) (x y h l : Int) (hx : mag a = x) (hy : mag b = y) (hh : x * y / 18446744073709551616 = h) (hl : x * y % 18446744073709551616 = l) (h0 : 1 ≤ h) (h1 : h ≤ 18446744073709551615) (q0 : 0 ≤ l) (q1 : l ≤ 18446744073709551615) (x0 : 0 ≤ x) (x1 : x ≤ 9223372036854775808) (y0 : 0 ≤ y) (y2 : y ≤ 9223372036854775808) (t : Bool) (ht' : (!(decide (a < 0) == decide (b < 0))) = t) :
    Calls Try.prog 18 #[.int .i64 a, .int .i64 b] w fun e w' => e = .returned (.tuple #[.int .i64 0, .int .i64 9]) ∧ w = w' := by
  have cm := mul64 x y x0 y0 (by omega) (by omega) w
  rw [hh, hl] at cm
  have HM := Lib.hid cm
  have he : (h == 0) = false := beq_eq_false_iff_ne.2 (by omega)
  have ca := size_any a w ha
  have cb := size_any b w hb
  rw [hx] at ca
  rw [hy] at cb
  have HA := Lib.hid ca
  have HB := Lib.hid cb
  have cs := sign_any l t w q0 (by omega)
  clear ca cb cm hx hy hh hl
  cases hf : fits (sgn l t) with
  | true =>
    rw [hf] at cs
    have HS := Lib.hid cs
    clear cs hf
    go_enter Try.func18, Try.ntmps18
    go_wp2_with fail
    refine HA.out.mono ?_
    rintro e w' ⟨rfl, rfl⟩
    go_wp2_with fail
    refine HB.out.mono ?_
    rintro e w' ⟨rfl, rfl⟩
    go_wp2_with fail
    refine HM.out.mono ?_
    rintro e w' ⟨rfl, rfl⟩
    go_wp2_with fail
    refine HS.out.mono ?_
    rintro e w' ⟨rfl, rfl⟩
    go_wp2_with fail
    refine (answer_f _ _).mono ?_
    rintro e w' ⟨rfl, rfl⟩
    go_wp2_with fail
    go_ret2
    exact ⟨rfl, rfl⟩
  | false =>
    rw [hf] at cs
    have HS := Lib.hid cs
    clear cs hf
    go_enter Try.func18, Try.ntmps18
    go_wp2_with fail
    refine HA.out.mono ?_
    rintro e w' ⟨rfl, rfl⟩
    go_wp2_with fail
    refine HB.out.mono ?_
    rintro e w' ⟨rfl, rfl⟩
    go_wp2_with fail
    refine HM.out.mono ?_
    rintro e w' ⟨rfl, rfl⟩
    go_wp2_with fail
    refine HS.out.mono ?_
    rintro e w' ⟨rfl, rfl⟩
    go_wp2_with fail
    refine (answer_f _ _).mono ?_
    rintro e w' ⟨rfl, rfl⟩
    go_wp2_with fail
    go_ret2
    exact ⟨rfl, rfl⟩

theorem ref_mul (a b : Int) (w : World) (ha : R a) (hb : R b) :
    Calls Try.prog 18 #[.int .i64 a, .int .i64 b] w fun e w' => e = .returned (.tuple #[.int .i64 (val (a * b)), .int .i64 (err (a * b))]) ∧ w = w' := by
  have h1 := mag_rng ha
  have h2 := mag_rng hb
  have h3 := prod_rng ha hb
  by_cases hp : mag a * mag b ≤ 18446744073709551615
  · rw [mul_mag a b]
    exact ref_mul1 a b w ha hb _ _ _ rfl rfl rfl h3.1 hp h1.1 h1.2 h2.1 h2.2 _ rfl
  · have hn : ¬ R (a * b) := by
      rw [mul_mag a b]
      unfold R
      split <;> omega
    rw [(sat_not _ hn).1, (sat_not _ hn).2]
    exact ref_mul2 a b w ha hb _ _ _ _ rfl rfl rfl rfl (by omega) (by omega) (by omega) (by omega) h1.1 h1.2 h2.1 h2.2 _ rfl
theorem ref_div (a b : Int) (w : World) (ha : R a) (hb : R b) :
    Calls Try.prog 19 #[.int .i64 a, .int .i64 b] w fun e w' => e = .returned (.tuple #[.int .i64 (divV a b), .int .i64 (divE a b)]) ∧ w = w' := by
  by_cases h0 : b = 0
  · subst h0
    exact ref_div0 a w
  · have h1 := mag_rng ha
    have h2 := mag_rng hb
    have h3 := quo_rng ha h0
    rw [show divV a b = val (a.tdiv b) from by simp [divV, h0], show divE a b = err (a.tdiv b) from by simp [divE, h0], div_mag a b]
    exact ref_div1 a b w ha hb (beq_eq_false_iff_ne.2 h0) _ _ _ rfl rfl (mag_one h0) rfl h3.1 h3.2 h1.1 h1.2 h2.2 _ rfl
theorem ref_mod (a b : Int) (w : World) (ha : R a) (hb : R b) :
    Calls Try.prog 20 #[.int .i64 a, .int .i64 b] w fun e w' => e = .returned (.tuple #[.int .i64 (modV a b), .int .i64 (modE b)]) ∧ w = w' := by
  by_cases h0 : b = 0
  · subst h0
    exact ref_mod0 a w
  · have h1 := mag_rng ha
    have h2 := mag_rng hb
    have h3 := rem_rng (a := a) hb h0
    have hR := mod_rng a b h0 hb
    have e1 : a.tmod b = sgn (mag a % mag b) (decide (a < 0)) := by
      rw [mod_mag a b]
      unfold sgn
      by_cases ha : a < 0 <;> simp [ha]
    rw [show modV a b = a.tmod b from by simp [modV, h0], show modE b = 0 from by simp [modE, h0], ← (sat _ hR).2]
    have e2 := (sat _ hR).1
    rw [← e2]
    rw [e2]
    rw [show (Value.int .i64 (a.tmod b)) = Value.int .i64 (val (a.tmod b)) from by rw [e2], e1]
    exact ref_mod1 a b w ha hb (beq_eq_false_iff_ne.2 h0) _ _ _ rfl rfl (mag_one h0) rfl h3.1 (by omega) h1.1 h1.2 h2.2 _ rfl
end Go.Proofs.Ytgfhkfmankcheaa
