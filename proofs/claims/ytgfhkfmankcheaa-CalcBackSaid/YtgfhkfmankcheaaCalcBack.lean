/-
  CalcBack: what was added is taken away again; a quotient times its divisor, and what is left, is the number. For every input; no conditions.
-/
import Derived.Test.YtgfhkfmankcheaaRows
import Derived.Test.YtgfhkfmankcheaaAwake
import Derived.ProofKit
import Derived.OpenShut
namespace Go.Proofs.Ytgfhkfmankcheaa.calcBack
open Go.ChangeShapes Go.WideShapes Go.ChangeAt Go.RowKit
set_option linter.unusedVariables false

theorem own : ownKnob Try.prog.godebug = none := by kernel_rfl
theorem rng {a : Int} (h : (Lit.int .i64 a).wf = true) : R a := by
  have := bounds_i64 h
  unfold R
  omega

/-- a quotient times its divisor and what is left -/
theorem back_law (a b : Int) (ha : R a) (hb : R b) (h0 : b ≠ 0) (hf : fits (a.tdiv b) = true) :
    R (a.tdiv b) ∧ R (a.tmod b) ∧ fits (a.tdiv b * b) = true ∧ R (a.tdiv b * b) ∧ fits (a.tdiv b * b + a.tmod b) = true ∧ a.tdiv b * b + a.tmod b = a := by
  have e : a.tdiv b * b + a.tmod b = a := by rw [Int.mul_comm]; exact Int.mul_tdiv_add_tmod a b
  have hq := (fits_iff _).1 hf
  have hr := mod_rng a b h0 hb
  have hm := Int.natAbs_tmod a b
  have hm2 : a.natAbs % b.natAbs ≤ a.natAbs := Nat.mod_le _ _
  have hs : 0 ≤ a → 0 ≤ a.tmod b := fun h => Int.tmod_nonneg b h
  have hs2 : a ≤ 0 → a.tmod b ≤ 0 := fun h => by
    have := Int.tmod_nonneg b (a := -a) (by omega)
    rw [Int.neg_tmod] at this
    omega
  have hp : R (a.tdiv b * b) := by unfold R at *; omega
  exact ⟨hq, hr, fits_of hp, hp, by rw [e]; exact fits_of ha, e⟩
theorem zero_any (a : Int) (w : World) (ha : R a) :
    Calls Try.prog 4 #[.int .i64 a, .int .i64 0] w fun e w' => e = .returned (.bool true) ∧ Below w.heap.size w w' := by
  go_enter Try.func4, Try.ntmps4
  go_wp2_with fail
  refine (awake_any _).mono ?_
  rintro e w1 ⟨rfl, hb1⟩
  go_wp2_with fail
  refine (add_zero a _ ha).mono ?_
  rintro e w' ⟨rfl, rfl⟩
  go_wp2_with fail
  refine (sub_zero a _ ha).mono ?_
  rintro e w' ⟨rfl, rfl⟩
  go_wp2_with fail
  refine (div_zero a _ ha).mono ?_
  rintro e w' ⟨rfl, rfl⟩
  go_wp2_with fail
  go_ret
  exact ⟨rfl, hb1⟩
theorem else_fit (a b : Int) (w : World) (ha : R a) (hb : R b) (h0 : b ≠ 0) (hf : fits (a.tdiv b) = true) (h1 : fits (a + b) = true) :
    Calls Try.prog 4 #[.int .i64 a, .int .i64 b] w fun e w' => e = .returned (.bool true) ∧ Below w.heap.size w w' := by
  obtain ⟨hq, hr, hm, hm2, hs, he⟩ := back_law a b ha hb h0 hf
  have He := Lib.hid he
  clear he
  go_enter Try.func4, Try.ntmps4
  go_wp2_with fail
  refine (awake_any _).mono ?_
  rintro e w1 ⟨rfl, hb1⟩
  go_wp2_with fail
  refine (add_fit a b _ ha hb h1).mono ?_
  rintro e w' ⟨rfl, rfl⟩
  go_wp2_with fail
  refine (sub_fit (a + b) b _ ((fits_iff _).1 h1) hb (by rw [Int.add_sub_cancel]; exact fits_of ha)).mono ?_
  rintro e w' ⟨rfl, rfl⟩
  go_wp2_with fail
  refine (div_fit a b _ ha hb h0 hf).mono ?_
  rintro e w' ⟨rfl, rfl⟩
  go_wp2_with fail
  refine (mod_fit a b _ ha hb h0).mono ?_
  rintro e w' ⟨rfl, rfl⟩
  go_wp2_with fail
  refine (mul_fit (a.tdiv b) b _ hq hb hm).mono ?_
  rintro e w' ⟨rfl, rfl⟩
  go_wp2_with fail
  refine (add_fit (a.tdiv b * b) (a.tmod b) _ hm2 hr hs).mono ?_
  rintro e w' ⟨rfl, rfl⟩
  go_wp2_with fail
  go_ret
  exact ⟨by rw [He.out]; simp, hb1⟩
theorem least_over (w : World) (h1 : fits (-9223372036854775808 + -1) = false) :
    Calls Try.prog 4 #[.int .i64 (-9223372036854775808), .int .i64 (-1)] w fun e w' => e = .returned (.bool true) ∧ Below w.heap.size w w' := by
  have ha : R (-9223372036854775808) := ⟨by omega, by omega⟩
  have hb : R (-1) := ⟨by omega, by omega⟩
  go_enter Try.func4, Try.ntmps4
  go_wp2_with fail
  refine (awake_any _).mono ?_
  rintro e w1 ⟨rfl, hb1⟩
  go_wp2_with fail
  refine (add_over (-9223372036854775808) (-1) _ ha hb h1).mono ?_
  rintro e w' ⟨rfl, rfl⟩
  go_wp2_with fail
  refine (div_over _).mono ?_
  rintro e w' ⟨rfl, rfl⟩
  go_wp2_with fail
  go_ret
  exact ⟨rfl, hb1⟩
theorem else_over (a b : Int) (w : World) (ha : R a) (hb : R b) (h0 : b ≠ 0) (hf : fits (a.tdiv b) = true) (h1 : fits (a + b) = false) :
    Calls Try.prog 4 #[.int .i64 a, .int .i64 b] w fun e w' => e = .returned (.bool true) ∧ Below w.heap.size w w' := by
  obtain ⟨hq, hr, hm, hm2, hs, he⟩ := back_law a b ha hb h0 hf
  have He := Lib.hid he
  clear he
  go_enter Try.func4, Try.ntmps4
  go_wp2_with fail
  refine (awake_any _).mono ?_
  rintro e w1 ⟨rfl, hb1⟩
  go_wp2_with fail
  refine (add_over a b _ ha hb h1).mono ?_
  rintro e w' ⟨rfl, rfl⟩
  go_wp2_with fail
  refine (div_fit a b _ ha hb h0 hf).mono ?_
  rintro e w' ⟨rfl, rfl⟩
  go_wp2_with fail
  refine (mod_fit a b _ ha hb h0).mono ?_
  rintro e w' ⟨rfl, rfl⟩
  go_wp2_with fail
  refine (mul_fit (a.tdiv b) b _ hq hb hm).mono ?_
  rintro e w' ⟨rfl, rfl⟩
  go_wp2_with fail
  refine (add_fit (a.tdiv b * b) (a.tmod b) _ hm2 hr hs).mono ?_
  rintro e w' ⟨rfl, rfl⟩
  go_wp2_with fail
  go_ret
  exact ⟨by rw [He.out]; simp, hb1⟩

theorem walk (a b : Int) (w : World) (ha : R a) (hb : R b) :
    Calls Try.prog 4 #[.int .i64 a, .int .i64 b] w fun e w' => e = .returned (.bool true) ∧ Below w.heap.size w w' := by
  by_cases h0 : b = 0
  · subst h0
    exact zero_any a w ha
  · by_cases hm : b = -1 ∧ a = -9223372036854775808
    · obtain ⟨rfl, rfl⟩ := hm
      exact least_over w (by decide)
    · have hf := (div_fits a b ha hb h0).2 hm
      cases h1 : fits (a + b) with
      | true => exact else_fit a b w ha hb h0 hf h1
      | false => exact else_over a b w ha hb h0 hf h1

set_option maxRecDepth 100000 in
theorem lifted (os : Os) (started : os.Started) (H : Type) (enc : TypeId × Value → H) :
    ReturnsInHanded {} Try.checked os 4 .any (Rows.calcBackSpec.pre6 enc Try.prog Try.f4 Rows.calcBackRow.domain false) (Rows.calcBackSpec.post enc Try.prog Try.f4 false true false false) := by
  refine returnsInHanded_of_change (C := Try.checked) own started (by kernel_rfl) Try.func4
    (ChangeSpec.witness6 (enc := enc) (C := Try.checked) false ⟨#[], #[.int .i64 0, .int .i64 0], []⟩ 8 (by kernel_rfl) (by kernel_rfl) (by kernel_rfl) (by kernel_rfl)) ?_
  intro W base args ds gs before hval0 hW hcnd _
  have hval : ∀ (j : Nat) t v, Try.f4.params[j]? = some t → args[j]? = some v → Value.okWide Try.prog W .any base t v := hval0
  have hW' := hW
  obtain ⟨p, q, hA0, hV, rfl, hfz, hnd⟩ := hW
  have hA : DataW.TrodAll enc Try.prog W 0 (fun _ => true) true Try.f4.params.toList args.toList ds p := hA0
  rw [Try.params4] at hA hval
  obtain ⟨v0, vs0, d0, ds0, p0, q0, hargs, rfl, rfl, h0, r0⟩ := trodAll_cons hA
  obtain ⟨v1, vs1, d1, ds1, p1, q1, rfl, rfl, rfl, h1, r1⟩ := trodAll_cons r0
  obtain ⟨rfl, rfl, rfl⟩ := trodAll_nil r1
  obtain rfl : args = #[v0, v1] := by cases args; simp_all
  obtain ⟨rfl, rfl⟩ := trodVars_none hV
  obtain ⟨a0, rfl, rfl, rfl, w0⟩ := open_int Try.underlying2 (hval 0 2 v0 rfl rfl) h0
  obtain ⟨a1, rfl, rfl, rfl, w1⟩ := open_int Try.underlying2 (hval 1 2 v1 rfl rfl) h1
  clear hA0 hval0
  simp only [List.append_nil] at hW'
  refine (walk a0 a1 W (rng w0) (rng w1)).mono fun e W' ⟨he, bel⟩ => ?_
  subst he
  exact ⟨_, rfl, _, _, _, [], [], [], hW', trodAll_mk1 (shut_bool Try.underlying4 _), (trodAll_cons_mk (shut_int Try.underlying2 w0) (trodAll_cons_mk (shut_int Try.underlying2 w1) trodAll_mk0)), rfl, bel.frame _, fun h => by cases h⟩

theorem over : Rows.calcBackRow.holds Try.pinned (OpenSpec.ofChange Rows.calcBackSpec) :=
  OpenClaim.holds_of_wide 4 Try.f4 rfl rfl rfl rfl rfl rfl rfl ⟨rfl, rfl, rfl, rfl, rfl⟩ rfl rfl rfl rfl rfl (by kernel_rfl) Try.func4 (by kernel_rfl)
    (of_decide_eq_true (by kernel_rfl)) (by unfold Func.isWrapper; first | (rw [if_pos (by decide +kernel)]; kernel_rfl) | (rw [if_neg (by decide +kernel)]; exact ⟨rfl, rfl⟩))
    (fun os started H enc _ => lifted os started H enc)

theorem proved : Rows.CalcBackSaid := over
#print axioms proved
end Go.Proofs.Ytgfhkfmankcheaa.calcBack
