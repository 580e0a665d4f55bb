/-
  Contracts of the reference's order (lapidaryref02): place, Less, Same, Compare, and of cell.Compare. Conditions: the kind is a byte.
-/
import Derived.Test.YtpkohkhgimmkhaaDoorCellOrder
namespace Go.Proofs.YtpkohkhgimmkhaaDoor
open Go.RowKit Go.Sort
set_option linter.unusedVariables false
set_option linter.unusedSimpArgs false

def placeV (k : Int) (b : Bool) : Int := if k = 3 then (if b = true then 2 else 1) else if k = 1 then 3 else if k = 2 then 4 else 0
theorem place_t (i : Int) (s : ByteArray) (w : World)  :
    Calls Tryd.prog 35 #[.agg #[.int .u8 3, .int .i64 i, .string s, .bool true]] w fun e w' => e = .returned (.int .i64 2) ∧ Below w.heap.size w w' := by
  go_enter Tryd.func35, Tryd.ntmps35
  go_wp2_with fail
  go_ret
  exact ⟨rfl, below1 _ _⟩
theorem place_f (i : Int) (s : ByteArray) (w : World)  :
    Calls Tryd.prog 35 #[.agg #[.int .u8 3, .int .i64 i, .string s, .bool false]] w fun e w' => e = .returned (.int .i64 1) ∧ Below w.heap.size w w' := by
  go_enter Tryd.func35, Tryd.ntmps35
  go_wp2_with fail
  go_ret
  exact ⟨rfl, below1 _ _⟩
theorem place_1 (i : Int) (s : ByteArray) (b : Bool) (w : World)  :
    Calls Tryd.prog 35 #[.agg #[.int .u8 1, .int .i64 i, .string s, .bool b]] w fun e w' => e = .returned (.int .i64 3) ∧ Below w.heap.size w w' := by
  go_enter Tryd.func35, Tryd.ntmps35
  go_wp2_with fail
  go_ret
  exact ⟨rfl, below1 _ _⟩
theorem place_2 (i : Int) (s : ByteArray) (b : Bool) (w : World)  :
    Calls Tryd.prog 35 #[.agg #[.int .u8 2, .int .i64 i, .string s, .bool b]] w fun e w' => e = .returned (.int .i64 4) ∧ Below w.heap.size w w' := by
  go_enter Tryd.func35, Tryd.ntmps35
  go_wp2_with fail
  go_ret
  exact ⟨rfl, below1 _ _⟩
theorem place_n (k i : Int) (s : ByteArray) (b : Bool) (w : World) (h1 : (k == 1) = false) (h2 : (k == 2) = false) (h3 : (k == 3) = false) :
    Calls Tryd.prog 35 #[.agg #[.int .u8 k, .int .i64 i, .string s, .bool b]] w fun e w' => e = .returned (.int .i64 0) ∧ Below w.heap.size w w' := by
  go_enter Tryd.func35, Tryd.ntmps35
  go_wp2_with fail
  go_ret
  exact ⟨rfl, below1 _ _⟩
theorem place_any (k i : Int) (s : ByteArray) (b : Bool) (w : World) :
    Calls Tryd.prog 35 #[.agg #[.int .u8 k, .int .i64 i, .string s, .bool b]] w fun e w' => e = .returned (.int .i64 (placeV k b)) ∧ Below w.heap.size w w' := by
  by_cases h3 : k = 3
  · subst h3
    cases b with
    | true => exact place_t i s w
    | false => exact place_f i s w
  · by_cases h1 : k = 1
    · subst h1; exact place_1 i s b w
    · by_cases h2 : k = 2
      · subst h2; exact place_2 i s b w
      · rw [show placeV k b = 0 from by simp [placeV, h1, h2, h3]]
        exact place_n k i s b w (beq_eq_false_iff_ne.2 h1) (beq_eq_false_iff_ne.2 h2) (beq_eq_false_iff_ne.2 h3)
theorem two_boxes0 (w : World) (x0 x1 x2 x3 y0 y1 y2 y3 : Value) (t : TypeId) :
    ((w.alloc (.cells #[x0, x1, x2, x3] t)).alloc (.cells #[y0, y1, y2, y3] t)).cell? ⟨w.heap.size, 0, none⟩ = some x0 ∧ ((w.alloc (.cells #[x0, x1, x2, x3] t)).alloc (.cells #[y0, y1, y2, y3] t)).cell? ⟨w.heap.size, 1, none⟩ = some x1 ∧ ((w.alloc (.cells #[x0, x1, x2, x3] t)).alloc (.cells #[y0, y1, y2, y3] t)).cell? ⟨w.heap.size, 2, none⟩ = some x2 ∧ ((w.alloc (.cells #[x0, x1, x2, x3] t)).alloc (.cells #[y0, y1, y2, y3] t)).cell? ⟨w.heap.size, 3, none⟩ = some x3 ∧ ((w.alloc (.cells #[x0, x1, x2, x3] t)).alloc (.cells #[y0, y1, y2, y3] t)).cell? ⟨w.heap.size + 1, 0, none⟩ = some y0 ∧ ((w.alloc (.cells #[x0, x1, x2, x3] t)).alloc (.cells #[y0, y1, y2, y3] t)).cell? ⟨w.heap.size + 1, 1, none⟩ = some y1 ∧ ((w.alloc (.cells #[x0, x1, x2, x3] t)).alloc (.cells #[y0, y1, y2, y3] t)).cell? ⟨w.heap.size + 1, 2, none⟩ = some y2 ∧ ((w.alloc (.cells #[x0, x1, x2, x3] t)).alloc (.cells #[y0, y1, y2, y3] t)).cell? ⟨w.heap.size + 1, 3, none⟩ = some y3 ∧ Below w.heap.size w ((w.alloc (.cells #[x0, x1, x2, x3] t)).alloc (.cells #[y0, y1, y2, y3] t)) := by
  refine ⟨?_, ?_, ?_, ?_, ?_, ?_, ?_, ?_, ((Below.refl _ _).alloc (Nat.le_refl _) _).alloc (by simp) _⟩ <;> simp [go_sem]
theorem rless_d (k i : Int) (s : ByteArray) (b : Bool) (k2 i2 : Int) (s2 : ByteArray) (b2 : Bool) (w : World) (h : (placeV k b == placeV k2 b2) = false) :
    Calls Tryd.prog 20 #[.agg #[.int .u8 k, .int .i64 i, .string s, .bool b], .agg #[.int .u8 k2, .int .i64 i2, .string s2, .bool b2]] w fun e w' => e = .returned (.bool (decide (placeV k b < placeV k2 b2))) ∧ Below w.heap.size w w' := by
  go_enter Tryd.func20, Tryd.ntmps20
  go_wp2_with fail
  obtain ⟨a0, a1, a2, a3, g0, g1, g2, g3, hb0⟩ := two_boxes0 w (.int .u8 k) (.int .i64 i) (.string s) (.bool b) (.int .u8 k2) (.int .i64 i2) (.string s2) (.bool b2) 24
  generalize ((w.alloc (.cells #[.int .u8 k, .int .i64 i, .string s, .bool b] 24)).alloc (.cells #[.int .u8 k2, .int .i64 i2, .string s2, .bool b2] 24)) = W0 at *
  have ma0 := fun d os => cell_regrown a0 d os
  have ma1 := fun d os => cell_regrown a1 d os
  have ma2 := fun d os => cell_regrown a2 d os
  have ma3 := fun d os => cell_regrown a3 d os
  have mg0 := fun d os => cell_regrown g0 d os
  have mg1 := fun d os => cell_regrown g1 d os
  have mg2 := fun d os => cell_regrown g2 d os
  have mg3 := fun d os => cell_regrown g3 d os
  have cP := fun k i s b d os => Calls.regrown_of (w := W0) (d := d) (os := os) (place_any k i s b _)
  refine wp_region_quiet_below (by kernel_rfl) (by kernel_rfl) ?_
  repeat (quiet_step (first | exact cP _ _ _ _ _ _))
  refine wpQuiet_nil ?_
  intro _ hw'
  obtain ⟨⟨dq, osq⟩, hw''⟩ := hw'
  subst hw''
  clear cP
  replace a0 := ma0 dq osq
  replace a1 := ma1 dq osq
  replace a2 := ma2 dq osq
  replace a3 := ma3 dq osq
  replace g0 := mg0 dq osq
  replace g1 := mg1 dq osq
  replace g2 := mg2 dq osq
  replace g3 := mg3 dq osq
  clear ma0 ma1 ma2 ma3 mg0 mg1 mg2 mg3
  replace hb0 := below_then hb0 (below_regrown W0 dq osq)
  generalize (grow (redrawn W0 dq) osq) = W0n at *
  go_wp2_with fail
  have ma0 := fun d os => cell_regrown a0 d os
  have ma1 := fun d os => cell_regrown a1 d os
  have ma2 := fun d os => cell_regrown a2 d os
  have ma3 := fun d os => cell_regrown a3 d os
  have mg0 := fun d os => cell_regrown g0 d os
  have mg1 := fun d os => cell_regrown g1 d os
  have mg2 := fun d os => cell_regrown g2 d os
  have mg3 := fun d os => cell_regrown g3 d os
  have cP := fun k i s b d os => Calls.regrown_of (w := W0n) (d := d) (os := os) (place_any k i s b _)
  refine wp_region_quiet_below (by kernel_rfl) (by kernel_rfl) ?_
  repeat (quiet_step (first | exact cP _ _ _ _ _ _))
  refine wpQuiet_nil ?_
  intro _ hw'
  obtain ⟨⟨dq, osq⟩, hw''⟩ := hw'
  subst hw''
  clear cP
  replace a0 := ma0 dq osq
  replace a1 := ma1 dq osq
  replace a2 := ma2 dq osq
  replace a3 := ma3 dq osq
  replace g0 := mg0 dq osq
  replace g1 := mg1 dq osq
  replace g2 := mg2 dq osq
  replace g3 := mg3 dq osq
  clear ma0 ma1 ma2 ma3 mg0 mg1 mg2 mg3
  replace hb0 := below_then hb0 (below_regrown W0n dq osq)
  generalize (grow (redrawn W0n dq) osq) = W0nn at *
  go_wp2_with fail
  go_ret
  exact ⟨rfl, hb0⟩
theorem rless_1 (k i : Int) (s : ByteArray) (b : Bool) (k2 i2 : Int) (s2 : ByteArray) (b2 : Bool) (w : World) (h : placeV k b = placeV k2 b2) (h1 : (k == 1) = true) (h2 : (k == 2) = false) :
    Calls Tryd.prog 20 #[.agg #[.int .u8 k, .int .i64 i, .string s, .bool b], .agg #[.int .u8 k2, .int .i64 i2, .string s2, .bool b2]] w fun e w' => e = .returned (.bool (decide (i < i2))) ∧ Below w.heap.size w w' := by
  by_cases hx : i < i2
  · rw [decide_eq_true hx]
    go_enter Tryd.func20, Tryd.ntmps20
    go_wp2_with fail
    obtain ⟨a0, a1, a2, a3, g0, g1, g2, g3, hb0⟩ := two_boxes0 w (.int .u8 k) (.int .i64 i) (.string s) (.bool b) (.int .u8 k2) (.int .i64 i2) (.string s2) (.bool b2) 24
    generalize ((w.alloc (.cells #[.int .u8 k, .int .i64 i, .string s, .bool b] 24)).alloc (.cells #[.int .u8 k2, .int .i64 i2, .string s2, .bool b2] 24)) = W0 at *
    have ma0 := fun d os => cell_regrown a0 d os
    have ma1 := fun d os => cell_regrown a1 d os
    have ma2 := fun d os => cell_regrown a2 d os
    have ma3 := fun d os => cell_regrown a3 d os
    have mg0 := fun d os => cell_regrown g0 d os
    have mg1 := fun d os => cell_regrown g1 d os
    have mg2 := fun d os => cell_regrown g2 d os
    have mg3 := fun d os => cell_regrown g3 d os
    have cP := fun k i s b d os => Calls.regrown_of (w := W0) (d := d) (os := os) (place_any k i s b _)
    refine wp_region_quiet_below (by kernel_rfl) (by kernel_rfl) ?_
    repeat (quiet_step (first | exact cP _ _ _ _ _ _))
    refine wpQuiet_nil ?_
    intro _ hw'
    obtain ⟨⟨dq, osq⟩, hw''⟩ := hw'
    subst hw''
    clear cP
    replace a0 := ma0 dq osq
    replace a1 := ma1 dq osq
    replace a2 := ma2 dq osq
    replace a3 := ma3 dq osq
    replace g0 := mg0 dq osq
    replace g1 := mg1 dq osq
    replace g2 := mg2 dq osq
    replace g3 := mg3 dq osq
    clear ma0 ma1 ma2 ma3 mg0 mg1 mg2 mg3
    replace hb0 := below_then hb0 (below_regrown W0 dq osq)
    generalize (grow (redrawn W0 dq) osq) = W0n at *
    go_wp2_with fail
    go_ret
    exact ⟨rfl, hb0⟩
  ·
    go_enter Tryd.func20, Tryd.ntmps20
    go_wp2_with fail
    obtain ⟨a0, a1, a2, a3, g0, g1, g2, g3, hb0⟩ := two_boxes0 w (.int .u8 k) (.int .i64 i) (.string s) (.bool b) (.int .u8 k2) (.int .i64 i2) (.string s2) (.bool b2) 24
    generalize ((w.alloc (.cells #[.int .u8 k, .int .i64 i, .string s, .bool b] 24)).alloc (.cells #[.int .u8 k2, .int .i64 i2, .string s2, .bool b2] 24)) = W0 at *
    have ma0 := fun d os => cell_regrown a0 d os
    have ma1 := fun d os => cell_regrown a1 d os
    have ma2 := fun d os => cell_regrown a2 d os
    have ma3 := fun d os => cell_regrown a3 d os
    have mg0 := fun d os => cell_regrown g0 d os
    have mg1 := fun d os => cell_regrown g1 d os
    have mg2 := fun d os => cell_regrown g2 d os
    have mg3 := fun d os => cell_regrown g3 d os
    have cP := fun k i s b d os => Calls.regrown_of (w := W0) (d := d) (os := os) (place_any k i s b _)
    refine wp_region_quiet_below (by kernel_rfl) (by kernel_rfl) ?_
    repeat (quiet_step (first | exact cP _ _ _ _ _ _))
    refine wpQuiet_nil ?_
    intro _ hw'
    obtain ⟨⟨dq, osq⟩, hw''⟩ := hw'
    subst hw''
    clear cP
    replace a0 := ma0 dq osq
    replace a1 := ma1 dq osq
    replace a2 := ma2 dq osq
    replace a3 := ma3 dq osq
    replace g0 := mg0 dq osq
    replace g1 := mg1 dq osq
    replace g2 := mg2 dq osq
    replace g3 := mg3 dq osq
    clear ma0 ma1 ma2 ma3 mg0 mg1 mg2 mg3
    replace hb0 := below_then hb0 (below_regrown W0 dq osq)
    generalize (grow (redrawn W0 dq) osq) = W0n at *
    go_wp2_with fail
    go_ret
    exact ⟨rfl, hb0⟩
theorem rless_2 (k i : Int) (s : ByteArray) (b : Bool) (k2 i2 : Int) (s2 : ByteArray) (b2 : Bool) (w : World) (h : placeV k b = placeV k2 b2) (h1 : (k == 1) = false) (h2 : (k == 2) = true) :
    Calls Tryd.prog 20 #[.agg #[.int .u8 k, .int .i64 i, .string s, .bool b], .agg #[.int .u8 k2, .int .i64 i2, .string s2, .bool b2]] w fun e w' => e = .returned (.bool (Op.bytesLess s.toList s2.toList)) ∧ Below w.heap.size w w' := by
  cases hx : Op.bytesLess s.toList s2.toList with
  | true =>
    go_enter Tryd.func20, Tryd.ntmps20
    go_wp2_with fail
    obtain ⟨a0, a1, a2, a3, g0, g1, g2, g3, hb0⟩ := two_boxes0 w (.int .u8 k) (.int .i64 i) (.string s) (.bool b) (.int .u8 k2) (.int .i64 i2) (.string s2) (.bool b2) 24
    generalize ((w.alloc (.cells #[.int .u8 k, .int .i64 i, .string s, .bool b] 24)).alloc (.cells #[.int .u8 k2, .int .i64 i2, .string s2, .bool b2] 24)) = W0 at *
    have ma0 := fun d os => cell_regrown a0 d os
    have ma1 := fun d os => cell_regrown a1 d os
    have ma2 := fun d os => cell_regrown a2 d os
    have ma3 := fun d os => cell_regrown a3 d os
    have mg0 := fun d os => cell_regrown g0 d os
    have mg1 := fun d os => cell_regrown g1 d os
    have mg2 := fun d os => cell_regrown g2 d os
    have mg3 := fun d os => cell_regrown g3 d os
    have cP := fun k i s b d os => Calls.regrown_of (w := W0) (d := d) (os := os) (place_any k i s b _)
    refine wp_region_quiet_below (by kernel_rfl) (by kernel_rfl) ?_
    repeat (quiet_step (first | exact cP _ _ _ _ _ _))
    refine wpQuiet_nil ?_
    intro _ hw'
    obtain ⟨⟨dq, osq⟩, hw''⟩ := hw'
    subst hw''
    clear cP
    replace a0 := ma0 dq osq
    replace a1 := ma1 dq osq
    replace a2 := ma2 dq osq
    replace a3 := ma3 dq osq
    replace g0 := mg0 dq osq
    replace g1 := mg1 dq osq
    replace g2 := mg2 dq osq
    replace g3 := mg3 dq osq
    clear ma0 ma1 ma2 ma3 mg0 mg1 mg2 mg3
    replace hb0 := below_then hb0 (below_regrown W0 dq osq)
    generalize (grow (redrawn W0 dq) osq) = W0n at *
    go_wp2_with fail
    go_ret
    exact ⟨rfl, hb0⟩
  | false =>
    go_enter Tryd.func20, Tryd.ntmps20
    go_wp2_with fail
    obtain ⟨a0, a1, a2, a3, g0, g1, g2, g3, hb0⟩ := two_boxes0 w (.int .u8 k) (.int .i64 i) (.string s) (.bool b) (.int .u8 k2) (.int .i64 i2) (.string s2) (.bool b2) 24
    generalize ((w.alloc (.cells #[.int .u8 k, .int .i64 i, .string s, .bool b] 24)).alloc (.cells #[.int .u8 k2, .int .i64 i2, .string s2, .bool b2] 24)) = W0 at *
    have ma0 := fun d os => cell_regrown a0 d os
    have ma1 := fun d os => cell_regrown a1 d os
    have ma2 := fun d os => cell_regrown a2 d os
    have ma3 := fun d os => cell_regrown a3 d os
    have mg0 := fun d os => cell_regrown g0 d os
    have mg1 := fun d os => cell_regrown g1 d os
    have mg2 := fun d os => cell_regrown g2 d os
    have mg3 := fun d os => cell_regrown g3 d os
    have cP := fun k i s b d os => Calls.regrown_of (w := W0) (d := d) (os := os) (place_any k i s b _)
    refine wp_region_quiet_below (by kernel_rfl) (by kernel_rfl) ?_
    repeat (quiet_step (first | exact cP _ _ _ _ _ _))
    refine wpQuiet_nil ?_
    intro _ hw'
    obtain ⟨⟨dq, osq⟩, hw''⟩ := hw'
    subst hw''
    clear cP
    replace a0 := ma0 dq osq
    replace a1 := ma1 dq osq
    replace a2 := ma2 dq osq
    replace a3 := ma3 dq osq
    replace g0 := mg0 dq osq
    replace g1 := mg1 dq osq
    replace g2 := mg2 dq osq
    replace g3 := mg3 dq osq
    clear ma0 ma1 ma2 ma3 mg0 mg1 mg2 mg3
    replace hb0 := below_then hb0 (below_regrown W0 dq osq)
    generalize (grow (redrawn W0 dq) osq) = W0n at *
    go_wp2_with fail
    go_ret
    exact ⟨rfl, hb0⟩
theorem rless_n (k i : Int) (s : ByteArray) (b : Bool) (k2 i2 : Int) (s2 : ByteArray) (b2 : Bool) (w : World) (h : placeV k b = placeV k2 b2) (h1 : (k == 1) = false) (h2 : (k == 2) = false) :
    Calls Tryd.prog 20 #[.agg #[.int .u8 k, .int .i64 i, .string s, .bool b], .agg #[.int .u8 k2, .int .i64 i2, .string s2, .bool b2]] w fun e w' => e = .returned (.bool (false)) ∧ Below w.heap.size w w' := by
  go_enter Tryd.func20, Tryd.ntmps20
  go_wp2_with fail
  obtain ⟨a0, a1, a2, a3, g0, g1, g2, g3, hb0⟩ := two_boxes0 w (.int .u8 k) (.int .i64 i) (.string s) (.bool b) (.int .u8 k2) (.int .i64 i2) (.string s2) (.bool b2) 24
  generalize ((w.alloc (.cells #[.int .u8 k, .int .i64 i, .string s, .bool b] 24)).alloc (.cells #[.int .u8 k2, .int .i64 i2, .string s2, .bool b2] 24)) = W0 at *
  have ma0 := fun d os => cell_regrown a0 d os
  have ma1 := fun d os => cell_regrown a1 d os
  have ma2 := fun d os => cell_regrown a2 d os
  have ma3 := fun d os => cell_regrown a3 d os
  have mg0 := fun d os => cell_regrown g0 d os
  have mg1 := fun d os => cell_regrown g1 d os
  have mg2 := fun d os => cell_regrown g2 d os
  have mg3 := fun d os => cell_regrown g3 d os
  have cP := fun k i s b d os => Calls.regrown_of (w := W0) (d := d) (os := os) (place_any k i s b _)
  refine wp_region_quiet_below (by kernel_rfl) (by kernel_rfl) ?_
  repeat (quiet_step (first | exact cP _ _ _ _ _ _))
  refine wpQuiet_nil ?_
  intro _ hw'
  obtain ⟨⟨dq, osq⟩, hw''⟩ := hw'
  subst hw''
  clear cP
  replace a0 := ma0 dq osq
  replace a1 := ma1 dq osq
  replace a2 := ma2 dq osq
  replace a3 := ma3 dq osq
  replace g0 := mg0 dq osq
  replace g1 := mg1 dq osq
  replace g2 := mg2 dq osq
  replace g3 := mg3 dq osq
  clear ma0 ma1 ma2 ma3 mg0 mg1 mg2 mg3
  replace hb0 := below_then hb0 (below_regrown W0 dq osq)
  generalize (grow (redrawn W0 dq) osq) = W0n at *
  go_wp2_with fail
  go_ret
  exact ⟨rfl, hb0⟩
/-- the reference's order -/
def lessV (k i : Int) (s : ByteArray) (b : Bool) (k2 i2 : Int) (s2 : ByteArray) (b2 : Bool) : Bool :=
  if placeV k b = placeV k2 b2 then (if k = 1 then decide (i < i2) else if k = 2 then Op.bytesLess s.toList s2.toList else false) else decide (placeV k b < placeV k2 b2)
theorem rless_any (k i : Int) (s : ByteArray) (b : Bool) (k2 i2 : Int) (s2 : ByteArray) (b2 : Bool) (w : World) :
    Calls Tryd.prog 20 #[.agg #[.int .u8 k, .int .i64 i, .string s, .bool b], .agg #[.int .u8 k2, .int .i64 i2, .string s2, .bool b2]] w fun e w' => e = .returned (.bool (lessV k i s b k2 i2 s2 b2)) ∧ Below w.heap.size w w' := by
  by_cases h : placeV k b = placeV k2 b2
  · by_cases h1 : k = 1
    · rw [show lessV k i s b k2 i2 s2 b2 = decide (i < i2) from by unfold lessV; rw [if_pos h, if_pos h1]]
      exact rless_1 k i s b k2 i2 s2 b2 w h (by simp [h1]) (by simp [h1])
    · by_cases h2 : k = 2
      · rw [show lessV k i s b k2 i2 s2 b2 = Op.bytesLess s.toList s2.toList from by unfold lessV; rw [if_pos h, if_neg h1, if_pos h2]]
        exact rless_2 k i s b k2 i2 s2 b2 w h (by simp [h2]) (by simp [h2])
      · rw [show lessV k i s b k2 i2 s2 b2 = false from by unfold lessV; rw [if_pos h, if_neg h1, if_neg h2]]
        exact rless_n k i s b k2 i2 s2 b2 w h (beq_eq_false_iff_ne.2 h1) (beq_eq_false_iff_ne.2 h2)
  · rw [show lessV k i s b k2 i2 s2 b2 = decide (placeV k b < placeV k2 b2) from by unfold lessV; rw [if_neg h]]
    exact rless_d k i s b k2 i2 s2 b2 w (beq_eq_false_iff_ne.2 h)
theorem rsame_l (k i : Int) (s : ByteArray) (b : Bool) (k2 i2 : Int) (s2 : ByteArray) (b2 : Bool) (w : World) (h : lessV k i s b k2 i2 s2 b2 = true) :
    Calls Tryd.prog 16 #[.agg #[.int .u8 k, .int .i64 i, .string s, .bool b], .agg #[.int .u8 k2, .int .i64 i2, .string s2, .bool b2]] w fun e w' => e = .returned (.bool false) ∧ Below w.heap.size w w' := by
  go_enter Tryd.func16, Tryd.ntmps16
  go_wp2_with fail
  refine (rless_any k i s b k2 i2 s2 b2 _).mono ?_
  rintro e w1 ⟨rfl, hb⟩
  obtain ⟨hc, hf⟩ := bcell hb
  simp at hc hf
  have hz := hb.size
  simp at hz
  have hb0 := bst2 hb
  clear hb
  go_wp2_with fail
  go_ret
  exact ⟨rfl, hb0⟩
theorem rsame_n (k i : Int) (s : ByteArray) (b : Bool) (k2 i2 : Int) (s2 : ByteArray) (b2 : Bool) (w : World) (h : lessV k i s b k2 i2 s2 b2 = false) :
    Calls Tryd.prog 16 #[.agg #[.int .u8 k, .int .i64 i, .string s, .bool b], .agg #[.int .u8 k2, .int .i64 i2, .string s2, .bool b2]] w fun e w' => e = .returned (.bool (!lessV k2 i2 s2 b2 k i s b)) ∧ Below w.heap.size w w' := by
  go_enter Tryd.func16, Tryd.ntmps16
  go_wp2_with fail
  refine (rless_any k i s b k2 i2 s2 b2 _).mono ?_
  rintro e w1 ⟨rfl, hb⟩
  obtain ⟨hc, hf⟩ := bcell hb
  simp at hc hf
  have hz := hb.size
  simp at hz
  have hb0 := bst2 hb
  clear hb
  go_wp2_with fail
  refine (rless_any k2 i2 s2 b2 k i s b _).mono ?_
  rintro e w2 ⟨rfl, hb⟩
  replace hc := fun b o (h : b < w.heap.size + 1 + 1) => ((bcell hb).1 b o (Nat.lt_of_lt_of_le h hz)).trans (hc b o h)
  replace hf := fun b o (h : b < w.heap.size + 1 + 1) => ((bcell hb).2 b o (Nat.lt_of_lt_of_le h hz)).trans (hf b o h)
  replace hb0 := below_then hb0 hb
  replace hz := Nat.le_trans hz hb.size
  clear hb
  go_wp2_with fail
  go_ret
  exact ⟨rfl, hb0⟩
def sameV (k i : Int) (s : ByteArray) (b : Bool) (k2 i2 : Int) (s2 : ByteArray) (b2 : Bool) : Bool := !lessV k i s b k2 i2 s2 b2 && !lessV k2 i2 s2 b2 k i s b
theorem rsame_any (k i : Int) (s : ByteArray) (b : Bool) (k2 i2 : Int) (s2 : ByteArray) (b2 : Bool) (w : World) :
    Calls Tryd.prog 16 #[.agg #[.int .u8 k, .int .i64 i, .string s, .bool b], .agg #[.int .u8 k2, .int .i64 i2, .string s2, .bool b2]] w fun e w' => e = .returned (.bool (sameV k i s b k2 i2 s2 b2)) ∧ Below w.heap.size w w' := by
  cases h : lessV k i s b k2 i2 s2 b2 with
  | true => rw [show sameV k i s b k2 i2 s2 b2 = false from by simp [sameV, h]]; exact rsame_l k i s b k2 i2 s2 b2 w h
  | false => rw [show sameV k i s b k2 i2 s2 b2 = !lessV k2 i2 s2 b2 k i s b from by simp [sameV, h]]; exact rsame_n k i s b k2 i2 s2 b2 w h
theorem rcomp_0 (k i : Int) (s : ByteArray) (b : Bool) (k2 i2 : Int) (s2 : ByteArray) (b2 : Bool) (w : World) (h : (k == 0) = true) :
    Calls Tryd.prog 19 #[.agg #[.int .u8 k, .int .i64 i, .string s, .bool b], .agg #[.int .u8 k2, .int .i64 i2, .string s2, .bool b2]] w fun e w' => e = .returned (.tuple #[.int .i64 0, .bool false, .int .i64 0]) ∧ Below w.heap.size w w' := by
  go_enter Tryd.func19, Tryd.ntmps19
  go_wp2_with fail
  go_ret3
  exact ⟨rfl, bel2 _ _ _ 0⟩
theorem rcomp_1 (k i : Int) (s : ByteArray) (b : Bool) (k2 i2 : Int) (s2 : ByteArray) (b2 : Bool) (w : World) (h : (k == 0) = false) (h2 : (k2 == 0) = true) :
    Calls Tryd.prog 19 #[.agg #[.int .u8 k, .int .i64 i, .string s, .bool b], .agg #[.int .u8 k2, .int .i64 i2, .string s2, .bool b2]] w fun e w' => e = .returned (.tuple #[.int .i64 0, .bool false, .int .i64 0]) ∧ Below w.heap.size w w' := by
  go_enter Tryd.func19, Tryd.ntmps19
  go_wp2_with fail
  go_ret3
  exact ⟨rfl, bel2 _ _ _ 0⟩
theorem rcomp_d (k i : Int) (s : ByteArray) (b : Bool) (k2 i2 : Int) (s2 : ByteArray) (b2 : Bool) (w : World) (h : (k == 0) = false) (h2 : (k2 == 0) = false) (hk : (k == k2) = false) :
    Calls Tryd.prog 19 #[.agg #[.int .u8 k, .int .i64 i, .string s, .bool b], .agg #[.int .u8 k2, .int .i64 i2, .string s2, .bool b2]] w fun e w' => e = .returned (.tuple #[.int .i64 0, .bool false, .int .i64 8]) ∧ Below w.heap.size w w' := by
  go_enter Tryd.func19, Tryd.ntmps19
  go_wp2_with fail
  go_ret3
  exact ⟨rfl, bel2 _ _ _ 0⟩
theorem rcomp_l (k i : Int) (s : ByteArray) (b : Bool) (i2 : Int) (s2 : ByteArray) (b2 : Bool) (w : World) (h : (k == 0) = false) (hl : lessV k i s b k i2 s2 b2 = true) :
    Calls Tryd.prog 19 #[.agg #[.int .u8 k, .int .i64 i, .string s, .bool b], .agg #[.int .u8 k, .int .i64 i2, .string s2, .bool b2]] w fun e w' => e = .returned (.tuple #[.int .i64 (-1), .bool true, .int .i64 0]) ∧ Below w.heap.size w w' := by
  go_enter Tryd.func19, Tryd.ntmps19
  go_wp2_with fail
  refine (rless_any k i s b k i2 s2 b2 _).mono ?_
  rintro e w1 ⟨rfl, hb⟩
  obtain ⟨hc, hf⟩ := bcell hb
  simp at hc hf
  have hz := hb.size
  simp at hz
  have hb0 := bst2 hb
  clear hb
  go_wp2_with fail
  go_ret3
  exact ⟨rfl, hb0⟩
theorem rcomp_g (k i : Int) (s : ByteArray) (b : Bool) (i2 : Int) (s2 : ByteArray) (b2 : Bool) (w : World) (h : (k == 0) = false) (hl : lessV k i s b k i2 s2 b2 = false) (hg : lessV k i2 s2 b2 k i s b = true) :
    Calls Tryd.prog 19 #[.agg #[.int .u8 k, .int .i64 i, .string s, .bool b], .agg #[.int .u8 k, .int .i64 i2, .string s2, .bool b2]] w fun e w' => e = .returned (.tuple #[.int .i64 1, .bool true, .int .i64 0]) ∧ Below w.heap.size w w' := by
  go_enter Tryd.func19, Tryd.ntmps19
  go_wp2_with fail
  refine (rless_any k i s b k i2 s2 b2 _).mono ?_
  rintro e w1 ⟨rfl, hb⟩
  obtain ⟨hc, hf⟩ := bcell hb
  simp at hc hf
  have hz := hb.size
  simp at hz
  have hb0 := bst2 hb
  clear hb
  go_wp2_with fail
  refine (rless_any k i2 s2 b2 k i s b _).mono ?_
  rintro e w2 ⟨rfl, hb⟩
  replace hc := fun b o (h : b < w.heap.size + 1 + 1) => ((bcell hb).1 b o (Nat.lt_of_lt_of_le h hz)).trans (hc b o h)
  replace hf := fun b o (h : b < w.heap.size + 1 + 1) => ((bcell hb).2 b o (Nat.lt_of_lt_of_le h hz)).trans (hf b o h)
  replace hb0 := below_then hb0 hb
  replace hz := Nat.le_trans hz hb.size
  clear hb
  go_wp2_with fail
  go_ret3
  exact ⟨rfl, hb0⟩
theorem rcomp_e (k i : Int) (s : ByteArray) (b : Bool) (i2 : Int) (s2 : ByteArray) (b2 : Bool) (w : World) (h : (k == 0) = false) (hl : lessV k i s b k i2 s2 b2 = false) (hg : lessV k i2 s2 b2 k i s b = false) :
    Calls Tryd.prog 19 #[.agg #[.int .u8 k, .int .i64 i, .string s, .bool b], .agg #[.int .u8 k, .int .i64 i2, .string s2, .bool b2]] w fun e w' => e = .returned (.tuple #[.int .i64 0, .bool true, .int .i64 0]) ∧ Below w.heap.size w w' := by
  go_enter Tryd.func19, Tryd.ntmps19
  go_wp2_with fail
  refine (rless_any k i s b k i2 s2 b2 _).mono ?_
  rintro e w1 ⟨rfl, hb⟩
  obtain ⟨hc, hf⟩ := bcell hb
  simp at hc hf
  have hz := hb.size
  simp at hz
  have hb0 := bst2 hb
  clear hb
  go_wp2_with fail
  refine (rless_any k i2 s2 b2 k i s b _).mono ?_
  rintro e w2 ⟨rfl, hb⟩
  replace hc := fun b o (h : b < w.heap.size + 1 + 1) => ((bcell hb).1 b o (Nat.lt_of_lt_of_le h hz)).trans (hc b o h)
  replace hf := fun b o (h : b < w.heap.size + 1 + 1) => ((bcell hb).2 b o (Nat.lt_of_lt_of_le h hz)).trans (hf b o h)
  replace hb0 := below_then hb0 hb
  replace hz := Nat.le_trans hz hb.size
  clear hb
  go_wp2_with fail
  go_ret3
  exact ⟨rfl, hb0⟩
theorem comp_0 (k i : Int) (s : ByteArray) (b : Bool) (k2 i2 : Int) (s2 : ByteArray) (b2 : Bool) (w : World) (h : any3 k = false) :
    Calls Tryd.prog 18 #[.agg #[.int .u8 k, .int .i64 i, .string s, .bool b], .agg #[.int .u8 k2, .int .i64 i2, .string s2, .bool b2]] w fun e w' => e = .returned (.tuple #[.int .i64 0, .bool false, .int .i64 0]) ∧ Below w.heap.size w w' := by
  go_enter Tryd.func18, Tryd.ntmps18
  go_wp2_with fail
  refine (open_any k i s b _).mono ?_
  rintro e w1 ⟨rfl, hb⟩
  obtain ⟨hc, hf⟩ := bcell hb
  simp at hc hf
  have hz := hb.size
  simp at hz
  have hb0 := bst2 hb
  clear hb
  go_wp2_with fail
  go_ret3
  exact ⟨rfl, hb0⟩
theorem comp_1 (k i : Int) (s : ByteArray) (b : Bool) (k2 i2 : Int) (s2 : ByteArray) (b2 : Bool) (w : World) (h : any3 k = true) (h2 : any3 k2 = false) :
    Calls Tryd.prog 18 #[.agg #[.int .u8 k, .int .i64 i, .string s, .bool b], .agg #[.int .u8 k2, .int .i64 i2, .string s2, .bool b2]] w fun e w' => e = .returned (.tuple #[.int .i64 0, .bool false, .int .i64 0]) ∧ Below w.heap.size w w' := by
  go_enter Tryd.func18, Tryd.ntmps18
  go_wp2_with fail
  refine (open_any k i s b _).mono ?_
  rintro e w1 ⟨rfl, hb⟩
  obtain ⟨hc, hf⟩ := bcell hb
  simp at hc hf
  have hz := hb.size
  simp at hz
  have hb0 := bst2 hb
  clear hb
  go_wp2_with fail
  refine (open_any k2 i2 s2 b2 _).mono ?_
  rintro e w2 ⟨rfl, hb⟩
  replace hc := fun b o (h : b < w.heap.size + 1 + 1) => ((bcell hb).1 b o (Nat.lt_of_lt_of_le h hz)).trans (hc b o h)
  replace hf := fun b o (h : b < w.heap.size + 1 + 1) => ((bcell hb).2 b o (Nat.lt_of_lt_of_le h hz)).trans (hf b o h)
  replace hb0 := below_then hb0 hb
  replace hz := Nat.le_trans hz hb.size
  clear hb
  go_wp2_with fail
  go_ret3
  exact ⟨rfl, hb0⟩
theorem comp_d (k i : Int) (s : ByteArray) (b : Bool) (k2 i2 : Int) (s2 : ByteArray) (b2 : Bool) (w : World) (h : any3 k = true) (h2 : any3 k2 = true) (hk : (k == k2) = false) :
    Calls Tryd.prog 18 #[.agg #[.int .u8 k, .int .i64 i, .string s, .bool b], .agg #[.int .u8 k2, .int .i64 i2, .string s2, .bool b2]] w fun e w' => e = .returned (.tuple #[.int .i64 0, .bool false, .int .i64 8]) ∧ Below w.heap.size w w' := by
  go_enter Tryd.func18, Tryd.ntmps18
  go_wp2_with fail
  refine (open_any k i s b _).mono ?_
  rintro e w1 ⟨rfl, hb⟩
  obtain ⟨hc, hf⟩ := bcell hb
  simp at hc hf
  have hz := hb.size
  simp at hz
  have hb0 := bst2 hb
  clear hb
  go_wp2_with fail
  refine (open_any k2 i2 s2 b2 _).mono ?_
  rintro e w2 ⟨rfl, hb⟩
  replace hc := fun b o (h : b < w.heap.size + 1 + 1) => ((bcell hb).1 b o (Nat.lt_of_lt_of_le h hz)).trans (hc b o h)
  replace hf := fun b o (h : b < w.heap.size + 1 + 1) => ((bcell hb).2 b o (Nat.lt_of_lt_of_le h hz)).trans (hf b o h)
  replace hb0 := below_then hb0 hb
  replace hz := Nat.le_trans hz hb.size
  clear hb
  go_wp2_with fail
  go_ret3
  exact ⟨rfl, hb0⟩
theorem comp_e (k i : Int) (s : ByteArray) (b : Bool) (i2 : Int) (s2 : ByteArray) (b2 : Bool) (w : World) (h : any3 k = true) :
    Calls Tryd.prog 18 #[.agg #[.int .u8 k, .int .i64 i, .string s, .bool b], .agg #[.int .u8 k, .int .i64 i2, .string s2, .bool b2]] w fun e w' => e = .returned (.tuple #[.int .i64 (orderV k i s b k i2 s2 b2), .bool true, .int .i64 0]) ∧ Below w.heap.size w w' := by
  go_enter Tryd.func18, Tryd.ntmps18
  go_wp2_with fail
  refine (open_any k i s b _).mono ?_
  rintro e w1 ⟨rfl, hb⟩
  obtain ⟨hc, hf⟩ := bcell hb
  simp at hc hf
  have hz := hb.size
  simp at hz
  have hb0 := bst2 hb
  clear hb
  go_wp2_with fail
  refine (open_any k i2 s2 b2 _).mono ?_
  rintro e w2 ⟨rfl, hb⟩
  replace hc := fun b o (h : b < w.heap.size + 1 + 1) => ((bcell hb).1 b o (Nat.lt_of_lt_of_le h hz)).trans (hc b o h)
  replace hf := fun b o (h : b < w.heap.size + 1 + 1) => ((bcell hb).2 b o (Nat.lt_of_lt_of_le h hz)).trans (hf b o h)
  replace hb0 := below_then hb0 hb
  replace hz := Nat.le_trans hz hb.size
  clear hb
  go_wp2_with fail
  refine (order_any k i s b k i2 s2 b2 _).mono ?_
  rintro e w3 ⟨rfl, hb⟩
  replace hc := fun b o (h : b < w.heap.size + 1 + 1) => ((bcell hb).1 b o (Nat.lt_of_lt_of_le h hz)).trans (hc b o h)
  replace hf := fun b o (h : b < w.heap.size + 1 + 1) => ((bcell hb).2 b o (Nat.lt_of_lt_of_le h hz)).trans (hf b o h)
  replace hb0 := below_then hb0 hb
  replace hz := Nat.le_trans hz hb.size
  clear hb
  go_wp2_with fail
  go_ret3
  exact ⟨rfl, hb0⟩
end Go.Proofs.YtpkohkhgimmkhaaDoor
