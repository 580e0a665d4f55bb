/-
  The walk of CellOrders. Conditions: the library's tables are as laid.
-/
import Derived.Test.YtpkohkhgimmkhaaDoorCellLaws2
import Derived.Test.YtpkohkhgimmkhaaDoorCellRefLess
namespace Go.Proofs.YtpkohkhgimmkhaaDoor
open Go.RowKit Go.Sort
set_option linter.unusedVariables false
set_option linter.unusedSimpArgs false

theorem orders_w0 (k i : Int) (s : ByteArray) (b : Bool) (k2 i2 : Int) (s2 : ByteArray) (b2 : Bool) (xc : Int) (xk : Bool) (xe : Int) (w : World) (he : Env w) (hr : Hid (rightV k i s b = false)) (hC : Hid (∀ w : World, Calls Tryd.prog 18 #[.agg #[.int .u8 k, .int .i64 i, .string s, .bool b], .agg #[.int .u8 k2, .int .i64 i2, .string s2, .bool b2]] w fun e w' => e = .returned (.tuple #[.int .i64 xc, .bool xk, .int .i64 xe]) ∧ Below w.heap.size w w')) :
    Calls Tryd.prog 5 #[.agg #[.int .u8 k, .int .i64 i, .string s, .bool b], .agg #[.int .u8 k2, .int .i64 i2, .string s2, .bool b2]] w fun e w' => e = .returned (.bool true) ∧ Below w.heap.size w w' := by
  go_enter Tryd.func5, Tryd.ntmps5
  go_wp2_with fail
  refine (awake_any _ (he.below (below_then (below1 _ _) (below1 _ _)))).mono ?_
  rintro e w1 ⟨rfl, hb⟩
  obtain ⟨f0_0, f0_1, f0_2, f0_3⟩ := (Box.alloc (Box.new _ _ _ _ _ _) _).keep hb
  have f0_z := block_of_cell f0_0
  obtain ⟨f1_0, f1_1, f1_2, f1_3⟩ := (Box.new _ _ _ _ _ _).keep hb
  have f1_z := block_of_cell f1_0
  simp only [size_alloc] at f1_0 f1_1 f1_2 f1_3 f1_z
  have hb0 := (below_then (below1 _ _) (below_then (below1 _ _) hb))
  clear hb
  go_wp2_with fail
  refine (right_is hr.out _).mono ?_
  rintro e w2 ⟨rfl, hb⟩
  obtain ⟨f0_0, f0_1, f0_2, f0_3⟩ := (Box.mk f0_0 f0_1 f0_2 f0_3).keep hb
  clear f0_z
  have f0_z := block_of_cell f0_0
  obtain ⟨f1_0, f1_1, f1_2, f1_3⟩ := (Box.mk f1_0 f1_1 f1_2 f1_3).keep hb
  clear f1_z
  have f1_z := block_of_cell f1_0
  replace hb0 := below_then hb0 hb
  clear hb
  go_wp2_with fail
  refine (less_any k i s b k2 i2 s2 b2 _).mono ?_
  rintro e w3 ⟨rfl, hb⟩
  obtain ⟨f0_0, f0_1, f0_2, f0_3⟩ := (Box.mk f0_0 f0_1 f0_2 f0_3).keep hb
  clear f0_z
  have f0_z := block_of_cell f0_0
  obtain ⟨f1_0, f1_1, f1_2, f1_3⟩ := (Box.mk f1_0 f1_1 f1_2 f1_3).keep hb
  clear f1_z
  have f1_z := block_of_cell f1_0
  replace hb0 := below_then hb0 hb
  clear hb
  go_wp2_with fail
  refine (hC.out _).mono ?_
  rintro e w4 ⟨rfl, hb⟩
  obtain ⟨f0_0, f0_1, f0_2, f0_3⟩ := (Box.mk f0_0 f0_1 f0_2 f0_3).keep hb
  clear f0_z
  have f0_z := block_of_cell f0_0
  obtain ⟨f1_0, f1_1, f1_2, f1_3⟩ := (Box.mk f1_0 f1_1 f1_2 f1_3).keep hb
  clear f1_z
  have f1_z := block_of_cell f1_0
  replace hb0 := below_then hb0 hb
  clear hb
  go_wp2_with fail
  go_ret
  exact ⟨rfl, hb0⟩
theorem orders_w1 (k i : Int) (s : ByteArray) (b : Bool) (k2 i2 : Int) (s2 : ByteArray) (b2 : Bool) (xc : Int) (xk : Bool) (xe : Int) (w : World) (he : Env w) (hr : Hid (rightV k i s b = true)) (hr2 : Hid (rightV k2 i2 s2 b2 = false)) (hC : Hid (∀ w : World, Calls Tryd.prog 18 #[.agg #[.int .u8 k, .int .i64 i, .string s, .bool b], .agg #[.int .u8 k2, .int .i64 i2, .string s2, .bool b2]] w fun e w' => e = .returned (.tuple #[.int .i64 xc, .bool xk, .int .i64 xe]) ∧ Below w.heap.size w w')) :
    Calls Tryd.prog 5 #[.agg #[.int .u8 k, .int .i64 i, .string s, .bool b], .agg #[.int .u8 k2, .int .i64 i2, .string s2, .bool b2]] w fun e w' => e = .returned (.bool true) ∧ Below w.heap.size w w' := by
  go_enter Tryd.func5, Tryd.ntmps5
  go_wp2_with fail
  refine (awake_any _ (he.below (below_then (below1 _ _) (below1 _ _)))).mono ?_
  rintro e w1 ⟨rfl, hb⟩
  obtain ⟨f0_0, f0_1, f0_2, f0_3⟩ := (Box.alloc (Box.new _ _ _ _ _ _) _).keep hb
  have f0_z := block_of_cell f0_0
  obtain ⟨f1_0, f1_1, f1_2, f1_3⟩ := (Box.new _ _ _ _ _ _).keep hb
  have f1_z := block_of_cell f1_0
  simp only [size_alloc] at f1_0 f1_1 f1_2 f1_3 f1_z
  have hb0 := (below_then (below1 _ _) (below_then (below1 _ _) hb))
  clear hb
  go_wp2_with fail
  refine (right_is hr.out _).mono ?_
  rintro e w2 ⟨rfl, hb⟩
  obtain ⟨f0_0, f0_1, f0_2, f0_3⟩ := (Box.mk f0_0 f0_1 f0_2 f0_3).keep hb
  clear f0_z
  have f0_z := block_of_cell f0_0
  obtain ⟨f1_0, f1_1, f1_2, f1_3⟩ := (Box.mk f1_0 f1_1 f1_2 f1_3).keep hb
  clear f1_z
  have f1_z := block_of_cell f1_0
  replace hb0 := below_then hb0 hb
  clear hb
  go_wp2_with fail
  refine (right_is hr2.out _).mono ?_
  rintro e w3 ⟨rfl, hb⟩
  obtain ⟨f0_0, f0_1, f0_2, f0_3⟩ := (Box.mk f0_0 f0_1 f0_2 f0_3).keep hb
  clear f0_z
  have f0_z := block_of_cell f0_0
  obtain ⟨f1_0, f1_1, f1_2, f1_3⟩ := (Box.mk f1_0 f1_1 f1_2 f1_3).keep hb
  clear f1_z
  have f1_z := block_of_cell f1_0
  replace hb0 := below_then hb0 hb
  clear hb
  go_wp2_with fail
  refine (less_any k i s b k2 i2 s2 b2 _).mono ?_
  rintro e w4 ⟨rfl, hb⟩
  obtain ⟨f0_0, f0_1, f0_2, f0_3⟩ := (Box.mk f0_0 f0_1 f0_2 f0_3).keep hb
  clear f0_z
  have f0_z := block_of_cell f0_0
  obtain ⟨f1_0, f1_1, f1_2, f1_3⟩ := (Box.mk f1_0 f1_1 f1_2 f1_3).keep hb
  clear f1_z
  have f1_z := block_of_cell f1_0
  replace hb0 := below_then hb0 hb
  clear hb
  go_wp2_with fail
  refine (hC.out _).mono ?_
  rintro e w5 ⟨rfl, hb⟩
  obtain ⟨f0_0, f0_1, f0_2, f0_3⟩ := (Box.mk f0_0 f0_1 f0_2 f0_3).keep hb
  clear f0_z
  have f0_z := block_of_cell f0_0
  obtain ⟨f1_0, f1_1, f1_2, f1_3⟩ := (Box.mk f1_0 f1_1 f1_2 f1_3).keep hb
  clear f1_z
  have f1_z := block_of_cell f1_0
  replace hb0 := below_then hb0 hb
  clear hb
  go_wp2_with fail
  go_ret
  exact ⟨rfl, hb0⟩
set_option maxRecDepth 100000 in
set_option maxHeartbeats 1000000 in
theorem orders_lt (k i : Int) (s : ByteArray) (b : Bool) (k2 i2 : Int) (s2 : ByteArray) (b2 : Bool) (xc xe : Int) (w : World) (he : Env w) (hr : Hid (rightV k i s b = true)) (hr2 : Hid (rightV k2 i2 s2 b2 = true)) (hC : Hid (∀ w : World, Calls Tryd.prog 18 #[.agg #[.int .u8 k, .int .i64 i, .string s, .bool b], .agg #[.int .u8 k2, .int .i64 i2, .string s2, .bool b2]] w fun e w' => e = .returned (.tuple #[.int .i64 xc, .bool true, .int .i64 xe]) ∧ Below w.heap.size w w')) (hD : Hid (∀ w : World, Calls Tryd.prog 19 #[.agg #[.int .u8 k, .int .i64 i, .string s, .bool b], .agg #[.int .u8 k2, .int .i64 i2, .string s2, .bool b2]] w fun e w' => e = .returned (.tuple #[.int .i64 xc, .bool true, .int .i64 xe]) ∧ Below w.heap.size w w')) (h1 : Hid (∀ w : World, Calls Tryd.prog 17 #[.agg #[.int .u8 k, .int .i64 i, .string s, .bool b], .agg #[.int .u8 k2, .int .i64 i2, .string s2, .bool b2]] w fun e w' => e = .returned (.bool true) ∧ Below w.heap.size w w')) (h2 : Hid (∀ w : World, Calls Tryd.prog 20 #[.agg #[.int .u8 k, .int .i64 i, .string s, .bool b], .agg #[.int .u8 k2, .int .i64 i2, .string s2, .bool b2]] w fun e w' => e = .returned (.bool true) ∧ Below w.heap.size w w')) (h3 : Hid (∀ w : World, Calls Tryd.prog 21 #[.agg #[.int .u8 k, .int .i64 i, .string s, .bool b], .agg #[.int .u8 k2, .int .i64 i2, .string s2, .bool b2]] w fun e w' => e = .returned (.bool false) ∧ Below w.heap.size w w')) (h4 : Hid (∀ w : World, Calls Tryd.prog 16 #[.agg #[.int .u8 k, .int .i64 i, .string s, .bool b], .agg #[.int .u8 k2, .int .i64 i2, .string s2, .bool b2]] w fun e w' => e = .returned (.bool false) ∧ Below w.heap.size w w')) (h5 : Hid (∀ w : World, Calls Tryd.prog 17 #[.agg #[.int .u8 k2, .int .i64 i2, .string s2, .bool b2], .agg #[.int .u8 k, .int .i64 i, .string s, .bool b]] w fun e w' => e = .returned (.bool false) ∧ Below w.heap.size w w')) :
    Calls Tryd.prog 5 #[.agg #[.int .u8 k, .int .i64 i, .string s, .bool b], .agg #[.int .u8 k2, .int .i64 i2, .string s2, .bool b2]] w fun e w' => e = .returned (.bool true) ∧ Below w.heap.size w w' := by
  go_enter Tryd.func5, Tryd.ntmps5
  go_wp2_with fail
  refine (awake_any _ (he.below (below_then (below1 _ _) (below1 _ _)))).mono ?_
  rintro e w1 ⟨rfl, hb⟩
  obtain ⟨f0_0, f0_1, f0_2, f0_3⟩ := (Box.alloc (Box.new _ _ _ _ _ _) _).keep hb
  have f0_z := block_of_cell f0_0
  obtain ⟨f1_0, f1_1, f1_2, f1_3⟩ := (Box.new _ _ _ _ _ _).keep hb
  have f1_z := block_of_cell f1_0
  simp only [size_alloc] at f1_0 f1_1 f1_2 f1_3 f1_z
  have hb0 := (below_then (below1 _ _) (below_then (below1 _ _) hb))
  clear hb
  go_wp2_with fail
  refine (right_is hr.out _).mono ?_
  rintro e w2 ⟨rfl, hb⟩
  obtain ⟨f0_0, f0_1, f0_2, f0_3⟩ := (Box.mk f0_0 f0_1 f0_2 f0_3).keep hb
  clear f0_z
  have f0_z := block_of_cell f0_0
  obtain ⟨f1_0, f1_1, f1_2, f1_3⟩ := (Box.mk f1_0 f1_1 f1_2 f1_3).keep hb
  clear f1_z
  have f1_z := block_of_cell f1_0
  replace hb0 := below_then hb0 hb
  clear hb
  go_wp2_with fail
  refine (right_is hr2.out _).mono ?_
  rintro e w3 ⟨rfl, hb⟩
  obtain ⟨f0_0, f0_1, f0_2, f0_3⟩ := (Box.mk f0_0 f0_1 f0_2 f0_3).keep hb
  clear f0_z
  have f0_z := block_of_cell f0_0
  obtain ⟨f1_0, f1_1, f1_2, f1_3⟩ := (Box.mk f1_0 f1_1 f1_2 f1_3).keep hb
  clear f1_z
  have f1_z := block_of_cell f1_0
  replace hb0 := below_then hb0 hb
  clear hb
  go_wp2_with fail
  refine (hC.out _).mono ?_
  rintro e w4 ⟨rfl, hb⟩
  obtain ⟨f0_0, f0_1, f0_2, f0_3⟩ := (Box.mk f0_0 f0_1 f0_2 f0_3).keep hb
  clear f0_z
  have f0_z := block_of_cell f0_0
  obtain ⟨f1_0, f1_1, f1_2, f1_3⟩ := (Box.mk f1_0 f1_1 f1_2 f1_3).keep hb
  clear f1_z
  have f1_z := block_of_cell f1_0
  replace hb0 := below_then hb0 hb
  clear hb
  go_wp2_with fail
  refine (hD.out _).mono ?_
  rintro e w5 ⟨rfl, hb⟩
  obtain ⟨f0_0, f0_1, f0_2, f0_3⟩ := (Box.mk f0_0 f0_1 f0_2 f0_3).keep hb
  clear f0_z
  have f0_z := block_of_cell f0_0
  obtain ⟨f1_0, f1_1, f1_2, f1_3⟩ := (Box.mk f1_0 f1_1 f1_2 f1_3).keep hb
  clear f1_z
  have f1_z := block_of_cell f1_0
  replace hb0 := below_then hb0 hb
  clear hb
  go_wp2_with fail
  have mf0_0 := fun d os => cell_regrown f0_0 d os
  have mf0_1 := fun d os => cell_regrown f0_1 d os
  have mf0_2 := fun d os => cell_regrown f0_2 d os
  have mf0_3 := fun d os => cell_regrown f0_3 d os
  have mf1_0 := fun d os => cell_regrown f1_0 d os
  have mf1_1 := fun d os => cell_regrown f1_1 d os
  have mf1_2 := fun d os => cell_regrown f1_2 d os
  have mf1_3 := fun d os => cell_regrown f1_3 d os
  have qh1 := fun d os => Calls.regrown_of (w := w5) (d := d) (os := os) (h1.out _)
  have qh2 := fun d os => Calls.regrown_of (w := w5) (d := d) (os := os) (h2.out _)
  have qh3 := fun d os => Calls.regrown_of (w := w5) (d := d) (os := os) (h3.out _)
  have qh4 := fun d os => Calls.regrown_of (w := w5) (d := d) (os := os) (h4.out _)
  have qh5 := fun d os => Calls.regrown_of (w := w5) (d := d) (os := os) (h5.out _)
  refine wp_region_quiet_below (by kernel_rfl) (by kernel_rfl) ?_
  repeat (go_big_quiet_step (first | with_reducible exact qh1 _ _ | with_reducible exact qh2 _ _ | with_reducible exact qh3 _ _ | with_reducible exact qh4 _ _ | with_reducible exact qh5 _ _))
  refine wpQuiet_nil ?_
  intro _ hw'
  obtain ⟨⟨dq, osq⟩, hw''⟩ := hw'
  subst hw''
  clear qh1 qh2 qh3 qh4 qh5
  replace f0_0 := mf0_0 dq osq
  replace f0_1 := mf0_1 dq osq
  replace f0_2 := mf0_2 dq osq
  replace f0_3 := mf0_3 dq osq
  replace f1_0 := mf1_0 dq osq
  replace f1_1 := mf1_1 dq osq
  replace f1_2 := mf1_2 dq osq
  replace f1_3 := mf1_3 dq osq
  clear mf0_0 mf0_1 mf0_2 mf0_3 mf1_0 mf1_1 mf1_2 mf1_3
  clear f0_z
  have f0_z := block_of_cell f0_0
  clear f1_z
  have f1_z := block_of_cell f1_0
  replace hb0 := below_then hb0 (below_regrown w5 dq osq)
  generalize (grow (redrawn w5 dq) osq) = w5n at *
  go_wp2_with fail
  go_ret
  exact ⟨rfl, hb0⟩
set_option maxRecDepth 100000 in
set_option maxHeartbeats 1000000 in
theorem orders_lf (k i : Int) (s : ByteArray) (b : Bool) (k2 i2 : Int) (s2 : ByteArray) (b2 : Bool) (xc xe : Int) (w : World) (he : Env w) (hr : Hid (rightV k i s b = true)) (hr2 : Hid (rightV k2 i2 s2 b2 = true)) (hC : Hid (∀ w : World, Calls Tryd.prog 18 #[.agg #[.int .u8 k, .int .i64 i, .string s, .bool b], .agg #[.int .u8 k2, .int .i64 i2, .string s2, .bool b2]] w fun e w' => e = .returned (.tuple #[.int .i64 xc, .bool false, .int .i64 xe]) ∧ Below w.heap.size w w')) (hD : Hid (∀ w : World, Calls Tryd.prog 19 #[.agg #[.int .u8 k, .int .i64 i, .string s, .bool b], .agg #[.int .u8 k2, .int .i64 i2, .string s2, .bool b2]] w fun e w' => e = .returned (.tuple #[.int .i64 xc, .bool false, .int .i64 xe]) ∧ Below w.heap.size w w')) (h1 : Hid (∀ w : World, Calls Tryd.prog 17 #[.agg #[.int .u8 k, .int .i64 i, .string s, .bool b], .agg #[.int .u8 k2, .int .i64 i2, .string s2, .bool b2]] w fun e w' => e = .returned (.bool true) ∧ Below w.heap.size w w')) (h2 : Hid (∀ w : World, Calls Tryd.prog 20 #[.agg #[.int .u8 k, .int .i64 i, .string s, .bool b], .agg #[.int .u8 k2, .int .i64 i2, .string s2, .bool b2]] w fun e w' => e = .returned (.bool true) ∧ Below w.heap.size w w')) (h3 : Hid (∀ w : World, Calls Tryd.prog 21 #[.agg #[.int .u8 k, .int .i64 i, .string s, .bool b], .agg #[.int .u8 k2, .int .i64 i2, .string s2, .bool b2]] w fun e w' => e = .returned (.bool false) ∧ Below w.heap.size w w')) (h4 : Hid (∀ w : World, Calls Tryd.prog 16 #[.agg #[.int .u8 k, .int .i64 i, .string s, .bool b], .agg #[.int .u8 k2, .int .i64 i2, .string s2, .bool b2]] w fun e w' => e = .returned (.bool false) ∧ Below w.heap.size w w')) (h5 : Hid (∀ w : World, Calls Tryd.prog 17 #[.agg #[.int .u8 k2, .int .i64 i2, .string s2, .bool b2], .agg #[.int .u8 k, .int .i64 i, .string s, .bool b]] w fun e w' => e = .returned (.bool false) ∧ Below w.heap.size w w')) :
    Calls Tryd.prog 5 #[.agg #[.int .u8 k, .int .i64 i, .string s, .bool b], .agg #[.int .u8 k2, .int .i64 i2, .string s2, .bool b2]] w fun e w' => e = .returned (.bool true) ∧ Below w.heap.size w w' := by
  go_enter Tryd.func5, Tryd.ntmps5
  go_wp2_with fail
  refine (awake_any _ (he.below (below_then (below1 _ _) (below1 _ _)))).mono ?_
  rintro e w1 ⟨rfl, hb⟩
  obtain ⟨f0_0, f0_1, f0_2, f0_3⟩ := (Box.alloc (Box.new _ _ _ _ _ _) _).keep hb
  have f0_z := block_of_cell f0_0
  obtain ⟨f1_0, f1_1, f1_2, f1_3⟩ := (Box.new _ _ _ _ _ _).keep hb
  have f1_z := block_of_cell f1_0
  simp only [size_alloc] at f1_0 f1_1 f1_2 f1_3 f1_z
  have hb0 := (below_then (below1 _ _) (below_then (below1 _ _) hb))
  clear hb
  go_wp2_with fail
  refine (right_is hr.out _).mono ?_
  rintro e w2 ⟨rfl, hb⟩
  obtain ⟨f0_0, f0_1, f0_2, f0_3⟩ := (Box.mk f0_0 f0_1 f0_2 f0_3).keep hb
  clear f0_z
  have f0_z := block_of_cell f0_0
  obtain ⟨f1_0, f1_1, f1_2, f1_3⟩ := (Box.mk f1_0 f1_1 f1_2 f1_3).keep hb
  clear f1_z
  have f1_z := block_of_cell f1_0
  replace hb0 := below_then hb0 hb
  clear hb
  go_wp2_with fail
  refine (right_is hr2.out _).mono ?_
  rintro e w3 ⟨rfl, hb⟩
  obtain ⟨f0_0, f0_1, f0_2, f0_3⟩ := (Box.mk f0_0 f0_1 f0_2 f0_3).keep hb
  clear f0_z
  have f0_z := block_of_cell f0_0
  obtain ⟨f1_0, f1_1, f1_2, f1_3⟩ := (Box.mk f1_0 f1_1 f1_2 f1_3).keep hb
  clear f1_z
  have f1_z := block_of_cell f1_0
  replace hb0 := below_then hb0 hb
  clear hb
  go_wp2_with fail
  refine (hC.out _).mono ?_
  rintro e w4 ⟨rfl, hb⟩
  obtain ⟨f0_0, f0_1, f0_2, f0_3⟩ := (Box.mk f0_0 f0_1 f0_2 f0_3).keep hb
  clear f0_z
  have f0_z := block_of_cell f0_0
  obtain ⟨f1_0, f1_1, f1_2, f1_3⟩ := (Box.mk f1_0 f1_1 f1_2 f1_3).keep hb
  clear f1_z
  have f1_z := block_of_cell f1_0
  replace hb0 := below_then hb0 hb
  clear hb
  go_wp2_with fail
  refine (hD.out _).mono ?_
  rintro e w5 ⟨rfl, hb⟩
  obtain ⟨f0_0, f0_1, f0_2, f0_3⟩ := (Box.mk f0_0 f0_1 f0_2 f0_3).keep hb
  clear f0_z
  have f0_z := block_of_cell f0_0
  obtain ⟨f1_0, f1_1, f1_2, f1_3⟩ := (Box.mk f1_0 f1_1 f1_2 f1_3).keep hb
  clear f1_z
  have f1_z := block_of_cell f1_0
  replace hb0 := below_then hb0 hb
  clear hb
  go_wp2_with fail
  have mf0_0 := fun d os => cell_regrown f0_0 d os
  have mf0_1 := fun d os => cell_regrown f0_1 d os
  have mf0_2 := fun d os => cell_regrown f0_2 d os
  have mf0_3 := fun d os => cell_regrown f0_3 d os
  have mf1_0 := fun d os => cell_regrown f1_0 d os
  have mf1_1 := fun d os => cell_regrown f1_1 d os
  have mf1_2 := fun d os => cell_regrown f1_2 d os
  have mf1_3 := fun d os => cell_regrown f1_3 d os
  have qh1 := fun d os => Calls.regrown_of (w := w5) (d := d) (os := os) (h1.out _)
  have qh2 := fun d os => Calls.regrown_of (w := w5) (d := d) (os := os) (h2.out _)
  have qh3 := fun d os => Calls.regrown_of (w := w5) (d := d) (os := os) (h3.out _)
  have qh4 := fun d os => Calls.regrown_of (w := w5) (d := d) (os := os) (h4.out _)
  have qh5 := fun d os => Calls.regrown_of (w := w5) (d := d) (os := os) (h5.out _)
  refine wp_region_quiet_below (by kernel_rfl) (by kernel_rfl) ?_
  repeat (go_big_quiet_step (first | with_reducible exact qh1 _ _ | with_reducible exact qh2 _ _ | with_reducible exact qh3 _ _ | with_reducible exact qh4 _ _ | with_reducible exact qh5 _ _))
  refine wpQuiet_nil ?_
  intro _ hw'
  obtain ⟨⟨dq, osq⟩, hw''⟩ := hw'
  subst hw''
  clear qh1 qh2 qh3 qh4 qh5
  replace f0_0 := mf0_0 dq osq
  replace f0_1 := mf0_1 dq osq
  replace f0_2 := mf0_2 dq osq
  replace f0_3 := mf0_3 dq osq
  replace f1_0 := mf1_0 dq osq
  replace f1_1 := mf1_1 dq osq
  replace f1_2 := mf1_2 dq osq
  replace f1_3 := mf1_3 dq osq
  clear mf0_0 mf0_1 mf0_2 mf0_3 mf1_0 mf1_1 mf1_2 mf1_3
  clear f0_z
  have f0_z := block_of_cell f0_0
  clear f1_z
  have f1_z := block_of_cell f1_0
  replace hb0 := below_then hb0 (below_regrown w5 dq osq)
  generalize (grow (redrawn w5 dq) osq) = w5n at *
  go_wp2_with fail
  go_ret
  exact ⟨rfl, hb0⟩
set_option maxRecDepth 100000 in
set_option maxHeartbeats 1000000 in
theorem orders_gt (k i : Int) (s : ByteArray) (b : Bool) (k2 i2 : Int) (s2 : ByteArray) (b2 : Bool) (xc xe : Int) (w : World) (he : Env w) (hr : Hid (rightV k i s b = true)) (hr2 : Hid (rightV k2 i2 s2 b2 = true)) (hC : Hid (∀ w : World, Calls Tryd.prog 18 #[.agg #[.int .u8 k, .int .i64 i, .string s, .bool b], .agg #[.int .u8 k2, .int .i64 i2, .string s2, .bool b2]] w fun e w' => e = .returned (.tuple #[.int .i64 xc, .bool true, .int .i64 xe]) ∧ Below w.heap.size w w')) (hD : Hid (∀ w : World, Calls Tryd.prog 19 #[.agg #[.int .u8 k, .int .i64 i, .string s, .bool b], .agg #[.int .u8 k2, .int .i64 i2, .string s2, .bool b2]] w fun e w' => e = .returned (.tuple #[.int .i64 xc, .bool true, .int .i64 xe]) ∧ Below w.heap.size w w')) (h1 : Hid (∀ w : World, Calls Tryd.prog 17 #[.agg #[.int .u8 k, .int .i64 i, .string s, .bool b], .agg #[.int .u8 k2, .int .i64 i2, .string s2, .bool b2]] w fun e w' => e = .returned (.bool false) ∧ Below w.heap.size w w')) (h2 : Hid (∀ w : World, Calls Tryd.prog 20 #[.agg #[.int .u8 k, .int .i64 i, .string s, .bool b], .agg #[.int .u8 k2, .int .i64 i2, .string s2, .bool b2]] w fun e w' => e = .returned (.bool false) ∧ Below w.heap.size w w')) (h3 : Hid (∀ w : World, Calls Tryd.prog 21 #[.agg #[.int .u8 k, .int .i64 i, .string s, .bool b], .agg #[.int .u8 k2, .int .i64 i2, .string s2, .bool b2]] w fun e w' => e = .returned (.bool false) ∧ Below w.heap.size w w')) (h4 : Hid (∀ w : World, Calls Tryd.prog 16 #[.agg #[.int .u8 k, .int .i64 i, .string s, .bool b], .agg #[.int .u8 k2, .int .i64 i2, .string s2, .bool b2]] w fun e w' => e = .returned (.bool false) ∧ Below w.heap.size w w')) :
    Calls Tryd.prog 5 #[.agg #[.int .u8 k, .int .i64 i, .string s, .bool b], .agg #[.int .u8 k2, .int .i64 i2, .string s2, .bool b2]] w fun e w' => e = .returned (.bool true) ∧ Below w.heap.size w w' := by
  go_enter Tryd.func5, Tryd.ntmps5
  go_wp2_with fail
  refine (awake_any _ (he.below (below_then (below1 _ _) (below1 _ _)))).mono ?_
  rintro e w1 ⟨rfl, hb⟩
  obtain ⟨f0_0, f0_1, f0_2, f0_3⟩ := (Box.alloc (Box.new _ _ _ _ _ _) _).keep hb
  have f0_z := block_of_cell f0_0
  obtain ⟨f1_0, f1_1, f1_2, f1_3⟩ := (Box.new _ _ _ _ _ _).keep hb
  have f1_z := block_of_cell f1_0
  simp only [size_alloc] at f1_0 f1_1 f1_2 f1_3 f1_z
  have hb0 := (below_then (below1 _ _) (below_then (below1 _ _) hb))
  clear hb
  go_wp2_with fail
  refine (right_is hr.out _).mono ?_
  rintro e w2 ⟨rfl, hb⟩
  obtain ⟨f0_0, f0_1, f0_2, f0_3⟩ := (Box.mk f0_0 f0_1 f0_2 f0_3).keep hb
  clear f0_z
  have f0_z := block_of_cell f0_0
  obtain ⟨f1_0, f1_1, f1_2, f1_3⟩ := (Box.mk f1_0 f1_1 f1_2 f1_3).keep hb
  clear f1_z
  have f1_z := block_of_cell f1_0
  replace hb0 := below_then hb0 hb
  clear hb
  go_wp2_with fail
  refine (right_is hr2.out _).mono ?_
  rintro e w3 ⟨rfl, hb⟩
  obtain ⟨f0_0, f0_1, f0_2, f0_3⟩ := (Box.mk f0_0 f0_1 f0_2 f0_3).keep hb
  clear f0_z
  have f0_z := block_of_cell f0_0
  obtain ⟨f1_0, f1_1, f1_2, f1_3⟩ := (Box.mk f1_0 f1_1 f1_2 f1_3).keep hb
  clear f1_z
  have f1_z := block_of_cell f1_0
  replace hb0 := below_then hb0 hb
  clear hb
  go_wp2_with fail
  refine (hC.out _).mono ?_
  rintro e w4 ⟨rfl, hb⟩
  obtain ⟨f0_0, f0_1, f0_2, f0_3⟩ := (Box.mk f0_0 f0_1 f0_2 f0_3).keep hb
  clear f0_z
  have f0_z := block_of_cell f0_0
  obtain ⟨f1_0, f1_1, f1_2, f1_3⟩ := (Box.mk f1_0 f1_1 f1_2 f1_3).keep hb
  clear f1_z
  have f1_z := block_of_cell f1_0
  replace hb0 := below_then hb0 hb
  clear hb
  go_wp2_with fail
  refine (hD.out _).mono ?_
  rintro e w5 ⟨rfl, hb⟩
  obtain ⟨f0_0, f0_1, f0_2, f0_3⟩ := (Box.mk f0_0 f0_1 f0_2 f0_3).keep hb
  clear f0_z
  have f0_z := block_of_cell f0_0
  obtain ⟨f1_0, f1_1, f1_2, f1_3⟩ := (Box.mk f1_0 f1_1 f1_2 f1_3).keep hb
  clear f1_z
  have f1_z := block_of_cell f1_0
  replace hb0 := below_then hb0 hb
  clear hb
  go_wp2_with fail
  have mf0_0 := fun d os => cell_regrown f0_0 d os
  have mf0_1 := fun d os => cell_regrown f0_1 d os
  have mf0_2 := fun d os => cell_regrown f0_2 d os
  have mf0_3 := fun d os => cell_regrown f0_3 d os
  have mf1_0 := fun d os => cell_regrown f1_0 d os
  have mf1_1 := fun d os => cell_regrown f1_1 d os
  have mf1_2 := fun d os => cell_regrown f1_2 d os
  have mf1_3 := fun d os => cell_regrown f1_3 d os
  have qh1 := fun d os => Calls.regrown_of (w := w5) (d := d) (os := os) (h1.out _)
  have qh2 := fun d os => Calls.regrown_of (w := w5) (d := d) (os := os) (h2.out _)
  have qh3 := fun d os => Calls.regrown_of (w := w5) (d := d) (os := os) (h3.out _)
  have qh4 := fun d os => Calls.regrown_of (w := w5) (d := d) (os := os) (h4.out _)
  refine wp_region_quiet_below (by kernel_rfl) (by kernel_rfl) ?_
  repeat (go_big_quiet_step (first | with_reducible exact qh1 _ _ | with_reducible exact qh2 _ _ | with_reducible exact qh3 _ _ | with_reducible exact qh4 _ _))
  refine wpQuiet_nil ?_
  intro _ hw'
  obtain ⟨⟨dq, osq⟩, hw''⟩ := hw'
  subst hw''
  clear qh1 qh2 qh3 qh4
  replace f0_0 := mf0_0 dq osq
  replace f0_1 := mf0_1 dq osq
  replace f0_2 := mf0_2 dq osq
  replace f0_3 := mf0_3 dq osq
  replace f1_0 := mf1_0 dq osq
  replace f1_1 := mf1_1 dq osq
  replace f1_2 := mf1_2 dq osq
  replace f1_3 := mf1_3 dq osq
  clear mf0_0 mf0_1 mf0_2 mf0_3 mf1_0 mf1_1 mf1_2 mf1_3
  clear f0_z
  have f0_z := block_of_cell f0_0
  clear f1_z
  have f1_z := block_of_cell f1_0
  replace hb0 := below_then hb0 (below_regrown w5 dq osq)
  generalize (grow (redrawn w5 dq) osq) = w5n at *
  go_wp2_with fail
  go_ret
  exact ⟨rfl, hb0⟩
set_option maxRecDepth 100000 in
set_option maxHeartbeats 1000000 in
theorem orders_gf (k i : Int) (s : ByteArray) (b : Bool) (k2 i2 : Int) (s2 : ByteArray) (b2 : Bool) (xc xe : Int) (w : World) (he : Env w) (hr : Hid (rightV k i s b = true)) (hr2 : Hid (rightV k2 i2 s2 b2 = true)) (hC : Hid (∀ w : World, Calls Tryd.prog 18 #[.agg #[.int .u8 k, .int .i64 i, .string s, .bool b], .agg #[.int .u8 k2, .int .i64 i2, .string s2, .bool b2]] w fun e w' => e = .returned (.tuple #[.int .i64 xc, .bool false, .int .i64 xe]) ∧ Below w.heap.size w w')) (hD : Hid (∀ w : World, Calls Tryd.prog 19 #[.agg #[.int .u8 k, .int .i64 i, .string s, .bool b], .agg #[.int .u8 k2, .int .i64 i2, .string s2, .bool b2]] w fun e w' => e = .returned (.tuple #[.int .i64 xc, .bool false, .int .i64 xe]) ∧ Below w.heap.size w w')) (h1 : Hid (∀ w : World, Calls Tryd.prog 17 #[.agg #[.int .u8 k, .int .i64 i, .string s, .bool b], .agg #[.int .u8 k2, .int .i64 i2, .string s2, .bool b2]] w fun e w' => e = .returned (.bool false) ∧ Below w.heap.size w w')) (h2 : Hid (∀ w : World, Calls Tryd.prog 20 #[.agg #[.int .u8 k, .int .i64 i, .string s, .bool b], .agg #[.int .u8 k2, .int .i64 i2, .string s2, .bool b2]] w fun e w' => e = .returned (.bool false) ∧ Below w.heap.size w w')) (h3 : Hid (∀ w : World, Calls Tryd.prog 21 #[.agg #[.int .u8 k, .int .i64 i, .string s, .bool b], .agg #[.int .u8 k2, .int .i64 i2, .string s2, .bool b2]] w fun e w' => e = .returned (.bool false) ∧ Below w.heap.size w w')) (h4 : Hid (∀ w : World, Calls Tryd.prog 16 #[.agg #[.int .u8 k, .int .i64 i, .string s, .bool b], .agg #[.int .u8 k2, .int .i64 i2, .string s2, .bool b2]] w fun e w' => e = .returned (.bool false) ∧ Below w.heap.size w w')) :
    Calls Tryd.prog 5 #[.agg #[.int .u8 k, .int .i64 i, .string s, .bool b], .agg #[.int .u8 k2, .int .i64 i2, .string s2, .bool b2]] w fun e w' => e = .returned (.bool true) ∧ Below w.heap.size w w' := by
  go_enter Tryd.func5, Tryd.ntmps5
  go_wp2_with fail
  refine (awake_any _ (he.below (below_then (below1 _ _) (below1 _ _)))).mono ?_
  rintro e w1 ⟨rfl, hb⟩
  obtain ⟨f0_0, f0_1, f0_2, f0_3⟩ := (Box.alloc (Box.new _ _ _ _ _ _) _).keep hb
  have f0_z := block_of_cell f0_0
  obtain ⟨f1_0, f1_1, f1_2, f1_3⟩ := (Box.new _ _ _ _ _ _).keep hb
  have f1_z := block_of_cell f1_0
  simp only [size_alloc] at f1_0 f1_1 f1_2 f1_3 f1_z
  have hb0 := (below_then (below1 _ _) (below_then (below1 _ _) hb))
  clear hb
  go_wp2_with fail
  refine (right_is hr.out _).mono ?_
  rintro e w2 ⟨rfl, hb⟩
  obtain ⟨f0_0, f0_1, f0_2, f0_3⟩ := (Box.mk f0_0 f0_1 f0_2 f0_3).keep hb
  clear f0_z
  have f0_z := block_of_cell f0_0
  obtain ⟨f1_0, f1_1, f1_2, f1_3⟩ := (Box.mk f1_0 f1_1 f1_2 f1_3).keep hb
  clear f1_z
  have f1_z := block_of_cell f1_0
  replace hb0 := below_then hb0 hb
  clear hb
  go_wp2_with fail
  refine (right_is hr2.out _).mono ?_
  rintro e w3 ⟨rfl, hb⟩
  obtain ⟨f0_0, f0_1, f0_2, f0_3⟩ := (Box.mk f0_0 f0_1 f0_2 f0_3).keep hb
  clear f0_z
  have f0_z := block_of_cell f0_0
  obtain ⟨f1_0, f1_1, f1_2, f1_3⟩ := (Box.mk f1_0 f1_1 f1_2 f1_3).keep hb
  clear f1_z
  have f1_z := block_of_cell f1_0
  replace hb0 := below_then hb0 hb
  clear hb
  go_wp2_with fail
  refine (hC.out _).mono ?_
  rintro e w4 ⟨rfl, hb⟩
  obtain ⟨f0_0, f0_1, f0_2, f0_3⟩ := (Box.mk f0_0 f0_1 f0_2 f0_3).keep hb
  clear f0_z
  have f0_z := block_of_cell f0_0
  obtain ⟨f1_0, f1_1, f1_2, f1_3⟩ := (Box.mk f1_0 f1_1 f1_2 f1_3).keep hb
  clear f1_z
  have f1_z := block_of_cell f1_0
  replace hb0 := below_then hb0 hb
  clear hb
  go_wp2_with fail
  refine (hD.out _).mono ?_
  rintro e w5 ⟨rfl, hb⟩
  obtain ⟨f0_0, f0_1, f0_2, f0_3⟩ := (Box.mk f0_0 f0_1 f0_2 f0_3).keep hb
  clear f0_z
  have f0_z := block_of_cell f0_0
  obtain ⟨f1_0, f1_1, f1_2, f1_3⟩ := (Box.mk f1_0 f1_1 f1_2 f1_3).keep hb
  clear f1_z
  have f1_z := block_of_cell f1_0
  replace hb0 := below_then hb0 hb
  clear hb
  go_wp2_with fail
  have mf0_0 := fun d os => cell_regrown f0_0 d os
  have mf0_1 := fun d os => cell_regrown f0_1 d os
  have mf0_2 := fun d os => cell_regrown f0_2 d os
  have mf0_3 := fun d os => cell_regrown f0_3 d os
  have mf1_0 := fun d os => cell_regrown f1_0 d os
  have mf1_1 := fun d os => cell_regrown f1_1 d os
  have mf1_2 := fun d os => cell_regrown f1_2 d os
  have mf1_3 := fun d os => cell_regrown f1_3 d os
  have qh1 := fun d os => Calls.regrown_of (w := w5) (d := d) (os := os) (h1.out _)
  have qh2 := fun d os => Calls.regrown_of (w := w5) (d := d) (os := os) (h2.out _)
  have qh3 := fun d os => Calls.regrown_of (w := w5) (d := d) (os := os) (h3.out _)
  have qh4 := fun d os => Calls.regrown_of (w := w5) (d := d) (os := os) (h4.out _)
  refine wp_region_quiet_below (by kernel_rfl) (by kernel_rfl) ?_
  repeat (go_big_quiet_step (first | with_reducible exact qh1 _ _ | with_reducible exact qh2 _ _ | with_reducible exact qh3 _ _ | with_reducible exact qh4 _ _))
  refine wpQuiet_nil ?_
  intro _ hw'
  obtain ⟨⟨dq, osq⟩, hw''⟩ := hw'
  subst hw''
  clear qh1 qh2 qh3 qh4
  replace f0_0 := mf0_0 dq osq
  replace f0_1 := mf0_1 dq osq
  replace f0_2 := mf0_2 dq osq
  replace f0_3 := mf0_3 dq osq
  replace f1_0 := mf1_0 dq osq
  replace f1_1 := mf1_1 dq osq
  replace f1_2 := mf1_2 dq osq
  replace f1_3 := mf1_3 dq osq
  clear mf0_0 mf0_1 mf0_2 mf0_3 mf1_0 mf1_1 mf1_2 mf1_3
  clear f0_z
  have f0_z := block_of_cell f0_0
  clear f1_z
  have f1_z := block_of_cell f1_0
  replace hb0 := below_then hb0 (below_regrown w5 dq osq)
  generalize (grow (redrawn w5 dq) osq) = w5n at *
  go_wp2_with fail
  go_ret
  exact ⟨rfl, hb0⟩
set_option maxRecDepth 100000 in
set_option maxHeartbeats 1000000 in
theorem orders_et (k i : Int) (s : ByteArray) (b : Bool) (k2 i2 : Int) (s2 : ByteArray) (b2 : Bool) (xc xe : Int) (w : World) (he : Env w) (hr : Hid (rightV k i s b = true)) (hr2 : Hid (rightV k2 i2 s2 b2 = true)) (hC : Hid (∀ w : World, Calls Tryd.prog 18 #[.agg #[.int .u8 k, .int .i64 i, .string s, .bool b], .agg #[.int .u8 k2, .int .i64 i2, .string s2, .bool b2]] w fun e w' => e = .returned (.tuple #[.int .i64 xc, .bool true, .int .i64 xe]) ∧ Below w.heap.size w w')) (hD : Hid (∀ w : World, Calls Tryd.prog 19 #[.agg #[.int .u8 k, .int .i64 i, .string s, .bool b], .agg #[.int .u8 k2, .int .i64 i2, .string s2, .bool b2]] w fun e w' => e = .returned (.tuple #[.int .i64 xc, .bool true, .int .i64 xe]) ∧ Below w.heap.size w w')) (h1 : Hid (∀ w : World, Calls Tryd.prog 17 #[.agg #[.int .u8 k, .int .i64 i, .string s, .bool b], .agg #[.int .u8 k2, .int .i64 i2, .string s2, .bool b2]] w fun e w' => e = .returned (.bool false) ∧ Below w.heap.size w w')) (h2 : Hid (∀ w : World, Calls Tryd.prog 20 #[.agg #[.int .u8 k, .int .i64 i, .string s, .bool b], .agg #[.int .u8 k2, .int .i64 i2, .string s2, .bool b2]] w fun e w' => e = .returned (.bool false) ∧ Below w.heap.size w w')) (h3 : Hid (∀ w : World, Calls Tryd.prog 21 #[.agg #[.int .u8 k, .int .i64 i, .string s, .bool b], .agg #[.int .u8 k2, .int .i64 i2, .string s2, .bool b2]] w fun e w' => e = .returned (.bool true) ∧ Below w.heap.size w w')) (h4 : Hid (∀ w : World, Calls Tryd.prog 16 #[.agg #[.int .u8 k, .int .i64 i, .string s, .bool b], .agg #[.int .u8 k2, .int .i64 i2, .string s2, .bool b2]] w fun e w' => e = .returned (.bool true) ∧ Below w.heap.size w w')) :
    Calls Tryd.prog 5 #[.agg #[.int .u8 k, .int .i64 i, .string s, .bool b], .agg #[.int .u8 k2, .int .i64 i2, .string s2, .bool b2]] w fun e w' => e = .returned (.bool true) ∧ Below w.heap.size w w' := by
  go_enter Tryd.func5, Tryd.ntmps5
  go_wp2_with fail
  refine (awake_any _ (he.below (below_then (below1 _ _) (below1 _ _)))).mono ?_
  rintro e w1 ⟨rfl, hb⟩
  obtain ⟨f0_0, f0_1, f0_2, f0_3⟩ := (Box.alloc (Box.new _ _ _ _ _ _) _).keep hb
  have f0_z := block_of_cell f0_0
  obtain ⟨f1_0, f1_1, f1_2, f1_3⟩ := (Box.new _ _ _ _ _ _).keep hb
  have f1_z := block_of_cell f1_0
  simp only [size_alloc] at f1_0 f1_1 f1_2 f1_3 f1_z
  have hb0 := (below_then (below1 _ _) (below_then (below1 _ _) hb))
  clear hb
  go_wp2_with fail
  refine (right_is hr.out _).mono ?_
  rintro e w2 ⟨rfl, hb⟩
  obtain ⟨f0_0, f0_1, f0_2, f0_3⟩ := (Box.mk f0_0 f0_1 f0_2 f0_3).keep hb
  clear f0_z
  have f0_z := block_of_cell f0_0
  obtain ⟨f1_0, f1_1, f1_2, f1_3⟩ := (Box.mk f1_0 f1_1 f1_2 f1_3).keep hb
  clear f1_z
  have f1_z := block_of_cell f1_0
  replace hb0 := below_then hb0 hb
  clear hb
  go_wp2_with fail
  refine (right_is hr2.out _).mono ?_
  rintro e w3 ⟨rfl, hb⟩
  obtain ⟨f0_0, f0_1, f0_2, f0_3⟩ := (Box.mk f0_0 f0_1 f0_2 f0_3).keep hb
  clear f0_z
  have f0_z := block_of_cell f0_0
  obtain ⟨f1_0, f1_1, f1_2, f1_3⟩ := (Box.mk f1_0 f1_1 f1_2 f1_3).keep hb
  clear f1_z
  have f1_z := block_of_cell f1_0
  replace hb0 := below_then hb0 hb
  clear hb
  go_wp2_with fail
  refine (hC.out _).mono ?_
  rintro e w4 ⟨rfl, hb⟩
  obtain ⟨f0_0, f0_1, f0_2, f0_3⟩ := (Box.mk f0_0 f0_1 f0_2 f0_3).keep hb
  clear f0_z
  have f0_z := block_of_cell f0_0
  obtain ⟨f1_0, f1_1, f1_2, f1_3⟩ := (Box.mk f1_0 f1_1 f1_2 f1_3).keep hb
  clear f1_z
  have f1_z := block_of_cell f1_0
  replace hb0 := below_then hb0 hb
  clear hb
  go_wp2_with fail
  refine (hD.out _).mono ?_
  rintro e w5 ⟨rfl, hb⟩
  obtain ⟨f0_0, f0_1, f0_2, f0_3⟩ := (Box.mk f0_0 f0_1 f0_2 f0_3).keep hb
  clear f0_z
  have f0_z := block_of_cell f0_0
  obtain ⟨f1_0, f1_1, f1_2, f1_3⟩ := (Box.mk f1_0 f1_1 f1_2 f1_3).keep hb
  clear f1_z
  have f1_z := block_of_cell f1_0
  replace hb0 := below_then hb0 hb
  clear hb
  go_wp2_with fail
  have mf0_0 := fun d os => cell_regrown f0_0 d os
  have mf0_1 := fun d os => cell_regrown f0_1 d os
  have mf0_2 := fun d os => cell_regrown f0_2 d os
  have mf0_3 := fun d os => cell_regrown f0_3 d os
  have mf1_0 := fun d os => cell_regrown f1_0 d os
  have mf1_1 := fun d os => cell_regrown f1_1 d os
  have mf1_2 := fun d os => cell_regrown f1_2 d os
  have mf1_3 := fun d os => cell_regrown f1_3 d os
  have qh1 := fun d os => Calls.regrown_of (w := w5) (d := d) (os := os) (h1.out _)
  have qh2 := fun d os => Calls.regrown_of (w := w5) (d := d) (os := os) (h2.out _)
  have qh3 := fun d os => Calls.regrown_of (w := w5) (d := d) (os := os) (h3.out _)
  have qh4 := fun d os => Calls.regrown_of (w := w5) (d := d) (os := os) (h4.out _)
  refine wp_region_quiet_below (by kernel_rfl) (by kernel_rfl) ?_
  repeat (go_big_quiet_step (first | with_reducible exact qh1 _ _ | with_reducible exact qh2 _ _ | with_reducible exact qh3 _ _ | with_reducible exact qh4 _ _))
  refine wpQuiet_nil ?_
  intro _ hw'
  obtain ⟨⟨dq, osq⟩, hw''⟩ := hw'
  subst hw''
  clear qh1 qh2 qh3 qh4
  replace f0_0 := mf0_0 dq osq
  replace f0_1 := mf0_1 dq osq
  replace f0_2 := mf0_2 dq osq
  replace f0_3 := mf0_3 dq osq
  replace f1_0 := mf1_0 dq osq
  replace f1_1 := mf1_1 dq osq
  replace f1_2 := mf1_2 dq osq
  replace f1_3 := mf1_3 dq osq
  clear mf0_0 mf0_1 mf0_2 mf0_3 mf1_0 mf1_1 mf1_2 mf1_3
  clear f0_z
  have f0_z := block_of_cell f0_0
  clear f1_z
  have f1_z := block_of_cell f1_0
  replace hb0 := below_then hb0 (below_regrown w5 dq osq)
  generalize (grow (redrawn w5 dq) osq) = w5n at *
  go_wp2_with fail
  go_ret
  exact ⟨rfl, hb0⟩
set_option maxRecDepth 100000 in
set_option maxHeartbeats 1000000 in
theorem orders_ef (k i : Int) (s : ByteArray) (b : Bool) (k2 i2 : Int) (s2 : ByteArray) (b2 : Bool) (xc xe : Int) (w : World) (he : Env w) (hr : Hid (rightV k i s b = true)) (hr2 : Hid (rightV k2 i2 s2 b2 = true)) (hC : Hid (∀ w : World, Calls Tryd.prog 18 #[.agg #[.int .u8 k, .int .i64 i, .string s, .bool b], .agg #[.int .u8 k2, .int .i64 i2, .string s2, .bool b2]] w fun e w' => e = .returned (.tuple #[.int .i64 xc, .bool false, .int .i64 xe]) ∧ Below w.heap.size w w')) (hD : Hid (∀ w : World, Calls Tryd.prog 19 #[.agg #[.int .u8 k, .int .i64 i, .string s, .bool b], .agg #[.int .u8 k2, .int .i64 i2, .string s2, .bool b2]] w fun e w' => e = .returned (.tuple #[.int .i64 xc, .bool false, .int .i64 xe]) ∧ Below w.heap.size w w')) (h1 : Hid (∀ w : World, Calls Tryd.prog 17 #[.agg #[.int .u8 k, .int .i64 i, .string s, .bool b], .agg #[.int .u8 k2, .int .i64 i2, .string s2, .bool b2]] w fun e w' => e = .returned (.bool false) ∧ Below w.heap.size w w')) (h2 : Hid (∀ w : World, Calls Tryd.prog 20 #[.agg #[.int .u8 k, .int .i64 i, .string s, .bool b], .agg #[.int .u8 k2, .int .i64 i2, .string s2, .bool b2]] w fun e w' => e = .returned (.bool false) ∧ Below w.heap.size w w')) (h3 : Hid (∀ w : World, Calls Tryd.prog 21 #[.agg #[.int .u8 k, .int .i64 i, .string s, .bool b], .agg #[.int .u8 k2, .int .i64 i2, .string s2, .bool b2]] w fun e w' => e = .returned (.bool true) ∧ Below w.heap.size w w')) (h4 : Hid (∀ w : World, Calls Tryd.prog 16 #[.agg #[.int .u8 k, .int .i64 i, .string s, .bool b], .agg #[.int .u8 k2, .int .i64 i2, .string s2, .bool b2]] w fun e w' => e = .returned (.bool true) ∧ Below w.heap.size w w')) :
    Calls Tryd.prog 5 #[.agg #[.int .u8 k, .int .i64 i, .string s, .bool b], .agg #[.int .u8 k2, .int .i64 i2, .string s2, .bool b2]] w fun e w' => e = .returned (.bool true) ∧ Below w.heap.size w w' := by
  go_enter Tryd.func5, Tryd.ntmps5
  go_wp2_with fail
  refine (awake_any _ (he.below (below_then (below1 _ _) (below1 _ _)))).mono ?_
  rintro e w1 ⟨rfl, hb⟩
  obtain ⟨f0_0, f0_1, f0_2, f0_3⟩ := (Box.alloc (Box.new _ _ _ _ _ _) _).keep hb
  have f0_z := block_of_cell f0_0
  obtain ⟨f1_0, f1_1, f1_2, f1_3⟩ := (Box.new _ _ _ _ _ _).keep hb
  have f1_z := block_of_cell f1_0
  simp only [size_alloc] at f1_0 f1_1 f1_2 f1_3 f1_z
  have hb0 := (below_then (below1 _ _) (below_then (below1 _ _) hb))
  clear hb
  go_wp2_with fail
  refine (right_is hr.out _).mono ?_
  rintro e w2 ⟨rfl, hb⟩
  obtain ⟨f0_0, f0_1, f0_2, f0_3⟩ := (Box.mk f0_0 f0_1 f0_2 f0_3).keep hb
  clear f0_z
  have f0_z := block_of_cell f0_0
  obtain ⟨f1_0, f1_1, f1_2, f1_3⟩ := (Box.mk f1_0 f1_1 f1_2 f1_3).keep hb
  clear f1_z
  have f1_z := block_of_cell f1_0
  replace hb0 := below_then hb0 hb
  clear hb
  go_wp2_with fail
  refine (right_is hr2.out _).mono ?_
  rintro e w3 ⟨rfl, hb⟩
  obtain ⟨f0_0, f0_1, f0_2, f0_3⟩ := (Box.mk f0_0 f0_1 f0_2 f0_3).keep hb
  clear f0_z
  have f0_z := block_of_cell f0_0
  obtain ⟨f1_0, f1_1, f1_2, f1_3⟩ := (Box.mk f1_0 f1_1 f1_2 f1_3).keep hb
  clear f1_z
  have f1_z := block_of_cell f1_0
  replace hb0 := below_then hb0 hb
  clear hb
  go_wp2_with fail
  refine (hC.out _).mono ?_
  rintro e w4 ⟨rfl, hb⟩
  obtain ⟨f0_0, f0_1, f0_2, f0_3⟩ := (Box.mk f0_0 f0_1 f0_2 f0_3).keep hb
  clear f0_z
  have f0_z := block_of_cell f0_0
  obtain ⟨f1_0, f1_1, f1_2, f1_3⟩ := (Box.mk f1_0 f1_1 f1_2 f1_3).keep hb
  clear f1_z
  have f1_z := block_of_cell f1_0
  replace hb0 := below_then hb0 hb
  clear hb
  go_wp2_with fail
  refine (hD.out _).mono ?_
  rintro e w5 ⟨rfl, hb⟩
  obtain ⟨f0_0, f0_1, f0_2, f0_3⟩ := (Box.mk f0_0 f0_1 f0_2 f0_3).keep hb
  clear f0_z
  have f0_z := block_of_cell f0_0
  obtain ⟨f1_0, f1_1, f1_2, f1_3⟩ := (Box.mk f1_0 f1_1 f1_2 f1_3).keep hb
  clear f1_z
  have f1_z := block_of_cell f1_0
  replace hb0 := below_then hb0 hb
  clear hb
  go_wp2_with fail
  have mf0_0 := fun d os => cell_regrown f0_0 d os
  have mf0_1 := fun d os => cell_regrown f0_1 d os
  have mf0_2 := fun d os => cell_regrown f0_2 d os
  have mf0_3 := fun d os => cell_regrown f0_3 d os
  have mf1_0 := fun d os => cell_regrown f1_0 d os
  have mf1_1 := fun d os => cell_regrown f1_1 d os
  have mf1_2 := fun d os => cell_regrown f1_2 d os
  have mf1_3 := fun d os => cell_regrown f1_3 d os
  have qh1 := fun d os => Calls.regrown_of (w := w5) (d := d) (os := os) (h1.out _)
  have qh2 := fun d os => Calls.regrown_of (w := w5) (d := d) (os := os) (h2.out _)
  have qh3 := fun d os => Calls.regrown_of (w := w5) (d := d) (os := os) (h3.out _)
  have qh4 := fun d os => Calls.regrown_of (w := w5) (d := d) (os := os) (h4.out _)
  refine wp_region_quiet_below (by kernel_rfl) (by kernel_rfl) ?_
  repeat (go_big_quiet_step (first | with_reducible exact qh1 _ _ | with_reducible exact qh2 _ _ | with_reducible exact qh3 _ _ | with_reducible exact qh4 _ _))
  refine wpQuiet_nil ?_
  intro _ hw'
  obtain ⟨⟨dq, osq⟩, hw''⟩ := hw'
  subst hw''
  clear qh1 qh2 qh3 qh4
  replace f0_0 := mf0_0 dq osq
  replace f0_1 := mf0_1 dq osq
  replace f0_2 := mf0_2 dq osq
  replace f0_3 := mf0_3 dq osq
  replace f1_0 := mf1_0 dq osq
  replace f1_1 := mf1_1 dq osq
  replace f1_2 := mf1_2 dq osq
  replace f1_3 := mf1_3 dq osq
  clear mf0_0 mf0_1 mf0_2 mf0_3 mf1_0 mf1_1 mf1_2 mf1_3
  clear f0_z
  have f0_z := block_of_cell f0_0
  clear f1_z
  have f1_z := block_of_cell f1_0
  replace hb0 := below_then hb0 (below_regrown w5 dq osq)
  generalize (grow (redrawn w5 dq) osq) = w5n at *
  go_wp2_with fail
  go_ret
  exact ⟨rfl, hb0⟩
end Go.Proofs.YtpkohkhgimmkhaaDoor
