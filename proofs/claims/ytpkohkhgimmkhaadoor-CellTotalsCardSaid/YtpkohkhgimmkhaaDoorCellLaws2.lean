/-
  The walk of CellSorts, over whichever functions Less and Same are. Conditions: the library's tables are as laid.
-/
import Derived.Test.YtpkohkhgimmkhaaDoorCellLaws1
import Derived.Test.YtpkohkhgimmkhaaDoorCellOrdLaw
import Derived.Lib.QuietBelow
import Derived.BigQuiet
namespace Go.Proofs.YtpkohkhgimmkhaaDoor
open Go.RowKit Go.Sort
set_option linter.unusedVariables false
set_option linter.unusedSimpArgs false

theorem sorts_w0 (k i : Int) (s : ByteArray) (b : Bool) (k2 i2 : Int) (s2 : ByteArray) (b2 : Bool) (k3 i3 : Int) (s3 : ByteArray) (b3 : Bool)  (w : World) (he : Env w) (hr : Hid (rightV k i s b = false)) :
    Calls Tryd.prog 6 #[.agg #[.int .u8 k, .int .i64 i, .string s, .bool b], .agg #[.int .u8 k2, .int .i64 i2, .string s2, .bool b2], .agg #[.int .u8 k3, .int .i64 i3, .string s3, .bool b3]] w fun e w' => e = .returned (.bool true) ∧ Below w.heap.size w w' := by
  go_enter Tryd.func6, Tryd.ntmps6
  go_wp2_with fail
  refine (awake_any _ (he.below (below_then (below_then (below1 _ _) (below1 _ _)) (below1 _ _)))).mono ?_
  rintro e w1 ⟨rfl, hb⟩
  obtain ⟨f0_0, f0_1, f0_2, f0_3⟩ := (Box.alloc (Box.alloc (Box.new _ _ _ _ _ _) _) _).keep hb
  have f0_z := block_of_cell f0_0
  obtain ⟨f1_0, f1_1, f1_2, f1_3⟩ := (Box.alloc (Box.new _ _ _ _ _ _) _).keep hb
  have f1_z := block_of_cell f1_0
  simp only [size_alloc] at f1_0 f1_1 f1_2 f1_3 f1_z
  obtain ⟨f2_0, f2_1, f2_2, f2_3⟩ := (Box.new _ _ _ _ _ _).keep hb
  have f2_z := block_of_cell f2_0
  simp only [size_alloc] at f2_0 f2_1 f2_2 f2_3 f2_z
  have hb0 := (below_then (below1 _ _) (below_then (below1 _ _) (below_then (below1 _ _) hb)))
  clear hb
  go_wp2_with fail
  refine (right_is hr.out _).mono ?_
  rintro e w2 ⟨rfl, hb⟩
  obtain ⟨f0_0, f0_1, f0_2, f0_3⟩ := (Box.mk f0_0 f0_1 f0_2 f0_3).keep hb
  clear f0_z
  have f0_z := block_of_cell f0_0
  obtain ⟨f1_0, f1_1, f1_2, f1_3⟩ := (Box.mk f1_0 f1_1 f1_2 f1_3).keep hb
  clear f1_z
  have f1_z := block_of_cell f1_0
  obtain ⟨f2_0, f2_1, f2_2, f2_3⟩ := (Box.mk f2_0 f2_1 f2_2 f2_3).keep hb
  clear f2_z
  have f2_z := block_of_cell f2_0
  replace hb0 := below_then hb0 hb
  clear hb
  go_wp2_with fail
  go_ret
  exact ⟨rfl, hb0⟩
theorem sorts_w1 (k i : Int) (s : ByteArray) (b : Bool) (k2 i2 : Int) (s2 : ByteArray) (b2 : Bool) (k3 i3 : Int) (s3 : ByteArray) (b3 : Bool)  (w : World) (he : Env w) (hr : Hid (rightV k i s b = true)) (hr2 : Hid (rightV k2 i2 s2 b2 = false)) :
    Calls Tryd.prog 6 #[.agg #[.int .u8 k, .int .i64 i, .string s, .bool b], .agg #[.int .u8 k2, .int .i64 i2, .string s2, .bool b2], .agg #[.int .u8 k3, .int .i64 i3, .string s3, .bool b3]] w fun e w' => e = .returned (.bool true) ∧ Below w.heap.size w w' := by
  go_enter Tryd.func6, Tryd.ntmps6
  go_wp2_with fail
  refine (awake_any _ (he.below (below_then (below_then (below1 _ _) (below1 _ _)) (below1 _ _)))).mono ?_
  rintro e w1 ⟨rfl, hb⟩
  obtain ⟨f0_0, f0_1, f0_2, f0_3⟩ := (Box.alloc (Box.alloc (Box.new _ _ _ _ _ _) _) _).keep hb
  have f0_z := block_of_cell f0_0
  obtain ⟨f1_0, f1_1, f1_2, f1_3⟩ := (Box.alloc (Box.new _ _ _ _ _ _) _).keep hb
  have f1_z := block_of_cell f1_0
  simp only [size_alloc] at f1_0 f1_1 f1_2 f1_3 f1_z
  obtain ⟨f2_0, f2_1, f2_2, f2_3⟩ := (Box.new _ _ _ _ _ _).keep hb
  have f2_z := block_of_cell f2_0
  simp only [size_alloc] at f2_0 f2_1 f2_2 f2_3 f2_z
  have hb0 := (below_then (below1 _ _) (below_then (below1 _ _) (below_then (below1 _ _) hb)))
  clear hb
  go_wp2_with fail
  refine (right_is hr.out _).mono ?_
  rintro e w2 ⟨rfl, hb⟩
  obtain ⟨f0_0, f0_1, f0_2, f0_3⟩ := (Box.mk f0_0 f0_1 f0_2 f0_3).keep hb
  clear f0_z
  have f0_z := block_of_cell f0_0
  obtain ⟨f1_0, f1_1, f1_2, f1_3⟩ := (Box.mk f1_0 f1_1 f1_2 f1_3).keep hb
  clear f1_z
  have f1_z := block_of_cell f1_0
  obtain ⟨f2_0, f2_1, f2_2, f2_3⟩ := (Box.mk f2_0 f2_1 f2_2 f2_3).keep hb
  clear f2_z
  have f2_z := block_of_cell f2_0
  replace hb0 := below_then hb0 hb
  clear hb
  go_wp2_with fail
  refine (right_is hr2.out _).mono ?_
  rintro e w3 ⟨rfl, hb⟩
  obtain ⟨f0_0, f0_1, f0_2, f0_3⟩ := (Box.mk f0_0 f0_1 f0_2 f0_3).keep hb
  clear f0_z
  have f0_z := block_of_cell f0_0
  obtain ⟨f1_0, f1_1, f1_2, f1_3⟩ := (Box.mk f1_0 f1_1 f1_2 f1_3).keep hb
  clear f1_z
  have f1_z := block_of_cell f1_0
  obtain ⟨f2_0, f2_1, f2_2, f2_3⟩ := (Box.mk f2_0 f2_1 f2_2 f2_3).keep hb
  clear f2_z
  have f2_z := block_of_cell f2_0
  replace hb0 := below_then hb0 hb
  clear hb
  go_wp2_with fail
  go_ret
  exact ⟨rfl, hb0⟩
theorem sorts_w2 (k i : Int) (s : ByteArray) (b : Bool) (k2 i2 : Int) (s2 : ByteArray) (b2 : Bool) (k3 i3 : Int) (s3 : ByteArray) (b3 : Bool)  (w : World) (he : Env w) (hr : Hid (rightV k i s b = true)) (hr2 : Hid (rightV k2 i2 s2 b2 = true)) (hr3 : Hid (rightV k3 i3 s3 b3 = false)) :
    Calls Tryd.prog 6 #[.agg #[.int .u8 k, .int .i64 i, .string s, .bool b], .agg #[.int .u8 k2, .int .i64 i2, .string s2, .bool b2], .agg #[.int .u8 k3, .int .i64 i3, .string s3, .bool b3]] w fun e w' => e = .returned (.bool true) ∧ Below w.heap.size w w' := by
  go_enter Tryd.func6, Tryd.ntmps6
  go_wp2_with fail
  refine (awake_any _ (he.below (below_then (below_then (below1 _ _) (below1 _ _)) (below1 _ _)))).mono ?_
  rintro e w1 ⟨rfl, hb⟩
  obtain ⟨f0_0, f0_1, f0_2, f0_3⟩ := (Box.alloc (Box.alloc (Box.new _ _ _ _ _ _) _) _).keep hb
  have f0_z := block_of_cell f0_0
  obtain ⟨f1_0, f1_1, f1_2, f1_3⟩ := (Box.alloc (Box.new _ _ _ _ _ _) _).keep hb
  have f1_z := block_of_cell f1_0
  simp only [size_alloc] at f1_0 f1_1 f1_2 f1_3 f1_z
  obtain ⟨f2_0, f2_1, f2_2, f2_3⟩ := (Box.new _ _ _ _ _ _).keep hb
  have f2_z := block_of_cell f2_0
  simp only [size_alloc] at f2_0 f2_1 f2_2 f2_3 f2_z
  have hb0 := (below_then (below1 _ _) (below_then (below1 _ _) (below_then (below1 _ _) hb)))
  clear hb
  go_wp2_with fail
  refine (right_is hr.out _).mono ?_
  rintro e w2 ⟨rfl, hb⟩
  obtain ⟨f0_0, f0_1, f0_2, f0_3⟩ := (Box.mk f0_0 f0_1 f0_2 f0_3).keep hb
  clear f0_z
  have f0_z := block_of_cell f0_0
  obtain ⟨f1_0, f1_1, f1_2, f1_3⟩ := (Box.mk f1_0 f1_1 f1_2 f1_3).keep hb
  clear f1_z
  have f1_z := block_of_cell f1_0
  obtain ⟨f2_0, f2_1, f2_2, f2_3⟩ := (Box.mk f2_0 f2_1 f2_2 f2_3).keep hb
  clear f2_z
  have f2_z := block_of_cell f2_0
  replace hb0 := below_then hb0 hb
  clear hb
  go_wp2_with fail
  refine (right_is hr2.out _).mono ?_
  rintro e w3 ⟨rfl, hb⟩
  obtain ⟨f0_0, f0_1, f0_2, f0_3⟩ := (Box.mk f0_0 f0_1 f0_2 f0_3).keep hb
  clear f0_z
  have f0_z := block_of_cell f0_0
  obtain ⟨f1_0, f1_1, f1_2, f1_3⟩ := (Box.mk f1_0 f1_1 f1_2 f1_3).keep hb
  clear f1_z
  have f1_z := block_of_cell f1_0
  obtain ⟨f2_0, f2_1, f2_2, f2_3⟩ := (Box.mk f2_0 f2_1 f2_2 f2_3).keep hb
  clear f2_z
  have f2_z := block_of_cell f2_0
  replace hb0 := below_then hb0 hb
  clear hb
  go_wp2_with fail
  refine (right_is hr3.out _).mono ?_
  rintro e w4 ⟨rfl, hb⟩
  obtain ⟨f0_0, f0_1, f0_2, f0_3⟩ := (Box.mk f0_0 f0_1 f0_2 f0_3).keep hb
  clear f0_z
  have f0_z := block_of_cell f0_0
  obtain ⟨f1_0, f1_1, f1_2, f1_3⟩ := (Box.mk f1_0 f1_1 f1_2 f1_3).keep hb
  clear f1_z
  have f1_z := block_of_cell f1_0
  obtain ⟨f2_0, f2_1, f2_2, f2_3⟩ := (Box.mk f2_0 f2_1 f2_2 f2_3).keep hb
  clear f2_z
  have f2_z := block_of_cell f2_0
  replace hb0 := below_then hb0 hb
  clear hb
  go_wp2_with fail
  go_ret
  exact ⟨rfl, hb0⟩
set_option maxRecDepth 100000 in
set_option maxHeartbeats 1000000 in
theorem sorts_a (k i : Int) (s : ByteArray) (b : Bool) (k2 i2 : Int) (s2 : ByteArray) (b2 : Bool) (k3 i3 : Int) (s3 : ByteArray) (b3 : Bool)  (w : World) (he : Env w) (hr : Hid (rightV k i s b = true)) (hr2 : Hid (rightV k2 i2 s2 b2 = true)) (hr3 : Hid (rightV k3 i3 s3 b3 = true)) (h1 : Hid (∀ w : World, Calls Tryd.prog 17 #[.agg #[.int .u8 k, .int .i64 i, .string s, .bool b], .agg #[.int .u8 k2, .int .i64 i2, .string s2, .bool b2]] w fun e w' => e = .returned (.bool false) ∧ Below w.heap.size w w')) (h4 : Hid (∀ w : World, Calls Tryd.prog 21 #[.agg #[.int .u8 k, .int .i64 i, .string s, .bool b], .agg #[.int .u8 k2, .int .i64 i2, .string s2, .bool b2]] w fun e w' => e = .returned (.bool false) ∧ Below w.heap.size w w')) :
    Calls Tryd.prog 6 #[.agg #[.int .u8 k, .int .i64 i, .string s, .bool b], .agg #[.int .u8 k2, .int .i64 i2, .string s2, .bool b2], .agg #[.int .u8 k3, .int .i64 i3, .string s3, .bool b3]] w fun e w' => e = .returned (.bool true) ∧ Below w.heap.size w w' := by
  go_enter Tryd.func6, Tryd.ntmps6
  go_wp2_with fail
  refine (awake_any _ (he.below (below_then (below_then (below1 _ _) (below1 _ _)) (below1 _ _)))).mono ?_
  rintro e w1 ⟨rfl, hb⟩
  obtain ⟨f0_0, f0_1, f0_2, f0_3⟩ := (Box.alloc (Box.alloc (Box.new _ _ _ _ _ _) _) _).keep hb
  have f0_z := block_of_cell f0_0
  obtain ⟨f1_0, f1_1, f1_2, f1_3⟩ := (Box.alloc (Box.new _ _ _ _ _ _) _).keep hb
  have f1_z := block_of_cell f1_0
  simp only [size_alloc] at f1_0 f1_1 f1_2 f1_3 f1_z
  obtain ⟨f2_0, f2_1, f2_2, f2_3⟩ := (Box.new _ _ _ _ _ _).keep hb
  have f2_z := block_of_cell f2_0
  simp only [size_alloc] at f2_0 f2_1 f2_2 f2_3 f2_z
  have hb0 := (below_then (below1 _ _) (below_then (below1 _ _) (below_then (below1 _ _) hb)))
  clear hb
  go_wp2_with fail
  refine (right_is hr.out _).mono ?_
  rintro e w2 ⟨rfl, hb⟩
  obtain ⟨f0_0, f0_1, f0_2, f0_3⟩ := (Box.mk f0_0 f0_1 f0_2 f0_3).keep hb
  clear f0_z
  have f0_z := block_of_cell f0_0
  obtain ⟨f1_0, f1_1, f1_2, f1_3⟩ := (Box.mk f1_0 f1_1 f1_2 f1_3).keep hb
  clear f1_z
  have f1_z := block_of_cell f1_0
  obtain ⟨f2_0, f2_1, f2_2, f2_3⟩ := (Box.mk f2_0 f2_1 f2_2 f2_3).keep hb
  clear f2_z
  have f2_z := block_of_cell f2_0
  replace hb0 := below_then hb0 hb
  clear hb
  go_wp2_with fail
  refine (right_is hr2.out _).mono ?_
  rintro e w3 ⟨rfl, hb⟩
  obtain ⟨f0_0, f0_1, f0_2, f0_3⟩ := (Box.mk f0_0 f0_1 f0_2 f0_3).keep hb
  clear f0_z
  have f0_z := block_of_cell f0_0
  obtain ⟨f1_0, f1_1, f1_2, f1_3⟩ := (Box.mk f1_0 f1_1 f1_2 f1_3).keep hb
  clear f1_z
  have f1_z := block_of_cell f1_0
  obtain ⟨f2_0, f2_1, f2_2, f2_3⟩ := (Box.mk f2_0 f2_1 f2_2 f2_3).keep hb
  clear f2_z
  have f2_z := block_of_cell f2_0
  replace hb0 := below_then hb0 hb
  clear hb
  go_wp2_with fail
  refine (right_is hr3.out _).mono ?_
  rintro e w4 ⟨rfl, hb⟩
  obtain ⟨f0_0, f0_1, f0_2, f0_3⟩ := (Box.mk f0_0 f0_1 f0_2 f0_3).keep hb
  clear f0_z
  have f0_z := block_of_cell f0_0
  obtain ⟨f1_0, f1_1, f1_2, f1_3⟩ := (Box.mk f1_0 f1_1 f1_2 f1_3).keep hb
  clear f1_z
  have f1_z := block_of_cell f1_0
  obtain ⟨f2_0, f2_1, f2_2, f2_3⟩ := (Box.mk f2_0 f2_1 f2_2 f2_3).keep hb
  clear f2_z
  have f2_z := block_of_cell f2_0
  replace hb0 := below_then hb0 hb
  clear hb
  go_wp2_with fail
  refine (h1.out _).mono ?_
  rintro e w5 ⟨rfl, hb⟩
  obtain ⟨f0_0, f0_1, f0_2, f0_3⟩ := (Box.mk f0_0 f0_1 f0_2 f0_3).keep hb
  clear f0_z
  have f0_z := block_of_cell f0_0
  obtain ⟨f1_0, f1_1, f1_2, f1_3⟩ := (Box.mk f1_0 f1_1 f1_2 f1_3).keep hb
  clear f1_z
  have f1_z := block_of_cell f1_0
  obtain ⟨f2_0, f2_1, f2_2, f2_3⟩ := (Box.mk f2_0 f2_1 f2_2 f2_3).keep hb
  clear f2_z
  have f2_z := block_of_cell f2_0
  replace hb0 := below_then hb0 hb
  clear hb
  go_wp2_with fail
  have mf0_0 := fun d os => cell_regrown f0_0 d os
  have mf0_1 := fun d os => cell_regrown f0_1 d os
  have mf0_2 := fun d os => cell_regrown f0_2 d os
  have mf0_3 := fun d os => cell_regrown f0_3 d os
  have mf1_0 := fun d os => cell_regrown f1_0 d os
  have mf1_1 := fun d os => cell_regrown f1_1 d os
  have mf1_2 := fun d os => cell_regrown f1_2 d os
  have mf1_3 := fun d os => cell_regrown f1_3 d os
  have mf2_0 := fun d os => cell_regrown f2_0 d os
  have mf2_1 := fun d os => cell_regrown f2_1 d os
  have mf2_2 := fun d os => cell_regrown f2_2 d os
  have mf2_3 := fun d os => cell_regrown f2_3 d os
  have qh4 := fun d os => Calls.regrown_of (w := w5) (d := d) (os := os) (h4.out _)
  refine wp_region_quiet_below (by kernel_rfl) (by kernel_rfl) ?_
  repeat (go_big_quiet_step (first | with_reducible exact qh4 _ _))
  refine wpQuiet_nil ?_
  intro _ hw'
  obtain ⟨⟨dq, osq⟩, hw''⟩ := hw'
  subst hw''
  clear qh4
  replace f0_0 := mf0_0 dq osq
  replace f0_1 := mf0_1 dq osq
  replace f0_2 := mf0_2 dq osq
  replace f0_3 := mf0_3 dq osq
  replace f1_0 := mf1_0 dq osq
  replace f1_1 := mf1_1 dq osq
  replace f1_2 := mf1_2 dq osq
  replace f1_3 := mf1_3 dq osq
  replace f2_0 := mf2_0 dq osq
  replace f2_1 := mf2_1 dq osq
  replace f2_2 := mf2_2 dq osq
  replace f2_3 := mf2_3 dq osq
  clear mf0_0 mf0_1 mf0_2 mf0_3 mf1_0 mf1_1 mf1_2 mf1_3 mf2_0 mf2_1 mf2_2 mf2_3
  clear f0_z
  have f0_z := block_of_cell f0_0
  clear f1_z
  have f1_z := block_of_cell f1_0
  clear f2_z
  have f2_z := block_of_cell f2_0
  replace hb0 := below_then hb0 (below_regrown w5 dq osq)
  generalize (grow (redrawn w5 dq) osq) = w5n at *
  go_wp2_with fail
  go_ret
  exact ⟨rfl, hb0⟩
set_option maxRecDepth 100000 in
set_option maxHeartbeats 1000000 in
theorem sorts_b (k i : Int) (s : ByteArray) (b : Bool) (k2 i2 : Int) (s2 : ByteArray) (b2 : Bool) (k3 i3 : Int) (s3 : ByteArray) (b3 : Bool)  (w : World) (he : Env w) (hr : Hid (rightV k i s b = true)) (hr2 : Hid (rightV k2 i2 s2 b2 = true)) (hr3 : Hid (rightV k3 i3 s3 b3 = true)) (h1 : Hid (∀ w : World, Calls Tryd.prog 17 #[.agg #[.int .u8 k, .int .i64 i, .string s, .bool b], .agg #[.int .u8 k2, .int .i64 i2, .string s2, .bool b2]] w fun e w' => e = .returned (.bool true) ∧ Below w.heap.size w w')) (h2 : Hid (∀ w : World, Calls Tryd.prog 17 #[.agg #[.int .u8 k2, .int .i64 i2, .string s2, .bool b2], .agg #[.int .u8 k3, .int .i64 i3, .string s3, .bool b3]] w fun e w' => e = .returned (.bool false) ∧ Below w.heap.size w w')) (h4 : Hid (∀ w : World, Calls Tryd.prog 21 #[.agg #[.int .u8 k, .int .i64 i, .string s, .bool b], .agg #[.int .u8 k2, .int .i64 i2, .string s2, .bool b2]] w fun e w' => e = .returned (.bool false) ∧ Below w.heap.size w w')) :
    Calls Tryd.prog 6 #[.agg #[.int .u8 k, .int .i64 i, .string s, .bool b], .agg #[.int .u8 k2, .int .i64 i2, .string s2, .bool b2], .agg #[.int .u8 k3, .int .i64 i3, .string s3, .bool b3]] w fun e w' => e = .returned (.bool true) ∧ Below w.heap.size w w' := by
  go_enter Tryd.func6, Tryd.ntmps6
  go_wp2_with fail
  refine (awake_any _ (he.below (below_then (below_then (below1 _ _) (below1 _ _)) (below1 _ _)))).mono ?_
  rintro e w1 ⟨rfl, hb⟩
  obtain ⟨f0_0, f0_1, f0_2, f0_3⟩ := (Box.alloc (Box.alloc (Box.new _ _ _ _ _ _) _) _).keep hb
  have f0_z := block_of_cell f0_0
  obtain ⟨f1_0, f1_1, f1_2, f1_3⟩ := (Box.alloc (Box.new _ _ _ _ _ _) _).keep hb
  have f1_z := block_of_cell f1_0
  simp only [size_alloc] at f1_0 f1_1 f1_2 f1_3 f1_z
  obtain ⟨f2_0, f2_1, f2_2, f2_3⟩ := (Box.new _ _ _ _ _ _).keep hb
  have f2_z := block_of_cell f2_0
  simp only [size_alloc] at f2_0 f2_1 f2_2 f2_3 f2_z
  have hb0 := (below_then (below1 _ _) (below_then (below1 _ _) (below_then (below1 _ _) hb)))
  clear hb
  go_wp2_with fail
  refine (right_is hr.out _).mono ?_
  rintro e w2 ⟨rfl, hb⟩
  obtain ⟨f0_0, f0_1, f0_2, f0_3⟩ := (Box.mk f0_0 f0_1 f0_2 f0_3).keep hb
  clear f0_z
  have f0_z := block_of_cell f0_0
  obtain ⟨f1_0, f1_1, f1_2, f1_3⟩ := (Box.mk f1_0 f1_1 f1_2 f1_3).keep hb
  clear f1_z
  have f1_z := block_of_cell f1_0
  obtain ⟨f2_0, f2_1, f2_2, f2_3⟩ := (Box.mk f2_0 f2_1 f2_2 f2_3).keep hb
  clear f2_z
  have f2_z := block_of_cell f2_0
  replace hb0 := below_then hb0 hb
  clear hb
  go_wp2_with fail
  refine (right_is hr2.out _).mono ?_
  rintro e w3 ⟨rfl, hb⟩
  obtain ⟨f0_0, f0_1, f0_2, f0_3⟩ := (Box.mk f0_0 f0_1 f0_2 f0_3).keep hb
  clear f0_z
  have f0_z := block_of_cell f0_0
  obtain ⟨f1_0, f1_1, f1_2, f1_3⟩ := (Box.mk f1_0 f1_1 f1_2 f1_3).keep hb
  clear f1_z
  have f1_z := block_of_cell f1_0
  obtain ⟨f2_0, f2_1, f2_2, f2_3⟩ := (Box.mk f2_0 f2_1 f2_2 f2_3).keep hb
  clear f2_z
  have f2_z := block_of_cell f2_0
  replace hb0 := below_then hb0 hb
  clear hb
  go_wp2_with fail
  refine (right_is hr3.out _).mono ?_
  rintro e w4 ⟨rfl, hb⟩
  obtain ⟨f0_0, f0_1, f0_2, f0_3⟩ := (Box.mk f0_0 f0_1 f0_2 f0_3).keep hb
  clear f0_z
  have f0_z := block_of_cell f0_0
  obtain ⟨f1_0, f1_1, f1_2, f1_3⟩ := (Box.mk f1_0 f1_1 f1_2 f1_3).keep hb
  clear f1_z
  have f1_z := block_of_cell f1_0
  obtain ⟨f2_0, f2_1, f2_2, f2_3⟩ := (Box.mk f2_0 f2_1 f2_2 f2_3).keep hb
  clear f2_z
  have f2_z := block_of_cell f2_0
  replace hb0 := below_then hb0 hb
  clear hb
  go_wp2_with fail
  refine (h1.out _).mono ?_
  rintro e w5 ⟨rfl, hb⟩
  obtain ⟨f0_0, f0_1, f0_2, f0_3⟩ := (Box.mk f0_0 f0_1 f0_2 f0_3).keep hb
  clear f0_z
  have f0_z := block_of_cell f0_0
  obtain ⟨f1_0, f1_1, f1_2, f1_3⟩ := (Box.mk f1_0 f1_1 f1_2 f1_3).keep hb
  clear f1_z
  have f1_z := block_of_cell f1_0
  obtain ⟨f2_0, f2_1, f2_2, f2_3⟩ := (Box.mk f2_0 f2_1 f2_2 f2_3).keep hb
  clear f2_z
  have f2_z := block_of_cell f2_0
  replace hb0 := below_then hb0 hb
  clear hb
  go_wp2_with fail
  refine (h2.out _).mono ?_
  rintro e w6 ⟨rfl, hb⟩
  obtain ⟨f0_0, f0_1, f0_2, f0_3⟩ := (Box.mk f0_0 f0_1 f0_2 f0_3).keep hb
  clear f0_z
  have f0_z := block_of_cell f0_0
  obtain ⟨f1_0, f1_1, f1_2, f1_3⟩ := (Box.mk f1_0 f1_1 f1_2 f1_3).keep hb
  clear f1_z
  have f1_z := block_of_cell f1_0
  obtain ⟨f2_0, f2_1, f2_2, f2_3⟩ := (Box.mk f2_0 f2_1 f2_2 f2_3).keep hb
  clear f2_z
  have f2_z := block_of_cell f2_0
  replace hb0 := below_then hb0 hb
  clear hb
  go_wp2_with fail
  have mf0_0 := fun d os => cell_regrown f0_0 d os
  have mf0_1 := fun d os => cell_regrown f0_1 d os
  have mf0_2 := fun d os => cell_regrown f0_2 d os
  have mf0_3 := fun d os => cell_regrown f0_3 d os
  have mf1_0 := fun d os => cell_regrown f1_0 d os
  have mf1_1 := fun d os => cell_regrown f1_1 d os
  have mf1_2 := fun d os => cell_regrown f1_2 d os
  have mf1_3 := fun d os => cell_regrown f1_3 d os
  have mf2_0 := fun d os => cell_regrown f2_0 d os
  have mf2_1 := fun d os => cell_regrown f2_1 d os
  have mf2_2 := fun d os => cell_regrown f2_2 d os
  have mf2_3 := fun d os => cell_regrown f2_3 d os
  have qh4 := fun d os => Calls.regrown_of (w := w6) (d := d) (os := os) (h4.out _)
  refine wp_region_quiet_below (by kernel_rfl) (by kernel_rfl) ?_
  repeat (go_big_quiet_step (first | with_reducible exact qh4 _ _))
  refine wpQuiet_nil ?_
  intro _ hw'
  obtain ⟨⟨dq, osq⟩, hw''⟩ := hw'
  subst hw''
  clear qh4
  replace f0_0 := mf0_0 dq osq
  replace f0_1 := mf0_1 dq osq
  replace f0_2 := mf0_2 dq osq
  replace f0_3 := mf0_3 dq osq
  replace f1_0 := mf1_0 dq osq
  replace f1_1 := mf1_1 dq osq
  replace f1_2 := mf1_2 dq osq
  replace f1_3 := mf1_3 dq osq
  replace f2_0 := mf2_0 dq osq
  replace f2_1 := mf2_1 dq osq
  replace f2_2 := mf2_2 dq osq
  replace f2_3 := mf2_3 dq osq
  clear mf0_0 mf0_1 mf0_2 mf0_3 mf1_0 mf1_1 mf1_2 mf1_3 mf2_0 mf2_1 mf2_2 mf2_3
  clear f0_z
  have f0_z := block_of_cell f0_0
  clear f1_z
  have f1_z := block_of_cell f1_0
  clear f2_z
  have f2_z := block_of_cell f2_0
  replace hb0 := below_then hb0 (below_regrown w6 dq osq)
  generalize (grow (redrawn w6 dq) osq) = w6n at *
  go_wp2_with fail
  go_ret
  exact ⟨rfl, hb0⟩
set_option maxRecDepth 100000 in
set_option maxHeartbeats 1000000 in
theorem sorts_c (k i : Int) (s : ByteArray) (b : Bool) (k2 i2 : Int) (s2 : ByteArray) (b2 : Bool) (k3 i3 : Int) (s3 : ByteArray) (b3 : Bool)  (w : World) (he : Env w) (hr : Hid (rightV k i s b = true)) (hr2 : Hid (rightV k2 i2 s2 b2 = true)) (hr3 : Hid (rightV k3 i3 s3 b3 = true)) (h1 : Hid (∀ w : World, Calls Tryd.prog 17 #[.agg #[.int .u8 k, .int .i64 i, .string s, .bool b], .agg #[.int .u8 k2, .int .i64 i2, .string s2, .bool b2]] w fun e w' => e = .returned (.bool true) ∧ Below w.heap.size w w')) (h2 : Hid (∀ w : World, Calls Tryd.prog 17 #[.agg #[.int .u8 k2, .int .i64 i2, .string s2, .bool b2], .agg #[.int .u8 k3, .int .i64 i3, .string s3, .bool b3]] w fun e w' => e = .returned (.bool true) ∧ Below w.heap.size w w')) (h3 : Hid (∀ w : World, Calls Tryd.prog 17 #[.agg #[.int .u8 k, .int .i64 i, .string s, .bool b], .agg #[.int .u8 k3, .int .i64 i3, .string s3, .bool b3]] w fun e w' => e = .returned (.bool true) ∧ Below w.heap.size w w')) (h4 : Hid (∀ w : World, Calls Tryd.prog 21 #[.agg #[.int .u8 k, .int .i64 i, .string s, .bool b], .agg #[.int .u8 k2, .int .i64 i2, .string s2, .bool b2]] w fun e w' => e = .returned (.bool false) ∧ Below w.heap.size w w')) :
    Calls Tryd.prog 6 #[.agg #[.int .u8 k, .int .i64 i, .string s, .bool b], .agg #[.int .u8 k2, .int .i64 i2, .string s2, .bool b2], .agg #[.int .u8 k3, .int .i64 i3, .string s3, .bool b3]] w fun e w' => e = .returned (.bool true) ∧ Below w.heap.size w w' := by
  go_enter Tryd.func6, Tryd.ntmps6
  go_wp2_with fail
  refine (awake_any _ (he.below (below_then (below_then (below1 _ _) (below1 _ _)) (below1 _ _)))).mono ?_
  rintro e w1 ⟨rfl, hb⟩
  obtain ⟨f0_0, f0_1, f0_2, f0_3⟩ := (Box.alloc (Box.alloc (Box.new _ _ _ _ _ _) _) _).keep hb
  have f0_z := block_of_cell f0_0
  obtain ⟨f1_0, f1_1, f1_2, f1_3⟩ := (Box.alloc (Box.new _ _ _ _ _ _) _).keep hb
  have f1_z := block_of_cell f1_0
  simp only [size_alloc] at f1_0 f1_1 f1_2 f1_3 f1_z
  obtain ⟨f2_0, f2_1, f2_2, f2_3⟩ := (Box.new _ _ _ _ _ _).keep hb
  have f2_z := block_of_cell f2_0
  simp only [size_alloc] at f2_0 f2_1 f2_2 f2_3 f2_z
  have hb0 := (below_then (below1 _ _) (below_then (below1 _ _) (below_then (below1 _ _) hb)))
  clear hb
  go_wp2_with fail
  refine (right_is hr.out _).mono ?_
  rintro e w2 ⟨rfl, hb⟩
  obtain ⟨f0_0, f0_1, f0_2, f0_3⟩ := (Box.mk f0_0 f0_1 f0_2 f0_3).keep hb
  clear f0_z
  have f0_z := block_of_cell f0_0
  obtain ⟨f1_0, f1_1, f1_2, f1_3⟩ := (Box.mk f1_0 f1_1 f1_2 f1_3).keep hb
  clear f1_z
  have f1_z := block_of_cell f1_0
  obtain ⟨f2_0, f2_1, f2_2, f2_3⟩ := (Box.mk f2_0 f2_1 f2_2 f2_3).keep hb
  clear f2_z
  have f2_z := block_of_cell f2_0
  replace hb0 := below_then hb0 hb
  clear hb
  go_wp2_with fail
  refine (right_is hr2.out _).mono ?_
  rintro e w3 ⟨rfl, hb⟩
  obtain ⟨f0_0, f0_1, f0_2, f0_3⟩ := (Box.mk f0_0 f0_1 f0_2 f0_3).keep hb
  clear f0_z
  have f0_z := block_of_cell f0_0
  obtain ⟨f1_0, f1_1, f1_2, f1_3⟩ := (Box.mk f1_0 f1_1 f1_2 f1_3).keep hb
  clear f1_z
  have f1_z := block_of_cell f1_0
  obtain ⟨f2_0, f2_1, f2_2, f2_3⟩ := (Box.mk f2_0 f2_1 f2_2 f2_3).keep hb
  clear f2_z
  have f2_z := block_of_cell f2_0
  replace hb0 := below_then hb0 hb
  clear hb
  go_wp2_with fail
  refine (right_is hr3.out _).mono ?_
  rintro e w4 ⟨rfl, hb⟩
  obtain ⟨f0_0, f0_1, f0_2, f0_3⟩ := (Box.mk f0_0 f0_1 f0_2 f0_3).keep hb
  clear f0_z
  have f0_z := block_of_cell f0_0
  obtain ⟨f1_0, f1_1, f1_2, f1_3⟩ := (Box.mk f1_0 f1_1 f1_2 f1_3).keep hb
  clear f1_z
  have f1_z := block_of_cell f1_0
  obtain ⟨f2_0, f2_1, f2_2, f2_3⟩ := (Box.mk f2_0 f2_1 f2_2 f2_3).keep hb
  clear f2_z
  have f2_z := block_of_cell f2_0
  replace hb0 := below_then hb0 hb
  clear hb
  go_wp2_with fail
  refine (h1.out _).mono ?_
  rintro e w5 ⟨rfl, hb⟩
  obtain ⟨f0_0, f0_1, f0_2, f0_3⟩ := (Box.mk f0_0 f0_1 f0_2 f0_3).keep hb
  clear f0_z
  have f0_z := block_of_cell f0_0
  obtain ⟨f1_0, f1_1, f1_2, f1_3⟩ := (Box.mk f1_0 f1_1 f1_2 f1_3).keep hb
  clear f1_z
  have f1_z := block_of_cell f1_0
  obtain ⟨f2_0, f2_1, f2_2, f2_3⟩ := (Box.mk f2_0 f2_1 f2_2 f2_3).keep hb
  clear f2_z
  have f2_z := block_of_cell f2_0
  replace hb0 := below_then hb0 hb
  clear hb
  go_wp2_with fail
  refine (h2.out _).mono ?_
  rintro e w6 ⟨rfl, hb⟩
  obtain ⟨f0_0, f0_1, f0_2, f0_3⟩ := (Box.mk f0_0 f0_1 f0_2 f0_3).keep hb
  clear f0_z
  have f0_z := block_of_cell f0_0
  obtain ⟨f1_0, f1_1, f1_2, f1_3⟩ := (Box.mk f1_0 f1_1 f1_2 f1_3).keep hb
  clear f1_z
  have f1_z := block_of_cell f1_0
  obtain ⟨f2_0, f2_1, f2_2, f2_3⟩ := (Box.mk f2_0 f2_1 f2_2 f2_3).keep hb
  clear f2_z
  have f2_z := block_of_cell f2_0
  replace hb0 := below_then hb0 hb
  clear hb
  go_wp2_with fail
  refine (h3.out _).mono ?_
  rintro e w7 ⟨rfl, hb⟩
  obtain ⟨f0_0, f0_1, f0_2, f0_3⟩ := (Box.mk f0_0 f0_1 f0_2 f0_3).keep hb
  clear f0_z
  have f0_z := block_of_cell f0_0
  obtain ⟨f1_0, f1_1, f1_2, f1_3⟩ := (Box.mk f1_0 f1_1 f1_2 f1_3).keep hb
  clear f1_z
  have f1_z := block_of_cell f1_0
  obtain ⟨f2_0, f2_1, f2_2, f2_3⟩ := (Box.mk f2_0 f2_1 f2_2 f2_3).keep hb
  clear f2_z
  have f2_z := block_of_cell f2_0
  replace hb0 := below_then hb0 hb
  clear hb
  go_wp2_with fail
  have mf0_0 := fun d os => cell_regrown f0_0 d os
  have mf0_1 := fun d os => cell_regrown f0_1 d os
  have mf0_2 := fun d os => cell_regrown f0_2 d os
  have mf0_3 := fun d os => cell_regrown f0_3 d os
  have mf1_0 := fun d os => cell_regrown f1_0 d os
  have mf1_1 := fun d os => cell_regrown f1_1 d os
  have mf1_2 := fun d os => cell_regrown f1_2 d os
  have mf1_3 := fun d os => cell_regrown f1_3 d os
  have mf2_0 := fun d os => cell_regrown f2_0 d os
  have mf2_1 := fun d os => cell_regrown f2_1 d os
  have mf2_2 := fun d os => cell_regrown f2_2 d os
  have mf2_3 := fun d os => cell_regrown f2_3 d os
  have qh4 := fun d os => Calls.regrown_of (w := w7) (d := d) (os := os) (h4.out _)
  refine wp_region_quiet_below (by kernel_rfl) (by kernel_rfl) ?_
  repeat (go_big_quiet_step (first | with_reducible exact qh4 _ _))
  refine wpQuiet_nil ?_
  intro _ hw'
  obtain ⟨⟨dq, osq⟩, hw''⟩ := hw'
  subst hw''
  clear qh4
  replace f0_0 := mf0_0 dq osq
  replace f0_1 := mf0_1 dq osq
  replace f0_2 := mf0_2 dq osq
  replace f0_3 := mf0_3 dq osq
  replace f1_0 := mf1_0 dq osq
  replace f1_1 := mf1_1 dq osq
  replace f1_2 := mf1_2 dq osq
  replace f1_3 := mf1_3 dq osq
  replace f2_0 := mf2_0 dq osq
  replace f2_1 := mf2_1 dq osq
  replace f2_2 := mf2_2 dq osq
  replace f2_3 := mf2_3 dq osq
  clear mf0_0 mf0_1 mf0_2 mf0_3 mf1_0 mf1_1 mf1_2 mf1_3 mf2_0 mf2_1 mf2_2 mf2_3
  clear f0_z
  have f0_z := block_of_cell f0_0
  clear f1_z
  have f1_z := block_of_cell f1_0
  clear f2_z
  have f2_z := block_of_cell f2_0
  replace hb0 := below_then hb0 (below_regrown w7 dq osq)
  generalize (grow (redrawn w7 dq) osq) = w7n at *
  go_wp2_with fail
  go_ret
  exact ⟨rfl, hb0⟩
set_option maxRecDepth 100000 in
set_option maxHeartbeats 1000000 in
theorem sorts_d (k i : Int) (s : ByteArray) (b : Bool) (k2 i2 : Int) (s2 : ByteArray) (b2 : Bool) (k3 i3 : Int) (s3 : ByteArray) (b3 : Bool)  (w : World) (he : Env w) (hr : Hid (rightV k i s b = true)) (hr2 : Hid (rightV k2 i2 s2 b2 = true)) (hr3 : Hid (rightV k3 i3 s3 b3 = true)) (h1 : Hid (∀ w : World, Calls Tryd.prog 17 #[.agg #[.int .u8 k, .int .i64 i, .string s, .bool b], .agg #[.int .u8 k2, .int .i64 i2, .string s2, .bool b2]] w fun e w' => e = .returned (.bool false) ∧ Below w.heap.size w w')) (h4 : Hid (∀ w : World, Calls Tryd.prog 21 #[.agg #[.int .u8 k, .int .i64 i, .string s, .bool b], .agg #[.int .u8 k2, .int .i64 i2, .string s2, .bool b2]] w fun e w' => e = .returned (.bool true) ∧ Below w.heap.size w w')) (h5 : Hid (∀ w : World, Calls Tryd.prog 17 #[.agg #[.int .u8 k, .int .i64 i, .string s, .bool b], .agg #[.int .u8 k3, .int .i64 i3, .string s3, .bool b3]] w fun e w' => e = .returned (.bool true) ∧ Below w.heap.size w w')) (h6 : Hid (∀ w : World, Calls Tryd.prog 17 #[.agg #[.int .u8 k2, .int .i64 i2, .string s2, .bool b2], .agg #[.int .u8 k3, .int .i64 i3, .string s3, .bool b3]] w fun e w' => e = .returned (.bool true) ∧ Below w.heap.size w w')) (h7 : Hid (∀ w : World, Calls Tryd.prog 17 #[.agg #[.int .u8 k3, .int .i64 i3, .string s3, .bool b3], .agg #[.int .u8 k, .int .i64 i, .string s, .bool b]] w fun e w' => e = .returned (.bool true) ∧ Below w.heap.size w w')) (h8 : Hid (∀ w : World, Calls Tryd.prog 17 #[.agg #[.int .u8 k3, .int .i64 i3, .string s3, .bool b3], .agg #[.int .u8 k2, .int .i64 i2, .string s2, .bool b2]] w fun e w' => e = .returned (.bool true) ∧ Below w.heap.size w w')) :
    Calls Tryd.prog 6 #[.agg #[.int .u8 k, .int .i64 i, .string s, .bool b], .agg #[.int .u8 k2, .int .i64 i2, .string s2, .bool b2], .agg #[.int .u8 k3, .int .i64 i3, .string s3, .bool b3]] w fun e w' => e = .returned (.bool true) ∧ Below w.heap.size w w' := by
  go_enter Tryd.func6, Tryd.ntmps6
  go_wp2_with fail
  refine (awake_any _ (he.below (below_then (below_then (below1 _ _) (below1 _ _)) (below1 _ _)))).mono ?_
  rintro e w1 ⟨rfl, hb⟩
  obtain ⟨f0_0, f0_1, f0_2, f0_3⟩ := (Box.alloc (Box.alloc (Box.new _ _ _ _ _ _) _) _).keep hb
  have f0_z := block_of_cell f0_0
  obtain ⟨f1_0, f1_1, f1_2, f1_3⟩ := (Box.alloc (Box.new _ _ _ _ _ _) _).keep hb
  have f1_z := block_of_cell f1_0
  simp only [size_alloc] at f1_0 f1_1 f1_2 f1_3 f1_z
  obtain ⟨f2_0, f2_1, f2_2, f2_3⟩ := (Box.new _ _ _ _ _ _).keep hb
  have f2_z := block_of_cell f2_0
  simp only [size_alloc] at f2_0 f2_1 f2_2 f2_3 f2_z
  have hb0 := (below_then (below1 _ _) (below_then (below1 _ _) (below_then (below1 _ _) hb)))
  clear hb
  go_wp2_with fail
  refine (right_is hr.out _).mono ?_
  rintro e w2 ⟨rfl, hb⟩
  obtain ⟨f0_0, f0_1, f0_2, f0_3⟩ := (Box.mk f0_0 f0_1 f0_2 f0_3).keep hb
  clear f0_z
  have f0_z := block_of_cell f0_0
  obtain ⟨f1_0, f1_1, f1_2, f1_3⟩ := (Box.mk f1_0 f1_1 f1_2 f1_3).keep hb
  clear f1_z
  have f1_z := block_of_cell f1_0
  obtain ⟨f2_0, f2_1, f2_2, f2_3⟩ := (Box.mk f2_0 f2_1 f2_2 f2_3).keep hb
  clear f2_z
  have f2_z := block_of_cell f2_0
  replace hb0 := below_then hb0 hb
  clear hb
  go_wp2_with fail
  refine (right_is hr2.out _).mono ?_
  rintro e w3 ⟨rfl, hb⟩
  obtain ⟨f0_0, f0_1, f0_2, f0_3⟩ := (Box.mk f0_0 f0_1 f0_2 f0_3).keep hb
  clear f0_z
  have f0_z := block_of_cell f0_0
  obtain ⟨f1_0, f1_1, f1_2, f1_3⟩ := (Box.mk f1_0 f1_1 f1_2 f1_3).keep hb
  clear f1_z
  have f1_z := block_of_cell f1_0
  obtain ⟨f2_0, f2_1, f2_2, f2_3⟩ := (Box.mk f2_0 f2_1 f2_2 f2_3).keep hb
  clear f2_z
  have f2_z := block_of_cell f2_0
  replace hb0 := below_then hb0 hb
  clear hb
  go_wp2_with fail
  refine (right_is hr3.out _).mono ?_
  rintro e w4 ⟨rfl, hb⟩
  obtain ⟨f0_0, f0_1, f0_2, f0_3⟩ := (Box.mk f0_0 f0_1 f0_2 f0_3).keep hb
  clear f0_z
  have f0_z := block_of_cell f0_0
  obtain ⟨f1_0, f1_1, f1_2, f1_3⟩ := (Box.mk f1_0 f1_1 f1_2 f1_3).keep hb
  clear f1_z
  have f1_z := block_of_cell f1_0
  obtain ⟨f2_0, f2_1, f2_2, f2_3⟩ := (Box.mk f2_0 f2_1 f2_2 f2_3).keep hb
  clear f2_z
  have f2_z := block_of_cell f2_0
  replace hb0 := below_then hb0 hb
  clear hb
  go_wp2_with fail
  refine (h1.out _).mono ?_
  rintro e w5 ⟨rfl, hb⟩
  obtain ⟨f0_0, f0_1, f0_2, f0_3⟩ := (Box.mk f0_0 f0_1 f0_2 f0_3).keep hb
  clear f0_z
  have f0_z := block_of_cell f0_0
  obtain ⟨f1_0, f1_1, f1_2, f1_3⟩ := (Box.mk f1_0 f1_1 f1_2 f1_3).keep hb
  clear f1_z
  have f1_z := block_of_cell f1_0
  obtain ⟨f2_0, f2_1, f2_2, f2_3⟩ := (Box.mk f2_0 f2_1 f2_2 f2_3).keep hb
  clear f2_z
  have f2_z := block_of_cell f2_0
  replace hb0 := below_then hb0 hb
  clear hb
  go_wp2_with fail
  have mf0_0 := fun d os => cell_regrown f0_0 d os
  have mf0_1 := fun d os => cell_regrown f0_1 d os
  have mf0_2 := fun d os => cell_regrown f0_2 d os
  have mf0_3 := fun d os => cell_regrown f0_3 d os
  have mf1_0 := fun d os => cell_regrown f1_0 d os
  have mf1_1 := fun d os => cell_regrown f1_1 d os
  have mf1_2 := fun d os => cell_regrown f1_2 d os
  have mf1_3 := fun d os => cell_regrown f1_3 d os
  have mf2_0 := fun d os => cell_regrown f2_0 d os
  have mf2_1 := fun d os => cell_regrown f2_1 d os
  have mf2_2 := fun d os => cell_regrown f2_2 d os
  have mf2_3 := fun d os => cell_regrown f2_3 d os
  have qh4 := fun d os => Calls.regrown_of (w := w5) (d := d) (os := os) (h4.out _)
  have qh5 := fun d os => Calls.regrown_of (w := w5) (d := d) (os := os) (h5.out _)
  have qh6 := fun d os => Calls.regrown_of (w := w5) (d := d) (os := os) (h6.out _)
  have qh7 := fun d os => Calls.regrown_of (w := w5) (d := d) (os := os) (h7.out _)
  have qh8 := fun d os => Calls.regrown_of (w := w5) (d := d) (os := os) (h8.out _)
  refine wp_region_quiet_below (by kernel_rfl) (by kernel_rfl) ?_
  repeat (go_big_quiet_step (first | with_reducible exact qh4 _ _ | with_reducible exact qh5 _ _ | with_reducible exact qh6 _ _ | with_reducible exact qh7 _ _ | with_reducible exact qh8 _ _))
  refine wpQuiet_nil ?_
  intro _ hw'
  obtain ⟨⟨dq, osq⟩, hw''⟩ := hw'
  subst hw''
  clear qh4 qh5 qh6 qh7 qh8
  replace f0_0 := mf0_0 dq osq
  replace f0_1 := mf0_1 dq osq
  replace f0_2 := mf0_2 dq osq
  replace f0_3 := mf0_3 dq osq
  replace f1_0 := mf1_0 dq osq
  replace f1_1 := mf1_1 dq osq
  replace f1_2 := mf1_2 dq osq
  replace f1_3 := mf1_3 dq osq
  replace f2_0 := mf2_0 dq osq
  replace f2_1 := mf2_1 dq osq
  replace f2_2 := mf2_2 dq osq
  replace f2_3 := mf2_3 dq osq
  clear mf0_0 mf0_1 mf0_2 mf0_3 mf1_0 mf1_1 mf1_2 mf1_3 mf2_0 mf2_1 mf2_2 mf2_3
  clear f0_z
  have f0_z := block_of_cell f0_0
  clear f1_z
  have f1_z := block_of_cell f1_0
  clear f2_z
  have f2_z := block_of_cell f2_0
  replace hb0 := below_then hb0 (below_regrown w5 dq osq)
  generalize (grow (redrawn w5 dq) osq) = w5n at *
  go_wp2_with fail
  go_ret
  exact ⟨rfl, hb0⟩
set_option maxRecDepth 100000 in
set_option maxHeartbeats 1000000 in
theorem sorts_e (k i : Int) (s : ByteArray) (b : Bool) (k2 i2 : Int) (s2 : ByteArray) (b2 : Bool) (k3 i3 : Int) (s3 : ByteArray) (b3 : Bool)  (w : World) (he : Env w) (hr : Hid (rightV k i s b = true)) (hr2 : Hid (rightV k2 i2 s2 b2 = true)) (hr3 : Hid (rightV k3 i3 s3 b3 = true)) (h1 : Hid (∀ w : World, Calls Tryd.prog 17 #[.agg #[.int .u8 k, .int .i64 i, .string s, .bool b], .agg #[.int .u8 k2, .int .i64 i2, .string s2, .bool b2]] w fun e w' => e = .returned (.bool false) ∧ Below w.heap.size w w')) (h4 : Hid (∀ w : World, Calls Tryd.prog 21 #[.agg #[.int .u8 k, .int .i64 i, .string s, .bool b], .agg #[.int .u8 k2, .int .i64 i2, .string s2, .bool b2]] w fun e w' => e = .returned (.bool true) ∧ Below w.heap.size w w')) (h5 : Hid (∀ w : World, Calls Tryd.prog 17 #[.agg #[.int .u8 k, .int .i64 i, .string s, .bool b], .agg #[.int .u8 k3, .int .i64 i3, .string s3, .bool b3]] w fun e w' => e = .returned (.bool true) ∧ Below w.heap.size w w')) (h6 : Hid (∀ w : World, Calls Tryd.prog 17 #[.agg #[.int .u8 k2, .int .i64 i2, .string s2, .bool b2], .agg #[.int .u8 k3, .int .i64 i3, .string s3, .bool b3]] w fun e w' => e = .returned (.bool true) ∧ Below w.heap.size w w')) (h7 : Hid (∀ w : World, Calls Tryd.prog 17 #[.agg #[.int .u8 k3, .int .i64 i3, .string s3, .bool b3], .agg #[.int .u8 k, .int .i64 i, .string s, .bool b]] w fun e w' => e = .returned (.bool false) ∧ Below w.heap.size w w')) (h8 : Hid (∀ w : World, Calls Tryd.prog 17 #[.agg #[.int .u8 k3, .int .i64 i3, .string s3, .bool b3], .agg #[.int .u8 k2, .int .i64 i2, .string s2, .bool b2]] w fun e w' => e = .returned (.bool false) ∧ Below w.heap.size w w')) :
    Calls Tryd.prog 6 #[.agg #[.int .u8 k, .int .i64 i, .string s, .bool b], .agg #[.int .u8 k2, .int .i64 i2, .string s2, .bool b2], .agg #[.int .u8 k3, .int .i64 i3, .string s3, .bool b3]] w fun e w' => e = .returned (.bool true) ∧ Below w.heap.size w w' := by
  go_enter Tryd.func6, Tryd.ntmps6
  go_wp2_with fail
  refine (awake_any _ (he.below (below_then (below_then (below1 _ _) (below1 _ _)) (below1 _ _)))).mono ?_
  rintro e w1 ⟨rfl, hb⟩
  obtain ⟨f0_0, f0_1, f0_2, f0_3⟩ := (Box.alloc (Box.alloc (Box.new _ _ _ _ _ _) _) _).keep hb
  have f0_z := block_of_cell f0_0
  obtain ⟨f1_0, f1_1, f1_2, f1_3⟩ := (Box.alloc (Box.new _ _ _ _ _ _) _).keep hb
  have f1_z := block_of_cell f1_0
  simp only [size_alloc] at f1_0 f1_1 f1_2 f1_3 f1_z
  obtain ⟨f2_0, f2_1, f2_2, f2_3⟩ := (Box.new _ _ _ _ _ _).keep hb
  have f2_z := block_of_cell f2_0
  simp only [size_alloc] at f2_0 f2_1 f2_2 f2_3 f2_z
  have hb0 := (below_then (below1 _ _) (below_then (below1 _ _) (below_then (below1 _ _) hb)))
  clear hb
  go_wp2_with fail
  refine (right_is hr.out _).mono ?_
  rintro e w2 ⟨rfl, hb⟩
  obtain ⟨f0_0, f0_1, f0_2, f0_3⟩ := (Box.mk f0_0 f0_1 f0_2 f0_3).keep hb
  clear f0_z
  have f0_z := block_of_cell f0_0
  obtain ⟨f1_0, f1_1, f1_2, f1_3⟩ := (Box.mk f1_0 f1_1 f1_2 f1_3).keep hb
  clear f1_z
  have f1_z := block_of_cell f1_0
  obtain ⟨f2_0, f2_1, f2_2, f2_3⟩ := (Box.mk f2_0 f2_1 f2_2 f2_3).keep hb
  clear f2_z
  have f2_z := block_of_cell f2_0
  replace hb0 := below_then hb0 hb
  clear hb
  go_wp2_with fail
  refine (right_is hr2.out _).mono ?_
  rintro e w3 ⟨rfl, hb⟩
  obtain ⟨f0_0, f0_1, f0_2, f0_3⟩ := (Box.mk f0_0 f0_1 f0_2 f0_3).keep hb
  clear f0_z
  have f0_z := block_of_cell f0_0
  obtain ⟨f1_0, f1_1, f1_2, f1_3⟩ := (Box.mk f1_0 f1_1 f1_2 f1_3).keep hb
  clear f1_z
  have f1_z := block_of_cell f1_0
  obtain ⟨f2_0, f2_1, f2_2, f2_3⟩ := (Box.mk f2_0 f2_1 f2_2 f2_3).keep hb
  clear f2_z
  have f2_z := block_of_cell f2_0
  replace hb0 := below_then hb0 hb
  clear hb
  go_wp2_with fail
  refine (right_is hr3.out _).mono ?_
  rintro e w4 ⟨rfl, hb⟩
  obtain ⟨f0_0, f0_1, f0_2, f0_3⟩ := (Box.mk f0_0 f0_1 f0_2 f0_3).keep hb
  clear f0_z
  have f0_z := block_of_cell f0_0
  obtain ⟨f1_0, f1_1, f1_2, f1_3⟩ := (Box.mk f1_0 f1_1 f1_2 f1_3).keep hb
  clear f1_z
  have f1_z := block_of_cell f1_0
  obtain ⟨f2_0, f2_1, f2_2, f2_3⟩ := (Box.mk f2_0 f2_1 f2_2 f2_3).keep hb
  clear f2_z
  have f2_z := block_of_cell f2_0
  replace hb0 := below_then hb0 hb
  clear hb
  go_wp2_with fail
  refine (h1.out _).mono ?_
  rintro e w5 ⟨rfl, hb⟩
  obtain ⟨f0_0, f0_1, f0_2, f0_3⟩ := (Box.mk f0_0 f0_1 f0_2 f0_3).keep hb
  clear f0_z
  have f0_z := block_of_cell f0_0
  obtain ⟨f1_0, f1_1, f1_2, f1_3⟩ := (Box.mk f1_0 f1_1 f1_2 f1_3).keep hb
  clear f1_z
  have f1_z := block_of_cell f1_0
  obtain ⟨f2_0, f2_1, f2_2, f2_3⟩ := (Box.mk f2_0 f2_1 f2_2 f2_3).keep hb
  clear f2_z
  have f2_z := block_of_cell f2_0
  replace hb0 := below_then hb0 hb
  clear hb
  go_wp2_with fail
  have mf0_0 := fun d os => cell_regrown f0_0 d os
  have mf0_1 := fun d os => cell_regrown f0_1 d os
  have mf0_2 := fun d os => cell_regrown f0_2 d os
  have mf0_3 := fun d os => cell_regrown f0_3 d os
  have mf1_0 := fun d os => cell_regrown f1_0 d os
  have mf1_1 := fun d os => cell_regrown f1_1 d os
  have mf1_2 := fun d os => cell_regrown f1_2 d os
  have mf1_3 := fun d os => cell_regrown f1_3 d os
  have mf2_0 := fun d os => cell_regrown f2_0 d os
  have mf2_1 := fun d os => cell_regrown f2_1 d os
  have mf2_2 := fun d os => cell_regrown f2_2 d os
  have mf2_3 := fun d os => cell_regrown f2_3 d os
  have qh4 := fun d os => Calls.regrown_of (w := w5) (d := d) (os := os) (h4.out _)
  have qh5 := fun d os => Calls.regrown_of (w := w5) (d := d) (os := os) (h5.out _)
  have qh6 := fun d os => Calls.regrown_of (w := w5) (d := d) (os := os) (h6.out _)
  have qh7 := fun d os => Calls.regrown_of (w := w5) (d := d) (os := os) (h7.out _)
  have qh8 := fun d os => Calls.regrown_of (w := w5) (d := d) (os := os) (h8.out _)
  refine wp_region_quiet_below (by kernel_rfl) (by kernel_rfl) ?_
  repeat (go_big_quiet_step (first | with_reducible exact qh4 _ _ | with_reducible exact qh5 _ _ | with_reducible exact qh6 _ _ | with_reducible exact qh7 _ _ | with_reducible exact qh8 _ _))
  refine wpQuiet_nil ?_
  intro _ hw'
  obtain ⟨⟨dq, osq⟩, hw''⟩ := hw'
  subst hw''
  clear qh4 qh5 qh6 qh7 qh8
  replace f0_0 := mf0_0 dq osq
  replace f0_1 := mf0_1 dq osq
  replace f0_2 := mf0_2 dq osq
  replace f0_3 := mf0_3 dq osq
  replace f1_0 := mf1_0 dq osq
  replace f1_1 := mf1_1 dq osq
  replace f1_2 := mf1_2 dq osq
  replace f1_3 := mf1_3 dq osq
  replace f2_0 := mf2_0 dq osq
  replace f2_1 := mf2_1 dq osq
  replace f2_2 := mf2_2 dq osq
  replace f2_3 := mf2_3 dq osq
  clear mf0_0 mf0_1 mf0_2 mf0_3 mf1_0 mf1_1 mf1_2 mf1_3 mf2_0 mf2_1 mf2_2 mf2_3
  clear f0_z
  have f0_z := block_of_cell f0_0
  clear f1_z
  have f1_z := block_of_cell f1_0
  clear f2_z
  have f2_z := block_of_cell f2_0
  replace hb0 := below_then hb0 (below_regrown w5 dq osq)
  generalize (grow (redrawn w5 dq) osq) = w5n at *
  go_wp2_with fail
  go_ret
  exact ⟨rfl, hb0⟩
set_option maxRecDepth 100000 in
set_option maxHeartbeats 1000000 in
theorem sorts_f (k i : Int) (s : ByteArray) (b : Bool) (k2 i2 : Int) (s2 : ByteArray) (b2 : Bool) (k3 i3 : Int) (s3 : ByteArray) (b3 : Bool)  (w : World) (he : Env w) (hr : Hid (rightV k i s b = true)) (hr2 : Hid (rightV k2 i2 s2 b2 = true)) (hr3 : Hid (rightV k3 i3 s3 b3 = true)) (h1 : Hid (∀ w : World, Calls Tryd.prog 17 #[.agg #[.int .u8 k, .int .i64 i, .string s, .bool b], .agg #[.int .u8 k2, .int .i64 i2, .string s2, .bool b2]] w fun e w' => e = .returned (.bool false) ∧ Below w.heap.size w w')) (h4 : Hid (∀ w : World, Calls Tryd.prog 21 #[.agg #[.int .u8 k, .int .i64 i, .string s, .bool b], .agg #[.int .u8 k2, .int .i64 i2, .string s2, .bool b2]] w fun e w' => e = .returned (.bool true) ∧ Below w.heap.size w w')) (h5 : Hid (∀ w : World, Calls Tryd.prog 17 #[.agg #[.int .u8 k, .int .i64 i, .string s, .bool b], .agg #[.int .u8 k3, .int .i64 i3, .string s3, .bool b3]] w fun e w' => e = .returned (.bool false) ∧ Below w.heap.size w w')) (h6 : Hid (∀ w : World, Calls Tryd.prog 17 #[.agg #[.int .u8 k2, .int .i64 i2, .string s2, .bool b2], .agg #[.int .u8 k3, .int .i64 i3, .string s3, .bool b3]] w fun e w' => e = .returned (.bool false) ∧ Below w.heap.size w w')) (h7 : Hid (∀ w : World, Calls Tryd.prog 17 #[.agg #[.int .u8 k3, .int .i64 i3, .string s3, .bool b3], .agg #[.int .u8 k, .int .i64 i, .string s, .bool b]] w fun e w' => e = .returned (.bool true) ∧ Below w.heap.size w w')) (h8 : Hid (∀ w : World, Calls Tryd.prog 17 #[.agg #[.int .u8 k3, .int .i64 i3, .string s3, .bool b3], .agg #[.int .u8 k2, .int .i64 i2, .string s2, .bool b2]] w fun e w' => e = .returned (.bool true) ∧ Below w.heap.size w w')) :
    Calls Tryd.prog 6 #[.agg #[.int .u8 k, .int .i64 i, .string s, .bool b], .agg #[.int .u8 k2, .int .i64 i2, .string s2, .bool b2], .agg #[.int .u8 k3, .int .i64 i3, .string s3, .bool b3]] w fun e w' => e = .returned (.bool true) ∧ Below w.heap.size w w' := by
  go_enter Tryd.func6, Tryd.ntmps6
  go_wp2_with fail
  refine (awake_any _ (he.below (below_then (below_then (below1 _ _) (below1 _ _)) (below1 _ _)))).mono ?_
  rintro e w1 ⟨rfl, hb⟩
  obtain ⟨f0_0, f0_1, f0_2, f0_3⟩ := (Box.alloc (Box.alloc (Box.new _ _ _ _ _ _) _) _).keep hb
  have f0_z := block_of_cell f0_0
  obtain ⟨f1_0, f1_1, f1_2, f1_3⟩ := (Box.alloc (Box.new _ _ _ _ _ _) _).keep hb
  have f1_z := block_of_cell f1_0
  simp only [size_alloc] at f1_0 f1_1 f1_2 f1_3 f1_z
  obtain ⟨f2_0, f2_1, f2_2, f2_3⟩ := (Box.new _ _ _ _ _ _).keep hb
  have f2_z := block_of_cell f2_0
  simp only [size_alloc] at f2_0 f2_1 f2_2 f2_3 f2_z
  have hb0 := (below_then (below1 _ _) (below_then (below1 _ _) (below_then (below1 _ _) hb)))
  clear hb
  go_wp2_with fail
  refine (right_is hr.out _).mono ?_
  rintro e w2 ⟨rfl, hb⟩
  obtain ⟨f0_0, f0_1, f0_2, f0_3⟩ := (Box.mk f0_0 f0_1 f0_2 f0_3).keep hb
  clear f0_z
  have f0_z := block_of_cell f0_0
  obtain ⟨f1_0, f1_1, f1_2, f1_3⟩ := (Box.mk f1_0 f1_1 f1_2 f1_3).keep hb
  clear f1_z
  have f1_z := block_of_cell f1_0
  obtain ⟨f2_0, f2_1, f2_2, f2_3⟩ := (Box.mk f2_0 f2_1 f2_2 f2_3).keep hb
  clear f2_z
  have f2_z := block_of_cell f2_0
  replace hb0 := below_then hb0 hb
  clear hb
  go_wp2_with fail
  refine (right_is hr2.out _).mono ?_
  rintro e w3 ⟨rfl, hb⟩
  obtain ⟨f0_0, f0_1, f0_2, f0_3⟩ := (Box.mk f0_0 f0_1 f0_2 f0_3).keep hb
  clear f0_z
  have f0_z := block_of_cell f0_0
  obtain ⟨f1_0, f1_1, f1_2, f1_3⟩ := (Box.mk f1_0 f1_1 f1_2 f1_3).keep hb
  clear f1_z
  have f1_z := block_of_cell f1_0
  obtain ⟨f2_0, f2_1, f2_2, f2_3⟩ := (Box.mk f2_0 f2_1 f2_2 f2_3).keep hb
  clear f2_z
  have f2_z := block_of_cell f2_0
  replace hb0 := below_then hb0 hb
  clear hb
  go_wp2_with fail
  refine (right_is hr3.out _).mono ?_
  rintro e w4 ⟨rfl, hb⟩
  obtain ⟨f0_0, f0_1, f0_2, f0_3⟩ := (Box.mk f0_0 f0_1 f0_2 f0_3).keep hb
  clear f0_z
  have f0_z := block_of_cell f0_0
  obtain ⟨f1_0, f1_1, f1_2, f1_3⟩ := (Box.mk f1_0 f1_1 f1_2 f1_3).keep hb
  clear f1_z
  have f1_z := block_of_cell f1_0
  obtain ⟨f2_0, f2_1, f2_2, f2_3⟩ := (Box.mk f2_0 f2_1 f2_2 f2_3).keep hb
  clear f2_z
  have f2_z := block_of_cell f2_0
  replace hb0 := below_then hb0 hb
  clear hb
  go_wp2_with fail
  refine (h1.out _).mono ?_
  rintro e w5 ⟨rfl, hb⟩
  obtain ⟨f0_0, f0_1, f0_2, f0_3⟩ := (Box.mk f0_0 f0_1 f0_2 f0_3).keep hb
  clear f0_z
  have f0_z := block_of_cell f0_0
  obtain ⟨f1_0, f1_1, f1_2, f1_3⟩ := (Box.mk f1_0 f1_1 f1_2 f1_3).keep hb
  clear f1_z
  have f1_z := block_of_cell f1_0
  obtain ⟨f2_0, f2_1, f2_2, f2_3⟩ := (Box.mk f2_0 f2_1 f2_2 f2_3).keep hb
  clear f2_z
  have f2_z := block_of_cell f2_0
  replace hb0 := below_then hb0 hb
  clear hb
  go_wp2_with fail
  have mf0_0 := fun d os => cell_regrown f0_0 d os
  have mf0_1 := fun d os => cell_regrown f0_1 d os
  have mf0_2 := fun d os => cell_regrown f0_2 d os
  have mf0_3 := fun d os => cell_regrown f0_3 d os
  have mf1_0 := fun d os => cell_regrown f1_0 d os
  have mf1_1 := fun d os => cell_regrown f1_1 d os
  have mf1_2 := fun d os => cell_regrown f1_2 d os
  have mf1_3 := fun d os => cell_regrown f1_3 d os
  have mf2_0 := fun d os => cell_regrown f2_0 d os
  have mf2_1 := fun d os => cell_regrown f2_1 d os
  have mf2_2 := fun d os => cell_regrown f2_2 d os
  have mf2_3 := fun d os => cell_regrown f2_3 d os
  have qh4 := fun d os => Calls.regrown_of (w := w5) (d := d) (os := os) (h4.out _)
  have qh5 := fun d os => Calls.regrown_of (w := w5) (d := d) (os := os) (h5.out _)
  have qh6 := fun d os => Calls.regrown_of (w := w5) (d := d) (os := os) (h6.out _)
  have qh7 := fun d os => Calls.regrown_of (w := w5) (d := d) (os := os) (h7.out _)
  have qh8 := fun d os => Calls.regrown_of (w := w5) (d := d) (os := os) (h8.out _)
  refine wp_region_quiet_below (by kernel_rfl) (by kernel_rfl) ?_
  repeat (go_big_quiet_step (first | with_reducible exact qh4 _ _ | with_reducible exact qh5 _ _ | with_reducible exact qh6 _ _ | with_reducible exact qh7 _ _ | with_reducible exact qh8 _ _))
  refine wpQuiet_nil ?_
  intro _ hw'
  obtain ⟨⟨dq, osq⟩, hw''⟩ := hw'
  subst hw''
  clear qh4 qh5 qh6 qh7 qh8
  replace f0_0 := mf0_0 dq osq
  replace f0_1 := mf0_1 dq osq
  replace f0_2 := mf0_2 dq osq
  replace f0_3 := mf0_3 dq osq
  replace f1_0 := mf1_0 dq osq
  replace f1_1 := mf1_1 dq osq
  replace f1_2 := mf1_2 dq osq
  replace f1_3 := mf1_3 dq osq
  replace f2_0 := mf2_0 dq osq
  replace f2_1 := mf2_1 dq osq
  replace f2_2 := mf2_2 dq osq
  replace f2_3 := mf2_3 dq osq
  clear mf0_0 mf0_1 mf0_2 mf0_3 mf1_0 mf1_1 mf1_2 mf1_3 mf2_0 mf2_1 mf2_2 mf2_3
  clear f0_z
  have f0_z := block_of_cell f0_0
  clear f1_z
  have f1_z := block_of_cell f1_0
  clear f2_z
  have f2_z := block_of_cell f2_0
  replace hb0 := below_then hb0 (below_regrown w5 dq osq)
  generalize (grow (redrawn w5 dq) osq) = w5n at *
  go_wp2_with fail
  go_ret
  exact ⟨rfl, hb0⟩
set_option maxRecDepth 100000 in
set_option maxHeartbeats 1000000 in
theorem sorts_g (k i : Int) (s : ByteArray) (b : Bool) (k2 i2 : Int) (s2 : ByteArray) (b2 : Bool) (k3 i3 : Int) (s3 : ByteArray) (b3 : Bool)  (w : World) (he : Env w) (hr : Hid (rightV k i s b = true)) (hr2 : Hid (rightV k2 i2 s2 b2 = true)) (hr3 : Hid (rightV k3 i3 s3 b3 = true)) (h1 : Hid (∀ w : World, Calls Tryd.prog 17 #[.agg #[.int .u8 k, .int .i64 i, .string s, .bool b], .agg #[.int .u8 k2, .int .i64 i2, .string s2, .bool b2]] w fun e w' => e = .returned (.bool false) ∧ Below w.heap.size w w')) (h4 : Hid (∀ w : World, Calls Tryd.prog 21 #[.agg #[.int .u8 k, .int .i64 i, .string s, .bool b], .agg #[.int .u8 k2, .int .i64 i2, .string s2, .bool b2]] w fun e w' => e = .returned (.bool true) ∧ Below w.heap.size w w')) (h5 : Hid (∀ w : World, Calls Tryd.prog 17 #[.agg #[.int .u8 k, .int .i64 i, .string s, .bool b], .agg #[.int .u8 k3, .int .i64 i3, .string s3, .bool b3]] w fun e w' => e = .returned (.bool false) ∧ Below w.heap.size w w')) (h6 : Hid (∀ w : World, Calls Tryd.prog 17 #[.agg #[.int .u8 k2, .int .i64 i2, .string s2, .bool b2], .agg #[.int .u8 k3, .int .i64 i3, .string s3, .bool b3]] w fun e w' => e = .returned (.bool false) ∧ Below w.heap.size w w')) (h7 : Hid (∀ w : World, Calls Tryd.prog 17 #[.agg #[.int .u8 k3, .int .i64 i3, .string s3, .bool b3], .agg #[.int .u8 k, .int .i64 i, .string s, .bool b]] w fun e w' => e = .returned (.bool false) ∧ Below w.heap.size w w')) (h8 : Hid (∀ w : World, Calls Tryd.prog 17 #[.agg #[.int .u8 k3, .int .i64 i3, .string s3, .bool b3], .agg #[.int .u8 k2, .int .i64 i2, .string s2, .bool b2]] w fun e w' => e = .returned (.bool false) ∧ Below w.heap.size w w')) :
    Calls Tryd.prog 6 #[.agg #[.int .u8 k, .int .i64 i, .string s, .bool b], .agg #[.int .u8 k2, .int .i64 i2, .string s2, .bool b2], .agg #[.int .u8 k3, .int .i64 i3, .string s3, .bool b3]] w fun e w' => e = .returned (.bool true) ∧ Below w.heap.size w w' := by
  go_enter Tryd.func6, Tryd.ntmps6
  go_wp2_with fail
  refine (awake_any _ (he.below (below_then (below_then (below1 _ _) (below1 _ _)) (below1 _ _)))).mono ?_
  rintro e w1 ⟨rfl, hb⟩
  obtain ⟨f0_0, f0_1, f0_2, f0_3⟩ := (Box.alloc (Box.alloc (Box.new _ _ _ _ _ _) _) _).keep hb
  have f0_z := block_of_cell f0_0
  obtain ⟨f1_0, f1_1, f1_2, f1_3⟩ := (Box.alloc (Box.new _ _ _ _ _ _) _).keep hb
  have f1_z := block_of_cell f1_0
  simp only [size_alloc] at f1_0 f1_1 f1_2 f1_3 f1_z
  obtain ⟨f2_0, f2_1, f2_2, f2_3⟩ := (Box.new _ _ _ _ _ _).keep hb
  have f2_z := block_of_cell f2_0
  simp only [size_alloc] at f2_0 f2_1 f2_2 f2_3 f2_z
  have hb0 := (below_then (below1 _ _) (below_then (below1 _ _) (below_then (below1 _ _) hb)))
  clear hb
  go_wp2_with fail
  refine (right_is hr.out _).mono ?_
  rintro e w2 ⟨rfl, hb⟩
  obtain ⟨f0_0, f0_1, f0_2, f0_3⟩ := (Box.mk f0_0 f0_1 f0_2 f0_3).keep hb
  clear f0_z
  have f0_z := block_of_cell f0_0
  obtain ⟨f1_0, f1_1, f1_2, f1_3⟩ := (Box.mk f1_0 f1_1 f1_2 f1_3).keep hb
  clear f1_z
  have f1_z := block_of_cell f1_0
  obtain ⟨f2_0, f2_1, f2_2, f2_3⟩ := (Box.mk f2_0 f2_1 f2_2 f2_3).keep hb
  clear f2_z
  have f2_z := block_of_cell f2_0
  replace hb0 := below_then hb0 hb
  clear hb
  go_wp2_with fail
  refine (right_is hr2.out _).mono ?_
  rintro e w3 ⟨rfl, hb⟩
  obtain ⟨f0_0, f0_1, f0_2, f0_3⟩ := (Box.mk f0_0 f0_1 f0_2 f0_3).keep hb
  clear f0_z
  have f0_z := block_of_cell f0_0
  obtain ⟨f1_0, f1_1, f1_2, f1_3⟩ := (Box.mk f1_0 f1_1 f1_2 f1_3).keep hb
  clear f1_z
  have f1_z := block_of_cell f1_0
  obtain ⟨f2_0, f2_1, f2_2, f2_3⟩ := (Box.mk f2_0 f2_1 f2_2 f2_3).keep hb
  clear f2_z
  have f2_z := block_of_cell f2_0
  replace hb0 := below_then hb0 hb
  clear hb
  go_wp2_with fail
  refine (right_is hr3.out _).mono ?_
  rintro e w4 ⟨rfl, hb⟩
  obtain ⟨f0_0, f0_1, f0_2, f0_3⟩ := (Box.mk f0_0 f0_1 f0_2 f0_3).keep hb
  clear f0_z
  have f0_z := block_of_cell f0_0
  obtain ⟨f1_0, f1_1, f1_2, f1_3⟩ := (Box.mk f1_0 f1_1 f1_2 f1_3).keep hb
  clear f1_z
  have f1_z := block_of_cell f1_0
  obtain ⟨f2_0, f2_1, f2_2, f2_3⟩ := (Box.mk f2_0 f2_1 f2_2 f2_3).keep hb
  clear f2_z
  have f2_z := block_of_cell f2_0
  replace hb0 := below_then hb0 hb
  clear hb
  go_wp2_with fail
  refine (h1.out _).mono ?_
  rintro e w5 ⟨rfl, hb⟩
  obtain ⟨f0_0, f0_1, f0_2, f0_3⟩ := (Box.mk f0_0 f0_1 f0_2 f0_3).keep hb
  clear f0_z
  have f0_z := block_of_cell f0_0
  obtain ⟨f1_0, f1_1, f1_2, f1_3⟩ := (Box.mk f1_0 f1_1 f1_2 f1_3).keep hb
  clear f1_z
  have f1_z := block_of_cell f1_0
  obtain ⟨f2_0, f2_1, f2_2, f2_3⟩ := (Box.mk f2_0 f2_1 f2_2 f2_3).keep hb
  clear f2_z
  have f2_z := block_of_cell f2_0
  replace hb0 := below_then hb0 hb
  clear hb
  go_wp2_with fail
  have mf0_0 := fun d os => cell_regrown f0_0 d os
  have mf0_1 := fun d os => cell_regrown f0_1 d os
  have mf0_2 := fun d os => cell_regrown f0_2 d os
  have mf0_3 := fun d os => cell_regrown f0_3 d os
  have mf1_0 := fun d os => cell_regrown f1_0 d os
  have mf1_1 := fun d os => cell_regrown f1_1 d os
  have mf1_2 := fun d os => cell_regrown f1_2 d os
  have mf1_3 := fun d os => cell_regrown f1_3 d os
  have mf2_0 := fun d os => cell_regrown f2_0 d os
  have mf2_1 := fun d os => cell_regrown f2_1 d os
  have mf2_2 := fun d os => cell_regrown f2_2 d os
  have mf2_3 := fun d os => cell_regrown f2_3 d os
  have qh4 := fun d os => Calls.regrown_of (w := w5) (d := d) (os := os) (h4.out _)
  have qh5 := fun d os => Calls.regrown_of (w := w5) (d := d) (os := os) (h5.out _)
  have qh6 := fun d os => Calls.regrown_of (w := w5) (d := d) (os := os) (h6.out _)
  have qh7 := fun d os => Calls.regrown_of (w := w5) (d := d) (os := os) (h7.out _)
  have qh8 := fun d os => Calls.regrown_of (w := w5) (d := d) (os := os) (h8.out _)
  refine wp_region_quiet_below (by kernel_rfl) (by kernel_rfl) ?_
  repeat (go_big_quiet_step (first | with_reducible exact qh4 _ _ | with_reducible exact qh5 _ _ | with_reducible exact qh6 _ _ | with_reducible exact qh7 _ _ | with_reducible exact qh8 _ _))
  refine wpQuiet_nil ?_
  intro _ hw'
  obtain ⟨⟨dq, osq⟩, hw''⟩ := hw'
  subst hw''
  clear qh4 qh5 qh6 qh7 qh8
  replace f0_0 := mf0_0 dq osq
  replace f0_1 := mf0_1 dq osq
  replace f0_2 := mf0_2 dq osq
  replace f0_3 := mf0_3 dq osq
  replace f1_0 := mf1_0 dq osq
  replace f1_1 := mf1_1 dq osq
  replace f1_2 := mf1_2 dq osq
  replace f1_3 := mf1_3 dq osq
  replace f2_0 := mf2_0 dq osq
  replace f2_1 := mf2_1 dq osq
  replace f2_2 := mf2_2 dq osq
  replace f2_3 := mf2_3 dq osq
  clear mf0_0 mf0_1 mf0_2 mf0_3 mf1_0 mf1_1 mf1_2 mf1_3 mf2_0 mf2_1 mf2_2 mf2_3
  clear f0_z
  have f0_z := block_of_cell f0_0
  clear f1_z
  have f1_z := block_of_cell f1_0
  clear f2_z
  have f2_z := block_of_cell f2_0
  replace hb0 := below_then hb0 (below_regrown w5 dq osq)
  generalize (grow (redrawn w5 dq) osq) = w5n at *
  go_wp2_with fail
  go_ret
  exact ⟨rfl, hb0⟩
theorem less_is {k i : Int} {s : ByteArray} {b : Bool} {k2 i2 : Int} {s2 : ByteArray} {b2 r : Bool} (h : decide (orderV k i s b k2 i2 s2 b2 < 0) = r) : Hid (∀ w : World, Calls Tryd.prog 17 #[.agg #[.int .u8 k, .int .i64 i, .string s, .bool b], .agg #[.int .u8 k2, .int .i64 i2, .string s2, .bool b2]] w fun e w' => e = .returned (.bool r) ∧ Below w.heap.size w w') := Lib.hid (fun w => h ▸ less_any k i s b k2 i2 s2 b2 w)
theorem same_is {k i : Int} {s : ByteArray} {b : Bool} {k2 i2 : Int} {s2 : ByteArray} {b2 r : Bool} (h : (orderV k i s b k2 i2 s2 b2 == 0) = r) : Hid (∀ w : World, Calls Tryd.prog 21 #[.agg #[.int .u8 k, .int .i64 i, .string s, .bool b], .agg #[.int .u8 k2, .int .i64 i2, .string s2, .bool b2]] w fun e w' => e = .returned (.bool r) ∧ Below w.heap.size w w') := Lib.hid (fun w => h ▸ same_any k i s b k2 i2 s2 b2 w)
theorem sorts_walk (k i : Int) (s : ByteArray) (b : Bool) (k2 i2 : Int) (s2 : ByteArray) (b2 : Bool) (k3 i3 : Int) (s3 : ByteArray) (b3 : Bool) (w : World) (he : Env w) :
    Calls Tryd.prog 6 #[.agg #[.int .u8 k, .int .i64 i, .string s, .bool b], .agg #[.int .u8 k2, .int .i64 i2, .string s2, .bool b2], .agg #[.int .u8 k3, .int .i64 i3, .string s3, .bool b3]] w fun e w' => e = .returned (.bool true) ∧ Below w.heap.size w w' := by
  cases h : rightV k i s b with
  | false => exact sorts_w0 k i s b k2 i2 s2 b2 k3 i3 s3 b3 w he (Lib.hid h)
  | true =>
  cases h2 : rightV k2 i2 s2 b2 with
  | false => exact sorts_w1 k i s b k2 i2 s2 b2 k3 i3 s3 b3 w he (Lib.hid h) (Lib.hid h2)
  | true =>
  cases h3 : rightV k3 i3 s3 b3 with
  | false => exact sorts_w2 k i s b k2 i2 s2 b2 k3 i3 s3 b3 w he (Lib.hid h) (Lib.hid h2) (Lib.hid h3)
  | true =>
  by_cases hy : orderV k i s b k2 i2 s2 b2 = 0
  · have x1 : decide (orderV k i s b k2 i2 s2 b2 < 0) = false := by rw [hy]; rfl
    have ha := ord_alike (k3 := k3) (i3 := i3) (s3 := s3) (b3 := b3) hy
    cases u : decide (orderV k i s b k3 i3 s3 b3 < 0) <;> cases v : decide (orderV k3 i3 s3 b3 k i s b < 0)
    · exact sorts_g k i s b k2 i2 s2 b2 k3 i3 s3 b3 w he (Lib.hid h) (Lib.hid h2) (Lib.hid h3) (less_is x1) (same_is (by rw [hy]; rfl)) (less_is u) (less_is ((decide_eq_decide.2 ha.1).symm.trans u)) (less_is v) (less_is ((decide_eq_decide.2 ha.2).symm.trans v))
    · exact sorts_f k i s b k2 i2 s2 b2 k3 i3 s3 b3 w he (Lib.hid h) (Lib.hid h2) (Lib.hid h3) (less_is x1) (same_is (by rw [hy]; rfl)) (less_is u) (less_is ((decide_eq_decide.2 ha.1).symm.trans u)) (less_is v) (less_is ((decide_eq_decide.2 ha.2).symm.trans v))
    · exact sorts_e k i s b k2 i2 s2 b2 k3 i3 s3 b3 w he (Lib.hid h) (Lib.hid h2) (Lib.hid h3) (less_is x1) (same_is (by rw [hy]; rfl)) (less_is u) (less_is ((decide_eq_decide.2 ha.1).symm.trans u)) (less_is v) (less_is ((decide_eq_decide.2 ha.2).symm.trans v))
    · exact sorts_d k i s b k2 i2 s2 b2 k3 i3 s3 b3 w he (Lib.hid h) (Lib.hid h2) (Lib.hid h3) (less_is x1) (same_is (by rw [hy]; rfl)) (less_is u) (less_is ((decide_eq_decide.2 ha.1).symm.trans u)) (less_is v) (less_is ((decide_eq_decide.2 ha.2).symm.trans v))
  · have hy' : (orderV k i s b k2 i2 s2 b2 == 0) = false := beq_eq_false_iff_ne.2 hy
    by_cases x1 : orderV k i s b k2 i2 s2 b2 < 0
    · by_cases x2 : orderV k2 i2 s2 b2 k3 i3 s3 b3 < 0
      · exact sorts_c k i s b k2 i2 s2 b2 k3 i3 s3 b3 w he (Lib.hid h) (Lib.hid h2) (Lib.hid h3) (less_is (decide_eq_true x1)) (less_is (decide_eq_true x2)) (less_is (decide_eq_true (ord_trans x1 x2))) (same_is hy')
      · exact sorts_b k i s b k2 i2 s2 b2 k3 i3 s3 b3 w he (Lib.hid h) (Lib.hid h2) (Lib.hid h3) (less_is (decide_eq_true x1)) (less_is (decide_eq_false x2)) (same_is hy')
    · exact sorts_a k i s b k2 i2 s2 b2 k3 i3 s3 b3 w he (Lib.hid h) (Lib.hid h2) (Lib.hid h3) (less_is (decide_eq_false x1)) (same_is hy')
end Go.Proofs.YtpkohkhgimmkhaaDoor
