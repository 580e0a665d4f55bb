/-
  The walks of CellLiterals and CellApart. Conditions: the library's tables are as laid.
-/
import Derived.Test.YtpkohkhgimmkhaaDoorCellLaws3b
import Derived.Test.YtpkohkhgimmkhaaDoorCellRefLit
namespace Go.Proofs.YtpkohkhgimmkhaaDoor
open Go.RowKit Go.Sort
set_option linter.unusedVariables false
set_option linter.unusedSimpArgs false

theorem ret_bool {a b : Bool} (h : a = b) : Ending.returned (.bool a) = .returned (.bool b) := by rw [h]
set_option maxRecDepth 100000 in
set_option maxHeartbeats 1000000 in
theorem lits_w (k i : Int) (s : ByteArray) (b : Bool)  (w : World) (he : Env w) (hR : Hid (∀ w : World, Calls Tryd.prog 13 #[.agg #[.int .u8 k, .int .i64 i, .string s, .bool b]] w fun e w' => e = .returned (.bool false) ∧ Below w.heap.size w w')) :
    Calls Tryd.prog 3 #[.agg #[.int .u8 k, .int .i64 i, .string s, .bool b]] w fun e w' => e = .returned (.bool true) ∧ Below w.heap.size w w' := by
  go_enter Tryd.func3, Tryd.ntmps3
  go_wp2_with fail
  refine (awake_any _ (he.below (below1 _ _))).mono ?_
  rintro e w1 ⟨rfl, hb⟩
  obtain ⟨f0_0, f0_1, f0_2, f0_3⟩ := (Box.new _ _ _ _ _ _).keep hb
  have f0_z := block_of_cell f0_0
  have hb0 := (below_then (below1 _ _) hb)
  clear hb
  go_wp2_with fail
  have heW := he.below hb0
  have mf0_0 := fun d os => cell_regrown f0_0 d os
  have mf0_1 := fun d os => cell_regrown f0_1 d os
  have mf0_2 := fun d os => cell_regrown f0_2 d os
  have mf0_3 := fun d os => cell_regrown f0_3 d os
  have qhR := fun d os => Calls.regrown_of (w := w1) (d := d) (os := os) (hR.out _)
  clear heW
  refine wp_region_quiet_below (by kernel_rfl) (by kernel_rfl) ?_
  repeat (go_big_quiet_step (first | with_reducible exact qhR _ _))
  refine wpQuiet_nil ?_
  intro _ hw'
  obtain ⟨⟨dq, osq⟩, hw''⟩ := hw'
  subst hw''
  clear qhR
  replace f0_0 := mf0_0 dq osq
  replace f0_1 := mf0_1 dq osq
  replace f0_2 := mf0_2 dq osq
  replace f0_3 := mf0_3 dq osq
  clear mf0_0 mf0_1 mf0_2 mf0_3
  clear f0_z
  have f0_z := block_of_cell f0_0
  replace hb0 := below_then hb0 (below_regrown w1 dq osq)
  generalize (grow (redrawn w1 dq) osq) = w1n at *
  go_wp2_with fail
  go_ret
  exact ⟨rfl, hb0⟩
set_option maxRecDepth 100000 in
set_option maxHeartbeats 1000000 in
theorem lits_r (k i : Int) (s : ByteArray) (b : Bool) (x : ByteArray) (w : World) (he : Env w) (hR : Hid (∀ w : World, Calls Tryd.prog 13 #[.agg #[.int .u8 k, .int .i64 i, .string s, .bool b]] w fun e w' => e = .returned (.bool true) ∧ Below w.heap.size w w')) (hL : Hid (∀ w : World, Env w → Calls Tryd.prog 14 #[.agg #[.int .u8 k, .int .i64 i, .string s, .bool b]] w fun e w' => e = .returned (.string x) ∧ Below w.heap.size w w')) (hM : Hid (∀ w : World, Calls Tryd.prog 15 #[.agg #[.int .u8 k, .int .i64 i, .string s, .bool b]] w fun e w' => e = .returned (.string x) ∧ Below w.heap.size w w')) :
    Calls Tryd.prog 3 #[.agg #[.int .u8 k, .int .i64 i, .string s, .bool b]] w fun e w' => e = .returned (.bool true) ∧ Below w.heap.size w w' := by
  go_enter Tryd.func3, Tryd.ntmps3
  go_wp2_with fail
  refine (awake_any _ (he.below (below1 _ _))).mono ?_
  rintro e w1 ⟨rfl, hb⟩
  obtain ⟨f0_0, f0_1, f0_2, f0_3⟩ := (Box.new _ _ _ _ _ _).keep hb
  have f0_z := block_of_cell f0_0
  have hb0 := (below_then (below1 _ _) hb)
  clear hb
  go_wp2_with fail
  have heW := he.below hb0
  have mf0_0 := fun d os => cell_regrown f0_0 d os
  have mf0_1 := fun d os => cell_regrown f0_1 d os
  have mf0_2 := fun d os => cell_regrown f0_2 d os
  have mf0_3 := fun d os => cell_regrown f0_3 d os
  have qhR := fun d os => Calls.regrown_of (w := w1) (d := d) (os := os) (hR.out _)
  have qhL := fun d os => Calls.regrown_of (w := w1) (d := d) (os := os) (hL.out _ (heW.below (below_regrown w1 d os)))
  have qhM := fun d os => Calls.regrown_of (w := w1) (d := d) (os := os) (hM.out _)
  clear heW
  refine wp_region_quiet_below (by kernel_rfl) (by kernel_rfl) ?_
  repeat (go_big_quiet_step (first | with_reducible exact qhR _ _ | with_reducible exact qhL _ _ | with_reducible exact qhM _ _))
  refine wpQuiet_nil ?_
  intro _ hw'
  obtain ⟨⟨dq, osq⟩, hw''⟩ := hw'
  subst hw''
  clear qhR qhL qhM
  replace f0_0 := mf0_0 dq osq
  replace f0_1 := mf0_1 dq osq
  replace f0_2 := mf0_2 dq osq
  replace f0_3 := mf0_3 dq osq
  clear mf0_0 mf0_1 mf0_2 mf0_3
  clear f0_z
  have f0_z := block_of_cell f0_0
  replace hb0 := below_then hb0 (below_regrown w1 dq osq)
  generalize (grow (redrawn w1 dq) osq) = w1n at *
  go_wp2_with fail
  go_ret
  exact ⟨ret_bool (by simp), hb0⟩
theorem lits_walk (k i : Int) (s : ByteArray) (b : Bool) (w : World) (he : Env w) (hi : R i) :
    Calls Tryd.prog 3 #[.agg #[.int .u8 k, .int .i64 i, .string s, .bool b]] w fun e w' => e = .returned (.bool true) ∧ Below w.heap.size w w' := by
  cases h : rightV k i s b with
  | false => exact lits_w k i s b w he (Lib.hid (right_is h))
  | true =>
    have hs : k = 2 → s.size ≤ 100 := fun hk => by
      rcases right_cases h with ⟨h', _⟩ | ⟨h', _⟩ | ⟨_, _, h', _⟩ | ⟨h', _⟩ <;> omega
    exact lits_r k i s b _ w he (Lib.hid (right_is h)) (Lib.hid (fun w he => literal_any k i s b w hi hs he)) (Lib.hid (fun w => rliteral_any k i s b w hi hs))
theorem apart_w0 (k i : Int) (s : ByteArray) (b : Bool) (k2 i2 : Int) (s2 : ByteArray) (b2 : Bool)  (w : World) (he : Env w) (hr : Hid (rightV k i s b = false)) :
    Calls Tryd.prog 4 #[.agg #[.int .u8 k, .int .i64 i, .string s, .bool b], .agg #[.int .u8 k2, .int .i64 i2, .string s2, .bool b2]] w fun e w' => e = .returned (.bool true) ∧ Below w.heap.size w w' := by
  go_enter Tryd.func4, Tryd.ntmps4
  go_wp2_with fail
  refine (awake_any _ (he.below (below_then (below1 _ _) (below1 _ _)))).mono ?_
  rintro e w1 ⟨rfl, hb⟩
  obtain ⟨f0_0, f0_1, f0_2, f0_3⟩ := (Box.alloc (Box.new _ _ _ _ _ _) _).keep hb
  have f0_z := block_of_cell f0_0
  obtain ⟨f1_0, f1_1, f1_2, f1_3⟩ := (Box.new _ _ _ _ _ _).keep hb
  have f1_z := block_of_cell f1_0
  simp only [size_alloc] at f1_0 f1_1 f1_2 f1_3 f1_z
  have hb0 := (below_then (below1 _ _) (below_then (below1 _ _) hb))
  clear hb
  go_wp2_with fail
  refine (right_is hr.out _).mono ?_
  rintro e w2 ⟨rfl, hb⟩
  obtain ⟨f0_0, f0_1, f0_2, f0_3⟩ := (Box.mk f0_0 f0_1 f0_2 f0_3).keep hb
  clear f0_z
  have f0_z := block_of_cell f0_0
  obtain ⟨f1_0, f1_1, f1_2, f1_3⟩ := (Box.mk f1_0 f1_1 f1_2 f1_3).keep hb
  clear f1_z
  have f1_z := block_of_cell f1_0
  replace hb0 := below_then hb0 hb
  clear hb
  go_wp2_with fail
  go_ret
  exact ⟨rfl, hb0⟩
theorem apart_w1 (k i : Int) (s : ByteArray) (b : Bool) (k2 i2 : Int) (s2 : ByteArray) (b2 : Bool)  (w : World) (he : Env w) (hr : Hid (rightV k i s b = true)) (hr2 : Hid (rightV k2 i2 s2 b2 = false)) :
    Calls Tryd.prog 4 #[.agg #[.int .u8 k, .int .i64 i, .string s, .bool b], .agg #[.int .u8 k2, .int .i64 i2, .string s2, .bool b2]] w fun e w' => e = .returned (.bool true) ∧ Below w.heap.size w w' := by
  go_enter Tryd.func4, Tryd.ntmps4
  go_wp2_with fail
  refine (awake_any _ (he.below (below_then (below1 _ _) (below1 _ _)))).mono ?_
  rintro e w1 ⟨rfl, hb⟩
  obtain ⟨f0_0, f0_1, f0_2, f0_3⟩ := (Box.alloc (Box.new _ _ _ _ _ _) _).keep hb
  have f0_z := block_of_cell f0_0
  obtain ⟨f1_0, f1_1, f1_2, f1_3⟩ := (Box.new _ _ _ _ _ _).keep hb
  have f1_z := block_of_cell f1_0
  simp only [size_alloc] at f1_0 f1_1 f1_2 f1_3 f1_z
  have hb0 := (below_then (below1 _ _) (below_then (below1 _ _) hb))
  clear hb
  go_wp2_with fail
  refine (right_is hr.out _).mono ?_
  rintro e w2 ⟨rfl, hb⟩
  obtain ⟨f0_0, f0_1, f0_2, f0_3⟩ := (Box.mk f0_0 f0_1 f0_2 f0_3).keep hb
  clear f0_z
  have f0_z := block_of_cell f0_0
  obtain ⟨f1_0, f1_1, f1_2, f1_3⟩ := (Box.mk f1_0 f1_1 f1_2 f1_3).keep hb
  clear f1_z
  have f1_z := block_of_cell f1_0
  replace hb0 := below_then hb0 hb
  clear hb
  go_wp2_with fail
  refine (right_is hr2.out _).mono ?_
  rintro e w3 ⟨rfl, hb⟩
  obtain ⟨f0_0, f0_1, f0_2, f0_3⟩ := (Box.mk f0_0 f0_1 f0_2 f0_3).keep hb
  clear f0_z
  have f0_z := block_of_cell f0_0
  obtain ⟨f1_0, f1_1, f1_2, f1_3⟩ := (Box.mk f1_0 f1_1 f1_2 f1_3).keep hb
  clear f1_z
  have f1_z := block_of_cell f1_0
  replace hb0 := below_then hb0 hb
  clear hb
  go_wp2_with fail
  go_ret
  exact ⟨rfl, hb0⟩
set_option maxRecDepth 100000 in
set_option maxHeartbeats 1000000 in
theorem apart_d (k i : Int) (s : ByteArray) (b : Bool) (k2 i2 : Int) (s2 : ByteArray) (b2 : Bool) (x y : ByteArray) (w : World) (he : Env w) (hr : Hid (rightV k i s b = true)) (hr2 : Hid (rightV k2 i2 s2 b2 = true)) (hL : Hid (∀ w : World, Env w → Calls Tryd.prog 14 #[.agg #[.int .u8 k, .int .i64 i, .string s, .bool b]] w fun e w' => e = .returned (.string x) ∧ Below w.heap.size w w')) (hL2 : Hid (∀ w : World, Env w → Calls Tryd.prog 14 #[.agg #[.int .u8 k2, .int .i64 i2, .string s2, .bool b2]] w fun e w' => e = .returned (.string y) ∧ Below w.heap.size w w')) (hk : (k == k2) = false) (hx : Hid ((x.toList == y.toList) = false)) :
    Calls Tryd.prog 4 #[.agg #[.int .u8 k, .int .i64 i, .string s, .bool b], .agg #[.int .u8 k2, .int .i64 i2, .string s2, .bool b2]] w fun e w' => e = .returned (.bool true) ∧ Below w.heap.size w w' := by
  go_enter Tryd.func4, Tryd.ntmps4
  go_wp2_with fail
  refine (awake_any _ (he.below (below_then (below1 _ _) (below1 _ _)))).mono ?_
  rintro e w1 ⟨rfl, hb⟩
  obtain ⟨f0_0, f0_1, f0_2, f0_3⟩ := (Box.alloc (Box.new _ _ _ _ _ _) _).keep hb
  have f0_z := block_of_cell f0_0
  obtain ⟨f1_0, f1_1, f1_2, f1_3⟩ := (Box.new _ _ _ _ _ _).keep hb
  have f1_z := block_of_cell f1_0
  simp only [size_alloc] at f1_0 f1_1 f1_2 f1_3 f1_z
  have hb0 := (below_then (below1 _ _) (below_then (below1 _ _) hb))
  clear hb
  go_wp2_with fail
  refine (right_is hr.out _).mono ?_
  rintro e w2 ⟨rfl, hb⟩
  obtain ⟨f0_0, f0_1, f0_2, f0_3⟩ := (Box.mk f0_0 f0_1 f0_2 f0_3).keep hb
  clear f0_z
  have f0_z := block_of_cell f0_0
  obtain ⟨f1_0, f1_1, f1_2, f1_3⟩ := (Box.mk f1_0 f1_1 f1_2 f1_3).keep hb
  clear f1_z
  have f1_z := block_of_cell f1_0
  replace hb0 := below_then hb0 hb
  clear hb
  go_wp2_with fail
  refine (right_is hr2.out _).mono ?_
  rintro e w3 ⟨rfl, hb⟩
  obtain ⟨f0_0, f0_1, f0_2, f0_3⟩ := (Box.mk f0_0 f0_1 f0_2 f0_3).keep hb
  clear f0_z
  have f0_z := block_of_cell f0_0
  obtain ⟨f1_0, f1_1, f1_2, f1_3⟩ := (Box.mk f1_0 f1_1 f1_2 f1_3).keep hb
  clear f1_z
  have f1_z := block_of_cell f1_0
  replace hb0 := below_then hb0 hb
  clear hb
  go_wp2_with fail
  have heW := he.below hb0
  have mf0_0 := fun d os => cell_regrown f0_0 d os
  have mf0_1 := fun d os => cell_regrown f0_1 d os
  have mf0_2 := fun d os => cell_regrown f0_2 d os
  have mf0_3 := fun d os => cell_regrown f0_3 d os
  have mf1_0 := fun d os => cell_regrown f1_0 d os
  have mf1_1 := fun d os => cell_regrown f1_1 d os
  have mf1_2 := fun d os => cell_regrown f1_2 d os
  have mf1_3 := fun d os => cell_regrown f1_3 d os
  have qhL := fun d os => Calls.regrown_of (w := w3) (d := d) (os := os) (hL.out _ (heW.below (below_regrown w3 d os)))
  have qhL2 := fun d os => Calls.regrown_of (w := w3) (d := d) (os := os) (hL2.out _ (heW.below (below_regrown w3 d os)))
  clear heW
  refine wp_region_quiet_below (by kernel_rfl) (by kernel_rfl) ?_
  repeat (go_big_quiet_step (first | with_reducible exact qhL _ _ | with_reducible exact qhL2 _ _))
  refine wpQuiet_nil ?_
  intro _ hw'
  obtain ⟨⟨dq, osq⟩, hw''⟩ := hw'
  subst hw''
  clear qhL qhL2
  replace f0_0 := mf0_0 dq osq
  replace f0_1 := mf0_1 dq osq
  replace f0_2 := mf0_2 dq osq
  replace f0_3 := mf0_3 dq osq
  replace f1_0 := mf1_0 dq osq
  replace f1_1 := mf1_1 dq osq
  replace f1_2 := mf1_2 dq osq
  replace f1_3 := mf1_3 dq osq
  clear mf0_0 mf0_1 mf0_2 mf0_3 mf1_0 mf1_1 mf1_2 mf1_3
  clear f0_z
  have f0_z := block_of_cell f0_0
  clear f1_z
  have f1_z := block_of_cell f1_0
  replace hb0 := below_then hb0 (below_regrown w3 dq osq)
  generalize (grow (redrawn w3 dq) osq) = w3n at *
  go_wp2_with fail
  go_ret
  exact ⟨ret_bool (by rw [hx.out] <;> rfl), hb0⟩
set_option maxRecDepth 100000 in
set_option maxHeartbeats 1000000 in
theorem apart_st (k i : Int) (s : ByteArray) (b : Bool) (i2 : Int) (s2 : ByteArray) (b2 : Bool) (x y : ByteArray) (w : World) (he : Env w) (hr : Hid (rightV k i s b = true)) (hr2 : Hid (rightV k i2 s2 b2 = true)) (hL : Hid (∀ w : World, Env w → Calls Tryd.prog 14 #[.agg #[.int .u8 k, .int .i64 i, .string s, .bool b]] w fun e w' => e = .returned (.string x) ∧ Below w.heap.size w w')) (hL2 : Hid (∀ w : World, Env w → Calls Tryd.prog 14 #[.agg #[.int .u8 k, .int .i64 i2, .string s2, .bool b2]] w fun e w' => e = .returned (.string y) ∧ Below w.heap.size w w')) (hS : Hid (∀ w : World, Calls Tryd.prog 16 #[.agg #[.int .u8 k, .int .i64 i, .string s, .bool b], .agg #[.int .u8 k, .int .i64 i2, .string s2, .bool b2]] w fun e w' => e = .returned (.bool true) ∧ Below w.heap.size w w')) (hx : Hid ((x.toList == y.toList) = true)) :
    Calls Tryd.prog 4 #[.agg #[.int .u8 k, .int .i64 i, .string s, .bool b], .agg #[.int .u8 k, .int .i64 i2, .string s2, .bool b2]] w fun e w' => e = .returned (.bool true) ∧ Below w.heap.size w w' := by
  go_enter Tryd.func4, Tryd.ntmps4
  go_wp2_with fail
  refine (awake_any _ (he.below (below_then (below1 _ _) (below1 _ _)))).mono ?_
  rintro e w1 ⟨rfl, hb⟩
  obtain ⟨f0_0, f0_1, f0_2, f0_3⟩ := (Box.alloc (Box.new _ _ _ _ _ _) _).keep hb
  have f0_z := block_of_cell f0_0
  obtain ⟨f1_0, f1_1, f1_2, f1_3⟩ := (Box.new _ _ _ _ _ _).keep hb
  have f1_z := block_of_cell f1_0
  simp only [size_alloc] at f1_0 f1_1 f1_2 f1_3 f1_z
  have hb0 := (below_then (below1 _ _) (below_then (below1 _ _) hb))
  clear hb
  go_wp2_with fail
  refine (right_is hr.out _).mono ?_
  rintro e w2 ⟨rfl, hb⟩
  obtain ⟨f0_0, f0_1, f0_2, f0_3⟩ := (Box.mk f0_0 f0_1 f0_2 f0_3).keep hb
  clear f0_z
  have f0_z := block_of_cell f0_0
  obtain ⟨f1_0, f1_1, f1_2, f1_3⟩ := (Box.mk f1_0 f1_1 f1_2 f1_3).keep hb
  clear f1_z
  have f1_z := block_of_cell f1_0
  replace hb0 := below_then hb0 hb
  clear hb
  go_wp2_with fail
  refine (right_is hr2.out _).mono ?_
  rintro e w3 ⟨rfl, hb⟩
  obtain ⟨f0_0, f0_1, f0_2, f0_3⟩ := (Box.mk f0_0 f0_1 f0_2 f0_3).keep hb
  clear f0_z
  have f0_z := block_of_cell f0_0
  obtain ⟨f1_0, f1_1, f1_2, f1_3⟩ := (Box.mk f1_0 f1_1 f1_2 f1_3).keep hb
  clear f1_z
  have f1_z := block_of_cell f1_0
  replace hb0 := below_then hb0 hb
  clear hb
  go_wp2_with fail
  have heW := he.below hb0
  have mf0_0 := fun d os => cell_regrown f0_0 d os
  have mf0_1 := fun d os => cell_regrown f0_1 d os
  have mf0_2 := fun d os => cell_regrown f0_2 d os
  have mf0_3 := fun d os => cell_regrown f0_3 d os
  have mf1_0 := fun d os => cell_regrown f1_0 d os
  have mf1_1 := fun d os => cell_regrown f1_1 d os
  have mf1_2 := fun d os => cell_regrown f1_2 d os
  have mf1_3 := fun d os => cell_regrown f1_3 d os
  have qhL := fun d os => Calls.regrown_of (w := w3) (d := d) (os := os) (hL.out _ (heW.below (below_regrown w3 d os)))
  have qhL2 := fun d os => Calls.regrown_of (w := w3) (d := d) (os := os) (hL2.out _ (heW.below (below_regrown w3 d os)))
  have qhS := fun d os => Calls.regrown_of (w := w3) (d := d) (os := os) (hS.out _)
  clear heW
  refine wp_region_quiet_below (by kernel_rfl) (by kernel_rfl) ?_
  repeat (go_big_quiet_step (first | with_reducible exact qhL _ _ | with_reducible exact qhL2 _ _ | with_reducible exact qhS _ _))
  refine wpQuiet_nil ?_
  intro _ hw'
  obtain ⟨⟨dq, osq⟩, hw''⟩ := hw'
  subst hw''
  clear qhL qhL2 qhS
  replace f0_0 := mf0_0 dq osq
  replace f0_1 := mf0_1 dq osq
  replace f0_2 := mf0_2 dq osq
  replace f0_3 := mf0_3 dq osq
  replace f1_0 := mf1_0 dq osq
  replace f1_1 := mf1_1 dq osq
  replace f1_2 := mf1_2 dq osq
  replace f1_3 := mf1_3 dq osq
  clear mf0_0 mf0_1 mf0_2 mf0_3 mf1_0 mf1_1 mf1_2 mf1_3
  clear f0_z
  have f0_z := block_of_cell f0_0
  clear f1_z
  have f1_z := block_of_cell f1_0
  replace hb0 := below_then hb0 (below_regrown w3 dq osq)
  generalize (grow (redrawn w3 dq) osq) = w3n at *
  go_wp2_with fail
  go_ret
  exact ⟨ret_bool (by rw [hx.out] <;> rfl), hb0⟩
set_option maxRecDepth 100000 in
set_option maxHeartbeats 1000000 in
theorem apart_sf (k i : Int) (s : ByteArray) (b : Bool) (i2 : Int) (s2 : ByteArray) (b2 : Bool) (x y : ByteArray) (w : World) (he : Env w) (hr : Hid (rightV k i s b = true)) (hr2 : Hid (rightV k i2 s2 b2 = true)) (hL : Hid (∀ w : World, Env w → Calls Tryd.prog 14 #[.agg #[.int .u8 k, .int .i64 i, .string s, .bool b]] w fun e w' => e = .returned (.string x) ∧ Below w.heap.size w w')) (hL2 : Hid (∀ w : World, Env w → Calls Tryd.prog 14 #[.agg #[.int .u8 k, .int .i64 i2, .string s2, .bool b2]] w fun e w' => e = .returned (.string y) ∧ Below w.heap.size w w')) (hS : Hid (∀ w : World, Calls Tryd.prog 16 #[.agg #[.int .u8 k, .int .i64 i, .string s, .bool b], .agg #[.int .u8 k, .int .i64 i2, .string s2, .bool b2]] w fun e w' => e = .returned (.bool false) ∧ Below w.heap.size w w')) (hx : Hid ((x.toList == y.toList) = false)) :
    Calls Tryd.prog 4 #[.agg #[.int .u8 k, .int .i64 i, .string s, .bool b], .agg #[.int .u8 k, .int .i64 i2, .string s2, .bool b2]] w fun e w' => e = .returned (.bool true) ∧ Below w.heap.size w w' := by
  go_enter Tryd.func4, Tryd.ntmps4
  go_wp2_with fail
  refine (awake_any _ (he.below (below_then (below1 _ _) (below1 _ _)))).mono ?_
  rintro e w1 ⟨rfl, hb⟩
  obtain ⟨f0_0, f0_1, f0_2, f0_3⟩ := (Box.alloc (Box.new _ _ _ _ _ _) _).keep hb
  have f0_z := block_of_cell f0_0
  obtain ⟨f1_0, f1_1, f1_2, f1_3⟩ := (Box.new _ _ _ _ _ _).keep hb
  have f1_z := block_of_cell f1_0
  simp only [size_alloc] at f1_0 f1_1 f1_2 f1_3 f1_z
  have hb0 := (below_then (below1 _ _) (below_then (below1 _ _) hb))
  clear hb
  go_wp2_with fail
  refine (right_is hr.out _).mono ?_
  rintro e w2 ⟨rfl, hb⟩
  obtain ⟨f0_0, f0_1, f0_2, f0_3⟩ := (Box.mk f0_0 f0_1 f0_2 f0_3).keep hb
  clear f0_z
  have f0_z := block_of_cell f0_0
  obtain ⟨f1_0, f1_1, f1_2, f1_3⟩ := (Box.mk f1_0 f1_1 f1_2 f1_3).keep hb
  clear f1_z
  have f1_z := block_of_cell f1_0
  replace hb0 := below_then hb0 hb
  clear hb
  go_wp2_with fail
  refine (right_is hr2.out _).mono ?_
  rintro e w3 ⟨rfl, hb⟩
  obtain ⟨f0_0, f0_1, f0_2, f0_3⟩ := (Box.mk f0_0 f0_1 f0_2 f0_3).keep hb
  clear f0_z
  have f0_z := block_of_cell f0_0
  obtain ⟨f1_0, f1_1, f1_2, f1_3⟩ := (Box.mk f1_0 f1_1 f1_2 f1_3).keep hb
  clear f1_z
  have f1_z := block_of_cell f1_0
  replace hb0 := below_then hb0 hb
  clear hb
  go_wp2_with fail
  have heW := he.below hb0
  have mf0_0 := fun d os => cell_regrown f0_0 d os
  have mf0_1 := fun d os => cell_regrown f0_1 d os
  have mf0_2 := fun d os => cell_regrown f0_2 d os
  have mf0_3 := fun d os => cell_regrown f0_3 d os
  have mf1_0 := fun d os => cell_regrown f1_0 d os
  have mf1_1 := fun d os => cell_regrown f1_1 d os
  have mf1_2 := fun d os => cell_regrown f1_2 d os
  have mf1_3 := fun d os => cell_regrown f1_3 d os
  have qhL := fun d os => Calls.regrown_of (w := w3) (d := d) (os := os) (hL.out _ (heW.below (below_regrown w3 d os)))
  have qhL2 := fun d os => Calls.regrown_of (w := w3) (d := d) (os := os) (hL2.out _ (heW.below (below_regrown w3 d os)))
  have qhS := fun d os => Calls.regrown_of (w := w3) (d := d) (os := os) (hS.out _)
  clear heW
  refine wp_region_quiet_below (by kernel_rfl) (by kernel_rfl) ?_
  repeat (go_big_quiet_step (first | with_reducible exact qhL _ _ | with_reducible exact qhL2 _ _ | with_reducible exact qhS _ _))
  refine wpQuiet_nil ?_
  intro _ hw'
  obtain ⟨⟨dq, osq⟩, hw''⟩ := hw'
  subst hw''
  clear qhL qhL2 qhS
  replace f0_0 := mf0_0 dq osq
  replace f0_1 := mf0_1 dq osq
  replace f0_2 := mf0_2 dq osq
  replace f0_3 := mf0_3 dq osq
  replace f1_0 := mf1_0 dq osq
  replace f1_1 := mf1_1 dq osq
  replace f1_2 := mf1_2 dq osq
  replace f1_3 := mf1_3 dq osq
  clear mf0_0 mf0_1 mf0_2 mf0_3 mf1_0 mf1_1 mf1_2 mf1_3
  clear f0_z
  have f0_z := block_of_cell f0_0
  clear f1_z
  have f1_z := block_of_cell f1_0
  replace hb0 := below_then hb0 (below_regrown w3 dq osq)
  generalize (grow (redrawn w3 dq) osq) = w3n at *
  go_wp2_with fail
  go_ret
  exact ⟨ret_bool (by rw [hx.out] <;> rfl), hb0⟩
end Go.Proofs.YtpkohkhgimmkhaaDoor
