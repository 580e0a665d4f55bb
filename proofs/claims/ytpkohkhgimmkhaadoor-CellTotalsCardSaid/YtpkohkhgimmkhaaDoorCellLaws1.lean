/-
  The walks of CellNots, CellMorgan and CellTruths: what each law's function answers. Conditions: the library's tables are as laid.
-/
import Derived.Test.YtpkohkhgimmkhaaDoorCellAwake
namespace Go.Proofs.YtpkohkhgimmkhaaDoor
open Go.RowKit Go.Sort
set_option linter.unusedVariables false
set_option linter.unusedSimpArgs false

theorem right_is {k i : Int} {s : ByteArray} {b r : Bool} (h : rightV k i s b = r) (w : World) :
    Calls Tryd.prog 13 #[.agg #[.int .u8 k, .int .i64 i, .string s, .bool b]] w fun e w' => e = .returned (.bool r) ∧ Below w.heap.size w w' := h ▸ ref_right k i s b w
theorem empty_str {s : ByteArray} (h : s.toList = []) : s = ⟨#[]⟩ := by
  apply ByteArray.ext
  rw [Lib.toList_data] at h
  simpa using h
theorem right_cases {k i : Int} {s : ByteArray} {b : Bool} (h : rightV k i s b = true) :
    (k = 0 ∧ i = 0 ∧ s = ⟨#[]⟩ ∧ b = false) ∨ (k = 1 ∧ s = ⟨#[]⟩ ∧ b = false) ∨ (k = 2 ∧ i = 0 ∧ s.size ≤ 60 ∧ b = false ∧ wholeV s = true) ∨ (k = 3 ∧ i = 0 ∧ s = ⟨#[]⟩) := by
  unfold rightV at h
  by_cases h0 : k = 0
  · rw [if_pos h0] at h
    simp only [Bool.and_eq_true, decide_eq_true_eq, Bool.not_eq_true'] at h
    exact .inl ⟨h0, h.1.1, empty_str h.1.2, h.2⟩
  rw [if_neg h0] at h
  by_cases h1 : k = 1
  · rw [if_pos h1] at h
    simp only [Bool.and_eq_true, decide_eq_true_eq, Bool.not_eq_true'] at h
    exact .inr (.inl ⟨h1, empty_str h.1, h.2⟩)
  rw [if_neg h1] at h
  by_cases h2 : k = 2
  · rw [if_pos h2] at h
    simp only [Bool.and_eq_true, decide_eq_true_eq, Bool.not_eq_true'] at h
    exact .inr (.inr (.inl ⟨h2, h.1.1.1, h.1.1.2, h.1.2, h.2⟩))
  rw [if_neg h2] at h
  by_cases h3 : k = 3
  · rw [if_pos h3] at h
    simp only [decide_eq_true_eq] at h
    exact .inr (.inr (.inr ⟨h3, h.1, empty_str h.2⟩))
  · rw [if_neg h3] at h
    cases h
theorem nots_w (k i : Int) (s : ByteArray) (b : Bool) (w : World) (he : Env w) (hr : Hid (rightV k i s b = false)) :
    Calls Tryd.prog 10 #[.agg #[.int .u8 k, .int .i64 i, .string s, .bool b]] w fun e w' => e = .returned (.bool true) ∧ Below w.heap.size w w' := by
  go_enter Tryd.func10, Tryd.ntmps10
  go_wp2_with fail
  refine (awake_any _ (he.below (below1 _ _))).mono ?_
  rintro e w1 ⟨rfl, hb⟩
  obtain ⟨f0_0, f0_1, f0_2, f0_3⟩ := (Box.new _ _ _ _ _ _).keep hb
  have f0_z := block_of_cell f0_0
  have hb0 := (below_then (below1 _ _) hb)
  clear hb
  go_wp2_with fail
  refine (right_is hr.out _).mono ?_
  rintro e w2 ⟨rfl, hb⟩
  obtain ⟨f0_0, f0_1, f0_2, f0_3⟩ := (Box.mk f0_0 f0_1 f0_2 f0_3).keep hb
  clear f0_z
  have f0_z := block_of_cell f0_0
  replace hb0 := below_then hb0 hb
  clear hb
  go_wp2_with fail
  go_ret
  exact ⟨rfl, hb0⟩
theorem not_bad {k i : Int} {s : ByteArray} {b : Bool} (h : tB k = false) : ∀ w, Calls Tryd.prog 23 #[.agg #[.int .u8 k, .int .i64 i, .string s, .bool b]] w fun e w' => e = .returned (.tuple #[.agg #[.int .u8 0, .int .i64 0, .string ⟨#[]⟩, .bool false], .int .i64 8]) ∧ Below w.heap.size w w' := by
  have := not_any k i s b
  simpa only [notK, notB, notE, h, if_neg (show ¬ (false = true) by decide)] using this
theorem nots_x (k i : Int) (s : ByteArray) (b : Bool) (w : World) (he : Env w) (hr : Hid (rightV k i s b = true)) (hx : Hid (tB k = false)) :
    Calls Tryd.prog 10 #[.agg #[.int .u8 k, .int .i64 i, .string s, .bool b]] w fun e w' => e = .returned (.bool true) ∧ Below w.heap.size w w' := by
  go_enter Tryd.func10, Tryd.ntmps10
  go_wp2_with fail
  refine (awake_any _ (he.below (below1 _ _))).mono ?_
  rintro e w1 ⟨rfl, hb⟩
  obtain ⟨f0_0, f0_1, f0_2, f0_3⟩ := (Box.new _ _ _ _ _ _).keep hb
  have f0_z := block_of_cell f0_0
  have hb0 := (below_then (below1 _ _) hb)
  clear hb
  go_wp2_with fail
  refine (right_is hr.out _).mono ?_
  rintro e w2 ⟨rfl, hb⟩
  obtain ⟨f0_0, f0_1, f0_2, f0_3⟩ := (Box.mk f0_0 f0_1 f0_2 f0_3).keep hb
  clear f0_z
  have f0_z := block_of_cell f0_0
  replace hb0 := below_then hb0 hb
  clear hb
  go_wp2_with fail
  refine (not_bad hx.out _).mono ?_
  rintro e w3 ⟨rfl, hb⟩
  obtain ⟨f0_0, f0_1, f0_2, f0_3⟩ := (Box.mk f0_0 f0_1 f0_2 f0_3).keep hb
  clear f0_z
  have f0_z := block_of_cell f0_0
  replace hb0 := below_then hb0 hb
  clear hb
  go_wp2_with fail
  go_ret
  exact ⟨rfl, (below_then hb0 (below1 _ _))⟩
theorem nots_n1 : ∀ w, Calls Tryd.prog 23 #[.agg #[.int .u8 0, .int .i64 0, .string ⟨#[]⟩, .bool false]] w fun e w' => e = .returned (.tuple #[.agg #[.int .u8 0, .int .i64 0, .string ⟨#[]⟩, .bool false], .int .i64 0]) ∧ Below w.heap.size w w' := not_any 0 0 ⟨#[]⟩ false
theorem nots_n0 : rightV 0 0 ⟨#[]⟩ false = true := by simp [rightV, Lib.toList_data]
theorem nots_n2 : ∀ w, Calls Tryd.prog 23 #[.agg #[.int .u8 0, .int .i64 0, .string ⟨#[]⟩, .bool false]] w fun e w' => e = .returned (.tuple #[.agg #[.int .u8 0, .int .i64 0, .string ⟨#[]⟩, .bool false], .int .i64 0]) ∧ Below w.heap.size w w' := not_any 0 0 ⟨#[]⟩ false
theorem nots_n3 : ∀ w, Calls Tryd.prog 22 #[.agg #[.int .u8 0, .int .i64 0, .string ⟨#[]⟩, .bool false], .agg #[.int .u8 0, .int .i64 0, .string ⟨#[]⟩, .bool false]] w fun e w' => e = .returned (.tuple #[.agg #[.int .u8 0, .int .i64 0, .string ⟨#[]⟩, .bool false], .int .i64 0]) ∧ Below w.heap.size w w' := and_any 0 0 ⟨#[]⟩ false 0 0 ⟨#[]⟩ false
theorem nots_n4 : ∀ w, Calls Tryd.prog 25 #[.agg #[.int .u8 0, .int .i64 0, .string ⟨#[]⟩, .bool false], .agg #[.int .u8 0, .int .i64 0, .string ⟨#[]⟩, .bool false]] w fun e w' => e = .returned (.tuple #[.agg #[.int .u8 0, .int .i64 0, .string ⟨#[]⟩, .bool false], .int .i64 0]) ∧ Below w.heap.size w w' := or_any 0 0 ⟨#[]⟩ false 0 0 ⟨#[]⟩ false
theorem nots_n  (w : World) (he : Env w)  :
    Calls Tryd.prog 10 #[.agg #[.int .u8 0, .int .i64 0, .string ⟨#[]⟩, .bool false]] w fun e w' => e = .returned (.bool true) ∧ Below w.heap.size w w' := by
  go_enter Tryd.func10, Tryd.ntmps10
  go_wp2_with fail
  refine (awake_any _ (he.below (below1 _ _))).mono ?_
  rintro e w1 ⟨rfl, hb⟩
  obtain ⟨f0_0, f0_1, f0_2, f0_3⟩ := (Box.new _ _ _ _ _ _).keep hb
  have f0_z := block_of_cell f0_0
  have hb0 := (below_then (below1 _ _) hb)
  clear hb
  go_wp2_with fail
  refine (right_is (k := 0) (i := 0) (s := ⟨#[]⟩) (b := false) (r := true) nots_n0 _).mono ?_
  rintro e w2 ⟨rfl, hb⟩
  obtain ⟨f0_0, f0_1, f0_2, f0_3⟩ := (Box.mk f0_0 f0_1 f0_2 f0_3).keep hb
  clear f0_z
  have f0_z := block_of_cell f0_0
  replace hb0 := below_then hb0 hb
  clear hb
  go_wp2_with fail
  refine (nots_n1 _).mono ?_
  rintro e w3 ⟨rfl, hb⟩
  obtain ⟨f0_0, f0_1, f0_2, f0_3⟩ := (Box.mk f0_0 f0_1 f0_2 f0_3).keep hb
  clear f0_z
  have f0_z := block_of_cell f0_0
  replace hb0 := below_then hb0 hb
  clear hb
  go_wp2_with fail
  refine (nots_n2 _).mono ?_
  rintro e w4 ⟨rfl, hb⟩
  obtain ⟨f0_0, f0_1, f0_2, f0_3⟩ := (Box.alloc (Box.mk f0_0 f0_1 f0_2 f0_3) _).keep hb
  clear f0_z
  have f0_z := block_of_cell f0_0
  obtain ⟨f1_0, f1_1, f1_2, f1_3⟩ := (Box.new _ _ _ _ _ _).keep hb
  have f1_z := block_of_cell f1_0
  replace hb0 := below_then hb0 (below_then (below1 _ _) hb)
  clear hb
  go_wp2_with fail
  refine (nots_n3 _).mono ?_
  rintro e w5 ⟨rfl, hb⟩
  obtain ⟨f0_0, f0_1, f0_2, f0_3⟩ := (Box.alloc (Box.mk f0_0 f0_1 f0_2 f0_3) _).keep hb
  clear f0_z
  have f0_z := block_of_cell f0_0
  obtain ⟨f1_0, f1_1, f1_2, f1_3⟩ := (Box.alloc (Box.mk f1_0 f1_1 f1_2 f1_3) _).keep hb
  clear f1_z
  have f1_z := block_of_cell f1_0
  obtain ⟨f2_0, f2_1, f2_2, f2_3⟩ := (Box.new _ _ _ _ _ _).keep hb
  have f2_z := block_of_cell f2_0
  replace hb0 := below_then hb0 (below_then (below1 _ _) hb)
  clear hb
  go_wp2_with fail
  refine (nots_n4 _).mono ?_
  rintro e w6 ⟨rfl, hb⟩
  obtain ⟨f0_0, f0_1, f0_2, f0_3⟩ := (Box.alloc (Box.mk f0_0 f0_1 f0_2 f0_3) _).keep hb
  clear f0_z
  have f0_z := block_of_cell f0_0
  obtain ⟨f1_0, f1_1, f1_2, f1_3⟩ := (Box.alloc (Box.mk f1_0 f1_1 f1_2 f1_3) _).keep hb
  clear f1_z
  have f1_z := block_of_cell f1_0
  obtain ⟨f2_0, f2_1, f2_2, f2_3⟩ := (Box.alloc (Box.mk f2_0 f2_1 f2_2 f2_3) _).keep hb
  clear f2_z
  have f2_z := block_of_cell f2_0
  obtain ⟨f3_0, f3_1, f3_2, f3_3⟩ := (Box.new _ _ _ _ _ _).keep hb
  have f3_z := block_of_cell f3_0
  replace hb0 := below_then hb0 (below_then (below1 _ _) hb)
  clear hb
  go_wp2_with fail
  go_ret
  exact ⟨rfl, (below_then hb0 (below1 _ _))⟩
theorem nots_f1 : ∀ w, Calls Tryd.prog 23 #[.agg #[.int .u8 3, .int .i64 0, .string ⟨#[]⟩, .bool false]] w fun e w' => e = .returned (.tuple #[.agg #[.int .u8 3, .int .i64 0, .string ⟨#[]⟩, .bool true], .int .i64 0]) ∧ Below w.heap.size w w' := not_any 3 0 ⟨#[]⟩ false
theorem nots_f0 : rightV 3 0 ⟨#[]⟩ false = true := by simp [rightV, Lib.toList_data]
theorem nots_f2 : ∀ w, Calls Tryd.prog 23 #[.agg #[.int .u8 3, .int .i64 0, .string ⟨#[]⟩, .bool true]] w fun e w' => e = .returned (.tuple #[.agg #[.int .u8 3, .int .i64 0, .string ⟨#[]⟩, .bool false], .int .i64 0]) ∧ Below w.heap.size w w' := not_any 3 0 ⟨#[]⟩ true
theorem nots_f3 : ∀ w, Calls Tryd.prog 22 #[.agg #[.int .u8 3, .int .i64 0, .string ⟨#[]⟩, .bool false], .agg #[.int .u8 3, .int .i64 0, .string ⟨#[]⟩, .bool true]] w fun e w' => e = .returned (.tuple #[.agg #[.int .u8 3, .int .i64 0, .string ⟨#[]⟩, .bool false], .int .i64 0]) ∧ Below w.heap.size w w' := and_any 3 0 ⟨#[]⟩ false 3 0 ⟨#[]⟩ true
theorem nots_f4 : ∀ w, Calls Tryd.prog 25 #[.agg #[.int .u8 3, .int .i64 0, .string ⟨#[]⟩, .bool false], .agg #[.int .u8 3, .int .i64 0, .string ⟨#[]⟩, .bool true]] w fun e w' => e = .returned (.tuple #[.agg #[.int .u8 3, .int .i64 0, .string ⟨#[]⟩, .bool true], .int .i64 0]) ∧ Below w.heap.size w w' := or_any 3 0 ⟨#[]⟩ false 3 0 ⟨#[]⟩ true
theorem nots_f  (w : World) (he : Env w)  :
    Calls Tryd.prog 10 #[.agg #[.int .u8 3, .int .i64 0, .string ⟨#[]⟩, .bool false]] w fun e w' => e = .returned (.bool true) ∧ Below w.heap.size w w' := by
  go_enter Tryd.func10, Tryd.ntmps10
  go_wp2_with fail
  refine (awake_any _ (he.below (below1 _ _))).mono ?_
  rintro e w1 ⟨rfl, hb⟩
  obtain ⟨f0_0, f0_1, f0_2, f0_3⟩ := (Box.new _ _ _ _ _ _).keep hb
  have f0_z := block_of_cell f0_0
  have hb0 := (below_then (below1 _ _) hb)
  clear hb
  go_wp2_with fail
  refine (right_is (k := 3) (i := 0) (s := ⟨#[]⟩) (b := false) (r := true) nots_f0 _).mono ?_
  rintro e w2 ⟨rfl, hb⟩
  obtain ⟨f0_0, f0_1, f0_2, f0_3⟩ := (Box.mk f0_0 f0_1 f0_2 f0_3).keep hb
  clear f0_z
  have f0_z := block_of_cell f0_0
  replace hb0 := below_then hb0 hb
  clear hb
  go_wp2_with fail
  refine (nots_f1 _).mono ?_
  rintro e w3 ⟨rfl, hb⟩
  obtain ⟨f0_0, f0_1, f0_2, f0_3⟩ := (Box.mk f0_0 f0_1 f0_2 f0_3).keep hb
  clear f0_z
  have f0_z := block_of_cell f0_0
  replace hb0 := below_then hb0 hb
  clear hb
  go_wp2_with fail
  refine (nots_f2 _).mono ?_
  rintro e w4 ⟨rfl, hb⟩
  obtain ⟨f0_0, f0_1, f0_2, f0_3⟩ := (Box.alloc (Box.mk f0_0 f0_1 f0_2 f0_3) _).keep hb
  clear f0_z
  have f0_z := block_of_cell f0_0
  obtain ⟨f1_0, f1_1, f1_2, f1_3⟩ := (Box.new _ _ _ _ _ _).keep hb
  have f1_z := block_of_cell f1_0
  replace hb0 := below_then hb0 (below_then (below1 _ _) hb)
  clear hb
  go_wp2_with fail
  refine (nots_f3 _).mono ?_
  rintro e w5 ⟨rfl, hb⟩
  obtain ⟨f0_0, f0_1, f0_2, f0_3⟩ := (Box.alloc (Box.mk f0_0 f0_1 f0_2 f0_3) _).keep hb
  clear f0_z
  have f0_z := block_of_cell f0_0
  obtain ⟨f1_0, f1_1, f1_2, f1_3⟩ := (Box.alloc (Box.mk f1_0 f1_1 f1_2 f1_3) _).keep hb
  clear f1_z
  have f1_z := block_of_cell f1_0
  obtain ⟨f2_0, f2_1, f2_2, f2_3⟩ := (Box.new _ _ _ _ _ _).keep hb
  have f2_z := block_of_cell f2_0
  replace hb0 := below_then hb0 (below_then (below1 _ _) hb)
  clear hb
  go_wp2_with fail
  refine (nots_f4 _).mono ?_
  rintro e w6 ⟨rfl, hb⟩
  obtain ⟨f0_0, f0_1, f0_2, f0_3⟩ := (Box.alloc (Box.mk f0_0 f0_1 f0_2 f0_3) _).keep hb
  clear f0_z
  have f0_z := block_of_cell f0_0
  obtain ⟨f1_0, f1_1, f1_2, f1_3⟩ := (Box.alloc (Box.mk f1_0 f1_1 f1_2 f1_3) _).keep hb
  clear f1_z
  have f1_z := block_of_cell f1_0
  obtain ⟨f2_0, f2_1, f2_2, f2_3⟩ := (Box.alloc (Box.mk f2_0 f2_1 f2_2 f2_3) _).keep hb
  clear f2_z
  have f2_z := block_of_cell f2_0
  obtain ⟨f3_0, f3_1, f3_2, f3_3⟩ := (Box.new _ _ _ _ _ _).keep hb
  have f3_z := block_of_cell f3_0
  replace hb0 := below_then hb0 (below_then (below1 _ _) hb)
  clear hb
  go_wp2_with fail
  go_ret
  exact ⟨rfl, (below_then hb0 (below1 _ _))⟩
theorem nots_t1 : ∀ w, Calls Tryd.prog 23 #[.agg #[.int .u8 3, .int .i64 0, .string ⟨#[]⟩, .bool true]] w fun e w' => e = .returned (.tuple #[.agg #[.int .u8 3, .int .i64 0, .string ⟨#[]⟩, .bool false], .int .i64 0]) ∧ Below w.heap.size w w' := not_any 3 0 ⟨#[]⟩ true
theorem nots_t0 : rightV 3 0 ⟨#[]⟩ true = true := by simp [rightV, Lib.toList_data]
theorem nots_t2 : ∀ w, Calls Tryd.prog 23 #[.agg #[.int .u8 3, .int .i64 0, .string ⟨#[]⟩, .bool false]] w fun e w' => e = .returned (.tuple #[.agg #[.int .u8 3, .int .i64 0, .string ⟨#[]⟩, .bool true], .int .i64 0]) ∧ Below w.heap.size w w' := not_any 3 0 ⟨#[]⟩ false
theorem nots_t3 : ∀ w, Calls Tryd.prog 22 #[.agg #[.int .u8 3, .int .i64 0, .string ⟨#[]⟩, .bool true], .agg #[.int .u8 3, .int .i64 0, .string ⟨#[]⟩, .bool false]] w fun e w' => e = .returned (.tuple #[.agg #[.int .u8 3, .int .i64 0, .string ⟨#[]⟩, .bool false], .int .i64 0]) ∧ Below w.heap.size w w' := and_any 3 0 ⟨#[]⟩ true 3 0 ⟨#[]⟩ false
theorem nots_t4 : ∀ w, Calls Tryd.prog 25 #[.agg #[.int .u8 3, .int .i64 0, .string ⟨#[]⟩, .bool true], .agg #[.int .u8 3, .int .i64 0, .string ⟨#[]⟩, .bool false]] w fun e w' => e = .returned (.tuple #[.agg #[.int .u8 3, .int .i64 0, .string ⟨#[]⟩, .bool true], .int .i64 0]) ∧ Below w.heap.size w w' := or_any 3 0 ⟨#[]⟩ true 3 0 ⟨#[]⟩ false
theorem nots_t  (w : World) (he : Env w)  :
    Calls Tryd.prog 10 #[.agg #[.int .u8 3, .int .i64 0, .string ⟨#[]⟩, .bool true]] w fun e w' => e = .returned (.bool true) ∧ Below w.heap.size w w' := by
  go_enter Tryd.func10, Tryd.ntmps10
  go_wp2_with fail
  refine (awake_any _ (he.below (below1 _ _))).mono ?_
  rintro e w1 ⟨rfl, hb⟩
  obtain ⟨f0_0, f0_1, f0_2, f0_3⟩ := (Box.new _ _ _ _ _ _).keep hb
  have f0_z := block_of_cell f0_0
  have hb0 := (below_then (below1 _ _) hb)
  clear hb
  go_wp2_with fail
  refine (right_is (k := 3) (i := 0) (s := ⟨#[]⟩) (b := true) (r := true) nots_t0 _).mono ?_
  rintro e w2 ⟨rfl, hb⟩
  obtain ⟨f0_0, f0_1, f0_2, f0_3⟩ := (Box.mk f0_0 f0_1 f0_2 f0_3).keep hb
  clear f0_z
  have f0_z := block_of_cell f0_0
  replace hb0 := below_then hb0 hb
  clear hb
  go_wp2_with fail
  refine (nots_t1 _).mono ?_
  rintro e w3 ⟨rfl, hb⟩
  obtain ⟨f0_0, f0_1, f0_2, f0_3⟩ := (Box.mk f0_0 f0_1 f0_2 f0_3).keep hb
  clear f0_z
  have f0_z := block_of_cell f0_0
  replace hb0 := below_then hb0 hb
  clear hb
  go_wp2_with fail
  refine (nots_t2 _).mono ?_
  rintro e w4 ⟨rfl, hb⟩
  obtain ⟨f0_0, f0_1, f0_2, f0_3⟩ := (Box.alloc (Box.mk f0_0 f0_1 f0_2 f0_3) _).keep hb
  clear f0_z
  have f0_z := block_of_cell f0_0
  obtain ⟨f1_0, f1_1, f1_2, f1_3⟩ := (Box.new _ _ _ _ _ _).keep hb
  have f1_z := block_of_cell f1_0
  replace hb0 := below_then hb0 (below_then (below1 _ _) hb)
  clear hb
  go_wp2_with fail
  refine (nots_t3 _).mono ?_
  rintro e w5 ⟨rfl, hb⟩
  obtain ⟨f0_0, f0_1, f0_2, f0_3⟩ := (Box.alloc (Box.mk f0_0 f0_1 f0_2 f0_3) _).keep hb
  clear f0_z
  have f0_z := block_of_cell f0_0
  obtain ⟨f1_0, f1_1, f1_2, f1_3⟩ := (Box.alloc (Box.mk f1_0 f1_1 f1_2 f1_3) _).keep hb
  clear f1_z
  have f1_z := block_of_cell f1_0
  obtain ⟨f2_0, f2_1, f2_2, f2_3⟩ := (Box.new _ _ _ _ _ _).keep hb
  have f2_z := block_of_cell f2_0
  replace hb0 := below_then hb0 (below_then (below1 _ _) hb)
  clear hb
  go_wp2_with fail
  refine (nots_t4 _).mono ?_
  rintro e w6 ⟨rfl, hb⟩
  obtain ⟨f0_0, f0_1, f0_2, f0_3⟩ := (Box.alloc (Box.mk f0_0 f0_1 f0_2 f0_3) _).keep hb
  clear f0_z
  have f0_z := block_of_cell f0_0
  obtain ⟨f1_0, f1_1, f1_2, f1_3⟩ := (Box.alloc (Box.mk f1_0 f1_1 f1_2 f1_3) _).keep hb
  clear f1_z
  have f1_z := block_of_cell f1_0
  obtain ⟨f2_0, f2_1, f2_2, f2_3⟩ := (Box.alloc (Box.mk f2_0 f2_1 f2_2 f2_3) _).keep hb
  clear f2_z
  have f2_z := block_of_cell f2_0
  obtain ⟨f3_0, f3_1, f3_2, f3_3⟩ := (Box.new _ _ _ _ _ _).keep hb
  have f3_z := block_of_cell f3_0
  replace hb0 := below_then hb0 (below_then (below1 _ _) hb)
  clear hb
  go_wp2_with fail
  go_ret
  exact ⟨rfl, (below_then hb0 (below1 _ _))⟩
theorem nots_walk (k i : Int) (s : ByteArray) (b : Bool) (w : World) (he : Env w) :
    Calls Tryd.prog 10 #[.agg #[.int .u8 k, .int .i64 i, .string s, .bool b]] w fun e w' => e = .returned (.bool true) ∧ Below w.heap.size w w' := by
  cases h : rightV k i s b with
  | false => exact nots_w k i s b w he (Lib.hid h)
  | true =>
    rcases right_cases h with ⟨rfl, rfl, rfl, rfl⟩ | ⟨rfl, rfl, rfl⟩ | ⟨rfl, rfl, _, rfl, _⟩ | ⟨rfl, rfl, rfl⟩
    · exact nots_n w he
    · exact nots_x 1 i _ _ w he (Lib.hid h) (Lib.hid rfl)
    · exact nots_x 2 0 _ _ w he (Lib.hid h) (Lib.hid rfl)
    · cases b with
      | true => exact nots_t w he
      | false => exact nots_f w he
theorem morgan_w (k i : Int) (s : ByteArray) (b : Bool) (k2 i2 : Int) (s2 : ByteArray) (b2 : Bool) (w : World) (he : Env w) (hr : Hid (rightV k i s b = false)) :
    Calls Tryd.prog 9 #[.agg #[.int .u8 k, .int .i64 i, .string s, .bool b], .agg #[.int .u8 k2, .int .i64 i2, .string s2, .bool b2]] w fun e w' => e = .returned (.bool true) ∧ Below w.heap.size w w' := by
  go_enter Tryd.func9, Tryd.ntmps9
  go_wp2_with fail
  refine (awake_any _ (he.below (below_then (below1 _ _) (below1 _ _)))).mono ?_
  rintro e w1 ⟨rfl, hb⟩
  obtain ⟨f0_0, f0_1, f0_2, f0_3⟩ := (Box.alloc (Box.new _ _ _ _ _ _) _).keep hb
  have f0_z := block_of_cell f0_0
  obtain ⟨f1_0, f1_1, f1_2, f1_3⟩ := (Box.new _ _ _ _ _ _).keep hb
  have f1_z := block_of_cell f1_0
  simp only [size_alloc] at f1_0 f1_1 f1_2 f1_3 f1_z
  have hb0 := (below_then (below1 _ _) (below_then (below1 _ _) hb))
  clear hb
  go_wp2_with fail
  refine (right_is hr.out _).mono ?_
  rintro e w2 ⟨rfl, hb⟩
  obtain ⟨f0_0, f0_1, f0_2, f0_3⟩ := (Box.mk f0_0 f0_1 f0_2 f0_3).keep hb
  clear f0_z
  have f0_z := block_of_cell f0_0
  obtain ⟨f1_0, f1_1, f1_2, f1_3⟩ := (Box.mk f1_0 f1_1 f1_2 f1_3).keep hb
  clear f1_z
  have f1_z := block_of_cell f1_0
  replace hb0 := below_then hb0 hb
  clear hb
  go_wp2_with fail
  go_ret
  exact ⟨rfl, hb0⟩
theorem morgan_w2 (k i : Int) (s : ByteArray) (b : Bool) (k2 i2 : Int) (s2 : ByteArray) (b2 : Bool) (w : World) (he : Env w) (hr : Hid (rightV k i s b = true)) (hr2 : Hid (rightV k2 i2 s2 b2 = false)) :
    Calls Tryd.prog 9 #[.agg #[.int .u8 k, .int .i64 i, .string s, .bool b], .agg #[.int .u8 k2, .int .i64 i2, .string s2, .bool b2]] w fun e w' => e = .returned (.bool true) ∧ Below w.heap.size w w' := by
  go_enter Tryd.func9, Tryd.ntmps9
  go_wp2_with fail
  refine (awake_any _ (he.below (below_then (below1 _ _) (below1 _ _)))).mono ?_
  rintro e w1 ⟨rfl, hb⟩
  obtain ⟨f0_0, f0_1, f0_2, f0_3⟩ := (Box.alloc (Box.new _ _ _ _ _ _) _).keep hb
  have f0_z := block_of_cell f0_0
  obtain ⟨f1_0, f1_1, f1_2, f1_3⟩ := (Box.new _ _ _ _ _ _).keep hb
  have f1_z := block_of_cell f1_0
  simp only [size_alloc] at f1_0 f1_1 f1_2 f1_3 f1_z
  have hb0 := (below_then (below1 _ _) (below_then (below1 _ _) hb))
  clear hb
  go_wp2_with fail
  refine (right_is hr.out _).mono ?_
  rintro e w2 ⟨rfl, hb⟩
  obtain ⟨f0_0, f0_1, f0_2, f0_3⟩ := (Box.mk f0_0 f0_1 f0_2 f0_3).keep hb
  clear f0_z
  have f0_z := block_of_cell f0_0
  obtain ⟨f1_0, f1_1, f1_2, f1_3⟩ := (Box.mk f1_0 f1_1 f1_2 f1_3).keep hb
  clear f1_z
  have f1_z := block_of_cell f1_0
  replace hb0 := below_then hb0 hb
  clear hb
  go_wp2_with fail
  refine (right_is hr2.out _).mono ?_
  rintro e w3 ⟨rfl, hb⟩
  obtain ⟨f0_0, f0_1, f0_2, f0_3⟩ := (Box.mk f0_0 f0_1 f0_2 f0_3).keep hb
  clear f0_z
  have f0_z := block_of_cell f0_0
  obtain ⟨f1_0, f1_1, f1_2, f1_3⟩ := (Box.mk f1_0 f1_1 f1_2 f1_3).keep hb
  clear f1_z
  have f1_z := block_of_cell f1_0
  replace hb0 := below_then hb0 hb
  clear hb
  go_wp2_with fail
  go_ret
  exact ⟨rfl, hb0⟩
theorem morgan_x (k i : Int) (s : ByteArray) (b : Bool) (k2 i2 : Int) (s2 : ByteArray) (b2 : Bool) (w : World) (he : Env w) (hr : Hid (rightV k i s b = true)) (hr2 : Hid (rightV k2 i2 s2 b2 = true)) (hA : Hid (∀ w, Calls Tryd.prog 22 #[.agg #[.int .u8 k, .int .i64 i, .string s, .bool b], .agg #[.int .u8 k2, .int .i64 i2, .string s2, .bool b2]] w fun e w' => e = .returned (.tuple #[.agg #[.int .u8 0, .int .i64 0, .string ⟨#[]⟩, .bool false], .int .i64 8]) ∧ Below w.heap.size w w')) :
    Calls Tryd.prog 9 #[.agg #[.int .u8 k, .int .i64 i, .string s, .bool b], .agg #[.int .u8 k2, .int .i64 i2, .string s2, .bool b2]] w fun e w' => e = .returned (.bool true) ∧ Below w.heap.size w w' := by
  go_enter Tryd.func9, Tryd.ntmps9
  go_wp2_with fail
  refine (awake_any _ (he.below (below_then (below1 _ _) (below1 _ _)))).mono ?_
  rintro e w1 ⟨rfl, hb⟩
  obtain ⟨f0_0, f0_1, f0_2, f0_3⟩ := (Box.alloc (Box.new _ _ _ _ _ _) _).keep hb
  have f0_z := block_of_cell f0_0
  obtain ⟨f1_0, f1_1, f1_2, f1_3⟩ := (Box.new _ _ _ _ _ _).keep hb
  have f1_z := block_of_cell f1_0
  simp only [size_alloc] at f1_0 f1_1 f1_2 f1_3 f1_z
  have hb0 := (below_then (below1 _ _) (below_then (below1 _ _) hb))
  clear hb
  go_wp2_with fail
  refine (right_is hr.out _).mono ?_
  rintro e w2 ⟨rfl, hb⟩
  obtain ⟨f0_0, f0_1, f0_2, f0_3⟩ := (Box.mk f0_0 f0_1 f0_2 f0_3).keep hb
  clear f0_z
  have f0_z := block_of_cell f0_0
  obtain ⟨f1_0, f1_1, f1_2, f1_3⟩ := (Box.mk f1_0 f1_1 f1_2 f1_3).keep hb
  clear f1_z
  have f1_z := block_of_cell f1_0
  replace hb0 := below_then hb0 hb
  clear hb
  go_wp2_with fail
  refine (right_is hr2.out _).mono ?_
  rintro e w3 ⟨rfl, hb⟩
  obtain ⟨f0_0, f0_1, f0_2, f0_3⟩ := (Box.mk f0_0 f0_1 f0_2 f0_3).keep hb
  clear f0_z
  have f0_z := block_of_cell f0_0
  obtain ⟨f1_0, f1_1, f1_2, f1_3⟩ := (Box.mk f1_0 f1_1 f1_2 f1_3).keep hb
  clear f1_z
  have f1_z := block_of_cell f1_0
  replace hb0 := below_then hb0 hb
  clear hb
  go_wp2_with fail
  refine (hA.out _).mono ?_
  rintro e w4 ⟨rfl, hb⟩
  obtain ⟨f0_0, f0_1, f0_2, f0_3⟩ := (Box.mk f0_0 f0_1 f0_2 f0_3).keep hb
  clear f0_z
  have f0_z := block_of_cell f0_0
  obtain ⟨f1_0, f1_1, f1_2, f1_3⟩ := (Box.mk f1_0 f1_1 f1_2 f1_3).keep hb
  clear f1_z
  have f1_z := block_of_cell f1_0
  replace hb0 := below_then hb0 hb
  clear hb
  go_wp2_with fail
  go_ret
  exact ⟨rfl, (below_then hb0 (below1 _ _))⟩
theorem morgan_ok (k i : Int) (s : ByteArray) (b : Bool) (k2 i2 : Int) (s2 : ByteArray) (b2 : Bool) (xk nk ak bk : Int) (xb nb ab bb : Bool) (w : World) (he : Env w) (hr : Hid (rightV k i s b = true)) (hr2 : Hid (rightV k2 i2 s2 b2 = true)) (hA : Hid (∀ w, Calls Tryd.prog 22 #[.agg #[.int .u8 k, .int .i64 i, .string s, .bool b], .agg #[.int .u8 k2, .int .i64 i2, .string s2, .bool b2]] w fun e w' => e = .returned (.tuple #[.agg #[.int .u8 xk, .int .i64 0, .string ⟨#[]⟩, .bool xb], .int .i64 0]) ∧ Below w.heap.size w w')) (hX : Hid (∀ w, Calls Tryd.prog 23 #[.agg #[.int .u8 xk, .int .i64 0, .string ⟨#[]⟩, .bool xb]] w fun e w' => e = .returned (.tuple #[.agg #[.int .u8 nk, .int .i64 0, .string ⟨#[]⟩, .bool nb], .int .i64 0]) ∧ Below w.heap.size w w')) (hNa : Hid (∀ w, Calls Tryd.prog 23 #[.agg #[.int .u8 k, .int .i64 i, .string s, .bool b]] w fun e w' => e = .returned (.tuple #[.agg #[.int .u8 ak, .int .i64 0, .string ⟨#[]⟩, .bool ab], .int .i64 0]) ∧ Below w.heap.size w w')) (hNb : Hid (∀ w, Calls Tryd.prog 23 #[.agg #[.int .u8 k2, .int .i64 i2, .string s2, .bool b2]] w fun e w' => e = .returned (.tuple #[.agg #[.int .u8 bk, .int .i64 0, .string ⟨#[]⟩, .bool bb], .int .i64 0]) ∧ Below w.heap.size w w')) (hO : Hid (∀ w, Calls Tryd.prog 25 #[.agg #[.int .u8 ak, .int .i64 0, .string ⟨#[]⟩, .bool ab], .agg #[.int .u8 bk, .int .i64 0, .string ⟨#[]⟩, .bool bb]] w fun e w' => e = .returned (.tuple #[.agg #[.int .u8 nk, .int .i64 0, .string ⟨#[]⟩, .bool nb], .int .i64 0]) ∧ Below w.heap.size w w')) :
    Calls Tryd.prog 9 #[.agg #[.int .u8 k, .int .i64 i, .string s, .bool b], .agg #[.int .u8 k2, .int .i64 i2, .string s2, .bool b2]] w fun e w' => e = .returned (.bool true) ∧ Below w.heap.size w w' := by
  go_enter Tryd.func9, Tryd.ntmps9
  go_wp2_with fail
  refine (awake_any _ (he.below (below_then (below1 _ _) (below1 _ _)))).mono ?_
  rintro e w1 ⟨rfl, hb⟩
  obtain ⟨f0_0, f0_1, f0_2, f0_3⟩ := (Box.alloc (Box.new _ _ _ _ _ _) _).keep hb
  have f0_z := block_of_cell f0_0
  obtain ⟨f1_0, f1_1, f1_2, f1_3⟩ := (Box.new _ _ _ _ _ _).keep hb
  have f1_z := block_of_cell f1_0
  simp only [size_alloc] at f1_0 f1_1 f1_2 f1_3 f1_z
  have hb0 := (below_then (below1 _ _) (below_then (below1 _ _) hb))
  clear hb
  go_wp2_with fail
  refine (right_is hr.out _).mono ?_
  rintro e w2 ⟨rfl, hb⟩
  obtain ⟨f0_0, f0_1, f0_2, f0_3⟩ := (Box.mk f0_0 f0_1 f0_2 f0_3).keep hb
  clear f0_z
  have f0_z := block_of_cell f0_0
  obtain ⟨f1_0, f1_1, f1_2, f1_3⟩ := (Box.mk f1_0 f1_1 f1_2 f1_3).keep hb
  clear f1_z
  have f1_z := block_of_cell f1_0
  replace hb0 := below_then hb0 hb
  clear hb
  go_wp2_with fail
  refine (right_is hr2.out _).mono ?_
  rintro e w3 ⟨rfl, hb⟩
  obtain ⟨f0_0, f0_1, f0_2, f0_3⟩ := (Box.mk f0_0 f0_1 f0_2 f0_3).keep hb
  clear f0_z
  have f0_z := block_of_cell f0_0
  obtain ⟨f1_0, f1_1, f1_2, f1_3⟩ := (Box.mk f1_0 f1_1 f1_2 f1_3).keep hb
  clear f1_z
  have f1_z := block_of_cell f1_0
  replace hb0 := below_then hb0 hb
  clear hb
  go_wp2_with fail
  refine (hA.out _).mono ?_
  rintro e w4 ⟨rfl, hb⟩
  obtain ⟨f0_0, f0_1, f0_2, f0_3⟩ := (Box.mk f0_0 f0_1 f0_2 f0_3).keep hb
  clear f0_z
  have f0_z := block_of_cell f0_0
  obtain ⟨f1_0, f1_1, f1_2, f1_3⟩ := (Box.mk f1_0 f1_1 f1_2 f1_3).keep hb
  clear f1_z
  have f1_z := block_of_cell f1_0
  replace hb0 := below_then hb0 hb
  clear hb
  go_wp2_with fail
  refine (hX.out _).mono ?_
  rintro e w5 ⟨rfl, hb⟩
  obtain ⟨f0_0, f0_1, f0_2, f0_3⟩ := (Box.alloc (Box.mk f0_0 f0_1 f0_2 f0_3) _).keep hb
  clear f0_z
  have f0_z := block_of_cell f0_0
  obtain ⟨f1_0, f1_1, f1_2, f1_3⟩ := (Box.alloc (Box.mk f1_0 f1_1 f1_2 f1_3) _).keep hb
  clear f1_z
  have f1_z := block_of_cell f1_0
  obtain ⟨f2_0, f2_1, f2_2, f2_3⟩ := (Box.new _ _ _ _ _ _).keep hb
  have f2_z := block_of_cell f2_0
  replace hb0 := below_then hb0 (below_then (below1 _ _) hb)
  clear hb
  go_wp2_with fail
  refine (hNa.out _).mono ?_
  rintro e w6 ⟨rfl, hb⟩
  obtain ⟨f0_0, f0_1, f0_2, f0_3⟩ := (Box.alloc (Box.mk f0_0 f0_1 f0_2 f0_3) _).keep hb
  clear f0_z
  have f0_z := block_of_cell f0_0
  obtain ⟨f1_0, f1_1, f1_2, f1_3⟩ := (Box.alloc (Box.mk f1_0 f1_1 f1_2 f1_3) _).keep hb
  clear f1_z
  have f1_z := block_of_cell f1_0
  obtain ⟨f2_0, f2_1, f2_2, f2_3⟩ := (Box.alloc (Box.mk f2_0 f2_1 f2_2 f2_3) _).keep hb
  clear f2_z
  have f2_z := block_of_cell f2_0
  obtain ⟨f3_0, f3_1, f3_2, f3_3⟩ := (Box.new _ _ _ _ _ _).keep hb
  have f3_z := block_of_cell f3_0
  replace hb0 := below_then hb0 (below_then (below1 _ _) hb)
  clear hb
  go_wp2_with fail
  refine (hNb.out _).mono ?_
  rintro e w7 ⟨rfl, hb⟩
  obtain ⟨f0_0, f0_1, f0_2, f0_3⟩ := (Box.alloc (Box.mk f0_0 f0_1 f0_2 f0_3) _).keep hb
  clear f0_z
  have f0_z := block_of_cell f0_0
  obtain ⟨f1_0, f1_1, f1_2, f1_3⟩ := (Box.alloc (Box.mk f1_0 f1_1 f1_2 f1_3) _).keep hb
  clear f1_z
  have f1_z := block_of_cell f1_0
  obtain ⟨f2_0, f2_1, f2_2, f2_3⟩ := (Box.alloc (Box.mk f2_0 f2_1 f2_2 f2_3) _).keep hb
  clear f2_z
  have f2_z := block_of_cell f2_0
  obtain ⟨f3_0, f3_1, f3_2, f3_3⟩ := (Box.alloc (Box.mk f3_0 f3_1 f3_2 f3_3) _).keep hb
  clear f3_z
  have f3_z := block_of_cell f3_0
  obtain ⟨f4_0, f4_1, f4_2, f4_3⟩ := (Box.new _ _ _ _ _ _).keep hb
  have f4_z := block_of_cell f4_0
  replace hb0 := below_then hb0 (below_then (below1 _ _) hb)
  clear hb
  go_wp2_with fail
  refine (hO.out _).mono ?_
  rintro e w8 ⟨rfl, hb⟩
  obtain ⟨f0_0, f0_1, f0_2, f0_3⟩ := (Box.alloc (Box.mk f0_0 f0_1 f0_2 f0_3) _).keep hb
  clear f0_z
  have f0_z := block_of_cell f0_0
  obtain ⟨f1_0, f1_1, f1_2, f1_3⟩ := (Box.alloc (Box.mk f1_0 f1_1 f1_2 f1_3) _).keep hb
  clear f1_z
  have f1_z := block_of_cell f1_0
  obtain ⟨f2_0, f2_1, f2_2, f2_3⟩ := (Box.alloc (Box.mk f2_0 f2_1 f2_2 f2_3) _).keep hb
  clear f2_z
  have f2_z := block_of_cell f2_0
  obtain ⟨f3_0, f3_1, f3_2, f3_3⟩ := (Box.alloc (Box.mk f3_0 f3_1 f3_2 f3_3) _).keep hb
  clear f3_z
  have f3_z := block_of_cell f3_0
  obtain ⟨f4_0, f4_1, f4_2, f4_3⟩ := (Box.alloc (Box.mk f4_0 f4_1 f4_2 f4_3) _).keep hb
  clear f4_z
  have f4_z := block_of_cell f4_0
  obtain ⟨f5_0, f5_1, f5_2, f5_3⟩ := (Box.new _ _ _ _ _ _).keep hb
  have f5_z := block_of_cell f5_0
  replace hb0 := below_then hb0 (below_then (below1 _ _) hb)
  clear hb
  go_wp2_with fail
  go_ret
  exact ⟨rfl, (below_then hb0 (below1 _ _))⟩
theorem tB_of {k i : Int} {s : ByteArray} {b : Bool} (h : rightV k i s b = true) : (tB k = false) ∨ (k = 0 ∧ i = 0 ∧ s = ⟨#[]⟩ ∧ b = false) ∨ (k = 3 ∧ i = 0 ∧ s = ⟨#[]⟩) := by
  rcases right_cases h with h | ⟨rfl, _⟩ | ⟨rfl, _⟩ | h
  · exact .inr (.inl h)
  · exact .inl rfl
  · exact .inl rfl
  · exact .inr (.inr h)
theorem and_bad {k i : Int} {s : ByteArray} {b : Bool} {k2 i2 : Int} {s2 : ByteArray} {b2 : Bool} (h : (tB k && tB k2) = false) : ∀ w, Calls Tryd.prog 22 #[.agg #[.int .u8 k, .int .i64 i, .string s, .bool b], .agg #[.int .u8 k2, .int .i64 i2, .string s2, .bool b2]] w fun e w' => e = .returned (.tuple #[.agg #[.int .u8 0, .int .i64 0, .string ⟨#[]⟩, .bool false], .int .i64 8]) ∧ Below w.heap.size w w' := by
  have := and_any k i s b k2 i2 s2 b2
  simpa only [joinK, joinB, joinE, h, if_neg (show ¬ (false = true) by decide)] using this
theorem morgan_law (k : Int) (b : Bool) (k2 : Int) (b2 : Bool) (h : (k = 0 ∧ b = false) ∨ k = 3) (h2 : (k2 = 0 ∧ b2 = false) ∨ k2 = 3) :
    joinE k k2 = 0 ∧ notE (joinK k b k2 b2 false) = 0 ∧ notE k = 0 ∧ notE k2 = 0 ∧ joinE (notK k) (notK k2) = 0 ∧ joinK (notK k) (notB k b) (notK k2) (notB k2 b2) true = notK (joinK k b k2 b2 false) ∧ joinB (notK k) (notB k b) (notK k2) (notB k2 b2) true = notB (joinK k b k2 b2 false) (joinB k b k2 b2 false) := by
  rcases h with ⟨rfl, rfl⟩ | rfl <;> rcases h2 with ⟨rfl, rfl⟩ | rfl
  · decide
  · cases b2 <;> decide
  · cases b <;> decide
  · cases b <;> cases b2 <;> decide
theorem morgan_walk (k i : Int) (s : ByteArray) (b : Bool) (k2 i2 : Int) (s2 : ByteArray) (b2 : Bool) (w : World) (he : Env w) :
    Calls Tryd.prog 9 #[.agg #[.int .u8 k, .int .i64 i, .string s, .bool b], .agg #[.int .u8 k2, .int .i64 i2, .string s2, .bool b2]] w fun e w' => e = .returned (.bool true) ∧ Below w.heap.size w w' := by
  cases h : rightV k i s b with
  | false => exact morgan_w k i s b k2 i2 s2 b2 w he (Lib.hid h)
  | true =>
    cases h2 : rightV k2 i2 s2 b2 with
    | false => exact morgan_w2 k i s b k2 i2 s2 b2 w he (Lib.hid h) (Lib.hid h2)
    | true =>
      cases ht : (tB k && tB k2) with
      | false => exact morgan_x k i s b k2 i2 s2 b2 w he (Lib.hid h) (Lib.hid h2) (Lib.hid (and_bad ht))
      | true =>
        have ht' : tB k = true ∧ tB k2 = true := by simpa using ht
        have c1 : (k = 0 ∧ b = false) ∨ k = 3 := by
          rcases tB_of h with h' | ⟨rfl, _, _, rfl⟩ | ⟨rfl, _⟩
          · rw [ht'.1] at h'; cases h'
          · exact .inl ⟨rfl, rfl⟩
          · exact .inr rfl
        have c2 : (k2 = 0 ∧ b2 = false) ∨ k2 = 3 := by
          rcases tB_of h2 with h' | ⟨rfl, _, _, rfl⟩ | ⟨rfl, _⟩
          · rw [ht'.2] at h'; cases h'
          · exact .inl ⟨rfl, rfl⟩
          · exact .inr rfl
        obtain ⟨e1, e2, e3, e4, e5, e6, e7⟩ := morgan_law k b k2 b2 c1 c2
        have a1 := and_any k i s b k2 i2 s2 b2
        rw [e1] at a1
        have a2 := not_any (joinK k b k2 b2 false) 0 ⟨#[]⟩ (joinB k b k2 b2 false)
        rw [e2] at a2
        have a3 := not_any k i s b
        rw [e3] at a3
        have a4 := not_any k2 i2 s2 b2
        rw [e4] at a4
        have a5 := or_any (notK k) 0 ⟨#[]⟩ (notB k b) (notK k2) 0 ⟨#[]⟩ (notB k2 b2)
        rw [e5, e6, e7] at a5
        exact morgan_ok k i s b k2 i2 s2 b2 _ _ _ _ _ _ _ _ w he (Lib.hid h) (Lib.hid h2) (Lib.hid a1) (Lib.hid a2) (Lib.hid a3) (Lib.hid a4) (Lib.hid a5)
theorem truths_w (k i : Int) (s : ByteArray) (b : Bool) (k2 i2 : Int) (s2 : ByteArray) (b2 : Bool) (w : World) (he : Env w) (hr : Hid (rightV k i s b = false)) :
    Calls Tryd.prog 8 #[.agg #[.int .u8 k, .int .i64 i, .string s, .bool b], .agg #[.int .u8 k2, .int .i64 i2, .string s2, .bool b2]] w fun e w' => e = .returned (.bool true) ∧ Below w.heap.size w w' := by
  go_enter Tryd.func8, Tryd.ntmps8
  go_wp2_with fail
  refine (awake_any _ (he.below (below_then (below1 _ _) (below1 _ _)))).mono ?_
  rintro e w1 ⟨rfl, hb⟩
  obtain ⟨f0_0, f0_1, f0_2, f0_3⟩ := (Box.alloc (Box.new _ _ _ _ _ _) _).keep hb
  have f0_z := block_of_cell f0_0
  obtain ⟨f1_0, f1_1, f1_2, f1_3⟩ := (Box.new _ _ _ _ _ _).keep hb
  have f1_z := block_of_cell f1_0
  simp only [size_alloc] at f1_0 f1_1 f1_2 f1_3 f1_z
  have hb0 := (below_then (below1 _ _) (below_then (below1 _ _) hb))
  clear hb
  go_wp2_with fail
  refine (right_is hr.out _).mono ?_
  rintro e w2 ⟨rfl, hb⟩
  obtain ⟨f0_0, f0_1, f0_2, f0_3⟩ := (Box.mk f0_0 f0_1 f0_2 f0_3).keep hb
  clear f0_z
  have f0_z := block_of_cell f0_0
  obtain ⟨f1_0, f1_1, f1_2, f1_3⟩ := (Box.mk f1_0 f1_1 f1_2 f1_3).keep hb
  clear f1_z
  have f1_z := block_of_cell f1_0
  replace hb0 := below_then hb0 hb
  clear hb
  go_wp2_with fail
  refine (and_any _ _ _ _ _ _ _ _ _).mono ?_
  rintro e w3 ⟨rfl, hb⟩
  obtain ⟨f0_0, f0_1, f0_2, f0_3⟩ := (Box.mk f0_0 f0_1 f0_2 f0_3).keep hb
  clear f0_z
  have f0_z := block_of_cell f0_0
  obtain ⟨f1_0, f1_1, f1_2, f1_3⟩ := (Box.mk f1_0 f1_1 f1_2 f1_3).keep hb
  clear f1_z
  have f1_z := block_of_cell f1_0
  replace hb0 := below_then hb0 hb
  clear hb
  go_wp2_with fail
  refine (not_any _ _ _ _ _).mono ?_
  rintro e w4 ⟨rfl, hb⟩
  obtain ⟨f0_0, f0_1, f0_2, f0_3⟩ := (Box.mk f0_0 f0_1 f0_2 f0_3).keep hb
  clear f0_z
  have f0_z := block_of_cell f0_0
  obtain ⟨f1_0, f1_1, f1_2, f1_3⟩ := (Box.mk f1_0 f1_1 f1_2 f1_3).keep hb
  clear f1_z
  have f1_z := block_of_cell f1_0
  replace hb0 := below_then hb0 hb
  clear hb
  go_wp2_with fail
  go_ret
  exact ⟨rfl, hb0⟩
theorem truths_w2 (k i : Int) (s : ByteArray) (b : Bool) (k2 i2 : Int) (s2 : ByteArray) (b2 : Bool) (w : World) (he : Env w) (hr : Hid (rightV k i s b = true)) (hr2 : Hid (rightV k2 i2 s2 b2 = false)) :
    Calls Tryd.prog 8 #[.agg #[.int .u8 k, .int .i64 i, .string s, .bool b], .agg #[.int .u8 k2, .int .i64 i2, .string s2, .bool b2]] w fun e w' => e = .returned (.bool true) ∧ Below w.heap.size w w' := by
  go_enter Tryd.func8, Tryd.ntmps8
  go_wp2_with fail
  refine (awake_any _ (he.below (below_then (below1 _ _) (below1 _ _)))).mono ?_
  rintro e w1 ⟨rfl, hb⟩
  obtain ⟨f0_0, f0_1, f0_2, f0_3⟩ := (Box.alloc (Box.new _ _ _ _ _ _) _).keep hb
  have f0_z := block_of_cell f0_0
  obtain ⟨f1_0, f1_1, f1_2, f1_3⟩ := (Box.new _ _ _ _ _ _).keep hb
  have f1_z := block_of_cell f1_0
  simp only [size_alloc] at f1_0 f1_1 f1_2 f1_3 f1_z
  have hb0 := (below_then (below1 _ _) (below_then (below1 _ _) hb))
  clear hb
  go_wp2_with fail
  refine (right_is hr.out _).mono ?_
  rintro e w2 ⟨rfl, hb⟩
  obtain ⟨f0_0, f0_1, f0_2, f0_3⟩ := (Box.mk f0_0 f0_1 f0_2 f0_3).keep hb
  clear f0_z
  have f0_z := block_of_cell f0_0
  obtain ⟨f1_0, f1_1, f1_2, f1_3⟩ := (Box.mk f1_0 f1_1 f1_2 f1_3).keep hb
  clear f1_z
  have f1_z := block_of_cell f1_0
  replace hb0 := below_then hb0 hb
  clear hb
  go_wp2_with fail
  refine (right_is hr2.out _).mono ?_
  rintro e w3 ⟨rfl, hb⟩
  obtain ⟨f0_0, f0_1, f0_2, f0_3⟩ := (Box.mk f0_0 f0_1 f0_2 f0_3).keep hb
  clear f0_z
  have f0_z := block_of_cell f0_0
  obtain ⟨f1_0, f1_1, f1_2, f1_3⟩ := (Box.mk f1_0 f1_1 f1_2 f1_3).keep hb
  clear f1_z
  have f1_z := block_of_cell f1_0
  replace hb0 := below_then hb0 hb
  clear hb
  go_wp2_with fail
  refine (and_any _ _ _ _ _ _ _ _ _).mono ?_
  rintro e w4 ⟨rfl, hb⟩
  obtain ⟨f0_0, f0_1, f0_2, f0_3⟩ := (Box.mk f0_0 f0_1 f0_2 f0_3).keep hb
  clear f0_z
  have f0_z := block_of_cell f0_0
  obtain ⟨f1_0, f1_1, f1_2, f1_3⟩ := (Box.mk f1_0 f1_1 f1_2 f1_3).keep hb
  clear f1_z
  have f1_z := block_of_cell f1_0
  replace hb0 := below_then hb0 hb
  clear hb
  go_wp2_with fail
  refine (not_any _ _ _ _ _).mono ?_
  rintro e w5 ⟨rfl, hb⟩
  obtain ⟨f0_0, f0_1, f0_2, f0_3⟩ := (Box.mk f0_0 f0_1 f0_2 f0_3).keep hb
  clear f0_z
  have f0_z := block_of_cell f0_0
  obtain ⟨f1_0, f1_1, f1_2, f1_3⟩ := (Box.mk f1_0 f1_1 f1_2 f1_3).keep hb
  clear f1_z
  have f1_z := block_of_cell f1_0
  replace hb0 := below_then hb0 hb
  clear hb
  go_wp2_with fail
  go_ret
  exact ⟨rfl, hb0⟩
theorem truths_ok (k i : Int) (s : ByteArray) (b : Bool) (k2 i2 : Int) (s2 : ByteArray) (b2 : Bool) (xk yk zk xe ye ze : Int) (xb yb zb : Bool) (w : World) (he : Env w) (hr : Hid (rightV k i s b = true)) (hr2 : Hid (rightV k2 i2 s2 b2 = true)) (hA : Hid (∀ w, Calls Tryd.prog 22 #[.agg #[.int .u8 k, .int .i64 i, .string s, .bool b], .agg #[.int .u8 k2, .int .i64 i2, .string s2, .bool b2]] w fun e w' => e = .returned (.tuple #[.agg #[.int .u8 xk, .int .i64 0, .string ⟨#[]⟩, .bool xb], .int .i64 xe]) ∧ Below w.heap.size w w')) (hA2 : Hid (∀ w, Calls Tryd.prog 24 #[.agg #[.int .u8 k, .int .i64 i, .string s, .bool b], .agg #[.int .u8 k2, .int .i64 i2, .string s2, .bool b2]] w fun e w' => e = .returned (.tuple #[.agg #[.int .u8 xk, .int .i64 0, .string ⟨#[]⟩, .bool xb], .int .i64 xe]) ∧ Below w.heap.size w w')) (hO : Hid (∀ w, Calls Tryd.prog 25 #[.agg #[.int .u8 k, .int .i64 i, .string s, .bool b], .agg #[.int .u8 k2, .int .i64 i2, .string s2, .bool b2]] w fun e w' => e = .returned (.tuple #[.agg #[.int .u8 yk, .int .i64 0, .string ⟨#[]⟩, .bool yb], .int .i64 ye]) ∧ Below w.heap.size w w')) (hO2 : Hid (∀ w, Calls Tryd.prog 26 #[.agg #[.int .u8 k, .int .i64 i, .string s, .bool b], .agg #[.int .u8 k2, .int .i64 i2, .string s2, .bool b2]] w fun e w' => e = .returned (.tuple #[.agg #[.int .u8 yk, .int .i64 0, .string ⟨#[]⟩, .bool yb], .int .i64 ye]) ∧ Below w.heap.size w w')) (hN : Hid (∀ w, Calls Tryd.prog 23 #[.agg #[.int .u8 k, .int .i64 i, .string s, .bool b]] w fun e w' => e = .returned (.tuple #[.agg #[.int .u8 zk, .int .i64 0, .string ⟨#[]⟩, .bool zb], .int .i64 ze]) ∧ Below w.heap.size w w')) (hN2 : Hid (∀ w, Calls Tryd.prog 27 #[.agg #[.int .u8 k, .int .i64 i, .string s, .bool b]] w fun e w' => e = .returned (.tuple #[.agg #[.int .u8 zk, .int .i64 0, .string ⟨#[]⟩, .bool zb], .int .i64 ze]) ∧ Below w.heap.size w w')) :
    Calls Tryd.prog 8 #[.agg #[.int .u8 k, .int .i64 i, .string s, .bool b], .agg #[.int .u8 k2, .int .i64 i2, .string s2, .bool b2]] w fun e w' => e = .returned (.bool true) ∧ Below w.heap.size w w' := by
  go_enter Tryd.func8, Tryd.ntmps8
  go_wp2_with fail
  refine (awake_any _ (he.below (below_then (below1 _ _) (below1 _ _)))).mono ?_
  rintro e w1 ⟨rfl, hb⟩
  obtain ⟨f0_0, f0_1, f0_2, f0_3⟩ := (Box.alloc (Box.new _ _ _ _ _ _) _).keep hb
  have f0_z := block_of_cell f0_0
  obtain ⟨f1_0, f1_1, f1_2, f1_3⟩ := (Box.new _ _ _ _ _ _).keep hb
  have f1_z := block_of_cell f1_0
  simp only [size_alloc] at f1_0 f1_1 f1_2 f1_3 f1_z
  have hb0 := (below_then (below1 _ _) (below_then (below1 _ _) hb))
  clear hb
  go_wp2_with fail
  refine (right_is hr.out _).mono ?_
  rintro e w2 ⟨rfl, hb⟩
  obtain ⟨f0_0, f0_1, f0_2, f0_3⟩ := (Box.mk f0_0 f0_1 f0_2 f0_3).keep hb
  clear f0_z
  have f0_z := block_of_cell f0_0
  obtain ⟨f1_0, f1_1, f1_2, f1_3⟩ := (Box.mk f1_0 f1_1 f1_2 f1_3).keep hb
  clear f1_z
  have f1_z := block_of_cell f1_0
  replace hb0 := below_then hb0 hb
  clear hb
  go_wp2_with fail
  refine (right_is hr2.out _).mono ?_
  rintro e w3 ⟨rfl, hb⟩
  obtain ⟨f0_0, f0_1, f0_2, f0_3⟩ := (Box.mk f0_0 f0_1 f0_2 f0_3).keep hb
  clear f0_z
  have f0_z := block_of_cell f0_0
  obtain ⟨f1_0, f1_1, f1_2, f1_3⟩ := (Box.mk f1_0 f1_1 f1_2 f1_3).keep hb
  clear f1_z
  have f1_z := block_of_cell f1_0
  replace hb0 := below_then hb0 hb
  clear hb
  go_wp2_with fail
  refine (hA.out _).mono ?_
  rintro e w4 ⟨rfl, hb⟩
  obtain ⟨f0_0, f0_1, f0_2, f0_3⟩ := (Box.mk f0_0 f0_1 f0_2 f0_3).keep hb
  clear f0_z
  have f0_z := block_of_cell f0_0
  obtain ⟨f1_0, f1_1, f1_2, f1_3⟩ := (Box.mk f1_0 f1_1 f1_2 f1_3).keep hb
  clear f1_z
  have f1_z := block_of_cell f1_0
  replace hb0 := below_then hb0 hb
  clear hb
  go_wp2_with fail
  refine (hA2.out _).mono ?_
  rintro e w5 ⟨rfl, hb⟩
  obtain ⟨f0_0, f0_1, f0_2, f0_3⟩ := (Box.alloc (Box.mk f0_0 f0_1 f0_2 f0_3) _).keep hb
  clear f0_z
  have f0_z := block_of_cell f0_0
  obtain ⟨f1_0, f1_1, f1_2, f1_3⟩ := (Box.alloc (Box.mk f1_0 f1_1 f1_2 f1_3) _).keep hb
  clear f1_z
  have f1_z := block_of_cell f1_0
  obtain ⟨f2_0, f2_1, f2_2, f2_3⟩ := (Box.new _ _ _ _ _ _).keep hb
  have f2_z := block_of_cell f2_0
  replace hb0 := below_then hb0 (below_then (below1 _ _) hb)
  clear hb
  go_wp2_with fail
  refine (hO.out _).mono ?_
  rintro e w6 ⟨rfl, hb⟩
  obtain ⟨f0_0, f0_1, f0_2, f0_3⟩ := (Box.alloc (Box.mk f0_0 f0_1 f0_2 f0_3) _).keep hb
  clear f0_z
  have f0_z := block_of_cell f0_0
  obtain ⟨f1_0, f1_1, f1_2, f1_3⟩ := (Box.alloc (Box.mk f1_0 f1_1 f1_2 f1_3) _).keep hb
  clear f1_z
  have f1_z := block_of_cell f1_0
  obtain ⟨f2_0, f2_1, f2_2, f2_3⟩ := (Box.alloc (Box.mk f2_0 f2_1 f2_2 f2_3) _).keep hb
  clear f2_z
  have f2_z := block_of_cell f2_0
  obtain ⟨f3_0, f3_1, f3_2, f3_3⟩ := (Box.new _ _ _ _ _ _).keep hb
  have f3_z := block_of_cell f3_0
  replace hb0 := below_then hb0 (below_then (below1 _ _) hb)
  clear hb
  go_wp2_with fail
  refine (hO2.out _).mono ?_
  rintro e w7 ⟨rfl, hb⟩
  obtain ⟨f0_0, f0_1, f0_2, f0_3⟩ := (Box.alloc (Box.mk f0_0 f0_1 f0_2 f0_3) _).keep hb
  clear f0_z
  have f0_z := block_of_cell f0_0
  obtain ⟨f1_0, f1_1, f1_2, f1_3⟩ := (Box.alloc (Box.mk f1_0 f1_1 f1_2 f1_3) _).keep hb
  clear f1_z
  have f1_z := block_of_cell f1_0
  obtain ⟨f2_0, f2_1, f2_2, f2_3⟩ := (Box.alloc (Box.mk f2_0 f2_1 f2_2 f2_3) _).keep hb
  clear f2_z
  have f2_z := block_of_cell f2_0
  obtain ⟨f3_0, f3_1, f3_2, f3_3⟩ := (Box.alloc (Box.mk f3_0 f3_1 f3_2 f3_3) _).keep hb
  clear f3_z
  have f3_z := block_of_cell f3_0
  obtain ⟨f4_0, f4_1, f4_2, f4_3⟩ := (Box.new _ _ _ _ _ _).keep hb
  have f4_z := block_of_cell f4_0
  replace hb0 := below_then hb0 (below_then (below1 _ _) hb)
  clear hb
  go_wp2_with fail
  refine (hN.out _).mono ?_
  rintro e w8 ⟨rfl, hb⟩
  obtain ⟨f0_0, f0_1, f0_2, f0_3⟩ := (Box.alloc (Box.mk f0_0 f0_1 f0_2 f0_3) _).keep hb
  clear f0_z
  have f0_z := block_of_cell f0_0
  obtain ⟨f1_0, f1_1, f1_2, f1_3⟩ := (Box.alloc (Box.mk f1_0 f1_1 f1_2 f1_3) _).keep hb
  clear f1_z
  have f1_z := block_of_cell f1_0
  obtain ⟨f2_0, f2_1, f2_2, f2_3⟩ := (Box.alloc (Box.mk f2_0 f2_1 f2_2 f2_3) _).keep hb
  clear f2_z
  have f2_z := block_of_cell f2_0
  obtain ⟨f3_0, f3_1, f3_2, f3_3⟩ := (Box.alloc (Box.mk f3_0 f3_1 f3_2 f3_3) _).keep hb
  clear f3_z
  have f3_z := block_of_cell f3_0
  obtain ⟨f4_0, f4_1, f4_2, f4_3⟩ := (Box.alloc (Box.mk f4_0 f4_1 f4_2 f4_3) _).keep hb
  clear f4_z
  have f4_z := block_of_cell f4_0
  obtain ⟨f5_0, f5_1, f5_2, f5_3⟩ := (Box.new _ _ _ _ _ _).keep hb
  have f5_z := block_of_cell f5_0
  replace hb0 := below_then hb0 (below_then (below1 _ _) hb)
  clear hb
  go_wp2_with fail
  refine (hN2.out _).mono ?_
  rintro e w9 ⟨rfl, hb⟩
  obtain ⟨f0_0, f0_1, f0_2, f0_3⟩ := (Box.alloc (Box.mk f0_0 f0_1 f0_2 f0_3) _).keep hb
  clear f0_z
  have f0_z := block_of_cell f0_0
  obtain ⟨f1_0, f1_1, f1_2, f1_3⟩ := (Box.alloc (Box.mk f1_0 f1_1 f1_2 f1_3) _).keep hb
  clear f1_z
  have f1_z := block_of_cell f1_0
  obtain ⟨f2_0, f2_1, f2_2, f2_3⟩ := (Box.alloc (Box.mk f2_0 f2_1 f2_2 f2_3) _).keep hb
  clear f2_z
  have f2_z := block_of_cell f2_0
  obtain ⟨f3_0, f3_1, f3_2, f3_3⟩ := (Box.alloc (Box.mk f3_0 f3_1 f3_2 f3_3) _).keep hb
  clear f3_z
  have f3_z := block_of_cell f3_0
  obtain ⟨f4_0, f4_1, f4_2, f4_3⟩ := (Box.alloc (Box.mk f4_0 f4_1 f4_2 f4_3) _).keep hb
  clear f4_z
  have f4_z := block_of_cell f4_0
  obtain ⟨f5_0, f5_1, f5_2, f5_3⟩ := (Box.alloc (Box.mk f5_0 f5_1 f5_2 f5_3) _).keep hb
  clear f5_z
  have f5_z := block_of_cell f5_0
  obtain ⟨f6_0, f6_1, f6_2, f6_3⟩ := (Box.new _ _ _ _ _ _).keep hb
  have f6_z := block_of_cell f6_0
  replace hb0 := below_then hb0 (below_then (below1 _ _) hb)
  clear hb
  go_wp2_with fail
  go_ret
  exact ⟨rfl, (below_then hb0 (below1 _ _))⟩
end Go.Proofs.YtpkohkhgimmkhaaDoor
