/-
  The walk of CellTotals. Conditions: the library's tables are as laid.
-/
import Derived.Test.YtpkohkhgimmkhaaDoorCellLaws2
import Derived.Deep.RegionHeld
import Derived.LoopN
namespace Go.Proofs.YtpkohkhgimmkhaaDoor
open Go.RowKit Go.Sort
set_option linter.unusedVariables false
set_option linter.unusedSimpArgs false

theorem keep_h {V W w1 : World} {b o : Nat} {x : Value} (hb : Below W.heap.size W w1) (hh : W.heap = V.heap) (h : V.cell? ⟨b, o, none⟩ = some x) : w1.cell? ⟨b, o, none⟩ = some x :=
  keep hb (by unfold World.cell? at h ⊢; rw [hh]; exact h)
theorem then_h {w V W w1 : World} (hb0 : Below w.heap.size w V) (hb : Below W.heap.size W w1) (hs : V.heap = W.heap ∧ V.os = W.os ∧ V.tape = W.tape ∧ V.output = W.output) : Below w.heap.size w w1 := by
  refine below_then (w1 := W) ⟨hs.2.1 ▸ hb0.os, hs.2.2.1 ▸ hb0.tape, hs.2.2.2 ▸ hb0.output, hs.1 ▸ hb0.size, fun k hk => ?_⟩ hb
  rw [← hs.1]
  exact hb0.block k hk
theorem totals_w0 (k i : Int) (s : ByteArray) (b : Bool) (k2 i2 : Int) (s2 : ByteArray) (b2 : Bool)  (w : World) (he : Env w) (hr : Hid (rightV k i s b = false)) :
    Calls Tryd.prog 7 #[.agg #[.int .u8 k, .int .i64 i, .string s, .bool b], .agg #[.int .u8 k2, .int .i64 i2, .string s2, .bool b2]] w fun e w' => e = .returned (.bool true) ∧ Below w.heap.size w w' := by
  go_enter Tryd.func7, Tryd.ntmps7
  go_wp2_with fail
  refine (awake_any _ (he.below (below_then (below1 _ _) (below1 _ _)))).mono ?_
  rintro e w1 ⟨rfl, hb⟩
  obtain ⟨f0_0, f0_1, f0_2, f0_3⟩ := (Box.alloc (Box.new _ _ _ _ _ _) _).keep hb
  have f0_z := block_of_cell f0_0
  obtain ⟨f1_0, f1_1, f1_2, f1_3⟩ := (Box.new _ _ _ _ _ _).keep hb
  have f1_z := block_of_cell f1_0
  simp only [size_alloc] at f1_0 f1_1 f1_2 f1_3 f1_z
  have hb0 := (below_then (below1 _ _) (below_then (below1 _ _) hb))
  clear hb
  go_wp2_with fail
  refine (right_is hr.out _).mono ?_
  rintro e w2 ⟨rfl, hb⟩
  obtain ⟨f0_0, f0_1, f0_2, f0_3⟩ := (Box.mk f0_0 f0_1 f0_2 f0_3).keep hb
  clear f0_z
  have f0_z := block_of_cell f0_0
  obtain ⟨f1_0, f1_1, f1_2, f1_3⟩ := (Box.mk f1_0 f1_1 f1_2 f1_3).keep hb
  clear f1_z
  have f1_z := block_of_cell f1_0
  replace hb0 := below_then hb0 hb
  clear hb
  go_wp2_with fail
  go_ret
  exact ⟨rfl, hb0⟩
theorem totals_w1 (k i : Int) (s : ByteArray) (b : Bool) (k2 i2 : Int) (s2 : ByteArray) (b2 : Bool)  (w : World) (he : Env w) (hr : Hid (rightV k i s b = true)) (hr2 : Hid (rightV k2 i2 s2 b2 = false)) :
    Calls Tryd.prog 7 #[.agg #[.int .u8 k, .int .i64 i, .string s, .bool b], .agg #[.int .u8 k2, .int .i64 i2, .string s2, .bool b2]] w fun e w' => e = .returned (.bool true) ∧ Below w.heap.size w w' := by
  go_enter Tryd.func7, Tryd.ntmps7
  go_wp2_with fail
  refine (awake_any _ (he.below (below_then (below1 _ _) (below1 _ _)))).mono ?_
  rintro e w1 ⟨rfl, hb⟩
  obtain ⟨f0_0, f0_1, f0_2, f0_3⟩ := (Box.alloc (Box.new _ _ _ _ _ _) _).keep hb
  have f0_z := block_of_cell f0_0
  obtain ⟨f1_0, f1_1, f1_2, f1_3⟩ := (Box.new _ _ _ _ _ _).keep hb
  have f1_z := block_of_cell f1_0
  simp only [size_alloc] at f1_0 f1_1 f1_2 f1_3 f1_z
  have hb0 := (below_then (below1 _ _) (below_then (below1 _ _) hb))
  clear hb
  go_wp2_with fail
  refine (right_is hr.out _).mono ?_
  rintro e w2 ⟨rfl, hb⟩
  obtain ⟨f0_0, f0_1, f0_2, f0_3⟩ := (Box.mk f0_0 f0_1 f0_2 f0_3).keep hb
  clear f0_z
  have f0_z := block_of_cell f0_0
  obtain ⟨f1_0, f1_1, f1_2, f1_3⟩ := (Box.mk f1_0 f1_1 f1_2 f1_3).keep hb
  clear f1_z
  have f1_z := block_of_cell f1_0
  replace hb0 := below_then hb0 hb
  clear hb
  go_wp2_with fail
  refine (right_is hr2.out _).mono ?_
  rintro e w3 ⟨rfl, hb⟩
  obtain ⟨f0_0, f0_1, f0_2, f0_3⟩ := (Box.mk f0_0 f0_1 f0_2 f0_3).keep hb
  clear f0_z
  have f0_z := block_of_cell f0_0
  obtain ⟨f1_0, f1_1, f1_2, f1_3⟩ := (Box.mk f1_0 f1_1 f1_2 f1_3).keep hb
  clear f1_z
  have f1_z := block_of_cell f1_0
  replace hb0 := below_then hb0 hb
  clear hb
  go_wp2_with fail
  go_ret
  exact ⟨rfl, hb0⟩
set_option maxRecDepth 100000 in
set_option maxHeartbeats 2000000 in
theorem totals_l (k i : Int) (s : ByteArray) (b : Bool) (k2 i2 : Int) (s2 : ByteArray) (b2 : Bool)  (w : World) (he : Env w) (hr : Hid (rightV k i s b = true)) (hr2 : Hid (rightV k2 i2 s2 b2 = true)) (h1 : Hid (∀ w : World, Calls Tryd.prog 17 #[.agg #[.int .u8 k, .int .i64 i, .string s, .bool b], .agg #[.int .u8 k2, .int .i64 i2, .string s2, .bool b2]] w fun e w' => e = .returned (.bool true) ∧ Below w.heap.size w w')) (h2 : Hid (∀ w : World, Calls Tryd.prog 17 #[.agg #[.int .u8 k2, .int .i64 i2, .string s2, .bool b2], .agg #[.int .u8 k, .int .i64 i, .string s, .bool b]] w fun e w' => e = .returned (.bool false) ∧ Below w.heap.size w w')) (h3 : Hid (∀ w : World, Calls Tryd.prog 21 #[.agg #[.int .u8 k, .int .i64 i, .string s, .bool b], .agg #[.int .u8 k2, .int .i64 i2, .string s2, .bool b2]] w fun e w' => e = .returned (.bool false) ∧ Below w.heap.size w w')) (h4 : Hid (∀ w : World, Calls Tryd.prog 21 #[.agg #[.int .u8 k, .int .i64 i, .string s, .bool b], .agg #[.int .u8 k, .int .i64 i, .string s, .bool b]] w fun e w' => e = .returned (.bool true) ∧ Below w.heap.size w w')) (h5 : Hid (∀ w : World, Calls Tryd.prog 17 #[.agg #[.int .u8 k, .int .i64 i, .string s, .bool b], .agg #[.int .u8 k, .int .i64 i, .string s, .bool b]] w fun e w' => e = .returned (.bool false) ∧ Below w.heap.size w w')) :
    Calls Tryd.prog 7 #[.agg #[.int .u8 k, .int .i64 i, .string s, .bool b], .agg #[.int .u8 k2, .int .i64 i2, .string s2, .bool b2]] w fun e w' => e = .returned (.bool true) ∧ Below w.heap.size w w' := by
  go_enter Tryd.func7, Tryd.ntmps7
  go_wp2_with fail
  refine (awake_any _ (he.below (below_then (below1 _ _) (below1 _ _)))).mono ?_
  rintro e w1 ⟨rfl, hb⟩
  obtain ⟨f0_0, f0_1, f0_2, f0_3⟩ := (Box.alloc (Box.new _ _ _ _ _ _) _).keep hb
  have f0_z := block_of_cell f0_0
  obtain ⟨f1_0, f1_1, f1_2, f1_3⟩ := (Box.new _ _ _ _ _ _).keep hb
  have f1_z := block_of_cell f1_0
  simp only [size_alloc] at f1_0 f1_1 f1_2 f1_3 f1_z
  have hb0 := (below_then (below1 _ _) (below_then (below1 _ _) hb))
  clear hb
  go_wp2_with fail
  refine (right_is hr.out _).mono ?_
  rintro e w2 ⟨rfl, hb⟩
  obtain ⟨f0_0, f0_1, f0_2, f0_3⟩ := (Box.mk f0_0 f0_1 f0_2 f0_3).keep hb
  clear f0_z
  have f0_z := block_of_cell f0_0
  obtain ⟨f1_0, f1_1, f1_2, f1_3⟩ := (Box.mk f1_0 f1_1 f1_2 f1_3).keep hb
  clear f1_z
  have f1_z := block_of_cell f1_0
  replace hb0 := below_then hb0 hb
  clear hb
  go_wp2_with fail
  refine (right_is hr2.out _).mono ?_
  rintro e w3 ⟨rfl, hb⟩
  obtain ⟨f0_0, f0_1, f0_2, f0_3⟩ := (Box.mk f0_0 f0_1 f0_2 f0_3).keep hb
  clear f0_z
  have f0_z := block_of_cell f0_0
  obtain ⟨f1_0, f1_1, f1_2, f1_3⟩ := (Box.mk f1_0 f1_1 f1_2 f1_3).keep hb
  clear f1_z
  have f1_z := block_of_cell f1_0
  replace hb0 := below_then hb0 hb
  clear hb
  go_wp2_with fail
  go_region_held (fun w' => w'.cell? ⟨w.heap.size, 0, none⟩ = some (.int .u8 k) ∧ w'.cell? ⟨w.heap.size, 1, none⟩ = some (.int .i64 i) ∧ w'.cell? ⟨w.heap.size, 2, none⟩ = some (.string s) ∧ w'.cell? ⟨w.heap.size, 3, none⟩ = some (.bool b) ∧ w'.cell? ⟨w.heap.size + 1, 0, none⟩ = some (.int .u8 k2) ∧ w'.cell? ⟨w.heap.size + 1, 1, none⟩ = some (.int .i64 i2) ∧ w'.cell? ⟨w.heap.size + 1, 2, none⟩ = some (.string s2) ∧ w'.cell? ⟨w.heap.size + 1, 3, none⟩ = some (.bool b2)) (go_keep) (first | (go_at_call 17; (with_reducible refine (h1.out _).mono ?_); rintro e wn ⟨rfl, hb⟩; replace f0_0 := keep_h hb (by rfl) f0_0; replace f0_1 := keep_h hb (by rfl) f0_1; replace f0_2 := keep_h hb (by rfl) f0_2; replace f0_3 := keep_h hb (by rfl) f0_3; replace f1_0 := keep_h hb (by rfl) f1_0; replace f1_1 := keep_h hb (by rfl) f1_1; replace f1_2 := keep_h hb (by rfl) f1_2; replace f1_3 := keep_h hb (by rfl) f1_3; replace f0_z := block_of_cell f0_0; replace f1_z := block_of_cell f1_0; replace hb0 := then_h hb0 hb ⟨by rfl, by rfl, by rfl, by rfl⟩; clear hb) | (go_at_call 17; (with_reducible refine (h2.out _).mono ?_); rintro e wn ⟨rfl, hb⟩; replace f0_0 := keep_h hb (by rfl) f0_0; replace f0_1 := keep_h hb (by rfl) f0_1; replace f0_2 := keep_h hb (by rfl) f0_2; replace f0_3 := keep_h hb (by rfl) f0_3; replace f1_0 := keep_h hb (by rfl) f1_0; replace f1_1 := keep_h hb (by rfl) f1_1; replace f1_2 := keep_h hb (by rfl) f1_2; replace f1_3 := keep_h hb (by rfl) f1_3; replace f0_z := block_of_cell f0_0; replace f1_z := block_of_cell f1_0; replace hb0 := then_h hb0 hb ⟨by rfl, by rfl, by rfl, by rfl⟩; clear hb) | (go_at_call 21; (with_reducible refine (h3.out _).mono ?_); rintro e wn ⟨rfl, hb⟩; replace f0_0 := keep_h hb (by rfl) f0_0; replace f0_1 := keep_h hb (by rfl) f0_1; replace f0_2 := keep_h hb (by rfl) f0_2; replace f0_3 := keep_h hb (by rfl) f0_3; replace f1_0 := keep_h hb (by rfl) f1_0; replace f1_1 := keep_h hb (by rfl) f1_1; replace f1_2 := keep_h hb (by rfl) f1_2; replace f1_3 := keep_h hb (by rfl) f1_3; replace f0_z := block_of_cell f0_0; replace f1_z := block_of_cell f1_0; replace hb0 := then_h hb0 hb ⟨by rfl, by rfl, by rfl, by rfl⟩; clear hb))
  replace f0_0 := keep_alloc (.cells #[.bool true, .bool false, .bool false] 4) f0_0
  replace f0_1 := keep_alloc (.cells #[.bool true, .bool false, .bool false] 4) f0_1
  replace f0_2 := keep_alloc (.cells #[.bool true, .bool false, .bool false] 4) f0_2
  replace f0_3 := keep_alloc (.cells #[.bool true, .bool false, .bool false] 4) f0_3
  replace f1_0 := keep_alloc (.cells #[.bool true, .bool false, .bool false] 4) f1_0
  replace f1_1 := keep_alloc (.cells #[.bool true, .bool false, .bool false] 4) f1_1
  replace f1_2 := keep_alloc (.cells #[.bool true, .bool false, .bool false] 4) f1_2
  replace f1_3 := keep_alloc (.cells #[.bool true, .bool false, .bool false] 4) f1_3
  have g0 : (wn.alloc (.cells #[.bool true, .bool false, .bool false] 4)).cell? ⟨wn.heap.size, 0, none⟩ = some (.bool true) := by simp [go_sem]
  have g1 : (wn.alloc (.cells #[.bool true, .bool false, .bool false] 4)).cell? ⟨wn.heap.size, 1, none⟩ = some (.bool false) := by simp [go_sem]
  have g2 : (wn.alloc (.cells #[.bool true, .bool false, .bool false] 4)).cell? ⟨wn.heap.size, 2, none⟩ = some (.bool false) := by simp [go_sem]
  replace hb0 := below_then hb0 (below1 wn (.cells #[.bool true, .bool false, .bool false] 4))
  clear f0_z f1_z
  generalize (wn.alloc (.cells #[.bool true, .bool false, .bool false] 4)) = W4 at *
  have f0_z := block_of_cell f0_0
  have f1_z := block_of_cell f1_0
  go_wp2_with fail
  refine wp_loop_rounds 4 ?_
  rw [rounds_succ]
  go_wp2_with fail
  rw [rounds_succ]
  go_wp2_with fail
  rw [rounds_succ]
  go_wp2_with fail
  rw [rounds_succ]
  go_wp2_with fail
  refine (h4.out _).mono ?_
  rintro e w4 ⟨rfl, hb⟩
  obtain ⟨f0_0, f0_1, f0_2, f0_3⟩ := (Box.mk f0_0 f0_1 f0_2 f0_3).keep hb
  clear f0_z
  have f0_z := block_of_cell f0_0
  obtain ⟨f1_0, f1_1, f1_2, f1_3⟩ := (Box.mk f1_0 f1_1 f1_2 f1_3).keep hb
  clear f1_z
  have f1_z := block_of_cell f1_0
  replace hb0 := below_then hb0 hb
  clear hb
  go_wp2_with fail
  refine (h5.out _).mono ?_
  rintro e w5 ⟨rfl, hb⟩
  obtain ⟨f0_0, f0_1, f0_2, f0_3⟩ := (Box.mk f0_0 f0_1 f0_2 f0_3).keep hb
  clear f0_z
  have f0_z := block_of_cell f0_0
  obtain ⟨f1_0, f1_1, f1_2, f1_3⟩ := (Box.mk f1_0 f1_1 f1_2 f1_3).keep hb
  clear f1_z
  have f1_z := block_of_cell f1_0
  replace hb0 := below_then hb0 hb
  clear hb
  go_wp2_with fail
  go_ret
  exact ⟨rfl, hb0⟩
set_option maxRecDepth 100000 in
set_option maxHeartbeats 2000000 in
theorem totals_g (k i : Int) (s : ByteArray) (b : Bool) (k2 i2 : Int) (s2 : ByteArray) (b2 : Bool)  (w : World) (he : Env w) (hr : Hid (rightV k i s b = true)) (hr2 : Hid (rightV k2 i2 s2 b2 = true)) (h1 : Hid (∀ w : World, Calls Tryd.prog 17 #[.agg #[.int .u8 k, .int .i64 i, .string s, .bool b], .agg #[.int .u8 k2, .int .i64 i2, .string s2, .bool b2]] w fun e w' => e = .returned (.bool false) ∧ Below w.heap.size w w')) (h2 : Hid (∀ w : World, Calls Tryd.prog 17 #[.agg #[.int .u8 k2, .int .i64 i2, .string s2, .bool b2], .agg #[.int .u8 k, .int .i64 i, .string s, .bool b]] w fun e w' => e = .returned (.bool true) ∧ Below w.heap.size w w')) (h3 : Hid (∀ w : World, Calls Tryd.prog 21 #[.agg #[.int .u8 k, .int .i64 i, .string s, .bool b], .agg #[.int .u8 k2, .int .i64 i2, .string s2, .bool b2]] w fun e w' => e = .returned (.bool false) ∧ Below w.heap.size w w')) (h4 : Hid (∀ w : World, Calls Tryd.prog 21 #[.agg #[.int .u8 k, .int .i64 i, .string s, .bool b], .agg #[.int .u8 k, .int .i64 i, .string s, .bool b]] w fun e w' => e = .returned (.bool true) ∧ Below w.heap.size w w')) (h5 : Hid (∀ w : World, Calls Tryd.prog 17 #[.agg #[.int .u8 k, .int .i64 i, .string s, .bool b], .agg #[.int .u8 k, .int .i64 i, .string s, .bool b]] w fun e w' => e = .returned (.bool false) ∧ Below w.heap.size w w')) :
    Calls Tryd.prog 7 #[.agg #[.int .u8 k, .int .i64 i, .string s, .bool b], .agg #[.int .u8 k2, .int .i64 i2, .string s2, .bool b2]] w fun e w' => e = .returned (.bool true) ∧ Below w.heap.size w w' := by
  go_enter Tryd.func7, Tryd.ntmps7
  go_wp2_with fail
  refine (awake_any _ (he.below (below_then (below1 _ _) (below1 _ _)))).mono ?_
  rintro e w1 ⟨rfl, hb⟩
  obtain ⟨f0_0, f0_1, f0_2, f0_3⟩ := (Box.alloc (Box.new _ _ _ _ _ _) _).keep hb
  have f0_z := block_of_cell f0_0
  obtain ⟨f1_0, f1_1, f1_2, f1_3⟩ := (Box.new _ _ _ _ _ _).keep hb
  have f1_z := block_of_cell f1_0
  simp only [size_alloc] at f1_0 f1_1 f1_2 f1_3 f1_z
  have hb0 := (below_then (below1 _ _) (below_then (below1 _ _) hb))
  clear hb
  go_wp2_with fail
  refine (right_is hr.out _).mono ?_
  rintro e w2 ⟨rfl, hb⟩
  obtain ⟨f0_0, f0_1, f0_2, f0_3⟩ := (Box.mk f0_0 f0_1 f0_2 f0_3).keep hb
  clear f0_z
  have f0_z := block_of_cell f0_0
  obtain ⟨f1_0, f1_1, f1_2, f1_3⟩ := (Box.mk f1_0 f1_1 f1_2 f1_3).keep hb
  clear f1_z
  have f1_z := block_of_cell f1_0
  replace hb0 := below_then hb0 hb
  clear hb
  go_wp2_with fail
  refine (right_is hr2.out _).mono ?_
  rintro e w3 ⟨rfl, hb⟩
  obtain ⟨f0_0, f0_1, f0_2, f0_3⟩ := (Box.mk f0_0 f0_1 f0_2 f0_3).keep hb
  clear f0_z
  have f0_z := block_of_cell f0_0
  obtain ⟨f1_0, f1_1, f1_2, f1_3⟩ := (Box.mk f1_0 f1_1 f1_2 f1_3).keep hb
  clear f1_z
  have f1_z := block_of_cell f1_0
  replace hb0 := below_then hb0 hb
  clear hb
  go_wp2_with fail
  go_region_held (fun w' => w'.cell? ⟨w.heap.size, 0, none⟩ = some (.int .u8 k) ∧ w'.cell? ⟨w.heap.size, 1, none⟩ = some (.int .i64 i) ∧ w'.cell? ⟨w.heap.size, 2, none⟩ = some (.string s) ∧ w'.cell? ⟨w.heap.size, 3, none⟩ = some (.bool b) ∧ w'.cell? ⟨w.heap.size + 1, 0, none⟩ = some (.int .u8 k2) ∧ w'.cell? ⟨w.heap.size + 1, 1, none⟩ = some (.int .i64 i2) ∧ w'.cell? ⟨w.heap.size + 1, 2, none⟩ = some (.string s2) ∧ w'.cell? ⟨w.heap.size + 1, 3, none⟩ = some (.bool b2)) (go_keep) (first | (go_at_call 17; (with_reducible refine (h1.out _).mono ?_); rintro e wn ⟨rfl, hb⟩; replace f0_0 := keep_h hb (by rfl) f0_0; replace f0_1 := keep_h hb (by rfl) f0_1; replace f0_2 := keep_h hb (by rfl) f0_2; replace f0_3 := keep_h hb (by rfl) f0_3; replace f1_0 := keep_h hb (by rfl) f1_0; replace f1_1 := keep_h hb (by rfl) f1_1; replace f1_2 := keep_h hb (by rfl) f1_2; replace f1_3 := keep_h hb (by rfl) f1_3; replace f0_z := block_of_cell f0_0; replace f1_z := block_of_cell f1_0; replace hb0 := then_h hb0 hb ⟨by rfl, by rfl, by rfl, by rfl⟩; clear hb) | (go_at_call 17; (with_reducible refine (h2.out _).mono ?_); rintro e wn ⟨rfl, hb⟩; replace f0_0 := keep_h hb (by rfl) f0_0; replace f0_1 := keep_h hb (by rfl) f0_1; replace f0_2 := keep_h hb (by rfl) f0_2; replace f0_3 := keep_h hb (by rfl) f0_3; replace f1_0 := keep_h hb (by rfl) f1_0; replace f1_1 := keep_h hb (by rfl) f1_1; replace f1_2 := keep_h hb (by rfl) f1_2; replace f1_3 := keep_h hb (by rfl) f1_3; replace f0_z := block_of_cell f0_0; replace f1_z := block_of_cell f1_0; replace hb0 := then_h hb0 hb ⟨by rfl, by rfl, by rfl, by rfl⟩; clear hb) | (go_at_call 21; (with_reducible refine (h3.out _).mono ?_); rintro e wn ⟨rfl, hb⟩; replace f0_0 := keep_h hb (by rfl) f0_0; replace f0_1 := keep_h hb (by rfl) f0_1; replace f0_2 := keep_h hb (by rfl) f0_2; replace f0_3 := keep_h hb (by rfl) f0_3; replace f1_0 := keep_h hb (by rfl) f1_0; replace f1_1 := keep_h hb (by rfl) f1_1; replace f1_2 := keep_h hb (by rfl) f1_2; replace f1_3 := keep_h hb (by rfl) f1_3; replace f0_z := block_of_cell f0_0; replace f1_z := block_of_cell f1_0; replace hb0 := then_h hb0 hb ⟨by rfl, by rfl, by rfl, by rfl⟩; clear hb))
  replace f0_0 := keep_alloc (.cells #[.bool false, .bool true, .bool false] 4) f0_0
  replace f0_1 := keep_alloc (.cells #[.bool false, .bool true, .bool false] 4) f0_1
  replace f0_2 := keep_alloc (.cells #[.bool false, .bool true, .bool false] 4) f0_2
  replace f0_3 := keep_alloc (.cells #[.bool false, .bool true, .bool false] 4) f0_3
  replace f1_0 := keep_alloc (.cells #[.bool false, .bool true, .bool false] 4) f1_0
  replace f1_1 := keep_alloc (.cells #[.bool false, .bool true, .bool false] 4) f1_1
  replace f1_2 := keep_alloc (.cells #[.bool false, .bool true, .bool false] 4) f1_2
  replace f1_3 := keep_alloc (.cells #[.bool false, .bool true, .bool false] 4) f1_3
  have g0 : (wn.alloc (.cells #[.bool false, .bool true, .bool false] 4)).cell? ⟨wn.heap.size, 0, none⟩ = some (.bool false) := by simp [go_sem]
  have g1 : (wn.alloc (.cells #[.bool false, .bool true, .bool false] 4)).cell? ⟨wn.heap.size, 1, none⟩ = some (.bool true) := by simp [go_sem]
  have g2 : (wn.alloc (.cells #[.bool false, .bool true, .bool false] 4)).cell? ⟨wn.heap.size, 2, none⟩ = some (.bool false) := by simp [go_sem]
  replace hb0 := below_then hb0 (below1 wn (.cells #[.bool false, .bool true, .bool false] 4))
  clear f0_z f1_z
  generalize (wn.alloc (.cells #[.bool false, .bool true, .bool false] 4)) = W4 at *
  have f0_z := block_of_cell f0_0
  have f1_z := block_of_cell f1_0
  go_wp2_with fail
  refine wp_loop_rounds 4 ?_
  rw [rounds_succ]
  go_wp2_with fail
  rw [rounds_succ]
  go_wp2_with fail
  rw [rounds_succ]
  go_wp2_with fail
  rw [rounds_succ]
  go_wp2_with fail
  refine (h4.out _).mono ?_
  rintro e w4 ⟨rfl, hb⟩
  obtain ⟨f0_0, f0_1, f0_2, f0_3⟩ := (Box.mk f0_0 f0_1 f0_2 f0_3).keep hb
  clear f0_z
  have f0_z := block_of_cell f0_0
  obtain ⟨f1_0, f1_1, f1_2, f1_3⟩ := (Box.mk f1_0 f1_1 f1_2 f1_3).keep hb
  clear f1_z
  have f1_z := block_of_cell f1_0
  replace hb0 := below_then hb0 hb
  clear hb
  go_wp2_with fail
  refine (h5.out _).mono ?_
  rintro e w5 ⟨rfl, hb⟩
  obtain ⟨f0_0, f0_1, f0_2, f0_3⟩ := (Box.mk f0_0 f0_1 f0_2 f0_3).keep hb
  clear f0_z
  have f0_z := block_of_cell f0_0
  obtain ⟨f1_0, f1_1, f1_2, f1_3⟩ := (Box.mk f1_0 f1_1 f1_2 f1_3).keep hb
  clear f1_z
  have f1_z := block_of_cell f1_0
  replace hb0 := below_then hb0 hb
  clear hb
  go_wp2_with fail
  go_ret
  exact ⟨rfl, hb0⟩
set_option maxRecDepth 100000 in
set_option maxHeartbeats 2000000 in
theorem totals_e (k i : Int) (s : ByteArray) (b : Bool) (k2 i2 : Int) (s2 : ByteArray) (b2 : Bool)  (w : World) (he : Env w) (hr : Hid (rightV k i s b = true)) (hr2 : Hid (rightV k2 i2 s2 b2 = true)) (h1 : Hid (∀ w : World, Calls Tryd.prog 17 #[.agg #[.int .u8 k, .int .i64 i, .string s, .bool b], .agg #[.int .u8 k2, .int .i64 i2, .string s2, .bool b2]] w fun e w' => e = .returned (.bool false) ∧ Below w.heap.size w w')) (h2 : Hid (∀ w : World, Calls Tryd.prog 17 #[.agg #[.int .u8 k2, .int .i64 i2, .string s2, .bool b2], .agg #[.int .u8 k, .int .i64 i, .string s, .bool b]] w fun e w' => e = .returned (.bool false) ∧ Below w.heap.size w w')) (h3 : Hid (∀ w : World, Calls Tryd.prog 21 #[.agg #[.int .u8 k, .int .i64 i, .string s, .bool b], .agg #[.int .u8 k2, .int .i64 i2, .string s2, .bool b2]] w fun e w' => e = .returned (.bool true) ∧ Below w.heap.size w w')) (h4 : Hid (∀ w : World, Calls Tryd.prog 21 #[.agg #[.int .u8 k, .int .i64 i, .string s, .bool b], .agg #[.int .u8 k, .int .i64 i, .string s, .bool b]] w fun e w' => e = .returned (.bool true) ∧ Below w.heap.size w w')) (h5 : Hid (∀ w : World, Calls Tryd.prog 17 #[.agg #[.int .u8 k, .int .i64 i, .string s, .bool b], .agg #[.int .u8 k, .int .i64 i, .string s, .bool b]] w fun e w' => e = .returned (.bool false) ∧ Below w.heap.size w w')) :
    Calls Tryd.prog 7 #[.agg #[.int .u8 k, .int .i64 i, .string s, .bool b], .agg #[.int .u8 k2, .int .i64 i2, .string s2, .bool b2]] w fun e w' => e = .returned (.bool true) ∧ Below w.heap.size w w' := by
  go_enter Tryd.func7, Tryd.ntmps7
  go_wp2_with fail
  refine (awake_any _ (he.below (below_then (below1 _ _) (below1 _ _)))).mono ?_
  rintro e w1 ⟨rfl, hb⟩
  obtain ⟨f0_0, f0_1, f0_2, f0_3⟩ := (Box.alloc (Box.new _ _ _ _ _ _) _).keep hb
  have f0_z := block_of_cell f0_0
  obtain ⟨f1_0, f1_1, f1_2, f1_3⟩ := (Box.new _ _ _ _ _ _).keep hb
  have f1_z := block_of_cell f1_0
  simp only [size_alloc] at f1_0 f1_1 f1_2 f1_3 f1_z
  have hb0 := (below_then (below1 _ _) (below_then (below1 _ _) hb))
  clear hb
  go_wp2_with fail
  refine (right_is hr.out _).mono ?_
  rintro e w2 ⟨rfl, hb⟩
  obtain ⟨f0_0, f0_1, f0_2, f0_3⟩ := (Box.mk f0_0 f0_1 f0_2 f0_3).keep hb
  clear f0_z
  have f0_z := block_of_cell f0_0
  obtain ⟨f1_0, f1_1, f1_2, f1_3⟩ := (Box.mk f1_0 f1_1 f1_2 f1_3).keep hb
  clear f1_z
  have f1_z := block_of_cell f1_0
  replace hb0 := below_then hb0 hb
  clear hb
  go_wp2_with fail
  refine (right_is hr2.out _).mono ?_
  rintro e w3 ⟨rfl, hb⟩
  obtain ⟨f0_0, f0_1, f0_2, f0_3⟩ := (Box.mk f0_0 f0_1 f0_2 f0_3).keep hb
  clear f0_z
  have f0_z := block_of_cell f0_0
  obtain ⟨f1_0, f1_1, f1_2, f1_3⟩ := (Box.mk f1_0 f1_1 f1_2 f1_3).keep hb
  clear f1_z
  have f1_z := block_of_cell f1_0
  replace hb0 := below_then hb0 hb
  clear hb
  go_wp2_with fail
  go_region_held (fun w' => w'.cell? ⟨w.heap.size, 0, none⟩ = some (.int .u8 k) ∧ w'.cell? ⟨w.heap.size, 1, none⟩ = some (.int .i64 i) ∧ w'.cell? ⟨w.heap.size, 2, none⟩ = some (.string s) ∧ w'.cell? ⟨w.heap.size, 3, none⟩ = some (.bool b) ∧ w'.cell? ⟨w.heap.size + 1, 0, none⟩ = some (.int .u8 k2) ∧ w'.cell? ⟨w.heap.size + 1, 1, none⟩ = some (.int .i64 i2) ∧ w'.cell? ⟨w.heap.size + 1, 2, none⟩ = some (.string s2) ∧ w'.cell? ⟨w.heap.size + 1, 3, none⟩ = some (.bool b2)) (go_keep) (first | (go_at_call 17; (with_reducible refine (h1.out _).mono ?_); rintro e wn ⟨rfl, hb⟩; replace f0_0 := keep_h hb (by rfl) f0_0; replace f0_1 := keep_h hb (by rfl) f0_1; replace f0_2 := keep_h hb (by rfl) f0_2; replace f0_3 := keep_h hb (by rfl) f0_3; replace f1_0 := keep_h hb (by rfl) f1_0; replace f1_1 := keep_h hb (by rfl) f1_1; replace f1_2 := keep_h hb (by rfl) f1_2; replace f1_3 := keep_h hb (by rfl) f1_3; replace f0_z := block_of_cell f0_0; replace f1_z := block_of_cell f1_0; replace hb0 := then_h hb0 hb ⟨by rfl, by rfl, by rfl, by rfl⟩; clear hb) | (go_at_call 17; (with_reducible refine (h2.out _).mono ?_); rintro e wn ⟨rfl, hb⟩; replace f0_0 := keep_h hb (by rfl) f0_0; replace f0_1 := keep_h hb (by rfl) f0_1; replace f0_2 := keep_h hb (by rfl) f0_2; replace f0_3 := keep_h hb (by rfl) f0_3; replace f1_0 := keep_h hb (by rfl) f1_0; replace f1_1 := keep_h hb (by rfl) f1_1; replace f1_2 := keep_h hb (by rfl) f1_2; replace f1_3 := keep_h hb (by rfl) f1_3; replace f0_z := block_of_cell f0_0; replace f1_z := block_of_cell f1_0; replace hb0 := then_h hb0 hb ⟨by rfl, by rfl, by rfl, by rfl⟩; clear hb) | (go_at_call 21; (with_reducible refine (h3.out _).mono ?_); rintro e wn ⟨rfl, hb⟩; replace f0_0 := keep_h hb (by rfl) f0_0; replace f0_1 := keep_h hb (by rfl) f0_1; replace f0_2 := keep_h hb (by rfl) f0_2; replace f0_3 := keep_h hb (by rfl) f0_3; replace f1_0 := keep_h hb (by rfl) f1_0; replace f1_1 := keep_h hb (by rfl) f1_1; replace f1_2 := keep_h hb (by rfl) f1_2; replace f1_3 := keep_h hb (by rfl) f1_3; replace f0_z := block_of_cell f0_0; replace f1_z := block_of_cell f1_0; replace hb0 := then_h hb0 hb ⟨by rfl, by rfl, by rfl, by rfl⟩; clear hb))
  replace f0_0 := keep_alloc (.cells #[.bool false, .bool false, .bool true] 4) f0_0
  replace f0_1 := keep_alloc (.cells #[.bool false, .bool false, .bool true] 4) f0_1
  replace f0_2 := keep_alloc (.cells #[.bool false, .bool false, .bool true] 4) f0_2
  replace f0_3 := keep_alloc (.cells #[.bool false, .bool false, .bool true] 4) f0_3
  replace f1_0 := keep_alloc (.cells #[.bool false, .bool false, .bool true] 4) f1_0
  replace f1_1 := keep_alloc (.cells #[.bool false, .bool false, .bool true] 4) f1_1
  replace f1_2 := keep_alloc (.cells #[.bool false, .bool false, .bool true] 4) f1_2
  replace f1_3 := keep_alloc (.cells #[.bool false, .bool false, .bool true] 4) f1_3
  have g0 : (wn.alloc (.cells #[.bool false, .bool false, .bool true] 4)).cell? ⟨wn.heap.size, 0, none⟩ = some (.bool false) := by simp [go_sem]
  have g1 : (wn.alloc (.cells #[.bool false, .bool false, .bool true] 4)).cell? ⟨wn.heap.size, 1, none⟩ = some (.bool false) := by simp [go_sem]
  have g2 : (wn.alloc (.cells #[.bool false, .bool false, .bool true] 4)).cell? ⟨wn.heap.size, 2, none⟩ = some (.bool true) := by simp [go_sem]
  replace hb0 := below_then hb0 (below1 wn (.cells #[.bool false, .bool false, .bool true] 4))
  clear f0_z f1_z
  generalize (wn.alloc (.cells #[.bool false, .bool false, .bool true] 4)) = W4 at *
  have f0_z := block_of_cell f0_0
  have f1_z := block_of_cell f1_0
  go_wp2_with fail
  refine wp_loop_rounds 4 ?_
  rw [rounds_succ]
  go_wp2_with fail
  rw [rounds_succ]
  go_wp2_with fail
  rw [rounds_succ]
  go_wp2_with fail
  rw [rounds_succ]
  go_wp2_with fail
  refine (h4.out _).mono ?_
  rintro e w4 ⟨rfl, hb⟩
  obtain ⟨f0_0, f0_1, f0_2, f0_3⟩ := (Box.mk f0_0 f0_1 f0_2 f0_3).keep hb
  clear f0_z
  have f0_z := block_of_cell f0_0
  obtain ⟨f1_0, f1_1, f1_2, f1_3⟩ := (Box.mk f1_0 f1_1 f1_2 f1_3).keep hb
  clear f1_z
  have f1_z := block_of_cell f1_0
  replace hb0 := below_then hb0 hb
  clear hb
  go_wp2_with fail
  refine (h5.out _).mono ?_
  rintro e w5 ⟨rfl, hb⟩
  obtain ⟨f0_0, f0_1, f0_2, f0_3⟩ := (Box.mk f0_0 f0_1 f0_2 f0_3).keep hb
  clear f0_z
  have f0_z := block_of_cell f0_0
  obtain ⟨f1_0, f1_1, f1_2, f1_3⟩ := (Box.mk f1_0 f1_1 f1_2 f1_3).keep hb
  clear f1_z
  have f1_z := block_of_cell f1_0
  replace hb0 := below_then hb0 hb
  clear hb
  go_wp2_with fail
  go_ret
  exact ⟨rfl, hb0⟩
theorem totals_walk (k i : Int) (s : ByteArray) (b : Bool) (k2 i2 : Int) (s2 : ByteArray) (b2 : Bool) (w : World) (he : Env w) :
    Calls Tryd.prog 7 #[.agg #[.int .u8 k, .int .i64 i, .string s, .bool b], .agg #[.int .u8 k2, .int .i64 i2, .string s2, .bool b2]] w fun e w' => e = .returned (.bool true) ∧ Below w.heap.size w w' := by
  cases h : rightV k i s b with
  | false => exact totals_w0 k i s b k2 i2 s2 b2 w he (Lib.hid h)
  | true =>
  cases h2 : rightV k2 i2 s2 b2 with
  | false => exact totals_w1 k i s b k2 i2 s2 b2 w he (Lib.hid h) (Lib.hid h2)
  | true =>
    have ir := ord_irr k i s b
    have h4 := same_is (k := k) (i := i) (s := s) (b := b) (k2 := k) (i2 := i) (s2 := s) (b2 := b) (r := true) (by rw [ir]; rfl)
    have h5 := less_is (k := k) (i := i) (s := s) (b := b) (k2 := k) (i2 := i) (s2 := s) (b2 := b) (r := false) (by rw [ir]; rfl)
    by_cases x : orderV k i s b k2 i2 s2 b2 < 0
    · exact totals_l k i s b k2 i2 s2 b2 w he (Lib.hid h) (Lib.hid h2) (less_is (decide_eq_true x)) (less_is (decide_eq_false (ord_asym x))) (same_is (beq_eq_false_iff_ne.2 (by omega))) h4 h5
    · by_cases y : orderV k2 i2 s2 b2 k i s b < 0
      · have z : orderV k i s b k2 i2 s2 b2 ≠ 0 := fun e => by have := ord_sym e; omega
        exact totals_g k i s b k2 i2 s2 b2 w he (Lib.hid h) (Lib.hid h2) (less_is (decide_eq_false x)) (less_is (decide_eq_true y)) (same_is (beq_eq_false_iff_ne.2 z)) h4 h5
      · exact totals_e k i s b k2 i2 s2 b2 w he (Lib.hid h) (Lib.hid h2) (less_is (decide_eq_false x)) (less_is (decide_eq_false y)) (same_is (beq_iff_eq.2 (ord_total x y))) h4 h5
end Go.Proofs.YtpkohkhgimmkhaaDoor
