/-
  The walk of CellRights. Conditions: the library's tables are as laid.
-/
import Derived.Test.YtpkohkhgimmkhaaDoorCellRightW
import Derived.Lib.QuietBelow
import Derived.BigQuiet
namespace Go.Proofs.YtpkohkhgimmkhaaDoor
open Go.RowKit Go.Sort
set_option linter.unusedVariables false
set_option linter.unusedSimpArgs false

set_option maxRecDepth 100000 in
set_option maxHeartbeats 1000000 in
theorem rights_s (k i : Int) (s : ByteArray) (b : Bool) (x : Bool) (w : World) (he : Env w) (hl : ¬ (100 < (s.size : Int))) (hA : Hid (∀ w : World, Env w → Calls Tryd.prog 28 #[.agg #[.int .u8 k, .int .i64 i, .string s, .bool b]] w fun e w' => e = .returned (.bool x) ∧ Below w.heap.size w w')) (hB : Hid (∀ w : World, Calls Tryd.prog 13 #[.agg #[.int .u8 k, .int .i64 i, .string s, .bool b]] w fun e w' => e = .returned (.bool x) ∧ Below w.heap.size w w')) :
    Calls Tryd.prog 11 #[.agg #[.int .u8 k, .int .i64 i, .string s, .bool b]] w fun e w' => e = .returned (.bool true) ∧ Below w.heap.size w w' := by
  go_enter Tryd.func11, Tryd.ntmps11
  go_wp2_with fail
  refine (awake_any _ (he.below (below1 _ _))).mono ?_
  rintro e w1 ⟨rfl, hb⟩
  obtain ⟨f0_0, f0_1, f0_2, f0_3⟩ := (Box.new _ _ _ _ _ _).keep hb
  have f0_z := block_of_cell f0_0
  have hb0 := (below_then (below1 _ _) hb)
  clear hb
  go_wp2_with fail
  have heW := he.below hb0
  have mf0_0 := fun d os => cell_regrown f0_0 d os
  have mf0_1 := fun d os => cell_regrown f0_1 d os
  have mf0_2 := fun d os => cell_regrown f0_2 d os
  have mf0_3 := fun d os => cell_regrown f0_3 d os
  have qhA := fun d os => Calls.regrown_of (w := w1) (d := d) (os := os) (hA.out _ (heW.below (below_regrown w1 d os)))
  have qhB := fun d os => Calls.regrown_of (w := w1) (d := d) (os := os) (hB.out _)
  clear heW
  refine wp_region_quiet_below (by kernel_rfl) (by kernel_rfl) ?_
  repeat (go_big_quiet_step (first | with_reducible exact qhA _ _ | with_reducible exact qhB _ _))
  refine wpQuiet_nil ?_
  intro _ hw'
  obtain ⟨⟨dq, osq⟩, hw''⟩ := hw'
  subst hw''
  clear qhA qhB
  replace f0_0 := mf0_0 dq osq
  replace f0_1 := mf0_1 dq osq
  replace f0_2 := mf0_2 dq osq
  replace f0_3 := mf0_3 dq osq
  clear mf0_0 mf0_1 mf0_2 mf0_3
  clear f0_z
  have f0_z := block_of_cell f0_0
  replace hb0 := below_then hb0 (below_regrown w1 dq osq)
  generalize (grow (redrawn w1 dq) osq) = w1n at *
  go_wp2_with fail
  go_ret
  exact ⟨ret_bool2 (by simp), hb0⟩
set_option maxRecDepth 100000 in
set_option maxHeartbeats 1000000 in
theorem rights_l (k i : Int) (s : ByteArray) (b : Bool) (x : Bool) (w : World) (he : Env w) (hl : 100 < (s.size : Int)) (hA : Hid (∀ w : World, Env w → Calls Tryd.prog 28 #[.agg #[.int .u8 k, .int .i64 i, .string (s.extract 0 100), .bool b]] w fun e w' => e = .returned (.bool x) ∧ Below w.heap.size w w')) (hB : Hid (∀ w : World, Calls Tryd.prog 13 #[.agg #[.int .u8 k, .int .i64 i, .string (s.extract 0 100), .bool b]] w fun e w' => e = .returned (.bool x) ∧ Below w.heap.size w w')) :
    Calls Tryd.prog 11 #[.agg #[.int .u8 k, .int .i64 i, .string s, .bool b]] w fun e w' => e = .returned (.bool true) ∧ Below w.heap.size w w' := by
  go_enter Tryd.func11, Tryd.ntmps11
  go_wp2_with fail
  refine (awake_any _ (he.below (below1 _ _))).mono ?_
  rintro e w1 ⟨rfl, hb⟩
  have z2 := (bcell hb).2 w.heap.size 2 (by simp)
  simp [go_sem] at z2
  obtain ⟨f0_0, f0_1, f0_2, f0_3⟩ := (Box.new _ _ _ _ _ _).keep hb
  have f0_z := block_of_cell f0_0
  have hb0 := (below_then (below1 _ _) hb)
  clear hb
  go_wp2_with fail
  have g0 : (w1.setCell ⟨w.heap.size, 2, none⟩ (.string (s.extract 0 100))).cell? ⟨w.heap.size, 0, none⟩ = some (.int .u8 k) := by simp [go_sem, f0_0]
  have g1 : (w1.setCell ⟨w.heap.size, 2, none⟩ (.string (s.extract 0 100))).cell? ⟨w.heap.size, 1, none⟩ = some (.int .i64 i) := by simp [go_sem, f0_1]
  have g2 : (w1.setCell ⟨w.heap.size, 2, none⟩ (.string (s.extract 0 100))).cell? ⟨w.heap.size, 2, none⟩ = some (.string (s.extract 0 100)) := World.cell?_setCell_same _ _ _ f0_2
  have g3 : (w1.setCell ⟨w.heap.size, 2, none⟩ (.string (s.extract 0 100))).cell? ⟨w.heap.size, 3, none⟩ = some (.bool b) := by simp [go_sem, f0_3]
  replace hb0 := Below.setCell (p := ⟨w.heap.size, 2, none⟩) hb0 (Nat.le_refl _) (.string (s.extract 0 100))
  clear f0_0 f0_1 f0_2 f0_3 f0_z z2
  generalize (w1.setCell ⟨w.heap.size, 2, none⟩ (.string (s.extract 0 100))) = w2 at *
  clear w1
  have f0_0 := g0
  have f0_1 := g1
  have f0_2 := g2
  have f0_3 := g3
  have f0_z := block_of_cell f0_0
  clear g0 g1 g2 g3
  have heW := he.below hb0
  have mf0_0 := fun d os => cell_regrown f0_0 d os
  have mf0_1 := fun d os => cell_regrown f0_1 d os
  have mf0_2 := fun d os => cell_regrown f0_2 d os
  have mf0_3 := fun d os => cell_regrown f0_3 d os
  have qhA := fun d os => Calls.regrown_of (w := w2) (d := d) (os := os) (hA.out _ (heW.below (below_regrown w2 d os)))
  have qhB := fun d os => Calls.regrown_of (w := w2) (d := d) (os := os) (hB.out _)
  clear heW
  refine wp_region_quiet_below (by kernel_rfl) (by kernel_rfl) ?_
  repeat (go_big_quiet_step (first | with_reducible exact qhA _ _ | with_reducible exact qhB _ _))
  refine wpQuiet_nil ?_
  intro _ hw'
  obtain ⟨⟨dq, osq⟩, hw''⟩ := hw'
  subst hw''
  clear qhA qhB
  replace f0_0 := mf0_0 dq osq
  replace f0_1 := mf0_1 dq osq
  replace f0_2 := mf0_2 dq osq
  replace f0_3 := mf0_3 dq osq
  clear mf0_0 mf0_1 mf0_2 mf0_3
  clear f0_z
  have f0_z := block_of_cell f0_0
  replace hb0 := below_then hb0 (below_regrown w2 dq osq)
  generalize (grow (redrawn w2 dq) osq) = w2n at *
  go_wp2_with fail
  go_ret
  exact ⟨ret_bool2 (by simp), hb0⟩
theorem rights_walk (k i : Int) (s : ByteArray) (b : Bool) (w : World) (he : Env w) :
    Calls Tryd.prog 11 #[.agg #[.int .u8 k, .int .i64 i, .string s, .bool b]] w fun e w' => e = .returned (.bool true) ∧ Below w.heap.size w w' := by
  by_cases hl : s.size ≤ 100
  · exact rights_s k i s b _ w he (by omega) (Lib.hid (fun w he => cright_any k i s b w he hl)) (Lib.hid (ref_right k i s b))
  · exact rights_l k i s b _ w he (by omega) (Lib.hid (fun w he => cright_any k i _ b w he (by rw [ByteArray.size_extract]; omega))) (Lib.hid (ref_right k i _ b))
end Go.Proofs.YtpkohkhgimmkhaaDoor
