/-
  lapidarylaw02.awake: true. Conditions: the library's tables are as laid.
-/
import Derived.Test.YtpkohkhgimmkhaaDoorCellEnv
import Derived.Test.YtpkohkhgimmkhaaDoorCellLogic
import Derived.Test.YtpkohkhgimmkhaaDoorCellRefLogic
import Derived.Test.YtpkohkhgimmkhaaDoorCellWhole
namespace Go.Proofs.YtpkohkhgimmkhaaDoor
open Go.RowKit Go.Sort
set_option linter.unusedVariables false
set_option linter.unusedSimpArgs false

/-! ### the boxes of values, behind a call -/
theorem keep {W w1 : World} {b o : Nat} {x : Value} (hb : Below W.heap.size W w1) (h : W.cell? ⟨b, o, none⟩ = some x) : w1.cell? ⟨b, o, none⟩ = some x := (hb.cell (p := ⟨b, o, none⟩) (block_of_cell h)).trans h
theorem keep_alloc {W : World} {b o : Nat} {x : Value} (q : Obj) (h : W.cell? ⟨b, o, none⟩ = some x) : (W.alloc q).cell? ⟨b, o, none⟩ = some x := keep (below1 W q) h
/-- the four cells of a box -/
structure Box (W : World) (b : Nat) (x0 x1 x2 x3 : Value) : Prop where
  c0 : W.cell? ⟨b, 0, none⟩ = some x0
  c1 : W.cell? ⟨b, 1, none⟩ = some x1
  c2 : W.cell? ⟨b, 2, none⟩ = some x2
  c3 : W.cell? ⟨b, 3, none⟩ = some x3
theorem Box.keep {W w1 : World} {b : Nat} {x0 x1 x2 x3 : Value} (h : Box W b x0 x1 x2 x3) (hb : Below W.heap.size W w1) : Box w1 b x0 x1 x2 x3 := ⟨Go.Proofs.YtpkohkhgimmkhaaDoor.keep hb h.c0, Go.Proofs.YtpkohkhgimmkhaaDoor.keep hb h.c1, Go.Proofs.YtpkohkhgimmkhaaDoor.keep hb h.c2, Go.Proofs.YtpkohkhgimmkhaaDoor.keep hb h.c3⟩
theorem Box.alloc {W : World} {b : Nat} {x0 x1 x2 x3 : Value} (h : Box W b x0 x1 x2 x3) (q : Obj) : Box (W.alloc q) b x0 x1 x2 x3 := h.keep (below1 W q)
theorem Box.lt {W : World} {b : Nat} {x0 x1 x2 x3 : Value} (h : Box W b x0 x1 x2 x3) : b < W.heap.size := block_of_cell h.c0
theorem Box.new (W : World) (x0 x1 x2 x3 : Value) (t : TypeId) : Box (W.alloc (.cells #[x0, x1, x2, x3] t)) W.heap.size x0 x1 x2 x3 := by
  refine ⟨?_, ?_, ?_, ?_⟩ <;> simp [go_sem]
theorem awake_and (w : World) : Calls Tryd.prog 22 #[.agg #[.int .u8 0, .int .i64 0, .string ⟨#[]⟩, .bool false], .agg #[.int .u8 3, .int .i64 0, .string ⟨#[]⟩, .bool false]] w fun e w' => e = .returned (.tuple #[.agg #[.int .u8 3, .int .i64 0, .string ⟨#[]⟩, .bool false], .int .i64 0]) ∧ Below w.heap.size w w' := and_any 0 0 ⟨#[]⟩ false 3 0 ⟨#[]⟩ false w
theorem awake_or (w : World) : Calls Tryd.prog 25 #[.agg #[.int .u8 0, .int .i64 0, .string ⟨#[]⟩, .bool false], .agg #[.int .u8 3, .int .i64 0, .string ⟨#[]⟩, .bool false]] w fun e w' => e = .returned (.tuple #[.agg #[.int .u8 0, .int .i64 0, .string ⟨#[]⟩, .bool false], .int .i64 0]) ∧ Below w.heap.size w w' := or_any 0 0 ⟨#[]⟩ false 3 0 ⟨#[]⟩ false w
theorem awake_lit (w : World) (he : Env w) : Calls Tryd.prog 14 #[.agg #[.int .u8 2, .int .i64 0, .string ⟨#[105, 116, 39, 115]⟩, .bool false]] w fun e w' => e = .returned (.string ⟨#[39, 105, 116, 39, 39, 115, 39]⟩) ∧ Below w.heap.size w w' := lit_s 0 ⟨#[105, 116, 39, 115]⟩ false w (by decide) he
theorem awake_any (w : World) (he : Env w) :
    Calls Tryd.prog 12 #[] w fun e w' => e = .returned (.bool true) ∧ Below w.heap.size w w' := by
  go_enter Tryd.func12, Tryd.ntmps12
  go_wp2_with fail
  refine (awake_and _).mono ?_
  rintro e w1 ⟨rfl, hb⟩
  obtain ⟨f0_0, f0_1, f0_2, f0_3⟩ := (Box.new _ _ _ _ _ _).keep hb
  have f0_z := block_of_cell f0_0
  have hb0 := (below_then (below1 _ _) hb)
  clear hb
  go_wp2_with fail
  refine (awake_or _).mono ?_
  rintro e w2 ⟨rfl, hb⟩
  obtain ⟨f0_0, f0_1, f0_2, f0_3⟩ := (Box.alloc (Box.mk f0_0 f0_1 f0_2 f0_3) _).keep hb
  clear f0_z
  have f0_z := block_of_cell f0_0
  obtain ⟨f1_0, f1_1, f1_2, f1_3⟩ := (Box.new _ _ _ _ _ _).keep hb
  have f1_z := block_of_cell f1_0
  replace hb0 := below_then hb0 (below_then (below1 _ _) hb)
  clear hb
  go_wp2_with fail
  refine (comp_d 1 1 ⟨#[]⟩ false 2 0 ⟨#[120]⟩ false _ rfl rfl rfl).mono ?_
  rintro e w3 ⟨rfl, hb⟩
  obtain ⟨f0_0, f0_1, f0_2, f0_3⟩ := (Box.alloc (Box.mk f0_0 f0_1 f0_2 f0_3) _).keep hb
  clear f0_z
  have f0_z := block_of_cell f0_0
  obtain ⟨f1_0, f1_1, f1_2, f1_3⟩ := (Box.alloc (Box.mk f1_0 f1_1 f1_2 f1_3) _).keep hb
  clear f1_z
  have f1_z := block_of_cell f1_0
  obtain ⟨f2_0, f2_1, f2_2, f2_3⟩ := (Box.new _ _ _ _ _ _).keep hb
  have f2_z := block_of_cell f2_0
  replace hb0 := below_then hb0 (below_then (below1 _ _) hb)
  clear hb
  go_wp2_with fail
  refine (awake_lit _ (he.below hb0)).mono ?_
  rintro e w4 ⟨rfl, hb⟩
  obtain ⟨f0_0, f0_1, f0_2, f0_3⟩ := (Box.mk f0_0 f0_1 f0_2 f0_3).keep hb
  clear f0_z
  have f0_z := block_of_cell f0_0
  obtain ⟨f1_0, f1_1, f1_2, f1_3⟩ := (Box.mk f1_0 f1_1 f1_2 f1_3).keep hb
  clear f1_z
  have f1_z := block_of_cell f1_0
  obtain ⟨f2_0, f2_1, f2_2, f2_3⟩ := (Box.mk f2_0 f2_1 f2_2 f2_3).keep hb
  clear f2_z
  have f2_z := block_of_cell f2_0
  replace hb0 := below_then hb0 hb
  clear hb
  go_wp2_with fail
  go_ret
  exact ⟨rfl, hb0⟩
end Go.Proofs.YtpkohkhgimmkhaaDoor
