/-
  What the lexer's laws ask of the world: three tables and one number of the library are as laid; whatever only makes memory leaves them so. No conditions.
-/
import Derived.Test.YtfbikpddpdkllaaDoorDec
namespace Go.Proofs.YtfbikpddpdkllaaDoor
open Go.RowKit Go.Sort
set_option linter.unusedVariables false
set_option linter.unusedSimpArgs false

/-- the library's tables are as laid, its number is some number -/
def Env (w : World) : Prop := Pow w ∧ (∃ m, w.cell? ⟨2, 0, none⟩ = some (.int .i64 m)) ∧ Lib.Utf8Tabs 0 1 w
theorem gMax : Tryd.prog.globalNamed "internal/bytealg.MaxLen" = some 2 := by kernel_rfl
theorem block_of_cell {w : World} {b o : Nat} {x : Value} (h : w.cell? ⟨b, o, none⟩ = some x) : b < w.heap.size := by
  rcases Nat.lt_or_ge b w.heap.size with h' | h'
  · exact h'
  · rw [World.cell?, Array.getElem?_eq_none h'] at h
    cases h
theorem Env.below {w w' : World} (h : Env w) (hb : Below w.heap.size w w') : Env w' := by
  obtain ⟨h1, ⟨m, hm⟩, h3, h4⟩ := h
  refine ⟨h1.below hb, ⟨m, ?_⟩, ?_, ?_⟩
  · rw [hb.cell (p := ⟨2, 0, none⟩) (block_of_cell hm)]; exact hm
  · intro c hc
    rw [hb.cell (p := ⟨0, c, none⟩) (block_of_cell (h3 c hc))]; exact h3 c hc
  · intro i hi
    rw [hb.cell (p := ⟨1, 2 * i, none⟩) (block_of_cell (h4 i hi).1), hb.cell (p := ⟨1, 2 * i + 1, none⟩) (block_of_cell (h4 i hi).2)]; exact h4 i hi

/-- the two tables of unicode/utf8 alone -/
def UEnv (w : World) : Prop := Lib.Utf8Tabs 0 1 w
theorem Env.u {w : World} (h : Env w) : UEnv w := h.2.2
theorem UEnv.below {w w' : World} (h : UEnv w) (hb : Below w.heap.size w w') : UEnv w' := by
  obtain ⟨h3, h4⟩ := h
  refine ⟨?_, ?_⟩
  · intro c hc
    rw [hb.cell (p := ⟨0, c, none⟩) (block_of_cell (h3 c hc))]; exact h3 c hc
  · intro i hi
    rw [hb.cell (p := ⟨1, 2 * i, none⟩) (block_of_cell (h4 i hi).1), hb.cell (p := ⟨1, 2 * i + 1, none⟩) (block_of_cell (h4 i hi).2)]; exact h4 i hi
end Go.Proofs.YtfbikpddpdkllaaDoor
