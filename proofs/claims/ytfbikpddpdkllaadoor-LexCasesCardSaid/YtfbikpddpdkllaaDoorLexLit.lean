/-
  calc.Dec, and cell.Literal and the reference's Literal of a text, in the terms of the printed texts. Conditions: a number is int64; a text is no longer than 100 bytes; the library's tables are as laid.
-/
import Derived.Test.YtfbikpddpdkllaaDoorLexKnown
import Derived.Test.YtfbikpddpdkllaaDoorLexLitAM
namespace Go.Proofs.YtfbikpddpdkllaaDoor.Lx
open Go.RowKit Go.Proofs.YtfbikpddpdkllaaDoorW.PrintWords
set_option linter.unusedVariables false
set_option linter.unusedSimpArgs false

def calc_Dec.f (a0 : Int) : Option ByteArray := if -9223372036854775808 ≤ a0 ∧ a0 ≤ 9223372036854775807 then some (decS a0) else none
theorem calc_Dec.calls (a0 : Int) (r : ByteArray) (w : World) (hE : Env w) (h : calc_Dec.f a0 = some r) :
    Calls Tryd.prog 25 #[.int .i64 a0] w fun e w' => e = .returned (.string r) ∧ Below w.heap.size w w' := by
  unfold calc_Dec.f at h
  by_cases hs : -9223372036854775808 ≤ a0 ∧ a0 ≤ 9223372036854775807
  · rw [if_pos hs] at h
    obtain rfl := Option.some.inj h
    exact dec_any a0 w hs hE.1
  · rw [if_neg hs] at h; cases h
def lapidaryref01_Dec.f (a0 : Int) : Option ByteArray := if -9223372036854775808 ≤ a0 ∧ a0 ≤ 9223372036854775807 then some (decS a0) else none
theorem lapidaryref01_Dec.calls (a0 : Int) (r : ByteArray) (w : World) (h : lapidaryref01_Dec.f a0 = some r) :
    Calls Tryd.prog 28 #[.int .i64 a0] w fun e w' => e = .returned (.string r) ∧ Drawn0 w w' := by
  unfold lapidaryref01_Dec.f at h
  by_cases hs : -9223372036854775808 ≤ a0 ∧ a0 ≤ 9223372036854775807
  · rw [if_pos hs] at h
    obtain rfl := Option.some.inj h
    exact (ref_dec a0 w hs).mono fun e w' ⟨a, b⟩ => ⟨a, b ▸ Drawn0.refl _⟩
  · rw [if_neg hs] at h; cases h
def quoted (k : Int) (s : ByteArray) : Option ByteArray := if k = 2 ∧ s.size ≤ 100 then some ⟨(quoteL s.data.toList).toArray⟩ else none
def cell_Literal.f (a0 a1 : Int) (a2 : ByteArray) (a3 : Bool) : Option ByteArray := quoted a0 a2
theorem cell_Literal.calls (a0 a1 : Int) (a2 : ByteArray) (a3 : Bool) (r : ByteArray) (w : World) (hE : Env w) (h : cell_Literal.f a0 a1 a2 a3 = some r) :
    Calls Tryd.prog 26 #[.agg #[.int .u8 a0, .int .i64 a1, .string a2, .bool a3]] w fun e w' => e = .returned (.string r) ∧ Below w.heap.size w w' := by
  unfold cell_Literal.f quoted at h
  by_cases hs : a0 = 2 ∧ a2.size ≤ 100
  · rw [if_pos hs] at h
    obtain rfl := Option.some.inj h
    obtain ⟨rfl, h1⟩ := hs
    exact lit_s a1 a2 a3 w h1 hE
  · rw [if_neg hs] at h; cases h
def lapidaryref02_Literal.f (a0 a1 : Int) (a2 : ByteArray) (a3 : Bool) : Option ByteArray := quoted a0 a2
theorem lapidaryref02_Literal.calls (a0 a1 : Int) (a2 : ByteArray) (a3 : Bool) (r : ByteArray) (w : World) (h : lapidaryref02_Literal.f a0 a1 a2 a3 = some r) :
    Calls Tryd.prog 29 #[.agg #[.int .u8 a0, .int .i64 a1, .string a2, .bool a3]] w fun e w' => e = .returned (.string r) ∧ Below w.heap.size w w' := by
  unfold lapidaryref02_Literal.f quoted at h
  by_cases hs : a0 = 2 ∧ a2.size ≤ 100
  · rw [if_pos hs] at h
    obtain rfl := Option.some.inj h
    obtain ⟨rfl, h1⟩ := hs
    exact rlit_s a1 a2 a3 w h1
  · rw [if_neg hs] at h; cases h
end Go.Proofs.YtfbikpddpdkllaaDoor.Lx
