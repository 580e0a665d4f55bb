/-
  lapidaryref01.Read in the terms of the printed texts, from the hand-made contract. Conditions: the text is no longer than 2^63 - 1.
-/
import Derived.Test.YtfbikpddpdkllaaDoorLexKnown
import Derived.Test.YtfbikpddpdkllaaDoorLexReads
namespace Go.Proofs.YtfbikpddpdkllaaDoor.Lx
open Go.RowKit Go.Proofs.YtfbikpddpdkllaaDoorW.PrintWords
set_option linter.unusedVariables false
set_option linter.unusedSimpArgs false

def lapidaryref01_Read.f (a0 : ByteArray) : Option (Int × Int) := if a0.size ≤ 9223372036854775807 then some (readV a0.data.toList, readE a0.data.toList) else none
theorem lapidaryref01_Read.calls (a0 : ByteArray) (r1 : Int) (r2 : Int) (w : World) (h : lapidaryref01_Read.f a0 = some (r1, r2)) :
    Calls Tryd.prog 21 #[.string a0] w fun e w' => e = .returned (.tuple #[.int .i64 r1, .int .i64 r2]) ∧ Drawn0 w w' := by
  unfold lapidaryref01_Read.f at h
  by_cases hs : a0.size ≤ 9223372036854775807
  · rw [if_pos hs] at h
    have e := Option.some.inj h
    obtain ⟨rfl, rfl⟩ := Prod.mk.inj e
    exact (ref_read a0 w hs).mono fun e w' ⟨a, b⟩ => ⟨a, b ▸ Drawn0.refl _⟩
  · rw [if_neg hs] at h; cases h
end Go.Proofs.YtfbikpddpdkllaaDoor.Lx
