/-
  The contract of the statements' own 'awake': the document's examples hold: it answers true, and makes new blocks alone. No conditions.
-/
import Derived.Test.YtgfhkfmankcheaaDoorRead
namespace Go.Proofs.YtgfhkfmankcheaaDoor
open Go.RowKit
set_option linter.unusedVariables false
set_option linter.unusedSimpArgs false

theorem ret_bool {a b : Bool} (h : a = b) : Ending.returned (.bool a) = .returned (.bool b) := by rw [h]
theorem awake_any (w : World) :
    Calls Tryd.prog 4 #[] w fun e w' => e = .returned (.bool true) ∧ Below w.heap.size w w' := by
  go_enter Tryd.func4, Tryd.ntmps4
  go_wp2_with fail
  refine (add_over 9223372036854775807 1 _ ⟨by omega, by omega⟩ ⟨by omega, by omega⟩ (by decide)).mono ?_
  rintro e w' ⟨rfl, rfl⟩
  go_wp2_with fail
  refine (div_any (-7) 2 _ ⟨by omega, by omega⟩ ⟨by omega, by omega⟩).mono ?_
  rw [show divV (-7) 2 = -3 from by decide, show divE (-7) 2 = 0 from by decide]
  rintro e w' ⟨rfl, rfl⟩
  go_wp2_with fail
  refine (mod_any (-7) 2 _ ⟨by omega, by omega⟩ ⟨by omega, by omega⟩).mono ?_
  rw [show modV (-7) 2 = -1 from by decide, show modE 2 = 0 from by decide]
  rintro e w' ⟨rfl, rfl⟩
  go_wp2_with fail
  have h7 : readV [48, 48, 55] = 7 := by decide
  have h8 : readE [48, 48, 55] = 0 := by decide
  refine (read_any ⟨#[48, 48, 55]⟩ _ (by decide)).mono ?_
  rw [show (⟨#[48, 48, 55]⟩ : ByteArray).data.toList = [48, 48, 55] from rfl, h7, h8]
  clear h7 h8
  rintro e w' ⟨rfl, hb⟩
  go_wp2_with fail
  go_ret
  exact ⟨rfl, hb⟩
end Go.Proofs.YtgfhkfmankcheaaDoor
