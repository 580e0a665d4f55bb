/-
  The walk of CalcReads: the law answers true, and makes new blocks alone. Conditions: the text is no longer than 2^63 - 1, the number is int64, the library's table of powers of ten holds what its initialiser lays.
-/
import Derived.Test.YtgfhkfmankcheaaDoorRefRead
import Derived.Test.YtgfhkfmankcheaaDoorReadLaw
namespace Go.Proofs.YtgfhkfmankcheaaDoor
open Go.RowKit
set_option linter.unusedVariables false
set_option linter.unusedSimpArgs false

theorem readE_rng (l : List UInt8) : 0 ≤ readE l ∧ readE l ≤ 9 := by unfold readE err; repeat' split <;> omega
theorem decS_data (n : Int) : (decS n).data.toList = Lib.itoa n := by unfold decS; simp
theorem below_then {w w1 w2 : World} (h : Below w.heap.size w w1) (k : Below w1.heap.size w1 w2) : Below w.heap.size w w2 := h.trans (k.mono h.size)
theorem reads_walk (s : ByteArray) (n : Int) (w : World) (hs : s.size ≤ 9223372036854775807) (hn : R n) (ht : Pow w) :
    Calls Tryd.prog 3 #[.string s, .int .i64 n] w fun e w' => e = .returned (.bool true) ∧ Below w.heap.size w w' := by
  obtain ⟨e1, e2⟩ := readE_rng s.data.toList
  have hz := decS_size n hn
  go_enter Tryd.func3, Tryd.ntmps3
  go_wp2_with fail
  refine (awake_any _).mono ?_
  rintro e w1 ⟨rfl, hb1⟩
  have ht1 := ht.below hb1
  go_wp2_with fail
  refine (read_any s _ hs).mono ?_
  rintro e w2 ⟨rfl, hb2⟩
  have ht2 := ht1.below hb2
  go_wp2_with fail
  refine (ref_read s _ hs).mono ?_
  rintro e w' ⟨rfl, rfl⟩
  go_wp2_with fail
  refine (dec_any n _ hn ht2).mono ?_
  rintro e w3 ⟨rfl, hb3⟩
  go_wp2_with fail
  refine (read_any (decS n) _ (by omega)).mono ?_
  rintro e w4 ⟨rfl, hb4⟩
  rw [decS_data]
  by_cases h0 : 0 ≤ n
  · obtain ⟨r1, r2⟩ := read_dec_pos n h0 hn.2
    rw [r1, r2]
    clear r1 r2
    go_wp2_with fail
    refine (ref_dec n _ hn).mono ?_
    rintro e w' ⟨rfl, rfl⟩
    go_wp2_with fail
    go_ret
    exact ⟨rfl, below_then (below_then (below_then hb1 hb2) hb3) hb4⟩
  · obtain ⟨r1, r2⟩ := read_dec_neg n (by omega)
    rw [r1, r2]
    clear r1 r2
    go_wp2_with fail
    refine (ref_dec n _ hn).mono ?_
    rintro e w' ⟨rfl, rfl⟩
    go_wp2_with fail
    go_ret
    exact ⟨rfl, below_then (below_then (below_then hb1 hb2) hb3) hb4⟩
end Go.Proofs.YtgfhkfmankcheaaDoor
