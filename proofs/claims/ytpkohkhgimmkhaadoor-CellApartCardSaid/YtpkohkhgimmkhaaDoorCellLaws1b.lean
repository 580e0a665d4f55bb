/-
  CellTruths: the reference's And, Or, Not answer as package cell's do, at right values; the law's walk. Conditions: the library's tables are as laid.
-/
import Derived.Test.YtpkohkhgimmkhaaDoorCellLaws1
namespace Go.Proofs.YtpkohkhgimmkhaaDoor
open Go.RowKit Go.Sort
set_option linter.unusedVariables false
set_option linter.unusedSimpArgs false

def four (k : Int) : Prop := k = 0 ∨ k = 1 ∨ k = 2 ∨ k = 3
theorem four_of {k i : Int} {s : ByteArray} {b : Bool} (h : rightV k i s b = true) : four k := by
  rcases right_cases h with ⟨h, _⟩ | ⟨h, _⟩ | ⟨h, _⟩ | ⟨h, _⟩
  · exact .inl h
  · exact .inr (.inl h)
  · exact .inr (.inr (.inl h))
  · exact .inr (.inr (.inr h))
theorem tri_four (k : Int) (b : Bool) (h : four k) : (tri k b < 0 ∧ tB k = false) ∨ (0 ≤ tri k b ∧ tB k = true) := by
  rcases h with rfl | rfl | rfl | rfl <;> cases b <;> decide
theorem tri_and (k : Int) (b : Bool) (k2 : Int) (b2 : Bool) (h : four k) (h2 : four k2) :
    ((tB k && tB k2) = false → joinK k b k2 b2 false = 0 ∧ joinB k b k2 b2 false = false ∧ joinE k k2 = 8 ∧ joinK k b k2 b2 true = 0 ∧ joinB k b k2 b2 true = false) ∧
    ((tB k && tB k2) = true → joinE k k2 = 0 ∧
      (tri k b ≤ tri k2 b2 → backK (tri k b) = joinK k b k2 b2 false ∧ backB (tri k b) = joinB k b k2 b2 false) ∧ (tri k2 b2 < tri k b → backK (tri k2 b2) = joinK k b k2 b2 false ∧ backB (tri k2 b2) = joinB k b k2 b2 false) ∧
      (tri k b < tri k2 b2 → backK (tri k2 b2) = joinK k b k2 b2 true ∧ backB (tri k2 b2) = joinB k b k2 b2 true) ∧ (tri k2 b2 ≤ tri k b → backK (tri k b) = joinK k b k2 b2 true ∧ backB (tri k b) = joinB k b k2 b2 true)) := by
  rcases h with rfl | rfl | rfl | rfl <;> rcases h2 with rfl | rfl | rfl | rfl <;> cases b <;> cases b2 <;> decide
theorem tri_not (k : Int) (b : Bool) (h : four k) : (tB k = false → notK k = 0 ∧ notB k b = false ∧ notE k = 8) ∧ (tB k = true → notE k = 0 ∧ backK (2 - tri k b) = notK k ∧ backB (2 - tri k b) = notB k b) := by
  rcases h with rfl | rfl | rfl | rfl <;> cases b <;> decide

theorem ref_and_same (k i : Int) (s : ByteArray) (b : Bool) (k2 i2 : Int) (s2 : ByteArray) (b2 : Bool) (h : four k) (h2 : four k2) (w : World) :
    Calls Tryd.prog 24 #[.agg #[.int .u8 k, .int .i64 i, .string s, .bool b], .agg #[.int .u8 k2, .int .i64 i2, .string s2, .bool b2]] w fun e w' => e = .returned (.tuple #[.agg #[.int .u8 (joinK k b k2 b2 false), .int .i64 0, .string ⟨#[]⟩, .bool (joinB k b k2 b2 false)], .int .i64 (joinE k k2)]) ∧ Below w.heap.size w w' := by
  obtain ⟨t1, t2⟩ := tri_and k b k2 b2 h h2
  rcases tri_four k b h with ⟨c, ht⟩ | ⟨c, ht⟩
  · obtain ⟨e1, e2, e3, _, _⟩ := t1 (by rw [ht]; rfl)
    rw [e1, e2, e3]
    exact ref_and_a k i s b k2 i2 s2 b2 w c
  rcases tri_four k2 b2 h2 with ⟨c2, ht2⟩ | ⟨c2, ht2⟩
  · obtain ⟨e1, e2, e3, _, _⟩ := t1 (by rw [ht, ht2]; rfl)
    rw [e1, e2, e3]
    exact ref_and_b k i s b k2 i2 s2 b2 w c c2
  obtain ⟨e0, e1, e2, _, _⟩ := t2 (by rw [ht, ht2]; rfl)
  rw [e0]
  by_cases hx : tri k b ≤ tri k2 b2
  · rw [← (e1 hx).1, ← (e1 hx).2]
    exact ref_and_c k i s b k2 i2 s2 b2 w c c2 hx
  · rw [← (e2 (by omega)).1, ← (e2 (by omega)).2]
    exact ref_and_d k i s b k2 i2 s2 b2 w c c2 (by omega)
theorem ref_or_same (k i : Int) (s : ByteArray) (b : Bool) (k2 i2 : Int) (s2 : ByteArray) (b2 : Bool) (h : four k) (h2 : four k2) (w : World) :
    Calls Tryd.prog 26 #[.agg #[.int .u8 k, .int .i64 i, .string s, .bool b], .agg #[.int .u8 k2, .int .i64 i2, .string s2, .bool b2]] w fun e w' => e = .returned (.tuple #[.agg #[.int .u8 (joinK k b k2 b2 true), .int .i64 0, .string ⟨#[]⟩, .bool (joinB k b k2 b2 true)], .int .i64 (joinE k k2)]) ∧ Below w.heap.size w w' := by
  obtain ⟨t1, t2⟩ := tri_and k b k2 b2 h h2
  rcases tri_four k b h with ⟨c, ht⟩ | ⟨c, ht⟩
  · obtain ⟨_, _, e3, e1, e2⟩ := t1 (by rw [ht]; rfl)
    rw [e1, e2, e3]
    exact ref_or_a k i s b k2 i2 s2 b2 w c
  rcases tri_four k2 b2 h2 with ⟨c2, ht2⟩ | ⟨c2, ht2⟩
  · obtain ⟨_, _, e3, e1, e2⟩ := t1 (by rw [ht, ht2]; rfl)
    rw [e1, e2, e3]
    exact ref_or_b k i s b k2 i2 s2 b2 w c c2
  obtain ⟨e0, _, _, e1, e2⟩ := t2 (by rw [ht, ht2]; rfl)
  rw [e0]
  by_cases hx : tri k b < tri k2 b2
  · rw [← (e1 hx).1, ← (e1 hx).2]
    exact ref_or_c k i s b k2 i2 s2 b2 w c c2 hx
  · rw [← (e2 (by omega)).1, ← (e2 (by omega)).2]
    exact ref_or_d k i s b k2 i2 s2 b2 w c c2 (by omega)
theorem ref_not_same (k i : Int) (s : ByteArray) (b : Bool) (h : four k) (w : World) :
    Calls Tryd.prog 27 #[.agg #[.int .u8 k, .int .i64 i, .string s, .bool b]] w fun e w' => e = .returned (.tuple #[.agg #[.int .u8 (notK k), .int .i64 0, .string ⟨#[]⟩, .bool (notB k b)], .int .i64 (notE k)]) ∧ Below w.heap.size w w' := by
  obtain ⟨t1, t2⟩ := tri_not k b h
  rcases tri_four k b h with ⟨c, ht⟩ | ⟨c, ht⟩
  · obtain ⟨e1, e2, e3⟩ := t1 ht
    rw [e1, e2, e3]
    exact ref_not_a k i s b w c
  · obtain ⟨e1, e2, e3⟩ := t2 ht
    rw [e1, ← e2, ← e3]
    exact ref_not_c k i s b w c
theorem truths_walk (k i : Int) (s : ByteArray) (b : Bool) (k2 i2 : Int) (s2 : ByteArray) (b2 : Bool) (w : World) (he : Env w) :
    Calls Tryd.prog 8 #[.agg #[.int .u8 k, .int .i64 i, .string s, .bool b], .agg #[.int .u8 k2, .int .i64 i2, .string s2, .bool b2]] w fun e w' => e = .returned (.bool true) ∧ Below w.heap.size w w' := by
  cases h : rightV k i s b with
  | false => exact truths_w k i s b k2 i2 s2 b2 w he (Lib.hid h)
  | true =>
    cases h2 : rightV k2 i2 s2 b2 with
    | false => exact truths_w2 k i s b k2 i2 s2 b2 w he (Lib.hid h) (Lib.hid h2)
    | true =>
      exact truths_ok k i s b k2 i2 s2 b2 _ _ _ _ _ _ _ _ _ w he (Lib.hid h) (Lib.hid h2) (Lib.hid (and_any k i s b k2 i2 s2 b2)) (Lib.hid (ref_and_same k i s b k2 i2 s2 b2 (four_of h) (four_of h2)))
        (Lib.hid (or_any k i s b k2 i2 s2 b2)) (Lib.hid (ref_or_same k i s b k2 i2 s2 b2 (four_of h) (four_of h2))) (Lib.hid (not_any k i s b)) (Lib.hid (ref_not_same k i s b (four_of h)))
end Go.Proofs.YtpkohkhgimmkhaaDoor
