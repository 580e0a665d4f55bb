/-
  Contracts of the reference's three-valued logic (lapidaryref02): three, Truth, back, And, Or, Not. Conditions: the kind is a byte.
-/
import Derived.Test.YtpkohkhgimmkhaaDoorCellLogic
import Derived.Deep.RegionWith
namespace Go.Proofs.YtpkohkhgimmkhaaDoor
open Go.RowKit
set_option linter.unusedVariables false
set_option linter.unusedSimpArgs false

theorem below_any {w w1 w2 : World} (h : Below w.heap.size w w1) (k : Below w1.drew.heap.size w1.drew w2) : Below w.heap.size w w2 := below_then h.drew k
theorem ret_int {k : IntKind} {a b : Int} (h : a = b) : Ending.returned (.int k a) = .returned (.int k b) := by rw [h]
/-- 0 false, 1 unknown, 2 true; -1: no truth -/
def tri (k : Int) (b : Bool) : Int := if k = 0 then 1 else if k = 3 then (if b = true then 2 else 0) else -1
theorem tri_rng (k : Int) (b : Bool) : -1 ≤ tri k b ∧ tri k b ≤ 2 := by unfold tri; repeat' split <;> omega
theorem three_0 (i : Int) (s : ByteArray) (b : Bool) (w : World)  :
    Calls Tryd.prog 39 #[.agg #[.int .u8 0, .int .i64 i, .string s, .bool b]] w fun e w' => e = .returned (.int .i64 (1)) ∧ Below w.heap.size w w' := by
  go_enter Tryd.func39, Tryd.ntmps39
  go_wp2_with fail
  go_ret
  exact ⟨rfl, below1 _ _⟩
theorem three_t (i : Int) (s : ByteArray) (w : World)  :
    Calls Tryd.prog 39 #[.agg #[.int .u8 3, .int .i64 i, .string s, .bool true]] w fun e w' => e = .returned (.int .i64 (2)) ∧ Below w.heap.size w w' := by
  go_enter Tryd.func39, Tryd.ntmps39
  go_wp2_with fail
  go_ret
  exact ⟨rfl, below1 _ _⟩
theorem three_f (i : Int) (s : ByteArray) (w : World)  :
    Calls Tryd.prog 39 #[.agg #[.int .u8 3, .int .i64 i, .string s, .bool false]] w fun e w' => e = .returned (.int .i64 (0)) ∧ Below w.heap.size w w' := by
  go_enter Tryd.func39, Tryd.ntmps39
  go_wp2_with fail
  go_ret
  exact ⟨rfl, below1 _ _⟩
theorem three_n (k i : Int) (s : ByteArray) (b : Bool) (w : World) (h0 : (k == 0) = false) (h3 : (k == 3) = false) :
    Calls Tryd.prog 39 #[.agg #[.int .u8 k, .int .i64 i, .string s, .bool b]] w fun e w' => e = .returned (.int .i64 (-1)) ∧ Below w.heap.size w w' := by
  go_enter Tryd.func39, Tryd.ntmps39
  go_wp2_with fail
  go_ret
  exact ⟨rfl, below1 _ _⟩
theorem three_any (k i : Int) (s : ByteArray) (b : Bool) (w : World) :
    Calls Tryd.prog 39 #[.agg #[.int .u8 k, .int .i64 i, .string s, .bool b]] w fun e w' => e = .returned (.int .i64 (tri k b)) ∧ Below w.heap.size w w' := by
  by_cases h0 : k = 0
  · subst h0; exact three_0 i s b w
  · by_cases h3 : k = 3
    · subst h3
      cases b with
      | true => exact three_t i s w
      | false => exact three_f i s w
    · rw [show tri k b = -1 from by simp [tri, h0, h3]]
      exact three_n k i s b w (beq_eq_false_iff_ne.2 h0) (beq_eq_false_iff_ne.2 h3)
theorem truth_ref (b : Bool) (w : World) :
    Calls Tryd.prog 51 #[.bool b] w fun e w' => e = .returned (.agg #[.int .u8 3, .int .i64 0, .string ⟨#[]⟩, .bool b]) ∧ Below w.heap.size w w' := by
  go_enter Tryd.func51, Tryd.ntmps51
  go_wp2_with fail
  refine bodyPost_ret (v := .agg #[.int .u8 3, .int .i64 0, .string ⟨#[]⟩, .bool b]) (by simp [results, Tryd.results51, go_sem]) rfl ⟨rfl, ?_⟩
  exact below1 _ _
def backK (n : Int) : Int := if n = 1 then 0 else 3
def backB (n : Int) : Bool := if n = 1 then false else n == 2
theorem back_1 (w : World) :
    Calls Tryd.prog 40 #[.int .i64 1] w fun e w' => e = .returned (.agg #[.int .u8 0, .int .i64 0, .string ⟨#[]⟩, .bool false]) ∧ Below w.heap.size w w' := by
  go_enter Tryd.func40, Tryd.ntmps40
  go_wp2_with fail
  refine bodyPost_ret (v := .agg #[.int .u8 0, .int .i64 0, .string ⟨#[]⟩, .bool false]) (by simp [results, Tryd.results40, go_sem]) rfl ⟨rfl, ?_⟩
  exact below1 _ _
theorem back_n (n : Int) (w : World) (h : (n == 1) = false) :
    Calls Tryd.prog 40 #[.int .i64 n] w fun e w' => e = .returned (.agg #[.int .u8 3, .int .i64 0, .string ⟨#[]⟩, .bool (n == 2)]) ∧ Below w.heap.size w w' := by
  go_enter Tryd.func40, Tryd.ntmps40
  go_wp2_with fail
  refine (truth_ref _ _).mono ?_
  rintro e w1 ⟨rfl, hb⟩
  obtain ⟨hc, hf⟩ := bcell hb
  simp at hc hf
  have hz := hb.size
  simp at hz
  have hb0 := bst1 hb
  clear hb
  go_wp2_with fail
  refine bodyPost_ret (v := .agg #[.int .u8 3, .int .i64 0, .string ⟨#[]⟩, .bool (n == 2)]) (by simp [results, Tryd.results40, go_sem, hc, hz]) rfl ⟨rfl, ?_⟩
  repeat (refine Below.setCell ?_ (by simp <;> omega) _)
  exact hb0
theorem back_any (n : Int) (w : World) :
    Calls Tryd.prog 40 #[.int .i64 n] w fun e w' => e = .returned (.agg #[.int .u8 (backK n), .int .i64 0, .string ⟨#[]⟩, .bool (backB n)]) ∧ Below w.heap.size w w' := by
  by_cases h : n = 1
  · subst h; exact back_1 w
  · rw [show backK n = 3 from by simp [backK, h], show backB n = (n == 2) from by simp [backB, h]]
    exact back_n n w (beq_eq_false_iff_ne.2 h)
theorem ref_and_a (k i : Int) (s : ByteArray) (b : Bool) (k2 i2 : Int) (s2 : ByteArray) (b2 : Bool) (w : World) (h : tri k b < 0) :
    Calls Tryd.prog 24 #[.agg #[.int .u8 k, .int .i64 i, .string s, .bool b], .agg #[.int .u8 k2, .int .i64 i2, .string s2, .bool b2]] w fun e w' => e = .returned (.tuple #[.agg #[.int .u8 0, .int .i64 0, .string ⟨#[]⟩, .bool false], .int .i64 8]) ∧ Below w.heap.size w w' := by
  obtain ⟨r1, r2⟩ := tri_rng k b
  obtain ⟨r3, r4⟩ := tri_rng k2 b2
  go_enter Tryd.func24, Tryd.ntmps24
  go_wp2_with fail
  refine (three_any k i s b _).mono ?_
  rintro e w1 ⟨rfl, hb⟩
  obtain ⟨hc, hf⟩ := bcell hb
  simp at hc hf
  have hz := hb.size
  simp at hz
  have hb0 := bst3 hb
  clear hb
  go_wp2_with fail
  refine bodyPost_ret (v := .tuple #[.agg #[.int .u8 0, .int .i64 0, .string ⟨#[]⟩, .bool false], .int .i64 8]) (by simp [results, Tryd.results24, go_sem, hc, hz]) rfl ⟨rfl, ?_⟩
  repeat (refine Below.setCell ?_ (by simp <;> omega) _)
  exact hb0
theorem ref_and_b (k i : Int) (s : ByteArray) (b : Bool) (k2 i2 : Int) (s2 : ByteArray) (b2 : Bool) (w : World) (h : 0 ≤ tri k b) (h2 : tri k2 b2 < 0) :
    Calls Tryd.prog 24 #[.agg #[.int .u8 k, .int .i64 i, .string s, .bool b], .agg #[.int .u8 k2, .int .i64 i2, .string s2, .bool b2]] w fun e w' => e = .returned (.tuple #[.agg #[.int .u8 0, .int .i64 0, .string ⟨#[]⟩, .bool false], .int .i64 8]) ∧ Below w.heap.size w w' := by
  obtain ⟨r1, r2⟩ := tri_rng k b
  obtain ⟨r3, r4⟩ := tri_rng k2 b2
  go_enter Tryd.func24, Tryd.ntmps24
  go_wp2_with fail
  refine (three_any k i s b _).mono ?_
  rintro e w1 ⟨rfl, hb⟩
  obtain ⟨hc, hf⟩ := bcell hb
  simp at hc hf
  have hz := hb.size
  simp at hz
  have hb0 := bst3 hb
  clear hb
  go_wp2_with fail
  refine (three_any k2 i2 s2 b2 _).mono ?_
  rintro e w2 ⟨rfl, hb⟩
  replace hc := fun b o (h : b < w.heap.size + 1 + 1 + 1) => ((bcell hb).1 b o (Nat.lt_of_lt_of_le h hz)).trans (hc b o h)
  replace hf := fun b o (h : b < w.heap.size + 1 + 1 + 1) => ((bcell hb).2 b o (Nat.lt_of_lt_of_le h hz)).trans (hf b o h)
  replace hb0 := below_then hb0 hb
  replace hz := Nat.le_trans hz hb.size
  clear hb
  go_wp2_with fail
  refine bodyPost_ret (v := .tuple #[.agg #[.int .u8 0, .int .i64 0, .string ⟨#[]⟩, .bool false], .int .i64 8]) (by simp [results, Tryd.results24, go_sem, hc, hz]) rfl ⟨rfl, ?_⟩
  repeat (refine Below.setCell ?_ (by simp <;> omega) _)
  exact hb0
set_option maxHeartbeats 4000000 in
theorem ref_and_c (k i : Int) (s : ByteArray) (b : Bool) (k2 i2 : Int) (s2 : ByteArray) (b2 : Bool) (w : World) (h : 0 ≤ tri k b) (h2 : 0 ≤ tri k2 b2) (hx : tri k b ≤ tri k2 b2) :
    Calls Tryd.prog 24 #[.agg #[.int .u8 k, .int .i64 i, .string s, .bool b], .agg #[.int .u8 k2, .int .i64 i2, .string s2, .bool b2]] w fun e w' => e = .returned (.tuple #[.agg #[.int .u8 (backK (tri k b)), .int .i64 0, .string ⟨#[]⟩, .bool (backB (tri k b))], .int .i64 0]) ∧ Below w.heap.size w w' := by
  obtain ⟨r1, r2⟩ := tri_rng k b
  obtain ⟨r3, r4⟩ := tri_rng k2 b2
  go_enter Tryd.func24, Tryd.ntmps24
  go_wp2_with fail
  refine (three_any k i s b _).mono ?_
  rintro e w1 ⟨rfl, hb⟩
  obtain ⟨hc, hf⟩ := bcell hb
  simp at hc hf
  have hz := hb.size
  simp at hz
  have hb0 := bst3 hb
  clear hb
  go_wp2_with fail
  refine (three_any k2 i2 s2 b2 _).mono ?_
  rintro e w2 ⟨rfl, hb⟩
  replace hc := fun b o (h : b < w.heap.size + 1 + 1 + 1) => ((bcell hb).1 b o (Nat.lt_of_lt_of_le h hz)).trans (hc b o h)
  replace hf := fun b o (h : b < w.heap.size + 1 + 1 + 1) => ((bcell hb).2 b o (Nat.lt_of_lt_of_le h hz)).trans (hf b o h)
  replace hb0 := below_then hb0 hb
  replace hz := Nat.le_trans hz hb.size
  clear hb
  go_wp2_with fail
  go_region_with (first | (go_at_call 39; refine (three_any _ _ _ _ _).mono ?_; rintro e wn ⟨rfl, hb⟩; replace hc := fun b o (h : b < w.heap.size + 1 + 1 + 1) => ((bcell hb).1 b o (Nat.lt_of_lt_of_le h hz)).trans (hc b o h); replace hf := fun b o (h : b < w.heap.size + 1 + 1 + 1) => ((bcell hb).2 b o (Nat.lt_of_lt_of_le h hz)).trans (hf b o h); (first | replace hb0 := below_then hb0 hb | replace hb0 := below_any hb0 hb); replace hz := Nat.le_trans hz hb.size; clear hb) | (go_at_call 40; refine (back_any _ _).mono ?_; rintro e wn ⟨rfl, hb⟩; replace hc := fun b o (h : b < w.heap.size + 1 + 1 + 1) => ((bcell hb).1 b o (Nat.lt_of_lt_of_le h hz)).trans (hc b o h); replace hf := fun b o (h : b < w.heap.size + 1 + 1 + 1) => ((bcell hb).2 b o (Nat.lt_of_lt_of_le h hz)).trans (hf b o h); (first | replace hb0 := below_then hb0 hb | replace hb0 := below_any hb0 hb); replace hz := Nat.le_trans hz hb.size; clear hb))
  all_goals (go_wp2_with fail)
  all_goals (
    refine bodyPost_ret (v := .tuple #[.agg #[.int .u8 (backK (tri k b)), .int .i64 0, .string ⟨#[]⟩, .bool (backB (tri k b))], .int .i64 0]) (by simp [results, Tryd.results24, go_sem, hc, hz]) rfl ⟨rfl, ?_⟩
    repeat (refine Below.setCell ?_ (by simp <;> omega) _)
    exact hb0)
set_option maxHeartbeats 4000000 in
theorem ref_and_d (k i : Int) (s : ByteArray) (b : Bool) (k2 i2 : Int) (s2 : ByteArray) (b2 : Bool) (w : World) (h : 0 ≤ tri k b) (h2 : 0 ≤ tri k2 b2) (hx : tri k2 b2 < tri k b) :
    Calls Tryd.prog 24 #[.agg #[.int .u8 k, .int .i64 i, .string s, .bool b], .agg #[.int .u8 k2, .int .i64 i2, .string s2, .bool b2]] w fun e w' => e = .returned (.tuple #[.agg #[.int .u8 (backK (tri k2 b2)), .int .i64 0, .string ⟨#[]⟩, .bool (backB (tri k2 b2))], .int .i64 0]) ∧ Below w.heap.size w w' := by
  obtain ⟨r1, r2⟩ := tri_rng k b
  obtain ⟨r3, r4⟩ := tri_rng k2 b2
  go_enter Tryd.func24, Tryd.ntmps24
  go_wp2_with fail
  refine (three_any k i s b _).mono ?_
  rintro e w1 ⟨rfl, hb⟩
  obtain ⟨hc, hf⟩ := bcell hb
  simp at hc hf
  have hz := hb.size
  simp at hz
  have hb0 := bst3 hb
  clear hb
  go_wp2_with fail
  refine (three_any k2 i2 s2 b2 _).mono ?_
  rintro e w2 ⟨rfl, hb⟩
  replace hc := fun b o (h : b < w.heap.size + 1 + 1 + 1) => ((bcell hb).1 b o (Nat.lt_of_lt_of_le h hz)).trans (hc b o h)
  replace hf := fun b o (h : b < w.heap.size + 1 + 1 + 1) => ((bcell hb).2 b o (Nat.lt_of_lt_of_le h hz)).trans (hf b o h)
  replace hb0 := below_then hb0 hb
  replace hz := Nat.le_trans hz hb.size
  clear hb
  go_wp2_with fail
  go_region_with (first | (go_at_call 39; refine (three_any _ _ _ _ _).mono ?_; rintro e wn ⟨rfl, hb⟩; replace hc := fun b o (h : b < w.heap.size + 1 + 1 + 1) => ((bcell hb).1 b o (Nat.lt_of_lt_of_le h hz)).trans (hc b o h); replace hf := fun b o (h : b < w.heap.size + 1 + 1 + 1) => ((bcell hb).2 b o (Nat.lt_of_lt_of_le h hz)).trans (hf b o h); (first | replace hb0 := below_then hb0 hb | replace hb0 := below_any hb0 hb); replace hz := Nat.le_trans hz hb.size; clear hb) | (go_at_call 40; refine (back_any _ _).mono ?_; rintro e wn ⟨rfl, hb⟩; replace hc := fun b o (h : b < w.heap.size + 1 + 1 + 1) => ((bcell hb).1 b o (Nat.lt_of_lt_of_le h hz)).trans (hc b o h); replace hf := fun b o (h : b < w.heap.size + 1 + 1 + 1) => ((bcell hb).2 b o (Nat.lt_of_lt_of_le h hz)).trans (hf b o h); (first | replace hb0 := below_then hb0 hb | replace hb0 := below_any hb0 hb); replace hz := Nat.le_trans hz hb.size; clear hb))
  all_goals (go_wp2_with fail)
  all_goals (
    refine bodyPost_ret (v := .tuple #[.agg #[.int .u8 (backK (tri k2 b2)), .int .i64 0, .string ⟨#[]⟩, .bool (backB (tri k2 b2))], .int .i64 0]) (by simp [results, Tryd.results24, go_sem, hc, hz]) rfl ⟨rfl, ?_⟩
    repeat (refine Below.setCell ?_ (by simp <;> omega) _)
    exact hb0)
theorem ref_or_a (k i : Int) (s : ByteArray) (b : Bool) (k2 i2 : Int) (s2 : ByteArray) (b2 : Bool) (w : World) (h : tri k b < 0) :
    Calls Tryd.prog 26 #[.agg #[.int .u8 k, .int .i64 i, .string s, .bool b], .agg #[.int .u8 k2, .int .i64 i2, .string s2, .bool b2]] w fun e w' => e = .returned (.tuple #[.agg #[.int .u8 0, .int .i64 0, .string ⟨#[]⟩, .bool false], .int .i64 8]) ∧ Below w.heap.size w w' := by
  obtain ⟨r1, r2⟩ := tri_rng k b
  obtain ⟨r3, r4⟩ := tri_rng k2 b2
  go_enter Tryd.func26, Tryd.ntmps26
  go_wp2_with fail
  refine (three_any k i s b _).mono ?_
  rintro e w1 ⟨rfl, hb⟩
  obtain ⟨hc, hf⟩ := bcell hb
  simp at hc hf
  have hz := hb.size
  simp at hz
  have hb0 := bst3 hb
  clear hb
  go_wp2_with fail
  refine bodyPost_ret (v := .tuple #[.agg #[.int .u8 0, .int .i64 0, .string ⟨#[]⟩, .bool false], .int .i64 8]) (by simp [results, Tryd.results26, go_sem, hc, hz]) rfl ⟨rfl, ?_⟩
  repeat (refine Below.setCell ?_ (by simp <;> omega) _)
  exact hb0
theorem ref_or_b (k i : Int) (s : ByteArray) (b : Bool) (k2 i2 : Int) (s2 : ByteArray) (b2 : Bool) (w : World) (h : 0 ≤ tri k b) (h2 : tri k2 b2 < 0) :
    Calls Tryd.prog 26 #[.agg #[.int .u8 k, .int .i64 i, .string s, .bool b], .agg #[.int .u8 k2, .int .i64 i2, .string s2, .bool b2]] w fun e w' => e = .returned (.tuple #[.agg #[.int .u8 0, .int .i64 0, .string ⟨#[]⟩, .bool false], .int .i64 8]) ∧ Below w.heap.size w w' := by
  obtain ⟨r1, r2⟩ := tri_rng k b
  obtain ⟨r3, r4⟩ := tri_rng k2 b2
  go_enter Tryd.func26, Tryd.ntmps26
  go_wp2_with fail
  refine (three_any k i s b _).mono ?_
  rintro e w1 ⟨rfl, hb⟩
  obtain ⟨hc, hf⟩ := bcell hb
  simp at hc hf
  have hz := hb.size
  simp at hz
  have hb0 := bst3 hb
  clear hb
  go_wp2_with fail
  refine (three_any k2 i2 s2 b2 _).mono ?_
  rintro e w2 ⟨rfl, hb⟩
  replace hc := fun b o (h : b < w.heap.size + 1 + 1 + 1) => ((bcell hb).1 b o (Nat.lt_of_lt_of_le h hz)).trans (hc b o h)
  replace hf := fun b o (h : b < w.heap.size + 1 + 1 + 1) => ((bcell hb).2 b o (Nat.lt_of_lt_of_le h hz)).trans (hf b o h)
  replace hb0 := below_then hb0 hb
  replace hz := Nat.le_trans hz hb.size
  clear hb
  go_wp2_with fail
  refine bodyPost_ret (v := .tuple #[.agg #[.int .u8 0, .int .i64 0, .string ⟨#[]⟩, .bool false], .int .i64 8]) (by simp [results, Tryd.results26, go_sem, hc, hz]) rfl ⟨rfl, ?_⟩
  repeat (refine Below.setCell ?_ (by simp <;> omega) _)
  exact hb0
set_option maxHeartbeats 4000000 in
theorem ref_or_c (k i : Int) (s : ByteArray) (b : Bool) (k2 i2 : Int) (s2 : ByteArray) (b2 : Bool) (w : World) (h : 0 ≤ tri k b) (h2 : 0 ≤ tri k2 b2) (hx : tri k b < tri k2 b2) :
    Calls Tryd.prog 26 #[.agg #[.int .u8 k, .int .i64 i, .string s, .bool b], .agg #[.int .u8 k2, .int .i64 i2, .string s2, .bool b2]] w fun e w' => e = .returned (.tuple #[.agg #[.int .u8 (backK (tri k2 b2)), .int .i64 0, .string ⟨#[]⟩, .bool (backB (tri k2 b2))], .int .i64 0]) ∧ Below w.heap.size w w' := by
  obtain ⟨r1, r2⟩ := tri_rng k b
  obtain ⟨r3, r4⟩ := tri_rng k2 b2
  go_enter Tryd.func26, Tryd.ntmps26
  go_wp2_with fail
  refine (three_any k i s b _).mono ?_
  rintro e w1 ⟨rfl, hb⟩
  obtain ⟨hc, hf⟩ := bcell hb
  simp at hc hf
  have hz := hb.size
  simp at hz
  have hb0 := bst3 hb
  clear hb
  go_wp2_with fail
  refine (three_any k2 i2 s2 b2 _).mono ?_
  rintro e w2 ⟨rfl, hb⟩
  replace hc := fun b o (h : b < w.heap.size + 1 + 1 + 1) => ((bcell hb).1 b o (Nat.lt_of_lt_of_le h hz)).trans (hc b o h)
  replace hf := fun b o (h : b < w.heap.size + 1 + 1 + 1) => ((bcell hb).2 b o (Nat.lt_of_lt_of_le h hz)).trans (hf b o h)
  replace hb0 := below_then hb0 hb
  replace hz := Nat.le_trans hz hb.size
  clear hb
  go_wp2_with fail
  go_region_with (first | (go_at_call 39; refine (three_any _ _ _ _ _).mono ?_; rintro e wn ⟨rfl, hb⟩; replace hc := fun b o (h : b < w.heap.size + 1 + 1 + 1) => ((bcell hb).1 b o (Nat.lt_of_lt_of_le h hz)).trans (hc b o h); replace hf := fun b o (h : b < w.heap.size + 1 + 1 + 1) => ((bcell hb).2 b o (Nat.lt_of_lt_of_le h hz)).trans (hf b o h); (first | replace hb0 := below_then hb0 hb | replace hb0 := below_any hb0 hb); replace hz := Nat.le_trans hz hb.size; clear hb) | (go_at_call 40; refine (back_any _ _).mono ?_; rintro e wn ⟨rfl, hb⟩; replace hc := fun b o (h : b < w.heap.size + 1 + 1 + 1) => ((bcell hb).1 b o (Nat.lt_of_lt_of_le h hz)).trans (hc b o h); replace hf := fun b o (h : b < w.heap.size + 1 + 1 + 1) => ((bcell hb).2 b o (Nat.lt_of_lt_of_le h hz)).trans (hf b o h); (first | replace hb0 := below_then hb0 hb | replace hb0 := below_any hb0 hb); replace hz := Nat.le_trans hz hb.size; clear hb))
  all_goals (go_wp2_with fail)
  all_goals (
    refine bodyPost_ret (v := .tuple #[.agg #[.int .u8 (backK (tri k2 b2)), .int .i64 0, .string ⟨#[]⟩, .bool (backB (tri k2 b2))], .int .i64 0]) (by simp [results, Tryd.results26, go_sem, hc, hz]) rfl ⟨rfl, ?_⟩
    repeat (refine Below.setCell ?_ (by simp <;> omega) _)
    exact hb0)
set_option maxHeartbeats 4000000 in
theorem ref_or_d (k i : Int) (s : ByteArray) (b : Bool) (k2 i2 : Int) (s2 : ByteArray) (b2 : Bool) (w : World) (h : 0 ≤ tri k b) (h2 : 0 ≤ tri k2 b2) (hx : tri k2 b2 ≤ tri k b) :
    Calls Tryd.prog 26 #[.agg #[.int .u8 k, .int .i64 i, .string s, .bool b], .agg #[.int .u8 k2, .int .i64 i2, .string s2, .bool b2]] w fun e w' => e = .returned (.tuple #[.agg #[.int .u8 (backK (tri k b)), .int .i64 0, .string ⟨#[]⟩, .bool (backB (tri k b))], .int .i64 0]) ∧ Below w.heap.size w w' := by
  obtain ⟨r1, r2⟩ := tri_rng k b
  obtain ⟨r3, r4⟩ := tri_rng k2 b2
  go_enter Tryd.func26, Tryd.ntmps26
  go_wp2_with fail
  refine (three_any k i s b _).mono ?_
  rintro e w1 ⟨rfl, hb⟩
  obtain ⟨hc, hf⟩ := bcell hb
  simp at hc hf
  have hz := hb.size
  simp at hz
  have hb0 := bst3 hb
  clear hb
  go_wp2_with fail
  refine (three_any k2 i2 s2 b2 _).mono ?_
  rintro e w2 ⟨rfl, hb⟩
  replace hc := fun b o (h : b < w.heap.size + 1 + 1 + 1) => ((bcell hb).1 b o (Nat.lt_of_lt_of_le h hz)).trans (hc b o h)
  replace hf := fun b o (h : b < w.heap.size + 1 + 1 + 1) => ((bcell hb).2 b o (Nat.lt_of_lt_of_le h hz)).trans (hf b o h)
  replace hb0 := below_then hb0 hb
  replace hz := Nat.le_trans hz hb.size
  clear hb
  go_wp2_with fail
  go_region_with (first | (go_at_call 39; refine (three_any _ _ _ _ _).mono ?_; rintro e wn ⟨rfl, hb⟩; replace hc := fun b o (h : b < w.heap.size + 1 + 1 + 1) => ((bcell hb).1 b o (Nat.lt_of_lt_of_le h hz)).trans (hc b o h); replace hf := fun b o (h : b < w.heap.size + 1 + 1 + 1) => ((bcell hb).2 b o (Nat.lt_of_lt_of_le h hz)).trans (hf b o h); (first | replace hb0 := below_then hb0 hb | replace hb0 := below_any hb0 hb); replace hz := Nat.le_trans hz hb.size; clear hb) | (go_at_call 40; refine (back_any _ _).mono ?_; rintro e wn ⟨rfl, hb⟩; replace hc := fun b o (h : b < w.heap.size + 1 + 1 + 1) => ((bcell hb).1 b o (Nat.lt_of_lt_of_le h hz)).trans (hc b o h); replace hf := fun b o (h : b < w.heap.size + 1 + 1 + 1) => ((bcell hb).2 b o (Nat.lt_of_lt_of_le h hz)).trans (hf b o h); (first | replace hb0 := below_then hb0 hb | replace hb0 := below_any hb0 hb); replace hz := Nat.le_trans hz hb.size; clear hb))
  all_goals (go_wp2_with fail)
  all_goals (
    refine bodyPost_ret (v := .tuple #[.agg #[.int .u8 (backK (tri k b)), .int .i64 0, .string ⟨#[]⟩, .bool (backB (tri k b))], .int .i64 0]) (by simp [results, Tryd.results26, go_sem, hc, hz]) rfl ⟨rfl, ?_⟩
    repeat (refine Below.setCell ?_ (by simp <;> omega) _)
    exact hb0)
theorem ref_not_a (k i : Int) (s : ByteArray) (b : Bool) (w : World) (h : tri k b < 0) :
    Calls Tryd.prog 27 #[.agg #[.int .u8 k, .int .i64 i, .string s, .bool b]] w fun e w' => e = .returned (.tuple #[.agg #[.int .u8 0, .int .i64 0, .string ⟨#[]⟩, .bool false], .int .i64 8]) ∧ Below w.heap.size w w' := by
  obtain ⟨r1, r2⟩ := tri_rng k b
  go_enter Tryd.func27, Tryd.ntmps27
  go_wp2_with fail
  refine (three_any k i s b _).mono ?_
  rintro e w1 ⟨rfl, hb⟩
  obtain ⟨hc, hf⟩ := bcell hb
  simp at hc hf
  have hz := hb.size
  simp at hz
  have hb0 := bst2 hb
  clear hb
  go_wp2_with fail
  refine bodyPost_ret (v := .tuple #[.agg #[.int .u8 0, .int .i64 0, .string ⟨#[]⟩, .bool false], .int .i64 8]) (by simp [results, Tryd.results27, go_sem, hc, hz]) rfl ⟨rfl, ?_⟩
  repeat (refine Below.setCell ?_ (by simp <;> omega) _)
  exact hb0
theorem ref_not_c (k i : Int) (s : ByteArray) (b : Bool) (w : World) (h : 0 ≤ tri k b) :
    Calls Tryd.prog 27 #[.agg #[.int .u8 k, .int .i64 i, .string s, .bool b]] w fun e w' => e = .returned (.tuple #[.agg #[.int .u8 (backK (2 - tri k b)), .int .i64 0, .string ⟨#[]⟩, .bool (backB (2 - tri k b))], .int .i64 0]) ∧ Below w.heap.size w w' := by
  obtain ⟨r1, r2⟩ := tri_rng k b
  go_enter Tryd.func27, Tryd.ntmps27
  go_wp2_with fail
  refine (three_any k i s b _).mono ?_
  rintro e w1 ⟨rfl, hb⟩
  obtain ⟨hc, hf⟩ := bcell hb
  simp at hc hf
  have hz := hb.size
  simp at hz
  have hb0 := bst2 hb
  clear hb
  go_wp2_with fail
  refine (three_any k i s b _).mono ?_
  rintro e w2 ⟨rfl, hb⟩
  replace hc := fun b o (h : b < w.heap.size + 1 + 1) => ((bcell hb).1 b o (Nat.lt_of_lt_of_le h hz)).trans (hc b o h)
  replace hf := fun b o (h : b < w.heap.size + 1 + 1) => ((bcell hb).2 b o (Nat.lt_of_lt_of_le h hz)).trans (hf b o h)
  replace hb0 := below_then hb0 hb
  replace hz := Nat.le_trans hz hb.size
  clear hb
  go_wp2_with fail
  refine (back_any _ _).mono ?_
  rintro e w3 ⟨rfl, hb⟩
  replace hc := fun b o (h : b < w.heap.size + 1 + 1) => ((bcell hb).1 b o (Nat.lt_of_lt_of_le h hz)).trans (hc b o h)
  replace hf := fun b o (h : b < w.heap.size + 1 + 1) => ((bcell hb).2 b o (Nat.lt_of_lt_of_le h hz)).trans (hf b o h)
  replace hb0 := below_then hb0 hb
  replace hz := Nat.le_trans hz hb.size
  clear hb
  go_wp2_with fail
  refine bodyPost_ret (v := .tuple #[.agg #[.int .u8 (backK (2 - tri k b)), .int .i64 0, .string ⟨#[]⟩, .bool (backB (2 - tri k b))], .int .i64 0]) (by simp [results, Tryd.results27, go_sem, hc, hz]) rfl ⟨rfl, ?_⟩
  repeat (refine Below.setCell ?_ (by simp <;> omega) _)
  exact hb0
end Go.Proofs.YtpkohkhgimmkhaaDoor
