/-
  Contracts of package cell's truth, join, And, Or, Not. Conditions: the kind is a byte.
-/
import Derived.Test.YtpkohkhgimmkhaaDoorCellTruth
namespace Go.Proofs.YtpkohkhgimmkhaaDoor
open Go.RowKit
set_option linter.unusedVariables false
set_option linter.unusedSimpArgs false

theorem truth_b (b : Bool) (w : World) :
    Calls Tryd.prog 38 #[.iface 4 (.bool b)] w fun e w' => e = .returned (.agg #[.int .u8 3, .int .i64 0, .string ⟨#[]⟩, .bool b]) ∧ Below w.heap.size w w' := by
  go_enter Tryd.func38, Tryd.ntmps38
  go_wp2_with fail
  exact bodyPost_ret (v := .agg #[.int .u8 3, .int .i64 0, .string ⟨#[]⟩, .bool b]) (by simp [results, Tryd.results38, go_sem]) rfl ⟨rfl, below1 _ _⟩

theorem bst4 {w w1 : World} {a b c d : Obj} (h : Below ((((w.alloc a).alloc b).alloc c).alloc d).heap.size ((((w.alloc a).alloc b).alloc c).alloc d) w1) : Below w.heap.size w w1 :=
  (((((Below.refl _ _).alloc (Nat.le_refl _) a).alloc (by simp) b).alloc (by simp; omega) c).alloc (by simp; omega) d).trans (h.mono (by simp; omega))
theorem join_no (k i : Int) (s : ByteArray) (b : Bool) (k2 i2 : Int) (s2 : ByteArray) (b2 : Bool) (st : Bool) (w : World) (h : (tB k && tB k2) = false) :
    Calls Tryd.prog 36 #[.agg #[.int .u8 k, .int .i64 i, .string s, .bool b], .agg #[.int .u8 k2, .int .i64 i2, .string s2, .bool b2], .bool st] w fun e w' => e = .returned (.tuple #[.agg #[.int .u8 0, .int .i64 0, .string ⟨#[]⟩, .bool false], .int .i64 8]) ∧ Below w.heap.size w w' := by
  go_enter Tryd.func36, Tryd.ntmps36
  go_wp2_with fail
  refine (truths2 k i s b k2 i2 s2 b2 _ _ (by simp) (by simp [go_sem]) (by simp [go_sem]) (by simp [go_sem]) (by simp [go_sem]) (by simp [go_sem]) (by simp [go_sem]) (by simp [go_sem]) (by simp [go_sem])).mono ?_
  rintro e w1 ⟨rfl, hb⟩
  obtain ⟨hc, hf⟩ := bcell hb
  simp at hc hf
  have hz := hb.size
  simp at hz
  have hb0 := bst4 hb
  clear hb
  go_wp2_with fail
  refine bodyPost_ret (v := .tuple #[.agg #[.int .u8 0, .int .i64 0, .string ⟨#[]⟩, .bool false], .int .i64 8]) (by simp [results, Tryd.results36, go_sem, hc, hz]) rfl ⟨rfl, ?_⟩
  repeat (refine Below.setCell ?_ (by simp; omega) _)
  exact hb0
set_option maxHeartbeats 1000000 in
theorem join_a (k i : Int) (s : ByteArray) (b : Bool) (k2 i2 : Int) (s2 : ByteArray) (b2 : Bool) (st : Bool) (w : World) (h : (tB k && tB k2) = true) (h3 : (k == 3) = true) (hs : (b == st) = true) :
    Calls Tryd.prog 36 #[.agg #[.int .u8 k, .int .i64 i, .string s, .bool b], .agg #[.int .u8 k2, .int .i64 i2, .string s2, .bool b2], .bool st] w fun e w' => e = .returned (.tuple #[.agg #[.int .u8 3, .int .i64 0, .string ⟨#[]⟩, .bool st], .int .i64 0]) ∧ Below w.heap.size w w' := by
  go_enter Tryd.func36, Tryd.ntmps36
  go_wp2_with fail
  refine (truths2 k i s b k2 i2 s2 b2 _ _ (by simp) (by simp [go_sem]) (by simp [go_sem]) (by simp [go_sem]) (by simp [go_sem]) (by simp [go_sem]) (by simp [go_sem]) (by simp [go_sem]) (by simp [go_sem])).mono ?_
  rintro e w1 ⟨rfl, hb⟩
  obtain ⟨hc, hf⟩ := bcell hb
  simp at hc hf
  have hz := hb.size
  simp at hz
  have hb0 := bst4 hb
  clear hb
  go_wp2_with fail
  refine (open_any k i s b _).mono ?_
  rintro e w2 ⟨rfl, hb⟩
  replace hc := fun b o (h : b < w.heap.size + 1 + 1 + 1 + 1) => ((bcell hb).1 b o (Nat.lt_of_lt_of_le h hz)).trans (hc b o h)
  replace hf := fun b o (h : b < w.heap.size + 1 + 1 + 1 + 1) => ((bcell hb).2 b o (Nat.lt_of_lt_of_le h hz)).trans (hf b o h)
  replace hb0 := below_then hb0 hb
  replace hz := Nat.le_trans hz hb.size
  clear hb
  go_wp2_with fail
  refine (open_any k2 i2 s2 b2 _).mono ?_
  rintro e w3 ⟨rfl, hb⟩
  replace hc := fun b o (h : b < w.heap.size + 1 + 1 + 1 + 1) => ((bcell hb).1 b o (Nat.lt_of_lt_of_le h hz)).trans (hc b o h)
  replace hf := fun b o (h : b < w.heap.size + 1 + 1 + 1 + 1) => ((bcell hb).2 b o (Nat.lt_of_lt_of_le h hz)).trans (hf b o h)
  replace hb0 := below_then hb0 hb
  replace hz := Nat.le_trans hz hb.size
  clear hb
  go_wp2_with fail
  refine (truth_b _ _).mono ?_
  rintro e w4 ⟨rfl, hb⟩
  replace hc := fun b o (h : b < w.heap.size + 1 + 1 + 1 + 1) => ((bcell hb).1 b o (Nat.lt_of_lt_of_le h hz)).trans (hc b o h)
  replace hf := fun b o (h : b < w.heap.size + 1 + 1 + 1 + 1) => ((bcell hb).2 b o (Nat.lt_of_lt_of_le h hz)).trans (hf b o h)
  replace hb0 := below_then hb0 hb
  replace hz := Nat.le_trans hz hb.size
  clear hb
  go_wp2_with fail
  refine bodyPost_ret (v := .tuple #[.agg #[.int .u8 3, .int .i64 0, .string ⟨#[]⟩, .bool st], .int .i64 0]) (by simp [results, Tryd.results36, go_sem, hc, hz]) rfl ⟨rfl, ?_⟩
  repeat (refine Below.setCell ?_ (by simp; omega) _)
  exact hb0
set_option maxHeartbeats 1000000 in
theorem join_b1 (k i : Int) (s : ByteArray) (b : Bool) (k2 i2 : Int) (s2 : ByteArray) (b2 : Bool) (st : Bool) (w : World) (h : (tB k && tB k2) = true) (h3 : (k == 3) = true) (hs : (b == st) = false) (h4 : (k2 == 3) = true) (hs2 : (b2 == st) = true) :
    Calls Tryd.prog 36 #[.agg #[.int .u8 k, .int .i64 i, .string s, .bool b], .agg #[.int .u8 k2, .int .i64 i2, .string s2, .bool b2], .bool st] w fun e w' => e = .returned (.tuple #[.agg #[.int .u8 3, .int .i64 0, .string ⟨#[]⟩, .bool st], .int .i64 0]) ∧ Below w.heap.size w w' := by
  go_enter Tryd.func36, Tryd.ntmps36
  go_wp2_with fail
  refine (truths2 k i s b k2 i2 s2 b2 _ _ (by simp) (by simp [go_sem]) (by simp [go_sem]) (by simp [go_sem]) (by simp [go_sem]) (by simp [go_sem]) (by simp [go_sem]) (by simp [go_sem]) (by simp [go_sem])).mono ?_
  rintro e w1 ⟨rfl, hb⟩
  obtain ⟨hc, hf⟩ := bcell hb
  simp at hc hf
  have hz := hb.size
  simp at hz
  have hb0 := bst4 hb
  clear hb
  go_wp2_with fail
  refine (open_any k i s b _).mono ?_
  rintro e w2 ⟨rfl, hb⟩
  replace hc := fun b o (h : b < w.heap.size + 1 + 1 + 1 + 1) => ((bcell hb).1 b o (Nat.lt_of_lt_of_le h hz)).trans (hc b o h)
  replace hf := fun b o (h : b < w.heap.size + 1 + 1 + 1 + 1) => ((bcell hb).2 b o (Nat.lt_of_lt_of_le h hz)).trans (hf b o h)
  replace hb0 := below_then hb0 hb
  replace hz := Nat.le_trans hz hb.size
  clear hb
  go_wp2_with fail
  refine (open_any k2 i2 s2 b2 _).mono ?_
  rintro e w3 ⟨rfl, hb⟩
  replace hc := fun b o (h : b < w.heap.size + 1 + 1 + 1 + 1) => ((bcell hb).1 b o (Nat.lt_of_lt_of_le h hz)).trans (hc b o h)
  replace hf := fun b o (h : b < w.heap.size + 1 + 1 + 1 + 1) => ((bcell hb).2 b o (Nat.lt_of_lt_of_le h hz)).trans (hf b o h)
  replace hb0 := below_then hb0 hb
  replace hz := Nat.le_trans hz hb.size
  clear hb
  go_wp2_with fail
  refine (truth_b _ _).mono ?_
  rintro e w4 ⟨rfl, hb⟩
  replace hc := fun b o (h : b < w.heap.size + 1 + 1 + 1 + 1) => ((bcell hb).1 b o (Nat.lt_of_lt_of_le h hz)).trans (hc b o h)
  replace hf := fun b o (h : b < w.heap.size + 1 + 1 + 1 + 1) => ((bcell hb).2 b o (Nat.lt_of_lt_of_le h hz)).trans (hf b o h)
  replace hb0 := below_then hb0 hb
  replace hz := Nat.le_trans hz hb.size
  clear hb
  go_wp2_with fail
  refine bodyPost_ret (v := .tuple #[.agg #[.int .u8 3, .int .i64 0, .string ⟨#[]⟩, .bool st], .int .i64 0]) (by simp [results, Tryd.results36, go_sem, hc, hz]) rfl ⟨rfl, ?_⟩
  repeat (refine Below.setCell ?_ (by simp; omega) _)
  exact hb0
set_option maxHeartbeats 1000000 in
theorem join_b2 (k i : Int) (s : ByteArray) (b : Bool) (k2 i2 : Int) (s2 : ByteArray) (b2 : Bool) (st : Bool) (w : World) (h : (tB k && tB k2) = true) (h3 : (k == 3) = false) (h4 : (k2 == 3) = true) (hs2 : (b2 == st) = true) :
    Calls Tryd.prog 36 #[.agg #[.int .u8 k, .int .i64 i, .string s, .bool b], .agg #[.int .u8 k2, .int .i64 i2, .string s2, .bool b2], .bool st] w fun e w' => e = .returned (.tuple #[.agg #[.int .u8 3, .int .i64 0, .string ⟨#[]⟩, .bool st], .int .i64 0]) ∧ Below w.heap.size w w' := by
  go_enter Tryd.func36, Tryd.ntmps36
  go_wp2_with fail
  refine (truths2 k i s b k2 i2 s2 b2 _ _ (by simp) (by simp [go_sem]) (by simp [go_sem]) (by simp [go_sem]) (by simp [go_sem]) (by simp [go_sem]) (by simp [go_sem]) (by simp [go_sem]) (by simp [go_sem])).mono ?_
  rintro e w1 ⟨rfl, hb⟩
  obtain ⟨hc, hf⟩ := bcell hb
  simp at hc hf
  have hz := hb.size
  simp at hz
  have hb0 := bst4 hb
  clear hb
  go_wp2_with fail
  refine (open_any k i s b _).mono ?_
  rintro e w2 ⟨rfl, hb⟩
  replace hc := fun b o (h : b < w.heap.size + 1 + 1 + 1 + 1) => ((bcell hb).1 b o (Nat.lt_of_lt_of_le h hz)).trans (hc b o h)
  replace hf := fun b o (h : b < w.heap.size + 1 + 1 + 1 + 1) => ((bcell hb).2 b o (Nat.lt_of_lt_of_le h hz)).trans (hf b o h)
  replace hb0 := below_then hb0 hb
  replace hz := Nat.le_trans hz hb.size
  clear hb
  go_wp2_with fail
  refine (open_any k2 i2 s2 b2 _).mono ?_
  rintro e w3 ⟨rfl, hb⟩
  replace hc := fun b o (h : b < w.heap.size + 1 + 1 + 1 + 1) => ((bcell hb).1 b o (Nat.lt_of_lt_of_le h hz)).trans (hc b o h)
  replace hf := fun b o (h : b < w.heap.size + 1 + 1 + 1 + 1) => ((bcell hb).2 b o (Nat.lt_of_lt_of_le h hz)).trans (hf b o h)
  replace hb0 := below_then hb0 hb
  replace hz := Nat.le_trans hz hb.size
  clear hb
  go_wp2_with fail
  refine (truth_b _ _).mono ?_
  rintro e w4 ⟨rfl, hb⟩
  replace hc := fun b o (h : b < w.heap.size + 1 + 1 + 1 + 1) => ((bcell hb).1 b o (Nat.lt_of_lt_of_le h hz)).trans (hc b o h)
  replace hf := fun b o (h : b < w.heap.size + 1 + 1 + 1 + 1) => ((bcell hb).2 b o (Nat.lt_of_lt_of_le h hz)).trans (hf b o h)
  replace hb0 := below_then hb0 hb
  replace hz := Nat.le_trans hz hb.size
  clear hb
  go_wp2_with fail
  refine bodyPost_ret (v := .tuple #[.agg #[.int .u8 3, .int .i64 0, .string ⟨#[]⟩, .bool st], .int .i64 0]) (by simp [results, Tryd.results36, go_sem, hc, hz]) rfl ⟨rfl, ?_⟩
  repeat (refine Below.setCell ?_ (by simp; omega) _)
  exact hb0
set_option maxHeartbeats 1000000 in
theorem join_u1 (k i : Int) (s : ByteArray) (b : Bool) (k2 i2 : Int) (s2 : ByteArray) (b2 : Bool) (st : Bool) (w : World) (h : (tB k && tB k2) = true) (h3 : (k == 3) = false) (h4 : (k2 == 3) = false) :
    Calls Tryd.prog 36 #[.agg #[.int .u8 k, .int .i64 i, .string s, .bool b], .agg #[.int .u8 k2, .int .i64 i2, .string s2, .bool b2], .bool st] w fun e w' => e = .returned (.tuple #[.agg #[.int .u8 0, .int .i64 0, .string ⟨#[]⟩, .bool false], .int .i64 0]) ∧ Below w.heap.size w w' := by
  go_enter Tryd.func36, Tryd.ntmps36
  go_wp2_with fail
  refine (truths2 k i s b k2 i2 s2 b2 _ _ (by simp) (by simp [go_sem]) (by simp [go_sem]) (by simp [go_sem]) (by simp [go_sem]) (by simp [go_sem]) (by simp [go_sem]) (by simp [go_sem]) (by simp [go_sem])).mono ?_
  rintro e w1 ⟨rfl, hb⟩
  obtain ⟨hc, hf⟩ := bcell hb
  simp at hc hf
  have hz := hb.size
  simp at hz
  have hb0 := bst4 hb
  clear hb
  go_wp2_with fail
  refine (open_any k i s b _).mono ?_
  rintro e w2 ⟨rfl, hb⟩
  replace hc := fun b o (h : b < w.heap.size + 1 + 1 + 1 + 1) => ((bcell hb).1 b o (Nat.lt_of_lt_of_le h hz)).trans (hc b o h)
  replace hf := fun b o (h : b < w.heap.size + 1 + 1 + 1 + 1) => ((bcell hb).2 b o (Nat.lt_of_lt_of_le h hz)).trans (hf b o h)
  replace hb0 := below_then hb0 hb
  replace hz := Nat.le_trans hz hb.size
  clear hb
  go_wp2_with fail
  refine (open_any k2 i2 s2 b2 _).mono ?_
  rintro e w3 ⟨rfl, hb⟩
  replace hc := fun b o (h : b < w.heap.size + 1 + 1 + 1 + 1) => ((bcell hb).1 b o (Nat.lt_of_lt_of_le h hz)).trans (hc b o h)
  replace hf := fun b o (h : b < w.heap.size + 1 + 1 + 1 + 1) => ((bcell hb).2 b o (Nat.lt_of_lt_of_le h hz)).trans (hf b o h)
  replace hb0 := below_then hb0 hb
  replace hz := Nat.le_trans hz hb.size
  clear hb
  go_wp2_with fail
  refine bodyPost_ret (v := .tuple #[.agg #[.int .u8 0, .int .i64 0, .string ⟨#[]⟩, .bool false], .int .i64 0]) (by simp [results, Tryd.results36, go_sem, hc, hz]) rfl ⟨rfl, ?_⟩
  repeat (refine Below.setCell ?_ (by simp; omega) _)
  exact hb0
set_option maxHeartbeats 1000000 in
theorem join_u2 (k i : Int) (s : ByteArray) (b : Bool) (k2 i2 : Int) (s2 : ByteArray) (b2 : Bool) (st : Bool) (w : World) (h : (tB k && tB k2) = true) (h3 : (k == 3) = false) (h4 : (k2 == 3) = true) (hs2 : (b2 == st) = false) :
    Calls Tryd.prog 36 #[.agg #[.int .u8 k, .int .i64 i, .string s, .bool b], .agg #[.int .u8 k2, .int .i64 i2, .string s2, .bool b2], .bool st] w fun e w' => e = .returned (.tuple #[.agg #[.int .u8 0, .int .i64 0, .string ⟨#[]⟩, .bool false], .int .i64 0]) ∧ Below w.heap.size w w' := by
  go_enter Tryd.func36, Tryd.ntmps36
  go_wp2_with fail
  refine (truths2 k i s b k2 i2 s2 b2 _ _ (by simp) (by simp [go_sem]) (by simp [go_sem]) (by simp [go_sem]) (by simp [go_sem]) (by simp [go_sem]) (by simp [go_sem]) (by simp [go_sem]) (by simp [go_sem])).mono ?_
  rintro e w1 ⟨rfl, hb⟩
  obtain ⟨hc, hf⟩ := bcell hb
  simp at hc hf
  have hz := hb.size
  simp at hz
  have hb0 := bst4 hb
  clear hb
  go_wp2_with fail
  refine (open_any k i s b _).mono ?_
  rintro e w2 ⟨rfl, hb⟩
  replace hc := fun b o (h : b < w.heap.size + 1 + 1 + 1 + 1) => ((bcell hb).1 b o (Nat.lt_of_lt_of_le h hz)).trans (hc b o h)
  replace hf := fun b o (h : b < w.heap.size + 1 + 1 + 1 + 1) => ((bcell hb).2 b o (Nat.lt_of_lt_of_le h hz)).trans (hf b o h)
  replace hb0 := below_then hb0 hb
  replace hz := Nat.le_trans hz hb.size
  clear hb
  go_wp2_with fail
  refine (open_any k2 i2 s2 b2 _).mono ?_
  rintro e w3 ⟨rfl, hb⟩
  replace hc := fun b o (h : b < w.heap.size + 1 + 1 + 1 + 1) => ((bcell hb).1 b o (Nat.lt_of_lt_of_le h hz)).trans (hc b o h)
  replace hf := fun b o (h : b < w.heap.size + 1 + 1 + 1 + 1) => ((bcell hb).2 b o (Nat.lt_of_lt_of_le h hz)).trans (hf b o h)
  replace hb0 := below_then hb0 hb
  replace hz := Nat.le_trans hz hb.size
  clear hb
  go_wp2_with fail
  refine bodyPost_ret (v := .tuple #[.agg #[.int .u8 0, .int .i64 0, .string ⟨#[]⟩, .bool false], .int .i64 0]) (by simp [results, Tryd.results36, go_sem, hc, hz]) rfl ⟨rfl, ?_⟩
  repeat (refine Below.setCell ?_ (by simp; omega) _)
  exact hb0
set_option maxHeartbeats 1000000 in
theorem join_u3 (k i : Int) (s : ByteArray) (b : Bool) (k2 i2 : Int) (s2 : ByteArray) (b2 : Bool) (st : Bool) (w : World) (h : (tB k && tB k2) = true) (h3 : (k == 3) = true) (hs : (b == st) = false) (h4 : (k2 == 3) = false) :
    Calls Tryd.prog 36 #[.agg #[.int .u8 k, .int .i64 i, .string s, .bool b], .agg #[.int .u8 k2, .int .i64 i2, .string s2, .bool b2], .bool st] w fun e w' => e = .returned (.tuple #[.agg #[.int .u8 0, .int .i64 0, .string ⟨#[]⟩, .bool false], .int .i64 0]) ∧ Below w.heap.size w w' := by
  go_enter Tryd.func36, Tryd.ntmps36
  go_wp2_with fail
  refine (truths2 k i s b k2 i2 s2 b2 _ _ (by simp) (by simp [go_sem]) (by simp [go_sem]) (by simp [go_sem]) (by simp [go_sem]) (by simp [go_sem]) (by simp [go_sem]) (by simp [go_sem]) (by simp [go_sem])).mono ?_
  rintro e w1 ⟨rfl, hb⟩
  obtain ⟨hc, hf⟩ := bcell hb
  simp at hc hf
  have hz := hb.size
  simp at hz
  have hb0 := bst4 hb
  clear hb
  go_wp2_with fail
  refine (open_any k i s b _).mono ?_
  rintro e w2 ⟨rfl, hb⟩
  replace hc := fun b o (h : b < w.heap.size + 1 + 1 + 1 + 1) => ((bcell hb).1 b o (Nat.lt_of_lt_of_le h hz)).trans (hc b o h)
  replace hf := fun b o (h : b < w.heap.size + 1 + 1 + 1 + 1) => ((bcell hb).2 b o (Nat.lt_of_lt_of_le h hz)).trans (hf b o h)
  replace hb0 := below_then hb0 hb
  replace hz := Nat.le_trans hz hb.size
  clear hb
  go_wp2_with fail
  refine (open_any k2 i2 s2 b2 _).mono ?_
  rintro e w3 ⟨rfl, hb⟩
  replace hc := fun b o (h : b < w.heap.size + 1 + 1 + 1 + 1) => ((bcell hb).1 b o (Nat.lt_of_lt_of_le h hz)).trans (hc b o h)
  replace hf := fun b o (h : b < w.heap.size + 1 + 1 + 1 + 1) => ((bcell hb).2 b o (Nat.lt_of_lt_of_le h hz)).trans (hf b o h)
  replace hb0 := below_then hb0 hb
  replace hz := Nat.le_trans hz hb.size
  clear hb
  go_wp2_with fail
  refine bodyPost_ret (v := .tuple #[.agg #[.int .u8 0, .int .i64 0, .string ⟨#[]⟩, .bool false], .int .i64 0]) (by simp [results, Tryd.results36, go_sem, hc, hz]) rfl ⟨rfl, ?_⟩
  repeat (refine Below.setCell ?_ (by simp; omega) _)
  exact hb0
set_option maxHeartbeats 1000000 in
theorem join_e (k i : Int) (s : ByteArray) (b : Bool) (k2 i2 : Int) (s2 : ByteArray) (b2 : Bool) (st : Bool) (w : World) (h : (tB k && tB k2) = true) (h3 : (k == 3) = true) (hs : (b == st) = false) (h4 : (k2 == 3) = true) (hs2 : (b2 == st) = false) :
    Calls Tryd.prog 36 #[.agg #[.int .u8 k, .int .i64 i, .string s, .bool b], .agg #[.int .u8 k2, .int .i64 i2, .string s2, .bool b2], .bool st] w fun e w' => e = .returned (.tuple #[.agg #[.int .u8 3, .int .i64 0, .string ⟨#[]⟩, .bool (!st)], .int .i64 0]) ∧ Below w.heap.size w w' := by
  go_enter Tryd.func36, Tryd.ntmps36
  go_wp2_with fail
  refine (truths2 k i s b k2 i2 s2 b2 _ _ (by simp) (by simp [go_sem]) (by simp [go_sem]) (by simp [go_sem]) (by simp [go_sem]) (by simp [go_sem]) (by simp [go_sem]) (by simp [go_sem]) (by simp [go_sem])).mono ?_
  rintro e w1 ⟨rfl, hb⟩
  obtain ⟨hc, hf⟩ := bcell hb
  simp at hc hf
  have hz := hb.size
  simp at hz
  have hb0 := bst4 hb
  clear hb
  go_wp2_with fail
  refine (open_any k i s b _).mono ?_
  rintro e w2 ⟨rfl, hb⟩
  replace hc := fun b o (h : b < w.heap.size + 1 + 1 + 1 + 1) => ((bcell hb).1 b o (Nat.lt_of_lt_of_le h hz)).trans (hc b o h)
  replace hf := fun b o (h : b < w.heap.size + 1 + 1 + 1 + 1) => ((bcell hb).2 b o (Nat.lt_of_lt_of_le h hz)).trans (hf b o h)
  replace hb0 := below_then hb0 hb
  replace hz := Nat.le_trans hz hb.size
  clear hb
  go_wp2_with fail
  refine (open_any k2 i2 s2 b2 _).mono ?_
  rintro e w3 ⟨rfl, hb⟩
  replace hc := fun b o (h : b < w.heap.size + 1 + 1 + 1 + 1) => ((bcell hb).1 b o (Nat.lt_of_lt_of_le h hz)).trans (hc b o h)
  replace hf := fun b o (h : b < w.heap.size + 1 + 1 + 1 + 1) => ((bcell hb).2 b o (Nat.lt_of_lt_of_le h hz)).trans (hf b o h)
  replace hb0 := below_then hb0 hb
  replace hz := Nat.le_trans hz hb.size
  clear hb
  go_wp2_with fail
  refine (truth_b _ _).mono ?_
  rintro e w4 ⟨rfl, hb⟩
  replace hc := fun b o (h : b < w.heap.size + 1 + 1 + 1 + 1) => ((bcell hb).1 b o (Nat.lt_of_lt_of_le h hz)).trans (hc b o h)
  replace hf := fun b o (h : b < w.heap.size + 1 + 1 + 1 + 1) => ((bcell hb).2 b o (Nat.lt_of_lt_of_le h hz)).trans (hf b o h)
  replace hb0 := below_then hb0 hb
  replace hz := Nat.le_trans hz hb.size
  clear hb
  go_wp2_with fail
  refine bodyPost_ret (v := .tuple #[.agg #[.int .u8 3, .int .i64 0, .string ⟨#[]⟩, .bool (!st)], .int .i64 0]) (by simp [results, Tryd.results36, go_sem, hc, hz]) rfl ⟨rfl, ?_⟩
  repeat (refine Below.setCell ?_ (by simp; omega) _)
  exact hb0
end Go.Proofs.YtpkohkhgimmkhaaDoor
