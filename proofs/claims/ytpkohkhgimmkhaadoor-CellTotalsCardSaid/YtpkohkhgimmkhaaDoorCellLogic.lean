/-
  Contracts of package cell's join, And, Or, Not, each by one answer. Conditions: the kind is a byte.
-/
import Derived.Test.YtpkohkhgimmkhaaDoorCellJoin
namespace Go.Proofs.YtpkohkhgimmkhaaDoor
open Go.RowKit
set_option linter.unusedVariables false
set_option linter.unusedSimpArgs false

def joinE (k k2 : Int) : Int := if (tB k && tB k2) = true then 0 else 8
def joinY (k : Int) (b : Bool) (k2 : Int) (b2 st : Bool) : Bool := (k == 3 && b == st) || (k2 == 3 && b2 == st)
def joinU (k k2 : Int) : Bool := !(k == 3) || !(k2 == 3)
def joinK (k : Int) (b : Bool) (k2 : Int) (b2 st : Bool) : Int := if (tB k && tB k2) = true then (if joinY k b k2 b2 st = true then 3 else if joinU k k2 = true then 0 else 3) else 0
def joinB (k : Int) (b : Bool) (k2 : Int) (b2 st : Bool) : Bool := if (tB k && tB k2) = true then (if joinY k b k2 b2 st = true then st else if joinU k k2 = true then false else !st) else false
theorem join_any (k i : Int) (s : ByteArray) (b : Bool) (k2 i2 : Int) (s2 : ByteArray) (b2 : Bool) (st : Bool) (w : World) :
    Calls Tryd.prog 36 #[.agg #[.int .u8 k, .int .i64 i, .string s, .bool b], .agg #[.int .u8 k2, .int .i64 i2, .string s2, .bool b2], .bool st] w fun e w' =>
      e = .returned (.tuple #[.agg #[.int .u8 (joinK k b k2 b2 st), .int .i64 0, .string ⟨#[]⟩, .bool (joinB k b k2 b2 st)], .int .i64 (joinE k k2)]) ∧ Below w.heap.size w w' := by
  cases h : (tB k && tB k2) with
  | false =>
    rw [show joinK k b k2 b2 st = 0 from by simp [joinK, h], show joinB k b k2 b2 st = false from by simp [joinB, h], show joinE k k2 = 8 from by simp [joinE, h]]
    exact join_no k i s b k2 i2 s2 b2 st w h
  | true =>
    rw [show joinE k k2 = 0 from by simp [joinE, h]]
    cases h3 : (k == 3) with
    | true =>
      cases hs : (b == st) with
      | true =>
        rw [show joinK k b k2 b2 st = 3 from by simp [joinK, joinY, h, h3, hs], show joinB k b k2 b2 st = st from by simp [joinB, joinY, h, h3, hs]]
        exact join_a k i s b k2 i2 s2 b2 st w h h3 hs
      | false =>
        cases h4 : (k2 == 3) with
        | true =>
          cases hs2 : (b2 == st) with
          | true =>
            rw [show joinK k b k2 b2 st = 3 from by simp [joinK, joinY, h, h3, hs, h4, hs2], show joinB k b k2 b2 st = st from by simp [joinB, joinY, h, h3, hs, h4, hs2]]
            exact join_b1 k i s b k2 i2 s2 b2 st w h h3 hs h4 hs2
          | false =>
            rw [show joinK k b k2 b2 st = 3 from by simp [joinK, joinY, joinU, h, h3, hs, h4, hs2], show joinB k b k2 b2 st = !st from by simp [joinB, joinY, joinU, h, h3, hs, h4, hs2]]
            exact join_e k i s b k2 i2 s2 b2 st w h h3 hs h4 hs2
        | false =>
          rw [show joinK k b k2 b2 st = 0 from by simp [joinK, joinY, joinU, h, h3, hs, h4], show joinB k b k2 b2 st = false from by simp [joinB, joinY, joinU, h, h3, hs, h4]]
          exact join_u3 k i s b k2 i2 s2 b2 st w h h3 hs h4
    | false =>
      cases h4 : (k2 == 3) with
      | true =>
        cases hs2 : (b2 == st) with
        | true =>
          rw [show joinK k b k2 b2 st = 3 from by simp [joinK, joinY, h, h3, h4, hs2], show joinB k b k2 b2 st = st from by simp [joinB, joinY, h, h3, h4, hs2]]
          exact join_b2 k i s b k2 i2 s2 b2 st w h h3 h4 hs2
        | false =>
          rw [show joinK k b k2 b2 st = 0 from by simp [joinK, joinY, joinU, h, h3, h4, hs2], show joinB k b k2 b2 st = false from by simp [joinB, joinY, joinU, h, h3, h4, hs2]]
          exact join_u2 k i s b k2 i2 s2 b2 st w h h3 h4 hs2
      | false =>
        rw [show joinK k b k2 b2 st = 0 from by simp [joinK, joinY, joinU, h, h3, h4], show joinB k b k2 b2 st = false from by simp [joinB, joinY, joinU, h, h3, h4]]
        exact join_u1 k i s b k2 i2 s2 b2 st w h h3 h4

theorem bst1 {w w1 : World} {a : Obj} (h : Below (w.alloc a).heap.size (w.alloc a) w1) : Below w.heap.size w w1 := (below1 w a).trans (h.mono (by simp))
theorem bst2 {w w1 : World} {a b : Obj} (h : Below ((w.alloc a).alloc b).heap.size ((w.alloc a).alloc b) w1) : Below w.heap.size w w1 :=
  (((Below.refl _ _).alloc (Nat.le_refl _) a).alloc (by simp) b).trans (h.mono (by simp; omega))
theorem bst3 {w w1 : World} {a b c : Obj} (h : Below (((w.alloc a).alloc b).alloc c).heap.size (((w.alloc a).alloc b).alloc c) w1) : Below w.heap.size w w1 :=
  ((((Below.refl _ _).alloc (Nat.le_refl _) a).alloc (by simp) b).alloc (by simp; omega) c).trans (h.mono (by simp; omega))
theorem bst4x {w w1 : World} {a b c d : Obj} (h : Below ((((w.alloc a).alloc b).alloc c).alloc d).heap.size ((((w.alloc a).alloc b).alloc c).alloc d) w1) : Below w.heap.size w w1 :=
  (((((Below.refl _ _).alloc (Nat.le_refl _) a).alloc (by simp) b).alloc (by simp; omega) c).alloc (by simp; omega) d).trans (h.mono (by simp; omega))
theorem bst5 {w w1 : World} {a b c d e : Obj} (h : Below (((((w.alloc a).alloc b).alloc c).alloc d).alloc e).heap.size (((((w.alloc a).alloc b).alloc c).alloc d).alloc e) w1) : Below w.heap.size w w1 :=
  ((((((Below.refl _ _).alloc (Nat.le_refl _) a).alloc (by simp) b).alloc (by simp; omega) c).alloc (by simp; omega) d).alloc (by simp; omega) e).trans (h.mono (by simp; omega))
theorem bst6 {w w1 : World} {a b c d e f : Obj} (h : Below ((((((w.alloc a).alloc b).alloc c).alloc d).alloc e).alloc f).heap.size ((((((w.alloc a).alloc b).alloc c).alloc d).alloc e).alloc f) w1) : Below w.heap.size w w1 :=
  (((((((Below.refl _ _).alloc (Nat.le_refl _) a).alloc (by simp) b).alloc (by simp; omega) c).alloc (by simp; omega) d).alloc (by simp; omega) e).alloc (by simp; omega) f).trans (h.mono (by simp; omega))
theorem and_any (k i : Int) (s : ByteArray) (b : Bool) (k2 i2 : Int) (s2 : ByteArray) (b2 : Bool) (w : World) :
    Calls Tryd.prog 22 #[.agg #[.int .u8 k, .int .i64 i, .string s, .bool b], .agg #[.int .u8 k2, .int .i64 i2, .string s2, .bool b2]] w fun e w' => e = .returned (.tuple #[.agg #[.int .u8 (joinK k b k2 b2 false), .int .i64 0, .string ⟨#[]⟩, .bool (joinB k b k2 b2 false)], .int .i64 (joinE k k2)]) ∧ Below w.heap.size w w' := by
  go_enter Tryd.func22, Tryd.ntmps22
  go_wp2_with fail
  refine (join_any k i s b k2 i2 s2 b2 false _).mono ?_
  rintro e w1 ⟨rfl, hb⟩
  obtain ⟨hc, hf⟩ := bcell hb
  simp at hc hf
  have hz := hb.size
  simp at hz
  have hb0 := bst3 hb
  clear hb
  go_wp2_with fail
  refine bodyPost_ret (v := .tuple #[.agg #[.int .u8 (joinK k b k2 b2 false), .int .i64 0, .string ⟨#[]⟩, .bool (joinB k b k2 b2 false)], .int .i64 (joinE k k2)]) (by simp [results, Tryd.results22, go_sem, hc, hz]) rfl ⟨rfl, ?_⟩
  repeat (refine Below.setCell ?_ (by simp <;> omega) _)
  exact hb0
theorem or_any (k i : Int) (s : ByteArray) (b : Bool) (k2 i2 : Int) (s2 : ByteArray) (b2 : Bool) (w : World) :
    Calls Tryd.prog 25 #[.agg #[.int .u8 k, .int .i64 i, .string s, .bool b], .agg #[.int .u8 k2, .int .i64 i2, .string s2, .bool b2]] w fun e w' => e = .returned (.tuple #[.agg #[.int .u8 (joinK k b k2 b2 true), .int .i64 0, .string ⟨#[]⟩, .bool (joinB k b k2 b2 true)], .int .i64 (joinE k k2)]) ∧ Below w.heap.size w w' := by
  go_enter Tryd.func25, Tryd.ntmps25
  go_wp2_with fail
  refine (join_any k i s b k2 i2 s2 b2 true _).mono ?_
  rintro e w1 ⟨rfl, hb⟩
  obtain ⟨hc, hf⟩ := bcell hb
  simp at hc hf
  have hz := hb.size
  simp at hz
  have hb0 := bst3 hb
  clear hb
  go_wp2_with fail
  refine bodyPost_ret (v := .tuple #[.agg #[.int .u8 (joinK k b k2 b2 true), .int .i64 0, .string ⟨#[]⟩, .bool (joinB k b k2 b2 true)], .int .i64 (joinE k k2)]) (by simp [results, Tryd.results25, go_sem, hc, hz]) rfl ⟨rfl, ?_⟩
  repeat (refine Below.setCell ?_ (by simp <;> omega) _)
  exact hb0
theorem not_no (k i : Int) (s : ByteArray) (b : Bool) (w : World) (h : tB k = false) :
    Calls Tryd.prog 23 #[.agg #[.int .u8 k, .int .i64 i, .string s, .bool b]] w fun e w' => e = .returned (.tuple #[.agg #[.int .u8 0, .int .i64 0, .string ⟨#[]⟩, .bool false], .int .i64 8]) ∧ Below w.heap.size w w' := by
  go_enter Tryd.func23, Tryd.ntmps23
  go_wp2_with fail
  refine (truths1 k i s b _ _ (by simp) (by simp [go_sem]) (by simp [go_sem]) (by simp [go_sem]) (by simp [go_sem])).mono ?_
  rintro e w1 ⟨rfl, hb⟩
  obtain ⟨hc, hf⟩ := bcell hb
  simp at hc hf
  have hz := hb.size
  simp at hz
  have hb0 := bst3 hb
  clear hb
  go_wp2_with fail
  refine bodyPost_ret (v := .tuple #[.agg #[.int .u8 0, .int .i64 0, .string ⟨#[]⟩, .bool false], .int .i64 8]) (by simp [results, Tryd.results23, go_sem, hc, hz]) rfl ⟨rfl, ?_⟩
  repeat (refine Below.setCell ?_ (by simp <;> omega) _)
  exact hb0
theorem not_yes (k i : Int) (s : ByteArray) (b : Bool) (w : World) (h : tB k = true) (h3 : (k == 3) = true) :
    Calls Tryd.prog 23 #[.agg #[.int .u8 k, .int .i64 i, .string s, .bool b]] w fun e w' => e = .returned (.tuple #[.agg #[.int .u8 3, .int .i64 0, .string ⟨#[]⟩, .bool (!b)], .int .i64 0]) ∧ Below w.heap.size w w' := by
  go_enter Tryd.func23, Tryd.ntmps23
  go_wp2_with fail
  refine (truths1 k i s b _ _ (by simp) (by simp [go_sem]) (by simp [go_sem]) (by simp [go_sem]) (by simp [go_sem])).mono ?_
  rintro e w1 ⟨rfl, hb⟩
  obtain ⟨hc, hf⟩ := bcell hb
  simp at hc hf
  have hz := hb.size
  simp at hz
  have hb0 := bst3 hb
  clear hb
  go_wp2_with fail
  refine (open_any k i s b _).mono ?_
  rintro e w2 ⟨rfl, hb⟩
  replace hc := fun b o (h : b < w.heap.size + 1 + 1 + 1) => ((bcell hb).1 b o (Nat.lt_of_lt_of_le h hz)).trans (hc b o h)
  replace hf := fun b o (h : b < w.heap.size + 1 + 1 + 1) => ((bcell hb).2 b o (Nat.lt_of_lt_of_le h hz)).trans (hf b o h)
  replace hb0 := below_then hb0 hb
  replace hz := Nat.le_trans hz hb.size
  clear hb
  go_wp2_with fail
  refine (truth_b _ _).mono ?_
  rintro e w3 ⟨rfl, hb⟩
  replace hc := fun b o (h : b < w.heap.size + 1 + 1 + 1) => ((bcell hb).1 b o (Nat.lt_of_lt_of_le h hz)).trans (hc b o h)
  replace hf := fun b o (h : b < w.heap.size + 1 + 1 + 1) => ((bcell hb).2 b o (Nat.lt_of_lt_of_le h hz)).trans (hf b o h)
  replace hb0 := below_then hb0 hb
  replace hz := Nat.le_trans hz hb.size
  clear hb
  go_wp2_with fail
  refine bodyPost_ret (v := .tuple #[.agg #[.int .u8 3, .int .i64 0, .string ⟨#[]⟩, .bool (!b)], .int .i64 0]) (by simp [results, Tryd.results23, go_sem, hc, hz]) rfl ⟨rfl, ?_⟩
  repeat (refine Below.setCell ?_ (by simp <;> omega) _)
  exact hb0
theorem not_un (k i : Int) (s : ByteArray) (b : Bool) (w : World) (h : tB k = true) (h3 : (k == 3) = false) :
    Calls Tryd.prog 23 #[.agg #[.int .u8 k, .int .i64 i, .string s, .bool b]] w fun e w' => e = .returned (.tuple #[.agg #[.int .u8 0, .int .i64 0, .string ⟨#[]⟩, .bool false], .int .i64 0]) ∧ Below w.heap.size w w' := by
  go_enter Tryd.func23, Tryd.ntmps23
  go_wp2_with fail
  refine (truths1 k i s b _ _ (by simp) (by simp [go_sem]) (by simp [go_sem]) (by simp [go_sem]) (by simp [go_sem])).mono ?_
  rintro e w1 ⟨rfl, hb⟩
  obtain ⟨hc, hf⟩ := bcell hb
  simp at hc hf
  have hz := hb.size
  simp at hz
  have hb0 := bst3 hb
  clear hb
  go_wp2_with fail
  refine (open_any k i s b _).mono ?_
  rintro e w2 ⟨rfl, hb⟩
  replace hc := fun b o (h : b < w.heap.size + 1 + 1 + 1) => ((bcell hb).1 b o (Nat.lt_of_lt_of_le h hz)).trans (hc b o h)
  replace hf := fun b o (h : b < w.heap.size + 1 + 1 + 1) => ((bcell hb).2 b o (Nat.lt_of_lt_of_le h hz)).trans (hf b o h)
  replace hb0 := below_then hb0 hb
  replace hz := Nat.le_trans hz hb.size
  clear hb
  go_wp2_with fail
  refine bodyPost_ret (v := .tuple #[.agg #[.int .u8 0, .int .i64 0, .string ⟨#[]⟩, .bool false], .int .i64 0]) (by simp [results, Tryd.results23, go_sem, hc, hz]) rfl ⟨rfl, ?_⟩
  repeat (refine Below.setCell ?_ (by simp <;> omega) _)
  exact hb0
def notE (k : Int) : Int := if tB k = true then 0 else 8
def notK (k : Int) : Int := if tB k = true then (if (k == 3) = true then 3 else 0) else 0
def notB (k : Int) (b : Bool) : Bool := if tB k = true then (if (k == 3) = true then !b else false) else false
theorem not_any (k i : Int) (s : ByteArray) (b : Bool) (w : World) :
    Calls Tryd.prog 23 #[.agg #[.int .u8 k, .int .i64 i, .string s, .bool b]] w fun e w' => e = .returned (.tuple #[.agg #[.int .u8 (notK k), .int .i64 0, .string ⟨#[]⟩, .bool (notB k b)], .int .i64 (notE k)]) ∧ Below w.heap.size w w' := by
  cases h : tB k with
  | false =>
    rw [show notK k = 0 from by simp [notK, h], show notB k b = false from by simp [notB, h], show notE k = 8 from by simp [notE, h]]
    exact not_no k i s b w h
  | true =>
    rw [show notE k = 0 from by simp [notE, h]]
    cases h3 : (k == 3) with
    | true =>
      rw [show notK k = 3 from by simp [notK, h, h3], show notB k b = !b from by simp [notB, h, h3]]
      exact not_yes k i s b w h h3
    | false =>
      rw [show notK k = 0 from by simp [notK, h, h3], show notB k b = false from by simp [notB, h, h3]]
      exact not_un k i s b w h h3
end Go.Proofs.YtpkohkhgimmkhaaDoor
