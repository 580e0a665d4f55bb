/-
  The contract of cell.Right at a text: is it valid, without a nought, and no longer than 60 bytes? Conditions: the text is no longer than 4000 bytes; the library's tables are as laid.
-/
import Derived.Test.YtfbikpddpdkllaaDoorLexWholes
import Derived.Test.YtfbikpddpdkllaaDoorLexLitAM
namespace Go.Proofs.YtfbikpddpdkllaaDoor
open Go.RowKit Go.Sort
set_option linter.unusedVariables false
set_option linter.unusedSimpArgs false

theorem keep {W w1 : World} {b o : Nat} {x : Value} (hb : Below W.heap.size W w1) (h : W.cell? ⟨b, o, none⟩ = some x) : w1.cell? ⟨b, o, none⟩ = some x := (hb.cell (p := ⟨b, o, none⟩) (block_of_cell h)).trans h
theorem keep_alloc {W : World} {b o : Nat} {x : Value} (q : Obj) (h : W.cell? ⟨b, o, none⟩ = some x) : (W.alloc q).cell? ⟨b, o, none⟩ = some x := keep (below1 W q) h
theorem valid_is {s : ByteArray} {v : Bool} (h : Lib.validD s.data.toList = v) (w : World) (hs : s.size ≤ 4000) (he : UEnv w) :
    Calls Tryd.prog 40 #[.string s] w fun e w' => e = .returned (.bool v) ∧ Below w.heap.size w w' := h ▸ Any.utf8_ValidString Tryd.laysValid s w (by omega) he
theorem str_size {s : ByteArray} (h : (s.toList == ([] : List UInt8)) = false) : ¬ s.toList = [] := by simpa using h
theorem ret_bool2 {a b : Bool} (h : a = b) : Ending.returned (.bool a) = .returned (.bool b) := by rw [h]
theorem index_is {s : ByteArray} {n : Int} (h : Lib.indexByte s.data.toList 0 = n) (w : World) :
    Calls Tryd.prog 16 #[.string s, .int .u8 0] w fun e w' => e = .returned (.int .i64 n) ∧ w = w' := (Tryd.strings_IndexByte s 0 w).mono fun e w' ⟨a, b⟩ => ⟨by rw [a, ← h]; rfl, b.symm⟩
theorem below2 (w : World) (a b : Obj) : Below w.heap.size w ((w.alloc a).alloc b) := ((Below.refl w.heap.size w).alloc (Nat.le_refl _) a).alloc (by simp) b
theorem r2_l (s : ByteArray) (w : World) (he : UEnv w) (hl : 60 < (s.size : Int)) :
    Calls Tryd.prog 41 #[.agg #[.int .u8 2, .int .i64 0, .string s, .bool false]] w fun e w' => e = .returned (.bool false) ∧ Below w.heap.size w w' := by
  go_enter Tryd.func41, Tryd.ntmps41
  go_wp2_with fail
  go_ret
  exact ⟨rfl, by repeat (first | exact below2 _ _ _ | exact below1 _ _ | refine Below.setCell ?_ (by simp) _)⟩
theorem r2_v (s : ByteArray) (w : World) (he : UEnv w) (hl : (s.size : Int) ≤ 60) (hv : Hid (Lib.validD s.data.toList = false)) :
    Calls Tryd.prog 41 #[.agg #[.int .u8 2, .int .i64 0, .string s, .bool false]] w fun e w' => e = .returned (.bool false) ∧ Below w.heap.size w w' := by
  go_enter Tryd.func41, Tryd.ntmps41
  go_wp2_with fail
  refine (valid_is hv.out _ (by first | decide | omega) (he.below (by repeat (first | exact below2 _ _ _ | exact below1 _ _ | refine Below.setCell ?_ (by simp) _)))).mono ?_
  rintro e w1 ⟨rfl, hb⟩
  have c2 : w1.cell? ⟨w.heap.size, 2, none⟩ = some (.string s) := keep hb (by simp [go_sem])
  have hb0 : Below w.heap.size w w1 := below_then (by repeat (first | exact below2 _ _ _ | exact below1 _ _ | refine Below.setCell ?_ (by simp) _)) hb
  clear hb
  go_wp2_with fail
  go_ret
  exact ⟨rfl, hb0⟩
theorem r2_z (s : ByteArray) (w : World) (he : UEnv w) (hl : (s.size : Int) ≤ 60) (hv : Hid (Lib.validD s.data.toList = true)) (n : Int) (hn : Hid (Lib.indexByte s.data.toList 0 = n)) (h0 : 0 ≤ n) :
    Calls Tryd.prog 41 #[.agg #[.int .u8 2, .int .i64 0, .string s, .bool false]] w fun e w' => e = .returned (.bool false) ∧ Below w.heap.size w w' := by
  go_enter Tryd.func41, Tryd.ntmps41
  go_wp2_with fail
  refine (valid_is hv.out _ (by first | decide | omega) (he.below (by repeat (first | exact below2 _ _ _ | exact below1 _ _ | refine Below.setCell ?_ (by simp) _)))).mono ?_
  rintro e w1 ⟨rfl, hb⟩
  have c2 : w1.cell? ⟨w.heap.size, 2, none⟩ = some (.string s) := keep hb (by simp [go_sem])
  have hb0 : Below w.heap.size w w1 := below_then (by repeat (first | exact below2 _ _ _ | exact below1 _ _ | refine Below.setCell ?_ (by simp) _)) hb
  clear hb
  go_wp2_with fail
  refine (index_is hn.out _).mono ?_
  rintro e w2 ⟨rfl, rfl⟩
  go_wp2_with fail
  go_ret
  exact ⟨ret_bool2 (decide_eq_false (by omega)), hb0⟩
theorem r2_ok (s : ByteArray) (w : World) (he : UEnv w) (hl : (s.size : Int) ≤ 60) (hv : Hid (Lib.validD s.data.toList = true)) (n : Int) (hn : Hid (Lib.indexByte s.data.toList 0 = n)) (h0 : n < 0) :
    Calls Tryd.prog 41 #[.agg #[.int .u8 2, .int .i64 0, .string s, .bool false]] w fun e w' => e = .returned (.bool true) ∧ Below w.heap.size w w' := by
  go_enter Tryd.func41, Tryd.ntmps41
  go_wp2_with fail
  refine (valid_is hv.out _ (by first | decide | omega) (he.below (by repeat (first | exact below2 _ _ _ | exact below1 _ _ | refine Below.setCell ?_ (by simp) _)))).mono ?_
  rintro e w1 ⟨rfl, hb⟩
  have c2 : w1.cell? ⟨w.heap.size, 2, none⟩ = some (.string s) := keep hb (by simp [go_sem])
  have hb0 : Below w.heap.size w w1 := below_then (by repeat (first | exact below2 _ _ _ | exact below1 _ _ | refine Below.setCell ?_ (by simp) _)) hb
  clear hb
  go_wp2_with fail
  refine (index_is hn.out _).mono ?_
  rintro e w2 ⟨rfl, rfl⟩
  go_wp2_with fail
  go_ret
  exact ⟨rfl, hb0⟩
end Go.Proofs.YtfbikpddpdkllaaDoor
