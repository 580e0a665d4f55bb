/-
  The contract of cell.Right: it tells what the reference's Right tells. Conditions: the text is no longer than 100 bytes; the library's tables are as laid.
-/
import Derived.Test.YtpkohkhgimmkhaaDoorCellRight
import Derived.Test.YtpkohkhgimmkhaaDoorCellLaws1
namespace Go.Proofs.YtpkohkhgimmkhaaDoor
open Go.RowKit Go.Sort
set_option linter.unusedVariables false
set_option linter.unusedSimpArgs false

theorem valid_is {s : ByteArray} {v : Bool} (h : Lib.validD s.data.toList = v) (w : World) (hs : s.size ≤ 100) (he : Env w) :
    Calls Tryd.prog 41 #[.string s] w fun e w' => e = .returned (.bool v) ∧ Below w.heap.size w w' := h ▸ Any.utf8_ValidString Tryd.laysValid s w (by omega) he.2.2
theorem str_size {s : ByteArray} (h : (s.toList == ([] : List UInt8)) = false) : ¬ s.toList = [] := by simpa using h
theorem ret_bool2 {a b : Bool} (h : a = b) : Ending.returned (.bool a) = .returned (.bool b) := by rw [h]
theorem index_is {s : ByteArray} {n : Int} (h : Lib.indexByte s.data.toList 0 = n) (w : World) :
    Calls Tryd.prog 42 #[.string s, .int .u8 0] w fun e w' => e = .returned (.int .i64 n) ∧ w = w' := (Tryd.strings_IndexByte s 0 w).mono fun e w' ⟨a, b⟩ => ⟨by rw [a, ← h]; rfl, b.symm⟩
theorem below2 (w : World) (a b : Obj) : Below w.heap.size w ((w.alloc a).alloc b) := ((Below.refl w.heap.size w).alloc (Nat.le_refl _) a).alloc (by simp) b
theorem r0_i (i : Int) (s : ByteArray) (b : Bool) (w : World) (he : Env w) (hi : (i == 0) = false) :
    Calls Tryd.prog 28 #[.agg #[.int .u8 0, .int .i64 i, .string s, .bool b]] w fun e w' => e = .returned (.bool false) ∧ Below w.heap.size w w' := by
  go_enter Tryd.func28, Tryd.ntmps28
  go_wp2_with fail
  go_ret
  exact ⟨rfl, by repeat (first | exact below2 _ _ _ | exact below1 _ _ | refine Below.setCell ?_ (by simp) _)⟩
theorem r0_s (s : ByteArray) (b : Bool) (w : World) (he : Env w) (hs : (s.toList == ([] : List UInt8)) = false) :
    Calls Tryd.prog 28 #[.agg #[.int .u8 0, .int .i64 0, .string s, .bool b]] w fun e w' => e = .returned (.bool false) ∧ Below w.heap.size w w' := by
  go_enter Tryd.func28, Tryd.ntmps28
  go_wp2_with fail
  go_ret
  exact ⟨rfl, by repeat (first | exact below2 _ _ _ | exact below1 _ _ | refine Below.setCell ?_ (by simp) _)⟩
theorem r0_b  (w : World) (he : Env w)  :
    Calls Tryd.prog 28 #[.agg #[.int .u8 0, .int .i64 0, .string ⟨#[]⟩, .bool true]] w fun e w' => e = .returned (.bool false) ∧ Below w.heap.size w w' := by
  go_enter Tryd.func28, Tryd.ntmps28
  go_wp2_with fail
  go_ret
  exact ⟨rfl, by repeat (first | exact below2 _ _ _ | exact below1 _ _ | refine Below.setCell ?_ (by simp) _)⟩
theorem r1_s (i : Int) (s : ByteArray) (b : Bool) (w : World) (he : Env w) (hs : (s.toList == ([] : List UInt8)) = false) :
    Calls Tryd.prog 28 #[.agg #[.int .u8 1, .int .i64 i, .string s, .bool b]] w fun e w' => e = .returned (.bool false) ∧ Below w.heap.size w w' := by
  go_enter Tryd.func28, Tryd.ntmps28
  go_wp2_with fail
  go_ret
  exact ⟨rfl, by repeat (first | exact below2 _ _ _ | exact below1 _ _ | refine Below.setCell ?_ (by simp) _)⟩
theorem r1_b (i : Int) (w : World) (he : Env w)  :
    Calls Tryd.prog 28 #[.agg #[.int .u8 1, .int .i64 i, .string ⟨#[]⟩, .bool true]] w fun e w' => e = .returned (.bool false) ∧ Below w.heap.size w w' := by
  go_enter Tryd.func28, Tryd.ntmps28
  go_wp2_with fail
  go_ret
  exact ⟨rfl, by repeat (first | exact below2 _ _ _ | exact below1 _ _ | refine Below.setCell ?_ (by simp) _)⟩
theorem r2_i (i : Int) (s : ByteArray) (b : Bool) (w : World) (he : Env w) (hi : (i == 0) = false) :
    Calls Tryd.prog 28 #[.agg #[.int .u8 2, .int .i64 i, .string s, .bool b]] w fun e w' => e = .returned (.bool false) ∧ Below w.heap.size w w' := by
  go_enter Tryd.func28, Tryd.ntmps28
  go_wp2_with fail
  go_ret
  exact ⟨rfl, by repeat (first | exact below2 _ _ _ | exact below1 _ _ | refine Below.setCell ?_ (by simp) _)⟩
theorem r2_b (s : ByteArray) (w : World) (he : Env w)  :
    Calls Tryd.prog 28 #[.agg #[.int .u8 2, .int .i64 0, .string s, .bool true]] w fun e w' => e = .returned (.bool false) ∧ Below w.heap.size w w' := by
  go_enter Tryd.func28, Tryd.ntmps28
  go_wp2_with fail
  go_ret
  exact ⟨rfl, by repeat (first | exact below2 _ _ _ | exact below1 _ _ | refine Below.setCell ?_ (by simp) _)⟩
theorem r3_i (i : Int) (s : ByteArray) (b : Bool) (w : World) (he : Env w) (hi : (i == 0) = false) :
    Calls Tryd.prog 28 #[.agg #[.int .u8 3, .int .i64 i, .string s, .bool b]] w fun e w' => e = .returned (.bool false) ∧ Below w.heap.size w w' := by
  go_enter Tryd.func28, Tryd.ntmps28
  go_wp2_with fail
  go_ret
  exact ⟨rfl, by repeat (first | exact below2 _ _ _ | exact below1 _ _ | refine Below.setCell ?_ (by simp) _)⟩
theorem r3_s (s : ByteArray) (b : Bool) (w : World) (he : Env w) (hs : (s.toList == ([] : List UInt8)) = false) :
    Calls Tryd.prog 28 #[.agg #[.int .u8 3, .int .i64 0, .string s, .bool b]] w fun e w' => e = .returned (.bool false) ∧ Below w.heap.size w w' := by
  go_enter Tryd.func28, Tryd.ntmps28
  go_wp2_with fail
  go_ret
  exact ⟨rfl, by repeat (first | exact below2 _ _ _ | exact below1 _ _ | refine Below.setCell ?_ (by simp) _)⟩
theorem r2_l (s : ByteArray) (w : World) (he : Env w) (hl : 60 < (s.size : Int)) :
    Calls Tryd.prog 28 #[.agg #[.int .u8 2, .int .i64 0, .string s, .bool false]] w fun e w' => e = .returned (.bool false) ∧ Below w.heap.size w w' := by
  go_enter Tryd.func28, Tryd.ntmps28
  go_wp2_with fail
  go_ret
  exact ⟨rfl, by repeat (first | exact below2 _ _ _ | exact below1 _ _ | refine Below.setCell ?_ (by simp) _)⟩
theorem rk (k : Int) (i : Int) (s : ByteArray) (b : Bool) (w : World) (he : Env w) (h0 : (k == 0) = false) (h1 : (k == 1) = false) (h2 : (k == 2) = false) (h3 : (k == 3) = false) :
    Calls Tryd.prog 28 #[.agg #[.int .u8 k, .int .i64 i, .string s, .bool b]] w fun e w' => e = .returned (.bool false) ∧ Below w.heap.size w w' := by
  go_enter Tryd.func28, Tryd.ntmps28
  go_wp2_with fail
  go_ret
  exact ⟨rfl, by repeat (first | exact below2 _ _ _ | exact below1 _ _ | refine Below.setCell ?_ (by simp) _)⟩
theorem r0_ok  (w : World) (he : Env w)  :
    Calls Tryd.prog 28 #[.agg #[.int .u8 0, .int .i64 0, .string ⟨#[]⟩, .bool false]] w fun e w' => e = .returned (.bool true) ∧ Below w.heap.size w w' := by
  go_enter Tryd.func28, Tryd.ntmps28
  go_wp2_with fail
  refine (valid_is (s := ⟨#[]⟩) (v := true) rfl _ (by first | decide | omega) (he.below (by repeat (first | exact below2 _ _ _ | exact below1 _ _ | refine Below.setCell ?_ (by simp) _)))).mono ?_
  rintro e w1 ⟨rfl, hb⟩
  have c2 : w1.cell? ⟨w.heap.size, 2, none⟩ = some (.string ⟨#[]⟩) := keep hb (by simp [go_sem])
  have hb0 : Below w.heap.size w w1 := below_then (by repeat (first | exact below2 _ _ _ | exact below1 _ _ | refine Below.setCell ?_ (by simp) _)) hb
  clear hb
  go_wp2_with fail
  refine (index_is (s := ⟨#[]⟩) (n := -1) rfl _).mono ?_
  rintro e w2 ⟨rfl, rfl⟩
  go_wp2_with fail
  go_ret
  exact ⟨rfl, hb0⟩
theorem r1_ok (i : Int) (w : World) (he : Env w)  :
    Calls Tryd.prog 28 #[.agg #[.int .u8 1, .int .i64 i, .string ⟨#[]⟩, .bool false]] w fun e w' => e = .returned (.bool true) ∧ Below w.heap.size w w' := by
  go_enter Tryd.func28, Tryd.ntmps28
  go_wp2_with fail
  refine (valid_is (s := ⟨#[]⟩) (v := true) rfl _ (by first | decide | omega) (he.below (by repeat (first | exact below2 _ _ _ | exact below1 _ _ | refine Below.setCell ?_ (by simp) _)))).mono ?_
  rintro e w1 ⟨rfl, hb⟩
  have c2 : w1.cell? ⟨w.heap.size, 2, none⟩ = some (.string ⟨#[]⟩) := keep hb (by simp [go_sem])
  have hb0 : Below w.heap.size w w1 := below_then (by repeat (first | exact below2 _ _ _ | exact below1 _ _ | refine Below.setCell ?_ (by simp) _)) hb
  clear hb
  go_wp2_with fail
  refine (index_is (s := ⟨#[]⟩) (n := -1) rfl _).mono ?_
  rintro e w2 ⟨rfl, rfl⟩
  go_wp2_with fail
  go_ret
  exact ⟨rfl, hb0⟩
theorem r3_ok (b : Bool) (w : World) (he : Env w)  :
    Calls Tryd.prog 28 #[.agg #[.int .u8 3, .int .i64 0, .string ⟨#[]⟩, .bool b]] w fun e w' => e = .returned (.bool true) ∧ Below w.heap.size w w' := by
  go_enter Tryd.func28, Tryd.ntmps28
  go_wp2_with fail
  refine (valid_is (s := ⟨#[]⟩) (v := true) rfl _ (by first | decide | omega) (he.below (by repeat (first | exact below2 _ _ _ | exact below1 _ _ | refine Below.setCell ?_ (by simp) _)))).mono ?_
  rintro e w1 ⟨rfl, hb⟩
  have c2 : w1.cell? ⟨w.heap.size, 2, none⟩ = some (.string ⟨#[]⟩) := keep hb (by simp [go_sem])
  have hb0 : Below w.heap.size w w1 := below_then (by repeat (first | exact below2 _ _ _ | exact below1 _ _ | refine Below.setCell ?_ (by simp) _)) hb
  clear hb
  go_wp2_with fail
  refine (index_is (s := ⟨#[]⟩) (n := -1) rfl _).mono ?_
  rintro e w2 ⟨rfl, rfl⟩
  go_wp2_with fail
  go_ret
  exact ⟨rfl, hb0⟩
theorem r2_v (s : ByteArray) (w : World) (he : Env w) (hl : (s.size : Int) ≤ 60) (hv : Hid (Lib.validD s.data.toList = false)) :
    Calls Tryd.prog 28 #[.agg #[.int .u8 2, .int .i64 0, .string s, .bool false]] w fun e w' => e = .returned (.bool false) ∧ Below w.heap.size w w' := by
  go_enter Tryd.func28, Tryd.ntmps28
  go_wp2_with fail
  refine (valid_is hv.out _ (by first | decide | omega) (he.below (by repeat (first | exact below2 _ _ _ | exact below1 _ _ | refine Below.setCell ?_ (by simp) _)))).mono ?_
  rintro e w1 ⟨rfl, hb⟩
  have c2 : w1.cell? ⟨w.heap.size, 2, none⟩ = some (.string s) := keep hb (by simp [go_sem])
  have hb0 : Below w.heap.size w w1 := below_then (by repeat (first | exact below2 _ _ _ | exact below1 _ _ | refine Below.setCell ?_ (by simp) _)) hb
  clear hb
  go_wp2_with fail
  go_ret
  exact ⟨rfl, hb0⟩
theorem r2_z (s : ByteArray) (w : World) (he : Env w) (hl : (s.size : Int) ≤ 60) (hv : Hid (Lib.validD s.data.toList = true)) (n : Int) (hn : Hid (Lib.indexByte s.data.toList 0 = n)) (h0 : 0 ≤ n) :
    Calls Tryd.prog 28 #[.agg #[.int .u8 2, .int .i64 0, .string s, .bool false]] w fun e w' => e = .returned (.bool false) ∧ Below w.heap.size w w' := by
  go_enter Tryd.func28, Tryd.ntmps28
  go_wp2_with fail
  refine (valid_is hv.out _ (by first | decide | omega) (he.below (by repeat (first | exact below2 _ _ _ | exact below1 _ _ | refine Below.setCell ?_ (by simp) _)))).mono ?_
  rintro e w1 ⟨rfl, hb⟩
  have c2 : w1.cell? ⟨w.heap.size, 2, none⟩ = some (.string s) := keep hb (by simp [go_sem])
  have hb0 : Below w.heap.size w w1 := below_then (by repeat (first | exact below2 _ _ _ | exact below1 _ _ | refine Below.setCell ?_ (by simp) _)) hb
  clear hb
  go_wp2_with fail
  refine (index_is hn.out _).mono ?_
  rintro e w2 ⟨rfl, rfl⟩
  go_wp2_with fail
  go_ret
  exact ⟨ret_bool2 (decide_eq_false (by omega)), hb0⟩
theorem r2_ok (s : ByteArray) (w : World) (he : Env w) (hl : (s.size : Int) ≤ 60) (hv : Hid (Lib.validD s.data.toList = true)) (n : Int) (hn : Hid (Lib.indexByte s.data.toList 0 = n)) (h0 : n < 0) :
    Calls Tryd.prog 28 #[.agg #[.int .u8 2, .int .i64 0, .string s, .bool false]] w fun e w' => e = .returned (.bool true) ∧ Below w.heap.size w w' := by
  go_enter Tryd.func28, Tryd.ntmps28
  go_wp2_with fail
  refine (valid_is hv.out _ (by first | decide | omega) (he.below (by repeat (first | exact below2 _ _ _ | exact below1 _ _ | refine Below.setCell ?_ (by simp) _)))).mono ?_
  rintro e w1 ⟨rfl, hb⟩
  have c2 : w1.cell? ⟨w.heap.size, 2, none⟩ = some (.string s) := keep hb (by simp [go_sem])
  have hb0 : Below w.heap.size w w1 := below_then (by repeat (first | exact below2 _ _ _ | exact below1 _ _ | refine Below.setCell ?_ (by simp) _)) hb
  clear hb
  go_wp2_with fail
  refine (index_is hn.out _).mono ?_
  rintro e w2 ⟨rfl, rfl⟩
  go_wp2_with fail
  go_ret
  exact ⟨rfl, hb0⟩
theorem cright_any (k i : Int) (s : ByteArray) (b : Bool) (w : World) (he : Env w) (hs : s.size ≤ 100) :
    Calls Tryd.prog 28 #[.agg #[.int .u8 k, .int .i64 i, .string s, .bool b]] w fun e w' => e = .returned (.bool (rightV k i s b)) ∧ Below w.heap.size w w' := by
  unfold rightV
  by_cases k0 : k = 0
  · subst k0
    rw [if_pos rfl]
    by_cases hi : i = 0
    · subst hi
      by_cases hz : s.toList = []
      · obtain rfl := empty_str hz
        cases b with
        | true => simpa using r0_b w he
        | false =>
          have e : (decide ((0 : Int) = 0 ∧ (⟨#[]⟩ : ByteArray).toList = []) && !false) = true := by simp [Lib.toList_data]
          rw [e]; exact r0_ok w he
      · have e : (decide ((0 : Int) = 0 ∧ s.toList = []) && !b) = false := by simp [hz]
        rw [e]; exact r0_s s b w he (by simpa using hz)
    · have e : (decide (i = 0 ∧ s.toList = []) && !b) = false := by simp [hi]
      rw [e]; exact r0_i i s b w he (beq_eq_false_iff_ne.2 hi)
  rw [if_neg k0]
  by_cases k1 : k = 1
  · subst k1
    rw [if_pos rfl]
    by_cases hz : s.toList = []
    · obtain rfl := empty_str hz
      cases b with
      | true => simpa using r1_b i w he
      | false =>
        have e : (decide ((⟨#[]⟩ : ByteArray).toList = []) && !false) = true := by simp [Lib.toList_data]
        rw [e]; exact r1_ok i w he
    · have e : (decide (s.toList = []) && !b) = false := by simp [hz]
      rw [e]; exact r1_s i s b w he (by simpa using hz)
  rw [if_neg k1]
  by_cases k2 : k = 2
  · subst k2
    rw [if_pos rfl]
    by_cases hi : i = 0
    · subst hi
      cases b with
      | true => simpa using r2_b s w he
      | false =>
        by_cases hl : s.size ≤ 60
        · have e : (decide ((0 : Int) = 0 ∧ s.size ≤ 60) && !false && wholeV s) = wholeV s := by simp [hl]
          rw [e, whole_eq]
          cases hv : Lib.validD s.data.toList with
          | false => exact r2_v s w he (by omega) (Lib.hid hv)
          | true =>
            by_cases hn : Lib.indexByte s.data.toList 0 < 0
            · rw [decide_eq_true hn]; exact r2_ok s w he (by omega) (Lib.hid hv) _ (Lib.hid rfl) hn
            · rw [decide_eq_false hn]; exact r2_z s w he (by omega) (Lib.hid hv) _ (Lib.hid rfl) (by omega)
        · have e : (decide ((0 : Int) = 0 ∧ s.size ≤ 60) && !false && wholeV s) = false := by simp [hl]
          rw [e]; exact r2_l s w he (by omega)
    · have e : (decide (i = 0 ∧ s.size ≤ 60) && !b && wholeV s) = false := by simp [hi]
      rw [e]; exact r2_i i s b w he (beq_eq_false_iff_ne.2 hi)
  rw [if_neg k2]
  by_cases k3 : k = 3
  · subst k3
    rw [if_pos rfl]
    by_cases hi : i = 0
    · subst hi
      by_cases hz : s.toList = []
      · obtain rfl := empty_str hz
        have e : decide ((0 : Int) = 0 ∧ (⟨#[]⟩ : ByteArray).toList = []) = true := by simp [Lib.toList_data]
        rw [e]; exact r3_ok b w he
      · have e : decide ((0 : Int) = 0 ∧ s.toList = []) = false := by simp [hz]
        rw [e]; exact r3_s s b w he (by simpa using hz)
    · have e : decide (i = 0 ∧ s.toList = []) = false := by simp [hi]
      rw [e]; exact r3_i i s b w he (beq_eq_false_iff_ne.2 hi)
  · rw [if_neg k3]
    exact rk k i s b w he (beq_eq_false_iff_ne.2 k0) (beq_eq_false_iff_ne.2 k1) (beq_eq_false_iff_ne.2 k2) (beq_eq_false_iff_ne.2 k3)
end Go.Proofs.YtpkohkhgimmkhaaDoor
