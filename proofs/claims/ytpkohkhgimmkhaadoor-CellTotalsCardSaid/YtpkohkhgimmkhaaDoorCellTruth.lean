/-
  Contracts of package cell's truths, at one and two values. Conditions: the slice lies in a block, its cells hold the values.
-/
import Derived.Test.YtpkohkhgimmkhaaDoorCellOpen
import Derived.LoopN
namespace Go.Proofs.YtpkohkhgimmkhaaDoor
open Go.RowKit
set_option linter.unusedVariables false
set_option linter.unusedSimpArgs false

/-- may it be truth? -/
def tB (k : Int) : Bool := k == 3 || !any3 k
theorem tB_3 {k : Int} (h : (k == 3) = true) : tB k = true := by unfold tB; rw [h]; rfl
theorem tB_n {k : Int} (h : (k == 3) = false) : tB k = !any3 k := by unfold tB; rw [h]; rfl
theorem cellb {w w1 : World} (hb : Below w.heap.size w w1) {B o : Nat} (hB : B < w.heap.size) {v : Value} (c : w.cell? ⟨B, o, none⟩ = some v) : w1.cell? ⟨B, o, none⟩ = some v := (hb.cell (p := ⟨B, o, none⟩) hB).trans c
theorem below_then {w w1 w2 : World} (h : Below w.heap.size w w1) (k : Below w1.heap.size w1 w2) : Below w.heap.size w w2 := h.trans (k.mono h.size)
set_option maxRecDepth 100000 in
theorem tr1_3 (k i : Int) (s : ByteArray) (b : Bool) (B : Nat) (w : World) (hB : B < w.heap.size) (c0 : w.cell? ⟨B, 0, none⟩ = some (.int .u8 k)) (c1 : w.cell? ⟨B, 1, none⟩ = some (.int .i64 i)) (c2 : w.cell? ⟨B, 2, none⟩ = some (.string s)) (c3 : w.cell? ⟨B, 3, none⟩ = some (.bool b)) (h_k : (k == 3) = true) :
    Calls Tryd.prog 37 #[.slice (some ⟨B, 0, none⟩) 1 1] w fun e w' => e = .returned (.bool true) ∧ Below w.heap.size w w' := by
  go_enter Tryd.func37, Tryd.ntmps37
  go_wp2_with fail
  refine wp_loop_rounds 2 ?_
  rw [rounds_succ]
  go_wp2_with fail
  refine (open_any k i s b _).mono ?_
  rintro e x0 ⟨rfl, hb⟩
  rw [size_alloc] at hb
  have hbx0 := bst hb
  have hBx0 := Nat.lt_of_lt_of_le hB hbx0.size
  clear hb
  go_wp2_with fail
  rw [rounds_succ]
  go_wp2_with fail
  go_ret
  exact ⟨rfl, hbx0⟩
set_option maxRecDepth 100000 in
theorem tr1_n (k i : Int) (s : ByteArray) (b : Bool) (B : Nat) (w : World) (hB : B < w.heap.size) (c0 : w.cell? ⟨B, 0, none⟩ = some (.int .u8 k)) (c1 : w.cell? ⟨B, 1, none⟩ = some (.int .i64 i)) (c2 : w.cell? ⟨B, 2, none⟩ = some (.string s)) (c3 : w.cell? ⟨B, 3, none⟩ = some (.bool b)) (h_k : (k == 3) = false) (a_k : any3 k = false) :
    Calls Tryd.prog 37 #[.slice (some ⟨B, 0, none⟩) 1 1] w fun e w' => e = .returned (.bool true) ∧ Below w.heap.size w w' := by
  go_enter Tryd.func37, Tryd.ntmps37
  go_wp2_with fail
  refine wp_loop_rounds 2 ?_
  rw [rounds_succ]
  go_wp2_with fail
  refine (open_any k i s b _).mono ?_
  rintro e x0 ⟨rfl, hb⟩
  rw [size_alloc] at hb
  have hbx0 := bst hb
  obtain ⟨v0, v1, v2, v3⟩ := box4 hb
  have hz : w.heap.size < x0.heap.size := by have := hb.size; rw [size_alloc] at this; omega
  have hBx0 := Nat.lt_of_lt_of_le hB hbx0.size
  clear hb
  go_wp2_with fail
  refine (open_any k i s b _).mono ?_
  rintro e y0 ⟨rfl, hb⟩
  have hby0 := below_then hbx0 hb
  have hBy0 := Nat.lt_of_lt_of_le hBx0 hb.size
  clear hb v0 v1 v2 v3 hz
  go_wp2_with fail
  rw [rounds_succ]
  go_wp2_with fail
  go_ret
  exact ⟨rfl, hby0⟩
set_option maxRecDepth 100000 in
theorem tr1_b (k i : Int) (s : ByteArray) (b : Bool) (B : Nat) (w : World) (hB : B < w.heap.size) (c0 : w.cell? ⟨B, 0, none⟩ = some (.int .u8 k)) (c1 : w.cell? ⟨B, 1, none⟩ = some (.int .i64 i)) (c2 : w.cell? ⟨B, 2, none⟩ = some (.string s)) (c3 : w.cell? ⟨B, 3, none⟩ = some (.bool b)) (h_k : (k == 3) = false) (a_k : any3 k = true) :
    Calls Tryd.prog 37 #[.slice (some ⟨B, 0, none⟩) 1 1] w fun e w' => e = .returned (.bool false) ∧ Below w.heap.size w w' := by
  go_enter Tryd.func37, Tryd.ntmps37
  go_wp2_with fail
  refine wp_loop_rounds 2 ?_
  rw [rounds_succ]
  go_wp2_with fail
  refine (open_any k i s b _).mono ?_
  rintro e x0 ⟨rfl, hb⟩
  rw [size_alloc] at hb
  have hbx0 := bst hb
  obtain ⟨v0, v1, v2, v3⟩ := box4 hb
  have hz : w.heap.size < x0.heap.size := by have := hb.size; rw [size_alloc] at this; omega
  have hBx0 := Nat.lt_of_lt_of_le hB hbx0.size
  clear hb
  go_wp2_with fail
  refine (open_any k i s b _).mono ?_
  rintro e y0 ⟨rfl, hb⟩
  have hby0 := below_then hbx0 hb
  have hBy0 := Nat.lt_of_lt_of_le hBx0 hb.size
  clear hb v0 v1 v2 v3 hz
  go_wp2_with fail
  go_ret
  exact ⟨rfl, hby0⟩
set_option maxRecDepth 100000 in
theorem tr2_33 (k i : Int) (s : ByteArray) (b : Bool) (k2 i2 : Int) (s2 : ByteArray) (b2 : Bool) (B : Nat) (w : World) (hB : B < w.heap.size) (c0 : w.cell? ⟨B, 0, none⟩ = some (.int .u8 k)) (c1 : w.cell? ⟨B, 1, none⟩ = some (.int .i64 i)) (c2 : w.cell? ⟨B, 2, none⟩ = some (.string s)) (c3 : w.cell? ⟨B, 3, none⟩ = some (.bool b)) (c4 : w.cell? ⟨B, 4, none⟩ = some (.int .u8 k2)) (c5 : w.cell? ⟨B, 5, none⟩ = some (.int .i64 i2)) (c6 : w.cell? ⟨B, 6, none⟩ = some (.string s2)) (c7 : w.cell? ⟨B, 7, none⟩ = some (.bool b2)) (h_k : (k == 3) = true) (h_k2 : (k2 == 3) = true) :
    Calls Tryd.prog 37 #[.slice (some ⟨B, 0, none⟩) 2 2] w fun e w' => e = .returned (.bool true) ∧ Below w.heap.size w w' := by
  go_enter Tryd.func37, Tryd.ntmps37
  go_wp2_with fail
  refine wp_loop_rounds 3 ?_
  rw [rounds_succ]
  go_wp2_with fail
  refine (open_any k i s b _).mono ?_
  rintro e x0 ⟨rfl, hb⟩
  rw [size_alloc] at hb
  have hbx0 := bst hb
  replace c4 := cellb hbx0 hB c4
  replace c5 := cellb hbx0 hB c5
  replace c6 := cellb hbx0 hB c6
  replace c7 := cellb hbx0 hB c7
  have hBx0 := Nat.lt_of_lt_of_le hB hbx0.size
  clear hb
  go_wp2_with fail
  rw [rounds_succ]
  go_wp2_with fail
  refine (open_any k2 i2 s2 b2 _).mono ?_
  rintro e x1 ⟨rfl, hb⟩
  rw [size_alloc] at hb
  have hbx1 := bst hb
  have hBx1 := Nat.lt_of_lt_of_le hBx0 hbx1.size
  clear hb
  go_wp2_with fail
  rw [rounds_succ]
  go_wp2_with fail
  go_ret
  exact ⟨rfl, (below_then hbx0 hbx1)⟩
set_option maxRecDepth 100000 in
theorem tr2_3n (k i : Int) (s : ByteArray) (b : Bool) (k2 i2 : Int) (s2 : ByteArray) (b2 : Bool) (B : Nat) (w : World) (hB : B < w.heap.size) (c0 : w.cell? ⟨B, 0, none⟩ = some (.int .u8 k)) (c1 : w.cell? ⟨B, 1, none⟩ = some (.int .i64 i)) (c2 : w.cell? ⟨B, 2, none⟩ = some (.string s)) (c3 : w.cell? ⟨B, 3, none⟩ = some (.bool b)) (c4 : w.cell? ⟨B, 4, none⟩ = some (.int .u8 k2)) (c5 : w.cell? ⟨B, 5, none⟩ = some (.int .i64 i2)) (c6 : w.cell? ⟨B, 6, none⟩ = some (.string s2)) (c7 : w.cell? ⟨B, 7, none⟩ = some (.bool b2)) (h_k : (k == 3) = true) (h_k2 : (k2 == 3) = false) (a_k2 : any3 k2 = false) :
    Calls Tryd.prog 37 #[.slice (some ⟨B, 0, none⟩) 2 2] w fun e w' => e = .returned (.bool true) ∧ Below w.heap.size w w' := by
  go_enter Tryd.func37, Tryd.ntmps37
  go_wp2_with fail
  refine wp_loop_rounds 3 ?_
  rw [rounds_succ]
  go_wp2_with fail
  refine (open_any k i s b _).mono ?_
  rintro e x0 ⟨rfl, hb⟩
  rw [size_alloc] at hb
  have hbx0 := bst hb
  replace c4 := cellb hbx0 hB c4
  replace c5 := cellb hbx0 hB c5
  replace c6 := cellb hbx0 hB c6
  replace c7 := cellb hbx0 hB c7
  have hBx0 := Nat.lt_of_lt_of_le hB hbx0.size
  clear hb
  go_wp2_with fail
  rw [rounds_succ]
  go_wp2_with fail
  refine (open_any k2 i2 s2 b2 _).mono ?_
  rintro e x1 ⟨rfl, hb⟩
  rw [size_alloc] at hb
  have hbx1 := bst hb
  obtain ⟨v0, v1, v2, v3⟩ := box4 hb
  have hz : x0.heap.size < x1.heap.size := by have := hb.size; rw [size_alloc] at this; omega
  have hBx1 := Nat.lt_of_lt_of_le hBx0 hbx1.size
  clear hb
  go_wp2_with fail
  refine (open_any k2 i2 s2 b2 _).mono ?_
  rintro e y1 ⟨rfl, hb⟩
  have hby1 := below_then hbx1 hb
  have hBy1 := Nat.lt_of_lt_of_le hBx1 hb.size
  clear hb v0 v1 v2 v3 hz
  go_wp2_with fail
  rw [rounds_succ]
  go_wp2_with fail
  go_ret
  exact ⟨rfl, (below_then hbx0 hby1)⟩
set_option maxRecDepth 100000 in
theorem tr2_3b (k i : Int) (s : ByteArray) (b : Bool) (k2 i2 : Int) (s2 : ByteArray) (b2 : Bool) (B : Nat) (w : World) (hB : B < w.heap.size) (c0 : w.cell? ⟨B, 0, none⟩ = some (.int .u8 k)) (c1 : w.cell? ⟨B, 1, none⟩ = some (.int .i64 i)) (c2 : w.cell? ⟨B, 2, none⟩ = some (.string s)) (c3 : w.cell? ⟨B, 3, none⟩ = some (.bool b)) (c4 : w.cell? ⟨B, 4, none⟩ = some (.int .u8 k2)) (c5 : w.cell? ⟨B, 5, none⟩ = some (.int .i64 i2)) (c6 : w.cell? ⟨B, 6, none⟩ = some (.string s2)) (c7 : w.cell? ⟨B, 7, none⟩ = some (.bool b2)) (h_k : (k == 3) = true) (h_k2 : (k2 == 3) = false) (a_k2 : any3 k2 = true) :
    Calls Tryd.prog 37 #[.slice (some ⟨B, 0, none⟩) 2 2] w fun e w' => e = .returned (.bool false) ∧ Below w.heap.size w w' := by
  go_enter Tryd.func37, Tryd.ntmps37
  go_wp2_with fail
  refine wp_loop_rounds 3 ?_
  rw [rounds_succ]
  go_wp2_with fail
  refine (open_any k i s b _).mono ?_
  rintro e x0 ⟨rfl, hb⟩
  rw [size_alloc] at hb
  have hbx0 := bst hb
  replace c4 := cellb hbx0 hB c4
  replace c5 := cellb hbx0 hB c5
  replace c6 := cellb hbx0 hB c6
  replace c7 := cellb hbx0 hB c7
  have hBx0 := Nat.lt_of_lt_of_le hB hbx0.size
  clear hb
  go_wp2_with fail
  rw [rounds_succ]
  go_wp2_with fail
  refine (open_any k2 i2 s2 b2 _).mono ?_
  rintro e x1 ⟨rfl, hb⟩
  rw [size_alloc] at hb
  have hbx1 := bst hb
  obtain ⟨v0, v1, v2, v3⟩ := box4 hb
  have hz : x0.heap.size < x1.heap.size := by have := hb.size; rw [size_alloc] at this; omega
  have hBx1 := Nat.lt_of_lt_of_le hBx0 hbx1.size
  clear hb
  go_wp2_with fail
  refine (open_any k2 i2 s2 b2 _).mono ?_
  rintro e y1 ⟨rfl, hb⟩
  have hby1 := below_then hbx1 hb
  have hBy1 := Nat.lt_of_lt_of_le hBx1 hb.size
  clear hb v0 v1 v2 v3 hz
  go_wp2_with fail
  go_ret
  exact ⟨rfl, (below_then hbx0 hby1)⟩
set_option maxRecDepth 100000 in
theorem tr2_n3 (k i : Int) (s : ByteArray) (b : Bool) (k2 i2 : Int) (s2 : ByteArray) (b2 : Bool) (B : Nat) (w : World) (hB : B < w.heap.size) (c0 : w.cell? ⟨B, 0, none⟩ = some (.int .u8 k)) (c1 : w.cell? ⟨B, 1, none⟩ = some (.int .i64 i)) (c2 : w.cell? ⟨B, 2, none⟩ = some (.string s)) (c3 : w.cell? ⟨B, 3, none⟩ = some (.bool b)) (c4 : w.cell? ⟨B, 4, none⟩ = some (.int .u8 k2)) (c5 : w.cell? ⟨B, 5, none⟩ = some (.int .i64 i2)) (c6 : w.cell? ⟨B, 6, none⟩ = some (.string s2)) (c7 : w.cell? ⟨B, 7, none⟩ = some (.bool b2)) (h_k : (k == 3) = false) (a_k : any3 k = false) (h_k2 : (k2 == 3) = true) :
    Calls Tryd.prog 37 #[.slice (some ⟨B, 0, none⟩) 2 2] w fun e w' => e = .returned (.bool true) ∧ Below w.heap.size w w' := by
  go_enter Tryd.func37, Tryd.ntmps37
  go_wp2_with fail
  refine wp_loop_rounds 3 ?_
  rw [rounds_succ]
  go_wp2_with fail
  refine (open_any k i s b _).mono ?_
  rintro e x0 ⟨rfl, hb⟩
  rw [size_alloc] at hb
  have hbx0 := bst hb
  replace c4 := cellb hbx0 hB c4
  replace c5 := cellb hbx0 hB c5
  replace c6 := cellb hbx0 hB c6
  replace c7 := cellb hbx0 hB c7
  obtain ⟨v0, v1, v2, v3⟩ := box4 hb
  have hz : w.heap.size < x0.heap.size := by have := hb.size; rw [size_alloc] at this; omega
  have hBx0 := Nat.lt_of_lt_of_le hB hbx0.size
  clear hb
  go_wp2_with fail
  refine (open_any k i s b _).mono ?_
  rintro e y0 ⟨rfl, hb⟩
  have hby0 := below_then hbx0 hb
  replace c4 := cellb hb hBx0 c4
  replace c5 := cellb hb hBx0 c5
  replace c6 := cellb hb hBx0 c6
  replace c7 := cellb hb hBx0 c7
  have hBy0 := Nat.lt_of_lt_of_le hBx0 hb.size
  clear hb v0 v1 v2 v3 hz
  go_wp2_with fail
  rw [rounds_succ]
  go_wp2_with fail
  refine (open_any k2 i2 s2 b2 _).mono ?_
  rintro e x1 ⟨rfl, hb⟩
  rw [size_alloc] at hb
  have hbx1 := bst hb
  have hBx1 := Nat.lt_of_lt_of_le hBy0 hbx1.size
  clear hb
  go_wp2_with fail
  rw [rounds_succ]
  go_wp2_with fail
  go_ret
  exact ⟨rfl, (below_then hby0 hbx1)⟩
set_option maxRecDepth 100000 in
theorem tr2_nn (k i : Int) (s : ByteArray) (b : Bool) (k2 i2 : Int) (s2 : ByteArray) (b2 : Bool) (B : Nat) (w : World) (hB : B < w.heap.size) (c0 : w.cell? ⟨B, 0, none⟩ = some (.int .u8 k)) (c1 : w.cell? ⟨B, 1, none⟩ = some (.int .i64 i)) (c2 : w.cell? ⟨B, 2, none⟩ = some (.string s)) (c3 : w.cell? ⟨B, 3, none⟩ = some (.bool b)) (c4 : w.cell? ⟨B, 4, none⟩ = some (.int .u8 k2)) (c5 : w.cell? ⟨B, 5, none⟩ = some (.int .i64 i2)) (c6 : w.cell? ⟨B, 6, none⟩ = some (.string s2)) (c7 : w.cell? ⟨B, 7, none⟩ = some (.bool b2)) (h_k : (k == 3) = false) (a_k : any3 k = false) (h_k2 : (k2 == 3) = false) (a_k2 : any3 k2 = false) :
    Calls Tryd.prog 37 #[.slice (some ⟨B, 0, none⟩) 2 2] w fun e w' => e = .returned (.bool true) ∧ Below w.heap.size w w' := by
  go_enter Tryd.func37, Tryd.ntmps37
  go_wp2_with fail
  refine wp_loop_rounds 3 ?_
  rw [rounds_succ]
  go_wp2_with fail
  refine (open_any k i s b _).mono ?_
  rintro e x0 ⟨rfl, hb⟩
  rw [size_alloc] at hb
  have hbx0 := bst hb
  replace c4 := cellb hbx0 hB c4
  replace c5 := cellb hbx0 hB c5
  replace c6 := cellb hbx0 hB c6
  replace c7 := cellb hbx0 hB c7
  obtain ⟨v0, v1, v2, v3⟩ := box4 hb
  have hz : w.heap.size < x0.heap.size := by have := hb.size; rw [size_alloc] at this; omega
  have hBx0 := Nat.lt_of_lt_of_le hB hbx0.size
  clear hb
  go_wp2_with fail
  refine (open_any k i s b _).mono ?_
  rintro e y0 ⟨rfl, hb⟩
  have hby0 := below_then hbx0 hb
  replace c4 := cellb hb hBx0 c4
  replace c5 := cellb hb hBx0 c5
  replace c6 := cellb hb hBx0 c6
  replace c7 := cellb hb hBx0 c7
  have hBy0 := Nat.lt_of_lt_of_le hBx0 hb.size
  clear hb v0 v1 v2 v3 hz
  go_wp2_with fail
  rw [rounds_succ]
  go_wp2_with fail
  refine (open_any k2 i2 s2 b2 _).mono ?_
  rintro e x1 ⟨rfl, hb⟩
  rw [size_alloc] at hb
  have hbx1 := bst hb
  obtain ⟨v0, v1, v2, v3⟩ := box4 hb
  have hz : y0.heap.size < x1.heap.size := by have := hb.size; rw [size_alloc] at this; omega
  have hBx1 := Nat.lt_of_lt_of_le hBy0 hbx1.size
  clear hb
  go_wp2_with fail
  refine (open_any k2 i2 s2 b2 _).mono ?_
  rintro e y1 ⟨rfl, hb⟩
  have hby1 := below_then hbx1 hb
  have hBy1 := Nat.lt_of_lt_of_le hBx1 hb.size
  clear hb v0 v1 v2 v3 hz
  go_wp2_with fail
  rw [rounds_succ]
  go_wp2_with fail
  go_ret
  exact ⟨rfl, (below_then hby0 hby1)⟩
set_option maxRecDepth 100000 in
theorem tr2_nb (k i : Int) (s : ByteArray) (b : Bool) (k2 i2 : Int) (s2 : ByteArray) (b2 : Bool) (B : Nat) (w : World) (hB : B < w.heap.size) (c0 : w.cell? ⟨B, 0, none⟩ = some (.int .u8 k)) (c1 : w.cell? ⟨B, 1, none⟩ = some (.int .i64 i)) (c2 : w.cell? ⟨B, 2, none⟩ = some (.string s)) (c3 : w.cell? ⟨B, 3, none⟩ = some (.bool b)) (c4 : w.cell? ⟨B, 4, none⟩ = some (.int .u8 k2)) (c5 : w.cell? ⟨B, 5, none⟩ = some (.int .i64 i2)) (c6 : w.cell? ⟨B, 6, none⟩ = some (.string s2)) (c7 : w.cell? ⟨B, 7, none⟩ = some (.bool b2)) (h_k : (k == 3) = false) (a_k : any3 k = false) (h_k2 : (k2 == 3) = false) (a_k2 : any3 k2 = true) :
    Calls Tryd.prog 37 #[.slice (some ⟨B, 0, none⟩) 2 2] w fun e w' => e = .returned (.bool false) ∧ Below w.heap.size w w' := by
  go_enter Tryd.func37, Tryd.ntmps37
  go_wp2_with fail
  refine wp_loop_rounds 3 ?_
  rw [rounds_succ]
  go_wp2_with fail
  refine (open_any k i s b _).mono ?_
  rintro e x0 ⟨rfl, hb⟩
  rw [size_alloc] at hb
  have hbx0 := bst hb
  replace c4 := cellb hbx0 hB c4
  replace c5 := cellb hbx0 hB c5
  replace c6 := cellb hbx0 hB c6
  replace c7 := cellb hbx0 hB c7
  obtain ⟨v0, v1, v2, v3⟩ := box4 hb
  have hz : w.heap.size < x0.heap.size := by have := hb.size; rw [size_alloc] at this; omega
  have hBx0 := Nat.lt_of_lt_of_le hB hbx0.size
  clear hb
  go_wp2_with fail
  refine (open_any k i s b _).mono ?_
  rintro e y0 ⟨rfl, hb⟩
  have hby0 := below_then hbx0 hb
  replace c4 := cellb hb hBx0 c4
  replace c5 := cellb hb hBx0 c5
  replace c6 := cellb hb hBx0 c6
  replace c7 := cellb hb hBx0 c7
  have hBy0 := Nat.lt_of_lt_of_le hBx0 hb.size
  clear hb v0 v1 v2 v3 hz
  go_wp2_with fail
  rw [rounds_succ]
  go_wp2_with fail
  refine (open_any k2 i2 s2 b2 _).mono ?_
  rintro e x1 ⟨rfl, hb⟩
  rw [size_alloc] at hb
  have hbx1 := bst hb
  obtain ⟨v0, v1, v2, v3⟩ := box4 hb
  have hz : y0.heap.size < x1.heap.size := by have := hb.size; rw [size_alloc] at this; omega
  have hBx1 := Nat.lt_of_lt_of_le hBy0 hbx1.size
  clear hb
  go_wp2_with fail
  refine (open_any k2 i2 s2 b2 _).mono ?_
  rintro e y1 ⟨rfl, hb⟩
  have hby1 := below_then hbx1 hb
  have hBy1 := Nat.lt_of_lt_of_le hBx1 hb.size
  clear hb v0 v1 v2 v3 hz
  go_wp2_with fail
  go_ret
  exact ⟨rfl, (below_then hby0 hby1)⟩
set_option maxRecDepth 100000 in
theorem tr2_b (k i : Int) (s : ByteArray) (b : Bool) (k2 i2 : Int) (s2 : ByteArray) (b2 : Bool) (B : Nat) (w : World) (hB : B < w.heap.size) (c0 : w.cell? ⟨B, 0, none⟩ = some (.int .u8 k)) (c1 : w.cell? ⟨B, 1, none⟩ = some (.int .i64 i)) (c2 : w.cell? ⟨B, 2, none⟩ = some (.string s)) (c3 : w.cell? ⟨B, 3, none⟩ = some (.bool b)) (c4 : w.cell? ⟨B, 4, none⟩ = some (.int .u8 k2)) (c5 : w.cell? ⟨B, 5, none⟩ = some (.int .i64 i2)) (c6 : w.cell? ⟨B, 6, none⟩ = some (.string s2)) (c7 : w.cell? ⟨B, 7, none⟩ = some (.bool b2)) (h_k : (k == 3) = false) (a_k : any3 k = true) :
    Calls Tryd.prog 37 #[.slice (some ⟨B, 0, none⟩) 2 2] w fun e w' => e = .returned (.bool false) ∧ Below w.heap.size w w' := by
  go_enter Tryd.func37, Tryd.ntmps37
  go_wp2_with fail
  refine wp_loop_rounds 3 ?_
  rw [rounds_succ]
  go_wp2_with fail
  refine (open_any k i s b _).mono ?_
  rintro e x0 ⟨rfl, hb⟩
  rw [size_alloc] at hb
  have hbx0 := bst hb
  replace c4 := cellb hbx0 hB c4
  replace c5 := cellb hbx0 hB c5
  replace c6 := cellb hbx0 hB c6
  replace c7 := cellb hbx0 hB c7
  obtain ⟨v0, v1, v2, v3⟩ := box4 hb
  have hz : w.heap.size < x0.heap.size := by have := hb.size; rw [size_alloc] at this; omega
  have hBx0 := Nat.lt_of_lt_of_le hB hbx0.size
  clear hb
  go_wp2_with fail
  refine (open_any k i s b _).mono ?_
  rintro e y0 ⟨rfl, hb⟩
  have hby0 := below_then hbx0 hb
  replace c4 := cellb hb hBx0 c4
  replace c5 := cellb hb hBx0 c5
  replace c6 := cellb hb hBx0 c6
  replace c7 := cellb hb hBx0 c7
  have hBy0 := Nat.lt_of_lt_of_le hBx0 hb.size
  clear hb v0 v1 v2 v3 hz
  go_wp2_with fail
  go_ret
  exact ⟨rfl, hby0⟩

theorem truths1 (k i : Int) (s : ByteArray) (b : Bool) (B : Nat) (w : World) (hB : B < w.heap.size) (c0 : w.cell? ⟨B, 0, none⟩ = some (.int .u8 k)) (c1 : w.cell? ⟨B, 1, none⟩ = some (.int .i64 i)) (c2 : w.cell? ⟨B, 2, none⟩ = some (.string s)) (c3 : w.cell? ⟨B, 3, none⟩ = some (.bool b)) :
    Calls Tryd.prog 37 #[.slice (some ⟨B, 0, none⟩) 1 1] w fun e w' => e = .returned (.bool (tB k)) ∧ Below w.heap.size w w' := by
  cases h : (k == 3) with
  | true => rw [tB_3 h]; exact tr1_3 k i s b B w hB c0 c1 c2 c3 h
  | false =>
    rw [tB_n h]
    cases a : any3 k with
    | true => exact tr1_b k i s b B w hB c0 c1 c2 c3 h a
    | false => exact tr1_n k i s b B w hB c0 c1 c2 c3 h a
theorem truths2 (k i : Int) (s : ByteArray) (b : Bool) (k2 i2 : Int) (s2 : ByteArray) (b2 : Bool) (B : Nat) (w : World) (hB : B < w.heap.size) (c0 : w.cell? ⟨B, 0, none⟩ = some (.int .u8 k)) (c1 : w.cell? ⟨B, 1, none⟩ = some (.int .i64 i)) (c2 : w.cell? ⟨B, 2, none⟩ = some (.string s)) (c3 : w.cell? ⟨B, 3, none⟩ = some (.bool b)) (c4 : w.cell? ⟨B, 4, none⟩ = some (.int .u8 k2)) (c5 : w.cell? ⟨B, 5, none⟩ = some (.int .i64 i2)) (c6 : w.cell? ⟨B, 6, none⟩ = some (.string s2)) (c7 : w.cell? ⟨B, 7, none⟩ = some (.bool b2)) :
    Calls Tryd.prog 37 #[.slice (some ⟨B, 0, none⟩) 2 2] w fun e w' => e = .returned (.bool (tB k && tB k2)) ∧ Below w.heap.size w w' := by
  cases h : (k == 3) with
  | true =>
    rw [tB_3 h, Bool.true_and]
    cases h2 : (k2 == 3) with
    | true => rw [tB_3 h2]; exact tr2_33 k i s b k2 i2 s2 b2 B w hB c0 c1 c2 c3 c4 c5 c6 c7 h h2
    | false =>
      rw [tB_n h2]
      cases a2 : any3 k2 with
      | true => exact tr2_3b k i s b k2 i2 s2 b2 B w hB c0 c1 c2 c3 c4 c5 c6 c7 h h2 a2
      | false => exact tr2_3n k i s b k2 i2 s2 b2 B w hB c0 c1 c2 c3 c4 c5 c6 c7 h h2 a2
  | false =>
    rw [tB_n h]
    cases a : any3 k with
    | true => exact tr2_b k i s b k2 i2 s2 b2 B w hB c0 c1 c2 c3 c4 c5 c6 c7 h a
    | false =>
      rw [Bool.not_false, Bool.true_and]
      cases h2 : (k2 == 3) with
      | true => rw [tB_3 h2]; exact tr2_n3 k i s b k2 i2 s2 b2 B w hB c0 c1 c2 c3 c4 c5 c6 c7 h a h2
      | false =>
        rw [tB_n h2]
        cases a2 : any3 k2 with
        | true => exact tr2_nb k i s b k2 i2 s2 b2 B w hB c0 c1 c2 c3 c4 c5 c6 c7 h a h2 a2
        | false => exact tr2_nn k i s b k2 i2 s2 b2 B w hB c0 c1 c2 c3 c4 c5 c6 c7 h a h2 a2
end Go.Proofs.YtpkohkhgimmkhaaDoor
