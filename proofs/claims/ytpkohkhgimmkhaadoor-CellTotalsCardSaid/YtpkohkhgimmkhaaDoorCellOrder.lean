/-
  Contracts of package cell's rank, bit, order, Less, Same, Compare, and of cmp.Compare at int, int64 and string. Conditions: the kind is a byte.
-/
import Derived.Test.YtpkohkhgimmkhaaDoorCellLogic
import Derived.Deep.QuietTactic
import Derived.BigQuiet
import Derived.Lib.QuietBelow
namespace Go.Proofs.YtpkohkhgimmkhaaDoor
open Go.RowKit Go.Sort
set_option linter.unusedVariables false
set_option linter.unusedSimpArgs false

theorem same_turn {P : Program} {f : FuncId} {args : Array Value} {w : World} {v : Value} (h : Calls P f args w fun e w' => e = .returned v ∧ w = w') : Calls P f args w fun e w' => e = .returned v ∧ w' = w := h.mono fun _ _ ⟨a, b⟩ => ⟨a, b.symm⟩
theorem same_below {P : Program} {f : FuncId} {args : Array Value} {w : World} {v : Value} (h : Calls P f args w fun e w' => e = .returned v ∧ w = w') : Calls P f args w fun e w' => e = .returned v ∧ Below w.heap.size w w' := h.mono fun _ _ ⟨a, b⟩ => ⟨a, by rw [← b]; exact Below.refl _ _⟩
theorem undrew {W w1 : World} {n : Nat} (h : Below (W.drewN n).heap.size (W.drewN n) w1) : Below W.heap.size W w1 := ⟨h.os, h.tape, h.output, h.size, h.block⟩
theorem bel2 (w : World) (a b : Obj) (n : Nat) : Below w.heap.size w (((w.alloc a).alloc b).drewN n) := have h := ((Below.refl w.heap.size w).alloc (Nat.le_refl _) a).alloc (by simp) b; ⟨h.os, h.tape, h.output, h.size, h.block⟩
def rankV (k : Int) : Int := if k = 3 then 1 else if k = 1 then 2 else if k = 2 then 3 else 0
def cmpI (x y : Int) : Int := if x < y then -1 else if y < x then 1 else 0
def cmpS (x y : ByteArray) : Int := if Op.bytesLess x.toList y.toList = true then -1 else if (Op.bytesLess x.toList y.toList || x.toList == y.toList) = false then 1 else 0
def bitV (b : Bool) : Int := if b = true then 1 else 0
theorem rank_3 (w : World) :
    Calls Tryd.prog 47 #[.int .u8 3] w fun e w' => e = .returned (.int .i64 1) ∧ w = w' := by
  go_enter Tryd.func47, Tryd.ntmps47
  go_wp2_with fail
  go_ret
  exact ⟨rfl, rfl⟩
theorem rank_1 (w : World) :
    Calls Tryd.prog 47 #[.int .u8 1] w fun e w' => e = .returned (.int .i64 2) ∧ w = w' := by
  go_enter Tryd.func47, Tryd.ntmps47
  go_wp2_with fail
  go_ret
  exact ⟨rfl, rfl⟩
theorem rank_2 (w : World) :
    Calls Tryd.prog 47 #[.int .u8 2] w fun e w' => e = .returned (.int .i64 3) ∧ w = w' := by
  go_enter Tryd.func47, Tryd.ntmps47
  go_wp2_with fail
  go_ret
  exact ⟨rfl, rfl⟩
theorem rank_n (k : Int) (w : World) (h1 : (k == 1) = false) (h2 : (k == 2) = false) (h3 : (k == 3) = false) :
    Calls Tryd.prog 47 #[.int .u8 k] w fun e w' => e = .returned (.int .i64 0) ∧ w = w' := by
  go_enter Tryd.func47, Tryd.ntmps47
  go_wp2_with fail
  go_ret
  exact ⟨rfl, rfl⟩
theorem rank_any (k : Int) (w : World) :
    Calls Tryd.prog 47 #[.int .u8 k] w fun e w' => e = .returned (.int .i64 (rankV k)) ∧ w = w' := by
  by_cases h3 : k = 3
  · subst h3; exact rank_3 w
  · by_cases h1 : k = 1
    · subst h1; exact rank_1 w
    · by_cases h2 : k = 2
      · subst h2; exact rank_2 w
      · rw [show rankV k = 0 from by simp [rankV, h1, h2, h3]]
        exact rank_n k w (beq_eq_false_iff_ne.2 h1) (beq_eq_false_iff_ne.2 h2) (beq_eq_false_iff_ne.2 h3)
theorem bit_t (w : World) :
    Calls Tryd.prog 50 #[.bool true] w fun e w' => e = .returned (.int .i64 1) ∧ w = w' := by
  go_enter Tryd.func50, Tryd.ntmps50
  go_wp2_with fail
  go_ret
  exact ⟨rfl, rfl⟩
theorem bit_f (w : World) :
    Calls Tryd.prog 50 #[.bool false] w fun e w' => e = .returned (.int .i64 0) ∧ w = w' := by
  go_enter Tryd.func50, Tryd.ntmps50
  go_wp2_with fail
  go_ret
  exact ⟨rfl, rfl⟩
theorem bit_any (b : Bool) (w : World) :
    Calls Tryd.prog 50 #[.bool b] w fun e w' => e = .returned (.int .i64 (bitV b)) ∧ w = w' := by
  cases b with
  | true => exact bit_t w
  | false => exact bit_f w
theorem cmpn_l (x y : Int) (w : World) (h : x < y) :
    Calls Tryd.prog 46 #[.int .i64 x, .int .i64 y] w fun e w' => e = .returned (.int .i64 (-1)) ∧ w = w' := by
  go_enter Tryd.func46, Tryd.ntmps46
  go_wp2
  go_ret
  exact ⟨rfl, rfl⟩
theorem cmpn_g (x y : Int) (w : World) (h : y < x) :
    Calls Tryd.prog 46 #[.int .i64 x, .int .i64 y] w fun e w' => e = .returned (.int .i64 1) ∧ w = w' := by
  have hn : ¬ x < y := by omega
  go_enter Tryd.func46, Tryd.ntmps46
  go_wp2
  go_ret
  exact ⟨rfl, rfl⟩
theorem cmpn_e (x : Int) (w : World) :
    Calls Tryd.prog 46 #[.int .i64 x, .int .i64 x] w fun e w' => e = .returned (.int .i64 0) ∧ w = w' := by
  go_enter Tryd.func46, Tryd.ntmps46
  go_wp2
  go_ret
  exact ⟨rfl, rfl⟩
theorem cmpn_any (x y : Int) (w : World) :
    Calls Tryd.prog 46 #[.int .i64 x, .int .i64 y] w fun e w' => e = .returned (.int .i64 (cmpI x y)) ∧ w = w' := by
  by_cases h : x < y
  · rw [show cmpI x y = -1 from by simp [cmpI, h]]; exact cmpn_l x y w h
  · by_cases h2 : y < x
    · rw [show cmpI x y = 1 from by simp [cmpI, h, h2]]; exact cmpn_g x y w h2
    · obtain rfl : x = y := by omega
      rw [show cmpI x x = 0 from by simp [cmpI]]; exact cmpn_e x w
theorem cmpl_l (x y : Int) (w : World) (h : x < y) :
    Calls Tryd.prog 48 #[.int .i64 x, .int .i64 y] w fun e w' => e = .returned (.int .i64 (-1)) ∧ w = w' := by
  go_enter Tryd.func48, Tryd.ntmps48
  go_wp2
  go_ret
  exact ⟨rfl, rfl⟩
theorem cmpl_g (x y : Int) (w : World) (h : y < x) :
    Calls Tryd.prog 48 #[.int .i64 x, .int .i64 y] w fun e w' => e = .returned (.int .i64 1) ∧ w = w' := by
  have hn : ¬ x < y := by omega
  go_enter Tryd.func48, Tryd.ntmps48
  go_wp2
  go_ret
  exact ⟨rfl, rfl⟩
theorem cmpl_e (x : Int) (w : World) :
    Calls Tryd.prog 48 #[.int .i64 x, .int .i64 x] w fun e w' => e = .returned (.int .i64 0) ∧ w = w' := by
  go_enter Tryd.func48, Tryd.ntmps48
  go_wp2
  go_ret
  exact ⟨rfl, rfl⟩
theorem cmpl_any (x y : Int) (w : World) :
    Calls Tryd.prog 48 #[.int .i64 x, .int .i64 y] w fun e w' => e = .returned (.int .i64 (cmpI x y)) ∧ w = w' := by
  by_cases h : x < y
  · rw [show cmpI x y = -1 from by simp [cmpI, h]]; exact cmpl_l x y w h
  · by_cases h2 : y < x
    · rw [show cmpI x y = 1 from by simp [cmpI, h, h2]]; exact cmpl_g x y w h2
    · obtain rfl : x = y := by omega
      rw [show cmpI x x = 0 from by simp [cmpI]]; exact cmpl_e x w
theorem cmps_l (x y : ByteArray) (w : World) (h : Op.bytesLess x.toList y.toList = true) :
    Calls Tryd.prog 49 #[.string x, .string y] w fun e w' => e = .returned (.int .i64 (-1)) ∧ w = w' := by
  go_enter Tryd.func49, Tryd.ntmps49
  go_wp2
  go_ret
  exact ⟨rfl, rfl⟩
theorem cmps_g (x y : ByteArray) (w : World) (h : Op.bytesLess x.toList y.toList = false) (h2 : (x.toList == y.toList) = false) :
    Calls Tryd.prog 49 #[.string x, .string y] w fun e w' => e = .returned (.int .i64 1) ∧ w = w' := by
  go_enter Tryd.func49, Tryd.ntmps49
  go_wp2
  go_ret
  exact ⟨rfl, rfl⟩
theorem cmps_e (x y : ByteArray) (w : World) (h : Op.bytesLess x.toList y.toList = false) (h2 : (x.toList == y.toList) = true) :
    Calls Tryd.prog 49 #[.string x, .string y] w fun e w' => e = .returned (.int .i64 0) ∧ w = w' := by
  go_enter Tryd.func49, Tryd.ntmps49
  go_wp2
  go_ret
  exact ⟨rfl, rfl⟩
theorem cmps_any (x y : ByteArray) (w : World) :
    Calls Tryd.prog 49 #[.string x, .string y] w fun e w' => e = .returned (.int .i64 (cmpS x y)) ∧ w = w' := by
  cases h : Op.bytesLess x.toList y.toList with
  | true => rw [show cmpS x y = -1 from by simp [cmpS, h]]; exact cmps_l x y w h
  | false =>
    cases h2 : (x.toList == y.toList) with
    | true => rw [show cmpS x y = 0 from by simp only [cmpS, h, h2]; rfl]; exact cmps_e x y w h h2
    | false => rw [show cmpS x y = 1 from by simp only [cmpS, h, h2]; rfl]; exact cmps_g x y w h h2
theorem open_i (i : Int) (s : ByteArray) (b : Bool) (w : World) :
    Calls Tryd.prog 30 #[.agg #[.int .u8 1, .int .i64 i, .string s, .bool b]] w fun e w' => e = .returned (.iface 2 (.int .i64 i)) ∧ Below w.heap.size w w' := open_any 1 i s b w
theorem open_s (i : Int) (s : ByteArray) (b : Bool) (w : World) :
    Calls Tryd.prog 30 #[.agg #[.int .u8 2, .int .i64 i, .string s, .bool b]] w fun e w' => e = .returned (.iface 9 (.string s)) ∧ Below w.heap.size w w' := open_any 2 i s b w
theorem open_b (i : Int) (s : ByteArray) (b : Bool) (w : World) :
    Calls Tryd.prog 30 #[.agg #[.int .u8 3, .int .i64 i, .string s, .bool b]] w fun e w' => e = .returned (.iface 4 (.bool b)) ∧ Below w.heap.size w w' := open_any 3 i s b w
theorem open_n (k i : Int) (s : ByteArray) (b : Bool) (w : World) (h : any3 k = false) :
    Calls Tryd.prog 30 #[.agg #[.int .u8 k, .int .i64 i, .string s, .bool b]] w fun e w' => e = .returned .nilIface ∧ Below w.heap.size w w' := by
  have h1 : openV k i s b = .nilIface := by
    unfold any3 at h
    simp at h
    simp [openV, h]
  rw [← h1]
  exact open_any k i s b w
theorem order_d (k i : Int) (s : ByteArray) (b : Bool) (k2 i2 : Int) (s2 : ByteArray) (b2 : Bool) (w : World) (h : (cmpI (rankV k) (rankV k2) == 0) = false) :
    Calls Tryd.prog 34 #[.agg #[.int .u8 k, .int .i64 i, .string s, .bool b], .agg #[.int .u8 k2, .int .i64 i2, .string s2, .bool b2]] w fun e w' => e = .returned (.int .i64 (cmpI (rankV k) (rankV k2))) ∧ Below w.heap.size w w' := by
  go_enter Tryd.func34, Tryd.ntmps34
  go_wp2_with fail
  go_quiet ((first | (go_at_call 47; exact Calls.quiet_of_same (same_turn (rank_any _ _))) | (go_at_call 46; exact Calls.quiet_of_same (same_turn (cmpn_any _ _ _)))))
  go_wp2_with fail
  go_ret
  exact ⟨rfl, bel2 _ _ _ _⟩
theorem order_1 (i : Int) (s : ByteArray) (b : Bool) (i2 : Int) (s2 : ByteArray) (b2 : Bool) (w : World)  :
    Calls Tryd.prog 34 #[.agg #[.int .u8 1, .int .i64 i, .string s, .bool b], .agg #[.int .u8 1, .int .i64 i2, .string s2, .bool b2]] w fun e w' => e = .returned (.int .i64 (cmpI i i2)) ∧ Below w.heap.size w w' := by
  have hz0 : cmpI (rankV 1) (rankV 1) = 0 := by decide
  go_enter Tryd.func34, Tryd.ntmps34
  go_wp2_with fail
  go_quiet ((first | (go_at_call 47; exact Calls.quiet_of_same (same_turn (rank_any _ _))) | (go_at_call 46; exact Calls.quiet_of_same (same_turn (cmpn_any _ _ _)))))
  go_wp2_with fail
  refine (open_i i s b _).mono ?_
  rintro e w1 ⟨rfl, hb⟩
  replace hb := undrew hb
  obtain ⟨hc, hf⟩ := bcell hb
  simp at hc hf
  have hz := hb.size
  simp at hz
  have hb0 := bst2 hb
  clear hb
  go_wp2_with fail
  refine (open_i i2 s2 b2 _).mono ?_
  rintro e w2 ⟨rfl, hb⟩
  replace hc := fun b o (h : b < w.heap.size + 1 + 1) => ((bcell hb).1 b o (Nat.lt_of_lt_of_le h hz)).trans (hc b o h)
  replace hf := fun b o (h : b < w.heap.size + 1 + 1) => ((bcell hb).2 b o (Nat.lt_of_lt_of_le h hz)).trans (hf b o h)
  replace hb0 := below_then hb0 hb
  replace hz := Nat.le_trans hz hb.size
  clear hb
  go_wp2_with fail
  refine (cmpl_any i i2 _).mono ?_
  rintro e w' ⟨rfl, rfl⟩
  go_wp2_with fail
  go_ret
  exact ⟨rfl, hb0⟩
theorem order_2 (i : Int) (s : ByteArray) (b : Bool) (i2 : Int) (s2 : ByteArray) (b2 : Bool) (w : World)  :
    Calls Tryd.prog 34 #[.agg #[.int .u8 2, .int .i64 i, .string s, .bool b], .agg #[.int .u8 2, .int .i64 i2, .string s2, .bool b2]] w fun e w' => e = .returned (.int .i64 (cmpS s s2)) ∧ Below w.heap.size w w' := by
  have hz0 : cmpI (rankV 2) (rankV 2) = 0 := by decide
  go_enter Tryd.func34, Tryd.ntmps34
  go_wp2_with fail
  go_quiet ((first | (go_at_call 47; exact Calls.quiet_of_same (same_turn (rank_any _ _))) | (go_at_call 46; exact Calls.quiet_of_same (same_turn (cmpn_any _ _ _)))))
  go_wp2_with fail
  refine (open_s i s b _).mono ?_
  rintro e w1 ⟨rfl, hb⟩
  replace hb := undrew hb
  obtain ⟨hc, hf⟩ := bcell hb
  simp at hc hf
  have hz := hb.size
  simp at hz
  have hb0 := bst2 hb
  clear hb
  go_wp2_with fail
  refine (open_s i2 s2 b2 _).mono ?_
  rintro e w2 ⟨rfl, hb⟩
  replace hc := fun b o (h : b < w.heap.size + 1 + 1) => ((bcell hb).1 b o (Nat.lt_of_lt_of_le h hz)).trans (hc b o h)
  replace hf := fun b o (h : b < w.heap.size + 1 + 1) => ((bcell hb).2 b o (Nat.lt_of_lt_of_le h hz)).trans (hf b o h)
  replace hb0 := below_then hb0 hb
  replace hz := Nat.le_trans hz hb.size
  clear hb
  go_wp2_with fail
  refine (cmps_any s s2 _).mono ?_
  rintro e w' ⟨rfl, rfl⟩
  go_wp2_with fail
  go_ret
  exact ⟨rfl, hb0⟩
theorem order_3 (i : Int) (s : ByteArray) (b : Bool) (i2 : Int) (s2 : ByteArray) (b2 : Bool) (w : World)  :
    Calls Tryd.prog 34 #[.agg #[.int .u8 3, .int .i64 i, .string s, .bool b], .agg #[.int .u8 3, .int .i64 i2, .string s2, .bool b2]] w fun e w' => e = .returned (.int .i64 (cmpI (bitV b) (bitV b2))) ∧ Below w.heap.size w w' := by
  have hz0 : cmpI (rankV 3) (rankV 3) = 0 := by decide
  go_enter Tryd.func34, Tryd.ntmps34
  go_wp2_with fail
  go_quiet ((first | (go_at_call 47; exact Calls.quiet_of_same (same_turn (rank_any _ _))) | (go_at_call 46; exact Calls.quiet_of_same (same_turn (cmpn_any _ _ _)))))
  go_wp2_with fail
  refine (open_b i s b _).mono ?_
  rintro e w1 ⟨rfl, hb⟩
  replace hb := undrew hb
  obtain ⟨hc, hf⟩ := bcell hb
  simp at hc hf
  have hz := hb.size
  simp at hz
  have hb0 := bst2 hb
  clear hb
  go_wp2_with fail
  have k0 : w1.cell? ⟨w.heap.size + 1, 0, none⟩ = some (.int .u8 3) := by rw [hc _ _ (by omega)]; simp [go_sem]
  have k1 : w1.cell? ⟨w.heap.size + 1, 1, none⟩ = some (.int .i64 i2) := by rw [hc _ _ (by omega)]; simp [go_sem]
  have k2 : w1.cell? ⟨w.heap.size + 1, 2, none⟩ = some (.string s2) := by rw [hc _ _ (by omega)]; simp [go_sem]
  have k3 : w1.cell? ⟨w.heap.size + 1, 3, none⟩ = some (.bool b2) := by rw [hc _ _ (by omega)]; simp [go_sem]
  have m0 := fun d os => cell_regrown k0 d os
  have m1 := fun d os => cell_regrown k1 d os
  have m2 := fun d os => cell_regrown k2 d os
  have m3 := fun d os => cell_regrown k3 d os
  have cB := fun bb d os => Calls.regrown_of (w := w1) (d := d) (os := os) (same_below (bit_any bb _))
  have cC := fun x y d os => Calls.regrown_of (w := w1) (d := d) (os := os) (same_below (cmpn_any x y _))
  have cO := fun d os => Calls.regrown_of (w := w1) (d := d) (os := os) (open_b i2 s2 b2 _)
  clear hc hf
  refine wp_region_quiet_below (by kernel_rfl) (by kernel_rfl) ?_
  repeat (quiet_step (first | exact cB _ _ _ | exact cC _ _ _ _ | exact cO _ _))
  refine wpQuiet_nil ?_
  intro _ hw'
  obtain ⟨⟨dq, osq⟩, hw''⟩ := hw'
  subst hw''
  go_wp2_with fail
  go_ret
  exact ⟨rfl, below_then hb0 (below_regrown w1 dq osq)⟩
theorem order_n (k i : Int) (s : ByteArray) (b : Bool) (k2 i2 : Int) (s2 : ByteArray) (b2 : Bool) (w : World) (h : any3 k = false) (hz0 : cmpI (rankV k) (rankV k2) = 0) :
    Calls Tryd.prog 34 #[.agg #[.int .u8 k, .int .i64 i, .string s, .bool b], .agg #[.int .u8 k2, .int .i64 i2, .string s2, .bool b2]] w fun e w' => e = .returned (.int .i64 0) ∧ Below w.heap.size w w' := by
  go_enter Tryd.func34, Tryd.ntmps34
  go_wp2_with fail
  go_quiet ((first | (go_at_call 47; exact Calls.quiet_of_same (same_turn (rank_any _ _))) | (go_at_call 46; exact Calls.quiet_of_same (same_turn (cmpn_any _ _ _)))))
  go_wp2_with fail
  refine (open_n k i s b _ h).mono ?_
  rintro e w1 ⟨rfl, hb⟩
  replace hb := undrew hb
  obtain ⟨hc, hf⟩ := bcell hb
  simp at hc hf
  have hz := hb.size
  simp at hz
  have hb0 := bst2 hb
  clear hb
  go_wp2_with fail
  go_ret
  exact ⟨rfl, hb0⟩
/-- the order of two values -/
def orderV (k i : Int) (s : ByteArray) (b : Bool) (k2 i2 : Int) (s2 : ByteArray) (b2 : Bool) : Int :=
  if cmpI (rankV k) (rankV k2) = 0 then (if k = 1 then cmpI i i2 else if k = 2 then cmpS s s2 else if k = 3 then cmpI (bitV b) (bitV b2) else 0) else cmpI (rankV k) (rankV k2)
theorem rank_same {k k2 : Int} (h : cmpI (rankV k) (rankV k2) = 0) : rankV k = rankV k2 := by
  unfold cmpI at h
  by_cases h1 : rankV k < rankV k2
  · rw [if_pos h1] at h; exact absurd h (by decide)
  · rw [if_neg h1] at h
    by_cases h2 : rankV k2 < rankV k
    · rw [if_pos h2] at h; exact absurd h (by decide)
    · omega
theorem rank_is (k : Int) : (2 = rankV k → k = 1) ∧ (3 = rankV k → k = 2) ∧ (1 = rankV k → k = 3) := by
  by_cases h3 : k = 3
  · subst h3; decide
  · by_cases h1 : k = 1
    · subst h1; decide
    · by_cases h2 : k = 2
      · subst h2; decide
      · rw [show rankV k = 0 from by simp [rankV, h1, h2, h3]]
        exact ⟨fun h => absurd h (by decide), fun h => absurd h (by decide), fun h => absurd h (by decide)⟩
theorem order_any (k i : Int) (s : ByteArray) (b : Bool) (k2 i2 : Int) (s2 : ByteArray) (b2 : Bool) (w : World) :
    Calls Tryd.prog 34 #[.agg #[.int .u8 k, .int .i64 i, .string s, .bool b], .agg #[.int .u8 k2, .int .i64 i2, .string s2, .bool b2]] w fun e w' => e = .returned (.int .i64 (orderV k i s b k2 i2 s2 b2)) ∧ Below w.heap.size w w' := by
  by_cases hz : cmpI (rankV k) (rankV k2) = 0
  · have hr := rank_same hz
    by_cases h1 : k = 1
    · subst h1
      obtain rfl : k2 = 1 := (rank_is k2).1 hr
      exact order_1 i s b i2 s2 b2 w
    · by_cases h2 : k = 2
      · subst h2
        obtain rfl : k2 = 2 := (rank_is k2).2.1 hr
        exact order_2 i s b i2 s2 b2 w
      · by_cases h3 : k = 3
        · subst h3
          obtain rfl : k2 = 3 := (rank_is k2).2.2 hr
          exact order_3 i s b i2 s2 b2 w
        · rw [show orderV k i s b k2 i2 s2 b2 = 0 from by simp [orderV, hz, h1, h2, h3]]
          exact order_n k i s b k2 i2 s2 b2 w (by simp [any3, h1, h2, h3]) hz
  · rw [show orderV k i s b k2 i2 s2 b2 = cmpI (rankV k) (rankV k2) from by simp [orderV, hz]]
    exact order_d k i s b k2 i2 s2 b2 w (beq_eq_false_iff_ne.2 hz)
theorem less_any (k i : Int) (s : ByteArray) (b : Bool) (k2 i2 : Int) (s2 : ByteArray) (b2 : Bool) (w : World) :
    Calls Tryd.prog 17 #[.agg #[.int .u8 k, .int .i64 i, .string s, .bool b], .agg #[.int .u8 k2, .int .i64 i2, .string s2, .bool b2]] w fun e w' => e = .returned (.bool (decide (orderV k i s b k2 i2 s2 b2 < 0))) ∧ Below w.heap.size w w' := by
  go_enter Tryd.func17, Tryd.ntmps17
  go_wp2_with fail
  refine (order_any k i s b k2 i2 s2 b2 _).mono ?_
  rintro e w1 ⟨rfl, hb⟩
  obtain ⟨hc, hf⟩ := bcell hb
  simp at hc hf
  have hz := hb.size
  simp at hz
  have hb0 := bst2 hb
  clear hb
  go_wp2_with fail
  go_ret
  exact ⟨rfl, hb0⟩
theorem same_any (k i : Int) (s : ByteArray) (b : Bool) (k2 i2 : Int) (s2 : ByteArray) (b2 : Bool) (w : World) :
    Calls Tryd.prog 21 #[.agg #[.int .u8 k, .int .i64 i, .string s, .bool b], .agg #[.int .u8 k2, .int .i64 i2, .string s2, .bool b2]] w fun e w' => e = .returned (.bool (orderV k i s b k2 i2 s2 b2 == 0)) ∧ Below w.heap.size w w' := by
  go_enter Tryd.func21, Tryd.ntmps21
  go_wp2_with fail
  refine (order_any k i s b k2 i2 s2 b2 _).mono ?_
  rintro e w1 ⟨rfl, hb⟩
  obtain ⟨hc, hf⟩ := bcell hb
  simp at hc hf
  have hz := hb.size
  simp at hz
  have hb0 := bst2 hb
  clear hb
  go_wp2_with fail
  go_ret
  exact ⟨rfl, hb0⟩
end Go.Proofs.YtpkohkhgimmkhaaDoor
