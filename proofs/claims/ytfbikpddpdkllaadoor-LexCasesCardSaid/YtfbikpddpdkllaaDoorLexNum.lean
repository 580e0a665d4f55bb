/-
  Plain laws of numbers: sums and products with bounds, magnitudes, decimal digits, quotes doubled; no program in sight. Conditions: as each theorem says.
-/
import Derived.Test.YtfbikpddpdkllaaDoorNums
import Derived.Lib.ReplaceLaws
import GoSem.Op.String
import Derived.Lib.ItoaMem
namespace Go.Proofs.YtfbikpddpdkllaaDoor
open Go.RowKit
set_option linter.unusedVariables false
set_option linter.unusedSimpArgs false

/-- how great a number is, without its sign -/
def mag (n : Int) : Int := if 0 ≤ n then n else -n
theorem mag_pos {n : Int} (h : 0 ≤ n) : mag n = n := if_pos h
theorem mag_neg {n : Int} (h : n < 0) : mag n = -n := if_neg (by omega)
theorem mag_rng {n : Int} (h : R n) : 0 ≤ mag n ∧ mag n ≤ 9223372036854775808 := by unfold R at h; unfold mag; split <;> omega
theorem mag_one {n : Int} (h : n ≠ 0) : 1 ≤ mag n := by unfold mag; split <;> omega
/-- are the signs apart? -/
def apart (a b : Int) : Bool := decide (a < 0) != decide (b < 0)
theorem mul_mag (a b : Int) : a * b = if apart a b = true then -(mag a * mag b) else mag a * mag b := by
  unfold apart mag
  by_cases ha : 0 ≤ a <;> by_cases hb : 0 ≤ b
  · rw [if_pos ha, if_pos hb, show decide (a < 0) = false from by simp; omega, show decide (b < 0) = false from by simp; omega]; rfl
  · rw [if_pos ha, if_neg hb, show decide (a < 0) = false from by simp; omega, show decide (b < 0) = true from by simp; omega]
    simp [Int.neg_mul, Int.mul_neg]
  · rw [if_neg ha, if_pos hb, show decide (a < 0) = true from by simp; omega, show decide (b < 0) = false from by simp; omega]
    simp [Int.neg_mul, Int.mul_neg]
  · rw [if_neg ha, if_neg hb, show decide (a < 0) = true from by simp; omega, show decide (b < 0) = true from by simp; omega]
    simp [Int.neg_mul, Int.mul_neg]
theorem div_mag (a b : Int) : a.tdiv b = if apart a b = true then -(mag a / mag b) else mag a / mag b := by
  unfold apart mag
  by_cases ha : 0 ≤ a <;> by_cases hb : 0 ≤ b
  · rw [if_pos ha, if_pos hb, show decide (a < 0) = false from by simp; omega, show decide (b < 0) = false from by simp; omega, Int.tdiv_eq_ediv_of_nonneg ha]; rfl
  · rw [if_pos ha, if_neg hb, show decide (a < 0) = false from by simp; omega, show decide (b < 0) = true from by simp; omega, Int.tdiv_eq_ediv_of_nonneg ha]
    simp
  · rw [if_neg ha, if_pos hb, show decide (a < 0) = true from by simp; omega, show decide (b < 0) = false from by simp; omega, ← Int.tdiv_eq_ediv_of_nonneg (show 0 ≤ -a from by omega), Int.neg_tdiv]
    simp
  · rw [if_neg ha, if_neg hb, show decide (a < 0) = true from by simp; omega, show decide (b < 0) = true from by simp; omega, ← Int.tdiv_eq_ediv_of_nonneg (show 0 ≤ -a from by omega), Int.neg_tdiv, Int.tdiv_neg]
    simp
theorem mod_mag (a b : Int) : a.tmod b = if a < 0 then -(mag a % mag b) else mag a % mag b := by
  unfold mag
  by_cases ha : 0 ≤ a <;> by_cases hb : 0 ≤ b
  · rw [if_pos ha, if_pos hb, if_neg (by omega), Int.tmod_eq_emod_of_nonneg ha]
  · rw [if_pos ha, if_neg hb, if_neg (by omega), Int.tmod_eq_emod_of_nonneg ha, Int.emod_neg]
  · rw [if_neg ha, if_pos hb, if_pos (by omega), ← Int.tmod_eq_emod_of_nonneg (show 0 ≤ -a from by omega), Int.neg_tmod, Int.neg_neg]
  · rw [if_neg ha, if_neg hb, if_pos (by omega), ← Int.tmod_eq_emod_of_nonneg (show 0 ≤ -a from by omega), Int.neg_tmod, Int.tmod_neg, Int.neg_neg]
theorem quo_rng {a b : Int} (ha : R a) (hb : b ≠ 0) : 0 ≤ mag a / mag b ∧ mag a / mag b ≤ 9223372036854775808 := by
  have h1 := mag_rng ha
  have h2 := mag_one hb
  exact ⟨Int.ediv_nonneg h1.1 (by omega), Int.le_trans (Int.ediv_le_self _ h1.1) h1.2⟩
theorem rem_rng {a b : Int} (hR : R b) (hb : b ≠ 0) : 0 ≤ mag a % mag b ∧ mag a % mag b ≤ 9223372036854775807 := by
  have h1 := mag_rng hR
  have h2 := mag_one hb
  have h3 := Int.emod_nonneg (mag a) (b := mag b) (by omega)
  have h4 := Int.emod_lt_of_pos (mag a) (b := mag b) (by omega)
  omega
theorem prod_rng {a b : Int} (ha : R a) (hb : R b) : 0 ≤ mag a * mag b ∧ mag a * mag b ≤ 85070591730234615865843651857942052864 := by
  have h1 := mag_rng ha
  have h2 := mag_rng hb
  refine ⟨Int.mul_nonneg h1.1 h2.1, ?_⟩
  have := Int.mul_le_mul h1.2 h2.2 h2.1 (by omega)
  omega
end Go.Proofs.YtfbikpddpdkllaaDoor
namespace Go.Proofs.YtfbikpddpdkllaaDoor
open Go.RowKit
set_option linter.unusedVariables false
set_option linter.unusedSimpArgs false

def isDig (c : UInt8) : Bool := decide (48 ≤ c.toNat) && decide (c.toNat ≤ 57)
def numF (n : Nat) (c : UInt8) : Nat := n * 10 + (c.toNat - 48)
/-- the number that digits say -/
def num (l : List UInt8) : Nat := l.foldl numF 0
/-- is it digits, and any? -/
def digits (l : List UInt8) : Bool := !l.isEmpty && l.all isDig
def readV (l : List UInt8) : Int := if digits l = true then val (num l : Nat) else 0
def readE (l : List UInt8) : Int := if digits l = true then err (num l : Nat) else 3

theorem isDig_iff (c : UInt8) : isDig c = true ↔ 48 ≤ c.toNat ∧ c.toNat ≤ 57 := by simp [isDig]
theorem num_snoc (l : List UInt8) (c : UInt8) : num (l ++ [c]) = num l * 10 + (c.toNat - 48) := by simp [num, numF]
theorem foldl_ge (l : List UInt8) : ∀ n, n ≤ l.foldl numF n := by
  induction l with
  | nil => intro n; exact Nat.le_refl _
  | cons c l ih =>
    intro n
    have := ih (numF n c)
    simp only [List.foldl_cons]
    unfold numF at this ⊢
    omega
theorem num_take_le (l : List UInt8) (k : Nat) : num (l.take k) ≤ num l := by
  have h : num l = (l.drop k).foldl numF (num (l.take k)) := by
    unfold num
    rw [← List.foldl_append, List.take_append_drop]
  rw [h]
  exact foldl_ge _ _
theorem take_snoc (s : ByteArray) (k : Nat) (h : k < s.size) : s.data.toList.take (k + 1) = s.data.toList.take k ++ [s[k]] := by
  rw [List.take_succ_eq_append_getElem (by simpa using h)]; rfl
theorem take_all (s : ByteArray) (k : Nat) (h : s.size ≤ k) : s.data.toList.take k = s.data.toList := List.take_of_length_le (by simpa using h)
theorem all_at (s : ByteArray) (h : s.data.toList.all isDig = true) (k : Nat) (hk : k < s.size) : 48 ≤ (s[k]).toNat ∧ (s[k]).toNat ≤ 57 := by
  rw [← isDig_iff]
  exact List.all_eq_true.1 h _ (Array.getElem_mem_toList (xs := s.data) hk)
theorem digits_not (s : ByteArray) (k : Nat) (hk : k < s.size) (h : ¬ (48 ≤ (s[k]).toNat ∧ (s[k]).toNat ≤ 57)) : digits s.data.toList = false := by
  cases hd : digits s.data.toList with
  | false => rfl
  | true =>
    unfold digits at hd
    simp only [Bool.and_eq_true] at hd
    exact absurd (all_at s hd.2 k hk) h
theorem read_not {l : List UInt8} (h : digits l = false) : readV l = 0 ∧ readE l = 3 := by unfold readV readE; simp [h]
theorem digits_yes {s : ByteArray} (h : s.data.toList.all isDig = true) (hs : 0 < s.size) : digits s.data.toList = true := by
  unfold digits
  rw [h, Bool.and_true]
  have : s.data.toList ≠ [] := by
    intro e
    have h2 : s.data.toList.length = s.size := by simp
    rw [e] at h2
    simp at h2
    omega
  simpa using this
theorem read_yes {l : List UInt8} (h : digits l = true) : readV l = val (num l : Nat) ∧ readE l = err (num l : Nat) := by unfold readV readE; simp [h]
theorem not_fits_mono {a b : Int} (h0 : 0 ≤ a) (h : a ≤ b) (hf : fits a = false) : fits b = false := by
  cases h2 : fits b with
  | false => rfl
  | true =>
    have h3 := (fits_iff b).1 h2
    have : fits a = true := (fits_iff a).2 (by omega)
    rw [hf] at this
    exact absurd this (by decide)
theorem read_over {l : List UInt8} {n : Int} (h : digits l = true) (h0 : 0 ≤ n) (hn : n ≤ num l) (hf : fits n = false) : readV l = 0 ∧ readE l = 9 := by
  obtain ⟨h1, h2⟩ := read_yes h
  have h3 := not_fits_mono h0 hn hf
  rw [h1, h2]
  unfold val err
  simp [h3]
end Go.Proofs.YtfbikpddpdkllaaDoor
namespace Go.Proofs.YtfbikpddpdkllaaDoor
open Go
set_option linter.unusedVariables false
set_option linter.unusedSimpArgs false

/-- each quote doubled -/
def dbl : List UInt8 → List UInt8
  | [] => []
  | b :: l => if b = 39 then 39 :: 39 :: dbl l else b :: dbl l
theorem replaceK_39 : ∀ l : List UInt8, Lib.replaceK [39] [39, 39] (Lib.count l [39]) l = dbl l
  | [] => rfl
  | b :: l => by
    have ih := replaceK_39 l
    by_cases hb : b = 39
    · subst hb
      have hi : Lib.index ((39 : UInt8) :: l) [39] = ((0 : Nat) : Int) := by rw [Lib.index_one, Lib.indexByte]; rfl
      rw [Lib.count_hit (by simp) hi, Nat.add_comm 1, Lib.replaceK_hit _ _ _ _ _ hi, dbl, if_pos rfl]
      show [] ++ [39, 39] ++ Lib.replaceK [39] [39, 39] (Lib.count l [39]) l = _
      rw [ih]
      rfl
    · rw [dbl, if_neg hb, ← ih]
      by_cases hm : Lib.indexByte l 39 = -1
      · have h1 : Lib.index l [39] = -1 := by rw [Lib.index_one]; exact hm
        have h2 : Lib.index (b :: l) [39] = -1 := by rw [Lib.index_one, Lib.indexByte, if_neg (by simpa using hb), if_pos (by simpa using hm)]
        rw [Lib.count_miss h1, Lib.count_miss h2]
        rfl
      · have hg := Lib.indexByte_ge l 39
        obtain ⟨i, hi⟩ := Int.eq_ofNat_of_zero_le (show 0 ≤ Lib.indexByte l 39 by omega)
        have h1 : Lib.index l [39] = (i : Int) := by rw [Lib.index_one]; exact hi
        have h2 : Lib.index (b :: l) [39] = ((i + 1 : Nat) : Int) := by
          rw [Lib.index_one, Lib.indexByte, if_neg (by simpa using hb), if_neg (by simpa using hm), hi]
          rfl
        rw [Lib.count_hit (by simp) h1, Lib.count_hit (by simp) h2, Nat.add_comm 1, Nat.add_comm 1 (Lib.count (l.drop (i + [(39 : UInt8)].length)) [39]), Lib.replaceK_hit _ _ _ _ _ h2]
        show (b :: l).take (i + 1) ++ [39, 39] ++ Lib.replaceK [39] [39, 39] (Lib.count ((b :: l).drop (i + 1 + 1)) [39]) ((b :: l).drop (i + 1 + 1)) = b :: Lib.replaceK [39] [39, 39] (Lib.count (l.drop (i + 1)) [39] + 1) l
        rw [Lib.replaceK_hit _ _ _ _ _ h1]
        rfl
theorem replaceAll_39 (l : List UInt8) : Lib.replaceAll l [39] [39, 39] = dbl l := by
  unfold Lib.replaceAll Lib.replace Lib.replaceNum
  rw [if_neg (by decide), if_pos (.inl (by decide))]
  exact replaceK_39 l
theorem dbl_le : ∀ l : List UInt8, (dbl l).length ≤ 2 * l.length
  | [] => by simp [dbl]
  | b :: l => by
    have := dbl_le l
    rw [dbl]
    split <;> simp <;> omega
end Go.Proofs.YtfbikpddpdkllaaDoor
namespace Go.Proofs.YtfbikpddpdkllaaDoor
open Go.RowKit
set_option linter.unusedVariables false
set_option linter.unusedSimpArgs false

theorem foldl_num (l : List UInt8) : ∀ n, l.foldl numF n = n * 10 ^ l.length + num l := by
  induction l with
  | nil => intro n; simp [num]
  | cons c l ih =>
    intro n
    have h1 := ih (numF n c)
    have h2 := ih (numF 0 c)
    have h3 : num (c :: l) = l.foldl numF (numF 0 c) := rfl
    rw [List.foldl_cons, h1, h3, h2, List.length_cons, Nat.pow_succ]
    unfold numF
    rw [Nat.add_mul, Nat.add_mul, Nat.mul_assoc n 10, Nat.mul_comm 10 (10 ^ l.length)]
    simp
    omega
theorem num_cons (c : UInt8) (l : List UInt8) : num (c :: l) = (c.toNat - 48) * 10 ^ l.length + num l := by
  have h3 : num (c :: l) = l.foldl numF (numF 0 c) := rfl
  rw [h3, foldl_num]
  simp [numF]
theorem num_lt (l : List UInt8) (h : l.all isDig = true) : num l < 10 ^ l.length := by
  induction l with
  | nil => simp [num]
  | cons c l ih =>
    simp only [List.all_cons, Bool.and_eq_true] at h
    have h1 := ih h.2
    have h2 := (isDig_iff c).1 h.1
    rw [num_cons, List.length_cons, Nat.pow_succ]
    have : (c.toNat - 48) * 10 ^ l.length ≤ 9 * 10 ^ l.length := Nat.mul_le_mul_right _ (by omega)
    omega
theorem num_ge (c : UInt8) (l : List UInt8) (h : 49 ≤ c.toNat) : 10 ^ l.length ≤ num (c :: l) := by
  rw [num_cons]
  have : 1 * 10 ^ l.length ≤ (c.toNat - 48) * 10 ^ l.length := Nat.mul_le_mul_right _ (by omega)
  omega
theorem num_nought (l : List UInt8) : num (48 :: l) = num l := by
  rw [num_cons]
  simp
theorem less_num (a b : List UInt8) (ha : a.all isDig = true) (hb : b.all isDig = true) (hl : a.length = b.length) : Op.bytesLess a b = decide (num a < num b) := by
  induction a generalizing b with
  | nil =>
    cases b with
    | nil => rfl
    | cons y b => simp at hl
  | cons x a ih =>
    cases b with
    | nil => simp at hl
    | cons y b =>
      simp only [List.all_cons, Bool.and_eq_true] at ha hb
      simp only [List.length_cons, Nat.add_right_cancel_iff] at hl
      have h1 := ih b ha.2 hb.2 hl
      have h2 := num_lt a ha.2
      have h3 := num_lt b hb.2
      have h4 := (isDig_iff x).1 ha.1
      have h5 := (isDig_iff y).1 hb.1
      rw [hl] at h2
      rw [num_cons, num_cons, hl]
      show (decide (x < y) || (x == y && Op.bytesLess a b)) = _
      rw [h1]
      by_cases hxy : x = y
      · subst hxy
        have : ¬ x < x := by rw [UInt8.lt_iff_toNat_lt]; omega
        simp [this]
      · have hn : x.toNat ≠ y.toNat := fun h => hxy (UInt8.toNat_inj.1 h)
        by_cases hlt : x.toNat < y.toNat
        · have e1 : x < y := by rw [UInt8.lt_iff_toNat_lt]; exact hlt
          have : (x.toNat - 48) * 10 ^ b.length + 1 * 10 ^ b.length ≤ (y.toNat - 48) * 10 ^ b.length := by
            rw [← Nat.add_mul]
            exact Nat.mul_le_mul_right _ (by omega)
          have e2 : (x.toNat - 48) * 10 ^ b.length + num a < (y.toNat - 48) * 10 ^ b.length + num b := by omega
          rw [decide_eq_true e1, decide_eq_true e2]
          simp
        · have e1 : ¬ x < y := by rw [UInt8.lt_iff_toNat_lt]; exact hlt
          have : (y.toNat - 48) * 10 ^ b.length + 1 * 10 ^ b.length ≤ (x.toNat - 48) * 10 ^ b.length := by
            rw [← Nat.add_mul]
            exact Nat.mul_le_mul_right _ (by omega)
          have e2 : ¬ (x.toNat - 48) * 10 ^ b.length + num a < (y.toNat - 48) * 10 ^ b.length + num b := by omega
          rw [decide_eq_false e1, decide_eq_false e2]
          simp [hxy]
theorem eq_num (a b : List UInt8) (ha : a.all isDig = true) (hb : b.all isDig = true) (hl : a.length = b.length) : a = b ↔ num a = num b := by
  refine ⟨fun h => by rw [h], ?_⟩
  induction a generalizing b with
  | nil =>
    cases b with
    | nil => intro _; rfl
    | cons y b => simp at hl
  | cons x a ih =>
    cases b with
    | nil => simp at hl
    | cons y b =>
      simp only [List.all_cons, Bool.and_eq_true] at ha hb
      simp only [List.length_cons, Nat.add_right_cancel_iff] at hl
      have h2 := num_lt a ha.2
      have h3 := num_lt b hb.2
      have h4 := (isDig_iff x).1 ha.1
      have h5 := (isDig_iff y).1 hb.1
      rw [hl] at h2
      rw [num_cons, num_cons, hl]
      intro h
      have hxy : x.toNat = y.toNat := by
        rcases Nat.lt_trichotomy x.toNat y.toNat with h' | h' | h'
        · have : (x.toNat - 48) * 10 ^ b.length + 1 * 10 ^ b.length ≤ (y.toNat - 48) * 10 ^ b.length := by
            rw [← Nat.add_mul]
            exact Nat.mul_le_mul_right _ (by omega)
          omega
        · exact h'
        · have : (y.toNat - 48) * 10 ^ b.length + 1 * 10 ^ b.length ≤ (x.toNat - 48) * 10 ^ b.length := by
            rw [← Nat.add_mul]
            exact Nat.mul_le_mul_right _ (by omega)
          omega
      have e := UInt8.toNat_inj.1 hxy
      subst e
      rw [ih b ha.2 hb.2 hl (by omega)]
/-- 2^63 - 1 in digits -/
def most : List UInt8 := [57, 50, 50, 51, 51, 55, 50, 48, 51, 54, 56, 53, 52, 55, 55, 53, 56, 48, 55]
theorem most_num : num most = 9223372036854775807 := by decide
theorem most_dig : most.all isDig = true := by decide
/-- the reference's test on 19 digits -/
theorem over_most (a : List UInt8) (ha : a.all isDig = true) (hl : a.length = 19) : (!(Op.bytesLess a most || a == most)) = decide (9223372036854775807 < num a) := by
  have h1 := less_num a most ha most_dig hl
  have h2 := eq_num a most ha most_dig hl
  rw [most_num] at h1 h2
  rw [h1]
  by_cases h : num a < 9223372036854775807
  · rw [decide_eq_true h, decide_eq_false (by omega)]; rfl
  · rw [decide_eq_false h]
    by_cases h3 : num a = 9223372036854775807
    · rw [h2.2 h3, decide_eq_false (by rw [most_num]; omega)]; decide
    · rw [decide_eq_true (by omega)]
      have : ¬ a = most := fun e => h3 (h2.1 e)
      simp [this]
theorem over_len (c : UInt8) (l : List UInt8) (h : 49 ≤ c.toNat) (hl : 19 ≤ l.length) : 9223372036854775807 < num (c :: l) := by
  have h1 := num_ge c l h
  have h2 : 10 ^ 19 ≤ 10 ^ l.length := Nat.pow_le_pow_right (by omega) hl
  omega
theorem under_len (l : List UInt8) (h : l.all isDig = true) (hl : l.length ≤ 18) : num l ≤ 9223372036854775807 := by
  have h1 := num_lt l h
  have h2 : 10 ^ l.length ≤ 10 ^ 18 := Nat.pow_le_pow_right (by omega) hl
  omega
end Go.Proofs.YtfbikpddpdkllaaDoor
namespace Go.Proofs.YtfbikpddpdkllaaDoor
open Go.RowKit
set_option linter.unusedVariables false
set_option linter.unusedSimpArgs false

theorem dig_toNat (d : Nat) (h : d < 10) : (UInt8.ofNat (48 + d)).toNat = 48 + d := by
  have : d = 0 ∨ d = 1 ∨ d = 2 ∨ d = 3 ∨ d = 4 ∨ d = 5 ∨ d = 6 ∨ d = 7 ∨ d = 8 ∨ d = 9 := by omega
  rcases this with rfl | rfl | rfl | rfl | rfl | rfl | rfl | rfl | rfl | rfl <;> rfl
theorem dec_digits (u : Nat) : (Lib.decDigits u).all isDig = true ∧ Lib.decDigits u ≠ [] ∧ num (Lib.decDigits u) = u := by
  induction u using Nat.strongRecOn with
  | _ u ih =>
    rw [Lib.decDigits]
    by_cases h : u < 10
    · rw [dif_pos h]
      have e := dig_toNat u h
      refine ⟨by simp only [List.all_cons, List.all_nil, Bool.and_true]; rw [isDig_iff]; omega, by simp, ?_⟩
      show 0 * 10 + ((UInt8.ofNat (48 + u)).toNat - 48) = u
      omega
    · rw [dif_neg h]
      obtain ⟨h1, h2, h3⟩ := ih (u / 10) (by omega)
      have e := dig_toNat (u % 10) (by omega)
      refine ⟨?_, by simp, ?_⟩
      · rw [List.all_append, h1]
        simp only [List.all_cons, List.all_nil, Bool.and_true, Bool.true_and]
        rw [isDig_iff]; omega
      · rw [num_snoc, h3]
        omega
theorem read_dec_pos (n : Int) (h : 0 ≤ n) (h1 : n ≤ 9223372036854775807) : readV (Lib.itoa n) = n ∧ readE (Lib.itoa n) = 0 := by
  obtain ⟨u, rfl⟩ := Int.eq_ofNat_of_zero_le h
  rw [Lib.itoa_nonneg]
  obtain ⟨h1, h2, h3⟩ := dec_digits u
  have hd : digits (Lib.decDigits u) = true := by
    unfold digits
    rw [h1, Bool.and_true]
    simpa using h2
  have hf : fits (u : Int) = true := fits_of ⟨by omega, by omega⟩
  obtain ⟨h4, h5⟩ := read_yes hd
  rw [h4, h5, h3]
  simp [val, err, hf]
theorem read_dec_neg (n : Int) (h : n < 0) : readV (Lib.itoa n) = 0 ∧ readE (Lib.itoa n) = 3 := by
  apply read_not
  unfold Lib.itoa
  rw [if_pos h]
  rfl
end Go.Proofs.YtfbikpddpdkllaaDoor
