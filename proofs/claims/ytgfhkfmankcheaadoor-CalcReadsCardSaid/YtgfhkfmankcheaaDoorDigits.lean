/-
  Plain law of decimal digits: what a text of digits says, and that it grows with each digit. No program in sight. No conditions.
-/
import Derived.Test.YtgfhkfmankcheaaDoorNums
namespace Go.Proofs.YtgfhkfmankcheaaDoor
open Go.RowKit
set_option linter.unusedVariables false
set_option linter.unusedSimpArgs false

def isDig (c : UInt8) : Bool := decide (48 ≤ c.toNat) && decide (c.toNat ≤ 57)
def numF (n : Nat) (c : UInt8) : Nat := n * 10 + (c.toNat - 48)
/-- the number that digits say -/
def num (l : List UInt8) : Nat := l.foldl numF 0
/-- is it digits, and any? -/
def digits (l : List UInt8) : Bool := !l.isEmpty && l.all isDig
def readV (l : List UInt8) : Int := if digits l = true then val (num l : Nat) else 0
def readE (l : List UInt8) : Int := if digits l = true then err (num l : Nat) else 3

theorem isDig_iff (c : UInt8) : isDig c = true ↔ 48 ≤ c.toNat ∧ c.toNat ≤ 57 := by simp [isDig]
theorem num_snoc (l : List UInt8) (c : UInt8) : num (l ++ [c]) = num l * 10 + (c.toNat - 48) := by simp [num, numF]
theorem foldl_ge (l : List UInt8) : ∀ n, n ≤ l.foldl numF n := by
  induction l with
  | nil => intro n; exact Nat.le_refl _
  | cons c l ih =>
    intro n
    have := ih (numF n c)
    simp only [List.foldl_cons]
    unfold numF at this ⊢
    omega
theorem num_take_le (l : List UInt8) (k : Nat) : num (l.take k) ≤ num l := by
  have h : num l = (l.drop k).foldl numF (num (l.take k)) := by
    unfold num
    rw [← List.foldl_append, List.take_append_drop]
  rw [h]
  exact foldl_ge _ _
theorem take_snoc (s : ByteArray) (k : Nat) (h : k < s.size) : s.data.toList.take (k + 1) = s.data.toList.take k ++ [s[k]] := by
  rw [List.take_succ_eq_append_getElem (by simpa using h)]; rfl
theorem take_all (s : ByteArray) (k : Nat) (h : s.size ≤ k) : s.data.toList.take k = s.data.toList := List.take_of_length_le (by simpa using h)
theorem all_at (s : ByteArray) (h : s.data.toList.all isDig = true) (k : Nat) (hk : k < s.size) : 48 ≤ (s[k]).toNat ∧ (s[k]).toNat ≤ 57 := by
  rw [← isDig_iff]
  exact List.all_eq_true.1 h _ (Array.getElem_mem_toList (xs := s.data) hk)
theorem digits_not (s : ByteArray) (k : Nat) (hk : k < s.size) (h : ¬ (48 ≤ (s[k]).toNat ∧ (s[k]).toNat ≤ 57)) : digits s.data.toList = false := by
  cases hd : digits s.data.toList with
  | false => rfl
  | true =>
    unfold digits at hd
    simp only [Bool.and_eq_true] at hd
    exact absurd (all_at s hd.2 k hk) h
theorem read_not {l : List UInt8} (h : digits l = false) : readV l = 0 ∧ readE l = 3 := by unfold readV readE; simp [h]
theorem digits_yes {s : ByteArray} (h : s.data.toList.all isDig = true) (hs : 0 < s.size) : digits s.data.toList = true := by
  unfold digits
  rw [h, Bool.and_true]
  have : s.data.toList ≠ [] := by
    intro e
    have h2 : s.data.toList.length = s.size := by simp
    rw [e] at h2
    simp at h2
    omega
  simpa using this
theorem read_yes {l : List UInt8} (h : digits l = true) : readV l = val (num l : Nat) ∧ readE l = err (num l : Nat) := by unfold readV readE; simp [h]
theorem not_fits_mono {a b : Int} (h0 : 0 ≤ a) (h : a ≤ b) (hf : fits a = false) : fits b = false := by
  cases h2 : fits b with
  | false => rfl
  | true =>
    have h3 := (fits_iff b).1 h2
    have : fits a = true := (fits_iff a).2 (by omega)
    rw [hf] at this
    exact absurd this (by decide)
theorem read_over {l : List UInt8} {n : Int} (h : digits l = true) (h0 : 0 ≤ n) (hn : n ≤ num l) (hf : fits n = false) : readV l = 0 ∧ readE l = 9 := by
  obtain ⟨h1, h2⟩ := read_yes h
  have h3 := not_fits_mono h0 hn hf
  rw [h1, h2]
  unfold val err
  simp [h3]
end Go.Proofs.YtgfhkfmankcheaaDoor
