/-
  Plain law: a walk that counts and stops at the number 'most' counts each part once, and no further behind the first no. Conditions: small numbers.
-/
import Derived.Test.YtijohhadgioolaaCount
namespace Go.Proofs.Ytijohhadgioolaa
open Go.RowKit
set_option linter.unusedVariables false
set_option linter.unusedSimpArgs false

theorem fc_at (most s : Int) (t : Ex) (h0 : 0 ≤ s) (h1 : s ≤ 1000000) : fcount most s t = (s + 1, s + 1 != most) := by
  have e : wrap64 (s + 1) = s + 1 := by unfold wrap64; omega
  unfold fcount
  rw [e]
theorem count_one (t : Ex) : 1 ≤ t.count := by cases t <;> simp [Ex.count]
theorem wk_leaf (most s : Int) (t : Ex) (h0 : 0 ≤ s) (h1 : s ≤ 1000000) (h2 : most = 0 ∨ s < most) : (if (fcount most s t).2 then ((fcount most s t).1, true) else ((fcount most s t).1, false)) = if most = 0 ∨ s + 1 < most then (s + 1, true) else (most, false) := by
  rw [fc_at most s t h0 h1]
  by_cases h : s + 1 = most
  · subst h
    rw [if_neg (by simp), if_neg (by omega)]
  · rw [if_pos (by simpa using h), if_pos (by omega)]
theorem wk_one (most s : Int) (t x : Ex) (h0 : 0 ≤ s) (h1 : s + (x.count + 1 : Nat) ≤ 1000000) (h2 : most = 0 ∨ s < most)
    (ih : ∀ s : Int, 0 ≤ s → s + x.count ≤ 1000000 → (most = 0 ∨ s < most) → wk (fcount most) x s = if most = 0 ∨ s + x.count < most then (s + x.count, true) else (most, false)) :
    (if (fcount most s t).2 then wk (fcount most) x (fcount most s t).1 else ((fcount most s t).1, false)) = if most = 0 ∨ s + (x.count + 1 : Nat) < most then (s + (x.count + 1 : Nat), true) else (most, false) := by
  rw [fc_at most s t h0 (by omega)]
  have hc := count_one x
  by_cases h : s + 1 = most
  · subst h
    rw [if_neg (by simp), if_neg (by omega)]
  · rw [if_pos (by simpa using h)]
    show wk (fcount most) x (s + 1) = _
    rw [ih (s + 1) (by omega) (by omega) (by omega)]
    by_cases h3 : most = 0 ∨ s + 1 + x.count < most
    · rw [if_pos h3, if_pos (by omega)]
      congr 1
      omega
    · rw [if_neg h3, if_neg (by omega)]
theorem wk_two (most s : Int) (x y : Ex) (h0 : 0 ≤ s) (h1 : s + (x.count + y.count + 1 : Nat) ≤ 1000000) (h2 : most = 0 ∨ s < most)
    (ihx : ∀ s : Int, 0 ≤ s → s + x.count ≤ 1000000 → (most = 0 ∨ s < most) → wk (fcount most) x s = if most = 0 ∨ s + x.count < most then (s + x.count, true) else (most, false))
    (ihy : ∀ s : Int, 0 ≤ s → s + y.count ≤ 1000000 → (most = 0 ∨ s < most) → wk (fcount most) y s = if most = 0 ∨ s + y.count < most then (s + y.count, true) else (most, false)) :
    wk (fcount most) (.bin x y) s = if most = 0 ∨ s + (x.count + y.count + 1 : Nat) < most then (s + (x.count + y.count + 1 : Nat), true) else (most, false) := by
  have hx := count_one x
  have hy := count_one y
  rw [wk, fc_at most s _ h0 (by omega)]
  by_cases h : s + 1 = most
  · subst h
    rw [if_neg (by simp), if_neg (by omega)]
  · rw [if_pos (by simpa using h)]
    show (if (wk (fcount most) x (s + 1)).2 then wk (fcount most) y (wk (fcount most) x (s + 1)).1 else ((wk (fcount most) x (s + 1)).1, false)) = _
    rw [ihx (s + 1) (by omega) (by omega) (by omega)]
    by_cases h3 : most = 0 ∨ s + 1 + x.count < most
    · rw [if_pos h3]
      rw [if_pos (show ((s + 1 + (x.count : Int), true) : Int × Bool).2 = true from rfl)]
      show wk (fcount most) y (s + 1 + x.count) = _
      rw [ihy (s + 1 + x.count) (by omega) (by omega) (by omega)]
      by_cases h4 : most = 0 ∨ s + 1 + x.count + y.count < most
      · rw [if_pos h4, if_pos (by omega)]
        congr 1
        omega
      · rw [if_neg h4, if_neg (by omega)]
    · rw [if_neg h3]
      rw [if_neg (show ¬ ((most, false) : Int × Bool).2 = true by simp), if_neg (by omega)]
theorem wk_count (most : Int) (hm : 0 ≤ most) : ∀ (t : Ex) (s : Int), 0 ≤ s → s + t.count ≤ 1000000 → (most = 0 ∨ s < most) → wk (fcount most) t s = if most = 0 ∨ s + t.count < most then (s + t.count, true) else (most, false)
  | .lit, s, h0, h1, h2 => wk_leaf most s .lit h0 (by simp only [Ex.count] at h1; omega) h2
  | .col, s, h0, h1, h2 => wk_leaf most s .col h0 (by simp only [Ex.count] at h1; omega) h2
  | .agg0, s, h0, h1, h2 => wk_leaf most s .agg0 h0 (by simp only [Ex.count] at h1; omega) h2
  | .un x, s, h0, h1, h2 => wk_one most s (.un x) x h0 h1 h2 (fun s => wk_count most hm x s)
  | .is x, s, h0, h1, h2 => wk_one most s (.is x) x h0 h1 h2 (fun s => wk_count most hm x s)
  | .agg x, s, h0, h1, h2 => wk_one most s (.agg x) x h0 h1 h2 (fun s => wk_count most hm x s)
  | .bin x y, s, h0, h1, h2 => wk_two most s x y h0 h1 h2 (fun s => wk_count most hm x s) (fun s => wk_count most hm y s)
end Go.Proofs.Ytijohhadgioolaa
