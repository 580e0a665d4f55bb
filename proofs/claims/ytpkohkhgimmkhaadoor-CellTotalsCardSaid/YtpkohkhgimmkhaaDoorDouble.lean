/-
  Plain law: strings.ReplaceAll of one byte by two doubles each such byte. No program in sight. No conditions.
-/
import Derived.Lib.ReplaceLaws
namespace Go.Proofs.YtpkohkhgimmkhaaDoor
open Go
set_option linter.unusedVariables false
set_option linter.unusedSimpArgs false

/-- each quote doubled -/
def dbl : List UInt8 → List UInt8
  | [] => []
  | b :: l => if b = 39 then 39 :: 39 :: dbl l else b :: dbl l
theorem replaceK_39 : ∀ l : List UInt8, Lib.replaceK [39] [39, 39] (Lib.count l [39]) l = dbl l
  | [] => rfl
  | b :: l => by
    have ih := replaceK_39 l
    by_cases hb : b = 39
    · subst hb
      have hi : Lib.index ((39 : UInt8) :: l) [39] = ((0 : Nat) : Int) := by rw [Lib.index_one, Lib.indexByte]; rfl
      rw [Lib.count_hit (by simp) hi, Nat.add_comm 1, Lib.replaceK_hit _ _ _ _ _ hi, dbl, if_pos rfl]
      show [] ++ [39, 39] ++ Lib.replaceK [39] [39, 39] (Lib.count l [39]) l = _
      rw [ih]
      rfl
    · rw [dbl, if_neg hb, ← ih]
      by_cases hm : Lib.indexByte l 39 = -1
      · have h1 : Lib.index l [39] = -1 := by rw [Lib.index_one]; exact hm
        have h2 : Lib.index (b :: l) [39] = -1 := by rw [Lib.index_one, Lib.indexByte, if_neg (by simpa using hb), if_pos (by simpa using hm)]
        rw [Lib.count_miss h1, Lib.count_miss h2]
        rfl
      · have hg := Lib.indexByte_ge l 39
        obtain ⟨i, hi⟩ := Int.eq_ofNat_of_zero_le (show 0 ≤ Lib.indexByte l 39 by omega)
        have h1 : Lib.index l [39] = (i : Int) := by rw [Lib.index_one]; exact hi
        have h2 : Lib.index (b :: l) [39] = ((i + 1 : Nat) : Int) := by
          rw [Lib.index_one, Lib.indexByte, if_neg (by simpa using hb), if_neg (by simpa using hm), hi]
          rfl
        rw [Lib.count_hit (by simp) h1, Lib.count_hit (by simp) h2, Nat.add_comm 1, Nat.add_comm 1 (Lib.count (l.drop (i + [(39 : UInt8)].length)) [39]), Lib.replaceK_hit _ _ _ _ _ h2]
        show (b :: l).take (i + 1) ++ [39, 39] ++ Lib.replaceK [39] [39, 39] (Lib.count ((b :: l).drop (i + 1 + 1)) [39]) ((b :: l).drop (i + 1 + 1)) = b :: Lib.replaceK [39] [39, 39] (Lib.count (l.drop (i + 1)) [39] + 1) l
        rw [Lib.replaceK_hit _ _ _ _ _ h1]
        rfl
theorem replaceAll_39 (l : List UInt8) : Lib.replaceAll l [39] [39, 39] = dbl l := by
  unfold Lib.replaceAll Lib.replace Lib.replaceNum
  rw [if_neg (by decide), if_pos (.inl (by decide))]
  exact replaceK_39 l
theorem dbl_le : ∀ l : List UInt8, (dbl l).length ≤ 2 * l.length
  | [] => by simp [dbl]
  | b :: l => by
    have := dbl_le l
    rw [dbl]
    split <;> simp <;> omega
end Go.Proofs.YtpkohkhgimmkhaaDoor
