/-
  The lexer's reference and laws as plain functions, and that the Go text comes to their answers: written by a program (the kit's print, turned so that contracts made by hand stand in for what it does not take). Conditions: none beyond each theorem's own.
-/
import Derived.Test.YtfbikpddpdkllaaDoorLx0
import Derived.Test.YtfbikpddpdkllaaDoorLxF18
import Derived.Test.YtfbikpddpdkllaaDoorLxF19
import Derived.Test.YtfbikpddpdkllaaDoorLxF20
import Derived.Test.YtfbikpddpdkllaaDoorLxF22
import Derived.Test.YtfbikpddpdkllaaDoorLxF23
import Derived.Test.YtfbikpddpdkllaaDoorLxF24
import Derived.Test.YtfbikpddpdkllaaDoorLexRead
namespace Go.Proofs.YtfbikpddpdkllaaDoor.Lx
open Go.RowKit Go.Proofs.YtfbikpddpdkllaaDoorW.PrintWords Go.Proofs.YtfbikpddpdkllaaDoorW.PrintLast Go.Proofs.YtfbikpddpdkllaaDoorW.PrintMore
attribute [local go_sem] max2_int min2_int max_two min_two max_three min_three max_four min_four   -- for this text's walks alone
set_option linter.unusedVariables false
set_option linter.unusedSimpArgs false

/-! ### lapidaryref14_Split: function 11 -/
mutual
def lapidaryref14_Split.l0 : Nat → ByteArray → List (S35) → Int → Option ((List (S35)) × Int)
  | 0, _, _, _ => none
  | k + 1, x0, x4, x5 => if x5 < (x0.size : Int) then (if 0 ≤ x5 then (if (bt x0 x5) = 32 then (lapidaryref14_Split.j1 k x0 x4 x5 (bt x0 x5) x5 true) else (if (bt x0 x5) = 9 then (lapidaryref14_Split.j1 k x0 x4 x5 (bt x0 x5) x5 true) else (if (bt x0 x5) = 10 then (lapidaryref14_Split.j1 k x0 x4 x5 (bt x0 x5) x5 true) else (lapidaryref14_Split.j1 k x0 x4 x5 (bt x0 x5) x5 ((bt x0 x5) == 13))))) else (none)) else (some (x4, 0))
def lapidaryref14_Split.j1 : Nat → ByteArray → List (S35) → Int → Int → Int → Bool → Option ((List (S35)) × Int)
  | 0, _, _, _, _, _, _ => none
  | k + 1, x0, x4, x5, x6, x7, x72 => if x72 = true then (lapidaryref14_Split.l0 k x0 x4 (wrap64 (x5 + 1))) else ((lapidaryref14_letter.f x6).bind fun t131 => (if t131 = true then (lapidaryref14_Split.l1 k x0 x4 x5 x7) else ((lapidaryref14_digit.f x6).bind fun t142 => (if t142 = true then (lapidaryref14_Split.l2 k x0 x4 x5 x7) else (if x6 = 39 then (lapidaryref14_Split.l3 k x0 x4 (wrap64 (x5 + 1)) ([] : List Int) false) else (if (wrap64 (x5 + 1)) < (x0.size : Int) then (if x6 = 60 then (if 0 ≤ (wrap64 (x5 + 1)) then (if (bt x0 (wrap64 (x5 + 1))) = 61 then (lapidaryref14_Split.j6 k x0 x4 x5 x6 x7 true) else (if (bt x0 (wrap64 (x5 + 1))) = 62 then (lapidaryref14_Split.j6 k x0 x4 x5 x6 x7 true) else (if x6 = 62 then (lapidaryref14_Split.j6 k x0 x4 x5 x6 x7 ((bt x0 (wrap64 (x5 + 1))) == 61)) else (lapidaryref14_Split.j6 k x0 x4 x5 x6 x7 false)))) else (none)) else (if x6 = 62 then (if 0 ≤ (wrap64 (x5 + 1)) then (lapidaryref14_Split.j6 k x0 x4 x5 x6 x7 ((bt x0 (wrap64 (x5 + 1))) == 61)) else (none)) else (lapidaryref14_Split.j6 k x0 x4 x5 x6 x7 false))) else (lapidaryref14_Split.j6 k x0 x4 x5 x6 x7 false)))))))
def lapidaryref14_Split.l1 : Nat → ByteArray → List (S35) → Int → Int → Option ((List (S35)) × Int)
  | 0, _, _, _, _ => none
  | k + 1, x0, x4, x5, x7 => if x5 < (x0.size : Int) then (if 0 ≤ x5 then ((lapidaryref14_letter.f (bt x0 x5)).bind fun t132 => (if t132 = true then (lapidaryref14_Split.l1 k x0 x4 (wrap64 (x5 + 1)) x7) else ((lapidaryref14_digit.f (bt x0 x5)).bind fun t133 => (if t133 = true then (lapidaryref14_Split.l1 k x0 x4 (wrap64 (x5 + 1)) x7) else (if 0 ≤ x7 then (if x7 ≤ x5 then (if x5 ≤ (x0.size : Int) then ((lapidaryref14_lower.f k (x0.extract (x7 : Int).toNat (x5 : Int).toNat)).bind fun t134 => (if x4.length < 4398046511104 then (lapidaryref14_Split.l0 k x0 (x4 ++ [(⟨1, t134, 0⟩ : S35)]) x5) else (none))) else (none)) else (none)) else (none)))))) else (none)) else (if 0 ≤ x7 then (if x7 ≤ x5 then (if x5 ≤ (x0.size : Int) then ((lapidaryref14_lower.f k (x0.extract (x7 : Int).toNat (x5 : Int).toNat)).bind fun t138 => (if x4.length < 4398046511104 then (lapidaryref14_Split.l0 k x0 (x4 ++ [(⟨1, t138, 0⟩ : S35)]) x5) else (none))) else (none)) else (none)) else (none))
def lapidaryref14_Split.l2 : Nat → ByteArray → List (S35) → Int → Int → Option ((List (S35)) × Int)
  | 0, _, _, _, _ => none
  | k + 1, x0, x4, x5, x7 => if x5 < (x0.size : Int) then (if 0 ≤ x5 then ((lapidaryref14_digit.f (bt x0 x5)).bind fun t143 => (if t143 = true then (lapidaryref14_Split.l2 k x0 x4 (wrap64 (x5 + 1)) x7) else (if 0 ≤ x7 then (if x7 ≤ x5 then (if x5 ≤ (x0.size : Int) then ((lapidaryref01_Read.f (x0.extract (x7 : Int).toNat (x5 : Int).toNat)).bind fun bt144 => (if bt144.2 = 0 then (if x4.length < 4398046511104 then (lapidaryref14_Split.l0 k x0 (x4 ++ [(⟨2, (⟨#[]⟩ : ByteArray), bt144.1⟩ : S35)]) x5) else (none)) else (some (([] : List (S35)), bt144.2)))) else (none)) else (none)) else (none)))) else (none)) else (if 0 ≤ x7 then (if x7 ≤ x5 then (if x5 ≤ (x0.size : Int) then ((lapidaryref01_Read.f (x0.extract (x7 : Int).toNat (x5 : Int).toNat)).bind fun bt149 => (if bt149.2 = 0 then (if x4.length < 4398046511104 then (lapidaryref14_Split.l0 k x0 (x4 ++ [(⟨2, (⟨#[]⟩ : ByteArray), bt149.1⟩ : S35)]) x5) else (none)) else (some (([] : List (S35)), bt149.2)))) else (none)) else (none)) else (none))
def lapidaryref14_Split.l3 : Nat → ByteArray → List (S35) → Int → List Int → Bool → Option ((List (S35)) × Int)
  | 0, _, _, _, _, _ => none
  | k + 1, x0, x4, x5, x10, x11 => if x5 < (x0.size : Int) then (lapidaryref14_Split.j5 k x0 x4 x5 x10 x11 (!x11)) else (lapidaryref14_Split.j5 k x0 x4 x5 x10 x11 false)
def lapidaryref14_Split.j5 : Nat → ByteArray → List (S35) → Int → List Int → Bool → Bool → Option ((List (S35)) × Int)
  | 0, _, _, _, _, _, _ => none
  | k + 1, x0, x4, x5, x10, x11, x162 => if x162 = true then (if 0 ≤ x5 then (if x5 < (x0.size : Int) then (if (bt x0 x5) = 39 then (if (wrap64 (x5 + 1)) < (x0.size : Int) then (if 0 ≤ (wrap64 (x5 + 1)) then (if (bt x0 (wrap64 (x5 + 1))) = 39 then (if x10.length < 140737488355328 then (lapidaryref14_Split.l3 k x0 x4 (wrap64 (x5 + 2)) (x10 ++ [39]) x11) else (none)) else (lapidaryref14_Split.l3 k x0 x4 (wrap64 (x5 + 1)) x10 true)) else (none)) else (lapidaryref14_Split.l3 k x0 x4 (wrap64 (x5 + 1)) x10 true)) else (if x10.length < 140737488355328 then (lapidaryref14_Split.l3 k x0 x4 (wrap64 (x5 + 1)) (x10 ++ [bt x0 x5]) x11) else (none))) else (none)) else (none)) else (if x11 = true then ((lapidaryref02_Right.f k 2 0 (strOfNums x10) false).bind fun t161 => (if t161 = true then (if x4.length < 4398046511104 then (lapidaryref14_Split.l0 k x0 (x4 ++ [(⟨3, strOfNums x10, 0⟩ : S35)]) x5) else (none)) else ((lapidaryref02_Whole.f k (strOfNums x10)).bind fun t165 => (if t165 = true then (some (([] : List (S35)), 2)) else (some (([] : List (S35)), 4)))))) else (some (([] : List (S35)), 4)))
def lapidaryref14_Split.j6 : Nat → ByteArray → List (S35) → Int → Int → Int → Bool → Option ((List (S35)) × Int)
  | 0, _, _, _, _, _, _ => none
  | k + 1, x0, x4, x5, x6, x7, x57 => if x57 = true then (if 0 ≤ x7 then (if x7 ≤ (wrap64 (x5 + 2)) then (if (wrap64 (x5 + 2)) ≤ (x0.size : Int) then (if x4.length < 4398046511104 then (lapidaryref14_Split.l0 k x0 (x4 ++ [(⟨4, x0.extract (x7 : Int).toNat ((wrap64 (x5 + 2)) : Int).toNat, 0⟩ : S35)]) (wrap64 (x5 + 2))) else (none)) else (none)) else (none)) else (none)) else ((lapidaryref14_single.f k x6).bind fun t169 => (if t169 = true then (if 0 ≤ x7 then (if x7 ≤ (wrap64 (x5 + 1)) then (if (wrap64 (x5 + 1)) ≤ (x0.size : Int) then (if x4.length < 4398046511104 then (lapidaryref14_Split.l0 k x0 (x4 ++ [(⟨4, x0.extract (x7 : Int).toNat ((wrap64 (x5 + 1)) : Int).toNat, 0⟩ : S35)]) (wrap64 (x5 + 1))) else (none)) else (none)) else (none)) else (none)) else (some (([] : List (S35)), 4))))
end
def lapidaryref14_Split.f (k : Nat) (a0 : ByteArray) : Option ((List (S35)) × Int) := if (a0.size : Int) > 2000 then (some (([] : List (S35)), 2)) else (lapidaryref14_Split.l0 k a0 ([] : List (S35)) 0)
theorem lapidaryref14_Split.mono_l : ∀ k, (∀ y0 y1 y2, LeO (lapidaryref14_Split.l0 k y0 y1 y2) (lapidaryref14_Split.l0 (k + 1) y0 y1 y2)) ∧ (∀ y0 y1 y2 y3 y4 y5, LeO (lapidaryref14_Split.j1 k y0 y1 y2 y3 y4 y5) (lapidaryref14_Split.j1 (k + 1) y0 y1 y2 y3 y4 y5)) ∧ (∀ y0 y1 y2 y3, LeO (lapidaryref14_Split.l1 k y0 y1 y2 y3) (lapidaryref14_Split.l1 (k + 1) y0 y1 y2 y3)) ∧ (∀ y0 y1 y2 y3, LeO (lapidaryref14_Split.l2 k y0 y1 y2 y3) (lapidaryref14_Split.l2 (k + 1) y0 y1 y2 y3)) ∧ (∀ y0 y1 y2 y3 y4, LeO (lapidaryref14_Split.l3 k y0 y1 y2 y3 y4) (lapidaryref14_Split.l3 (k + 1) y0 y1 y2 y3 y4)) ∧ (∀ y0 y1 y2 y3 y4 y5, LeO (lapidaryref14_Split.j5 k y0 y1 y2 y3 y4 y5) (lapidaryref14_Split.j5 (k + 1) y0 y1 y2 y3 y4 y5)) ∧ (∀ y0 y1 y2 y3 y4 y5, LeO (lapidaryref14_Split.j6 k y0 y1 y2 y3 y4 y5) (lapidaryref14_Split.j6 (k + 1) y0 y1 y2 y3 y4 y5))
  | 0 => ⟨fun _ _ _ r h => by simp [lapidaryref14_Split.l0] at h, fun _ _ _ _ _ _ r h => by simp [lapidaryref14_Split.j1] at h, fun _ _ _ _ r h => by simp [lapidaryref14_Split.l1] at h, fun _ _ _ _ r h => by simp [lapidaryref14_Split.l2] at h, fun _ _ _ _ _ r h => by simp [lapidaryref14_Split.l3] at h, fun _ _ _ _ _ _ r h => by simp [lapidaryref14_Split.j5] at h, fun _ _ _ _ _ _ r h => by simp [lapidaryref14_Split.j6] at h⟩
  | k + 1 => by
    obtain ⟨ih0, ih1, ih2, ih3, ih4, ih5, ih6⟩ := lapidaryref14_Split.mono_l k
    refine ⟨?_, ?_, ?_, ?_, ?_, ?_, ?_⟩
    · intro y0 y1 y2
      unfold lapidaryref14_Split.l0
      repeat' first
      | (with_reducible exact ih0 _ _ _)
      | (with_reducible exact ih1 _ _ _ _ _ _)
      | (with_reducible exact ih2 _ _ _ _)
      | (with_reducible exact ih3 _ _ _ _)
      | (with_reducible exact ih4 _ _ _ _ _)
      | (with_reducible exact ih5 _ _ _ _ _ _)
      | (with_reducible exact ih6 _ _ _ _ _ _)
      | (with_reducible exact lapidaryref02_Right.mono _ _ _ _ _)
      | (with_reducible exact lapidaryref02_Whole.mono _ _)
      | (with_reducible exact lapidaryref14_lower.mono _ _)
      | (with_reducible exact lapidaryref14_single.mono _ _)
      | (with_reducible exact LeO.refl _)
      | (with_reducible exact LeO.none _)
      | (with_reducible refine LeO.ite ?_ ?_)
      | (with_reducible refine LeO.bind ?_ (fun _ => ?_))
      | exact ih0 _ _ _
      | exact ih1 _ _ _ _ _ _
      | exact ih2 _ _ _ _
      | exact ih3 _ _ _ _
      | exact ih4 _ _ _ _ _
      | exact ih5 _ _ _ _ _ _
      | exact ih6 _ _ _ _ _ _
      | exact lapidaryref02_Right.mono _ _ _ _ _
      | exact lapidaryref02_Whole.mono _ _
      | exact lapidaryref14_lower.mono _ _
      | exact lapidaryref14_single.mono _ _
      | exact LeO.none _
      | refine LeO.ite ?_ ?_
      | refine LeO.bind ?_ (fun _ => ?_)
    · intro y0 y1 y2 y3 y4 y5
      unfold lapidaryref14_Split.j1
      repeat' first
      | (with_reducible exact ih0 _ _ _)
      | (with_reducible exact ih1 _ _ _ _ _ _)
      | (with_reducible exact ih2 _ _ _ _)
      | (with_reducible exact ih3 _ _ _ _)
      | (with_reducible exact ih4 _ _ _ _ _)
      | (with_reducible exact ih5 _ _ _ _ _ _)
      | (with_reducible exact ih6 _ _ _ _ _ _)
      | (with_reducible exact lapidaryref02_Right.mono _ _ _ _ _)
      | (with_reducible exact lapidaryref02_Whole.mono _ _)
      | (with_reducible exact lapidaryref14_lower.mono _ _)
      | (with_reducible exact lapidaryref14_single.mono _ _)
      | (with_reducible exact LeO.refl _)
      | (with_reducible exact LeO.none _)
      | (with_reducible refine LeO.ite ?_ ?_)
      | (with_reducible refine LeO.bind ?_ (fun _ => ?_))
      | exact ih0 _ _ _
      | exact ih1 _ _ _ _ _ _
      | exact ih2 _ _ _ _
      | exact ih3 _ _ _ _
      | exact ih4 _ _ _ _ _
      | exact ih5 _ _ _ _ _ _
      | exact ih6 _ _ _ _ _ _
      | exact lapidaryref02_Right.mono _ _ _ _ _
      | exact lapidaryref02_Whole.mono _ _
      | exact lapidaryref14_lower.mono _ _
      | exact lapidaryref14_single.mono _ _
      | exact LeO.none _
      | refine LeO.ite ?_ ?_
      | refine LeO.bind ?_ (fun _ => ?_)
    · intro y0 y1 y2 y3
      unfold lapidaryref14_Split.l1
      repeat' first
      | (with_reducible exact ih0 _ _ _)
      | (with_reducible exact ih1 _ _ _ _ _ _)
      | (with_reducible exact ih2 _ _ _ _)
      | (with_reducible exact ih3 _ _ _ _)
      | (with_reducible exact ih4 _ _ _ _ _)
      | (with_reducible exact ih5 _ _ _ _ _ _)
      | (with_reducible exact ih6 _ _ _ _ _ _)
      | (with_reducible exact lapidaryref02_Right.mono _ _ _ _ _)
      | (with_reducible exact lapidaryref02_Whole.mono _ _)
      | (with_reducible exact lapidaryref14_lower.mono _ _)
      | (with_reducible exact lapidaryref14_single.mono _ _)
      | (with_reducible exact LeO.refl _)
      | (with_reducible exact LeO.none _)
      | (with_reducible refine LeO.ite ?_ ?_)
      | (with_reducible refine LeO.bind ?_ (fun _ => ?_))
      | exact ih0 _ _ _
      | exact ih1 _ _ _ _ _ _
      | exact ih2 _ _ _ _
      | exact ih3 _ _ _ _
      | exact ih4 _ _ _ _ _
      | exact ih5 _ _ _ _ _ _
      | exact ih6 _ _ _ _ _ _
      | exact lapidaryref02_Right.mono _ _ _ _ _
      | exact lapidaryref02_Whole.mono _ _
      | exact lapidaryref14_lower.mono _ _
      | exact lapidaryref14_single.mono _ _
      | exact LeO.none _
      | refine LeO.ite ?_ ?_
      | refine LeO.bind ?_ (fun _ => ?_)
    · intro y0 y1 y2 y3
      unfold lapidaryref14_Split.l2
      repeat' first
      | (with_reducible exact ih0 _ _ _)
      | (with_reducible exact ih1 _ _ _ _ _ _)
      | (with_reducible exact ih2 _ _ _ _)
      | (with_reducible exact ih3 _ _ _ _)
      | (with_reducible exact ih4 _ _ _ _ _)
      | (with_reducible exact ih5 _ _ _ _ _ _)
      | (with_reducible exact ih6 _ _ _ _ _ _)
      | (with_reducible exact lapidaryref02_Right.mono _ _ _ _ _)
      | (with_reducible exact lapidaryref02_Whole.mono _ _)
      | (with_reducible exact lapidaryref14_lower.mono _ _)
      | (with_reducible exact lapidaryref14_single.mono _ _)
      | (with_reducible exact LeO.refl _)
      | (with_reducible exact LeO.none _)
      | (with_reducible refine LeO.ite ?_ ?_)
      | (with_reducible refine LeO.bind ?_ (fun _ => ?_))
      | exact ih0 _ _ _
      | exact ih1 _ _ _ _ _ _
      | exact ih2 _ _ _ _
      | exact ih3 _ _ _ _
      | exact ih4 _ _ _ _ _
      | exact ih5 _ _ _ _ _ _
      | exact ih6 _ _ _ _ _ _
      | exact lapidaryref02_Right.mono _ _ _ _ _
      | exact lapidaryref02_Whole.mono _ _
      | exact lapidaryref14_lower.mono _ _
      | exact lapidaryref14_single.mono _ _
      | exact LeO.none _
      | refine LeO.ite ?_ ?_
      | refine LeO.bind ?_ (fun _ => ?_)
    · intro y0 y1 y2 y3 y4
      unfold lapidaryref14_Split.l3
      repeat' first
      | (with_reducible exact ih0 _ _ _)
      | (with_reducible exact ih1 _ _ _ _ _ _)
      | (with_reducible exact ih2 _ _ _ _)
      | (with_reducible exact ih3 _ _ _ _)
      | (with_reducible exact ih4 _ _ _ _ _)
      | (with_reducible exact ih5 _ _ _ _ _ _)
      | (with_reducible exact ih6 _ _ _ _ _ _)
      | (with_reducible exact lapidaryref02_Right.mono _ _ _ _ _)
      | (with_reducible exact lapidaryref02_Whole.mono _ _)
      | (with_reducible exact lapidaryref14_lower.mono _ _)
      | (with_reducible exact lapidaryref14_single.mono _ _)
      | (with_reducible exact LeO.refl _)
      | (with_reducible exact LeO.none _)
      | (with_reducible refine LeO.ite ?_ ?_)
      | (with_reducible refine LeO.bind ?_ (fun _ => ?_))
      | exact ih0 _ _ _
      | exact ih1 _ _ _ _ _ _
      | exact ih2 _ _ _ _
      | exact ih3 _ _ _ _
      | exact ih4 _ _ _ _ _
      | exact ih5 _ _ _ _ _ _
      | exact ih6 _ _ _ _ _ _
      | exact lapidaryref02_Right.mono _ _ _ _ _
      | exact lapidaryref02_Whole.mono _ _
      | exact lapidaryref14_lower.mono _ _
      | exact lapidaryref14_single.mono _ _
      | exact LeO.none _
      | refine LeO.ite ?_ ?_
      | refine LeO.bind ?_ (fun _ => ?_)
    · intro y0 y1 y2 y3 y4 y5
      unfold lapidaryref14_Split.j5
      repeat' first
      | (with_reducible exact ih0 _ _ _)
      | (with_reducible exact ih1 _ _ _ _ _ _)
      | (with_reducible exact ih2 _ _ _ _)
      | (with_reducible exact ih3 _ _ _ _)
      | (with_reducible exact ih4 _ _ _ _ _)
      | (with_reducible exact ih5 _ _ _ _ _ _)
      | (with_reducible exact ih6 _ _ _ _ _ _)
      | (with_reducible exact lapidaryref02_Right.mono _ _ _ _ _)
      | (with_reducible exact lapidaryref02_Whole.mono _ _)
      | (with_reducible exact lapidaryref14_lower.mono _ _)
      | (with_reducible exact lapidaryref14_single.mono _ _)
      | (with_reducible exact LeO.refl _)
      | (with_reducible exact LeO.none _)
      | (with_reducible refine LeO.ite ?_ ?_)
      | (with_reducible refine LeO.bind ?_ (fun _ => ?_))
      | exact ih0 _ _ _
      | exact ih1 _ _ _ _ _ _
      | exact ih2 _ _ _ _
      | exact ih3 _ _ _ _
      | exact ih4 _ _ _ _ _
      | exact ih5 _ _ _ _ _ _
      | exact ih6 _ _ _ _ _ _
      | exact lapidaryref02_Right.mono _ _ _ _ _
      | exact lapidaryref02_Whole.mono _ _
      | exact lapidaryref14_lower.mono _ _
      | exact lapidaryref14_single.mono _ _
      | exact LeO.none _
      | refine LeO.ite ?_ ?_
      | refine LeO.bind ?_ (fun _ => ?_)
    · intro y0 y1 y2 y3 y4 y5
      unfold lapidaryref14_Split.j6
      repeat' first
      | (with_reducible exact ih0 _ _ _)
      | (with_reducible exact ih1 _ _ _ _ _ _)
      | (with_reducible exact ih2 _ _ _ _)
      | (with_reducible exact ih3 _ _ _ _)
      | (with_reducible exact ih4 _ _ _ _ _)
      | (with_reducible exact ih5 _ _ _ _ _ _)
      | (with_reducible exact ih6 _ _ _ _ _ _)
      | (with_reducible exact lapidaryref02_Right.mono _ _ _ _ _)
      | (with_reducible exact lapidaryref02_Whole.mono _ _)
      | (with_reducible exact lapidaryref14_lower.mono _ _)
      | (with_reducible exact lapidaryref14_single.mono _ _)
      | (with_reducible exact LeO.refl _)
      | (with_reducible exact LeO.none _)
      | (with_reducible refine LeO.ite ?_ ?_)
      | (with_reducible refine LeO.bind ?_ (fun _ => ?_))
      | exact ih0 _ _ _
      | exact ih1 _ _ _ _ _ _
      | exact ih2 _ _ _ _
      | exact ih3 _ _ _ _
      | exact ih4 _ _ _ _ _
      | exact ih5 _ _ _ _ _ _
      | exact ih6 _ _ _ _ _ _
      | exact lapidaryref02_Right.mono _ _ _ _ _
      | exact lapidaryref02_Whole.mono _ _
      | exact lapidaryref14_lower.mono _ _
      | exact lapidaryref14_single.mono _ _
      | exact LeO.none _
      | refine LeO.ite ?_ ?_
      | refine LeO.bind ?_ (fun _ => ?_)
theorem lapidaryref14_Split.mono : ∀ a0 k, LeO (lapidaryref14_Split.f k a0) (lapidaryref14_Split.f (k + 1) a0) := by
  intro a0 k
  obtain ⟨ih0, ih1, ih2, ih3, ih4, ih5, ih6⟩ := lapidaryref14_Split.mono_l k
  unfold lapidaryref14_Split.f
  repeat' first
      | (with_reducible exact ih0 _ _ _)
      | (with_reducible exact ih1 _ _ _ _ _ _)
      | (with_reducible exact ih2 _ _ _ _)
      | (with_reducible exact ih3 _ _ _ _)
      | (with_reducible exact ih4 _ _ _ _ _)
      | (with_reducible exact ih5 _ _ _ _ _ _)
      | (with_reducible exact ih6 _ _ _ _ _ _)
      | (with_reducible exact lapidaryref02_Right.mono _ _ _ _ _)
      | (with_reducible exact lapidaryref02_Whole.mono _ _)
      | (with_reducible exact lapidaryref14_lower.mono _ _)
      | (with_reducible exact lapidaryref14_single.mono _ _)
      | (with_reducible exact LeO.refl _)
      | (with_reducible exact LeO.none _)
      | (with_reducible refine LeO.ite ?_ ?_)
      | (with_reducible refine LeO.bind ?_ (fun _ => ?_))
      | exact ih0 _ _ _
      | exact ih1 _ _ _ _ _ _
      | exact ih2 _ _ _ _
      | exact ih3 _ _ _ _
      | exact ih4 _ _ _ _ _
      | exact ih5 _ _ _ _ _ _
      | exact ih6 _ _ _ _ _ _
      | exact lapidaryref02_Right.mono _ _ _ _ _
      | exact lapidaryref02_Whole.mono _ _
      | exact lapidaryref14_lower.mono _ _
      | exact lapidaryref14_single.mono _ _
      | exact LeO.none _
      | refine LeO.ite ?_ ?_
      | refine LeO.bind ?_ (fun _ => ?_)
set_option maxHeartbeats 8000000 in
set_option maxRecDepth 100000 in
theorem lapidaryref14_Split.calls (k : Nat) (a0 : ByteArray) (r1 : List (S35)) (r2 : Int) (w : World) (h : lapidaryref14_Split.f k a0 = some (r1, r2)) :
    Calls Tryd.prog 11 #[.string a0] w fun e w' => ∃ v0_ : Value, e = .returned (.tuple #[v0_, .int .i64 r2]) ∧ Kd.R k35 35 w' w.heap.size (fun _ => True) v0_ r1 ∧ Below w.heap.size w w' := by
  have hu35 := Tryd.underlying35
  have hu53 := Tryd.underlying53
  have HB := Aside0.mk (Below.refl w.heap.size w)
  have H : (if (a0.size : Int) > 2000 then (some (([] : List (S35)), 2)) else (lapidaryref14_Split.l0 k a0 ([] : List (S35)) 0)) = some (r1, r2) := h
  clear h
  by_cases c2 : (a0.size : Int) > 2000
  · rw [if_pos c2] at H
    have c2b0 : decide (2000 < (a0.size : Int)) = true := decide_eq_true c2
    have c2b1 : decide (2000 < a0.size) = true := decide_eq_true (by omega)
    clear c2
    simp only [Option.some.injEq, Prod.mk.injEq] at H
    obtain ⟨rfl, rfl⟩ := H
    go_enter Tryd.func11, Tryd.ntmps11
    go_wp2
    go_ret2
    exact ⟨_, by first | rfl | (simp [errW_none, errW_some] <;> rfl) | (simp [*, errW_none, errW_some] <;> rfl), by first | exact Kd.R_nil _ _ _ _ _ | exact Kd.N_nil _ _ _ _ _ | exact Kd.V_nil _ _ _ _ _ | exact Kd.Q_nil _ _ _ _ _ | exact Kd.S_nil _ _ _ _ _, by repeat (first | (with_reducible first | exact HB.out | apply below_alloc | apply pw_below_drewN | apply below_drew1) | exact HB.out)⟩
  · rw [if_neg c2] at H
    have c2b0 : decide (2000 < (a0.size : Int)) = false := decide_eq_false c2
    have c2b1 : decide (2000 < a0.size) = false := decide_eq_false (by omega)
    clear c2
    have H' := Aside0.mk H
    clear H
    go_enter Tryd.func11, Tryd.ntmps11
    go_wp2
    go_loopg [4, 5] k (fun kq v4 v5 w' => ∃ (x4_1 : List (S35)) (x5_1 : Int), v5 = .int .i64 x5_1 ∧ Aside0 (lapidaryref14_Split.l0 kq a0 x4_1 x5_1 = some (r1, r2)) ∧ Aside0 (kq ≤ k) ∧ Aside0 (Kd.R k35 35 w' w.heap.size (fun _ => True) v4 x4_1) ∧ Aside0 (Below w.heap.size w w'))
    case atStart => exact ⟨(([] : List (S35))), (0), (by first | rfl | (simp; done) | (simp [*]; done)), H', ⟨Nat.le_refl _⟩, ⟨by first | exact Kd.R_nil _ _ _ _ _ | exact Kd.N_nil _ _ _ _ _ | exact Kd.V_nil _ _ _ _ _ | exact Kd.Q_nil _ _ _ _ _ | exact Kd.S_nil _ _ _ _ _⟩, ⟨by repeat (first | (with_reducible first | exact HB.out | apply below_alloc | apply pw_below_drewN | apply below_drew1) | exact HB.out)⟩⟩
    case round =>
      clear H'
      try clear c1
      try clear c2
      try clear c2b0
      try clear c2b1
      try clear p2
      obtain ⟨x4_1, x5_1, rfl, HA, HK1, HO_4, HB⟩ := hrel
      cases gk with
      | zero => exact absurd HA.out (by simp [lapidaryref14_Split.l0])
      | succ k1 =>
        have H := HA.out
        clear HA
        simp only [lapidaryref14_Split.l0] at H
        by_cases c3 : x5_1 < (a0.size : Int)
        · rw [if_pos c3] at H
          have c3b0 : decide (x5_1 < (a0.size : Int)) = true := decide_eq_true c3
          clear c3
          by_cases c4 : 0 ≤ x5_1
          · rw [if_pos c4] at H
            have c4b0 : decide (0 ≤ x5_1) = true := decide_eq_true c4
            clear c4
            have HC6 := Aside0.mk H
            clear H
            have p5 : 0 ≤ (x5_1 : Int) := of_decide_eq_true (by first | (with_reducible assumption) | assumption)
            have q5 : x5_1 < (a0.size : Int) := of_decide_eq_true (by first | (with_reducible assumption) | assumption)
            have hx5 := bt_at a0 x5_1
            replace p5 := eq_true p5
            replace q5 := eq_true q5
            go_upto_region 14 with (fail)
            go_cut [72] (fun v72 wc => ∃ (kq : Nat) (x72_5 : Bool), v72 = .bool x72_5 ∧ Aside0 (lapidaryref14_Split.j1 kq a0 x4_1 x5_1 (bt a0 x5_1) x5_1 x72_5 = some (r1, r2)) ∧ Aside0 (kq ≤ k1) ∧ Aside0 (Kd.R k35 35 wc w.heap.size (fun _ => True) u4 x4_1) ∧ Aside0 (Below w.heap.size w wc))
            case first => as_aux_lemma =>
              have H := HC6.out
              clear HC6
              by_cases c7 : (bt a0 x5_1) = 32
              · rw [if_pos c7] at H
                have c7b0 : ((bt a0 x5_1) == 32) = true := beq_iff_eq.mpr c7
                have c7b1 : ((bt a0 x5_1) != 32) = false := bne_eq_false_iff_eq.mpr c7
                clear c7
                (first | rw [c7b0] | (simp only [i64_w, i32_w]; rw [c7b0]) | skip)
                have H' := Aside0.mk H
                clear H
                go_wp2
                go_meet
                case rel => exact ⟨_, (true), (by first | rfl | (simp; done) | (simp [*]; done)), H', ⟨by have := HK1.out; first | omega | exact Nat.le_refl _⟩, ⟨by (with_reducible repeat (first | apply Kd.R_alloc | apply Kd.R_drewN | apply Kd.R_drew)); exact HO_4.out⟩, ⟨by repeat (first | (with_reducible first | exact HB.out | apply below_alloc | apply pw_below_drewN | apply below_drew1) | exact HB.out)⟩⟩
              · rw [if_neg c7] at H
                have c7b0 : ((bt a0 x5_1) == 32) = false := beq_eq_false_iff_ne.mpr c7
                have c7b1 : ((bt a0 x5_1) != 32) = true := bne_iff_ne.mpr c7
                (first | rw [c7b0] | (simp only [i64_w, i32_w]; rw [c7b0]) | skip)
                by_cases c8 : (bt a0 x5_1) = 9
                · rw [if_pos c8] at H
                  have c8b0 : ((bt a0 x5_1) == 9) = true := beq_iff_eq.mpr c8
                  have c8b1 : ((bt a0 x5_1) != 9) = false := bne_eq_false_iff_eq.mpr c8
                  clear c8
                  have H' := Aside0.mk H
                  clear H
                  go_wp2
                  go_meet
                  case rel => exact ⟨_, (true), (by first | rfl | (simp; done) | (simp [*]; done)), H', ⟨by have := HK1.out; first | omega | exact Nat.le_refl _⟩, ⟨by (with_reducible repeat (first | apply Kd.R_alloc | apply Kd.R_drewN | apply Kd.R_drew)); exact HO_4.out⟩, ⟨by repeat (first | (with_reducible first | exact HB.out | apply below_alloc | apply pw_below_drewN | apply below_drew1) | exact HB.out)⟩⟩
                · rw [if_neg c8] at H
                  have c8b0 : ((bt a0 x5_1) == 9) = false := beq_eq_false_iff_ne.mpr c8
                  have c8b1 : ((bt a0 x5_1) != 9) = true := bne_iff_ne.mpr c8
                  by_cases c9 : (bt a0 x5_1) = 10
                  · rw [if_pos c9] at H
                    have c9b0 : ((bt a0 x5_1) == 10) = true := beq_iff_eq.mpr c9
                    have c9b1 : ((bt a0 x5_1) != 10) = false := bne_eq_false_iff_eq.mpr c9
                    clear c9
                    have H' := Aside0.mk H
                    clear H
                    go_wp2
                    go_meet
                    case rel => exact ⟨_, (true), (by first | rfl | (simp; done) | (simp [*]; done)), H', ⟨by have := HK1.out; first | omega | exact Nat.le_refl _⟩, ⟨by (with_reducible repeat (first | apply Kd.R_alloc | apply Kd.R_drewN | apply Kd.R_drew)); exact HO_4.out⟩, ⟨by repeat (first | (with_reducible first | exact HB.out | apply below_alloc | apply pw_below_drewN | apply below_drew1) | exact HB.out)⟩⟩
                  · rw [if_neg c9] at H
                    have c9b0 : ((bt a0 x5_1) == 10) = false := beq_eq_false_iff_ne.mpr c9
                    have c9b1 : ((bt a0 x5_1) != 10) = true := bne_iff_ne.mpr c9
                    have H' := Aside0.mk H
                    clear H
                    go_wp2
                    go_meet
                    case rel => exact ⟨_, (((bt a0 x5_1) == 13)), (by first | rfl | (simp; done) | (simp [*]; done)), H', ⟨by have := HK1.out; first | omega | exact Nat.le_refl _⟩, ⟨by (with_reducible repeat (first | apply Kd.R_alloc | apply Kd.R_drewN | apply Kd.R_drew)); exact HO_4.out⟩, ⟨by repeat (first | (with_reducible first | exact HB.out | apply below_alloc | apply pw_below_drewN | apply below_drew1) | exact HB.out)⟩⟩
            case rest => as_aux_lemma =>
              clear HC6
              try clear c1
              try clear c2
              try clear c2b0
              try clear c2b1
              try clear p2
              try clear c3
              try clear c3b0
              try clear c4
              try clear c4b0
              try clear p5
              try clear q5
              try clear hx5
              try clear c7
              try clear c7b0
              try clear c7b1
              try clear c8
              try clear c8b0
              try clear c8b1
              try clear c9
              try clear c9b0
              try clear c9b1
              try clear p2
              try clear p5
              try clear q5
              obtain ⟨kq, x72_5, rfl, HA, HJ5, HO_4, HB⟩ := hcut
              cases kq with
              | zero => exact absurd HA.out (by simp [lapidaryref14_Split.j1])
              | succ kj5 =>
                have H := HA.out
                clear HA
                simp only [lapidaryref14_Split.j1] at H
                by_cases c10 : x72_5 = true
                · subst c10
                  have H1 : (lapidaryref14_Split.l0 kj5 a0 x4_1 (wrap64 (x5_1 + 1))) = some (r1, r2) := by rw [if_pos rfl] at H; exact H
                  clear H
                  have H := H1
                  clear H1
                  have H' := Aside0.mk H
                  clear H
                  go_wp2
                  go_roundg kj5
                  case measure => have := HK1.out; have := HJ5.out; omega
                  case rel => exact ⟨(x4_1), (wrap64 (x5_1 + 1)), (by first | rfl | (simp; done) | (simp [*]; done)), H', ⟨by have := HK1.out; have := HJ5.out; omega⟩, ⟨by (with_reducible repeat (first | apply Kd.R_alloc | apply Kd.R_drewN | apply Kd.R_drew)); exact HO_4.out⟩, ⟨by repeat (first | (with_reducible first | exact HB.out | apply below_alloc | apply pw_below_drewN | apply below_drew1) | exact HB.out)⟩⟩
                · replace c10 := Bool.eq_false_iff.mpr c10
                  subst c10
                  have H1 : ((lapidaryref14_letter.f (bt a0 x5_1)).bind fun t131 => (if t131 = true then (lapidaryref14_Split.l1 kj5 a0 x4_1 x5_1 x5_1) else ((lapidaryref14_digit.f (bt a0 x5_1)).bind fun t142 => (if t142 = true then (lapidaryref14_Split.l2 kj5 a0 x4_1 x5_1 x5_1) else (if (bt a0 x5_1) = 39 then (lapidaryref14_Split.l3 kj5 a0 x4_1 (wrap64 (x5_1 + 1)) ([] : List Int) false) else (if (wrap64 (x5_1 + 1)) < (a0.size : Int) then (if (bt a0 x5_1) = 60 then (if 0 ≤ (wrap64 (x5_1 + 1)) then (if (bt a0 (wrap64 (x5_1 + 1))) = 61 then (lapidaryref14_Split.j6 kj5 a0 x4_1 x5_1 (bt a0 x5_1) x5_1 true) else (if (bt a0 (wrap64 (x5_1 + 1))) = 62 then (lapidaryref14_Split.j6 kj5 a0 x4_1 x5_1 (bt a0 x5_1) x5_1 true) else (if (bt a0 x5_1) = 62 then (lapidaryref14_Split.j6 kj5 a0 x4_1 x5_1 (bt a0 x5_1) x5_1 ((bt a0 (wrap64 (x5_1 + 1))) == 61)) else (lapidaryref14_Split.j6 kj5 a0 x4_1 x5_1 (bt a0 x5_1) x5_1 false)))) else (none)) else (if (bt a0 x5_1) = 62 then (if 0 ≤ (wrap64 (x5_1 + 1)) then (lapidaryref14_Split.j6 kj5 a0 x4_1 x5_1 (bt a0 x5_1) x5_1 ((bt a0 (wrap64 (x5_1 + 1))) == 61)) else (none)) else (lapidaryref14_Split.j6 kj5 a0 x4_1 x5_1 (bt a0 x5_1) x5_1 false))) else (lapidaryref14_Split.j6 kj5 a0 x4_1 x5_1 (bt a0 x5_1) x5_1 false))))))) = some (r1, r2) := by rw [if_neg (show ¬ (false = true) by decide)] at H; exact H
                  clear H
                  have H := H1
                  clear H1
                  replace H := Option.bind_eq_some_iff.mp H
                  obtain ⟨t131, A110, H⟩ := H
                  replace H : (if t131 = true then (lapidaryref14_Split.l1 kj5 a0 x4_1 x5_1 x5_1) else ((lapidaryref14_digit.f (bt a0 x5_1)).bind fun t142 => (if t142 = true then (lapidaryref14_Split.l2 kj5 a0 x4_1 x5_1 x5_1) else (if (bt a0 x5_1) = 39 then (lapidaryref14_Split.l3 kj5 a0 x4_1 (wrap64 (x5_1 + 1)) ([] : List Int) false) else (if (wrap64 (x5_1 + 1)) < (a0.size : Int) then (if (bt a0 x5_1) = 60 then (if 0 ≤ (wrap64 (x5_1 + 1)) then (if (bt a0 (wrap64 (x5_1 + 1))) = 61 then (lapidaryref14_Split.j6 kj5 a0 x4_1 x5_1 (bt a0 x5_1) x5_1 true) else (if (bt a0 (wrap64 (x5_1 + 1))) = 62 then (lapidaryref14_Split.j6 kj5 a0 x4_1 x5_1 (bt a0 x5_1) x5_1 true) else (if (bt a0 x5_1) = 62 then (lapidaryref14_Split.j6 kj5 a0 x4_1 x5_1 (bt a0 x5_1) x5_1 ((bt a0 (wrap64 (x5_1 + 1))) == 61)) else (lapidaryref14_Split.j6 kj5 a0 x4_1 x5_1 (bt a0 x5_1) x5_1 false)))) else (none)) else (if (bt a0 x5_1) = 62 then (if 0 ≤ (wrap64 (x5_1 + 1)) then (lapidaryref14_Split.j6 kj5 a0 x4_1 x5_1 (bt a0 x5_1) x5_1 ((bt a0 (wrap64 (x5_1 + 1))) == 61)) else (none)) else (lapidaryref14_Split.j6 kj5 a0 x4_1 x5_1 (bt a0 x5_1) x5_1 false))) else (lapidaryref14_Split.j6 kj5 a0 x4_1 x5_1 (bt a0 x5_1) x5_1 false)))))) = some (r1, r2) := H
                  have A11 := Aside0.mk A110
                  clear A110
                  by_cases c12 : t131 = true
                  · subst c12
                    have H1 : (lapidaryref14_Split.l1 kj5 a0 x4_1 x5_1 x5_1) = some (r1, r2) := by rw [if_pos rfl] at H; exact H
                    clear H
                    have H := H1
                    clear H1
                    have H' := Aside0.mk H
                    clear H
                    go_wp2_with (first | ((with_reducible refine gate_callee (f := 18) rfl ?_); refine goesL_ (some 91) rfl rfl Tryd.func18 (by kernel_rfl) rfl #[.int .u8 (bt a0 x5_1)] rfl (by (try simp only [List.map_toArray, List.map_cons, List.map_nil]); first | done | rfl | (simp only [List.length_drop, List.length_take]; rfl)) ?_; (with_reducible refine (lapidaryref14_letter.calls (bt a0 x5_1) true _ A11.out).mono ?_); rintro e w' ⟨rfl, ⟨nd, rfl⟩⟩; refine ⟨_, rfl, ?_⟩))
                    go_loopg [5] kj5 (fun kq v5 w' => ∃ (x5_3 : Int), v5 = .int .i64 x5_3 ∧ Aside0 (lapidaryref14_Split.l1 kq a0 x4_1 x5_3 x5_1 = some (r1, r2)) ∧ Aside0 (kq ≤ kj5) ∧ Aside0 (Kd.R k35 35 w' w.heap.size (fun _ => True) u4 x4_1) ∧ Aside0 (Below w.heap.size w w'))
                    case atStart => exact ⟨(x5_1), (by first | rfl | (simp; done) | (simp [*]; done)), H', ⟨Nat.le_refl _⟩, ⟨by (with_reducible repeat (first | apply Kd.R_alloc | apply Kd.R_drewN | apply Kd.R_drew)); exact HO_4.out⟩, ⟨by repeat (first | (with_reducible first | exact HB.out | apply below_alloc | apply pw_below_drewN | apply below_drew1) | exact HB.out)⟩⟩
                    case round => as_aux_lemma =>
                      clear H'
                      try clear c1
                      try clear c2
                      try clear c2b0
                      try clear c2b1
                      try clear p2
                      try clear c3
                      try clear c3b0
                      try clear c4
                      try clear c4b0
                      try clear p5
                      try clear q5
                      try clear hx5
                      try clear p6
                      try clear c7
                      try clear c7b0
                      try clear c7b1
                      try clear c8
                      try clear c8b0
                      try clear c8b1
                      try clear c9
                      try clear c9b0
                      try clear c9b1
                      try clear c10
                      try clear c11
                      try clear c12
                      try clear p2
                      try clear p5
                      try clear q5
                      obtain ⟨x5_3, rfl, HA, HK3, HO_4, HB⟩ := hrel
                      cases gk with
                      | zero => exact absurd HA.out (by simp [lapidaryref14_Split.l1])
                      | succ k3 =>
                        have H := HA.out
                        clear HA
                        simp only [lapidaryref14_Split.l1] at H
                        by_cases c13 : x5_3 < (a0.size : Int)
                        · rw [if_pos c13] at H
                          have c13b0 : decide (x5_3 < (a0.size : Int)) = true := decide_eq_true c13
                          clear c13
                          by_cases c14 : 0 ≤ x5_3
                          · rw [if_pos c14] at H
                            have c14b0 : decide (0 ≤ x5_3) = true := decide_eq_true c14
                            clear c14
                            replace H := Option.bind_eq_some_iff.mp H
                            obtain ⟨t132, A160, H⟩ := H
                            replace H : (if t132 = true then (lapidaryref14_Split.l1 k3 a0 x4_1 (wrap64 (x5_3 + 1)) x5_1) else ((lapidaryref14_digit.f (bt a0 x5_3)).bind fun t133 => (if t133 = true then (lapidaryref14_Split.l1 k3 a0 x4_1 (wrap64 (x5_3 + 1)) x5_1) else (if 0 ≤ x5_1 then (if x5_1 ≤ x5_3 then (if x5_3 ≤ (a0.size : Int) then ((lapidaryref14_lower.f k3 (a0.extract (x5_1 : Int).toNat (x5_3 : Int).toNat)).bind fun t134 => (if x4_1.length < 4398046511104 then (lapidaryref14_Split.l0 k3 a0 (x4_1 ++ [(⟨1, t134, 0⟩ : S35)]) x5_3) else (none))) else (none)) else (none)) else (none))))) = some (r1, r2) := H
                            have A16 := Aside0.mk A160
                            clear A160
                            by_cases c17 : t132 = true
                            · subst c17
                              have H1 : (lapidaryref14_Split.l1 k3 a0 x4_1 (wrap64 (x5_3 + 1)) x5_1) = some (r1, r2) := by rw [if_pos rfl] at H; exact H
                              clear H
                              have H := H1
                              clear H1
                              have H' := Aside0.mk H
                              clear H
                              have p15 : 0 ≤ (x5_3 : Int) := of_decide_eq_true (by first | (with_reducible assumption) | assumption)
                              have q15 : x5_3 < (a0.size : Int) := of_decide_eq_true (by first | (with_reducible assumption) | assumption)
                              have hx15 := bt_at a0 x5_3
                              replace p15 := eq_true p15
                              replace q15 := eq_true q15
                              go_wp2_with (first | (go_at_call 18; (with_reducible refine (lapidaryref14_letter.calls (bt a0 x5_3) true _ A16.out).mono ?_); rintro e w' ⟨rfl, ⟨nd, rfl⟩⟩))
                              go_roundg k3
                              case measure => have := HK1.out; have := HJ5.out; have := HK3.out; omega
                              case rel => exact ⟨(wrap64 (x5_3 + 1)), (by first | rfl | (simp; done) | (simp [*]; done)), H', ⟨by have := HK1.out; have := HJ5.out; have := HK3.out; omega⟩, ⟨by (with_reducible repeat (first | apply Kd.R_alloc | apply Kd.R_drewN | apply Kd.R_drew)); exact HO_4.out⟩, ⟨by repeat (first | (with_reducible first | exact HB.out | apply below_alloc | apply pw_below_drewN | apply below_drew1) | exact HB.out)⟩⟩
                            · replace c17 := Bool.eq_false_iff.mpr c17
                              subst c17
                              have H1 : ((lapidaryref14_digit.f (bt a0 x5_3)).bind fun t133 => (if t133 = true then (lapidaryref14_Split.l1 k3 a0 x4_1 (wrap64 (x5_3 + 1)) x5_1) else (if 0 ≤ x5_1 then (if x5_1 ≤ x5_3 then (if x5_3 ≤ (a0.size : Int) then ((lapidaryref14_lower.f k3 (a0.extract (x5_1 : Int).toNat (x5_3 : Int).toNat)).bind fun t134 => (if x4_1.length < 4398046511104 then (lapidaryref14_Split.l0 k3 a0 (x4_1 ++ [(⟨1, t134, 0⟩ : S35)]) x5_3) else (none))) else (none)) else (none)) else (none)))) = some (r1, r2) := by rw [if_neg (show ¬ (false = true) by decide)] at H; exact H
                              clear H
                              have H := H1
                              clear H1
                              replace H := Option.bind_eq_some_iff.mp H
                              obtain ⟨t133, A190, H⟩ := H
                              replace H : (if t133 = true then (lapidaryref14_Split.l1 k3 a0 x4_1 (wrap64 (x5_3 + 1)) x5_1) else (if 0 ≤ x5_1 then (if x5_1 ≤ x5_3 then (if x5_3 ≤ (a0.size : Int) then ((lapidaryref14_lower.f k3 (a0.extract (x5_1 : Int).toNat (x5_3 : Int).toNat)).bind fun t134 => (if x4_1.length < 4398046511104 then (lapidaryref14_Split.l0 k3 a0 (x4_1 ++ [(⟨1, t134, 0⟩ : S35)]) x5_3) else (none))) else (none)) else (none)) else (none))) = some (r1, r2) := H
                              have A19 := Aside0.mk A190
                              clear A190
                              by_cases c20 : t133 = true
                              · subst c20
                                have H1 : (lapidaryref14_Split.l1 k3 a0 x4_1 (wrap64 (x5_3 + 1)) x5_1) = some (r1, r2) := by rw [if_pos rfl] at H; exact H
                                clear H
                                have H := H1
                                clear H1
                                have H' := Aside0.mk H
                                clear H
                                have p15 : 0 ≤ (x5_3 : Int) := of_decide_eq_true (by first | (with_reducible assumption) | assumption)
                                have q15 : x5_3 < (a0.size : Int) := of_decide_eq_true (by first | (with_reducible assumption) | assumption)
                                have hx15 := bt_at a0 x5_3
                                replace p15 := eq_true p15
                                replace q15 := eq_true q15
                                go_wp2_with (first | (go_at_call 18; (with_reducible refine (lapidaryref14_letter.calls (bt a0 x5_3) false _ A16.out).mono ?_); rintro e w' ⟨rfl, ⟨nd, rfl⟩⟩; have p18 : 0 ≤ (x5_3 : Int) := of_decide_eq_true (by first | (with_reducible assumption) | assumption); have q18 : x5_3 < (a0.size : Int) := of_decide_eq_true (by first | (with_reducible assumption) | assumption); have hx18 := bt_at a0 x5_3; replace p18 := eq_true p18; replace q18 := eq_true q18) | (go_at_call 19; (with_reducible refine (lapidaryref14_digit.calls (bt a0 x5_3) true _ A19.out).mono ?_); rintro e w' ⟨rfl, ⟨nd, rfl⟩⟩))
                                go_roundg k3
                                case measure => have := HK1.out; have := HJ5.out; have := HK3.out; omega
                                case rel => exact ⟨(wrap64 (x5_3 + 1)), (by first | rfl | (simp; done) | (simp [*]; done)), H', ⟨by have := HK1.out; have := HJ5.out; have := HK3.out; omega⟩, ⟨by (with_reducible repeat (first | apply Kd.R_alloc | apply Kd.R_drewN | apply Kd.R_drew)); exact HO_4.out⟩, ⟨by repeat (first | (with_reducible first | exact HB.out | apply below_alloc | apply pw_below_drewN | apply below_drew1) | exact HB.out)⟩⟩
                              · replace c20 := Bool.eq_false_iff.mpr c20
                                subst c20
                                have H1 : (if 0 ≤ x5_1 then (if x5_1 ≤ x5_3 then (if x5_3 ≤ (a0.size : Int) then ((lapidaryref14_lower.f k3 (a0.extract (x5_1 : Int).toNat (x5_3 : Int).toNat)).bind fun t134 => (if x4_1.length < 4398046511104 then (lapidaryref14_Split.l0 k3 a0 (x4_1 ++ [(⟨1, t134, 0⟩ : S35)]) x5_3) else (none))) else (none)) else (none)) else (none)) = some (r1, r2) := by rw [if_neg (show ¬ (false = true) by decide)] at H; exact H
                                clear H
                                have H := H1
                                clear H1
                                by_cases c21 : 0 ≤ x5_1
                                · rw [if_pos c21] at H
                                  have c21b0 := eq_true c21
                                  have c21b1 : decide (0 ≤ x5_1) = true := decide_eq_true c21
                                  clear c21
                                  by_cases c22 : x5_1 ≤ x5_3
                                  · rw [if_pos c22] at H
                                    have c22b0 := eq_true c22
                                    have c22b1 : decide (x5_1 ≤ x5_3) = true := decide_eq_true c22
                                    clear c22
                                    by_cases c23 : x5_3 ≤ (a0.size : Int)
                                    · rw [if_pos c23] at H
                                      have c23b0 := eq_true c23
                                      have c23b1 : decide (x5_3 ≤ (a0.size : Int)) = true := decide_eq_true c23
                                      clear c23
                                      replace H := Option.bind_eq_some_iff.mp H
                                      obtain ⟨t134, A240, H⟩ := H
                                      replace H : (if x4_1.length < 4398046511104 then (lapidaryref14_Split.l0 k3 a0 (x4_1 ++ [(⟨1, t134, 0⟩ : S35)]) x5_3) else (none)) = some (r1, r2) := H
                                      have A24 := Aside0.mk A240
                                      clear A240
                                      by_cases c25 : x4_1.length < 4398046511104
                                      · rw [if_pos c25] at H
                                        have LMc25 := Aside0.mk c25
                                        clear c25
                                        obtain ⟨y135, hy135⟩ : ∃ y_ : List (S35), y_ = (x4_1 ++ [(⟨1, t134, 0⟩ : S35)]) := ⟨_, rfl⟩
                                        replace H : (lapidaryref14_Split.l0 k3 a0 y135 x5_3) = some (r1, r2) := by first | (rw [hy135]; with_reducible exact H) | (have H2_ := (Option.bind_some _ _).symm.trans H; rw [hy135]; with_reducible exact H2_) | (have H2_ := (Option.bind_some _ _).symm.trans H; with_reducible exact H2_) | with_reducible exact H | (rw [hy135]; exact H) | exact H
                                        have Ny135 := Aside0.mk hy135
                                        clear hy135
                                        have H' := Aside0.mk H
                                        clear H
                                        have p15 : 0 ≤ (x5_3 : Int) := of_decide_eq_true (by first | (with_reducible assumption) | assumption)
                                        have q15 : x5_3 < (a0.size : Int) := of_decide_eq_true (by first | (with_reducible assumption) | assumption)
                                        have hx15 := bt_at a0 x5_3
                                        replace p15 := eq_true p15
                                        replace q15 := eq_true q15
                                        go_wp2_with (first | (go_at_call 18; (with_reducible refine (lapidaryref14_letter.calls (bt a0 x5_3) false _ A16.out).mono ?_); rintro e w' ⟨rfl, ⟨nd, rfl⟩⟩; have p18 : 0 ≤ (x5_3 : Int) := of_decide_eq_true (by first | (with_reducible assumption) | assumption); have q18 : x5_3 < (a0.size : Int) := of_decide_eq_true (by first | (with_reducible assumption) | assumption); have hx18 := bt_at a0 x5_3; replace p18 := eq_true p18; replace q18 := eq_true q18) | (go_at_call 19; (with_reducible refine (lapidaryref14_digit.calls (bt a0 x5_3) false _ A19.out).mono ?_); rintro e w' ⟨rfl, ⟨nd, rfl⟩⟩) | ((with_reducible refine gate_callee (f := 20) rfl ?_); refine goesL_ (some 115) rfl rfl Tryd.func20 (by kernel_rfl) rfl #[.string (a0.extract (x5_1 : Int).toNat (x5_3 : Int).toNat)] rfl (by (try simp only [List.map_toArray, List.map_cons, List.map_nil]); first | done | rfl | (simp only [List.length_drop, List.length_take]; rfl)) ?_; (with_reducible refine (lapidaryref14_lower.calls k3 (a0.extract (x5_1 : Int).toNat (x5_3 : Int).toNat) t134 _ A24.out).mono ?_); rintro e w26 ⟨rfl, hb⟩; refine ⟨_, rfl, ?_⟩; have n0_ := Aside0.mk (Kd.R_below (by (with_reducible repeat (first | apply Kd.R_alloc | apply Kd.R_drewN | apply Kd.R_drew)); exact HO_4.out) hb); have n1_ := Aside0.mk (below_step (by repeat (first | (with_reducible first | exact HB.out | apply below_alloc | apply pw_below_drewN | apply below_drew1) | exact HB.out)) hb); clear HO_4; clear HB; have HO_4 := n0_; have HB := n1_; clear n0_ n1_; (try clear hb); (try clear hb2); (try clear hk); (try clear hi)) | ((with_reducible refine gate_builtin (b := .append) (xs := #[.tmp 110, .tmp 117]) rfl ?_); at_builtin; refine Kd.R_append k35 (w0 := w) w.heap.size rfl (.tmp 110) (.tmp 117) 27 35 (.agg #[(.int .u8 0), (.string ⟨#[]⟩), (.int .i64 0)]) 32 rfl Tryd.underlying27 info35 rfl (by decide) (by omega) u4 x4_1 (⟨1, t134, 0⟩ : S35) [.int .u8 1, .string t134, .int .i64 0] (fun _ => True) (fun _ => False) rfl rfl ?aP (fun _ hk => hk.elim) ?aF ?aO ?aB ?aS ?aL ?_; (case aP => exact k35_mkM _ _ _ (⟨1, t134, 0⟩ : S35)); (case aB => exact (by repeat (first | (with_reducible first | exact HB.out | apply below_alloc | apply pw_below_drewN | apply below_drew1) | exact HB.out))); (case aF => exact (fun _ _ => trivial)); (case aO => exact (by (with_reducible repeat (first | apply Kd.R_alloc | apply Kd.R_drewN | apply Kd.R_drew)); exact HO_4.out)); (case aS => exact (below_size (by repeat (first | (with_reducible first | exact HB.out | apply below_alloc | apply pw_below_drewN | apply below_drew1) | exact HB.out)))); (case aL => have := LMc25.out; omega); intro v136 w27 ho hb hg hat; rw [← Ny135.out] at ho; have n0_ := Aside0.mk (hb); have n1_ := Aside0.mk (ho); clear HB; clear HO_4; have HB := n0_; have HO137 := n1_; clear n0_ n1_; clear ho hb hg hat))
                                        go_roundg k3
                                        case measure => have := HK1.out; have := HJ5.out; have := HK3.out; omega
                                        case rel => exact ⟨(y135), (x5_3), (by first | rfl | (simp; done) | (simp [*]; done)), H', ⟨by have := HK1.out; have := HJ5.out; have := HK3.out; omega⟩, ⟨by (with_reducible repeat (first | apply Kd.R_alloc | apply Kd.R_drewN | apply Kd.R_drew)); exact HO137.out⟩, ⟨by repeat (first | (with_reducible first | exact HB.out | apply below_alloc | apply pw_below_drewN | apply below_drew1) | exact HB.out)⟩⟩
                                      · rw [if_neg c25] at H
                                        exact absurd H (by simp)
                                    · rw [if_neg c23] at H
                                      exact absurd H (by simp)
                                  · rw [if_neg c22] at H
                                    exact absurd H (by simp)
                                · rw [if_neg c21] at H
                                  exact absurd H (by simp)
                          · rw [if_neg c14] at H
                            exact absurd H (by simp)
                        · rw [if_neg c13] at H
                          have c13b0 : decide (x5_3 < (a0.size : Int)) = false := decide_eq_false c13
                          clear c13
                          by_cases c28 : 0 ≤ x5_1
                          · rw [if_pos c28] at H
                            have c28b0 := eq_true c28
                            have c28b1 : decide (0 ≤ x5_1) = true := decide_eq_true c28
                            clear c28
                            by_cases c29 : x5_1 ≤ x5_3
                            · rw [if_pos c29] at H
                              have c29b0 := eq_true c29
                              have c29b1 : decide (x5_1 ≤ x5_3) = true := decide_eq_true c29
                              clear c29
                              by_cases c30 : x5_3 ≤ (a0.size : Int)
                              · rw [if_pos c30] at H
                                have c30b0 := eq_true c30
                                have c30b1 : decide (x5_3 ≤ (a0.size : Int)) = true := decide_eq_true c30
                                clear c30
                                replace H := Option.bind_eq_some_iff.mp H
                                obtain ⟨t138, A310, H⟩ := H
                                replace H : (if x4_1.length < 4398046511104 then (lapidaryref14_Split.l0 k3 a0 (x4_1 ++ [(⟨1, t138, 0⟩ : S35)]) x5_3) else (none)) = some (r1, r2) := H
                                have A31 := Aside0.mk A310
                                clear A310
                                by_cases c32 : x4_1.length < 4398046511104
                                · rw [if_pos c32] at H
                                  have LMc32 := Aside0.mk c32
                                  clear c32
                                  obtain ⟨y139, hy139⟩ : ∃ y_ : List (S35), y_ = (x4_1 ++ [(⟨1, t138, 0⟩ : S35)]) := ⟨_, rfl⟩
                                  replace H : (lapidaryref14_Split.l0 k3 a0 y139 x5_3) = some (r1, r2) := by first | (rw [hy139]; with_reducible exact H) | (have H2_ := (Option.bind_some _ _).symm.trans H; rw [hy139]; with_reducible exact H2_) | (have H2_ := (Option.bind_some _ _).symm.trans H; with_reducible exact H2_) | with_reducible exact H | (rw [hy139]; exact H) | exact H
                                  have Ny139 := Aside0.mk hy139
                                  clear hy139
                                  have H' := Aside0.mk H
                                  clear H
                                  go_wp2_with (first | ((with_reducible refine gate_callee (f := 20) rfl ?_); refine goesL_ (some 115) rfl rfl Tryd.func20 (by kernel_rfl) rfl #[.string (a0.extract (x5_1 : Int).toNat (x5_3 : Int).toNat)] rfl (by (try simp only [List.map_toArray, List.map_cons, List.map_nil]); first | done | rfl | (simp only [List.length_drop, List.length_take]; rfl)) ?_; (with_reducible refine (lapidaryref14_lower.calls k3 (a0.extract (x5_1 : Int).toNat (x5_3 : Int).toNat) t138 _ A31.out).mono ?_); rintro e w33 ⟨rfl, hb⟩; refine ⟨_, rfl, ?_⟩; have n0_ := Aside0.mk (Kd.R_below (by (with_reducible repeat (first | apply Kd.R_alloc | apply Kd.R_drewN | apply Kd.R_drew)); exact HO_4.out) hb); have n1_ := Aside0.mk (below_step (by repeat (first | (with_reducible first | exact HB.out | apply below_alloc | apply pw_below_drewN | apply below_drew1) | exact HB.out)) hb); clear HO_4; clear HB; have HO_4 := n0_; have HB := n1_; clear n0_ n1_; (try clear hb); (try clear hb2); (try clear hk); (try clear hi)) | ((with_reducible refine gate_builtin (b := .append) (xs := #[.tmp 110, .tmp 117]) rfl ?_); at_builtin; refine Kd.R_append k35 (w0 := w) w.heap.size rfl (.tmp 110) (.tmp 117) 27 35 (.agg #[(.int .u8 0), (.string ⟨#[]⟩), (.int .i64 0)]) 32 rfl Tryd.underlying27 info35 rfl (by decide) (by omega) u4 x4_1 (⟨1, t138, 0⟩ : S35) [.int .u8 1, .string t138, .int .i64 0] (fun _ => True) (fun _ => False) rfl rfl ?aP (fun _ hk => hk.elim) ?aF ?aO ?aB ?aS ?aL ?_; (case aP => exact k35_mkM _ _ _ (⟨1, t138, 0⟩ : S35)); (case aB => exact (by repeat (first | (with_reducible first | exact HB.out | apply below_alloc | apply pw_below_drewN | apply below_drew1) | exact HB.out))); (case aF => exact (fun _ _ => trivial)); (case aO => exact (by (with_reducible repeat (first | apply Kd.R_alloc | apply Kd.R_drewN | apply Kd.R_drew)); exact HO_4.out)); (case aS => exact (below_size (by repeat (first | (with_reducible first | exact HB.out | apply below_alloc | apply pw_below_drewN | apply below_drew1) | exact HB.out)))); (case aL => have := LMc32.out; omega); intro v140 w34 ho hb hg hat; rw [← Ny139.out] at ho; have n0_ := Aside0.mk (hb); have n1_ := Aside0.mk (ho); clear HB; clear HO_4; have HB := n0_; have HO141 := n1_; clear n0_ n1_; clear ho hb hg hat))
                                  go_roundg k3
                                  case measure => have := HK1.out; have := HJ5.out; have := HK3.out; omega
                                  case rel => exact ⟨(y139), (x5_3), (by first | rfl | (simp; done) | (simp [*]; done)), H', ⟨by have := HK1.out; have := HJ5.out; have := HK3.out; omega⟩, ⟨by (with_reducible repeat (first | apply Kd.R_alloc | apply Kd.R_drewN | apply Kd.R_drew)); exact HO141.out⟩, ⟨by repeat (first | (with_reducible first | exact HB.out | apply below_alloc | apply pw_below_drewN | apply below_drew1) | exact HB.out)⟩⟩
                                · rw [if_neg c32] at H
                                  exact absurd H (by simp)
                              · rw [if_neg c30] at H
                                exact absurd H (by simp)
                            · rw [if_neg c29] at H
                              exact absurd H (by simp)
                          · rw [if_neg c28] at H
                            exact absurd H (by simp)
                  · replace c12 := Bool.eq_false_iff.mpr c12
                    subst c12
                    have H1 : ((lapidaryref14_digit.f (bt a0 x5_1)).bind fun t142 => (if t142 = true then (lapidaryref14_Split.l2 kj5 a0 x4_1 x5_1 x5_1) else (if (bt a0 x5_1) = 39 then (lapidaryref14_Split.l3 kj5 a0 x4_1 (wrap64 (x5_1 + 1)) ([] : List Int) false) else (if (wrap64 (x5_1 + 1)) < (a0.size : Int) then (if (bt a0 x5_1) = 60 then (if 0 ≤ (wrap64 (x5_1 + 1)) then (if (bt a0 (wrap64 (x5_1 + 1))) = 61 then (lapidaryref14_Split.j6 kj5 a0 x4_1 x5_1 (bt a0 x5_1) x5_1 true) else (if (bt a0 (wrap64 (x5_1 + 1))) = 62 then (lapidaryref14_Split.j6 kj5 a0 x4_1 x5_1 (bt a0 x5_1) x5_1 true) else (if (bt a0 x5_1) = 62 then (lapidaryref14_Split.j6 kj5 a0 x4_1 x5_1 (bt a0 x5_1) x5_1 ((bt a0 (wrap64 (x5_1 + 1))) == 61)) else (lapidaryref14_Split.j6 kj5 a0 x4_1 x5_1 (bt a0 x5_1) x5_1 false)))) else (none)) else (if (bt a0 x5_1) = 62 then (if 0 ≤ (wrap64 (x5_1 + 1)) then (lapidaryref14_Split.j6 kj5 a0 x4_1 x5_1 (bt a0 x5_1) x5_1 ((bt a0 (wrap64 (x5_1 + 1))) == 61)) else (none)) else (lapidaryref14_Split.j6 kj5 a0 x4_1 x5_1 (bt a0 x5_1) x5_1 false))) else (lapidaryref14_Split.j6 kj5 a0 x4_1 x5_1 (bt a0 x5_1) x5_1 false))))) = some (r1, r2) := by rw [if_neg (show ¬ (false = true) by decide)] at H; exact H
                    clear H
                    have H := H1
                    clear H1
                    replace H := Option.bind_eq_some_iff.mp H
                    obtain ⟨t142, A350, H⟩ := H
                    replace H : (if t142 = true then (lapidaryref14_Split.l2 kj5 a0 x4_1 x5_1 x5_1) else (if (bt a0 x5_1) = 39 then (lapidaryref14_Split.l3 kj5 a0 x4_1 (wrap64 (x5_1 + 1)) ([] : List Int) false) else (if (wrap64 (x5_1 + 1)) < (a0.size : Int) then (if (bt a0 x5_1) = 60 then (if 0 ≤ (wrap64 (x5_1 + 1)) then (if (bt a0 (wrap64 (x5_1 + 1))) = 61 then (lapidaryref14_Split.j6 kj5 a0 x4_1 x5_1 (bt a0 x5_1) x5_1 true) else (if (bt a0 (wrap64 (x5_1 + 1))) = 62 then (lapidaryref14_Split.j6 kj5 a0 x4_1 x5_1 (bt a0 x5_1) x5_1 true) else (if (bt a0 x5_1) = 62 then (lapidaryref14_Split.j6 kj5 a0 x4_1 x5_1 (bt a0 x5_1) x5_1 ((bt a0 (wrap64 (x5_1 + 1))) == 61)) else (lapidaryref14_Split.j6 kj5 a0 x4_1 x5_1 (bt a0 x5_1) x5_1 false)))) else (none)) else (if (bt a0 x5_1) = 62 then (if 0 ≤ (wrap64 (x5_1 + 1)) then (lapidaryref14_Split.j6 kj5 a0 x4_1 x5_1 (bt a0 x5_1) x5_1 ((bt a0 (wrap64 (x5_1 + 1))) == 61)) else (none)) else (lapidaryref14_Split.j6 kj5 a0 x4_1 x5_1 (bt a0 x5_1) x5_1 false))) else (lapidaryref14_Split.j6 kj5 a0 x4_1 x5_1 (bt a0 x5_1) x5_1 false)))) = some (r1, r2) := H
                    have A35 := Aside0.mk A350
                    clear A350
                    by_cases c36 : t142 = true
                    · subst c36
                      have H1 : (lapidaryref14_Split.l2 kj5 a0 x4_1 x5_1 x5_1) = some (r1, r2) := by rw [if_pos rfl] at H; exact H
                      clear H
                      have H := H1
                      clear H1
                      have H' := Aside0.mk H
                      clear H
                      go_wp2_with (first | ((with_reducible refine gate_callee (f := 18) rfl ?_); refine goesL_ (some 91) rfl rfl Tryd.func18 (by kernel_rfl) rfl #[.int .u8 (bt a0 x5_1)] rfl (by (try simp only [List.map_toArray, List.map_cons, List.map_nil]); first | done | rfl | (simp only [List.length_drop, List.length_take]; rfl)) ?_; (with_reducible refine (lapidaryref14_letter.calls (bt a0 x5_1) false _ A11.out).mono ?_); rintro e w' ⟨rfl, ⟨nd, rfl⟩⟩; refine ⟨_, rfl, ?_⟩) | ((with_reducible refine gate_callee (f := 19) rfl ?_); refine goesL_ (some 121) rfl rfl Tryd.func19 (by kernel_rfl) rfl #[.int .u8 (bt a0 x5_1)] rfl (by (try simp only [List.map_toArray, List.map_cons, List.map_nil]); first | done | rfl | (simp only [List.length_drop, List.length_take]; rfl)) ?_; (with_reducible refine (lapidaryref14_digit.calls (bt a0 x5_1) true _ A35.out).mono ?_); rintro e w' ⟨rfl, ⟨nd, rfl⟩⟩; refine ⟨_, rfl, ?_⟩))
                      go_loopg [5] kj5 (fun kq v5 w' => ∃ (x5_3 : Int), v5 = .int .i64 x5_3 ∧ Aside0 (lapidaryref14_Split.l2 kq a0 x4_1 x5_3 x5_1 = some (r1, r2)) ∧ Aside0 (kq ≤ kj5) ∧ Aside0 (Kd.R k35 35 w' w.heap.size (fun _ => True) u4 x4_1) ∧ Aside0 (Below w.heap.size w w'))
                      case atStart => exact ⟨(x5_1), (by first | rfl | (simp; done) | (simp [*]; done)), H', ⟨Nat.le_refl _⟩, ⟨by (with_reducible repeat (first | apply Kd.R_alloc | apply Kd.R_drewN | apply Kd.R_drew)); exact HO_4.out⟩, ⟨by repeat (first | (with_reducible first | exact HB.out | apply below_alloc | apply pw_below_drewN | apply below_drew1) | exact HB.out)⟩⟩
                      case round => as_aux_lemma =>
                        clear H'
                        try clear c1
                        try clear p1
                        try clear q1
                        try clear hx1
                        try clear c2
                        try clear c2b0
                        try clear c2b1
                        try clear p2
                        try clear c3
                        try clear c3b0
                        try clear c4
                        try clear c4b0
                        try clear p5
                        try clear q5
                        try clear hx5
                        try clear p6
                        try clear c7
                        try clear c7b0
                        try clear c7b1
                        try clear c8
                        try clear c8b0
                        try clear c8b1
                        try clear c9
                        try clear c9b0
                        try clear c9b1
                        try clear c10
                        try clear c11
                        try clear c12
                        try clear c13
                        try clear c13b0
                        try clear c14
                        try clear c14b0
                        try clear p15
                        try clear q15
                        try clear hx15
                        try clear c17
                        try clear c18
                        try clear p18
                        try clear q18
                        try clear hx18
                        try clear c19
                        try clear c20
                        try clear c21
                        try clear c21b0
                        try clear c21b1
                        try clear c22
                        try clear c22b0
                        try clear c22b1
                        try clear c23
                        try clear c23b0
                        try clear c23b1
                        try clear c25
                        try clear c28
                        try clear c28b0
                        try clear c28b1
                        try clear c29
                        try clear c29b0
                        try clear c29b1
                        try clear c30
                        try clear c30b0
                        try clear c30b1
                        try clear c32
                        try clear c36
                        try clear p15
                        try clear p18
                        try clear p2
                        try clear p5
                        try clear p6
                        try clear q15
                        try clear q18
                        try clear q5
                        obtain ⟨x5_3, rfl, HA, HK3, HO_4, HB⟩ := hrel
                        cases gk with
                        | zero => exact absurd HA.out (by simp [lapidaryref14_Split.l2])
                        | succ k3 =>
                          have H := HA.out
                          clear HA
                          simp only [lapidaryref14_Split.l2] at H
                          by_cases c37 : x5_3 < (a0.size : Int)
                          · rw [if_pos c37] at H
                            have c37b0 : decide (x5_3 < (a0.size : Int)) = true := decide_eq_true c37
                            clear c37
                            by_cases c38 : 0 ≤ x5_3
                            · rw [if_pos c38] at H
                              have c38b0 : decide (0 ≤ x5_3) = true := decide_eq_true c38
                              clear c38
                              replace H := Option.bind_eq_some_iff.mp H
                              obtain ⟨t143, A400, H⟩ := H
                              replace H : (if t143 = true then (lapidaryref14_Split.l2 k3 a0 x4_1 (wrap64 (x5_3 + 1)) x5_1) else (if 0 ≤ x5_1 then (if x5_1 ≤ x5_3 then (if x5_3 ≤ (a0.size : Int) then ((lapidaryref01_Read.f (a0.extract (x5_1 : Int).toNat (x5_3 : Int).toNat)).bind fun bt144 => (if bt144.2 = 0 then (if x4_1.length < 4398046511104 then (lapidaryref14_Split.l0 k3 a0 (x4_1 ++ [(⟨2, (⟨#[]⟩ : ByteArray), bt144.1⟩ : S35)]) x5_3) else (none)) else (some (([] : List (S35)), bt144.2)))) else (none)) else (none)) else (none))) = some (r1, r2) := H
                              have A40 := Aside0.mk A400
                              clear A400
                              by_cases c41 : t143 = true
                              · subst c41
                                have H1 : (lapidaryref14_Split.l2 k3 a0 x4_1 (wrap64 (x5_3 + 1)) x5_1) = some (r1, r2) := by rw [if_pos rfl] at H; exact H
                                clear H
                                have H := H1
                                clear H1
                                have H' := Aside0.mk H
                                clear H
                                have p39 : 0 ≤ (x5_3 : Int) := of_decide_eq_true (by first | (with_reducible assumption) | assumption)
                                have q39 : x5_3 < (a0.size : Int) := of_decide_eq_true (by first | (with_reducible assumption) | assumption)
                                have hx39 := bt_at a0 x5_3
                                replace p39 := eq_true p39
                                replace q39 := eq_true q39
                                go_wp2_with (first | (go_at_call 19; (with_reducible refine (lapidaryref14_digit.calls (bt a0 x5_3) true _ A40.out).mono ?_); rintro e w' ⟨rfl, ⟨nd, rfl⟩⟩))
                                go_roundg k3
                                case measure => have := HK1.out; have := HJ5.out; have := HK3.out; omega
                                case rel => exact ⟨(wrap64 (x5_3 + 1)), (by first | rfl | (simp; done) | (simp [*]; done)), H', ⟨by have := HK1.out; have := HJ5.out; have := HK3.out; omega⟩, ⟨by (with_reducible repeat (first | apply Kd.R_alloc | apply Kd.R_drewN | apply Kd.R_drew)); exact HO_4.out⟩, ⟨by repeat (first | (with_reducible first | exact HB.out | apply below_alloc | apply pw_below_drewN | apply below_drew1) | exact HB.out)⟩⟩
                              · replace c41 := Bool.eq_false_iff.mpr c41
                                subst c41
                                have H1 : (if 0 ≤ x5_1 then (if x5_1 ≤ x5_3 then (if x5_3 ≤ (a0.size : Int) then ((lapidaryref01_Read.f (a0.extract (x5_1 : Int).toNat (x5_3 : Int).toNat)).bind fun bt144 => (if bt144.2 = 0 then (if x4_1.length < 4398046511104 then (lapidaryref14_Split.l0 k3 a0 (x4_1 ++ [(⟨2, (⟨#[]⟩ : ByteArray), bt144.1⟩ : S35)]) x5_3) else (none)) else (some (([] : List (S35)), bt144.2)))) else (none)) else (none)) else (none)) = some (r1, r2) := by rw [if_neg (show ¬ (false = true) by decide)] at H; exact H
                                clear H
                                have H := H1
                                clear H1
                                by_cases c42 : 0 ≤ x5_1
                                · rw [if_pos c42] at H
                                  have c42b0 := eq_true c42
                                  have c42b1 : decide (0 ≤ x5_1) = true := decide_eq_true c42
                                  clear c42
                                  by_cases c43 : x5_1 ≤ x5_3
                                  · rw [if_pos c43] at H
                                    have c43b0 := eq_true c43
                                    have c43b1 : decide (x5_1 ≤ x5_3) = true := decide_eq_true c43
                                    clear c43
                                    by_cases c44 : x5_3 ≤ (a0.size : Int)
                                    · rw [if_pos c44] at H
                                      have c44b0 := eq_true c44
                                      have c44b1 : decide (x5_3 ≤ (a0.size : Int)) = true := decide_eq_true c44
                                      clear c44
                                      replace H := Option.bind_eq_some_iff.mp H
                                      obtain ⟨⟨t144, t145⟩, A450, H⟩ := H
                                      replace H : (if t145 = 0 then (if x4_1.length < 4398046511104 then (lapidaryref14_Split.l0 k3 a0 (x4_1 ++ [(⟨2, (⟨#[]⟩ : ByteArray), t144⟩ : S35)]) x5_3) else (none)) else (some (([] : List (S35)), t145))) = some (r1, r2) := H
                                      have A45 := Aside0.mk A450
                                      clear A450
                                      by_cases c46 : t145 = 0
                                      · rw [if_pos c46] at H
                                        have c46b0 : (t145 == 0) = true := beq_iff_eq.mpr c46
                                        have c46b1 : (t145 != 0) = false := bne_eq_false_iff_eq.mpr c46
                                        clear c46
                                        by_cases c47 : x4_1.length < 4398046511104
                                        · rw [if_pos c47] at H
                                          have LMc47 := Aside0.mk c47
                                          clear c47
                                          obtain ⟨y146, hy146⟩ : ∃ y_ : List (S35), y_ = (x4_1 ++ [(⟨2, (⟨#[]⟩ : ByteArray), t144⟩ : S35)]) := ⟨_, rfl⟩
                                          replace H : (lapidaryref14_Split.l0 k3 a0 y146 x5_3) = some (r1, r2) := by first | (rw [hy146]; with_reducible exact H) | (have H2_ := (Option.bind_some _ _).symm.trans H; rw [hy146]; with_reducible exact H2_) | (have H2_ := (Option.bind_some _ _).symm.trans H; with_reducible exact H2_) | with_reducible exact H | (rw [hy146]; exact H) | exact H
                                          have Ny146 := Aside0.mk hy146
                                          clear hy146
                                          have H' := Aside0.mk H
                                          clear H
                                          have p39 : 0 ≤ (x5_3 : Int) := of_decide_eq_true (by first | (with_reducible assumption) | assumption)
                                          have q39 : x5_3 < (a0.size : Int) := of_decide_eq_true (by first | (with_reducible assumption) | assumption)
                                          have hx39 := bt_at a0 x5_3
                                          replace p39 := eq_true p39
                                          replace q39 := eq_true q39
                                          go_wp2_with (first | (go_at_call 19; (with_reducible refine (lapidaryref14_digit.calls (bt a0 x5_3) false _ A40.out).mono ?_); rintro e w' ⟨rfl, ⟨nd, rfl⟩⟩) | ((with_reducible refine gate_callee (f := 21) rfl ?_); refine goesL_ (some 139) rfl rfl Tryd.func21 (by kernel_rfl) rfl #[.string (a0.extract (x5_1 : Int).toNat (x5_3 : Int).toNat)] rfl (by (try simp only [List.map_toArray, List.map_cons, List.map_nil]); first | done | rfl | (simp only [List.length_drop, List.length_take]; rfl)) ?_; (with_reducible refine (lapidaryref01_Read.calls (a0.extract (x5_1 : Int).toNat (x5_3 : Int).toNat) t144 t145 _ A45.out).mono ?_); rintro e w' ⟨rfl, ⟨nd, rfl⟩⟩; refine ⟨_, rfl, ?_⟩) | ((with_reducible refine gate_builtin (b := .append) (xs := #[.tmp 145, .tmp 148]) rfl ?_); at_builtin; refine Kd.R_append k35 (w0 := w) w.heap.size rfl (.tmp 145) (.tmp 148) 27 35 (.agg #[(.int .u8 0), (.string ⟨#[]⟩), (.int .i64 0)]) 32 rfl Tryd.underlying27 info35 rfl (by decide) (by omega) u4 x4_1 (⟨2, (⟨#[]⟩ : ByteArray), t144⟩ : S35) [.int .u8 2, .string (⟨#[]⟩ : ByteArray), .int .i64 t144] (fun _ => True) (fun _ => False) rfl rfl ?aP (fun _ hk => hk.elim) ?aF ?aO ?aB ?aS ?aL ?_; (case aP => exact k35_mkM _ _ _ (⟨2, (⟨#[]⟩ : ByteArray), t144⟩ : S35)); (case aB => exact (by repeat (first | (with_reducible first | exact HB.out | apply below_alloc | apply pw_below_drewN | apply below_drew1) | exact HB.out))); (case aF => exact (fun _ _ => trivial)); (case aO => exact (by (with_reducible repeat (first | apply Kd.R_alloc | apply Kd.R_drewN | apply Kd.R_drew)); exact HO_4.out)); (case aS => exact (below_size (by repeat (first | (with_reducible first | exact HB.out | apply below_alloc | apply pw_below_drewN | apply below_drew1) | exact HB.out)))); (case aL => have := LMc47.out; omega); intro v147 w48 ho hb hg hat; rw [← Ny146.out] at ho; have n0_ := Aside0.mk (hb); have n1_ := Aside0.mk (ho); clear HB; clear HO_4; have HB := n0_; have HO148 := n1_; clear n0_ n1_; clear ho hb hg hat))
                                          go_roundg k3
                                          case measure => have := HK1.out; have := HJ5.out; have := HK3.out; omega
                                          case rel => exact ⟨(y146), (x5_3), (by first | rfl | (simp; done) | (simp [*]; done)), H', ⟨by have := HK1.out; have := HJ5.out; have := HK3.out; omega⟩, ⟨by (with_reducible repeat (first | apply Kd.R_alloc | apply Kd.R_drewN | apply Kd.R_drew)); exact HO148.out⟩, ⟨by repeat (first | (with_reducible first | exact HB.out | apply below_alloc | apply pw_below_drewN | apply below_drew1) | exact HB.out)⟩⟩
                                        · rw [if_neg c47] at H
                                          exact absurd H (by simp)
                                      · rw [if_neg c46] at H
                                        have c46b0 : (t145 == 0) = false := beq_eq_false_iff_ne.mpr c46
                                        have c46b1 : (t145 != 0) = true := bne_iff_ne.mpr c46
                                        simp only [Option.some.injEq, Prod.mk.injEq] at H
                                        obtain ⟨rfl, rfl⟩ := H
                                        have p39 : 0 ≤ (x5_3 : Int) := of_decide_eq_true (by first | (with_reducible assumption) | assumption)
                                        have q39 : x5_3 < (a0.size : Int) := of_decide_eq_true (by first | (with_reducible assumption) | assumption)
                                        have hx39 := bt_at a0 x5_3
                                        replace p39 := eq_true p39
                                        replace q39 := eq_true q39
                                        go_wp2_with (first | (go_at_call 19; (with_reducible refine (lapidaryref14_digit.calls (bt a0 x5_3) false _ A40.out).mono ?_); rintro e w' ⟨rfl, ⟨nd, rfl⟩⟩) | ((with_reducible refine gate_callee (f := 21) rfl ?_); refine goesL_ (some 139) rfl rfl Tryd.func21 (by kernel_rfl) rfl #[.string (a0.extract (x5_1 : Int).toNat (x5_3 : Int).toNat)] rfl (by (try simp only [List.map_toArray, List.map_cons, List.map_nil]); first | done | rfl | (simp only [List.length_drop, List.length_take]; rfl)) ?_; (with_reducible refine (lapidaryref01_Read.calls (a0.extract (x5_1 : Int).toNat (x5_3 : Int).toNat) t144 t145 _ A45.out).mono ?_); rintro e w' ⟨rfl, ⟨nd, rfl⟩⟩; refine ⟨_, rfl, ?_⟩))
                                        go_ret2
                                        exact ⟨_, by first | rfl | (simp [errW_none, errW_some] <;> rfl) | (simp [*, errW_none, errW_some] <;> rfl), by first | exact Kd.R_nil _ _ _ _ _ | exact Kd.N_nil _ _ _ _ _ | exact Kd.V_nil _ _ _ _ _ | exact Kd.Q_nil _ _ _ _ _ | exact Kd.S_nil _ _ _ _ _, by repeat (first | (with_reducible first | exact HB.out | apply below_alloc | apply pw_below_drewN | apply below_drew1) | exact HB.out)⟩
                                    · rw [if_neg c44] at H
                                      exact absurd H (by simp)
                                  · rw [if_neg c43] at H
                                    exact absurd H (by simp)
                                · rw [if_neg c42] at H
                                  exact absurd H (by simp)
                            · rw [if_neg c38] at H
                              exact absurd H (by simp)
                          · rw [if_neg c37] at H
                            have c37b0 : decide (x5_3 < (a0.size : Int)) = false := decide_eq_false c37
                            clear c37
                            by_cases c49 : 0 ≤ x5_1
                            · rw [if_pos c49] at H
                              have c49b0 := eq_true c49
                              have c49b1 : decide (0 ≤ x5_1) = true := decide_eq_true c49
                              clear c49
                              by_cases c50 : x5_1 ≤ x5_3
                              · rw [if_pos c50] at H
                                have c50b0 := eq_true c50
                                have c50b1 : decide (x5_1 ≤ x5_3) = true := decide_eq_true c50
                                clear c50
                                by_cases c51 : x5_3 ≤ (a0.size : Int)
                                · rw [if_pos c51] at H
                                  have c51b0 := eq_true c51
                                  have c51b1 : decide (x5_3 ≤ (a0.size : Int)) = true := decide_eq_true c51
                                  clear c51
                                  replace H := Option.bind_eq_some_iff.mp H
                                  obtain ⟨⟨t149, t150⟩, A520, H⟩ := H
                                  replace H : (if t150 = 0 then (if x4_1.length < 4398046511104 then (lapidaryref14_Split.l0 k3 a0 (x4_1 ++ [(⟨2, (⟨#[]⟩ : ByteArray), t149⟩ : S35)]) x5_3) else (none)) else (some (([] : List (S35)), t150))) = some (r1, r2) := H
                                  have A52 := Aside0.mk A520
                                  clear A520
                                  by_cases c53 : t150 = 0
                                  · rw [if_pos c53] at H
                                    have c53b0 : (t150 == 0) = true := beq_iff_eq.mpr c53
                                    have c53b1 : (t150 != 0) = false := bne_eq_false_iff_eq.mpr c53
                                    clear c53
                                    by_cases c54 : x4_1.length < 4398046511104
                                    · rw [if_pos c54] at H
                                      have LMc54 := Aside0.mk c54
                                      clear c54
                                      obtain ⟨y151, hy151⟩ : ∃ y_ : List (S35), y_ = (x4_1 ++ [(⟨2, (⟨#[]⟩ : ByteArray), t149⟩ : S35)]) := ⟨_, rfl⟩
                                      replace H : (lapidaryref14_Split.l0 k3 a0 y151 x5_3) = some (r1, r2) := by first | (rw [hy151]; with_reducible exact H) | (have H2_ := (Option.bind_some _ _).symm.trans H; rw [hy151]; with_reducible exact H2_) | (have H2_ := (Option.bind_some _ _).symm.trans H; with_reducible exact H2_) | with_reducible exact H | (rw [hy151]; exact H) | exact H
                                      have Ny151 := Aside0.mk hy151
                                      clear hy151
                                      have H' := Aside0.mk H
                                      clear H
                                      go_wp2_with (first | ((with_reducible refine gate_callee (f := 21) rfl ?_); refine goesL_ (some 139) rfl rfl Tryd.func21 (by kernel_rfl) rfl #[.string (a0.extract (x5_1 : Int).toNat (x5_3 : Int).toNat)] rfl (by (try simp only [List.map_toArray, List.map_cons, List.map_nil]); first | done | rfl | (simp only [List.length_drop, List.length_take]; rfl)) ?_; (with_reducible refine (lapidaryref01_Read.calls (a0.extract (x5_1 : Int).toNat (x5_3 : Int).toNat) t149 t150 _ A52.out).mono ?_); rintro e w' ⟨rfl, ⟨nd, rfl⟩⟩; refine ⟨_, rfl, ?_⟩) | ((with_reducible refine gate_builtin (b := .append) (xs := #[.tmp 145, .tmp 148]) rfl ?_); at_builtin; refine Kd.R_append k35 (w0 := w) w.heap.size rfl (.tmp 145) (.tmp 148) 27 35 (.agg #[(.int .u8 0), (.string ⟨#[]⟩), (.int .i64 0)]) 32 rfl Tryd.underlying27 info35 rfl (by decide) (by omega) u4 x4_1 (⟨2, (⟨#[]⟩ : ByteArray), t149⟩ : S35) [.int .u8 2, .string (⟨#[]⟩ : ByteArray), .int .i64 t149] (fun _ => True) (fun _ => False) rfl rfl ?aP (fun _ hk => hk.elim) ?aF ?aO ?aB ?aS ?aL ?_; (case aP => exact k35_mkM _ _ _ (⟨2, (⟨#[]⟩ : ByteArray), t149⟩ : S35)); (case aB => exact (by repeat (first | (with_reducible first | exact HB.out | apply below_alloc | apply pw_below_drewN | apply below_drew1) | exact HB.out))); (case aF => exact (fun _ _ => trivial)); (case aO => exact (by (with_reducible repeat (first | apply Kd.R_alloc | apply Kd.R_drewN | apply Kd.R_drew)); exact HO_4.out)); (case aS => exact (below_size (by repeat (first | (with_reducible first | exact HB.out | apply below_alloc | apply pw_below_drewN | apply below_drew1) | exact HB.out)))); (case aL => have := LMc54.out; omega); intro v152 w55 ho hb hg hat; rw [← Ny151.out] at ho; have n0_ := Aside0.mk (hb); have n1_ := Aside0.mk (ho); clear HB; clear HO_4; have HB := n0_; have HO153 := n1_; clear n0_ n1_; clear ho hb hg hat))
                                      go_roundg k3
                                      case measure => have := HK1.out; have := HJ5.out; have := HK3.out; omega
                                      case rel => exact ⟨(y151), (x5_3), (by first | rfl | (simp; done) | (simp [*]; done)), H', ⟨by have := HK1.out; have := HJ5.out; have := HK3.out; omega⟩, ⟨by (with_reducible repeat (first | apply Kd.R_alloc | apply Kd.R_drewN | apply Kd.R_drew)); exact HO153.out⟩, ⟨by repeat (first | (with_reducible first | exact HB.out | apply below_alloc | apply pw_below_drewN | apply below_drew1) | exact HB.out)⟩⟩
                                    · rw [if_neg c54] at H
                                      exact absurd H (by simp)
                                  · rw [if_neg c53] at H
                                    have c53b0 : (t150 == 0) = false := beq_eq_false_iff_ne.mpr c53
                                    have c53b1 : (t150 != 0) = true := bne_iff_ne.mpr c53
                                    simp only [Option.some.injEq, Prod.mk.injEq] at H
                                    obtain ⟨rfl, rfl⟩ := H
                                    go_wp2_with (first | ((with_reducible refine gate_callee (f := 21) rfl ?_); refine goesL_ (some 139) rfl rfl Tryd.func21 (by kernel_rfl) rfl #[.string (a0.extract (x5_1 : Int).toNat (x5_3 : Int).toNat)] rfl (by (try simp only [List.map_toArray, List.map_cons, List.map_nil]); first | done | rfl | (simp only [List.length_drop, List.length_take]; rfl)) ?_; (with_reducible refine (lapidaryref01_Read.calls (a0.extract (x5_1 : Int).toNat (x5_3 : Int).toNat) t149 t150 _ A52.out).mono ?_); rintro e w' ⟨rfl, ⟨nd, rfl⟩⟩; refine ⟨_, rfl, ?_⟩))
                                    go_ret2
                                    exact ⟨_, by first | rfl | (simp [errW_none, errW_some] <;> rfl) | (simp [*, errW_none, errW_some] <;> rfl), by first | exact Kd.R_nil _ _ _ _ _ | exact Kd.N_nil _ _ _ _ _ | exact Kd.V_nil _ _ _ _ _ | exact Kd.Q_nil _ _ _ _ _ | exact Kd.S_nil _ _ _ _ _, by repeat (first | (with_reducible first | exact HB.out | apply below_alloc | apply pw_below_drewN | apply below_drew1) | exact HB.out)⟩
                                · rw [if_neg c51] at H
                                  exact absurd H (by simp)
                              · rw [if_neg c50] at H
                                exact absurd H (by simp)
                            · rw [if_neg c49] at H
                              exact absurd H (by simp)
                    · replace c36 := Bool.eq_false_iff.mpr c36
                      subst c36
                      have H1 : (if (bt a0 x5_1) = 39 then (lapidaryref14_Split.l3 kj5 a0 x4_1 (wrap64 (x5_1 + 1)) ([] : List Int) false) else (if (wrap64 (x5_1 + 1)) < (a0.size : Int) then (if (bt a0 x5_1) = 60 then (if 0 ≤ (wrap64 (x5_1 + 1)) then (if (bt a0 (wrap64 (x5_1 + 1))) = 61 then (lapidaryref14_Split.j6 kj5 a0 x4_1 x5_1 (bt a0 x5_1) x5_1 true) else (if (bt a0 (wrap64 (x5_1 + 1))) = 62 then (lapidaryref14_Split.j6 kj5 a0 x4_1 x5_1 (bt a0 x5_1) x5_1 true) else (if (bt a0 x5_1) = 62 then (lapidaryref14_Split.j6 kj5 a0 x4_1 x5_1 (bt a0 x5_1) x5_1 ((bt a0 (wrap64 (x5_1 + 1))) == 61)) else (lapidaryref14_Split.j6 kj5 a0 x4_1 x5_1 (bt a0 x5_1) x5_1 false)))) else (none)) else (if (bt a0 x5_1) = 62 then (if 0 ≤ (wrap64 (x5_1 + 1)) then (lapidaryref14_Split.j6 kj5 a0 x4_1 x5_1 (bt a0 x5_1) x5_1 ((bt a0 (wrap64 (x5_1 + 1))) == 61)) else (none)) else (lapidaryref14_Split.j6 kj5 a0 x4_1 x5_1 (bt a0 x5_1) x5_1 false))) else (lapidaryref14_Split.j6 kj5 a0 x4_1 x5_1 (bt a0 x5_1) x5_1 false))) = some (r1, r2) := by rw [if_neg (show ¬ (false = true) by decide)] at H; exact H
                      clear H
                      have H := H1
                      clear H1
                      by_cases c56 : (bt a0 x5_1) = 39
                      · rw [if_pos c56] at H
                        have c56b0 : ((bt a0 x5_1) == 39) = true := beq_iff_eq.mpr c56
                        have c56b1 : ((bt a0 x5_1) != 39) = false := bne_eq_false_iff_eq.mpr c56
                        clear c56
                        have H' := Aside0.mk H
                        clear H
                        go_wp2_with (first | ((with_reducible refine gate_callee (f := 18) rfl ?_); refine goesL_ (some 91) rfl rfl Tryd.func18 (by kernel_rfl) rfl #[.int .u8 (bt a0 x5_1)] rfl (by (try simp only [List.map_toArray, List.map_cons, List.map_nil]); first | done | rfl | (simp only [List.length_drop, List.length_take]; rfl)) ?_; (with_reducible refine (lapidaryref14_letter.calls (bt a0 x5_1) false _ A11.out).mono ?_); rintro e w' ⟨rfl, ⟨nd, rfl⟩⟩; refine ⟨_, rfl, ?_⟩) | ((with_reducible refine gate_callee (f := 19) rfl ?_); refine goesL_ (some 121) rfl rfl Tryd.func19 (by kernel_rfl) rfl #[.int .u8 (bt a0 x5_1)] rfl (by (try simp only [List.map_toArray, List.map_cons, List.map_nil]); first | done | rfl | (simp only [List.length_drop, List.length_take]; rfl)) ?_; (with_reducible refine (lapidaryref14_digit.calls (bt a0 x5_1) false _ A35.out).mono ?_); rintro e w' ⟨rfl, ⟨nd, rfl⟩⟩; refine ⟨_, rfl, ?_⟩))
                        go_loopg [5, 10, 11] kj5 (fun kq v5 v10 v11 w' => ∃ (x5_3 : Int) (x10_3 : List Int) (x11_3 : Bool), v5 = .int .i64 x5_3 ∧ v11 = .bool x11_3 ∧ Aside0 (lapidaryref14_Split.l3 kq a0 x4_1 x5_3 x10_3 x11_3 = some (r1, r2)) ∧ Aside0 (kq ≤ kj5) ∧ Aside0 (Kd.R k35 35 w' w.heap.size (fun _ => True) u4 x4_1) ∧ Aside0 (Kd.R (Kd.int .u8) 5 w' w.heap.size (fun _ => True) v10 x10_3) ∧ Aside0 (Below w.heap.size w w'))
                        case atStart => exact ⟨(wrap64 (x5_1 + 1)), (([] : List Int)), (false), (by first | rfl | (simp; done) | (simp [*]; done)), (by first | rfl | (simp; done) | (simp [*]; done)), H', ⟨Nat.le_refl _⟩, ⟨by (with_reducible repeat (first | apply Kd.R_alloc | apply Kd.R_drewN | apply Kd.R_drew)); exact HO_4.out⟩, ⟨by first | exact Kd.R_nil _ _ _ _ _ | exact Kd.N_nil _ _ _ _ _ | exact Kd.V_nil _ _ _ _ _ | exact Kd.Q_nil _ _ _ _ _ | exact Kd.S_nil _ _ _ _ _⟩, ⟨by repeat (first | (with_reducible first | exact HB.out | apply below_alloc | apply pw_below_drewN | apply below_drew1) | exact HB.out)⟩⟩
                        case round => as_aux_lemma =>
                          clear H'
                          try clear c1
                          try clear p1
                          try clear q1
                          try clear hx1
                          try clear c2
                          try clear c2b0
                          try clear c2b1
                          try clear p2
                          try clear c3
                          try clear c3b0
                          try clear p3
                          try clear q3
                          try clear hx3
                          try clear c4
                          try clear c4b0
                          try clear c5
                          try clear p5
                          try clear q5
                          try clear hx5
                          try clear p6
                          try clear c7
                          try clear c7b0
                          try clear c7b1
                          try clear c8
                          try clear c8b0
                          try clear c8b1
                          try clear c9
                          try clear c9b0
                          try clear c9b1
                          try clear c10
                          try clear c11
                          try clear c12
                          try clear c13
                          try clear c13b0
                          try clear c14
                          try clear c14b0
                          try clear p15
                          try clear q15
                          try clear hx15
                          try clear c17
                          try clear c18
                          try clear p18
                          try clear q18
                          try clear hx18
                          try clear c19
                          try clear c20
                          try clear c21
                          try clear c21b0
                          try clear c21b1
                          try clear c22
                          try clear c22b0
                          try clear c22b1
                          try clear c23
                          try clear c23b0
                          try clear c23b1
                          try clear c25
                          try clear c28
                          try clear c28b0
                          try clear c28b1
                          try clear c29
                          try clear c29b0
                          try clear c29b1
                          try clear c30
                          try clear c30b0
                          try clear c30b1
                          try clear c32
                          try clear c36
                          try clear c37
                          try clear c37b0
                          try clear c38
                          try clear c38b0
                          try clear p39
                          try clear q39
                          try clear hx39
                          try clear c41
                          try clear c42
                          try clear c42b0
                          try clear c42b1
                          try clear c43
                          try clear c43b0
                          try clear c43b1
                          try clear c44
                          try clear c44b0
                          try clear c44b1
                          try clear c46
                          try clear c46b0
                          try clear c46b1
                          try clear c47
                          try clear c49
                          try clear c49b0
                          try clear c49b1
                          try clear c50
                          try clear c50b0
                          try clear c50b1
                          try clear c51
                          try clear c51b0
                          try clear c51b1
                          try clear c53
                          try clear c53b0
                          try clear c53b1
                          try clear c54
                          try clear c56
                          try clear c56b0
                          try clear c56b1
                          try clear p1
                          try clear p15
                          try clear p18
                          try clear p2
                          try clear p39
                          try clear p5
                          try clear p6
                          try clear q1
                          try clear q15
                          try clear q18
                          try clear q39
                          try clear q5
                          obtain ⟨x5_3, x10_3, x11_3, rfl, rfl, HA, HK3, HO_4, HO_10, HB⟩ := hrel
                          cases gk with
                          | zero => exact absurd HA.out (by simp [lapidaryref14_Split.l3])
                          | succ k3 =>
                            have H := HA.out
                            clear HA
                            simp only [lapidaryref14_Split.l3] at H
                            have HC57 := Aside0.mk H
                            clear H
                            go_upto_region 31 with (fail)
                            go_cut [162] (fun v162 wc => ∃ (kq : Nat) (x162_56 : Bool), v162 = .bool x162_56 ∧ Aside0 (lapidaryref14_Split.j5 kq a0 x4_1 x5_3 x10_3 x11_3 x162_56 = some (r1, r2)) ∧ Aside0 (kq ≤ k3) ∧ Aside0 (Kd.R k35 35 wc w.heap.size (fun _ => True) u4 x4_1) ∧ Aside0 (Kd.R (Kd.int .u8) 5 wc w.heap.size (fun _ => True) u10 x10_3) ∧ Aside0 (Below w.heap.size w wc))
                            case first => as_aux_lemma =>
                              have H := HC57.out
                              clear HC57
                              by_cases c58 : x5_3 < (a0.size : Int)
                              · rw [if_pos c58] at H
                                have c58b0 : decide (x5_3 < (a0.size : Int)) = true := decide_eq_true c58
                                clear c58
                                (first | rw [c58b0] | (simp only [i64_w, i32_w]; rw [c58b0]) | skip)
                                have H' := Aside0.mk H
                                clear H
                                go_wp2
                                go_meet
                                case rel => exact ⟨_, (!x11_3), (by first | rfl | (simp; done) | (simp [*]; done)), H', ⟨by have := HK1.out; have := HJ5.out; have := HK3.out; first | omega | exact Nat.le_refl _⟩, ⟨by (with_reducible repeat (first | apply Kd.R_alloc | apply Kd.R_drewN | apply Kd.R_drew)); exact HO_4.out⟩, ⟨by (with_reducible repeat (first | apply Kd.R_alloc | apply Kd.R_drewN | apply Kd.R_drew)); exact HO_10.out⟩, ⟨by repeat (first | (with_reducible first | exact HB.out | apply below_alloc | apply pw_below_drewN | apply below_drew1) | exact HB.out)⟩⟩
                              · rw [if_neg c58] at H
                                have c58b0 : decide (x5_3 < (a0.size : Int)) = false := decide_eq_false c58
                                clear c58
                                (first | rw [c58b0] | (simp only [i64_w, i32_w]; rw [c58b0]) | skip)
                                have H' := Aside0.mk H
                                clear H
                                go_wp2
                                go_meet
                                case rel => exact ⟨_, (false), (by first | rfl | (simp; done) | (simp [*]; done)), H', ⟨by have := HK1.out; have := HJ5.out; have := HK3.out; first | omega | exact Nat.le_refl _⟩, ⟨by (with_reducible repeat (first | apply Kd.R_alloc | apply Kd.R_drewN | apply Kd.R_drew)); exact HO_4.out⟩, ⟨by (with_reducible repeat (first | apply Kd.R_alloc | apply Kd.R_drewN | apply Kd.R_drew)); exact HO_10.out⟩, ⟨by repeat (first | (with_reducible first | exact HB.out | apply below_alloc | apply pw_below_drewN | apply below_drew1) | exact HB.out)⟩⟩
                            case rest => as_aux_lemma =>
                              clear HC57
                              try clear c1
                              try clear p1
                              try clear q1
                              try clear hx1
                              try clear c2
                              try clear c2b0
                              try clear c2b1
                              try clear p2
                              try clear c3
                              try clear c3b0
                              try clear p3
                              try clear q3
                              try clear hx3
                              try clear c4
                              try clear c4b0
                              try clear c5
                              try clear p5
                              try clear q5
                              try clear hx5
                              try clear p6
                              try clear c7
                              try clear c7b0
                              try clear c7b1
                              try clear c8
                              try clear c8b0
                              try clear c8b1
                              try clear c9
                              try clear c9b0
                              try clear c9b1
                              try clear c10
                              try clear c11
                              try clear c12
                              try clear c13
                              try clear c13b0
                              try clear c14
                              try clear c14b0
                              try clear p15
                              try clear q15
                              try clear hx15
                              try clear c17
                              try clear c18
                              try clear p18
                              try clear q18
                              try clear hx18
                              try clear c19
                              try clear c20
                              try clear c21
                              try clear c21b0
                              try clear c21b1
                              try clear c22
                              try clear c22b0
                              try clear c22b1
                              try clear c23
                              try clear c23b0
                              try clear c23b1
                              try clear c25
                              try clear c28
                              try clear c28b0
                              try clear c28b1
                              try clear c29
                              try clear c29b0
                              try clear c29b1
                              try clear c30
                              try clear c30b0
                              try clear c30b1
                              try clear c32
                              try clear c36
                              try clear c37
                              try clear c37b0
                              try clear c38
                              try clear c38b0
                              try clear p39
                              try clear q39
                              try clear hx39
                              try clear c41
                              try clear c42
                              try clear c42b0
                              try clear c42b1
                              try clear c43
                              try clear c43b0
                              try clear c43b1
                              try clear c44
                              try clear c44b0
                              try clear c44b1
                              try clear c46
                              try clear c46b0
                              try clear c46b1
                              try clear c47
                              try clear c49
                              try clear c49b0
                              try clear c49b1
                              try clear c50
                              try clear c50b0
                              try clear c50b1
                              try clear c51
                              try clear c51b0
                              try clear c51b1
                              try clear c53
                              try clear c53b0
                              try clear c53b1
                              try clear c54
                              try clear c56
                              try clear c56b0
                              try clear c56b1
                              try clear c58
                              try clear c58b0
                              try clear p1
                              try clear p15
                              try clear p18
                              try clear p2
                              try clear p3
                              try clear p39
                              try clear p5
                              try clear p6
                              try clear q1
                              try clear q15
                              try clear q18
                              try clear q3
                              try clear q39
                              try clear q5
                              obtain ⟨kq, x162_56, rfl, HA, HJ56, HO_4, HO_10, HB⟩ := hcut
                              cases kq with
                              | zero => exact absurd HA.out (by simp [lapidaryref14_Split.j5])
                              | succ kj56 =>
                                have H := HA.out
                                clear HA
                                simp only [lapidaryref14_Split.j5] at H
                                by_cases c59 : x162_56 = true
                                · subst c59
                                  have H1 : (if 0 ≤ x5_3 then (if x5_3 < (a0.size : Int) then (if (bt a0 x5_3) = 39 then (if (wrap64 (x5_3 + 1)) < (a0.size : Int) then (if 0 ≤ (wrap64 (x5_3 + 1)) then (if (bt a0 (wrap64 (x5_3 + 1))) = 39 then (if x10_3.length < 140737488355328 then (lapidaryref14_Split.l3 kj56 a0 x4_1 (wrap64 (x5_3 + 2)) (x10_3 ++ [39]) x11_3) else (none)) else (lapidaryref14_Split.l3 kj56 a0 x4_1 (wrap64 (x5_3 + 1)) x10_3 true)) else (none)) else (lapidaryref14_Split.l3 kj56 a0 x4_1 (wrap64 (x5_3 + 1)) x10_3 true)) else (if x10_3.length < 140737488355328 then (lapidaryref14_Split.l3 kj56 a0 x4_1 (wrap64 (x5_3 + 1)) (x10_3 ++ [bt a0 x5_3]) x11_3) else (none))) else (none)) else (none)) = some (r1, r2) := by rw [if_pos rfl] at H; exact H
                                  clear H
                                  have H := H1
                                  clear H1
                                  by_cases c60 : 0 ≤ x5_3
                                  · rw [if_pos c60] at H
                                    have c60b0 : decide (0 ≤ x5_3) = true := decide_eq_true c60
                                    clear c60
                                    by_cases c61 : x5_3 < (a0.size : Int)
                                    · rw [if_pos c61] at H
                                      have c61b0 : decide (x5_3 < (a0.size : Int)) = true := decide_eq_true c61
                                      clear c61
                                      by_cases c63 : (bt a0 x5_3) = 39
                                      · rw [if_pos c63] at H
                                        have c63b0 : ((bt a0 x5_3) == 39) = true := beq_iff_eq.mpr c63
                                        have c63b1 : ((bt a0 x5_3) != 39) = false := bne_eq_false_iff_eq.mpr c63
                                        clear c63
                                        by_cases c64 : (wrap64 (x5_3 + 1)) < (a0.size : Int)
                                        · rw [if_pos c64] at H
                                          have c64b0 : decide ((wrap64 (x5_3 + 1)) < (a0.size : Int)) = true := decide_eq_true c64
                                          clear c64
                                          obtain ⟨ji65, hji65⟩ : ∃ j_ : Int, (wrap64 (x5_3 + 1)) = j_ := ⟨_, rfl⟩
                                          replace H : (if 0 ≤ (ji65) then (if (bt a0 (ji65)) = 39 then (if x10_3.length < 140737488355328 then (lapidaryref14_Split.l3 kj56 a0 x4_1 (wrap64 (x5_3 + 2)) (x10_3 ++ [39]) x11_3) else (none)) else (lapidaryref14_Split.l3 kj56 a0 x4_1 ji65 x10_3 true)) else (none)) = some (r1, r2) := by first | (rw [hji65] at H; exact H) | (simp only [hji65] at H ⊢; exact H)
                                          (try rw [hji65] at c64b0)
                                          have hji65w : (IntKind.i64.wrap (x5_3 + 1)) = ji65 := (i64_w _).trans hji65
                                          by_cases c66 : 0 ≤ (ji65)
                                          · rw [if_pos c66] at H
                                            have c66b0 : decide (0 ≤ (ji65)) = true := decide_eq_true c66
                                            clear c66
                                            by_cases c68 : (bt a0 (ji65)) = 39
                                            · rw [if_pos c68] at H
                                              have c68b0 : ((bt a0 (ji65)) == 39) = true := beq_iff_eq.mpr c68
                                              have c68b1 : ((bt a0 (ji65)) != 39) = false := bne_eq_false_iff_eq.mpr c68
                                              clear c68
                                              by_cases c69 : x10_3.length < 140737488355328
                                              · rw [if_pos c69] at H
                                                have LMc69 := Aside0.mk c69
                                                clear c69
                                                obtain ⟨y154, hy154⟩ : ∃ y_ : List Int, y_ = (x10_3 ++ [39]) := ⟨_, rfl⟩
                                                replace H : (lapidaryref14_Split.l3 kj56 a0 x4_1 (wrap64 (x5_3 + 2)) y154 x11_3) = some (r1, r2) := by first | (rw [hy154]; with_reducible exact H) | (have H2_ := (Option.bind_some _ _).symm.trans H; rw [hy154]; with_reducible exact H2_) | (have H2_ := (Option.bind_some _ _).symm.trans H; with_reducible exact H2_) | with_reducible exact H | (rw [hy154]; exact H) | exact H
                                                have Ny154 := Aside0.mk hy154
                                                clear hy154
                                                have H' := Aside0.mk H
                                                clear H
                                                have p62 : 0 ≤ (x5_3 : Int) := of_decide_eq_true (by first | (with_reducible assumption) | assumption)
                                                have q62 : x5_3 < (a0.size : Int) := of_decide_eq_true (by first | (with_reducible assumption) | assumption)
                                                have hx62 := bt_at a0 x5_3
                                                replace p62 := eq_true p62
                                                replace q62 := eq_true q62
                                                have p67 : 0 ≤ ((ji65) : Int) := of_decide_eq_true (by first | (with_reducible assumption) | assumption)
                                                have q67 : (ji65) < (a0.size : Int) := of_decide_eq_true (by first | (with_reducible assumption) | assumption)
                                                have hx67 := bt_at a0 (ji65)
                                                replace p67 := eq_true p67
                                                replace q67 := eq_true q67
                                                go_wp2_with (first | ((with_reducible refine gate_builtin (b := .append) (xs := #[.tmp 187, .tmp 188]) rfl ?_); at_builtin; refine Kd.R_append (Kd.int .u8) (w0 := w) w.heap.size rfl (.tmp 187) (.tmp 188) 39 5 (.int .u8 0) 1 rfl Tryd.underlying39 info5 rfl (by decide) (by omega) u10 x10_3 39 [.int .u8 39] (fun _ => True) (fun _ => False) rfl rfl ?aP (fun _ hk => hk.elim) ?aF ?aO ?aB ?aS ?aL ?_; (case aP => exact rfl); (case aB => exact (by repeat (first | (with_reducible first | exact HB.out | apply below_alloc | apply pw_below_drewN | apply below_drew1) | exact HB.out))); (case aF => exact (fun _ _ => trivial)); (case aO => exact (by (with_reducible repeat (first | apply Kd.R_alloc | apply Kd.R_drewN | apply Kd.R_drew)); exact HO_10.out)); (case aS => exact (below_size (by repeat (first | (with_reducible first | exact HB.out | apply below_alloc | apply pw_below_drewN | apply below_drew1) | exact HB.out)))); (case aL => have := LMc69.out; omega); intro v155 w70 ho hb hg hat; rw [← Ny154.out] at ho; have n0_ := Aside0.mk (Kd.R_over' (by (with_reducible repeat (first | apply Kd.R_alloc | apply Kd.R_drewN | apply Kd.R_drew)); exact HO_4.out) (Kd.R_typed (by (with_reducible repeat (first | apply Kd.R_alloc | apply Kd.R_drewN | apply Kd.R_drew)); exact HO_10.out)) (by decide) hg); have n1_ := Aside0.mk (hb); have n2_ := Aside0.mk (ho); clear HO_4; clear HB; clear HO_10; have HO_4 := n0_; have HB := n1_; have HO156 := n2_; clear n0_ n1_ n2_; clear ho hb hg hat))
                                                go_roundg kj56
                                                case measure => have := HK1.out; have := HJ5.out; have := HK3.out; have := HJ56.out; omega
                                                case rel => exact ⟨(wrap64 (x5_3 + 2)), (y154), (x11_3), (by first | rfl | (simp; done) | (simp [*]; done)), (by first | rfl | (simp; done) | (simp [*]; done)), H', ⟨by have := HK1.out; have := HJ5.out; have := HK3.out; have := HJ56.out; omega⟩, ⟨by (with_reducible repeat (first | apply Kd.R_alloc | apply Kd.R_drewN | apply Kd.R_drew)); exact HO_4.out⟩, ⟨by (with_reducible repeat (first | apply Kd.R_alloc | apply Kd.R_drewN | apply Kd.R_drew)); exact HO156.out⟩, ⟨by repeat (first | (with_reducible first | exact HB.out | apply below_alloc | apply pw_below_drewN | apply below_drew1) | exact HB.out)⟩⟩
                                              · rw [if_neg c69] at H
                                                exact absurd H (by simp)
                                            · rw [if_neg c68] at H
                                              have c68b0 : ((bt a0 (ji65)) == 39) = false := beq_eq_false_iff_ne.mpr c68
                                              have c68b1 : ((bt a0 (ji65)) != 39) = true := bne_iff_ne.mpr c68
                                              have H' := Aside0.mk H
                                              clear H
                                              have p62 : 0 ≤ (x5_3 : Int) := of_decide_eq_true (by first | (with_reducible assumption) | assumption)
                                              have q62 : x5_3 < (a0.size : Int) := of_decide_eq_true (by first | (with_reducible assumption) | assumption)
                                              have hx62 := bt_at a0 x5_3
                                              replace p62 := eq_true p62
                                              replace q62 := eq_true q62
                                              have p67 : 0 ≤ ((ji65) : Int) := of_decide_eq_true (by first | (with_reducible assumption) | assumption)
                                              have q67 : (ji65) < (a0.size : Int) := of_decide_eq_true (by first | (with_reducible assumption) | assumption)
                                              have hx67 := bt_at a0 (ji65)
                                              replace p67 := eq_true p67
                                              replace q67 := eq_true q67
                                              go_wp2
                                              go_roundg kj56
                                              case measure => have := HK1.out; have := HJ5.out; have := HK3.out; have := HJ56.out; omega
                                              case rel => exact ⟨(ji65), (x10_3), (true), (by first | rfl | (simp; done) | (simp only [← hji65] <;> (first | rfl | simp)) | (simp [*]; done)), (by first | rfl | (simp; done) | (simp [*]; done)), H', ⟨by have := HK1.out; have := HJ5.out; have := HK3.out; have := HJ56.out; omega⟩, ⟨by (with_reducible repeat (first | apply Kd.R_alloc | apply Kd.R_drewN | apply Kd.R_drew)); exact HO_4.out⟩, ⟨by (with_reducible repeat (first | apply Kd.R_alloc | apply Kd.R_drewN | apply Kd.R_drew)); exact HO_10.out⟩, ⟨by repeat (first | (with_reducible first | exact HB.out | apply below_alloc | apply pw_below_drewN | apply below_drew1) | exact HB.out)⟩⟩
                                          · rw [if_neg c66] at H
                                            exact absurd H (by simp)
                                        · rw [if_neg c64] at H
                                          have c64b0 : decide ((wrap64 (x5_3 + 1)) < (a0.size : Int)) = false := decide_eq_false c64
                                          clear c64
                                          have H' := Aside0.mk H
                                          clear H
                                          have p62 : 0 ≤ (x5_3 : Int) := of_decide_eq_true (by first | (with_reducible assumption) | assumption)
                                          have q62 : x5_3 < (a0.size : Int) := of_decide_eq_true (by first | (with_reducible assumption) | assumption)
                                          have hx62 := bt_at a0 x5_3
                                          replace p62 := eq_true p62
                                          replace q62 := eq_true q62
                                          go_wp2
                                          go_roundg kj56
                                          case measure => have := HK1.out; have := HJ5.out; have := HK3.out; have := HJ56.out; omega
                                          case rel => exact ⟨(wrap64 (x5_3 + 1)), (x10_3), (true), (by first | rfl | (simp; done) | (simp [*]; done)), (by first | rfl | (simp; done) | (simp [*]; done)), H', ⟨by have := HK1.out; have := HJ5.out; have := HK3.out; have := HJ56.out; omega⟩, ⟨by (with_reducible repeat (first | apply Kd.R_alloc | apply Kd.R_drewN | apply Kd.R_drew)); exact HO_4.out⟩, ⟨by (with_reducible repeat (first | apply Kd.R_alloc | apply Kd.R_drewN | apply Kd.R_drew)); exact HO_10.out⟩, ⟨by repeat (first | (with_reducible first | exact HB.out | apply below_alloc | apply pw_below_drewN | apply below_drew1) | exact HB.out)⟩⟩
                                      · rw [if_neg c63] at H
                                        have c63b0 : ((bt a0 x5_3) == 39) = false := beq_eq_false_iff_ne.mpr c63
                                        have c63b1 : ((bt a0 x5_3) != 39) = true := bne_iff_ne.mpr c63
                                        by_cases c72 : x10_3.length < 140737488355328
                                        · rw [if_pos c72] at H
                                          have LMc72 := Aside0.mk c72
                                          clear c72
                                          obtain ⟨y157, hy157⟩ : ∃ y_ : List Int, y_ = (x10_3 ++ [bt a0 x5_3]) := ⟨_, rfl⟩
                                          replace H : (lapidaryref14_Split.l3 kj56 a0 x4_1 (wrap64 (x5_3 + 1)) y157 x11_3) = some (r1, r2) := by first | (rw [hy157]; with_reducible exact H) | (have H2_ := (Option.bind_some _ _).symm.trans H; rw [hy157]; with_reducible exact H2_) | (have H2_ := (Option.bind_some _ _).symm.trans H; with_reducible exact H2_) | with_reducible exact H | (rw [hy157]; exact H) | exact H
                                          have Ny157 := Aside0.mk hy157
                                          clear hy157
                                          have H' := Aside0.mk H
                                          clear H
                                          have p62 : 0 ≤ (x5_3 : Int) := of_decide_eq_true (by first | (with_reducible assumption) | assumption)
                                          have q62 : x5_3 < (a0.size : Int) := of_decide_eq_true (by first | (with_reducible assumption) | assumption)
                                          have hx62 := bt_at a0 x5_3
                                          replace p62 := eq_true p62
                                          replace q62 := eq_true q62
                                          have p71 : 0 ≤ (x5_3 : Int) := of_decide_eq_true (by first | (with_reducible assumption) | assumption)
                                          have q71 : x5_3 < (a0.size : Int) := of_decide_eq_true (by first | (with_reducible assumption) | assumption)
                                          have hx71 := bt_at a0 x5_3
                                          replace p71 := eq_true p71
                                          replace q71 := eq_true q71
                                          go_wp2_with (first | ((with_reducible refine gate_builtin (b := .append) (xs := #[.tmp 167, .tmp 171]) rfl ?_); at_builtin; refine Kd.R_append (Kd.int .u8) (w0 := w) w.heap.size rfl (.tmp 167) (.tmp 171) 39 5 (.int .u8 0) 1 rfl Tryd.underlying39 info5 rfl (by decide) (by omega) u10 x10_3 (bt a0 x5_3) [.int .u8 (bt a0 x5_3)] (fun _ => True) (fun _ => False) rfl rfl ?aP (fun _ hk => hk.elim) ?aF ?aO ?aB ?aS ?aL ?_; (case aP => exact rfl); (case aB => exact (by repeat (first | (with_reducible first | exact HB.out | apply below_alloc | apply pw_below_drewN | apply below_drew1) | exact HB.out))); (case aF => exact (fun _ _ => trivial)); (case aO => exact (by (with_reducible repeat (first | apply Kd.R_alloc | apply Kd.R_drewN | apply Kd.R_drew)); exact HO_10.out)); (case aS => exact (below_size (by repeat (first | (with_reducible first | exact HB.out | apply below_alloc | apply pw_below_drewN | apply below_drew1) | exact HB.out)))); (case aL => have := LMc72.out; omega); intro v158 w73 ho hb hg hat; rw [← Ny157.out] at ho; have n0_ := Aside0.mk (Kd.R_over' (by (with_reducible repeat (first | apply Kd.R_alloc | apply Kd.R_drewN | apply Kd.R_drew)); exact HO_4.out) (Kd.R_typed (by (with_reducible repeat (first | apply Kd.R_alloc | apply Kd.R_drewN | apply Kd.R_drew)); exact HO_10.out)) (by decide) hg); have n1_ := Aside0.mk (hb); have n2_ := Aside0.mk (ho); clear HO_4; clear HB; clear HO_10; have HO_4 := n0_; have HB := n1_; have HO159 := n2_; clear n0_ n1_ n2_; clear ho hb hg hat))
                                          go_roundg kj56
                                          case measure => have := HK1.out; have := HJ5.out; have := HK3.out; have := HJ56.out; omega
                                          case rel => exact ⟨(wrap64 (x5_3 + 1)), (y157), (x11_3), (by first | rfl | (simp; done) | (simp [*]; done)), (by first | rfl | (simp; done) | (simp [*]; done)), H', ⟨by have := HK1.out; have := HJ5.out; have := HK3.out; have := HJ56.out; omega⟩, ⟨by (with_reducible repeat (first | apply Kd.R_alloc | apply Kd.R_drewN | apply Kd.R_drew)); exact HO_4.out⟩, ⟨by (with_reducible repeat (first | apply Kd.R_alloc | apply Kd.R_drewN | apply Kd.R_drew)); exact HO159.out⟩, ⟨by repeat (first | (with_reducible first | exact HB.out | apply below_alloc | apply pw_below_drewN | apply below_drew1) | exact HB.out)⟩⟩
                                        · rw [if_neg c72] at H
                                          exact absurd H (by simp)
                                    · rw [if_neg c61] at H
                                      exact absurd H (by simp)
                                  · rw [if_neg c60] at H
                                    exact absurd H (by simp)
                                · replace c59 := Bool.eq_false_iff.mpr c59
                                  subst c59
                                  have H1 : (if x11_3 = true then ((lapidaryref02_Right.f kj56 2 0 (strOfNums x10_3) false).bind fun t161 => (if t161 = true then (if x4_1.length < 4398046511104 then (lapidaryref14_Split.l0 kj56 a0 (x4_1 ++ [(⟨3, strOfNums x10_3, 0⟩ : S35)]) x5_3) else (none)) else ((lapidaryref02_Whole.f kj56 (strOfNums x10_3)).bind fun t165 => (if t165 = true then (some (([] : List (S35)), 2)) else (some (([] : List (S35)), 4)))))) else (some (([] : List (S35)), 4))) = some (r1, r2) := by rw [if_neg (show ¬ (false = true) by decide)] at H; exact H
                                  clear H
                                  have H := H1
                                  clear H1
                                  by_cases c74 : x11_3 = true
                                  · subst c74
                                    have H1 : ((lapidaryref02_Right.f kj56 2 0 (strOfNums x10_3) false).bind fun t161 => (if t161 = true then (if x4_1.length < 4398046511104 then (lapidaryref14_Split.l0 kj56 a0 (x4_1 ++ [(⟨3, strOfNums x10_3, 0⟩ : S35)]) x5_3) else (none)) else ((lapidaryref02_Whole.f kj56 (strOfNums x10_3)).bind fun t165 => (if t165 = true then (some (([] : List (S35)), 2)) else (some (([] : List (S35)), 4)))))) = some (r1, r2) := by rw [if_pos rfl] at H; exact H
                                    clear H
                                    have H := H1
                                    clear H1
                                    replace H := Option.bind_eq_some_iff.mp H
                                    obtain ⟨t161, A750, H⟩ := H
                                    replace H : (if t161 = true then (if x4_1.length < 4398046511104 then (lapidaryref14_Split.l0 kj56 a0 (x4_1 ++ [(⟨3, strOfNums x10_3, 0⟩ : S35)]) x5_3) else (none)) else ((lapidaryref02_Whole.f kj56 (strOfNums x10_3)).bind fun t165 => (if t165 = true then (some (([] : List (S35)), 2)) else (some (([] : List (S35)), 4))))) = some (r1, r2) := H
                                    have A75 := Aside0.mk A750
                                    clear A750
                                    by_cases c76 : t161 = true
                                    · subst c76
                                      have H1 : (if x4_1.length < 4398046511104 then (lapidaryref14_Split.l0 kj56 a0 (x4_1 ++ [(⟨3, strOfNums x10_3, 0⟩ : S35)]) x5_3) else (none)) = some (r1, r2) := by rw [if_pos rfl] at H; exact H
                                      clear H
                                      have H := H1
                                      clear H1
                                      by_cases c77 : x4_1.length < 4398046511104
                                      · rw [if_pos c77] at H
                                        have LMc77 := Aside0.mk c77
                                        clear c77
                                        obtain ⟨y162, hy162⟩ : ∃ y_ : List (S35), y_ = (x4_1 ++ [(⟨3, strOfNums x10_3, 0⟩ : S35)]) := ⟨_, rfl⟩
                                        replace H : (lapidaryref14_Split.l0 kj56 a0 y162 x5_3) = some (r1, r2) := by first | (rw [hy162]; with_reducible exact H) | (have H2_ := (Option.bind_some _ _).symm.trans H; rw [hy162]; with_reducible exact H2_) | (have H2_ := (Option.bind_some _ _).symm.trans H; with_reducible exact H2_) | with_reducible exact H | (rw [hy162]; exact H) | exact H
                                        have Ny162 := Aside0.mk hy162
                                        clear hy162
                                        have H' := Aside0.mk H
                                        clear H
                                        have hcv78 := own_string (P := Tryd.prog) Tryd.underlying39 Tryd.underlying5 Tryd.underlying9 (Kd.own_of_R HO_10.out)
                                        go_wp2_with (first | ((with_reducible refine gate_dst (N := 12) rfl ?_); refine box_event ?hg (N := 12) ?hd (cs := #[.int .u8 0, .int .i64 0, .string (⟨#[]⟩ : ByteArray), .bool false]) (t := 53) ?hr ?_; (case hd => rfl); (case hg => rfl); (case hr => first | (go_simp; done) | (go_simp; rfl)); intro gb160 hg w79 hbox hb; have n0_ := Aside0.mk (Kd.R_below (by (with_reducible repeat (first | apply Kd.R_alloc | apply Kd.R_drewN | apply Kd.R_drew)); exact HO_4.out) hb); have n1_ := Aside0.mk (Kd.R_below (by (with_reducible repeat (first | apply Kd.R_alloc | apply Kd.R_drewN | apply Kd.R_drew)); exact HO_10.out) hb); have n2_ := Aside0.mk (below_step (by repeat (first | (with_reducible first | exact HB.out | apply below_alloc | apply pw_below_drewN | apply below_drew1) | exact HB.out)) hb); have n3_ := Aside0.mk (hbox); have n4_ := Aside0.mk ((by rw [hg]; exact (below_size (by repeat (first | (with_reducible first | exact HB.out | apply below_alloc | apply pw_below_drewN | apply below_drew1) | exact HB.out))) : w.heap.size ≤ gb160)); have n5_ := Aside0.mk ((by rw [hg]; exact (below_size (by repeat (first | (with_reducible first | exact HB.out | apply below_alloc | apply pw_below_drewN | apply below_drew1) | exact HB.out))) : w.heap.size ≤ gb160)); clear HO_4; clear HO_10; clear HB; have HO_4 := n0_; have HO_10 := n1_; have HB := n2_; have BK160 := n3_; have GW160 := n4_; have GE160 := n5_; clear n0_ n1_ n2_ n3_ n4_ n5_; clear hb hbox hg; have hcz80_0 : w79.cell? ⟨gb160, 0, none⟩ = some (.int .u8 0) := (blk_cell BK160.out 0).trans rfl; have hcz80_1 : w79.cell? ⟨gb160, 1, none⟩ = some (.int .i64 0) := (blk_cell BK160.out 1).trans rfl; have hcz80_2 : w79.cell? ⟨gb160, 2, none⟩ = some (.string (⟨#[]⟩ : ByteArray)) := (blk_cell BK160.out 2).trans rfl; have hcz80_3 : w79.cell? ⟨gb160, 3, none⟩ = some (.bool false) := (blk_cell BK160.out 3).trans rfl; have hfz80_0 := blk_frozen BK160.out 0; have hfz80_1 := blk_frozen BK160.out 1; have hfz80_2 := blk_frozen BK160.out 2; have hfz80_3 := blk_frozen BK160.out 3) | ((with_reducible refine gate_callee (f := 22) rfl ?_); refine goesL_ (some 200) rfl rfl Tryd.func22 (by kernel_rfl) rfl #[.agg #[.int .u8 2, .int .i64 0, .string (strOfNums x10_3), .bool false]] rfl (by (try simp only [List.map_toArray, List.map_cons, List.map_nil]); first | done | rfl | (simp only [List.length_drop, List.length_take]; rfl)) ?_; (with_reducible refine (lapidaryref02_Right.calls kj56 2 0 (strOfNums x10_3) false true _ A75.out).mono ?_); rintro e w81 ⟨rfl, hb⟩; refine ⟨_, rfl, ?_⟩; have n0_ := Aside0.mk (Kd.R_below (by (with_reducible repeat (first | apply Kd.R_alloc | apply Kd.R_drewN | apply Kd.R_drew)); exact (Kd.R_mono (Kd.R_far (p := ⟨gb160, 3, none⟩) (Kd.R_far (p := ⟨gb160, 2, none⟩) (Kd.R_far (p := ⟨gb160, 1, none⟩) (Kd.R_far (p := ⟨gb160, 0, none⟩) (Kd.R_types HO_4.out BK160.out (by decide)) (fun _ hk => hk.2) (.int .u8 2)) (fun _ hk => hk.2) (.int .i64 0)) (fun _ hk => hk.2) (.string (strOfNums x10_3))) (fun _ hk => hk.2) (.bool false)) (fun _ h_ => h_.1))) hb); have n1_ := Aside0.mk (Kd.R_below (by (with_reducible repeat (first | apply Kd.R_alloc | apply Kd.R_drewN | apply Kd.R_drew)); exact (Kd.R_mono (Kd.R_far (p := ⟨gb160, 3, none⟩) (Kd.R_far (p := ⟨gb160, 2, none⟩) (Kd.R_far (p := ⟨gb160, 1, none⟩) (Kd.R_far (p := ⟨gb160, 0, none⟩) (Kd.R_types HO_10.out BK160.out (by decide)) (fun _ hk => hk.2) (.int .u8 2)) (fun _ hk => hk.2) (.int .i64 0)) (fun _ hk => hk.2) (.string (strOfNums x10_3))) (fun _ hk => hk.2) (.bool false)) (fun _ h_ => h_.1))) hb); have n2_ := Aside0.mk (blk_below (g := gb160) (o := .cells #[.int .u8 2, .int .i64 0, .string (strOfNums x10_3), .bool false] 53 (0, 0)) (by (with_reducible repeat (first | refine blk_drewN ?_ _ | refine blk_drew ?_ | refine blk_alloc ?_ _)); refine blk_put (cs := #[.int .u8 2, .int .i64 0, .string (strOfNums x10_3), .bool false]) ?_ 3 _ rfl; (with_reducible repeat (first | refine blk_drewN ?_ _ | refine blk_drew ?_ | refine blk_alloc ?_ _)); refine blk_put (cs := #[.int .u8 2, .int .i64 0, .string (⟨#[]⟩ : ByteArray), .bool false]) ?_ 2 _ rfl; (with_reducible repeat (first | refine blk_drewN ?_ _ | refine blk_drew ?_ | refine blk_alloc ?_ _)); refine blk_put (cs := #[.int .u8 2, .int .i64 0, .string (⟨#[]⟩ : ByteArray), .bool false]) ?_ 1 _ rfl; (with_reducible repeat (first | refine blk_drewN ?_ _ | refine blk_drew ?_ | refine blk_alloc ?_ _)); refine blk_put (cs := #[.int .u8 0, .int .i64 0, .string (⟨#[]⟩ : ByteArray), .bool false]) ?_ 0 _ rfl; (with_reducible repeat (first | refine blk_drewN ?_ _ | refine blk_drew ?_ | refine blk_alloc ?_ _)); exact BK160.out) hb); have n3_ := Aside0.mk (below_step (by repeat (first | (with_reducible first | exact HB.out | apply below_alloc | apply pw_below_drewN | apply below_drew1 | refine below_set ?_ GE160.out) | exact HB.out)) hb); clear HO_4; clear HO_10; clear BK160; clear HB; have HO_4 := n0_; have HO_10 := n1_; have BK160 := n2_; have HB := n3_; clear n0_ n1_ n2_ n3_; (try clear hb); (try clear hb2); (try clear hk); (try clear hi); have hcz82_0 : w81.cell? ⟨gb160, 0, none⟩ = some (.int .u8 2) := (blk_cell BK160.out 0).trans rfl; have hcz82_1 : w81.cell? ⟨gb160, 1, none⟩ = some (.int .i64 0) := (blk_cell BK160.out 1).trans rfl; have hcz82_2 : w81.cell? ⟨gb160, 2, none⟩ = some (.string (strOfNums x10_3)) := (blk_cell BK160.out 2).trans rfl; have hcz82_3 : w81.cell? ⟨gb160, 3, none⟩ = some (.bool false) := (blk_cell BK160.out 3).trans rfl; have hfz82_0 := blk_frozen BK160.out 0; have hfz82_1 := blk_frozen BK160.out 1; have hfz82_2 := blk_frozen BK160.out 2; have hfz82_3 := blk_frozen BK160.out 3) | ((with_reducible refine gate_builtin (b := .append) (xs := #[.tmp 205, .tmp 209]) rfl ?_); at_builtin; refine Kd.R_append k35 (w0 := w) w.heap.size rfl (.tmp 205) (.tmp 209) 27 35 (.agg #[(.int .u8 0), (.string ⟨#[]⟩), (.int .i64 0)]) 32 rfl Tryd.underlying27 info35 rfl (by decide) (by omega) u4 x4_1 (⟨3, strOfNums x10_3, 0⟩ : S35) [.int .u8 3, .string (strOfNums x10_3), .int .i64 0] (fun _ => True) (fun _ => False) rfl rfl ?aP (fun _ hk => hk.elim) ?aF ?aO ?aB ?aS ?aL ?_; (case aP => exact k35_mkM _ _ _ (⟨3, strOfNums x10_3, 0⟩ : S35)); (case aB => exact (by repeat (first | (with_reducible first | exact HB.out | apply below_alloc | apply pw_below_drewN | apply below_drew1 | refine below_set ?_ GE160.out) | exact HB.out))); (case aF => exact (fun _ _ => trivial)); (case aO => exact (by (with_reducible repeat (first | apply Kd.R_alloc | apply Kd.R_drewN | apply Kd.R_drew)); exact HO_4.out)); (case aS => exact (below_size (by repeat (first | (with_reducible first | exact HB.out | apply below_alloc | apply pw_below_drewN | apply below_drew1 | refine below_set ?_ GE160.out) | exact HB.out)))); (case aL => have := LMc77.out; omega); intro v163 w83 ho hb hg hat; rw [← Ny162.out] at ho; have n0_ := Aside0.mk (Kd.R_over' (by (with_reducible repeat (first | apply Kd.R_alloc | apply Kd.R_drewN | apply Kd.R_drew)); exact HO_10.out) (Kd.R_typed (by (with_reducible repeat (first | apply Kd.R_alloc | apply Kd.R_drewN | apply Kd.R_drew)); exact HO_4.out)) (by decide) hg); have n1_ := Aside0.mk (blk_grown (g := gb160) (o := .cells #[.int .u8 2, .int .i64 0, .string (strOfNums x10_3), .bool false] 53 (0, 0)) (by (with_reducible repeat (first | refine blk_drewN ?_ _ | refine blk_drew ?_ | refine blk_alloc ?_ _)); exact BK160.out) hg (Kd.R_ne HO_4.out BK160.out (by decide))); have n2_ := Aside0.mk (hb); have n3_ := Aside0.mk (ho); clear HO_10; clear BK160; clear HB; clear HO_4; have HO_10 := n0_; have BK160 := n1_; have HB := n2_; have HO164 := n3_; clear n0_ n1_ n2_ n3_; clear ho hb hg hat))
                                        go_roundg kj56
                                        case measure => have := HK1.out; have := HJ5.out; have := HK3.out; have := HJ56.out; omega
                                        case rel => exact ⟨(y162), (x5_3), (by first | rfl | (simp; done) | (simp [*]; done)), H', ⟨by have := HK1.out; have := HJ5.out; have := HK3.out; have := HJ56.out; omega⟩, ⟨by (with_reducible repeat (first | apply Kd.R_alloc | apply Kd.R_drewN | apply Kd.R_drew)); exact HO164.out⟩, ⟨by repeat (first | (with_reducible first | exact HB.out | apply below_alloc | apply pw_below_drewN | apply below_drew1 | refine below_set ?_ GE160.out) | exact HB.out)⟩⟩
                                      · rw [if_neg c77] at H
                                        exact absurd H (by simp)
                                    · replace c76 := Bool.eq_false_iff.mpr c76
                                      subst c76
                                      have H1 : ((lapidaryref02_Whole.f kj56 (strOfNums x10_3)).bind fun t165 => (if t165 = true then (some (([] : List (S35)), 2)) else (some (([] : List (S35)), 4)))) = some (r1, r2) := by rw [if_neg (show ¬ (false = true) by decide)] at H; exact H
                                      clear H
                                      have H := H1
                                      clear H1
                                      replace H := Option.bind_eq_some_iff.mp H
                                      obtain ⟨t165, A840, H⟩ := H
                                      replace H : (if t165 = true then (some (([] : List (S35)), 2)) else (some (([] : List (S35)), 4))) = some (r1, r2) := H
                                      have A84 := Aside0.mk A840
                                      clear A840
                                      by_cases c85 : t165 = true
                                      · subst c85
                                        have H1 : (some (([] : List (S35)), 2)) = some (r1, r2) := by rw [if_pos rfl] at H; exact H
                                        clear H
                                        have H := H1
                                        clear H1
                                        simp only [Option.some.injEq, Prod.mk.injEq] at H
                                        obtain ⟨rfl, rfl⟩ := H
                                        have hcv86 := own_string (P := Tryd.prog) Tryd.underlying39 Tryd.underlying5 Tryd.underlying9 (Kd.own_of_R HO_10.out)
                                        go_wp2_with (first | ((with_reducible refine gate_dst (N := 12) rfl ?_); refine box_event ?hg (N := 12) ?hd (cs := #[.int .u8 0, .int .i64 0, .string (⟨#[]⟩ : ByteArray), .bool false]) (t := 53) ?hr ?_; (case hd => rfl); (case hg => rfl); (case hr => first | (go_simp; done) | (go_simp; rfl)); intro gb160 hg w87 hbox hb; have n0_ := Aside0.mk (Kd.R_below (by (with_reducible repeat (first | apply Kd.R_alloc | apply Kd.R_drewN | apply Kd.R_drew)); exact HO_4.out) hb); have n1_ := Aside0.mk (Kd.R_below (by (with_reducible repeat (first | apply Kd.R_alloc | apply Kd.R_drewN | apply Kd.R_drew)); exact HO_10.out) hb); have n2_ := Aside0.mk (below_step (by repeat (first | (with_reducible first | exact HB.out | apply below_alloc | apply pw_below_drewN | apply below_drew1) | exact HB.out)) hb); have n3_ := Aside0.mk (hbox); have n4_ := Aside0.mk ((by rw [hg]; exact (below_size (by repeat (first | (with_reducible first | exact HB.out | apply below_alloc | apply pw_below_drewN | apply below_drew1) | exact HB.out))) : w.heap.size ≤ gb160)); have n5_ := Aside0.mk ((by rw [hg]; exact (below_size (by repeat (first | (with_reducible first | exact HB.out | apply below_alloc | apply pw_below_drewN | apply below_drew1) | exact HB.out))) : w.heap.size ≤ gb160)); clear HO_4; clear HO_10; clear HB; have HO_4 := n0_; have HO_10 := n1_; have HB := n2_; have BK160 := n3_; have GW160 := n4_; have GE160 := n5_; clear n0_ n1_ n2_ n3_ n4_ n5_; clear hb hbox hg; have hcz88_0 : w87.cell? ⟨gb160, 0, none⟩ = some (.int .u8 0) := (blk_cell BK160.out 0).trans rfl; have hcz88_1 : w87.cell? ⟨gb160, 1, none⟩ = some (.int .i64 0) := (blk_cell BK160.out 1).trans rfl; have hcz88_2 : w87.cell? ⟨gb160, 2, none⟩ = some (.string (⟨#[]⟩ : ByteArray)) := (blk_cell BK160.out 2).trans rfl; have hcz88_3 : w87.cell? ⟨gb160, 3, none⟩ = some (.bool false) := (blk_cell BK160.out 3).trans rfl; have hfz88_0 := blk_frozen BK160.out 0; have hfz88_1 := blk_frozen BK160.out 1; have hfz88_2 := blk_frozen BK160.out 2; have hfz88_3 := blk_frozen BK160.out 3) | ((with_reducible refine gate_callee (f := 22) rfl ?_); refine goesL_ (some 200) rfl rfl Tryd.func22 (by kernel_rfl) rfl #[.agg #[.int .u8 2, .int .i64 0, .string (strOfNums x10_3), .bool false]] rfl (by (try simp only [List.map_toArray, List.map_cons, List.map_nil]); first | done | rfl | (simp only [List.length_drop, List.length_take]; rfl)) ?_; (with_reducible refine (lapidaryref02_Right.calls kj56 2 0 (strOfNums x10_3) false false _ A75.out).mono ?_); rintro e w89 ⟨rfl, hb⟩; refine ⟨_, rfl, ?_⟩; have n0_ := Aside0.mk (Kd.R_below (by (with_reducible repeat (first | apply Kd.R_alloc | apply Kd.R_drewN | apply Kd.R_drew)); exact (Kd.R_mono (Kd.R_far (p := ⟨gb160, 3, none⟩) (Kd.R_far (p := ⟨gb160, 2, none⟩) (Kd.R_far (p := ⟨gb160, 1, none⟩) (Kd.R_far (p := ⟨gb160, 0, none⟩) (Kd.R_types HO_4.out BK160.out (by decide)) (fun _ hk => hk.2) (.int .u8 2)) (fun _ hk => hk.2) (.int .i64 0)) (fun _ hk => hk.2) (.string (strOfNums x10_3))) (fun _ hk => hk.2) (.bool false)) (fun _ h_ => h_.1))) hb); have n1_ := Aside0.mk (Kd.R_below (by (with_reducible repeat (first | apply Kd.R_alloc | apply Kd.R_drewN | apply Kd.R_drew)); exact (Kd.R_mono (Kd.R_far (p := ⟨gb160, 3, none⟩) (Kd.R_far (p := ⟨gb160, 2, none⟩) (Kd.R_far (p := ⟨gb160, 1, none⟩) (Kd.R_far (p := ⟨gb160, 0, none⟩) (Kd.R_types HO_10.out BK160.out (by decide)) (fun _ hk => hk.2) (.int .u8 2)) (fun _ hk => hk.2) (.int .i64 0)) (fun _ hk => hk.2) (.string (strOfNums x10_3))) (fun _ hk => hk.2) (.bool false)) (fun _ h_ => h_.1))) hb); have n2_ := Aside0.mk (blk_below (g := gb160) (o := .cells #[.int .u8 2, .int .i64 0, .string (strOfNums x10_3), .bool false] 53 (0, 0)) (by (with_reducible repeat (first | refine blk_drewN ?_ _ | refine blk_drew ?_ | refine blk_alloc ?_ _)); refine blk_put (cs := #[.int .u8 2, .int .i64 0, .string (strOfNums x10_3), .bool false]) ?_ 3 _ rfl; (with_reducible repeat (first | refine blk_drewN ?_ _ | refine blk_drew ?_ | refine blk_alloc ?_ _)); refine blk_put (cs := #[.int .u8 2, .int .i64 0, .string (⟨#[]⟩ : ByteArray), .bool false]) ?_ 2 _ rfl; (with_reducible repeat (first | refine blk_drewN ?_ _ | refine blk_drew ?_ | refine blk_alloc ?_ _)); refine blk_put (cs := #[.int .u8 2, .int .i64 0, .string (⟨#[]⟩ : ByteArray), .bool false]) ?_ 1 _ rfl; (with_reducible repeat (first | refine blk_drewN ?_ _ | refine blk_drew ?_ | refine blk_alloc ?_ _)); refine blk_put (cs := #[.int .u8 0, .int .i64 0, .string (⟨#[]⟩ : ByteArray), .bool false]) ?_ 0 _ rfl; (with_reducible repeat (first | refine blk_drewN ?_ _ | refine blk_drew ?_ | refine blk_alloc ?_ _)); exact BK160.out) hb); have n3_ := Aside0.mk (below_step (by repeat (first | (with_reducible first | exact HB.out | apply below_alloc | apply pw_below_drewN | apply below_drew1 | refine below_set ?_ GE160.out) | exact HB.out)) hb); clear HO_4; clear HO_10; clear BK160; clear HB; have HO_4 := n0_; have HO_10 := n1_; have BK160 := n2_; have HB := n3_; clear n0_ n1_ n2_ n3_; (try clear hb); (try clear hb2); (try clear hk); (try clear hi); have hcz90_0 : w89.cell? ⟨gb160, 0, none⟩ = some (.int .u8 2) := (blk_cell BK160.out 0).trans rfl; have hcz90_1 : w89.cell? ⟨gb160, 1, none⟩ = some (.int .i64 0) := (blk_cell BK160.out 1).trans rfl; have hcz90_2 : w89.cell? ⟨gb160, 2, none⟩ = some (.string (strOfNums x10_3)) := (blk_cell BK160.out 2).trans rfl; have hcz90_3 : w89.cell? ⟨gb160, 3, none⟩ = some (.bool false) := (blk_cell BK160.out 3).trans rfl; have hfz90_0 := blk_frozen BK160.out 0; have hfz90_1 := blk_frozen BK160.out 1; have hfz90_2 := blk_frozen BK160.out 2; have hfz90_3 := blk_frozen BK160.out 3) | ((with_reducible refine gate_callee (f := 23) rfl ?_); refine goesL_ (some 204) rfl rfl Tryd.func23 (by kernel_rfl) rfl #[.string (strOfNums x10_3)] rfl (by (try simp only [List.map_toArray, List.map_cons, List.map_nil]); first | done | rfl | (simp only [List.length_drop, List.length_take]; rfl)) ?_; (with_reducible refine (lapidaryref02_Whole.calls kj56 (strOfNums x10_3) true _ A84.out).mono ?_); rintro e w' ⟨rfl, ⟨nd, rfl⟩⟩; refine ⟨_, rfl, ?_⟩))
                                        go_ret2
                                        exact ⟨_, by first | rfl | (simp [errW_none, errW_some] <;> rfl) | (simp [*, errW_none, errW_some] <;> rfl), by first | exact Kd.R_nil _ _ _ _ _ | exact Kd.N_nil _ _ _ _ _ | exact Kd.V_nil _ _ _ _ _ | exact Kd.Q_nil _ _ _ _ _ | exact Kd.S_nil _ _ _ _ _, by repeat (first | (with_reducible first | exact HB.out | apply below_alloc | apply pw_below_drewN | apply below_drew1 | refine below_set ?_ GE160.out) | exact HB.out)⟩
                                      · replace c85 := Bool.eq_false_iff.mpr c85
                                        subst c85
                                        have H1 : (some (([] : List (S35)), 4)) = some (r1, r2) := by rw [if_neg (show ¬ (false = true) by decide)] at H; exact H
                                        clear H
                                        have H := H1
                                        clear H1
                                        simp only [Option.some.injEq, Prod.mk.injEq] at H
                                        obtain ⟨rfl, rfl⟩ := H
                                        have hcv91 := own_string (P := Tryd.prog) Tryd.underlying39 Tryd.underlying5 Tryd.underlying9 (Kd.own_of_R HO_10.out)
                                        go_wp2_with (first | ((with_reducible refine gate_dst (N := 12) rfl ?_); refine box_event ?hg (N := 12) ?hd (cs := #[.int .u8 0, .int .i64 0, .string (⟨#[]⟩ : ByteArray), .bool false]) (t := 53) ?hr ?_; (case hd => rfl); (case hg => rfl); (case hr => first | (go_simp; done) | (go_simp; rfl)); intro gb160 hg w92 hbox hb; have n0_ := Aside0.mk (Kd.R_below (by (with_reducible repeat (first | apply Kd.R_alloc | apply Kd.R_drewN | apply Kd.R_drew)); exact HO_4.out) hb); have n1_ := Aside0.mk (Kd.R_below (by (with_reducible repeat (first | apply Kd.R_alloc | apply Kd.R_drewN | apply Kd.R_drew)); exact HO_10.out) hb); have n2_ := Aside0.mk (below_step (by repeat (first | (with_reducible first | exact HB.out | apply below_alloc | apply pw_below_drewN | apply below_drew1) | exact HB.out)) hb); have n3_ := Aside0.mk (hbox); have n4_ := Aside0.mk ((by rw [hg]; exact (below_size (by repeat (first | (with_reducible first | exact HB.out | apply below_alloc | apply pw_below_drewN | apply below_drew1) | exact HB.out))) : w.heap.size ≤ gb160)); have n5_ := Aside0.mk ((by rw [hg]; exact (below_size (by repeat (first | (with_reducible first | exact HB.out | apply below_alloc | apply pw_below_drewN | apply below_drew1) | exact HB.out))) : w.heap.size ≤ gb160)); clear HO_4; clear HO_10; clear HB; have HO_4 := n0_; have HO_10 := n1_; have HB := n2_; have BK160 := n3_; have GW160 := n4_; have GE160 := n5_; clear n0_ n1_ n2_ n3_ n4_ n5_; clear hb hbox hg; have hcz93_0 : w92.cell? ⟨gb160, 0, none⟩ = some (.int .u8 0) := (blk_cell BK160.out 0).trans rfl; have hcz93_1 : w92.cell? ⟨gb160, 1, none⟩ = some (.int .i64 0) := (blk_cell BK160.out 1).trans rfl; have hcz93_2 : w92.cell? ⟨gb160, 2, none⟩ = some (.string (⟨#[]⟩ : ByteArray)) := (blk_cell BK160.out 2).trans rfl; have hcz93_3 : w92.cell? ⟨gb160, 3, none⟩ = some (.bool false) := (blk_cell BK160.out 3).trans rfl; have hfz93_0 := blk_frozen BK160.out 0; have hfz93_1 := blk_frozen BK160.out 1; have hfz93_2 := blk_frozen BK160.out 2; have hfz93_3 := blk_frozen BK160.out 3) | ((with_reducible refine gate_callee (f := 22) rfl ?_); refine goesL_ (some 200) rfl rfl Tryd.func22 (by kernel_rfl) rfl #[.agg #[.int .u8 2, .int .i64 0, .string (strOfNums x10_3), .bool false]] rfl (by (try simp only [List.map_toArray, List.map_cons, List.map_nil]); first | done | rfl | (simp only [List.length_drop, List.length_take]; rfl)) ?_; (with_reducible refine (lapidaryref02_Right.calls kj56 2 0 (strOfNums x10_3) false false _ A75.out).mono ?_); rintro e w94 ⟨rfl, hb⟩; refine ⟨_, rfl, ?_⟩; have n0_ := Aside0.mk (Kd.R_below (by (with_reducible repeat (first | apply Kd.R_alloc | apply Kd.R_drewN | apply Kd.R_drew)); exact (Kd.R_mono (Kd.R_far (p := ⟨gb160, 3, none⟩) (Kd.R_far (p := ⟨gb160, 2, none⟩) (Kd.R_far (p := ⟨gb160, 1, none⟩) (Kd.R_far (p := ⟨gb160, 0, none⟩) (Kd.R_types HO_4.out BK160.out (by decide)) (fun _ hk => hk.2) (.int .u8 2)) (fun _ hk => hk.2) (.int .i64 0)) (fun _ hk => hk.2) (.string (strOfNums x10_3))) (fun _ hk => hk.2) (.bool false)) (fun _ h_ => h_.1))) hb); have n1_ := Aside0.mk (Kd.R_below (by (with_reducible repeat (first | apply Kd.R_alloc | apply Kd.R_drewN | apply Kd.R_drew)); exact (Kd.R_mono (Kd.R_far (p := ⟨gb160, 3, none⟩) (Kd.R_far (p := ⟨gb160, 2, none⟩) (Kd.R_far (p := ⟨gb160, 1, none⟩) (Kd.R_far (p := ⟨gb160, 0, none⟩) (Kd.R_types HO_10.out BK160.out (by decide)) (fun _ hk => hk.2) (.int .u8 2)) (fun _ hk => hk.2) (.int .i64 0)) (fun _ hk => hk.2) (.string (strOfNums x10_3))) (fun _ hk => hk.2) (.bool false)) (fun _ h_ => h_.1))) hb); have n2_ := Aside0.mk (blk_below (g := gb160) (o := .cells #[.int .u8 2, .int .i64 0, .string (strOfNums x10_3), .bool false] 53 (0, 0)) (by (with_reducible repeat (first | refine blk_drewN ?_ _ | refine blk_drew ?_ | refine blk_alloc ?_ _)); refine blk_put (cs := #[.int .u8 2, .int .i64 0, .string (strOfNums x10_3), .bool false]) ?_ 3 _ rfl; (with_reducible repeat (first | refine blk_drewN ?_ _ | refine blk_drew ?_ | refine blk_alloc ?_ _)); refine blk_put (cs := #[.int .u8 2, .int .i64 0, .string (⟨#[]⟩ : ByteArray), .bool false]) ?_ 2 _ rfl; (with_reducible repeat (first | refine blk_drewN ?_ _ | refine blk_drew ?_ | refine blk_alloc ?_ _)); refine blk_put (cs := #[.int .u8 2, .int .i64 0, .string (⟨#[]⟩ : ByteArray), .bool false]) ?_ 1 _ rfl; (with_reducible repeat (first | refine blk_drewN ?_ _ | refine blk_drew ?_ | refine blk_alloc ?_ _)); refine blk_put (cs := #[.int .u8 0, .int .i64 0, .string (⟨#[]⟩ : ByteArray), .bool false]) ?_ 0 _ rfl; (with_reducible repeat (first | refine blk_drewN ?_ _ | refine blk_drew ?_ | refine blk_alloc ?_ _)); exact BK160.out) hb); have n3_ := Aside0.mk (below_step (by repeat (first | (with_reducible first | exact HB.out | apply below_alloc | apply pw_below_drewN | apply below_drew1 | refine below_set ?_ GE160.out) | exact HB.out)) hb); clear HO_4; clear HO_10; clear BK160; clear HB; have HO_4 := n0_; have HO_10 := n1_; have BK160 := n2_; have HB := n3_; clear n0_ n1_ n2_ n3_; (try clear hb); (try clear hb2); (try clear hk); (try clear hi); have hcz95_0 : w94.cell? ⟨gb160, 0, none⟩ = some (.int .u8 2) := (blk_cell BK160.out 0).trans rfl; have hcz95_1 : w94.cell? ⟨gb160, 1, none⟩ = some (.int .i64 0) := (blk_cell BK160.out 1).trans rfl; have hcz95_2 : w94.cell? ⟨gb160, 2, none⟩ = some (.string (strOfNums x10_3)) := (blk_cell BK160.out 2).trans rfl; have hcz95_3 : w94.cell? ⟨gb160, 3, none⟩ = some (.bool false) := (blk_cell BK160.out 3).trans rfl; have hfz95_0 := blk_frozen BK160.out 0; have hfz95_1 := blk_frozen BK160.out 1; have hfz95_2 := blk_frozen BK160.out 2; have hfz95_3 := blk_frozen BK160.out 3) | ((with_reducible refine gate_callee (f := 23) rfl ?_); refine goesL_ (some 204) rfl rfl Tryd.func23 (by kernel_rfl) rfl #[.string (strOfNums x10_3)] rfl (by (try simp only [List.map_toArray, List.map_cons, List.map_nil]); first | done | rfl | (simp only [List.length_drop, List.length_take]; rfl)) ?_; (with_reducible refine (lapidaryref02_Whole.calls kj56 (strOfNums x10_3) false _ A84.out).mono ?_); rintro e w' ⟨rfl, ⟨nd, rfl⟩⟩; refine ⟨_, rfl, ?_⟩))
                                        go_ret2
                                        exact ⟨_, by first | rfl | (simp [errW_none, errW_some] <;> rfl) | (simp [*, errW_none, errW_some] <;> rfl), by first | exact Kd.R_nil _ _ _ _ _ | exact Kd.N_nil _ _ _ _ _ | exact Kd.V_nil _ _ _ _ _ | exact Kd.Q_nil _ _ _ _ _ | exact Kd.S_nil _ _ _ _ _, by repeat (first | (with_reducible first | exact HB.out | apply below_alloc | apply pw_below_drewN | apply below_drew1 | refine below_set ?_ GE160.out) | exact HB.out)⟩
                                  · replace c74 := Bool.eq_false_iff.mpr c74
                                    subst c74
                                    have H1 : (some (([] : List (S35)), 4)) = some (r1, r2) := by rw [if_neg (show ¬ (false = true) by decide)] at H; exact H
                                    clear H
                                    have H := H1
                                    clear H1
                                    simp only [Option.some.injEq, Prod.mk.injEq] at H
                                    obtain ⟨rfl, rfl⟩ := H
                                    go_wp2
                                    go_ret2
                                    exact ⟨_, by first | rfl | (simp [errW_none, errW_some] <;> rfl) | (simp [*, errW_none, errW_some] <;> rfl), by first | exact Kd.R_nil _ _ _ _ _ | exact Kd.N_nil _ _ _ _ _ | exact Kd.V_nil _ _ _ _ _ | exact Kd.Q_nil _ _ _ _ _ | exact Kd.S_nil _ _ _ _ _, by repeat (first | (with_reducible first | exact HB.out | apply below_alloc | apply pw_below_drewN | apply below_drew1) | exact HB.out)⟩
                      · rw [if_neg c56] at H
                        have c56b0 : ((bt a0 x5_1) == 39) = false := beq_eq_false_iff_ne.mpr c56
                        have c56b1 : ((bt a0 x5_1) != 39) = true := bne_iff_ne.mpr c56
                        have HC96 := Aside0.mk H
                        clear H
                        go_upto_region 8 with (first | ((with_reducible refine gate_callee (f := 18) rfl ?_); refine goesL_ (some 91) rfl rfl Tryd.func18 (by kernel_rfl) rfl #[.int .u8 (bt a0 x5_1)] rfl (by (try simp only [List.map_toArray, List.map_cons, List.map_nil]); first | done | rfl | (simp only [List.length_drop, List.length_take]; rfl)) ?_; (with_reducible refine (lapidaryref14_letter.calls (bt a0 x5_1) false _ A11.out).mono ?_); rintro e w' ⟨rfl, ⟨nd, rfl⟩⟩; refine ⟨_, rfl, ?_⟩) | ((with_reducible refine gate_callee (f := 19) rfl ?_); refine goesL_ (some 121) rfl rfl Tryd.func19 (by kernel_rfl) rfl #[.int .u8 (bt a0 x5_1)] rfl (by (try simp only [List.map_toArray, List.map_cons, List.map_nil]); first | done | rfl | (simp only [List.length_drop, List.length_take]; rfl)) ?_; (with_reducible refine (lapidaryref14_digit.calls (bt a0 x5_1) false _ A35.out).mono ?_); rintro e w' ⟨rfl, ⟨nd, rfl⟩⟩; refine ⟨_, rfl, ?_⟩))
                        (try simp only [Act.put, List.setIfInBounds_toArray, List.set_cons_zero, List.set_cons_succ])
                        go_cut [57] (fun v57 wc => ∃ (kq : Nat) (x57_95 : Bool), v57 = .bool x57_95 ∧ Aside0 (lapidaryref14_Split.j6 kq a0 x4_1 x5_1 (bt a0 x5_1) x5_1 x57_95 = some (r1, r2)) ∧ Aside0 (kq ≤ kj5) ∧ Aside0 (Kd.R k35 35 wc w.heap.size (fun _ => True) u4 x4_1) ∧ Aside0 (Below w.heap.size w wc))
                        case first => as_aux_lemma =>
                          have H := HC96.out
                          clear HC96
                          by_cases c97 : (wrap64 (x5_1 + 1)) < (a0.size : Int)
                          · rw [if_pos c97] at H
                            have c97b0 : decide ((wrap64 (x5_1 + 1)) < (a0.size : Int)) = true := decide_eq_true c97
                            clear c97
                            (first | rw [c97b0] | (simp only [i64_w, i32_w]; rw [c97b0]) | skip)
                            by_cases c98 : (bt a0 x5_1) = 60
                            · rw [if_pos c98] at H
                              have c98b0 : ((bt a0 x5_1) == 60) = true := beq_iff_eq.mpr c98
                              have c98b1 : ((bt a0 x5_1) != 60) = false := bne_eq_false_iff_eq.mpr c98
                              clear c98
                              obtain ⟨ji99, hji99⟩ : ∃ j_ : Int, (wrap64 (x5_1 + 1)) = j_ := ⟨_, rfl⟩
                              replace H : (if 0 ≤ (ji99) then (if (bt a0 (ji99)) = 61 then (lapidaryref14_Split.j6 kj5 a0 x4_1 x5_1 (bt a0 x5_1) x5_1 true) else (if (bt a0 (ji99)) = 62 then (lapidaryref14_Split.j6 kj5 a0 x4_1 x5_1 (bt a0 x5_1) x5_1 true) else (if (bt a0 x5_1) = 62 then (lapidaryref14_Split.j6 kj5 a0 x4_1 x5_1 (bt a0 x5_1) x5_1 ((bt a0 (ji99)) == 61)) else (lapidaryref14_Split.j6 kj5 a0 x4_1 x5_1 (bt a0 x5_1) x5_1 false)))) else (none)) = some (r1, r2) := by first | (rw [hji99] at H; exact H) | (simp only [hji99] at H ⊢; exact H)
                              (try rw [hji99] at c97b0)
                              have hji99w : (IntKind.i64.wrap (x5_1 + 1)) = ji99 := (i64_w _).trans hji99
                              by_cases c100 : 0 ≤ (ji99)
                              · rw [if_pos c100] at H
                                have c100b0 : decide (0 ≤ (ji99)) = true := decide_eq_true c100
                                clear c100
                                by_cases c102 : (bt a0 (ji99)) = 61
                                · rw [if_pos c102] at H
                                  have c102b0 : ((bt a0 (ji99)) == 61) = true := beq_iff_eq.mpr c102
                                  have c102b1 : ((bt a0 (ji99)) != 61) = false := bne_eq_false_iff_eq.mpr c102
                                  clear c102
                                  have H' := Aside0.mk H
                                  clear H
                                  have p101 : 0 ≤ ((ji99) : Int) := of_decide_eq_true (by first | (with_reducible assumption) | assumption)
                                  have q101 : (ji99) < (a0.size : Int) := of_decide_eq_true (by first | (with_reducible assumption) | assumption)
                                  have hx101 := bt_at a0 (ji99)
                                  replace p101 := eq_true p101
                                  replace q101 := eq_true q101
                                  go_wp2
                                  go_meet
                                  case rel => exact ⟨_, (true), (by first | rfl | (simp; done) | (simp [*]; done)), H', ⟨by have := HK1.out; have := HJ5.out; first | omega | exact Nat.le_refl _⟩, ⟨by (with_reducible repeat (first | apply Kd.R_alloc | apply Kd.R_drewN | apply Kd.R_drew)); exact HO_4.out⟩, ⟨by repeat (first | (with_reducible first | exact HB.out | apply below_alloc | apply pw_below_drewN | apply below_drew1) | exact HB.out)⟩⟩
                                · rw [if_neg c102] at H
                                  have c102b0 : ((bt a0 (ji99)) == 61) = false := beq_eq_false_iff_ne.mpr c102
                                  have c102b1 : ((bt a0 (ji99)) != 61) = true := bne_iff_ne.mpr c102
                                  by_cases c104 : (bt a0 (ji99)) = 62
                                  · rw [if_pos c104] at H
                                    have c104b0 : ((bt a0 (ji99)) == 62) = true := beq_iff_eq.mpr c104
                                    have c104b1 : ((bt a0 (ji99)) != 62) = false := bne_eq_false_iff_eq.mpr c104
                                    clear c104
                                    have H' := Aside0.mk H
                                    clear H
                                    have p101 : 0 ≤ ((ji99) : Int) := of_decide_eq_true (by first | (with_reducible assumption) | assumption)
                                    have q101 : (ji99) < (a0.size : Int) := of_decide_eq_true (by first | (with_reducible assumption) | assumption)
                                    have hx101 := bt_at a0 (ji99)
                                    replace p101 := eq_true p101
                                    replace q101 := eq_true q101
                                    have p103 : 0 ≤ ((ji99) : Int) := of_decide_eq_true (by first | (with_reducible assumption) | assumption)
                                    have q103 : (ji99) < (a0.size : Int) := of_decide_eq_true (by first | (with_reducible assumption) | assumption)
                                    have hx103 := bt_at a0 (ji99)
                                    replace p103 := eq_true p103
                                    replace q103 := eq_true q103
                                    go_wp2
                                    go_meet
                                    case rel => exact ⟨_, (true), (by first | rfl | (simp; done) | (simp [*]; done)), H', ⟨by have := HK1.out; have := HJ5.out; first | omega | exact Nat.le_refl _⟩, ⟨by (with_reducible repeat (first | apply Kd.R_alloc | apply Kd.R_drewN | apply Kd.R_drew)); exact HO_4.out⟩, ⟨by repeat (first | (with_reducible first | exact HB.out | apply below_alloc | apply pw_below_drewN | apply below_drew1) | exact HB.out)⟩⟩
                                  · rw [if_neg c104] at H
                                    have c104b0 : ((bt a0 (ji99)) == 62) = false := beq_eq_false_iff_ne.mpr c104
                                    have c104b1 : ((bt a0 (ji99)) != 62) = true := bne_iff_ne.mpr c104
                                    by_cases c105 : (bt a0 x5_1) = 62
                                    · exact absurd (c105.symm.trans (beq_iff_eq.mp c98b0)) (by decide)
                                    · rw [if_neg c105] at H
                                      have c105b0 : ((bt a0 x5_1) == 62) = false := beq_eq_false_iff_ne.mpr c105
                                      have c105b1 : ((bt a0 x5_1) != 62) = true := bne_iff_ne.mpr c105
                                      have H' := Aside0.mk H
                                      clear H
                                      have p101 : 0 ≤ ((ji99) : Int) := of_decide_eq_true (by first | (with_reducible assumption) | assumption)
                                      have q101 : (ji99) < (a0.size : Int) := of_decide_eq_true (by first | (with_reducible assumption) | assumption)
                                      have hx101 := bt_at a0 (ji99)
                                      replace p101 := eq_true p101
                                      replace q101 := eq_true q101
                                      have p103 : 0 ≤ ((ji99) : Int) := of_decide_eq_true (by first | (with_reducible assumption) | assumption)
                                      have q103 : (ji99) < (a0.size : Int) := of_decide_eq_true (by first | (with_reducible assumption) | assumption)
                                      have hx103 := bt_at a0 (ji99)
                                      replace p103 := eq_true p103
                                      replace q103 := eq_true q103
                                      go_wp2
                                      go_meet
                                      case rel => exact ⟨_, (false), (by first | rfl | (simp; done) | (simp [*]; done)), H', ⟨by have := HK1.out; have := HJ5.out; first | omega | exact Nat.le_refl _⟩, ⟨by (with_reducible repeat (first | apply Kd.R_alloc | apply Kd.R_drewN | apply Kd.R_drew)); exact HO_4.out⟩, ⟨by repeat (first | (with_reducible first | exact HB.out | apply below_alloc | apply pw_below_drewN | apply below_drew1) | exact HB.out)⟩⟩
                              · rw [if_neg c100] at H
                                exact absurd H (by simp)
                            · rw [if_neg c98] at H
                              have c98b0 : ((bt a0 x5_1) == 60) = false := beq_eq_false_iff_ne.mpr c98
                              have c98b1 : ((bt a0 x5_1) != 60) = true := bne_iff_ne.mpr c98
                              by_cases c107 : (bt a0 x5_1) = 62
                              · rw [if_pos c107] at H
                                have c107b0 : ((bt a0 x5_1) == 62) = true := beq_iff_eq.mpr c107
                                have c107b1 : ((bt a0 x5_1) != 62) = false := bne_eq_false_iff_eq.mpr c107
                                clear c107
                                obtain ⟨ji108, hji108⟩ : ∃ j_ : Int, (wrap64 (x5_1 + 1)) = j_ := ⟨_, rfl⟩
                                replace H : (if 0 ≤ (ji108) then (lapidaryref14_Split.j6 kj5 a0 x4_1 x5_1 (bt a0 x5_1) x5_1 ((bt a0 (ji108)) == 61)) else (none)) = some (r1, r2) := by first | (rw [hji108] at H; exact H) | (simp only [hji108] at H ⊢; exact H)
                                (try rw [hji108] at c97b0)
                                have hji108w : (IntKind.i64.wrap (x5_1 + 1)) = ji108 := (i64_w _).trans hji108
                                by_cases c109 : 0 ≤ (ji108)
                                · rw [if_pos c109] at H
                                  have c109b0 : decide (0 ≤ (ji108)) = true := decide_eq_true c109
                                  clear c109
                                  have H' := Aside0.mk H
                                  clear H
                                  have p110 : 0 ≤ ((ji108) : Int) := of_decide_eq_true (by first | (with_reducible assumption) | assumption)
                                  have q110 : (ji108) < (a0.size : Int) := of_decide_eq_true (by first | (with_reducible assumption) | assumption)
                                  have hx110 := bt_at a0 (ji108)
                                  replace p110 := eq_true p110
                                  replace q110 := eq_true q110
                                  go_wp2
                                  go_meet
                                  case rel => exact ⟨_, (((bt a0 (ji108)) == 61)), (by first | rfl | (simp; done) | (simp only [← hji108] <;> (first | rfl | simp)) | (simp [*]; done)), H', ⟨by have := HK1.out; have := HJ5.out; first | omega | exact Nat.le_refl _⟩, ⟨by (with_reducible repeat (first | apply Kd.R_alloc | apply Kd.R_drewN | apply Kd.R_drew)); exact HO_4.out⟩, ⟨by repeat (first | (with_reducible first | exact HB.out | apply below_alloc | apply pw_below_drewN | apply below_drew1) | exact HB.out)⟩⟩
                                · rw [if_neg c109] at H
                                  exact absurd H (by simp)
                              · rw [if_neg c107] at H
                                have c107b0 : ((bt a0 x5_1) == 62) = false := beq_eq_false_iff_ne.mpr c107
                                have c107b1 : ((bt a0 x5_1) != 62) = true := bne_iff_ne.mpr c107
                                have H' := Aside0.mk H
                                clear H
                                go_wp2
                                go_meet
                                case rel => exact ⟨_, (false), (by first | rfl | (simp; done) | (simp [*]; done)), H', ⟨by have := HK1.out; have := HJ5.out; first | omega | exact Nat.le_refl _⟩, ⟨by (with_reducible repeat (first | apply Kd.R_alloc | apply Kd.R_drewN | apply Kd.R_drew)); exact HO_4.out⟩, ⟨by repeat (first | (with_reducible first | exact HB.out | apply below_alloc | apply pw_below_drewN | apply below_drew1) | exact HB.out)⟩⟩
                          · rw [if_neg c97] at H
                            have c97b0 : decide ((wrap64 (x5_1 + 1)) < (a0.size : Int)) = false := decide_eq_false c97
                            clear c97
                            (first | rw [c97b0] | (simp only [i64_w, i32_w]; rw [c97b0]) | skip)
                            have H' := Aside0.mk H
                            clear H
                            go_wp2
                            go_meet
                            case rel => exact ⟨_, (false), (by first | rfl | (simp; done) | (simp [*]; done)), H', ⟨by have := HK1.out; have := HJ5.out; first | omega | exact Nat.le_refl _⟩, ⟨by (with_reducible repeat (first | apply Kd.R_alloc | apply Kd.R_drewN | apply Kd.R_drew)); exact HO_4.out⟩, ⟨by repeat (first | (with_reducible first | exact HB.out | apply below_alloc | apply pw_below_drewN | apply below_drew1) | exact HB.out)⟩⟩
                        case rest => as_aux_lemma =>
                          clear HC96
                          try clear c1
                          try clear p1
                          try clear q1
                          try clear hx1
                          try clear c2
                          try clear c2b0
                          try clear c2b1
                          try clear p2
                          try clear c3
                          try clear c3b0
                          try clear p3
                          try clear q3
                          try clear hx3
                          try clear c4
                          try clear c4b0
                          try clear c5
                          try clear p5
                          try clear q5
                          try clear hx5
                          try clear c6
                          try clear p6
                          try clear q6
                          try clear hx6
                          try clear c7
                          try clear c7b0
                          try clear c7b1
                          try clear p7
                          try clear q7
                          try clear hx7
                          try clear hcv7
                          try clear c8
                          try clear c8b0
                          try clear c8b1
                          try clear hcv8
                          try clear c9
                          try clear c9b0
                          try clear c9b1
                          try clear hcv9
                          try clear c10
                          try clear p10
                          try clear q10
                          try clear hx10
                          try clear c11
                          try clear p11
                          try clear q11
                          try clear hx11
                          try clear c12
                          try clear c13
                          try clear c13b0
                          try clear c14
                          try clear c14b0
                          try clear p15
                          try clear q15
                          try clear hx15
                          try clear c17
                          try clear c18
                          try clear p18
                          try clear q18
                          try clear hx18
                          try clear c19
                          try clear c20
                          try clear c21
                          try clear c21b0
                          try clear c21b1
                          try clear c22
                          try clear c22b0
                          try clear c22b1
                          try clear c23
                          try clear c23b0
                          try clear c23b1
                          try clear c25
                          try clear c28
                          try clear c28b0
                          try clear c28b1
                          try clear c29
                          try clear c29b0
                          try clear c29b1
                          try clear c30
                          try clear c30b0
                          try clear c30b1
                          try clear c32
                          try clear c36
                          try clear c37
                          try clear c37b0
                          try clear c38
                          try clear c38b0
                          try clear p39
                          try clear q39
                          try clear hx39
                          try clear c41
                          try clear c42
                          try clear c42b0
                          try clear c42b1
                          try clear c43
                          try clear c43b0
                          try clear c43b1
                          try clear c44
                          try clear c44b0
                          try clear c44b1
                          try clear c46
                          try clear c46b0
                          try clear c46b1
                          try clear c47
                          try clear c49
                          try clear c49b0
                          try clear c49b1
                          try clear c50
                          try clear c50b0
                          try clear c50b1
                          try clear c51
                          try clear c51b0
                          try clear c51b1
                          try clear c53
                          try clear c53b0
                          try clear c53b1
                          try clear c54
                          try clear c56
                          try clear c56b0
                          try clear c56b1
                          try clear c58
                          try clear c58b0
                          try clear c59
                          try clear c60
                          try clear c60b0
                          try clear c61
                          try clear c61b0
                          try clear p62
                          try clear q62
                          try clear hx62
                          try clear c63
                          try clear c63b0
                          try clear c63b1
                          try clear c64
                          try clear c64b0
                          try clear p64
                          try clear c66
                          try clear c66b0
                          try clear p67
                          try clear q67
                          try clear hx67
                          try clear c68
                          try clear c68b0
                          try clear c68b1
                          try clear c69
                          try clear p71
                          try clear q71
                          try clear hx71
                          try clear c72
                          try clear c74
                          try clear c76
                          try clear c77
                          try clear hcv78
                          try clear c85
                          try clear hcv86
                          try clear hcv91
                          try clear c97
                          try clear c97b0
                          try clear c98
                          try clear c98b0
                          try clear c98b1
                          try clear c100
                          try clear c100b0
                          try clear p101
                          try clear q101
                          try clear hx101
                          try clear c102
                          try clear c102b0
                          try clear c102b1
                          try clear p103
                          try clear q103
                          try clear hx103
                          try clear c104
                          try clear c104b0
                          try clear c104b1
                          try clear c105
                          try clear c105b0
                          try clear c105b1
                          try clear p106
                          try clear q106
                          try clear hx106
                          try clear c107
                          try clear c107b0
                          try clear c107b1
                          try clear c109
                          try clear c109b0
                          try clear p110
                          try clear q110
                          try clear hx110
                          try clear hcz80_0
                          try clear hcz80_1
                          try clear hcz80_2
                          try clear hcz80_3
                          try clear hcz82_0
                          try clear hcz82_1
                          try clear hcz82_2
                          try clear hcz82_3
                          try clear hcz88_0
                          try clear hcz88_1
                          try clear hcz88_2
                          try clear hcz88_3
                          try clear hcz90_0
                          try clear hcz90_1
                          try clear hcz90_2
                          try clear hcz90_3
                          try clear hcz93_0
                          try clear hcz93_1
                          try clear hcz93_2
                          try clear hcz93_3
                          try clear hcz95_0
                          try clear hcz95_1
                          try clear hcz95_2
                          try clear hcz95_3
                          try clear hfz80_0
                          try clear hfz80_1
                          try clear hfz80_2
                          try clear hfz80_3
                          try clear hfz82_0
                          try clear hfz82_1
                          try clear hfz82_2
                          try clear hfz82_3
                          try clear hfz88_0
                          try clear hfz88_1
                          try clear hfz88_2
                          try clear hfz88_3
                          try clear hfz90_0
                          try clear hfz90_1
                          try clear hfz90_2
                          try clear hfz90_3
                          try clear hfz93_0
                          try clear hfz93_1
                          try clear hfz93_2
                          try clear hfz93_3
                          try clear hfz95_0
                          try clear hfz95_1
                          try clear hfz95_2
                          try clear hfz95_3
                          try clear p1
                          try clear p101
                          try clear p103
                          try clear p106
                          try clear p110
                          try clear p15
                          try clear p18
                          try clear p2
                          try clear p3
                          try clear p39
                          try clear p5
                          try clear p6
                          try clear p62
                          try clear p67
                          try clear p71
                          try clear q1
                          try clear q101
                          try clear q103
                          try clear q106
                          try clear q110
                          try clear q15
                          try clear q18
                          try clear q3
                          try clear q39
                          try clear q5
                          try clear q62
                          try clear q67
                          try clear q71
                          obtain ⟨kq, x57_95, rfl, HA, HJ95, HO_4, HB⟩ := hcut
                          cases kq with
                          | zero => exact absurd HA.out (by simp [lapidaryref14_Split.j6])
                          | succ kj95 =>
                            have H := HA.out
                            clear HA
                            simp only [lapidaryref14_Split.j6] at H
                            by_cases c111 : x57_95 = true
                            · subst c111
                              have H1 : (if 0 ≤ x5_1 then (if x5_1 ≤ (wrap64 (x5_1 + 2)) then (if (wrap64 (x5_1 + 2)) ≤ (a0.size : Int) then (if x4_1.length < 4398046511104 then (lapidaryref14_Split.l0 kj95 a0 (x4_1 ++ [(⟨4, a0.extract (x5_1 : Int).toNat ((wrap64 (x5_1 + 2)) : Int).toNat, 0⟩ : S35)]) (wrap64 (x5_1 + 2))) else (none)) else (none)) else (none)) else (none)) = some (r1, r2) := by rw [if_pos rfl] at H; exact H
                              clear H
                              have H := H1
                              clear H1
                              by_cases c112 : 0 ≤ x5_1
                              · rw [if_pos c112] at H
                                have c112b0 := eq_true c112
                                have c112b1 : decide (0 ≤ x5_1) = true := decide_eq_true c112
                                clear c112
                                by_cases c113 : x5_1 ≤ (wrap64 (x5_1 + 2))
                                · rw [if_pos c113] at H
                                  have c113b0 := eq_true c113
                                  have c113b1 : decide (x5_1 ≤ (wrap64 (x5_1 + 2))) = true := decide_eq_true c113
                                  by_cases c114 : (wrap64 (x5_1 + 2)) ≤ (a0.size : Int)
                                  · rw [if_pos c114] at H
                                    have c114b0 := eq_true c114
                                    have c114b1 : decide ((wrap64 (x5_1 + 2)) ≤ (a0.size : Int)) = true := decide_eq_true c114
                                    by_cases c115 : x4_1.length < 4398046511104
                                    · rw [if_pos c115] at H
                                      have LMc115 := Aside0.mk c115
                                      clear c115
                                      obtain ⟨y166, hy166⟩ : ∃ y_ : List (S35), y_ = (x4_1 ++ [(⟨4, a0.extract (x5_1 : Int).toNat ((wrap64 (x5_1 + 2)) : Int).toNat, 0⟩ : S35)]) := ⟨_, rfl⟩
                                      replace H : (lapidaryref14_Split.l0 kj95 a0 y166 (wrap64 (x5_1 + 2))) = some (r1, r2) := by first | (rw [hy166]; with_reducible exact H) | (have H2_ := (Option.bind_some _ _).symm.trans H; rw [hy166]; with_reducible exact H2_) | (have H2_ := (Option.bind_some _ _).symm.trans H; with_reducible exact H2_) | with_reducible exact H | (rw [hy166]; exact H) | exact H
                                      have Ny166 := Aside0.mk hy166
                                      clear hy166
                                      have H' := Aside0.mk H
                                      clear H
                                      go_wp2_with (first | ((with_reducible refine gate_builtin (b := .append) (xs := #[.tmp 64, .tmp 70]) rfl ?_); at_builtin; refine Kd.R_append k35 (w0 := w) w.heap.size rfl (.tmp 64) (.tmp 70) 27 35 (.agg #[(.int .u8 0), (.string ⟨#[]⟩), (.int .i64 0)]) 32 rfl Tryd.underlying27 info35 rfl (by decide) (by omega) u4 x4_1 (⟨4, a0.extract (x5_1 : Int).toNat ((wrap64 (x5_1 + 2)) : Int).toNat, 0⟩ : S35) [.int .u8 4, .string (a0.extract (x5_1 : Int).toNat ((wrap64 (x5_1 + 2)) : Int).toNat), .int .i64 0] (fun _ => True) (fun _ => False) rfl rfl ?aP (fun _ hk => hk.elim) ?aF ?aO ?aB ?aS ?aL ?_; (case aP => exact k35_mkM _ _ _ (⟨4, a0.extract (x5_1 : Int).toNat ((wrap64 (x5_1 + 2)) : Int).toNat, 0⟩ : S35)); (case aB => exact (by repeat (first | (with_reducible first | exact HB.out | apply below_alloc | apply pw_below_drewN | apply below_drew1) | exact HB.out))); (case aF => exact (fun _ _ => trivial)); (case aO => exact (by (with_reducible repeat (first | apply Kd.R_alloc | apply Kd.R_drewN | apply Kd.R_drew)); exact HO_4.out)); (case aS => exact (below_size (by repeat (first | (with_reducible first | exact HB.out | apply below_alloc | apply pw_below_drewN | apply below_drew1) | exact HB.out)))); (case aL => have := LMc115.out; omega); intro v167 w116 ho hb hg hat; rw [← Ny166.out] at ho; have n0_ := Aside0.mk (hb); have n1_ := Aside0.mk (ho); clear HB; clear HO_4; have HB := n0_; have HO168 := n1_; clear n0_ n1_; clear ho hb hg hat))
                                      go_roundg kj95
                                      case measure => have := HK1.out; have := HJ5.out; have := HJ95.out; omega
                                      case rel => exact ⟨(y166), (wrap64 (x5_1 + 2)), (by first | rfl | (simp; done) | (simp [*]; done)), H', ⟨by have := HK1.out; have := HJ5.out; have := HJ95.out; omega⟩, ⟨by (with_reducible repeat (first | apply Kd.R_alloc | apply Kd.R_drewN | apply Kd.R_drew)); exact HO168.out⟩, ⟨by repeat (first | (with_reducible first | exact HB.out | apply below_alloc | apply pw_below_drewN | apply below_drew1) | exact HB.out)⟩⟩
                                    · rw [if_neg c115] at H
                                      exact absurd H (by simp)
                                  · rw [if_neg c114] at H
                                    exact absurd H (by simp)
                                · rw [if_neg c113] at H
                                  exact absurd H (by simp)
                              · rw [if_neg c112] at H
                                exact absurd H (by simp)
                            · replace c111 := Bool.eq_false_iff.mpr c111
                              subst c111
                              have H1 : ((lapidaryref14_single.f kj95 (bt a0 x5_1)).bind fun t169 => (if t169 = true then (if 0 ≤ x5_1 then (if x5_1 ≤ (wrap64 (x5_1 + 1)) then (if (wrap64 (x5_1 + 1)) ≤ (a0.size : Int) then (if x4_1.length < 4398046511104 then (lapidaryref14_Split.l0 kj95 a0 (x4_1 ++ [(⟨4, a0.extract (x5_1 : Int).toNat ((wrap64 (x5_1 + 1)) : Int).toNat, 0⟩ : S35)]) (wrap64 (x5_1 + 1))) else (none)) else (none)) else (none)) else (none)) else (some (([] : List (S35)), 4)))) = some (r1, r2) := by rw [if_neg (show ¬ (false = true) by decide)] at H; exact H
                              clear H
                              have H := H1
                              clear H1
                              replace H := Option.bind_eq_some_iff.mp H
                              obtain ⟨t169, A1170, H⟩ := H
                              replace H : (if t169 = true then (if 0 ≤ x5_1 then (if x5_1 ≤ (wrap64 (x5_1 + 1)) then (if (wrap64 (x5_1 + 1)) ≤ (a0.size : Int) then (if x4_1.length < 4398046511104 then (lapidaryref14_Split.l0 kj95 a0 (x4_1 ++ [(⟨4, a0.extract (x5_1 : Int).toNat ((wrap64 (x5_1 + 1)) : Int).toNat, 0⟩ : S35)]) (wrap64 (x5_1 + 1))) else (none)) else (none)) else (none)) else (none)) else (some (([] : List (S35)), 4))) = some (r1, r2) := H
                              have A117 := Aside0.mk A1170
                              clear A1170
                              by_cases c118 : t169 = true
                              · subst c118
                                have H1 : (if 0 ≤ x5_1 then (if x5_1 ≤ (wrap64 (x5_1 + 1)) then (if (wrap64 (x5_1 + 1)) ≤ (a0.size : Int) then (if x4_1.length < 4398046511104 then (lapidaryref14_Split.l0 kj95 a0 (x4_1 ++ [(⟨4, a0.extract (x5_1 : Int).toNat ((wrap64 (x5_1 + 1)) : Int).toNat, 0⟩ : S35)]) (wrap64 (x5_1 + 1))) else (none)) else (none)) else (none)) else (none)) = some (r1, r2) := by rw [if_pos rfl] at H; exact H
                                clear H
                                have H := H1
                                clear H1
                                by_cases c119 : 0 ≤ x5_1
                                · rw [if_pos c119] at H
                                  have c119b0 := eq_true c119
                                  have c119b1 : decide (0 ≤ x5_1) = true := decide_eq_true c119
                                  clear c119
                                  by_cases c120 : x5_1 ≤ (wrap64 (x5_1 + 1))
                                  · rw [if_pos c120] at H
                                    have c120b0 := eq_true c120
                                    have c120b1 : decide (x5_1 ≤ (wrap64 (x5_1 + 1))) = true := decide_eq_true c120
                                    by_cases c121 : (wrap64 (x5_1 + 1)) ≤ (a0.size : Int)
                                    · rw [if_pos c121] at H
                                      have c121b0 := eq_true c121
                                      have c121b1 : decide ((wrap64 (x5_1 + 1)) ≤ (a0.size : Int)) = true := decide_eq_true c121
                                      by_cases c122 : x4_1.length < 4398046511104
                                      · rw [if_pos c122] at H
                                        have LMc122 := Aside0.mk c122
                                        clear c122
                                        obtain ⟨y170, hy170⟩ : ∃ y_ : List (S35), y_ = (x4_1 ++ [(⟨4, a0.extract (x5_1 : Int).toNat ((wrap64 (x5_1 + 1)) : Int).toNat, 0⟩ : S35)]) := ⟨_, rfl⟩
                                        replace H : (lapidaryref14_Split.l0 kj95 a0 y170 (wrap64 (x5_1 + 1))) = some (r1, r2) := by first | (rw [hy170]; with_reducible exact H) | (have H2_ := (Option.bind_some _ _).symm.trans H; rw [hy170]; with_reducible exact H2_) | (have H2_ := (Option.bind_some _ _).symm.trans H; with_reducible exact H2_) | with_reducible exact H | (rw [hy170]; exact H) | exact H
                                        have Ny170 := Aside0.mk hy170
                                        clear hy170
                                        have H' := Aside0.mk H
                                        clear H
                                        go_wp2_with (first | ((with_reducible refine gate_callee (f := 24) rfl ?_); refine goesL_ (some 61) rfl rfl Tryd.func24 (by kernel_rfl) rfl #[.int .u8 (bt a0 x5_1)] rfl (by (try simp only [List.map_toArray, List.map_cons, List.map_nil]); first | done | rfl | (simp only [List.length_drop, List.length_take]; rfl)) ?_; (with_reducible refine (lapidaryref14_single.calls kj95 (bt a0 x5_1) true _ A117.out).mono ?_); rintro e w' ⟨rfl, ⟨nd, rfl⟩⟩; refine ⟨_, rfl, ?_⟩) | ((with_reducible refine gate_builtin (b := .append) (xs := #[.tmp 64, .tmp 70]) rfl ?_); at_builtin; refine Kd.R_append k35 (w0 := w) w.heap.size rfl (.tmp 64) (.tmp 70) 27 35 (.agg #[(.int .u8 0), (.string ⟨#[]⟩), (.int .i64 0)]) 32 rfl Tryd.underlying27 info35 rfl (by decide) (by omega) u4 x4_1 (⟨4, a0.extract (x5_1 : Int).toNat ((wrap64 (x5_1 + 1)) : Int).toNat, 0⟩ : S35) [.int .u8 4, .string (a0.extract (x5_1 : Int).toNat ((wrap64 (x5_1 + 1)) : Int).toNat), .int .i64 0] (fun _ => True) (fun _ => False) rfl rfl ?aP (fun _ hk => hk.elim) ?aF ?aO ?aB ?aS ?aL ?_; (case aP => exact k35_mkM _ _ _ (⟨4, a0.extract (x5_1 : Int).toNat ((wrap64 (x5_1 + 1)) : Int).toNat, 0⟩ : S35)); (case aB => exact (by repeat (first | (with_reducible first | exact HB.out | apply below_alloc | apply pw_below_drewN | apply below_drew1) | exact HB.out))); (case aF => exact (fun _ _ => trivial)); (case aO => exact (by (with_reducible repeat (first | apply Kd.R_alloc | apply Kd.R_drewN | apply Kd.R_drew)); exact HO_4.out)); (case aS => exact (below_size (by repeat (first | (with_reducible first | exact HB.out | apply below_alloc | apply pw_below_drewN | apply below_drew1) | exact HB.out)))); (case aL => have := LMc122.out; omega); intro v171 w123 ho hb hg hat; rw [← Ny170.out] at ho; have n0_ := Aside0.mk (hb); have n1_ := Aside0.mk (ho); clear HB; clear HO_4; have HB := n0_; have HO172 := n1_; clear n0_ n1_; clear ho hb hg hat))
                                        go_roundg kj95
                                        case measure => have := HK1.out; have := HJ5.out; have := HJ95.out; omega
                                        case rel => exact ⟨(y170), (wrap64 (x5_1 + 1)), (by first | rfl | (simp; done) | (simp [*]; done)), H', ⟨by have := HK1.out; have := HJ5.out; have := HJ95.out; omega⟩, ⟨by (with_reducible repeat (first | apply Kd.R_alloc | apply Kd.R_drewN | apply Kd.R_drew)); exact HO172.out⟩, ⟨by repeat (first | (with_reducible first | exact HB.out | apply below_alloc | apply pw_below_drewN | apply below_drew1) | exact HB.out)⟩⟩
                                      · rw [if_neg c122] at H
                                        exact absurd H (by simp)
                                    · rw [if_neg c121] at H
                                      exact absurd H (by simp)
                                  · rw [if_neg c120] at H
                                    exact absurd H (by simp)
                                · rw [if_neg c119] at H
                                  exact absurd H (by simp)
                              · replace c118 := Bool.eq_false_iff.mpr c118
                                subst c118
                                have H1 : (some (([] : List (S35)), 4)) = some (r1, r2) := by rw [if_neg (show ¬ (false = true) by decide)] at H; exact H
                                clear H
                                have H := H1
                                clear H1
                                simp only [Option.some.injEq, Prod.mk.injEq] at H
                                obtain ⟨rfl, rfl⟩ := H
                                go_wp2_with (first | ((with_reducible refine gate_callee (f := 24) rfl ?_); refine goesL_ (some 61) rfl rfl Tryd.func24 (by kernel_rfl) rfl #[.int .u8 (bt a0 x5_1)] rfl (by (try simp only [List.map_toArray, List.map_cons, List.map_nil]); first | done | rfl | (simp only [List.length_drop, List.length_take]; rfl)) ?_; (with_reducible refine (lapidaryref14_single.calls kj95 (bt a0 x5_1) false _ A117.out).mono ?_); rintro e w' ⟨rfl, ⟨nd, rfl⟩⟩; refine ⟨_, rfl, ?_⟩))
                                go_ret2
                                exact ⟨_, by first | rfl | (simp [errW_none, errW_some] <;> rfl) | (simp [*, errW_none, errW_some] <;> rfl), by first | exact Kd.R_nil _ _ _ _ _ | exact Kd.N_nil _ _ _ _ _ | exact Kd.V_nil _ _ _ _ _ | exact Kd.Q_nil _ _ _ _ _ | exact Kd.S_nil _ _ _ _ _, by repeat (first | (with_reducible first | exact HB.out | apply below_alloc | apply pw_below_drewN | apply below_drew1) | exact HB.out)⟩
          · rw [if_neg c4] at H
            exact absurd H (by simp)
        · rw [if_neg c3] at H
          have c3b0 : decide (x5_1 < (a0.size : Int)) = false := decide_eq_false c3
          clear c3
          simp only [Option.some.injEq, Prod.mk.injEq] at H
          obtain ⟨rfl, rfl⟩ := H
          go_wp2
          go_ret2
          exact ⟨_, by first | rfl | (simp [errW_none, errW_some] <;> rfl) | (simp [*, errW_none, errW_some] <;> rfl), by (with_reducible repeat (first | apply Kd.R_alloc | apply Kd.R_drewN | apply Kd.R_drew)); exact HO_4.out, by repeat (first | (with_reducible first | exact HB.out | apply below_alloc | apply pw_below_drewN | apply below_drew1) | exact HB.out)⟩

end Go.Proofs.YtfbikpddpdkllaaDoor.Lx
