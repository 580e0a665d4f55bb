/-
  The lexer's reference and laws as plain functions, and that the Go text comes to their answers: written by a program (the kit's print, turned so that contracts made by hand stand in for what it does not take). Conditions: none beyond each theorem's own.
-/
import Derived.Test.YtfbikpddpdkllaaDoorLx0
namespace Go.Proofs.YtfbikpddpdkllaaDoor.Lx
open Go.RowKit Go.Proofs.YtfbikpddpdkllaaDoorW.PrintWords Go.Proofs.YtfbikpddpdkllaaDoorW.PrintLast Go.Proofs.YtfbikpddpdkllaaDoorW.PrintMore
attribute [local go_sem] max2_int min2_int max_two min_two max_three min_three max_four min_four   -- for this text's walks alone
set_option linter.unusedVariables false
set_option linter.unusedSimpArgs false

/-! ### lapidaryref14_single: function 24 -/
def lapidaryref14_single.l0 : Nat → Int → Int → Option (Bool)
  | 0, _, _ => none
  | k + 1, x0, x3 => if x3 < 13 then (if 0 ≤ x3 then (if (bt (⟨#[40, 41, 44, 59, 42, 43, 45, 47, 37, 61, 60, 62, 46]⟩ : ByteArray) x3) = x0 then (some true) else (lapidaryref14_single.l0 k x0 (wrap64 (x3 + 1)))) else (none)) else (some false)
def lapidaryref14_single.f (k : Nat) (a0 : Int) : Option (Bool) := lapidaryref14_single.l0 k a0 0
theorem lapidaryref14_single.mono_l : ∀ k, (∀ y0 y1, LeO (lapidaryref14_single.l0 k y0 y1) (lapidaryref14_single.l0 (k + 1) y0 y1))
  | 0 => fun _ _ r h => by simp [lapidaryref14_single.l0] at h
  | k + 1 => by
    have ih0 := lapidaryref14_single.mono_l k
    · intro y0 y1
      unfold lapidaryref14_single.l0
      repeat' first
      | (with_reducible exact ih0 _ _)
      | (with_reducible exact LeO.refl _)
      | (with_reducible exact LeO.none _)
      | (with_reducible refine LeO.ite ?_ ?_)
      | (with_reducible refine LeO.bind ?_ (fun _ => ?_))
      | exact ih0 _ _
      | exact LeO.none _
      | refine LeO.ite ?_ ?_
      | refine LeO.bind ?_ (fun _ => ?_)
theorem lapidaryref14_single.mono : ∀ a0 k, LeO (lapidaryref14_single.f k a0) (lapidaryref14_single.f (k + 1) a0) := by
  intro a0 k
  have ih0 := lapidaryref14_single.mono_l k
  unfold lapidaryref14_single.f
  repeat' first
      | (with_reducible exact ih0 _ _)
      | (with_reducible exact LeO.refl _)
      | (with_reducible exact LeO.none _)
      | (with_reducible refine LeO.ite ?_ ?_)
      | (with_reducible refine LeO.bind ?_ (fun _ => ?_))
      | exact ih0 _ _
      | exact LeO.none _
      | refine LeO.ite ?_ ?_
      | refine LeO.bind ?_ (fun _ => ?_)
set_option maxHeartbeats 8000000 in
set_option maxRecDepth 100000 in
theorem lapidaryref14_single.calls (k : Nat) (a0 : Int) (r : Bool) (w : World) (h : lapidaryref14_single.f k a0 = some r) :
    Calls Tryd.prog 24 #[.int .u8 a0] w fun e w' => e = .returned (.bool r) ∧ Drawn0 w w' := by
  have H : (lapidaryref14_single.l0 k a0 0) = some r := h
  clear h
  have H' := Aside0.mk H
  clear H
  go_enter Tryd.func24, Tryd.ntmps24
  go_wp2
  go_loopg [3] k (fun kq v3 w' => ∃ (x3_1 : Int), v3 = .int .i64 x3_1 ∧ Aside0 (lapidaryref14_single.l0 kq a0 x3_1 = some r) ∧ Aside0 (kq ≤ k) ∧ Drawn0 w w')
  case atStart => exact ⟨(0), (by first | rfl | (simp; done) | (simp [*]; done)), H', ⟨Nat.le_refl _⟩, by repeat (first | exact Drawn0.refl _ | apply Drawn0.step)⟩
  case round =>
    clear H'
    obtain ⟨x3_1, rfl, HA, HK1, ⟨m1, rfl⟩⟩ := hrel
    cases gk with
    | zero => exact absurd HA.out (by simp [lapidaryref14_single.l0])
    | succ k1 =>
      have H := HA.out
      clear HA
      simp only [lapidaryref14_single.l0] at H
      by_cases c2 : x3_1 < 13
      · rw [if_pos c2] at H
        have c2b0 : decide (x3_1 < 13) = true := decide_eq_true c2
        clear c2
        by_cases c3 : 0 ≤ x3_1
        · rw [if_pos c3] at H
          have c3b0 : decide (0 ≤ x3_1) = true := decide_eq_true c3
          clear c3
          by_cases c5 : (bt (⟨#[40, 41, 44, 59, 42, 43, 45, 47, 37, 61, 60, 62, 46]⟩ : ByteArray) x3_1) = a0
          · rw [if_pos c5] at H
            have c5b0 : ((bt (⟨#[40, 41, 44, 59, 42, 43, 45, 47, 37, 61, 60, 62, 46]⟩ : ByteArray) x3_1) == a0) = true := beq_iff_eq.mpr c5
            have c5b1 : ((bt (⟨#[40, 41, 44, 59, 42, 43, 45, 47, 37, 61, 60, 62, 46]⟩ : ByteArray) x3_1) != a0) = false := bne_eq_false_iff_eq.mpr c5
            clear c5
            obtain rfl := Option.some.inj H
            have p4 : 0 ≤ (x3_1 : Int) := of_decide_eq_true (by first | (with_reducible assumption) | assumption)
            have q4 : x3_1 < (13 : Int) := of_decide_eq_true (by first | (with_reducible assumption) | assumption)
            have hx4 := bt_at (⟨#[40, 41, 44, 59, 42, 43, 45, 47, 37, 61, 60, 62, 46]⟩ : ByteArray) x3_1
            replace p4 := eq_true p4
            replace q4 := eq_true q4
            go_wp2
            go_ret
            exact ⟨by first | rfl | (simp; done) | (simp [*]; done), by repeat (first | exact Drawn0.refl _ | apply Drawn0.step)⟩
          · rw [if_neg c5] at H
            have c5b0 : ((bt (⟨#[40, 41, 44, 59, 42, 43, 45, 47, 37, 61, 60, 62, 46]⟩ : ByteArray) x3_1) == a0) = false := beq_eq_false_iff_ne.mpr c5
            have c5b1 : ((bt (⟨#[40, 41, 44, 59, 42, 43, 45, 47, 37, 61, 60, 62, 46]⟩ : ByteArray) x3_1) != a0) = true := bne_iff_ne.mpr c5
            have H' := Aside0.mk H
            clear H
            have p4 : 0 ≤ (x3_1 : Int) := of_decide_eq_true (by first | (with_reducible assumption) | assumption)
            have q4 : x3_1 < (13 : Int) := of_decide_eq_true (by first | (with_reducible assumption) | assumption)
            have hx4 := bt_at (⟨#[40, 41, 44, 59, 42, 43, 45, 47, 37, 61, 60, 62, 46]⟩ : ByteArray) x3_1
            replace p4 := eq_true p4
            replace q4 := eq_true q4
            go_wp2
            go_roundg k1
            case measure => have := HK1.out; omega
            case rel => exact ⟨(wrap64 (x3_1 + 1)), (by first | rfl | (simp; done) | (simp [*]; done)), H', ⟨by have := HK1.out; omega⟩, by repeat (first | exact Drawn0.refl _ | apply Drawn0.step)⟩
        · rw [if_neg c3] at H
          exact absurd H (by simp)
      · rw [if_neg c2] at H
        have c2b0 : decide (x3_1 < 13) = false := decide_eq_false c2
        clear c2
        obtain rfl := Option.some.inj H
        go_wp2
        go_ret
        exact ⟨by first | rfl | (simp; done) | (simp [*]; done), by repeat (first | exact Drawn0.refl _ | apply Drawn0.step)⟩

end Go.Proofs.YtfbikpddpdkllaaDoor.Lx
