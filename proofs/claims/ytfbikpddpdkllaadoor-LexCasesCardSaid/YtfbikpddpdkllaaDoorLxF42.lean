/-
  The lexer's reference and laws as plain functions, and that the Go text comes to their answers: written by a program (the kit's print, turned so that contracts made by hand stand in for what it does not take). Conditions: none beyond each theorem's own.
-/
import Derived.Test.YtfbikpddpdkllaaDoorLx0
import Derived.Test.YtfbikpddpdkllaaDoorLexKnown
namespace Go.Proofs.YtfbikpddpdkllaaDoor.Lx
open Go.RowKit Go.Proofs.YtfbikpddpdkllaaDoorW.PrintWords Go.Proofs.YtfbikpddpdkllaaDoorW.PrintLast Go.Proofs.YtfbikpddpdkllaaDoorW.PrintMore
attribute [local go_sem] max2_int min2_int max_two min_two max_three min_three max_four min_four   -- for this text's walks alone
set_option linter.unusedVariables false
set_option linter.unusedSimpArgs false

/-! ### lex_sign: function 42 -/
def lex_sign.j0 : Nat → ByteArray → Bool → Option (Int)
  | 0, _, _ => none
  | k + 1, x0, x8 => if x8 = true then (some 2) else (if 0 < (x0.size : Int) then ((strings_IndexByte.f (⟨#[40, 41, 44, 59, 42, 43, 45, 47, 37, 61, 60, 62, 46]⟩ : ByteArray) (bt x0 0)).bind fun t303 => (if t303 ≥ 0 then (some 1) else (some 0))) else (none))
def lex_sign.f (k : Nat) (a0 : ByteArray) : Option (Int) := if (a0.size : Int) > 1 then (if 0 ≤ 2 then (if 2 ≤ (a0.size : Int) then (if (a0.extract 0 2).toList = ([60, 61] : List UInt8) then (lex_sign.j0 k a0 ((a0.extract 0 2).toList == ([60, 61] : List UInt8))) else (if (a0.extract 0 2).toList = ([62, 61] : List UInt8) then (lex_sign.j0 k a0 ((a0.extract 0 2).toList == ([62, 61] : List UInt8))) else (lex_sign.j0 k a0 ((a0.extract 0 2).toList == ([60, 62] : List UInt8))))) else (none)) else (none)) else (if 0 < (a0.size : Int) then ((strings_IndexByte.f (⟨#[40, 41, 44, 59, 42, 43, 45, 47, 37, 61, 60, 62, 46]⟩ : ByteArray) (bt a0 0)).bind fun t304 => (if t304 ≥ 0 then (some 1) else (some 0))) else (none))
theorem lex_sign.mono_l : ∀ k, (∀ y0 y1, LeO (lex_sign.j0 k y0 y1) (lex_sign.j0 (k + 1) y0 y1))
  | 0 => fun _ _ r h => by simp [lex_sign.j0] at h
  | k + 1 => by
    have ih0 := lex_sign.mono_l k
    · intro y0 y1
      unfold lex_sign.j0
      repeat' first
      | (with_reducible exact ih0 _ _)
      | (with_reducible exact LeO.refl _)
      | (with_reducible exact LeO.none _)
      | (with_reducible refine LeO.ite ?_ ?_)
      | (with_reducible refine LeO.bind ?_ (fun _ => ?_))
      | exact ih0 _ _
      | exact LeO.none _
      | refine LeO.ite ?_ ?_
      | refine LeO.bind ?_ (fun _ => ?_)
theorem lex_sign.mono : ∀ a0 k, LeO (lex_sign.f k a0) (lex_sign.f (k + 1) a0) := by
  intro a0 k
  have ih0 := lex_sign.mono_l k
  unfold lex_sign.f
  repeat' first
      | (with_reducible exact ih0 _ _)
      | (with_reducible exact LeO.refl _)
      | (with_reducible exact LeO.none _)
      | (with_reducible refine LeO.ite ?_ ?_)
      | (with_reducible refine LeO.bind ?_ (fun _ => ?_))
      | exact ih0 _ _
      | exact LeO.none _
      | refine LeO.ite ?_ ?_
      | refine LeO.bind ?_ (fun _ => ?_)
set_option maxHeartbeats 8000000 in
set_option maxRecDepth 100000 in
theorem lex_sign.calls (k : Nat) (a0 : ByteArray) (r : Int) (w : World) (h : lex_sign.f k a0 = some r) :
    Calls Tryd.prog 42 #[.string a0] w fun e w' => e = .returned (.int .i64 r) ∧ Drawn0 w w' := by
  have H : (if (a0.size : Int) > 1 then (if 0 ≤ 2 then (if 2 ≤ (a0.size : Int) then (if (a0.extract 0 2).toList = ([60, 61] : List UInt8) then (lex_sign.j0 k a0 ((a0.extract 0 2).toList == ([60, 61] : List UInt8))) else (if (a0.extract 0 2).toList = ([62, 61] : List UInt8) then (lex_sign.j0 k a0 ((a0.extract 0 2).toList == ([62, 61] : List UInt8))) else (lex_sign.j0 k a0 ((a0.extract 0 2).toList == ([60, 62] : List UInt8))))) else (none)) else (none)) else (if 0 < (a0.size : Int) then ((strings_IndexByte.f (⟨#[40, 41, 44, 59, 42, 43, 45, 47, 37, 61, 60, 62, 46]⟩ : ByteArray) (bt a0 0)).bind fun t304 => (if t304 ≥ 0 then (some 1) else (some 0))) else (none))) = some r := h
  clear h
  by_cases c2 : (a0.size : Int) > 1
  · rw [if_pos c2] at H
    have c2b0 : decide (1 < (a0.size : Int)) = true := decide_eq_true c2
    have c2b1 : decide (1 < a0.size) = true := decide_eq_true (by omega)
    clear c2
    by_cases c3 : 0 ≤ 2
    · rw [if_pos c3] at H
      have c3b0 := eq_true c3
      have c3b1 : decide (0 ≤ 2) = true := decide_eq_true c3
      clear c3
      by_cases c4 : 2 ≤ (a0.size : Int)
      · rw [if_pos c4] at H
        have c4b0 := eq_true c4
        have c4b1 : decide (2 ≤ (a0.size : Int)) = true := decide_eq_true c4
        clear c4
        have HC5 := Aside0.mk H
        clear H
        go_enter Tryd.func42, Tryd.ntmps42
        go_upto_if 8 with (fail)
        go_cut [8] (fun v8 wc => ∃ (kq : Nat) (x8_4 : Bool), v8 = .bool x8_4 ∧ Aside0 (lex_sign.j0 kq a0 x8_4 = some r) ∧ Aside0 (kq ≤ k) ∧ Drawn0 w wc)
        case first =>
          have H := HC5.out
          clear HC5
          by_cases c6 : (a0.extract 0 2).toList = ([60, 61] : List UInt8)
          · rw [if_pos c6] at H
            have c6b0 : ((a0.extract 0 2).toList == ([60, 61] : List UInt8)) = true := beq_iff_eq.mpr c6
            have c6b1 : ((a0.extract 0 2).toList != ([60, 61] : List UInt8)) = false := bne_eq_false_iff_eq.mpr c6
            clear c6
            (first | rw [c6b0] | (simp only [i64_w, i32_w]; rw [c6b0]) | skip)
            have H' := Aside0.mk H
            clear H
            go_wp2
            go_meet
            case rel => exact ⟨_, (((a0.extract 0 2).toList == ([60, 61] : List UInt8))), (by first | rfl | (simp; done) | (simp [*]; done)), H', ⟨by first | omega | exact Nat.le_refl _⟩, by repeat (first | exact Drawn0.refl _ | apply Drawn0.step)⟩
          · rw [if_neg c6] at H
            have c6b0 : ((a0.extract 0 2).toList == ([60, 61] : List UInt8)) = false := beq_eq_false_iff_ne.mpr c6
            have c6b1 : ((a0.extract 0 2).toList != ([60, 61] : List UInt8)) = true := bne_iff_ne.mpr c6
            (first | rw [c6b0] | (simp only [i64_w, i32_w]; rw [c6b0]) | skip)
            by_cases c7 : (a0.extract 0 2).toList = ([62, 61] : List UInt8)
            · rw [if_pos c7] at H
              have c7b0 : ((a0.extract 0 2).toList == ([62, 61] : List UInt8)) = true := beq_iff_eq.mpr c7
              have c7b1 : ((a0.extract 0 2).toList != ([62, 61] : List UInt8)) = false := bne_eq_false_iff_eq.mpr c7
              clear c7
              have H' := Aside0.mk H
              clear H
              go_wp2
              go_meet
              case rel => exact ⟨_, (((a0.extract 0 2).toList == ([62, 61] : List UInt8))), (by first | rfl | (simp; done) | (simp [*]; done)), H', ⟨by first | omega | exact Nat.le_refl _⟩, by repeat (first | exact Drawn0.refl _ | apply Drawn0.step)⟩
            · rw [if_neg c7] at H
              have c7b0 : ((a0.extract 0 2).toList == ([62, 61] : List UInt8)) = false := beq_eq_false_iff_ne.mpr c7
              have c7b1 : ((a0.extract 0 2).toList != ([62, 61] : List UInt8)) = true := bne_iff_ne.mpr c7
              have H' := Aside0.mk H
              clear H
              go_wp2
              go_meet
              case rel => exact ⟨_, (((a0.extract 0 2).toList == ([60, 62] : List UInt8))), (by first | rfl | (simp; done) | (simp [*]; done)), H', ⟨by first | omega | exact Nat.le_refl _⟩, by repeat (first | exact Drawn0.refl _ | apply Drawn0.step)⟩
        case rest =>
          clear HC5
          try clear c2
          try clear c2b0
          try clear c2b1
          try clear p2
          try clear c3
          try clear c3b0
          try clear c3b1
          try clear c4
          try clear c4b0
          try clear c4b1
          try clear c6
          try clear c6b0
          try clear c6b1
          try clear c7
          try clear c7b0
          try clear c7b1
          obtain ⟨kq, x8_4, rfl, HA, HJ4, ⟨mc4, rfl⟩⟩ := hcut
          cases kq with
          | zero => exact absurd HA.out (by simp [lex_sign.j0])
          | succ kj4 =>
            have H := HA.out
            clear HA
            simp only [lex_sign.j0] at H
            by_cases c8 : x8_4 = true
            · subst c8
              have H1 : (some 2) = some r := by rw [if_pos rfl] at H; exact H
              clear H
              have H := H1
              clear H1
              obtain rfl := Option.some.inj H
              go_wp2
              go_ret
              exact ⟨by first | rfl | (simp; done) | (simp [*]; done), by repeat (first | exact Drawn0.refl _ | apply Drawn0.step)⟩
            · replace c8 := Bool.eq_false_iff.mpr c8
              subst c8
              have H1 : (if 0 < (a0.size : Int) then ((strings_IndexByte.f (⟨#[40, 41, 44, 59, 42, 43, 45, 47, 37, 61, 60, 62, 46]⟩ : ByteArray) (bt a0 0)).bind fun t303 => (if t303 ≥ 0 then (some 1) else (some 0))) else (none)) = some r := by rw [if_neg (show ¬ (false = true) by decide)] at H; exact H
              clear H
              have H := H1
              clear H1
              by_cases c9 : 0 < (a0.size : Int)
              · rw [if_pos c9] at H
                have c9b0 : decide (0 < (a0.size : Int)) = true := decide_eq_true c9
                have c9b1 : decide (0 < a0.size) = true := decide_eq_true (by omega)
                clear c9
                replace H := Option.bind_eq_some_iff.mp H
                obtain ⟨t303, A110, H⟩ := H
                replace H : (if t303 ≥ 0 then (some 1) else (some 0)) = some r := H
                have A11 := Aside0.mk A110
                clear A110
                by_cases c12 : t303 ≥ 0
                · rw [if_pos c12] at H
                  have c12b0 : decide (0 ≤ t303) = true := decide_eq_true c12
                  clear c12
                  obtain rfl := Option.some.inj H
                  have p10 : 0 ≤ (0 : Int) := (by omega)
                  have q10 : 0 < a0.size := (by have : (0 : Int) < (a0.size : Int) := of_decide_eq_true (by first | (with_reducible assumption) | assumption); omega)
                  have hx10 : ∀ h : 0 < a0.size, ((a0[0]'h).toNat : Int) = bt a0 0 := bt_at a0 0
                  clear p10
                  have qi10 : (0 < (a0.size : Int)) = True := eq_true (of_decide_eq_true (by first | (with_reducible assumption) | assumption))
                  replace q10 := eq_true q10
                  go_wp2_with (first | ((with_reducible refine gate_callee (f := 16) rfl ?_); refine goesL_ (some 14) rfl rfl Tryd.func16 (by kernel_rfl) rfl #[.string (⟨#[40, 41, 44, 59, 42, 43, 45, 47, 37, 61, 60, 62, 46]⟩ : ByteArray), .int .u8 (bt a0 0)] rfl (by (try simp only [List.map_toArray, List.map_cons, List.map_nil]); first | done | rfl | (simp only [List.length_drop, List.length_take]; rfl)) ?_; (with_reducible refine (strings_IndexByte.calls (⟨#[40, 41, 44, 59, 42, 43, 45, 47, 37, 61, 60, 62, 46]⟩ : ByteArray) (bt a0 0) t303 _ A11.out).mono ?_); rintro e w' ⟨rfl, ⟨nd, rfl⟩⟩; refine ⟨_, rfl, ?_⟩))
                  go_ret
                  exact ⟨by first | rfl | (simp; done) | (simp [*]; done), by repeat (first | exact Drawn0.refl _ | apply Drawn0.step)⟩
                · rw [if_neg c12] at H
                  have c12b0 : decide (0 ≤ t303) = false := decide_eq_false c12
                  clear c12
                  obtain rfl := Option.some.inj H
                  have p10 : 0 ≤ (0 : Int) := (by omega)
                  have q10 : 0 < a0.size := (by have : (0 : Int) < (a0.size : Int) := of_decide_eq_true (by first | (with_reducible assumption) | assumption); omega)
                  have hx10 : ∀ h : 0 < a0.size, ((a0[0]'h).toNat : Int) = bt a0 0 := bt_at a0 0
                  clear p10
                  have qi10 : (0 < (a0.size : Int)) = True := eq_true (of_decide_eq_true (by first | (with_reducible assumption) | assumption))
                  replace q10 := eq_true q10
                  go_wp2_with (first | ((with_reducible refine gate_callee (f := 16) rfl ?_); refine goesL_ (some 14) rfl rfl Tryd.func16 (by kernel_rfl) rfl #[.string (⟨#[40, 41, 44, 59, 42, 43, 45, 47, 37, 61, 60, 62, 46]⟩ : ByteArray), .int .u8 (bt a0 0)] rfl (by (try simp only [List.map_toArray, List.map_cons, List.map_nil]); first | done | rfl | (simp only [List.length_drop, List.length_take]; rfl)) ?_; (with_reducible refine (strings_IndexByte.calls (⟨#[40, 41, 44, 59, 42, 43, 45, 47, 37, 61, 60, 62, 46]⟩ : ByteArray) (bt a0 0) t303 _ A11.out).mono ?_); rintro e w' ⟨rfl, ⟨nd, rfl⟩⟩; refine ⟨_, rfl, ?_⟩))
                  go_ret
                  exact ⟨by first | rfl | (simp; done) | (simp [*]; done), by repeat (first | exact Drawn0.refl _ | apply Drawn0.step)⟩
              · rw [if_neg c9] at H
                exact absurd H (by simp)
      · rw [if_neg c4] at H
        exact absurd H (by simp)
    · rw [if_neg c3] at H
      exact absurd H (by simp)
  · rw [if_neg c2] at H
    have c2b0 : decide (1 < (a0.size : Int)) = false := decide_eq_false c2
    have c2b1 : decide (1 < a0.size) = false := decide_eq_false (by omega)
    clear c2
    by_cases c13 : 0 < (a0.size : Int)
    · rw [if_pos c13] at H
      have c13b0 : decide (0 < (a0.size : Int)) = true := decide_eq_true c13
      have c13b1 : decide (0 < a0.size) = true := decide_eq_true (by omega)
      clear c13
      replace H := Option.bind_eq_some_iff.mp H
      obtain ⟨t304, A150, H⟩ := H
      replace H : (if t304 ≥ 0 then (some 1) else (some 0)) = some r := H
      have A15 := Aside0.mk A150
      clear A150
      by_cases c16 : t304 ≥ 0
      · rw [if_pos c16] at H
        have c16b0 : decide (0 ≤ t304) = true := decide_eq_true c16
        clear c16
        obtain rfl := Option.some.inj H
        have p14 : 0 ≤ (0 : Int) := (by omega)
        have q14 : 0 < a0.size := (by have : (0 : Int) < (a0.size : Int) := of_decide_eq_true (by first | (with_reducible assumption) | assumption); omega)
        have hx14 : ∀ h : 0 < a0.size, ((a0[0]'h).toNat : Int) = bt a0 0 := bt_at a0 0
        clear p14
        have qi14 : (0 < (a0.size : Int)) = True := eq_true (of_decide_eq_true (by first | (with_reducible assumption) | assumption))
        replace q14 := eq_true q14
        go_enter Tryd.func42, Tryd.ntmps42
        go_wp2_with (first | ((with_reducible refine gate_callee (f := 16) rfl ?_); refine goesL_ (some 14) rfl rfl Tryd.func16 (by kernel_rfl) rfl #[.string (⟨#[40, 41, 44, 59, 42, 43, 45, 47, 37, 61, 60, 62, 46]⟩ : ByteArray), .int .u8 (bt a0 0)] rfl (by (try simp only [List.map_toArray, List.map_cons, List.map_nil]); first | done | rfl | (simp only [List.length_drop, List.length_take]; rfl)) ?_; (with_reducible refine (strings_IndexByte.calls (⟨#[40, 41, 44, 59, 42, 43, 45, 47, 37, 61, 60, 62, 46]⟩ : ByteArray) (bt a0 0) t304 _ A15.out).mono ?_); rintro e w' ⟨rfl, ⟨nd, rfl⟩⟩; refine ⟨_, rfl, ?_⟩))
        go_ret
        exact ⟨by first | rfl | (simp; done) | (simp [*]; done), by repeat (first | exact Drawn0.refl _ | apply Drawn0.step)⟩
      · rw [if_neg c16] at H
        have c16b0 : decide (0 ≤ t304) = false := decide_eq_false c16
        clear c16
        obtain rfl := Option.some.inj H
        have p14 : 0 ≤ (0 : Int) := (by omega)
        have q14 : 0 < a0.size := (by have : (0 : Int) < (a0.size : Int) := of_decide_eq_true (by first | (with_reducible assumption) | assumption); omega)
        have hx14 : ∀ h : 0 < a0.size, ((a0[0]'h).toNat : Int) = bt a0 0 := bt_at a0 0
        clear p14
        have qi14 : (0 < (a0.size : Int)) = True := eq_true (of_decide_eq_true (by first | (with_reducible assumption) | assumption))
        replace q14 := eq_true q14
        go_enter Tryd.func42, Tryd.ntmps42
        go_wp2_with (first | ((with_reducible refine gate_callee (f := 16) rfl ?_); refine goesL_ (some 14) rfl rfl Tryd.func16 (by kernel_rfl) rfl #[.string (⟨#[40, 41, 44, 59, 42, 43, 45, 47, 37, 61, 60, 62, 46]⟩ : ByteArray), .int .u8 (bt a0 0)] rfl (by (try simp only [List.map_toArray, List.map_cons, List.map_nil]); first | done | rfl | (simp only [List.length_drop, List.length_take]; rfl)) ?_; (with_reducible refine (strings_IndexByte.calls (⟨#[40, 41, 44, 59, 42, 43, 45, 47, 37, 61, 60, 62, 46]⟩ : ByteArray) (bt a0 0) t304 _ A15.out).mono ?_); rintro e w' ⟨rfl, ⟨nd, rfl⟩⟩; refine ⟨_, rfl, ?_⟩))
        go_ret
        exact ⟨by first | rfl | (simp; done) | (simp [*]; done), by repeat (first | exact Drawn0.refl _ | apply Drawn0.step)⟩
    · rw [if_neg c13] at H
      exact absurd H (by simp)

end Go.Proofs.YtfbikpddpdkllaaDoor.Lx
