/-
  The lexer's reference and laws as plain functions, and that the Go text comes to their answers: written by a program (the kit's print, turned so that contracts made by hand stand in for what it does not take). Conditions: none beyond each theorem's own.
-/
import Derived.Test.YtfbikpddpdkllaaDoorLx0
import Derived.Test.YtfbikpddpdkllaaDoorLxF10
import Derived.Test.YtfbikpddpdkllaaDoorLxF9
import Derived.Test.YtfbikpddpdkllaaDoorLxF12
import Derived.Test.YtfbikpddpdkllaaDoorLxF13
namespace Go.Proofs.YtfbikpddpdkllaaDoor.Lx
open Go.RowKit Go.Proofs.YtfbikpddpdkllaaDoorW.PrintWords Go.Proofs.YtfbikpddpdkllaaDoorW.PrintLast Go.Proofs.YtfbikpddpdkllaaDoorW.PrintMore
attribute [local go_sem] max2_int min2_int max_two min_two max_three min_three max_four min_four   -- for this text's walks alone
set_option linter.unusedVariables false
set_option linter.unusedSimpArgs false

/-! ### lapidarylaw14_LexParts: function 4 -/
def lapidarylaw14_LexParts.j0 : Nat → List (S36) → List (S36) → List (S36) → Int → Bool → Option (Bool)
  | 0, _, _, _, _, _ => none
  | k + 1, x5, x7, x9, x10, x46 => if x46 = true then (some true) else (if x10 = 0 then ((lapidarylaw14_back.f k x9).bind fun t210 => (if x5.length + x7.length < 4398046511104 then ((lapidarylaw14_back.f k (x5 ++ x7)).bind fun t216 => ((lapidaryref14_Same.f k t210 t216).bind fun t219 => (some t219))) else (none))) else (some false))
def lapidarylaw14_LexParts.f (k : Nat) (a0 : ByteArray) (a1 : ByteArray) : Option (Bool) := (lapidarylaw14_awake.f k).bind fun t197 => (if t197 = true then (if 0 ≤ (mn (a0.size : Int) 500) then (if (mn (a0.size : Int) 500) ≤ (a0.size : Int) then (if 0 ≤ (mn (a1.size : Int) 500) then (if (mn (a1.size : Int) 500) ≤ (a1.size : Int) then ((lex_Split.f k (a0.extract 0 ((mn (a0.size : Int) 500) : Int).toNat)).bind fun bt198 => ((lex_Split.f k (a1.extract 0 ((mn (a1.size : Int) 500) : Int).toNat)).bind fun bt202 => (if (a0.extract 0 ((mn (a0.size : Int) 500) : Int).toNat).size + 1 ≤ 9223372036854775807 then (if ((a0.extract 0 ((mn (a0.size : Int) 500) : Int).toNat) ++ (⟨#[10]⟩ : ByteArray)).size + (a1.extract 0 ((mn (a1.size : Int) 500) : Int).toNat).size ≤ 9223372036854775807 then ((lex_Split.f k (((a0.extract 0 ((mn (a0.size : Int) 500) : Int).toNat) ++ (⟨#[10]⟩ : ByteArray)) ++ (a1.extract 0 ((mn (a1.size : Int) 500) : Int).toNat))).bind fun bt206 => (if bt198.2 = 0 then (lapidarylaw14_LexParts.j0 k bt198.1 bt202.1 bt206.1 bt206.2 (bt202.2 != 0)) else (lapidarylaw14_LexParts.j0 k bt198.1 bt202.1 bt206.1 bt206.2 true))) else (none)) else (none)))) else (none)) else (none)) else (none)) else (none)) else (some false))
theorem lapidarylaw14_LexParts.mono_l : ∀ k, (∀ y0 y1 y2 y3 y4, LeO (lapidarylaw14_LexParts.j0 k y0 y1 y2 y3 y4) (lapidarylaw14_LexParts.j0 (k + 1) y0 y1 y2 y3 y4))
  | 0 => fun _ _ _ _ _ r h => by simp [lapidarylaw14_LexParts.j0] at h
  | k + 1 => by
    have ih0 := lapidarylaw14_LexParts.mono_l k
    · intro y0 y1 y2 y3 y4
      unfold lapidarylaw14_LexParts.j0
      repeat' first
      | (with_reducible exact ih0 _ _ _ _ _)
      | (with_reducible exact lapidarylaw14_awake.mono _)
      | (with_reducible exact lapidarylaw14_back.mono _ _)
      | (with_reducible exact lapidaryref14_Same.mono _ _ _)
      | (with_reducible exact lex_Split.mono _ _)
      | (with_reducible exact LeO.refl _)
      | (with_reducible exact LeO.none _)
      | (with_reducible refine LeO.ite ?_ ?_)
      | (with_reducible refine LeO.bind ?_ (fun _ => ?_))
      | exact ih0 _ _ _ _ _
      | exact lapidarylaw14_awake.mono _
      | exact lapidarylaw14_back.mono _ _
      | exact lapidaryref14_Same.mono _ _ _
      | exact lex_Split.mono _ _
      | exact LeO.none _
      | refine LeO.ite ?_ ?_
      | refine LeO.bind ?_ (fun _ => ?_)
theorem lapidarylaw14_LexParts.mono : ∀ a0 a1 k, LeO (lapidarylaw14_LexParts.f k a0 a1) (lapidarylaw14_LexParts.f (k + 1) a0 a1) := by
  intro a0 a1 k
  have ih0 := lapidarylaw14_LexParts.mono_l k
  unfold lapidarylaw14_LexParts.f
  repeat' first
      | (with_reducible exact ih0 _ _ _ _ _)
      | (with_reducible exact lapidarylaw14_awake.mono _)
      | (with_reducible exact lapidarylaw14_back.mono _ _)
      | (with_reducible exact lapidaryref14_Same.mono _ _ _)
      | (with_reducible exact lex_Split.mono _ _)
      | (with_reducible exact LeO.refl _)
      | (with_reducible exact LeO.none _)
      | (with_reducible refine LeO.ite ?_ ?_)
      | (with_reducible refine LeO.bind ?_ (fun _ => ?_))
      | exact ih0 _ _ _ _ _
      | exact lapidarylaw14_awake.mono _
      | exact lapidarylaw14_back.mono _ _
      | exact lapidaryref14_Same.mono _ _ _
      | exact lex_Split.mono _ _
      | exact LeO.none _
      | refine LeO.ite ?_ ?_
      | refine LeO.bind ?_ (fun _ => ?_)
set_option maxHeartbeats 8000000 in
set_option maxRecDepth 100000 in
theorem lapidarylaw14_LexParts.calls (k : Nat) (a0 : ByteArray) (a1 : ByteArray) (r : Bool) (w : World) (hE : UEnv w) (h : lapidarylaw14_LexParts.f k a0 a1 = some r) :
    Calls Tryd.prog 4 #[.string a0, .string a1] w fun e w' => e = .returned (.bool r) ∧ Below w.heap.size w w' := by
  have HB := Aside0.mk (Below.refl w.heap.size w)
  have HE := Aside0.mk hE
  clear hE
  have H : ((lapidarylaw14_awake.f k).bind fun t197 => (if t197 = true then (if 0 ≤ (mn (a0.size : Int) 500) then (if (mn (a0.size : Int) 500) ≤ (a0.size : Int) then (if 0 ≤ (mn (a1.size : Int) 500) then (if (mn (a1.size : Int) 500) ≤ (a1.size : Int) then ((lex_Split.f k (a0.extract 0 ((mn (a0.size : Int) 500) : Int).toNat)).bind fun bt198 => ((lex_Split.f k (a1.extract 0 ((mn (a1.size : Int) 500) : Int).toNat)).bind fun bt202 => (if (a0.extract 0 ((mn (a0.size : Int) 500) : Int).toNat).size + 1 ≤ 9223372036854775807 then (if ((a0.extract 0 ((mn (a0.size : Int) 500) : Int).toNat) ++ (⟨#[10]⟩ : ByteArray)).size + (a1.extract 0 ((mn (a1.size : Int) 500) : Int).toNat).size ≤ 9223372036854775807 then ((lex_Split.f k (((a0.extract 0 ((mn (a0.size : Int) 500) : Int).toNat) ++ (⟨#[10]⟩ : ByteArray)) ++ (a1.extract 0 ((mn (a1.size : Int) 500) : Int).toNat))).bind fun bt206 => (if bt198.2 = 0 then (lapidarylaw14_LexParts.j0 k bt198.1 bt202.1 bt206.1 bt206.2 (bt202.2 != 0)) else (lapidarylaw14_LexParts.j0 k bt198.1 bt202.1 bt206.1 bt206.2 true))) else (none)) else (none)))) else (none)) else (none)) else (none)) else (none)) else (some false))) = some r := h
  clear h
  replace H := Option.bind_eq_some_iff.mp H
  obtain ⟨t197, A30, H⟩ := H
  replace H : (if t197 = true then (if 0 ≤ (mn (a0.size : Int) 500) then (if (mn (a0.size : Int) 500) ≤ (a0.size : Int) then (if 0 ≤ (mn (a1.size : Int) 500) then (if (mn (a1.size : Int) 500) ≤ (a1.size : Int) then ((lex_Split.f k (a0.extract 0 ((mn (a0.size : Int) 500) : Int).toNat)).bind fun bt198 => ((lex_Split.f k (a1.extract 0 ((mn (a1.size : Int) 500) : Int).toNat)).bind fun bt202 => (if (a0.extract 0 ((mn (a0.size : Int) 500) : Int).toNat).size + 1 ≤ 9223372036854775807 then (if ((a0.extract 0 ((mn (a0.size : Int) 500) : Int).toNat) ++ (⟨#[10]⟩ : ByteArray)).size + (a1.extract 0 ((mn (a1.size : Int) 500) : Int).toNat).size ≤ 9223372036854775807 then ((lex_Split.f k (((a0.extract 0 ((mn (a0.size : Int) 500) : Int).toNat) ++ (⟨#[10]⟩ : ByteArray)) ++ (a1.extract 0 ((mn (a1.size : Int) 500) : Int).toNat))).bind fun bt206 => (if bt198.2 = 0 then (lapidarylaw14_LexParts.j0 k bt198.1 bt202.1 bt206.1 bt206.2 (bt202.2 != 0)) else (lapidarylaw14_LexParts.j0 k bt198.1 bt202.1 bt206.1 bt206.2 true))) else (none)) else (none)))) else (none)) else (none)) else (none)) else (none)) else (some false)) = some r := H
  have A3 := Aside0.mk A30
  clear A30
  by_cases c4 : t197 = true
  · subst c4
    have H1 : (if 0 ≤ (mn (a0.size : Int) 500) then (if (mn (a0.size : Int) 500) ≤ (a0.size : Int) then (if 0 ≤ (mn (a1.size : Int) 500) then (if (mn (a1.size : Int) 500) ≤ (a1.size : Int) then ((lex_Split.f k (a0.extract 0 ((mn (a0.size : Int) 500) : Int).toNat)).bind fun bt198 => ((lex_Split.f k (a1.extract 0 ((mn (a1.size : Int) 500) : Int).toNat)).bind fun bt202 => (if (a0.extract 0 ((mn (a0.size : Int) 500) : Int).toNat).size + 1 ≤ 9223372036854775807 then (if ((a0.extract 0 ((mn (a0.size : Int) 500) : Int).toNat) ++ (⟨#[10]⟩ : ByteArray)).size + (a1.extract 0 ((mn (a1.size : Int) 500) : Int).toNat).size ≤ 9223372036854775807 then ((lex_Split.f k (((a0.extract 0 ((mn (a0.size : Int) 500) : Int).toNat) ++ (⟨#[10]⟩ : ByteArray)) ++ (a1.extract 0 ((mn (a1.size : Int) 500) : Int).toNat))).bind fun bt206 => (if bt198.2 = 0 then (lapidarylaw14_LexParts.j0 k bt198.1 bt202.1 bt206.1 bt206.2 (bt202.2 != 0)) else (lapidarylaw14_LexParts.j0 k bt198.1 bt202.1 bt206.1 bt206.2 true))) else (none)) else (none)))) else (none)) else (none)) else (none)) else (none)) = some r := by rw [if_pos rfl] at H; exact H
    clear H
    have H := H1
    clear H1
    obtain ⟨ji5, hji5⟩ : ∃ j_ : Int, (mn (a0.size : Int) 500) = j_ := ⟨_, rfl⟩
    replace H : (if 0 ≤ (ji5) then (if (ji5) ≤ (a0.size : Int) then (if 0 ≤ (mn (a1.size : Int) 500) then (if (mn (a1.size : Int) 500) ≤ (a1.size : Int) then ((lex_Split.f k (a0.extract 0 ((ji5) : Int).toNat)).bind fun bt198 => ((lex_Split.f k (a1.extract 0 ((mn (a1.size : Int) 500) : Int).toNat)).bind fun bt202 => (if (a0.extract 0 ((ji5) : Int).toNat).size + 1 ≤ 9223372036854775807 then (if ((a0.extract 0 ((ji5) : Int).toNat) ++ (⟨#[10]⟩ : ByteArray)).size + (a1.extract 0 ((mn (a1.size : Int) 500) : Int).toNat).size ≤ 9223372036854775807 then ((lex_Split.f k (((a0.extract 0 ((ji5) : Int).toNat) ++ (⟨#[10]⟩ : ByteArray)) ++ (a1.extract 0 ((mn (a1.size : Int) 500) : Int).toNat))).bind fun bt206 => (if bt198.2 = 0 then (lapidarylaw14_LexParts.j0 k bt198.1 bt202.1 bt206.1 bt206.2 (bt202.2 != 0)) else (lapidarylaw14_LexParts.j0 k bt198.1 bt202.1 bt206.1 bt206.2 true))) else (none)) else (none)))) else (none)) else (none)) else (none)) else (none)) = some r := by first | (rw [hji5] at H; exact H) | (simp only [hji5] at H ⊢; exact H)
    (try rw [hji5] at A3)
    (try (have hji5h : ji5 ≤ 500 := by (rw [← hji5]; unfold mn; (repeat' split) <;> omega)))
    (try (have hji5g : ji5 ≤ 64 := by omega))
    (try (have hji5l : 0 ≤ ji5 := by (rw [← hji5]; unfold mn; (repeat' split) <;> omega)))
    (try (have hji5m : 0 ≤ ji5 := by omega))
    have hji5_ : (if 500 < (a0.size : Int) then 500 else (a0.size : Int)) = ji5 := hji5
    by_cases c6 : 0 ≤ (ji5)
    · rw [if_pos c6] at H
      have c6b0 := eq_true c6
      have c6b1 : decide (0 ≤ (ji5)) = true := decide_eq_true c6
      clear c6
      by_cases c7 : (ji5) ≤ (a0.size : Int)
      · rw [if_pos c7] at H
        have c7b0 := eq_true c7
        have c7b1 : decide ((ji5) ≤ (a0.size : Int)) = true := decide_eq_true c7
        clear c7
        obtain ⟨ji8, hji8⟩ : ∃ j_ : Int, (mn (a1.size : Int) 500) = j_ := ⟨_, rfl⟩
        replace H : (if 0 ≤ (ji8) then (if (ji8) ≤ (a1.size : Int) then ((lex_Split.f k (a0.extract 0 ((ji5) : Int).toNat)).bind fun bt198 => ((lex_Split.f k (a1.extract 0 ((ji8) : Int).toNat)).bind fun bt202 => (if (a0.extract 0 ((ji5) : Int).toNat).size + 1 ≤ 9223372036854775807 then (if ((a0.extract 0 ((ji5) : Int).toNat) ++ (⟨#[10]⟩ : ByteArray)).size + (a1.extract 0 ((ji8) : Int).toNat).size ≤ 9223372036854775807 then ((lex_Split.f k (((a0.extract 0 ((ji5) : Int).toNat) ++ (⟨#[10]⟩ : ByteArray)) ++ (a1.extract 0 ((ji8) : Int).toNat))).bind fun bt206 => (if bt198.2 = 0 then (lapidarylaw14_LexParts.j0 k bt198.1 bt202.1 bt206.1 bt206.2 (bt202.2 != 0)) else (lapidarylaw14_LexParts.j0 k bt198.1 bt202.1 bt206.1 bt206.2 true))) else (none)) else (none)))) else (none)) else (none)) = some r := by first | (rw [hji8] at H; exact H) | (simp only [hji8] at H ⊢; exact H)
        (try rw [hji8] at A3)
        (try (have hji8h : ji8 ≤ 500 := by (rw [← hji8]; unfold mn; (repeat' split) <;> omega)))
        (try (have hji8g : ji8 ≤ 64 := by omega))
        (try (have hji8l : 0 ≤ ji8 := by (rw [← hji8]; unfold mn; (repeat' split) <;> omega)))
        (try (have hji8m : 0 ≤ ji8 := by omega))
        have hji8_ : (if 500 < (a1.size : Int) then 500 else (a1.size : Int)) = ji8 := hji8
        by_cases c9 : 0 ≤ (ji8)
        · rw [if_pos c9] at H
          have c9b0 := eq_true c9
          have c9b1 : decide (0 ≤ (ji8)) = true := decide_eq_true c9
          clear c9
          by_cases c10 : (ji8) ≤ (a1.size : Int)
          · rw [if_pos c10] at H
            have c10b0 := eq_true c10
            have c10b1 : decide ((ji8) ≤ (a1.size : Int)) = true := decide_eq_true c10
            clear c10
            replace H := Option.bind_eq_some_iff.mp H
            obtain ⟨⟨t198, t199⟩, A110, H⟩ := H
            replace H : ((lex_Split.f k (a1.extract 0 ((ji8) : Int).toNat)).bind fun bt202 => (if (a0.extract 0 ((ji5) : Int).toNat).size + 1 ≤ 9223372036854775807 then (if ((a0.extract 0 ((ji5) : Int).toNat) ++ (⟨#[10]⟩ : ByteArray)).size + (a1.extract 0 ((ji8) : Int).toNat).size ≤ 9223372036854775807 then ((lex_Split.f k (((a0.extract 0 ((ji5) : Int).toNat) ++ (⟨#[10]⟩ : ByteArray)) ++ (a1.extract 0 ((ji8) : Int).toNat))).bind fun bt206 => (if t199 = 0 then (lapidarylaw14_LexParts.j0 k t198 bt202.1 bt206.1 bt206.2 (bt202.2 != 0)) else (lapidarylaw14_LexParts.j0 k t198 bt202.1 bt206.1 bt206.2 true))) else (none)) else (none))) = some r := H
            have A11 := Aside0.mk A110
            clear A110
            replace H := Option.bind_eq_some_iff.mp H
            obtain ⟨⟨t202, t203⟩, A120, H⟩ := H
            replace H : (if (a0.extract 0 ((ji5) : Int).toNat).size + 1 ≤ 9223372036854775807 then (if ((a0.extract 0 ((ji5) : Int).toNat) ++ (⟨#[10]⟩ : ByteArray)).size + (a1.extract 0 ((ji8) : Int).toNat).size ≤ 9223372036854775807 then ((lex_Split.f k (((a0.extract 0 ((ji5) : Int).toNat) ++ (⟨#[10]⟩ : ByteArray)) ++ (a1.extract 0 ((ji8) : Int).toNat))).bind fun bt206 => (if t199 = 0 then (lapidarylaw14_LexParts.j0 k t198 t202 bt206.1 bt206.2 (t203 != 0)) else (lapidarylaw14_LexParts.j0 k t198 t202 bt206.1 bt206.2 true))) else (none)) else (none)) = some r := H
            have A12 := Aside0.mk A120
            clear A120
            by_cases c13 : (a0.extract 0 ((ji5) : Int).toNat).size + 1 ≤ 9223372036854775807
            · rw [if_pos c13] at H
              have c13b0 := eq_true c13
              have c13b1 : decide ((a0.extract 0 ((ji5) : Int).toNat).size + 1 ≤ 9223372036854775807) = true := decide_eq_true c13
              try have c13b2 : (9223372036854775807 < (a0.extract 0 ((ji5) : Int).toNat).size + 1) = False := eq_false (Nat.not_lt.2 c13)
              by_cases c14 : ((a0.extract 0 ((ji5) : Int).toNat) ++ (⟨#[10]⟩ : ByteArray)).size + (a1.extract 0 ((ji8) : Int).toNat).size ≤ 9223372036854775807
              · rw [if_pos c14] at H
                have c14b0 := eq_true c14
                have c14b1 : decide (((a0.extract 0 ((ji5) : Int).toNat) ++ (⟨#[10]⟩ : ByteArray)).size + (a1.extract 0 ((ji8) : Int).toNat).size ≤ 9223372036854775807) = true := decide_eq_true c14
                try have c14b2 : (9223372036854775807 < ((a0.extract 0 ((ji5) : Int).toNat) ++ (⟨#[10]⟩ : ByteArray)).size + (a1.extract 0 ((ji8) : Int).toNat).size) = False := eq_false (Nat.not_lt.2 c14)
                replace H := Option.bind_eq_some_iff.mp H
                obtain ⟨⟨t206, t207⟩, A150, H⟩ := H
                replace H : (if t199 = 0 then (lapidarylaw14_LexParts.j0 k t198 t202 t206 t207 (t203 != 0)) else (lapidarylaw14_LexParts.j0 k t198 t202 t206 t207 true)) = some r := H
                have A15 := Aside0.mk A150
                clear A150
                have HC16 := Aside0.mk H
                clear H
                go_enter Tryd.func4, Tryd.ntmps4
                go_upto_region 7 with (first | (go_at_call 9; (with_reducible refine (lapidarylaw14_awake.calls k  true _ (HE.out.below (by repeat (first | (with_reducible first | exact HB.out | apply below_alloc | apply pw_below_drewN | apply below_drew1) | exact HB.out))) A3.out).mono ?_); rintro e w17 ⟨rfl, hb⟩; have n0_ := Aside0.mk (below_step (by repeat (first | (with_reducible first | exact HB.out | apply below_alloc | apply pw_below_drewN | apply below_drew1) | exact HB.out)) hb); clear HB; have HB := n0_; clear n0_; (try clear hb); (try clear hb2); (try clear hk); (try clear hi)) | (go_at_call 10; (with_reducible refine (lex_Split.calls k (a0.extract 0 ((ji5) : Int).toNat) t198 t199 _ (HE.out.below (by repeat (first | (with_reducible first | exact HB.out | apply below_alloc | apply pw_below_drewN | apply below_drew1) | exact HB.out))) A11.out).mono ?_); rintro e w18 ⟨v200, rfl, ho0, hb⟩; have n0_ := Aside0.mk (Kd.R_lower ho0 (below_size (by repeat (first | (with_reducible first | exact HB.out | apply below_alloc | apply pw_below_drewN | apply below_drew1) | exact HB.out)))); have n1_ := Aside0.mk (below_step (by repeat (first | (with_reducible first | exact HB.out | apply below_alloc | apply pw_below_drewN | apply below_drew1) | exact HB.out)) hb); clear HB; have HO201 := n0_; have HB := n1_; clear n0_ n1_; (try clear hb); (try clear hb2); (try clear hk); (try clear hi); (try clear ho0)) | (go_at_call 10; (with_reducible refine (lex_Split.calls k (a1.extract 0 ((ji8) : Int).toNat) t202 t203 _ (HE.out.below (by repeat (first | (with_reducible first | exact HB.out | apply below_alloc | apply pw_below_drewN | apply below_drew1) | exact HB.out))) A12.out).mono ?_); rintro e w19 ⟨v204, rfl, ho0, hb⟩; have n0_ := Aside0.mk (Kd.R_elder' (by (with_reducible repeat (first | apply Kd.R_alloc | apply Kd.R_drewN | apply Kd.R_drew)); exact HO201.out) (Kd.R_base ho0) hb); have n1_ := Aside0.mk (Kd.R_lower (Kd.R_new' ho0 (Kd.R_lt (by (with_reducible repeat (first | apply Kd.R_alloc | apply Kd.R_drewN | apply Kd.R_drew)); exact HO201.out))) (below_size (by repeat (first | (with_reducible first | exact HB.out | apply below_alloc | apply pw_below_drewN | apply below_drew1) | exact HB.out)))); have n2_ := Aside0.mk (below_step (by repeat (first | (with_reducible first | exact HB.out | apply below_alloc | apply pw_below_drewN | apply below_drew1) | exact HB.out)) hb); clear HO201; clear HB; have HO201 := n0_; have HO205 := n1_; have HB := n2_; clear n0_ n1_ n2_; (try clear hb); (try clear hb2); (try clear hk); (try clear hi); (try clear ho0)) | (go_at_call 10; (with_reducible refine (lex_Split.calls k (((a0.extract 0 ((ji5) : Int).toNat) ++ (⟨#[10]⟩ : ByteArray)) ++ (a1.extract 0 ((ji8) : Int).toNat)) t206 t207 _ (HE.out.below (by repeat (first | (with_reducible first | exact HB.out | apply below_alloc | apply pw_below_drewN | apply below_drew1) | exact HB.out))) A15.out).mono ?_); rintro e w20 ⟨v208, rfl, ho0, hb⟩; have n0_ := Aside0.mk (Kd.R_elder' (by (with_reducible repeat (first | apply Kd.R_alloc | apply Kd.R_drewN | apply Kd.R_drew)); exact HO201.out) (Kd.R_base ho0) hb); have n1_ := Aside0.mk (Kd.R_elder' (by (with_reducible repeat (first | apply Kd.R_alloc | apply Kd.R_drewN | apply Kd.R_drew)); exact HO205.out) (Kd.R_base ho0) hb); have n2_ := Aside0.mk (Kd.R_lower (Kd.R_new' (Kd.R_new' ho0 (Kd.R_lt (by (with_reducible repeat (first | apply Kd.R_alloc | apply Kd.R_drewN | apply Kd.R_drew)); exact HO201.out))) (Kd.R_lt (by (with_reducible repeat (first | apply Kd.R_alloc | apply Kd.R_drewN | apply Kd.R_drew)); exact HO205.out))) (below_size (by repeat (first | (with_reducible first | exact HB.out | apply below_alloc | apply pw_below_drewN | apply below_drew1) | exact HB.out)))); have n3_ := Aside0.mk (below_step (by repeat (first | (with_reducible first | exact HB.out | apply below_alloc | apply pw_below_drewN | apply below_drew1) | exact HB.out)) hb); clear HO201; clear HO205; clear HB; have HO201 := n0_; have HO205 := n1_; have HO209 := n2_; have HB := n3_; clear n0_ n1_ n2_ n3_; (try clear hb); (try clear hb2); (try clear hk); (try clear hi); (try clear ho0)))
                repeat (go_quiet (first | (go_at_call 9; (with_reducible refine (lapidarylaw14_awake.calls k  true _ (HE.out.below (by repeat (first | (with_reducible first | exact HB.out | apply below_alloc | apply pw_below_drewN | apply below_drew1) | exact HB.out))) A3.out).mono ?_); rintro e w17 ⟨rfl, hb⟩; have n0_ := Aside0.mk (below_step (by repeat (first | (with_reducible first | exact HB.out | apply below_alloc | apply pw_below_drewN | apply below_drew1) | exact HB.out)) hb); clear HB; have HB := n0_; clear n0_; (try clear hb); (try clear hb2); (try clear hk); (try clear hi)) | (go_at_call 10; (with_reducible refine (lex_Split.calls k (a0.extract 0 ((ji5) : Int).toNat) t198 t199 _ (HE.out.below (by repeat (first | (with_reducible first | exact HB.out | apply below_alloc | apply pw_below_drewN | apply below_drew1) | exact HB.out))) A11.out).mono ?_); rintro e w18 ⟨v200, rfl, ho0, hb⟩; have n0_ := Aside0.mk (Kd.R_lower ho0 (below_size (by repeat (first | (with_reducible first | exact HB.out | apply below_alloc | apply pw_below_drewN | apply below_drew1) | exact HB.out)))); have n1_ := Aside0.mk (below_step (by repeat (first | (with_reducible first | exact HB.out | apply below_alloc | apply pw_below_drewN | apply below_drew1) | exact HB.out)) hb); clear HB; have HO201 := n0_; have HB := n1_; clear n0_ n1_; (try clear hb); (try clear hb2); (try clear hk); (try clear hi); (try clear ho0)) | (go_at_call 10; (with_reducible refine (lex_Split.calls k (a1.extract 0 ((ji8) : Int).toNat) t202 t203 _ (HE.out.below (by repeat (first | (with_reducible first | exact HB.out | apply below_alloc | apply pw_below_drewN | apply below_drew1) | exact HB.out))) A12.out).mono ?_); rintro e w19 ⟨v204, rfl, ho0, hb⟩; have n0_ := Aside0.mk (Kd.R_elder' (by (with_reducible repeat (first | apply Kd.R_alloc | apply Kd.R_drewN | apply Kd.R_drew)); exact HO201.out) (Kd.R_base ho0) hb); have n1_ := Aside0.mk (Kd.R_lower (Kd.R_new' ho0 (Kd.R_lt (by (with_reducible repeat (first | apply Kd.R_alloc | apply Kd.R_drewN | apply Kd.R_drew)); exact HO201.out))) (below_size (by repeat (first | (with_reducible first | exact HB.out | apply below_alloc | apply pw_below_drewN | apply below_drew1) | exact HB.out)))); have n2_ := Aside0.mk (below_step (by repeat (first | (with_reducible first | exact HB.out | apply below_alloc | apply pw_below_drewN | apply below_drew1) | exact HB.out)) hb); clear HO201; clear HB; have HO201 := n0_; have HO205 := n1_; have HB := n2_; clear n0_ n1_ n2_; (try clear hb); (try clear hb2); (try clear hk); (try clear hi); (try clear ho0)) | (go_at_call 10; (with_reducible refine (lex_Split.calls k (((a0.extract 0 ((ji5) : Int).toNat) ++ (⟨#[10]⟩ : ByteArray)) ++ (a1.extract 0 ((ji8) : Int).toNat)) t206 t207 _ (HE.out.below (by repeat (first | (with_reducible first | exact HB.out | apply below_alloc | apply pw_below_drewN | apply below_drew1) | exact HB.out))) A15.out).mono ?_); rintro e w20 ⟨v208, rfl, ho0, hb⟩; have n0_ := Aside0.mk (Kd.R_elder' (by (with_reducible repeat (first | apply Kd.R_alloc | apply Kd.R_drewN | apply Kd.R_drew)); exact HO201.out) (Kd.R_base ho0) hb); have n1_ := Aside0.mk (Kd.R_elder' (by (with_reducible repeat (first | apply Kd.R_alloc | apply Kd.R_drewN | apply Kd.R_drew)); exact HO205.out) (Kd.R_base ho0) hb); have n2_ := Aside0.mk (Kd.R_lower (Kd.R_new' (Kd.R_new' ho0 (Kd.R_lt (by (with_reducible repeat (first | apply Kd.R_alloc | apply Kd.R_drewN | apply Kd.R_drew)); exact HO201.out))) (Kd.R_lt (by (with_reducible repeat (first | apply Kd.R_alloc | apply Kd.R_drewN | apply Kd.R_drew)); exact HO205.out))) (below_size (by repeat (first | (with_reducible first | exact HB.out | apply below_alloc | apply pw_below_drewN | apply below_drew1) | exact HB.out)))); have n3_ := Aside0.mk (below_step (by repeat (first | (with_reducible first | exact HB.out | apply below_alloc | apply pw_below_drewN | apply below_drew1) | exact HB.out)) hb); clear HO201; clear HO205; clear HB; have HO201 := n0_; have HO205 := n1_; have HO209 := n2_; have HB := n3_; clear n0_ n1_ n2_ n3_; (try clear hb); (try clear hb2); (try clear hk); (try clear hi); (try clear ho0))); go_upto_region 7 with (first | (go_at_call 9; (with_reducible refine (lapidarylaw14_awake.calls k  true _ (HE.out.below (by repeat (first | (with_reducible first | exact HB.out | apply below_alloc | apply pw_below_drewN | apply below_drew1) | exact HB.out))) A3.out).mono ?_); rintro e w17 ⟨rfl, hb⟩; have n0_ := Aside0.mk (below_step (by repeat (first | (with_reducible first | exact HB.out | apply below_alloc | apply pw_below_drewN | apply below_drew1) | exact HB.out)) hb); clear HB; have HB := n0_; clear n0_; (try clear hb); (try clear hb2); (try clear hk); (try clear hi)) | (go_at_call 10; (with_reducible refine (lex_Split.calls k (a0.extract 0 ((ji5) : Int).toNat) t198 t199 _ (HE.out.below (by repeat (first | (with_reducible first | exact HB.out | apply below_alloc | apply pw_below_drewN | apply below_drew1) | exact HB.out))) A11.out).mono ?_); rintro e w18 ⟨v200, rfl, ho0, hb⟩; have n0_ := Aside0.mk (Kd.R_lower ho0 (below_size (by repeat (first | (with_reducible first | exact HB.out | apply below_alloc | apply pw_below_drewN | apply below_drew1) | exact HB.out)))); have n1_ := Aside0.mk (below_step (by repeat (first | (with_reducible first | exact HB.out | apply below_alloc | apply pw_below_drewN | apply below_drew1) | exact HB.out)) hb); clear HB; have HO201 := n0_; have HB := n1_; clear n0_ n1_; (try clear hb); (try clear hb2); (try clear hk); (try clear hi); (try clear ho0)) | (go_at_call 10; (with_reducible refine (lex_Split.calls k (a1.extract 0 ((ji8) : Int).toNat) t202 t203 _ (HE.out.below (by repeat (first | (with_reducible first | exact HB.out | apply below_alloc | apply pw_below_drewN | apply below_drew1) | exact HB.out))) A12.out).mono ?_); rintro e w19 ⟨v204, rfl, ho0, hb⟩; have n0_ := Aside0.mk (Kd.R_elder' (by (with_reducible repeat (first | apply Kd.R_alloc | apply Kd.R_drewN | apply Kd.R_drew)); exact HO201.out) (Kd.R_base ho0) hb); have n1_ := Aside0.mk (Kd.R_lower (Kd.R_new' ho0 (Kd.R_lt (by (with_reducible repeat (first | apply Kd.R_alloc | apply Kd.R_drewN | apply Kd.R_drew)); exact HO201.out))) (below_size (by repeat (first | (with_reducible first | exact HB.out | apply below_alloc | apply pw_below_drewN | apply below_drew1) | exact HB.out)))); have n2_ := Aside0.mk (below_step (by repeat (first | (with_reducible first | exact HB.out | apply below_alloc | apply pw_below_drewN | apply below_drew1) | exact HB.out)) hb); clear HO201; clear HB; have HO201 := n0_; have HO205 := n1_; have HB := n2_; clear n0_ n1_ n2_; (try clear hb); (try clear hb2); (try clear hk); (try clear hi); (try clear ho0)) | (go_at_call 10; (with_reducible refine (lex_Split.calls k (((a0.extract 0 ((ji5) : Int).toNat) ++ (⟨#[10]⟩ : ByteArray)) ++ (a1.extract 0 ((ji8) : Int).toNat)) t206 t207 _ (HE.out.below (by repeat (first | (with_reducible first | exact HB.out | apply below_alloc | apply pw_below_drewN | apply below_drew1) | exact HB.out))) A15.out).mono ?_); rintro e w20 ⟨v208, rfl, ho0, hb⟩; have n0_ := Aside0.mk (Kd.R_elder' (by (with_reducible repeat (first | apply Kd.R_alloc | apply Kd.R_drewN | apply Kd.R_drew)); exact HO201.out) (Kd.R_base ho0) hb); have n1_ := Aside0.mk (Kd.R_elder' (by (with_reducible repeat (first | apply Kd.R_alloc | apply Kd.R_drewN | apply Kd.R_drew)); exact HO205.out) (Kd.R_base ho0) hb); have n2_ := Aside0.mk (Kd.R_lower (Kd.R_new' (Kd.R_new' ho0 (Kd.R_lt (by (with_reducible repeat (first | apply Kd.R_alloc | apply Kd.R_drewN | apply Kd.R_drew)); exact HO201.out))) (Kd.R_lt (by (with_reducible repeat (first | apply Kd.R_alloc | apply Kd.R_drewN | apply Kd.R_drew)); exact HO205.out))) (below_size (by repeat (first | (with_reducible first | exact HB.out | apply below_alloc | apply pw_below_drewN | apply below_drew1) | exact HB.out)))); have n3_ := Aside0.mk (below_step (by repeat (first | (with_reducible first | exact HB.out | apply below_alloc | apply pw_below_drewN | apply below_drew1) | exact HB.out)) hb); clear HO201; clear HO205; clear HB; have HO201 := n0_; have HO205 := n1_; have HO209 := n2_; have HB := n3_; clear n0_ n1_ n2_ n3_; (try clear hb); (try clear hb2); (try clear hk); (try clear hi); (try clear ho0))))
                (try simp only [Act.put, List.setIfInBounds_toArray, List.set_cons_zero, List.set_cons_succ])
                go_cut [46] (fun v46 wc => ∃ (kq : Nat) (x46_15 : Bool), v46 = .bool x46_15 ∧ Aside0 (lapidarylaw14_LexParts.j0 kq t198 t202 t206 t207 x46_15 = some r) ∧ Aside0 (kq ≤ k) ∧ Aside0 (Kd.R k36 36 wc w.heap.size (fun k_ => some k_ ≠ (v204 : Value).ownBlock ∧ some k_ ≠ (v208 : Value).ownBlock) v200 t198) ∧ Aside0 (Kd.R k36 36 wc w.heap.size (fun k_ => some k_ ≠ (v200 : Value).ownBlock ∧ some k_ ≠ (v208 : Value).ownBlock) v204 t202) ∧ Aside0 (Kd.R k36 36 wc w.heap.size (fun k_ => some k_ ≠ (v200 : Value).ownBlock ∧ some k_ ≠ (v204 : Value).ownBlock) v208 t206) ∧ Aside0 (Below w.heap.size w wc))
                case first =>
                  have H := HC16.out
                  clear HC16
                  by_cases c21 : t199 = 0
                  · rw [if_pos c21] at H
                    have c21b0 : (t199 == 0) = true := beq_iff_eq.mpr c21
                    have c21b1 : (t199 != 0) = false := bne_eq_false_iff_eq.mpr c21
                    clear c21
                    (first | rw [c21b0] | (simp only [i64_w, i32_w]; rw [c21b0]) | skip)
                    have H' := Aside0.mk H
                    clear H
                    go_wp2
                    repeat (go_quiet (fail); try go_wp2)
                    go_meet
                    case rel => exact ⟨_, ((t203 != 0)), (by first | rfl | (simp; done) | (simp [*]; done)), H', ⟨by first | omega | exact Nat.le_refl _⟩, ⟨by (with_reducible repeat (first | apply Kd.R_alloc | apply Kd.R_drewN | apply Kd.R_drew)); exact Kd.R_mono HO201.out (fun _ hk => ⟨hk.1.2, hk.2⟩)⟩, ⟨by (with_reducible repeat (first | apply Kd.R_alloc | apply Kd.R_drewN | apply Kd.R_drew)); exact Kd.R_mono HO205.out (fun _ hk => ⟨hk.1.2, hk.2⟩)⟩, ⟨by (with_reducible repeat (first | apply Kd.R_alloc | apply Kd.R_drewN | apply Kd.R_drew)); exact Kd.R_mono HO209.out (fun _ hk => ⟨hk.1.2, hk.2⟩)⟩, ⟨by repeat (first | (with_reducible first | exact HB.out | apply below_alloc | apply pw_below_drewN | apply below_drew1) | exact HB.out)⟩⟩
                  · rw [if_neg c21] at H
                    have c21b0 : (t199 == 0) = false := beq_eq_false_iff_ne.mpr c21
                    have c21b1 : (t199 != 0) = true := bne_iff_ne.mpr c21
                    (first | rw [c21b0] | (simp only [i64_w, i32_w]; rw [c21b0]) | skip)
                    have H' := Aside0.mk H
                    clear H
                    go_wp2
                    repeat (go_quiet (fail); try go_wp2)
                    go_meet
                    case rel => exact ⟨_, (true), (by first | rfl | (simp; done) | (simp [*]; done)), H', ⟨by first | omega | exact Nat.le_refl _⟩, ⟨by (with_reducible repeat (first | apply Kd.R_alloc | apply Kd.R_drewN | apply Kd.R_drew)); exact Kd.R_mono HO201.out (fun _ hk => ⟨hk.1.2, hk.2⟩)⟩, ⟨by (with_reducible repeat (first | apply Kd.R_alloc | apply Kd.R_drewN | apply Kd.R_drew)); exact Kd.R_mono HO205.out (fun _ hk => ⟨hk.1.2, hk.2⟩)⟩, ⟨by (with_reducible repeat (first | apply Kd.R_alloc | apply Kd.R_drewN | apply Kd.R_drew)); exact Kd.R_mono HO209.out (fun _ hk => ⟨hk.1.2, hk.2⟩)⟩, ⟨by repeat (first | (with_reducible first | exact HB.out | apply below_alloc | apply pw_below_drewN | apply below_drew1) | exact HB.out)⟩⟩
                case rest =>
                  clear HC16
                  try clear c1
                  try clear c2
                  try clear p2
                  try clear c4
                  try clear c6
                  try clear c6b0
                  try clear c6b1
                  try clear c7
                  try clear c7b0
                  try clear c7b1
                  try clear c9
                  try clear c9b0
                  try clear c9b1
                  try clear c10
                  try clear c10b0
                  try clear c10b1
                  try clear c13
                  try clear c13b0
                  try clear c13b1
                  try clear c13b2
                  try clear c14
                  try clear c14b0
                  try clear c14b1
                  try clear c14b2
                  try clear c21
                  try clear c21b0
                  try clear c21b1
                  obtain ⟨kq, x46_15, rfl, HA, HJ15, HO_5, HO_7, HO_9, HB⟩ := hcut
                  cases kq with
                  | zero => exact absurd HA.out (by simp [lapidarylaw14_LexParts.j0])
                  | succ kj15 =>
                    have H := HA.out
                    clear HA
                    simp only [lapidarylaw14_LexParts.j0] at H
                    by_cases c22 : x46_15 = true
                    · subst c22
                      have H1 : (some true) = some r := by rw [if_pos rfl] at H; exact H
                      clear H
                      have H := H1
                      clear H1
                      obtain rfl := Option.some.inj H
                      go_wp2
                      repeat (go_quiet (fail); try go_wp2)
                      go_ret
                      exact ⟨by first | rfl | (simp [errW_none, errW_some] <;> rfl) | (simp only [← hji5, ← hji8]; first | rfl | (simp [errW_none, errW_some] <;> rfl)) | (simp [*, errW_none, errW_some] <;> rfl), by repeat (first | (with_reducible first | exact HB.out | apply below_alloc | apply pw_below_drewN | apply below_drew1) | exact HB.out)⟩
                    · replace c22 := Bool.eq_false_iff.mpr c22
                      subst c22
                      have H1 : (if t207 = 0 then ((lapidarylaw14_back.f kj15 t206).bind fun t210 => (if t198.length + t202.length < 4398046511104 then ((lapidarylaw14_back.f kj15 (t198 ++ t202)).bind fun t216 => ((lapidaryref14_Same.f kj15 t210 t216).bind fun t219 => (some t219))) else (none))) else (some false)) = some r := by rw [if_neg (show ¬ (false = true) by decide)] at H; exact H
                      clear H
                      have H := H1
                      clear H1
                      by_cases c23 : t207 = 0
                      · rw [if_pos c23] at H
                        have c23b0 : (t207 == 0) = true := beq_iff_eq.mpr c23
                        have c23b1 : (t207 != 0) = false := bne_eq_false_iff_eq.mpr c23
                        clear c23
                        replace H := Option.bind_eq_some_iff.mp H
                        obtain ⟨t210, A240, H⟩ := H
                        replace H : (if t198.length + t202.length < 4398046511104 then ((lapidarylaw14_back.f kj15 (t198 ++ t202)).bind fun t216 => ((lapidaryref14_Same.f kj15 t210 t216).bind fun t219 => (some t219))) else (none)) = some r := H
                        have A24 := Aside0.mk A240
                        clear A240
                        by_cases c25 : t198.length + t202.length < 4398046511104
                        · rw [if_pos c25] at H
                          have LMc25 := Aside0.mk c25
                          clear c25
                          obtain ⟨y213, hy213⟩ : ∃ y_ : List (S36), y_ = (t198 ++ t202) := ⟨_, rfl⟩
                          replace H : ((lapidarylaw14_back.f kj15 y213).bind fun t216 => ((lapidaryref14_Same.f kj15 t210 t216).bind fun t219 => (some t219))) = some r := by first | (rw [hy213]; with_reducible exact H) | (have H2_ := (Option.bind_some _ _).symm.trans H; rw [hy213]; with_reducible exact H2_) | (have H2_ := (Option.bind_some _ _).symm.trans H; with_reducible exact H2_) | with_reducible exact H | (rw [hy213]; exact H) | exact H
                          have Ny213 := Aside0.mk hy213
                          clear hy213
                          replace H := Option.bind_eq_some_iff.mp H
                          obtain ⟨t216, A260, H⟩ := H
                          replace H : ((lapidaryref14_Same.f kj15 t210 t216).bind fun t219 => (some t219)) = some r := H
                          have A26 := Aside0.mk A260
                          clear A260
                          replace H := Option.bind_eq_some_iff.mp H
                          obtain ⟨t219, A270, H⟩ := H
                          replace H : (some t219) = some r := H
                          have A27 := Aside0.mk A270
                          clear A270
                          obtain rfl := Option.some.inj H
                          obtain ⟨Ao28, co28, eo28⟩ := Kd.R_slice HO_9.out
                          subst eo28
                          go_wp2_with (first | (go_at_call 13; (with_reducible refine (lapidarylaw14_back.calls kj15 _ _ t206 t210 _ ?side1 ?side2 A24.out).mono ?_); (case side1 => repeat (first | exact (Kd.R_reads' HO_9.out).2.2 | (with_reducible refine Kd.C_alloc ?_ _) | (with_reducible refine Kd.C_drewN ?_ _) | (with_reducible refine Kd.C_drew ?_))); (case side2 => exact (Kd.R_reads' HO_9.out).2.1); rintro e w29 ⟨v211, rfl, ho0, hb⟩; have n0_ := Aside0.mk (Kd.R_below (by (with_reducible repeat (first | apply Kd.R_alloc | apply Kd.R_drewN | apply Kd.R_drew)); exact HO_5.out) hb); have n1_ := Aside0.mk (Kd.R_below (by (with_reducible repeat (first | apply Kd.R_alloc | apply Kd.R_drewN | apply Kd.R_drew)); exact HO_7.out) hb); have n2_ := Aside0.mk (Kd.R_below (by (with_reducible repeat (first | apply Kd.R_alloc | apply Kd.R_drewN | apply Kd.R_drew)); exact HO_9.out) hb); have n3_ := Aside0.mk (Kd.R_lower ho0 (below_size (by repeat (first | (with_reducible first | exact HB.out | apply below_alloc | apply pw_below_drewN | apply below_drew1) | exact HB.out)))); have n4_ := Aside0.mk (below_step (by repeat (first | (with_reducible first | exact HB.out | apply below_alloc | apply pw_below_drewN | apply below_drew1) | exact HB.out)) hb); clear HO_5; clear HO_7; clear HO_9; clear HB; have HO_5 := n0_; have HO_7 := n1_; have HO_9 := n2_; have HO212 := n3_; have HB := n4_; clear n0_ n1_ n2_ n3_ n4_; (try clear hb); (try clear hb2); (try clear hk); (try clear hi); (try clear ho0); obtain ⟨Ao31, co31, eo31⟩ := Kd.R_slice HO_7.out; subst eo31) | ((with_reducible refine gate_builtin (b := .append) (xs := #[.tmp 52, .tmp 53]) rfl ?_); (try (refine gate_guard (by rfl) ?_; dsimp only)); at_builtin; refine Kd.R_append_rows k36 (w0 := w) w.heap.size rfl (.tmp 52) (.tmp 53) 23 36 (.agg #[(.int .u8 0), (.string ⟨#[]⟩), (.int .i64 0)]) 32 rfl Tryd.underlying23 info36 rfl (by decide) (by omega) v200 t198 t202 _ _ _ (fun k_ => some k_ ≠ (.slice Ao31 t202.length co31 : Value).ownBlock ∧ some k_ ≠ (.slice Ao28 t206.length co28 : Value).ownBlock) (fun _ => False) rfl rfl ?aO ?aR (fun _ _ h => h) (fun _ h => h.elim) ?aF ?aB ?aS ?aL ?_; (case aR => repeat (first | exact (Kd.R_reads' HO_7.out).2.2 | (with_reducible refine Kd.C_alloc ?_ _) | (with_reducible refine Kd.C_drewN ?_ _) | (with_reducible refine Kd.C_drew ?_))); (case aB => exact (by repeat (first | (with_reducible first | exact HB.out | apply below_alloc | apply pw_below_drewN | apply below_drew1) | exact HB.out))); (case aF => exact (fun k_ hk => ⟨Kd.fresh' (Kd.R_lt (by (with_reducible repeat (first | apply Kd.R_alloc | apply Kd.R_drewN | apply Kd.R_drew)); exact HO_7.out)) k_ hk, Kd.fresh' (Kd.R_lt (by (with_reducible repeat (first | apply Kd.R_alloc | apply Kd.R_drewN | apply Kd.R_drew)); exact HO_9.out)) k_ hk⟩)); (case aO => exact (by (with_reducible repeat (first | apply Kd.R_alloc | apply Kd.R_drewN | apply Kd.R_drew)); exact HO_5.out)); (case aS => exact (below_size (by repeat (first | (with_reducible first | exact HB.out | apply below_alloc | apply pw_below_drewN | apply below_drew1) | exact HB.out)))); (case aL => have := LMc25.out; omega); intro v214 w30 ho hb hg hat; rw [← Ny213.out] at ho; have n0_ := Aside0.mk (Kd.R_after (ok := (fun k_ => some k_ ≠ (.slice Ao28 t206.length co28 : Value).ownBlock)) (by (with_reducible repeat (first | apply Kd.R_alloc | apply Kd.R_drewN | apply Kd.R_drew)); exact Kd.R_mono HO_7.out (fun _ hk => ⟨hk.2, hk.1⟩)) hg hat); have n1_ := Aside0.mk (Kd.R_after (ok := (fun k_ => some k_ ≠ (.slice Ao31 t202.length co31 : Value).ownBlock)) (by (with_reducible repeat (first | apply Kd.R_alloc | apply Kd.R_drewN | apply Kd.R_drew)); exact Kd.R_mono HO_9.out (fun _ hk => ⟨hk.2, hk.1⟩)) hg hat); have n2_ := Aside0.mk (Kd.R_over' (by (with_reducible repeat (first | apply Kd.R_alloc | apply Kd.R_drewN | apply Kd.R_drew)); exact HO212.out) (Kd.R_typed (by (with_reducible repeat (first | apply Kd.R_alloc | apply Kd.R_drewN | apply Kd.R_drew)); exact HO_5.out)) (by decide) hg); have n3_ := Aside0.mk (hb); have n4_ := Aside0.mk (ho); clear HO_7; clear HO_9; clear HO212; clear HB; clear HO_5; have HO_7 := n0_; have HO_9 := n1_; have HO212 := n2_; have HB := n3_; have HO215 := n4_; clear n0_ n1_ n2_ n3_ n4_; clear ho hb hg hat; obtain ⟨Ao32, co32, eo32⟩ := Kd.R_slice HO215.out; subst eo32) | (go_at_call 13; (with_reducible refine (lapidarylaw14_back.calls kj15 _ _ y213 t216 _ ?side1 ?side2 A26.out).mono ?_); (case side1 => repeat (first | exact (Kd.R_reads' HO215.out).2.2 | (with_reducible refine Kd.C_alloc ?_ _) | (with_reducible refine Kd.C_drewN ?_ _) | (with_reducible refine Kd.C_drew ?_))); (case side2 => exact (Kd.R_reads' HO215.out).2.1); rintro e w33 ⟨v217, rfl, ho0, hb⟩; have n0_ := Aside0.mk (Kd.R_below (by (with_reducible repeat (first | apply Kd.R_alloc | apply Kd.R_drewN | apply Kd.R_drew)); exact HO_7.out) hb); have n1_ := Aside0.mk (Kd.R_below (by (with_reducible repeat (first | apply Kd.R_alloc | apply Kd.R_drewN | apply Kd.R_drew)); exact HO_9.out) hb); have n2_ := Aside0.mk (Kd.R_elder' (by (with_reducible repeat (first | apply Kd.R_alloc | apply Kd.R_drewN | apply Kd.R_drew)); exact HO212.out) (Kd.R_base ho0) hb); have n3_ := Aside0.mk (Kd.R_below (by (with_reducible repeat (first | apply Kd.R_alloc | apply Kd.R_drewN | apply Kd.R_drew)); exact HO215.out) hb); have n4_ := Aside0.mk (Kd.R_lower (Kd.R_new' ho0 (Kd.R_lt (by (with_reducible repeat (first | apply Kd.R_alloc | apply Kd.R_drewN | apply Kd.R_drew)); exact HO212.out))) (below_size (by repeat (first | (with_reducible first | exact HB.out | apply below_alloc | apply pw_below_drewN | apply below_drew1) | exact HB.out)))); have n5_ := Aside0.mk (below_step (by repeat (first | (with_reducible first | exact HB.out | apply below_alloc | apply pw_below_drewN | apply below_drew1) | exact HB.out)) hb); clear HO_7; clear HO_9; clear HO212; clear HO215; clear HB; have HO_7 := n0_; have HO_9 := n1_; have HO212 := n2_; have HO215 := n3_; have HO218 := n4_; have HB := n5_; clear n0_ n1_ n2_ n3_ n4_ n5_; (try clear hb); (try clear hb2); (try clear hk); (try clear hi); (try clear ho0); obtain ⟨Ao34, co34, eo34⟩ := Kd.R_slice HO212.out; subst eo34; obtain ⟨Ao35, co35, eo35⟩ := Kd.R_slice HO218.out; subst eo35) | (go_at_call 12; (with_reducible refine (lapidaryref14_Same.calls kj15 _ _ t210 _ _ t216 t219 _ ?side1 ?side2 ?side3 ?side4 A27.out).mono ?_); (case side1 => repeat (first | exact (Kd.R_reads' HO212.out).2.2 | (with_reducible refine Kd.C_alloc ?_ _) | (with_reducible refine Kd.C_drewN ?_ _) | (with_reducible refine Kd.C_drew ?_))); (case side2 => exact (Kd.R_reads' HO212.out).2.1); (case side3 => repeat (first | exact (Kd.R_reads' HO218.out).2.2 | (with_reducible refine Kd.C_alloc ?_ _) | (with_reducible refine Kd.C_drewN ?_ _) | (with_reducible refine Kd.C_drew ?_))); (case side4 => exact (Kd.R_reads' HO218.out).2.1); rintro e w' ⟨rfl, ⟨nd, rfl⟩⟩; (try first | exact ⟨rfl, _, World.drewN_drewN _ _ _⟩ | exact ⟨rfl, _, Eq.trans (World.drewN_drewN _ _ _) (congrArg (World.drewN _) (Nat.add_assoc _ _ _))⟩)))
                          repeat (go_quiet (first | (go_at_call 13; (with_reducible refine (lapidarylaw14_back.calls kj15 _ _ t206 t210 _ ?side1 ?side2 A24.out).mono ?_); (case side1 => repeat (first | exact (Kd.R_reads' HO_9.out).2.2 | (with_reducible refine Kd.C_alloc ?_ _) | (with_reducible refine Kd.C_drewN ?_ _) | (with_reducible refine Kd.C_drew ?_))); (case side2 => exact (Kd.R_reads' HO_9.out).2.1); rintro e w29 ⟨v211, rfl, ho0, hb⟩; have n0_ := Aside0.mk (Kd.R_below (by (with_reducible repeat (first | apply Kd.R_alloc | apply Kd.R_drewN | apply Kd.R_drew)); exact HO_5.out) hb); have n1_ := Aside0.mk (Kd.R_below (by (with_reducible repeat (first | apply Kd.R_alloc | apply Kd.R_drewN | apply Kd.R_drew)); exact HO_7.out) hb); have n2_ := Aside0.mk (Kd.R_below (by (with_reducible repeat (first | apply Kd.R_alloc | apply Kd.R_drewN | apply Kd.R_drew)); exact HO_9.out) hb); have n3_ := Aside0.mk (Kd.R_lower ho0 (below_size (by repeat (first | (with_reducible first | exact HB.out | apply below_alloc | apply pw_below_drewN | apply below_drew1) | exact HB.out)))); have n4_ := Aside0.mk (below_step (by repeat (first | (with_reducible first | exact HB.out | apply below_alloc | apply pw_below_drewN | apply below_drew1) | exact HB.out)) hb); clear HO_5; clear HO_7; clear HO_9; clear HB; have HO_5 := n0_; have HO_7 := n1_; have HO_9 := n2_; have HO212 := n3_; have HB := n4_; clear n0_ n1_ n2_ n3_ n4_; (try clear hb); (try clear hb2); (try clear hk); (try clear hi); (try clear ho0); obtain ⟨Ao31, co31, eo31⟩ := Kd.R_slice HO_7.out; subst eo31) | ((with_reducible refine gate_builtin (b := .append) (xs := #[.tmp 52, .tmp 53]) rfl ?_); (try (refine gate_guard (by rfl) ?_; dsimp only)); at_builtin; refine Kd.R_append_rows k36 (w0 := w) w.heap.size rfl (.tmp 52) (.tmp 53) 23 36 (.agg #[(.int .u8 0), (.string ⟨#[]⟩), (.int .i64 0)]) 32 rfl Tryd.underlying23 info36 rfl (by decide) (by omega) v200 t198 t202 _ _ _ (fun k_ => some k_ ≠ (.slice Ao31 t202.length co31 : Value).ownBlock ∧ some k_ ≠ (.slice Ao28 t206.length co28 : Value).ownBlock) (fun _ => False) rfl rfl ?aO ?aR (fun _ _ h => h) (fun _ h => h.elim) ?aF ?aB ?aS ?aL ?_; (case aR => repeat (first | exact (Kd.R_reads' HO_7.out).2.2 | (with_reducible refine Kd.C_alloc ?_ _) | (with_reducible refine Kd.C_drewN ?_ _) | (with_reducible refine Kd.C_drew ?_))); (case aB => exact (by repeat (first | (with_reducible first | exact HB.out | apply below_alloc | apply pw_below_drewN | apply below_drew1) | exact HB.out))); (case aF => exact (fun k_ hk => ⟨Kd.fresh' (Kd.R_lt (by (with_reducible repeat (first | apply Kd.R_alloc | apply Kd.R_drewN | apply Kd.R_drew)); exact HO_7.out)) k_ hk, Kd.fresh' (Kd.R_lt (by (with_reducible repeat (first | apply Kd.R_alloc | apply Kd.R_drewN | apply Kd.R_drew)); exact HO_9.out)) k_ hk⟩)); (case aO => exact (by (with_reducible repeat (first | apply Kd.R_alloc | apply Kd.R_drewN | apply Kd.R_drew)); exact HO_5.out)); (case aS => exact (below_size (by repeat (first | (with_reducible first | exact HB.out | apply below_alloc | apply pw_below_drewN | apply below_drew1) | exact HB.out)))); (case aL => have := LMc25.out; omega); intro v214 w30 ho hb hg hat; rw [← Ny213.out] at ho; have n0_ := Aside0.mk (Kd.R_after (ok := (fun k_ => some k_ ≠ (.slice Ao28 t206.length co28 : Value).ownBlock)) (by (with_reducible repeat (first | apply Kd.R_alloc | apply Kd.R_drewN | apply Kd.R_drew)); exact Kd.R_mono HO_7.out (fun _ hk => ⟨hk.2, hk.1⟩)) hg hat); have n1_ := Aside0.mk (Kd.R_after (ok := (fun k_ => some k_ ≠ (.slice Ao31 t202.length co31 : Value).ownBlock)) (by (with_reducible repeat (first | apply Kd.R_alloc | apply Kd.R_drewN | apply Kd.R_drew)); exact Kd.R_mono HO_9.out (fun _ hk => ⟨hk.2, hk.1⟩)) hg hat); have n2_ := Aside0.mk (Kd.R_over' (by (with_reducible repeat (first | apply Kd.R_alloc | apply Kd.R_drewN | apply Kd.R_drew)); exact HO212.out) (Kd.R_typed (by (with_reducible repeat (first | apply Kd.R_alloc | apply Kd.R_drewN | apply Kd.R_drew)); exact HO_5.out)) (by decide) hg); have n3_ := Aside0.mk (hb); have n4_ := Aside0.mk (ho); clear HO_7; clear HO_9; clear HO212; clear HB; clear HO_5; have HO_7 := n0_; have HO_9 := n1_; have HO212 := n2_; have HB := n3_; have HO215 := n4_; clear n0_ n1_ n2_ n3_ n4_; clear ho hb hg hat; obtain ⟨Ao32, co32, eo32⟩ := Kd.R_slice HO215.out; subst eo32) | (go_at_call 13; (with_reducible refine (lapidarylaw14_back.calls kj15 _ _ y213 t216 _ ?side1 ?side2 A26.out).mono ?_); (case side1 => repeat (first | exact (Kd.R_reads' HO215.out).2.2 | (with_reducible refine Kd.C_alloc ?_ _) | (with_reducible refine Kd.C_drewN ?_ _) | (with_reducible refine Kd.C_drew ?_))); (case side2 => exact (Kd.R_reads' HO215.out).2.1); rintro e w33 ⟨v217, rfl, ho0, hb⟩; have n0_ := Aside0.mk (Kd.R_below (by (with_reducible repeat (first | apply Kd.R_alloc | apply Kd.R_drewN | apply Kd.R_drew)); exact HO_7.out) hb); have n1_ := Aside0.mk (Kd.R_below (by (with_reducible repeat (first | apply Kd.R_alloc | apply Kd.R_drewN | apply Kd.R_drew)); exact HO_9.out) hb); have n2_ := Aside0.mk (Kd.R_elder' (by (with_reducible repeat (first | apply Kd.R_alloc | apply Kd.R_drewN | apply Kd.R_drew)); exact HO212.out) (Kd.R_base ho0) hb); have n3_ := Aside0.mk (Kd.R_below (by (with_reducible repeat (first | apply Kd.R_alloc | apply Kd.R_drewN | apply Kd.R_drew)); exact HO215.out) hb); have n4_ := Aside0.mk (Kd.R_lower (Kd.R_new' ho0 (Kd.R_lt (by (with_reducible repeat (first | apply Kd.R_alloc | apply Kd.R_drewN | apply Kd.R_drew)); exact HO212.out))) (below_size (by repeat (first | (with_reducible first | exact HB.out | apply below_alloc | apply pw_below_drewN | apply below_drew1) | exact HB.out)))); have n5_ := Aside0.mk (below_step (by repeat (first | (with_reducible first | exact HB.out | apply below_alloc | apply pw_below_drewN | apply below_drew1) | exact HB.out)) hb); clear HO_7; clear HO_9; clear HO212; clear HO215; clear HB; have HO_7 := n0_; have HO_9 := n1_; have HO212 := n2_; have HO215 := n3_; have HO218 := n4_; have HB := n5_; clear n0_ n1_ n2_ n3_ n4_ n5_; (try clear hb); (try clear hb2); (try clear hk); (try clear hi); (try clear ho0); obtain ⟨Ao34, co34, eo34⟩ := Kd.R_slice HO212.out; subst eo34; obtain ⟨Ao35, co35, eo35⟩ := Kd.R_slice HO218.out; subst eo35) | (go_at_call 12; (with_reducible refine (lapidaryref14_Same.calls kj15 _ _ t210 _ _ t216 t219 _ ?side1 ?side2 ?side3 ?side4 A27.out).mono ?_); (case side1 => repeat (first | exact (Kd.R_reads' HO212.out).2.2 | (with_reducible refine Kd.C_alloc ?_ _) | (with_reducible refine Kd.C_drewN ?_ _) | (with_reducible refine Kd.C_drew ?_))); (case side2 => exact (Kd.R_reads' HO212.out).2.1); (case side3 => repeat (first | exact (Kd.R_reads' HO218.out).2.2 | (with_reducible refine Kd.C_alloc ?_ _) | (with_reducible refine Kd.C_drewN ?_ _) | (with_reducible refine Kd.C_drew ?_))); (case side4 => exact (Kd.R_reads' HO218.out).2.1); rintro e w' ⟨rfl, ⟨nd, rfl⟩⟩; (try first | exact ⟨rfl, _, World.drewN_drewN _ _ _⟩ | exact ⟨rfl, _, Eq.trans (World.drewN_drewN _ _ _) (congrArg (World.drewN _) (Nat.add_assoc _ _ _))⟩))); try go_wp2_with (first | (go_at_call 13; (with_reducible refine (lapidarylaw14_back.calls kj15 _ _ t206 t210 _ ?side1 ?side2 A24.out).mono ?_); (case side1 => repeat (first | exact (Kd.R_reads' HO_9.out).2.2 | (with_reducible refine Kd.C_alloc ?_ _) | (with_reducible refine Kd.C_drewN ?_ _) | (with_reducible refine Kd.C_drew ?_))); (case side2 => exact (Kd.R_reads' HO_9.out).2.1); rintro e w29 ⟨v211, rfl, ho0, hb⟩; have n0_ := Aside0.mk (Kd.R_below (by (with_reducible repeat (first | apply Kd.R_alloc | apply Kd.R_drewN | apply Kd.R_drew)); exact HO_5.out) hb); have n1_ := Aside0.mk (Kd.R_below (by (with_reducible repeat (first | apply Kd.R_alloc | apply Kd.R_drewN | apply Kd.R_drew)); exact HO_7.out) hb); have n2_ := Aside0.mk (Kd.R_below (by (with_reducible repeat (first | apply Kd.R_alloc | apply Kd.R_drewN | apply Kd.R_drew)); exact HO_9.out) hb); have n3_ := Aside0.mk (Kd.R_lower ho0 (below_size (by repeat (first | (with_reducible first | exact HB.out | apply below_alloc | apply pw_below_drewN | apply below_drew1) | exact HB.out)))); have n4_ := Aside0.mk (below_step (by repeat (first | (with_reducible first | exact HB.out | apply below_alloc | apply pw_below_drewN | apply below_drew1) | exact HB.out)) hb); clear HO_5; clear HO_7; clear HO_9; clear HB; have HO_5 := n0_; have HO_7 := n1_; have HO_9 := n2_; have HO212 := n3_; have HB := n4_; clear n0_ n1_ n2_ n3_ n4_; (try clear hb); (try clear hb2); (try clear hk); (try clear hi); (try clear ho0); obtain ⟨Ao31, co31, eo31⟩ := Kd.R_slice HO_7.out; subst eo31) | ((with_reducible refine gate_builtin (b := .append) (xs := #[.tmp 52, .tmp 53]) rfl ?_); (try (refine gate_guard (by rfl) ?_; dsimp only)); at_builtin; refine Kd.R_append_rows k36 (w0 := w) w.heap.size rfl (.tmp 52) (.tmp 53) 23 36 (.agg #[(.int .u8 0), (.string ⟨#[]⟩), (.int .i64 0)]) 32 rfl Tryd.underlying23 info36 rfl (by decide) (by omega) v200 t198 t202 _ _ _ (fun k_ => some k_ ≠ (.slice Ao31 t202.length co31 : Value).ownBlock ∧ some k_ ≠ (.slice Ao28 t206.length co28 : Value).ownBlock) (fun _ => False) rfl rfl ?aO ?aR (fun _ _ h => h) (fun _ h => h.elim) ?aF ?aB ?aS ?aL ?_; (case aR => repeat (first | exact (Kd.R_reads' HO_7.out).2.2 | (with_reducible refine Kd.C_alloc ?_ _) | (with_reducible refine Kd.C_drewN ?_ _) | (with_reducible refine Kd.C_drew ?_))); (case aB => exact (by repeat (first | (with_reducible first | exact HB.out | apply below_alloc | apply pw_below_drewN | apply below_drew1) | exact HB.out))); (case aF => exact (fun k_ hk => ⟨Kd.fresh' (Kd.R_lt (by (with_reducible repeat (first | apply Kd.R_alloc | apply Kd.R_drewN | apply Kd.R_drew)); exact HO_7.out)) k_ hk, Kd.fresh' (Kd.R_lt (by (with_reducible repeat (first | apply Kd.R_alloc | apply Kd.R_drewN | apply Kd.R_drew)); exact HO_9.out)) k_ hk⟩)); (case aO => exact (by (with_reducible repeat (first | apply Kd.R_alloc | apply Kd.R_drewN | apply Kd.R_drew)); exact HO_5.out)); (case aS => exact (below_size (by repeat (first | (with_reducible first | exact HB.out | apply below_alloc | apply pw_below_drewN | apply below_drew1) | exact HB.out)))); (case aL => have := LMc25.out; omega); intro v214 w30 ho hb hg hat; rw [← Ny213.out] at ho; have n0_ := Aside0.mk (Kd.R_after (ok := (fun k_ => some k_ ≠ (.slice Ao28 t206.length co28 : Value).ownBlock)) (by (with_reducible repeat (first | apply Kd.R_alloc | apply Kd.R_drewN | apply Kd.R_drew)); exact Kd.R_mono HO_7.out (fun _ hk => ⟨hk.2, hk.1⟩)) hg hat); have n1_ := Aside0.mk (Kd.R_after (ok := (fun k_ => some k_ ≠ (.slice Ao31 t202.length co31 : Value).ownBlock)) (by (with_reducible repeat (first | apply Kd.R_alloc | apply Kd.R_drewN | apply Kd.R_drew)); exact Kd.R_mono HO_9.out (fun _ hk => ⟨hk.2, hk.1⟩)) hg hat); have n2_ := Aside0.mk (Kd.R_over' (by (with_reducible repeat (first | apply Kd.R_alloc | apply Kd.R_drewN | apply Kd.R_drew)); exact HO212.out) (Kd.R_typed (by (with_reducible repeat (first | apply Kd.R_alloc | apply Kd.R_drewN | apply Kd.R_drew)); exact HO_5.out)) (by decide) hg); have n3_ := Aside0.mk (hb); have n4_ := Aside0.mk (ho); clear HO_7; clear HO_9; clear HO212; clear HB; clear HO_5; have HO_7 := n0_; have HO_9 := n1_; have HO212 := n2_; have HB := n3_; have HO215 := n4_; clear n0_ n1_ n2_ n3_ n4_; clear ho hb hg hat; obtain ⟨Ao32, co32, eo32⟩ := Kd.R_slice HO215.out; subst eo32) | (go_at_call 13; (with_reducible refine (lapidarylaw14_back.calls kj15 _ _ y213 t216 _ ?side1 ?side2 A26.out).mono ?_); (case side1 => repeat (first | exact (Kd.R_reads' HO215.out).2.2 | (with_reducible refine Kd.C_alloc ?_ _) | (with_reducible refine Kd.C_drewN ?_ _) | (with_reducible refine Kd.C_drew ?_))); (case side2 => exact (Kd.R_reads' HO215.out).2.1); rintro e w33 ⟨v217, rfl, ho0, hb⟩; have n0_ := Aside0.mk (Kd.R_below (by (with_reducible repeat (first | apply Kd.R_alloc | apply Kd.R_drewN | apply Kd.R_drew)); exact HO_7.out) hb); have n1_ := Aside0.mk (Kd.R_below (by (with_reducible repeat (first | apply Kd.R_alloc | apply Kd.R_drewN | apply Kd.R_drew)); exact HO_9.out) hb); have n2_ := Aside0.mk (Kd.R_elder' (by (with_reducible repeat (first | apply Kd.R_alloc | apply Kd.R_drewN | apply Kd.R_drew)); exact HO212.out) (Kd.R_base ho0) hb); have n3_ := Aside0.mk (Kd.R_below (by (with_reducible repeat (first | apply Kd.R_alloc | apply Kd.R_drewN | apply Kd.R_drew)); exact HO215.out) hb); have n4_ := Aside0.mk (Kd.R_lower (Kd.R_new' ho0 (Kd.R_lt (by (with_reducible repeat (first | apply Kd.R_alloc | apply Kd.R_drewN | apply Kd.R_drew)); exact HO212.out))) (below_size (by repeat (first | (with_reducible first | exact HB.out | apply below_alloc | apply pw_below_drewN | apply below_drew1) | exact HB.out)))); have n5_ := Aside0.mk (below_step (by repeat (first | (with_reducible first | exact HB.out | apply below_alloc | apply pw_below_drewN | apply below_drew1) | exact HB.out)) hb); clear HO_7; clear HO_9; clear HO212; clear HO215; clear HB; have HO_7 := n0_; have HO_9 := n1_; have HO212 := n2_; have HO215 := n3_; have HO218 := n4_; have HB := n5_; clear n0_ n1_ n2_ n3_ n4_ n5_; (try clear hb); (try clear hb2); (try clear hk); (try clear hi); (try clear ho0); obtain ⟨Ao34, co34, eo34⟩ := Kd.R_slice HO212.out; subst eo34; obtain ⟨Ao35, co35, eo35⟩ := Kd.R_slice HO218.out; subst eo35) | (go_at_call 12; (with_reducible refine (lapidaryref14_Same.calls kj15 _ _ t210 _ _ t216 t219 _ ?side1 ?side2 ?side3 ?side4 A27.out).mono ?_); (case side1 => repeat (first | exact (Kd.R_reads' HO212.out).2.2 | (with_reducible refine Kd.C_alloc ?_ _) | (with_reducible refine Kd.C_drewN ?_ _) | (with_reducible refine Kd.C_drew ?_))); (case side2 => exact (Kd.R_reads' HO212.out).2.1); (case side3 => repeat (first | exact (Kd.R_reads' HO218.out).2.2 | (with_reducible refine Kd.C_alloc ?_ _) | (with_reducible refine Kd.C_drewN ?_ _) | (with_reducible refine Kd.C_drew ?_))); (case side4 => exact (Kd.R_reads' HO218.out).2.1); rintro e w' ⟨rfl, ⟨nd, rfl⟩⟩; (try first | exact ⟨rfl, _, World.drewN_drewN _ _ _⟩ | exact ⟨rfl, _, Eq.trans (World.drewN_drewN _ _ _) (congrArg (World.drewN _) (Nat.add_assoc _ _ _))⟩))))
                          go_ret
                          exact ⟨by first | rfl | (simp [errW_none, errW_some] <;> rfl) | (simp only [← hji5, ← hji8]; first | rfl | (simp [errW_none, errW_some] <;> rfl)) | (simp [*, errW_none, errW_some] <;> rfl), by repeat (first | (with_reducible first | exact HB.out | apply below_alloc | apply pw_below_drewN | apply below_drew1) | exact HB.out)⟩
                        · rw [if_neg c25] at H
                          exact absurd H (by simp)
                      · rw [if_neg c23] at H
                        have c23b0 : (t207 == 0) = false := beq_eq_false_iff_ne.mpr c23
                        have c23b1 : (t207 != 0) = true := bne_iff_ne.mpr c23
                        obtain rfl := Option.some.inj H
                        go_wp2
                        repeat (go_quiet (fail); try go_wp2)
                        go_ret
                        exact ⟨by first | rfl | (simp [errW_none, errW_some] <;> rfl) | (simp only [← hji5, ← hji8]; first | rfl | (simp [errW_none, errW_some] <;> rfl)) | (simp [*, errW_none, errW_some] <;> rfl), by repeat (first | (with_reducible first | exact HB.out | apply below_alloc | apply pw_below_drewN | apply below_drew1) | exact HB.out)⟩
              · rw [if_neg c14] at H
                exact absurd H (by simp)
            · rw [if_neg c13] at H
              exact absurd H (by simp)
          · rw [if_neg c10] at H
            exact absurd H (by simp)
        · rw [if_neg c9] at H
          exact absurd H (by simp)
      · rw [if_neg c7] at H
        exact absurd H (by simp)
    · rw [if_neg c6] at H
      exact absurd H (by simp)
  · replace c4 := Bool.eq_false_iff.mpr c4
    subst c4
    have H1 : (some false) = some r := by rw [if_neg (show ¬ (false = true) by decide)] at H; exact H
    clear H
    have H := H1
    clear H1
    obtain rfl := Option.some.inj H
    go_enter Tryd.func4, Tryd.ntmps4
    go_wp2_with (first | (go_at_call 9; (with_reducible refine (lapidarylaw14_awake.calls k  false _ (HE.out.below (by repeat (first | (with_reducible first | exact HB.out | apply below_alloc | apply pw_below_drewN | apply below_drew1) | exact HB.out))) A3.out).mono ?_); rintro e w36 ⟨rfl, hb⟩; have n0_ := Aside0.mk (below_step (by repeat (first | (with_reducible first | exact HB.out | apply below_alloc | apply pw_below_drewN | apply below_drew1) | exact HB.out)) hb); clear HB; have HB := n0_; clear n0_; (try clear hb); (try clear hb2); (try clear hk); (try clear hi)))
    repeat (go_quiet (first | (go_at_call 9; (with_reducible refine (lapidarylaw14_awake.calls k  false _ (HE.out.below (by repeat (first | (with_reducible first | exact HB.out | apply below_alloc | apply pw_below_drewN | apply below_drew1) | exact HB.out))) A3.out).mono ?_); rintro e w36 ⟨rfl, hb⟩; have n0_ := Aside0.mk (below_step (by repeat (first | (with_reducible first | exact HB.out | apply below_alloc | apply pw_below_drewN | apply below_drew1) | exact HB.out)) hb); clear HB; have HB := n0_; clear n0_; (try clear hb); (try clear hb2); (try clear hk); (try clear hi))); try go_wp2_with (first | (go_at_call 9; (with_reducible refine (lapidarylaw14_awake.calls k  false _ (HE.out.below (by repeat (first | (with_reducible first | exact HB.out | apply below_alloc | apply pw_below_drewN | apply below_drew1) | exact HB.out))) A3.out).mono ?_); rintro e w36 ⟨rfl, hb⟩; have n0_ := Aside0.mk (below_step (by repeat (first | (with_reducible first | exact HB.out | apply below_alloc | apply pw_below_drewN | apply below_drew1) | exact HB.out)) hb); clear HB; have HB := n0_; clear n0_; (try clear hb); (try clear hb2); (try clear hk); (try clear hi))))
    go_ret
    exact ⟨by first | rfl | (simp [errW_none, errW_some] <;> rfl) | (simp [*, errW_none, errW_some] <;> rfl), by repeat (first | (with_reducible first | exact HB.out | apply below_alloc | apply pw_below_drewN | apply below_drew1) | exact HB.out)⟩

/-- THE ONE PURE STATEMENT of lapidarylaw14_LexParts: yours. -/
def lapidarylaw14_LexParts.Pure : Prop := ∀ (a0 : ByteArray) (a1 : ByteArray), a0.size ≤ 140737488351232 → a1.size ≤ 140737488351232 → ∃ k, lapidarylaw14_LexParts.f k a0 a1 = some true
theorem lapidarylaw14_LexParts.walk (P : lapidarylaw14_LexParts.Pure) (a0 : ByteArray) (a1 : ByteArray) (w : World) (hE : UEnv w) (w0 : a0.size ≤ 140737488351232) (w1 : a1.size ≤ 140737488351232) :
    Calls Tryd.prog 4 #[.string a0, .string a1] w fun e w' => e = .returned (.bool true) ∧ Below w.heap.size w w' := by
  obtain ⟨k, h⟩ := P a0 a1 w0 w1
  refine (lapidarylaw14_LexParts.calls k a0 a1 true w hE h).mono ?_
  rintro e w' ⟨rfl, hd⟩
  exact ⟨rfl, hd⟩

end Go.Proofs.YtfbikpddpdkllaaDoor.Lx
