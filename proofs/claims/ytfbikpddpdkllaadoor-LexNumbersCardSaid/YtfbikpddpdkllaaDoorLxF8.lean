/-
  The lexer's reference and laws as plain functions, and that the Go text comes to their answers: written by a program (the kit's print, turned so that contracts made by hand stand in for what it does not take). Conditions: none beyond each theorem's own.
-/
import Derived.Test.YtfbikpddpdkllaaDoorLx0
import Derived.Test.YtfbikpddpdkllaaDoorLxF10
import Derived.Test.YtfbikpddpdkllaaDoorLxF9
import Derived.Test.YtfbikpddpdkllaaDoorLxF11
import Derived.Test.YtfbikpddpdkllaaDoorLxF12
import Derived.Test.YtfbikpddpdkllaaDoorLxF13
import Derived.Test.YtfbikpddpdkllaaDoorLxF15
namespace Go.Proofs.YtfbikpddpdkllaaDoor.Lx
open Go.RowKit Go.Proofs.YtfbikpddpdkllaaDoorW.PrintWords Go.Proofs.YtfbikpddpdkllaaDoorW.PrintLast Go.Proofs.YtfbikpddpdkllaaDoorW.PrintMore
attribute [local go_sem] max2_int min2_int max_two min_two max_three min_three max_four min_four   -- for this text's walks alone
set_option linter.unusedVariables false
set_option linter.unusedSimpArgs false

/-! ### lapidarylaw14_LexNumbers: function 8 -/
mutual
def lapidarylaw14_LexNumbers.j0 : Nat → Int → Int → ByteArray → Option (Bool)
  | 0, _, _, _ => none
  | k + 1, x0, x1, x2 => lapidarylaw14_LexNumbers.l0 k x0 x2 (⟨#[]⟩ : ByteArray) (Int.tmod x1 30) 0
def lapidarylaw14_LexNumbers.l0 : Nat → Int → ByteArray → ByteArray → Int → Int → Option (Bool)
  | 0, _, _, _, _, _ => none
  | k + 1, x0, x2, x7, x22, x23 => if x23 < x22 then (if x7.size + 1 ≤ 9223372036854775807 then (lapidarylaw14_LexNumbers.l0 k x0 x2 (x7 ++ (⟨#[48]⟩ : ByteArray)) x22 ((x23 + 1) % 256)) else (none)) else ((lapidaryref14_Join.f k (([(⟨2, (⟨#[]⟩ : ByteArray), x0⟩ : S35)] : List (S35)))).bind fun t284 => (if x7.size + t284.size ≤ 9223372036854775807 then ((lex_Split.f k (x7 ++ t284)).bind fun bt285 => (if bt285.2 = 0 then (if (bt285.1.length : Int) = 1 then (if 0 < (bt285.1.length : Int) then (if ((rd_T36 bt285.1 0).f0) = 2 then (lapidarylaw14_LexNumbers.j2 k x2 (x7 ++ t284) (((rd_T36 bt285.1 0).f2) != x0)) else (lapidarylaw14_LexNumbers.j2 k x2 (x7 ++ t284) true)) else (none)) else (lapidarylaw14_LexNumbers.j2 k x2 (x7 ++ t284) true)) else (lapidarylaw14_LexNumbers.j2 k x2 (x7 ++ t284) true))) else (none)))
def lapidarylaw14_LexNumbers.j2 : Nat → ByteArray → ByteArray → Bool → Option (Bool)
  | 0, _, _, _ => none
  | k + 1, x2, x7, x60 => if x60 = true then (some false) else (if 0 ≤ (mn (x2.size : Int) 30) then (if (mn (x2.size : Int) 30) ≤ (x2.size : Int) then (if x7.size + (x2.extract 0 ((mn (x2.size : Int) 30) : Int).toNat).size ≤ 9223372036854775807 then ((lex_Split.f k (x7 ++ (x2.extract 0 ((mn (x2.size : Int) 30) : Int).toNat))).bind fun bt291 => ((lapidaryref14_Split.f k (x7 ++ (x2.extract 0 ((mn (x2.size : Int) 30) : Int).toNat))).bind fun bt295 => (if bt291.2 = bt295.2 then ((lapidarylaw14_back.f k bt291.1).bind fun t299 => ((lapidaryref14_Same.f k t299 bt295.1).bind fun t302 => (some t302))) else (some false)))) else (none)) else (none)) else (none))
end
def lapidarylaw14_LexNumbers.f (k : Nat) (a0 : Int) (a1 : Int) (a2 : ByteArray) : Option (Bool) := (lapidarylaw14_awake.f k).bind fun t280 => (if t280 = true then (if a0 < 0 then (lapidarylaw14_LexNumbers.j0 k (wrap64 (-(wrap64 (a0 + 1)))) a1 a2) else (lapidarylaw14_LexNumbers.j0 k a0 a1 a2)) else (some false))
theorem lapidarylaw14_LexNumbers.mono_l : ∀ k, (∀ y0 y1 y2, LeO (lapidarylaw14_LexNumbers.j0 k y0 y1 y2) (lapidarylaw14_LexNumbers.j0 (k + 1) y0 y1 y2)) ∧ (∀ y0 y1 y2 y3 y4, LeO (lapidarylaw14_LexNumbers.l0 k y0 y1 y2 y3 y4) (lapidarylaw14_LexNumbers.l0 (k + 1) y0 y1 y2 y3 y4)) ∧ (∀ y0 y1 y2, LeO (lapidarylaw14_LexNumbers.j2 k y0 y1 y2) (lapidarylaw14_LexNumbers.j2 (k + 1) y0 y1 y2))
  | 0 => ⟨fun _ _ _ r h => by simp [lapidarylaw14_LexNumbers.j0] at h, fun _ _ _ _ _ r h => by simp [lapidarylaw14_LexNumbers.l0] at h, fun _ _ _ r h => by simp [lapidarylaw14_LexNumbers.j2] at h⟩
  | k + 1 => by
    obtain ⟨ih0, ih1, ih2⟩ := lapidarylaw14_LexNumbers.mono_l k
    refine ⟨?_, ?_, ?_⟩
    · intro y0 y1 y2
      unfold lapidarylaw14_LexNumbers.j0
      repeat' first
      | (with_reducible exact ih0 _ _ _)
      | (with_reducible exact ih1 _ _ _ _ _)
      | (with_reducible exact ih2 _ _ _)
      | (with_reducible exact lapidarylaw14_awake.mono _)
      | (with_reducible exact lapidarylaw14_back.mono _ _)
      | (with_reducible exact lapidaryref14_Join.mono _ _)
      | (with_reducible exact lapidaryref14_Same.mono _ _ _)
      | (with_reducible exact lapidaryref14_Split.mono _ _)
      | (with_reducible exact lex_Split.mono _ _)
      | (with_reducible exact LeO.refl _)
      | (with_reducible exact LeO.none _)
      | (with_reducible refine LeO.ite ?_ ?_)
      | (with_reducible refine LeO.bind ?_ (fun _ => ?_))
      | exact ih0 _ _ _
      | exact ih1 _ _ _ _ _
      | exact ih2 _ _ _
      | exact lapidarylaw14_awake.mono _
      | exact lapidarylaw14_back.mono _ _
      | exact lapidaryref14_Join.mono _ _
      | exact lapidaryref14_Same.mono _ _ _
      | exact lapidaryref14_Split.mono _ _
      | exact lex_Split.mono _ _
      | exact LeO.none _
      | refine LeO.ite ?_ ?_
      | refine LeO.bind ?_ (fun _ => ?_)
    · intro y0 y1 y2 y3 y4
      unfold lapidarylaw14_LexNumbers.l0
      repeat' first
      | (with_reducible exact ih0 _ _ _)
      | (with_reducible exact ih1 _ _ _ _ _)
      | (with_reducible exact ih2 _ _ _)
      | (with_reducible exact lapidarylaw14_awake.mono _)
      | (with_reducible exact lapidarylaw14_back.mono _ _)
      | (with_reducible exact lapidaryref14_Join.mono _ _)
      | (with_reducible exact lapidaryref14_Same.mono _ _ _)
      | (with_reducible exact lapidaryref14_Split.mono _ _)
      | (with_reducible exact lex_Split.mono _ _)
      | (with_reducible exact LeO.refl _)
      | (with_reducible exact LeO.none _)
      | (with_reducible refine LeO.ite ?_ ?_)
      | (with_reducible refine LeO.bind ?_ (fun _ => ?_))
      | exact ih0 _ _ _
      | exact ih1 _ _ _ _ _
      | exact ih2 _ _ _
      | exact lapidarylaw14_awake.mono _
      | exact lapidarylaw14_back.mono _ _
      | exact lapidaryref14_Join.mono _ _
      | exact lapidaryref14_Same.mono _ _ _
      | exact lapidaryref14_Split.mono _ _
      | exact lex_Split.mono _ _
      | exact LeO.none _
      | refine LeO.ite ?_ ?_
      | refine LeO.bind ?_ (fun _ => ?_)
    · intro y0 y1 y2
      unfold lapidarylaw14_LexNumbers.j2
      repeat' first
      | (with_reducible exact ih0 _ _ _)
      | (with_reducible exact ih1 _ _ _ _ _)
      | (with_reducible exact ih2 _ _ _)
      | (with_reducible exact lapidarylaw14_awake.mono _)
      | (with_reducible exact lapidarylaw14_back.mono _ _)
      | (with_reducible exact lapidaryref14_Join.mono _ _)
      | (with_reducible exact lapidaryref14_Same.mono _ _ _)
      | (with_reducible exact lapidaryref14_Split.mono _ _)
      | (with_reducible exact lex_Split.mono _ _)
      | (with_reducible exact LeO.refl _)
      | (with_reducible exact LeO.none _)
      | (with_reducible refine LeO.ite ?_ ?_)
      | (with_reducible refine LeO.bind ?_ (fun _ => ?_))
      | exact ih0 _ _ _
      | exact ih1 _ _ _ _ _
      | exact ih2 _ _ _
      | exact lapidarylaw14_awake.mono _
      | exact lapidarylaw14_back.mono _ _
      | exact lapidaryref14_Join.mono _ _
      | exact lapidaryref14_Same.mono _ _ _
      | exact lapidaryref14_Split.mono _ _
      | exact lex_Split.mono _ _
      | exact LeO.none _
      | refine LeO.ite ?_ ?_
      | refine LeO.bind ?_ (fun _ => ?_)
theorem lapidarylaw14_LexNumbers.mono : ∀ a0 a1 a2 k, LeO (lapidarylaw14_LexNumbers.f k a0 a1 a2) (lapidarylaw14_LexNumbers.f (k + 1) a0 a1 a2) := by
  intro a0 a1 a2 k
  obtain ⟨ih0, ih1, ih2⟩ := lapidarylaw14_LexNumbers.mono_l k
  unfold lapidarylaw14_LexNumbers.f
  repeat' first
      | (with_reducible exact ih0 _ _ _)
      | (with_reducible exact ih1 _ _ _ _ _)
      | (with_reducible exact ih2 _ _ _)
      | (with_reducible exact lapidarylaw14_awake.mono _)
      | (with_reducible exact lapidarylaw14_back.mono _ _)
      | (with_reducible exact lapidaryref14_Join.mono _ _)
      | (with_reducible exact lapidaryref14_Same.mono _ _ _)
      | (with_reducible exact lapidaryref14_Split.mono _ _)
      | (with_reducible exact lex_Split.mono _ _)
      | (with_reducible exact LeO.refl _)
      | (with_reducible exact LeO.none _)
      | (with_reducible refine LeO.ite ?_ ?_)
      | (with_reducible refine LeO.bind ?_ (fun _ => ?_))
      | exact ih0 _ _ _
      | exact ih1 _ _ _ _ _
      | exact ih2 _ _ _
      | exact lapidarylaw14_awake.mono _
      | exact lapidarylaw14_back.mono _ _
      | exact lapidaryref14_Join.mono _ _
      | exact lapidaryref14_Same.mono _ _ _
      | exact lapidaryref14_Split.mono _ _
      | exact lex_Split.mono _ _
      | exact LeO.none _
      | refine LeO.ite ?_ ?_
      | refine LeO.bind ?_ (fun _ => ?_)
set_option maxHeartbeats 8000000 in
set_option maxRecDepth 100000 in
theorem lapidarylaw14_LexNumbers.calls (k : Nat) (a0 : Int) (a1 : Int) (a2 : ByteArray) (r : Bool) (w : World) (hE : UEnv w) (h : lapidarylaw14_LexNumbers.f k a0 a1 a2 = some r) :
    Calls Tryd.prog 8 #[.int .i64 a0, .int .u8 a1, .string a2] w fun e w' => e = .returned (.bool r) ∧ Below w.heap.size w w' := by
  have hu35 := Tryd.underlying35
  have HB := Aside0.mk (Below.refl w.heap.size w)
  have HE := Aside0.mk hE
  clear hE
  have H : ((lapidarylaw14_awake.f k).bind fun t280 => (if t280 = true then (if a0 < 0 then (lapidarylaw14_LexNumbers.j0 k (wrap64 (-(wrap64 (a0 + 1)))) a1 a2) else (lapidarylaw14_LexNumbers.j0 k a0 a1 a2)) else (some false))) = some r := h
  clear h
  replace H := Option.bind_eq_some_iff.mp H
  obtain ⟨t280, A40, H⟩ := H
  replace H : (if t280 = true then (if a0 < 0 then (lapidarylaw14_LexNumbers.j0 k (wrap64 (-(wrap64 (a0 + 1)))) a1 a2) else (lapidarylaw14_LexNumbers.j0 k a0 a1 a2)) else (some false)) = some r := H
  have A4 := Aside0.mk A40
  clear A40
  by_cases c5 : t280 = true
  · subst c5
    have H1 : (if a0 < 0 then (lapidarylaw14_LexNumbers.j0 k (wrap64 (-(wrap64 (a0 + 1)))) a1 a2) else (lapidarylaw14_LexNumbers.j0 k a0 a1 a2)) = some r := by rw [if_pos rfl] at H; exact H
    clear H
    have H := H1
    clear H1
    have HC6 := Aside0.mk H
    clear H
    go_enter Tryd.func8, Tryd.ntmps8
    go_upto_if 17 with (first | ((with_reducible refine gate_callee (f := 9) rfl ?_); refine goesL_ (some 14) rfl rfl Tryd.func9 (by kernel_rfl) rfl #[] rfl (by (try simp only [List.map_toArray, List.map_cons, List.map_nil]); first | done | rfl | (simp only [List.length_drop, List.length_take]; rfl)) ?_; (with_reducible refine (lapidarylaw14_awake.calls k  true _ (HE.out.below (by repeat (first | (with_reducible first | exact HB.out | apply below_alloc | apply pw_below_drewN | apply below_drew1) | exact HB.out))) A4.out).mono ?_); rintro e w7 ⟨rfl, hb⟩; refine ⟨_, rfl, ?_⟩; have n0_ := Aside0.mk (below_step (by repeat (first | (with_reducible first | exact HB.out | apply below_alloc | apply pw_below_drewN | apply below_drew1) | exact HB.out)) hb); clear HB; have HB := n0_; clear n0_; (try clear hb); (try clear hb2); (try clear hk); (try clear hi)))
    (try simp only [Act.put, List.setIfInBounds_toArray, List.set_cons_zero, List.set_cons_succ])
    go_cut [0] (fun v0 wc => ∃ (kq : Nat) (x0_5 : Int), v0 = .int .i64 x0_5 ∧ Aside0 (lapidarylaw14_LexNumbers.j0 kq x0_5 a1 a2 = some r) ∧ Aside0 (kq ≤ k) ∧ Aside0 (Below w.heap.size w wc))
    case first =>
      have H := HC6.out
      clear HC6
      by_cases c8 : a0 < 0
      · rw [if_pos c8] at H
        have c8b0 : decide (a0 < 0) = true := decide_eq_true c8
        clear c8
        (first | rw [c8b0] | (simp only [i64_w, i32_w]; rw [c8b0]) | skip)
        have H' := Aside0.mk H
        clear H
        go_wp2
        go_meet
        case rel => exact ⟨_, (wrap64 (-(wrap64 (a0 + 1)))), (by first | rfl | (simp; done) | (simp [*]; done)), H', ⟨by first | omega | exact Nat.le_refl _⟩, ⟨by repeat (first | (with_reducible first | exact HB.out | apply below_alloc | apply pw_below_drewN | apply below_drew1) | exact HB.out)⟩⟩
      · rw [if_neg c8] at H
        have c8b0 : decide (a0 < 0) = false := decide_eq_false c8
        clear c8
        (first | rw [c8b0] | (simp only [i64_w, i32_w]; rw [c8b0]) | skip)
        have H' := Aside0.mk H
        clear H
        go_wp2
        go_meet
        case rel => exact ⟨_, (a0), (by first | rfl | (simp; done) | (simp [*]; done)), H', ⟨by first | omega | exact Nat.le_refl _⟩, ⟨by repeat (first | (with_reducible first | exact HB.out | apply below_alloc | apply pw_below_drewN | apply below_drew1) | exact HB.out)⟩⟩
    case rest =>
      clear HC6
      try clear p2
      try clear c5
      try clear p6
      try clear c8
      try clear c8b0
      obtain ⟨kq, x0_5, rfl, HA, HJ5, HB⟩ := hcut
      cases kq with
      | zero => exact absurd HA.out (by simp [lapidarylaw14_LexNumbers.j0])
      | succ kj5 =>
        have H := HA.out
        clear HA
        simp only [lapidarylaw14_LexNumbers.j0] at H
        have H' := Aside0.mk H
        clear H
        go_wp2
        go_loopg [7, 23] kj5 (fun kq v7 v23 w' => ∃ (x7_2 : ByteArray) (x23_2 : Int), v7 = .string x7_2 ∧ v23 = .int .u8 x23_2 ∧ Aside0 (lapidarylaw14_LexNumbers.l0 kq x0_5 a2 x7_2 (Int.tmod a1 30) x23_2 = some r) ∧ Aside0 (kq ≤ kj5) ∧ Aside0 (Below w.heap.size w w'))
        case atStart => exact ⟨((⟨#[]⟩ : ByteArray)), (0), (by first | rfl | (simp; done) | (simp [*]; done)), (by first | rfl | (simp; done) | (simp [*]; done)), H', ⟨Nat.le_refl _⟩, ⟨by repeat (first | (with_reducible first | exact HB.out | apply below_alloc | apply pw_below_drewN | apply below_drew1) | exact HB.out)⟩⟩
        case round =>
          clear H'
          try clear p2
          try clear c5
          try clear p6
          try clear c8
          try clear c8b0
          try clear p2
          try clear p6
          obtain ⟨x7_2, x23_2, rfl, rfl, HA, HK2, HB⟩ := hrel
          cases gk with
          | zero => exact absurd HA.out (by simp [lapidarylaw14_LexNumbers.l0])
          | succ k2 =>
            have H := HA.out
            clear HA
            simp only [lapidarylaw14_LexNumbers.l0] at H
            by_cases c9 : x23_2 < (Int.tmod a1 30)
            · rw [if_pos c9] at H
              have c9b0 : decide (x23_2 < (Int.tmod a1 30)) = true := decide_eq_true c9
              clear c9
              by_cases c10 : x7_2.size + 1 ≤ 9223372036854775807
              · rw [if_pos c10] at H
                have c10b0 := eq_true c10
                have c10b1 : decide (x7_2.size + 1 ≤ 9223372036854775807) = true := decide_eq_true c10
                try have c10b2 : (9223372036854775807 < x7_2.size + 1) = False := eq_false (Nat.not_lt.2 c10)
                have H' := Aside0.mk H
                clear H
                go_wp2
                go_roundg k2
                case measure => have := HJ5.out; have := HK2.out; omega
                case rel => exact ⟨(x7_2 ++ (⟨#[48]⟩ : ByteArray)), ((x23_2 + 1) % 256), (by first | rfl | (simp; done) | (simp [*]; done)), (by first | rfl | (simp; done) | (simp [*]; done)), H', ⟨by have := HJ5.out; have := HK2.out; omega⟩, ⟨by repeat (first | (with_reducible first | exact HB.out | apply below_alloc | apply pw_below_drewN | apply below_drew1) | exact HB.out)⟩⟩
              · rw [if_neg c10] at H
                exact absurd H (by simp)
            · rw [if_neg c9] at H
              have c9b0 : decide (x23_2 < (Int.tmod a1 30)) = false := decide_eq_false c9
              clear c9
              obtain ⟨y281, hy281⟩ : ∃ y_ : List (S35), y_ = (([(⟨2, (⟨#[]⟩ : ByteArray), x0_5⟩ : S35)] : List (S35))) := ⟨_, rfl⟩
              replace H : ((lapidaryref14_Join.f k2 y281).bind fun t284 => (if x7_2.size + t284.size ≤ 9223372036854775807 then ((lex_Split.f k2 (x7_2 ++ t284)).bind fun bt285 => (if bt285.2 = 0 then (if (bt285.1.length : Int) = 1 then (if 0 < (bt285.1.length : Int) then (if ((rd_T36 bt285.1 0).f0) = 2 then (lapidarylaw14_LexNumbers.j2 k2 a2 (x7_2 ++ t284) (((rd_T36 bt285.1 0).f2) != x0_5)) else (lapidarylaw14_LexNumbers.j2 k2 a2 (x7_2 ++ t284) true)) else (none)) else (lapidarylaw14_LexNumbers.j2 k2 a2 (x7_2 ++ t284) true)) else (lapidarylaw14_LexNumbers.j2 k2 a2 (x7_2 ++ t284) true))) else (none))) = some r := by first | (rw [hy281]; with_reducible exact H) | (have H2_ := (Option.bind_some _ _).symm.trans H; rw [hy281]; with_reducible exact H2_) | (have H2_ := (Option.bind_some _ _).symm.trans H; with_reducible exact H2_) | with_reducible exact H | (rw [hy281]; exact H) | exact H
              have Ny281 := Aside0.mk hy281
              clear hy281
              replace H := Option.bind_eq_some_iff.mp H
              obtain ⟨t284, A110, H⟩ := H
              replace H : (if x7_2.size + t284.size ≤ 9223372036854775807 then ((lex_Split.f k2 (x7_2 ++ t284)).bind fun bt285 => (if bt285.2 = 0 then (if (bt285.1.length : Int) = 1 then (if 0 < (bt285.1.length : Int) then (if ((rd_T36 bt285.1 0).f0) = 2 then (lapidarylaw14_LexNumbers.j2 k2 a2 (x7_2 ++ t284) (((rd_T36 bt285.1 0).f2) != x0_5)) else (lapidarylaw14_LexNumbers.j2 k2 a2 (x7_2 ++ t284) true)) else (none)) else (lapidarylaw14_LexNumbers.j2 k2 a2 (x7_2 ++ t284) true)) else (lapidarylaw14_LexNumbers.j2 k2 a2 (x7_2 ++ t284) true))) else (none)) = some r := H
              have A11 := Aside0.mk A110
              clear A110
              by_cases c12 : x7_2.size + t284.size ≤ 9223372036854775807
              · rw [if_pos c12] at H
                have c12b0 := eq_true c12
                have c12b1 : decide (x7_2.size + t284.size ≤ 9223372036854775807) = true := decide_eq_true c12
                try have c12b2 : (9223372036854775807 < x7_2.size + t284.size) = False := eq_false (Nat.not_lt.2 c12)
                replace H := Option.bind_eq_some_iff.mp H
                obtain ⟨⟨t285, t286⟩, A130, H⟩ := H
                replace H : (if t286 = 0 then (if (t285.length : Int) = 1 then (if 0 < (t285.length : Int) then (if ((rd_T36 t285 0).f0) = 2 then (lapidarylaw14_LexNumbers.j2 k2 a2 (x7_2 ++ t284) (((rd_T36 t285 0).f2) != x0_5)) else (lapidarylaw14_LexNumbers.j2 k2 a2 (x7_2 ++ t284) true)) else (none)) else (lapidarylaw14_LexNumbers.j2 k2 a2 (x7_2 ++ t284) true)) else (lapidarylaw14_LexNumbers.j2 k2 a2 (x7_2 ++ t284) true)) = some r := H
                have A13 := Aside0.mk A130
                clear A130
                have HC14 := Aside0.mk H
                clear H
                go_upto_region 12 with (first | ((with_reducible refine gate_dst (N := 31) rfl ?_); (try (refine gate_guard (by rfl) ?_; dsimp only)); refine Kd.R_lit k35 _ 35 ?hg (N := 31) ?hd (xs := ([(⟨2, (⟨#[]⟩ : ByteArray), x0_5⟩ : S35)] : List (S35))) (inner := [.int .u8 2, .string (⟨#[]⟩ : ByteArray), .int .i64 x0_5]) (ok := fun _ => True) (okp := fun _ => True) ?hr ?hp (fun _ hk => hk) trivial (Below.refl _ _) (Nat.le_refl _) (by simp) ?_; (case hd => rfl); (case hg => rfl); (case hr => first | (go_simp; done) | (go_simp; rfl)); (case hp => exact (Reps.c3 (show Kd.M k35 _ _ _ (⟨2, (⟨#[]⟩ : ByteArray), x0_5⟩ : S35) [.int .u8 2, .string (⟨#[]⟩ : ByteArray), .int .i64 x0_5] from (k35_mkM _ _ _ (⟨2, (⟨#[]⟩ : ByteArray), x0_5⟩ : S35) )) (Reps.none _ _))); intro v282 w15 ho16 hb hg_ hnew_; clear hg_ hnew_; (first | rw [← Ny281.out] at ho16 | (simp only [Int.reduceToNat] at ho16; rw [← Ny281.out] at ho16)); have n0_ := Aside0.mk (Kd.R_lower ho16 (below_size (by repeat (first | (with_reducible first | exact HB.out | apply below_alloc | apply pw_below_drewN | apply below_drew1) | exact HB.out)))); have n1_ := Aside0.mk (below_step (by repeat (first | (with_reducible first | exact HB.out | apply below_alloc | apply pw_below_drewN | apply below_drew1) | exact HB.out)) hb); clear HB; have HO283 := n0_; have HB := n1_; clear n0_ n1_; clear hb ho16; obtain ⟨Ao17, co17, eo17⟩ := Kd.R_slice HO283.out; subst eo17) | ((with_reducible refine gate_callee (f := 15) rfl ?_); refine goesL_ (some 32) rfl rfl Tryd.func15 (by kernel_rfl) rfl #[.slice Ao17 y281.length co17] rfl (by (try simp only [List.map_toArray, List.map_cons, List.map_nil]); first | done | rfl | (simp only [List.length_drop, List.length_take]; rfl)) ?_; (with_reducible refine (lapidaryref14_Join.calls k2 _ _ y281 t284 _ ?side1 ?side2 A11.out).mono ?_); (case side1 => repeat (first | exact (Kd.R_reads' HO283.out).2.2 | (with_reducible refine Kd.C_alloc ?_ _) | (with_reducible refine Kd.C_drewN ?_ _) | (with_reducible refine Kd.C_drew ?_))); (case side2 => exact (Kd.R_reads' HO283.out).2.1); rintro e w18 ⟨rfl, hb⟩; refine ⟨_, rfl, ?_⟩; have n0_ := Aside0.mk (Kd.R_below (by (with_reducible repeat (first | apply Kd.R_alloc | apply Kd.R_drewN | apply Kd.R_drew)); exact HO283.out) hb); have n1_ := Aside0.mk (below_step (by repeat (first | (with_reducible first | exact HB.out | apply below_alloc | apply pw_below_drewN | apply below_drew1) | exact HB.out)) hb); clear HO283; clear HB; have HO283 := n0_; have HB := n1_; clear n0_ n1_; (try clear hb); (try clear hb2); (try clear hk); (try clear hi)) | ((with_reducible refine gate_callee (f := 10) rfl ?_); refine goesL_ (some 36) rfl rfl Tryd.func10 (by kernel_rfl) rfl #[.string (x7_2 ++ t284)] rfl (by (try simp only [List.map_toArray, List.map_cons, List.map_nil]); first | done | rfl | (simp only [List.length_drop, List.length_take]; rfl)) ?_; (with_reducible refine (lex_Split.calls k2 (x7_2 ++ t284) t285 t286 _ (HE.out.below (by repeat (first | (with_reducible first | exact HB.out | apply below_alloc | apply pw_below_drewN | apply below_drew1) | exact HB.out))) A13.out).mono ?_); rintro e w19 ⟨v287, rfl, ho0, hb⟩; refine ⟨_, rfl, ?_⟩; have n0_ := Aside0.mk (Kd.R_below (by (with_reducible repeat (first | apply Kd.R_alloc | apply Kd.R_drewN | apply Kd.R_drew)); exact HO283.out) hb); have n1_ := Aside0.mk (Kd.R_lower ho0 (below_size (by repeat (first | (with_reducible first | exact HB.out | apply below_alloc | apply pw_below_drewN | apply below_drew1) | exact HB.out)))); have n2_ := Aside0.mk (below_step (by repeat (first | (with_reducible first | exact HB.out | apply below_alloc | apply pw_below_drewN | apply below_drew1) | exact HB.out)) hb); clear HO283; clear HB; have HO283 := n0_; have HO288 := n1_; have HB := n2_; clear n0_ n1_ n2_; (try clear hb); (try clear hb2); (try clear hk); (try clear hi); (try clear ho0)))
                (try simp only [Act.put, List.setIfInBounds_toArray, List.set_cons_zero, List.set_cons_succ])
                go_cut [60] (fun v60 wc => ∃ (kq : Nat) (x60_13 : Bool), v60 = .bool x60_13 ∧ Aside0 (lapidarylaw14_LexNumbers.j2 kq a2 (x7_2 ++ t284) x60_13 = some r) ∧ Aside0 (kq ≤ k2) ∧ Aside0 (Below w.heap.size w wc))
                case first =>
                  have H := HC14.out
                  clear HC14
                  by_cases c20 : t286 = 0
                  · rw [if_pos c20] at H
                    have c20b0 : (t286 == 0) = true := beq_iff_eq.mpr c20
                    have c20b1 : (t286 != 0) = false := bne_eq_false_iff_eq.mpr c20
                    clear c20
                    (first | rw [c20b0] | (simp only [i64_w, i32_w]; rw [c20b0]) | skip)
                    by_cases c21 : (t285.length : Int) = 1
                    · rw [if_pos c21] at H
                      have c21b0 : ((t285.length : Int) == 1) = true := beq_iff_eq.mpr c21
                      have c21b1 : ((t285.length : Int) != 1) = false := bne_eq_false_iff_eq.mpr c21
                      clear c21
                      by_cases c22 : 0 < (t285.length : Int)
                      · rw [if_pos c22] at H
                        have c22b0 : decide (0 < (t285.length : Int)) = true := decide_eq_true c22
                        have c22b1 : decide (0 < t285.length) = true := decide_eq_true (by omega)
                        clear c22
                        by_cases c23 : ((rd_T36 t285 0).f0) = 2
                        · rw [if_pos c23] at H
                          have c23b0 : (((rd_T36 t285 0).f0) == 2) = true := beq_iff_eq.mpr c23
                          have c23b1 : (((rd_T36 t285 0).f0) != 2) = false := bne_eq_false_iff_eq.mpr c23
                          clear c23
                          have H' := Aside0.mk H
                          clear H
                          obtain ⟨Ao24, co24, eo24⟩ := Kd.R_slice HO288.out
                          subst eo24
                          have p289 : 0 ≤ (0 : Int) := (by omega)
                          have q289 : 0 < (t285.length : Int) := of_decide_eq_true (by first | (with_reducible assumption) | assumption)
                          obtain ⟨ad289, e289, hx289_0, hx289_1, hx289_2⟩ := at_T36 (Kd.R_reads' HO288.out).2.2 0 p289 q289
                          cases e289
                          have qi289 : (0 < t285.length) = True := eq_true (by omega)
                          (try rw [show ((0 : Int)).toNat = 0 from rfl] at hx289_0)
                          (try rw [show 0 * 3 = 0 from rfl] at hx289_0)
                          (try rw [Addr.add_zero'] at hx289_0)
                          (try rw [show ((0 : Int)).toNat = 0 from rfl] at hx289_1)
                          (try rw [show 0 * 3 = 0 from rfl] at hx289_1)
                          (try rw [Addr.add_zero'] at hx289_1)
                          (try rw [show ((0 : Int)).toNat = 0 from rfl] at hx289_2)
                          (try rw [show 0 * 3 = 0 from rfl] at hx289_2)
                          (try rw [Addr.add_zero'] at hx289_2)
                          replace p289 := eq_true p289
                          replace q289 := eq_true q289
                          have p290 : 0 ≤ (0 : Int) := (by omega)
                          have q290 : 0 < (t285.length : Int) := of_decide_eq_true (by first | (with_reducible assumption) | assumption)
                          obtain ⟨ad290, e290, hx290_0, hx290_1, hx290_2⟩ := at_T36 (Kd.R_reads' HO288.out).2.2 0 p290 q290
                          obtain rfl : ad289 = ad290 := (by injection e290)
                          have qi290 : (0 < t285.length) = True := eq_true (by omega)
                          (try rw [show ((0 : Int)).toNat = 0 from rfl] at hx290_0)
                          (try rw [show 0 * 3 = 0 from rfl] at hx290_0)
                          (try rw [Addr.add_zero'] at hx290_0)
                          (try rw [show ((0 : Int)).toNat = 0 from rfl] at hx290_1)
                          (try rw [show 0 * 3 = 0 from rfl] at hx290_1)
                          (try rw [Addr.add_zero'] at hx290_1)
                          (try rw [show ((0 : Int)).toNat = 0 from rfl] at hx290_2)
                          (try rw [show 0 * 3 = 0 from rfl] at hx290_2)
                          (try rw [Addr.add_zero'] at hx290_2)
                          replace p290 := eq_true p290
                          replace q290 := eq_true q290
                          go_wp2
                          go_meet
                          case rel => exact ⟨_, ((((rd_T36 t285 0).f2) != x0_5)), (by first | rfl | (simp; done) | (simp [*]; done)), H', ⟨by have := HJ5.out; have := HK2.out; first | omega | exact Nat.le_refl _⟩, ⟨by repeat (first | (with_reducible first | exact HB.out | apply below_alloc | apply pw_below_drewN | apply below_drew1) | exact HB.out)⟩⟩
                        · rw [if_neg c23] at H
                          have c23b0 : (((rd_T36 t285 0).f0) == 2) = false := beq_eq_false_iff_ne.mpr c23
                          have c23b1 : (((rd_T36 t285 0).f0) != 2) = true := bne_iff_ne.mpr c23
                          have H' := Aside0.mk H
                          clear H
                          obtain ⟨Ao25, co25, eo25⟩ := Kd.R_slice HO288.out
                          subst eo25
                          have p289 : 0 ≤ (0 : Int) := (by omega)
                          have q289 : 0 < (t285.length : Int) := of_decide_eq_true (by first | (with_reducible assumption) | assumption)
                          obtain ⟨ad289, e289, hx289_0, hx289_1, hx289_2⟩ := at_T36 (Kd.R_reads' HO288.out).2.2 0 p289 q289
                          cases e289
                          have qi289 : (0 < t285.length) = True := eq_true (by omega)
                          (try rw [show ((0 : Int)).toNat = 0 from rfl] at hx289_0)
                          (try rw [show 0 * 3 = 0 from rfl] at hx289_0)
                          (try rw [Addr.add_zero'] at hx289_0)
                          (try rw [show ((0 : Int)).toNat = 0 from rfl] at hx289_1)
                          (try rw [show 0 * 3 = 0 from rfl] at hx289_1)
                          (try rw [Addr.add_zero'] at hx289_1)
                          (try rw [show ((0 : Int)).toNat = 0 from rfl] at hx289_2)
                          (try rw [show 0 * 3 = 0 from rfl] at hx289_2)
                          (try rw [Addr.add_zero'] at hx289_2)
                          replace p289 := eq_true p289
                          replace q289 := eq_true q289
                          go_wp2
                          go_meet
                          case rel => exact ⟨_, (true), (by first | rfl | (simp; done) | (simp [*]; done)), H', ⟨by have := HJ5.out; have := HK2.out; first | omega | exact Nat.le_refl _⟩, ⟨by repeat (first | (with_reducible first | exact HB.out | apply below_alloc | apply pw_below_drewN | apply below_drew1) | exact HB.out)⟩⟩
                      · rw [if_neg c22] at H
                        exact absurd H (by simp)
                    · rw [if_neg c21] at H
                      have c21b0 : ((t285.length : Int) == 1) = false := beq_eq_false_iff_ne.mpr c21
                      have c21b1 : ((t285.length : Int) != 1) = true := bne_iff_ne.mpr c21
                      have H' := Aside0.mk H
                      clear H
                      obtain ⟨Ao26, co26, eo26⟩ := Kd.R_slice HO288.out
                      subst eo26
                      go_wp2
                      go_meet
                      case rel => exact ⟨_, (true), (by first | rfl | (simp; done) | (simp [*]; done)), H', ⟨by have := HJ5.out; have := HK2.out; first | omega | exact Nat.le_refl _⟩, ⟨by repeat (first | (with_reducible first | exact HB.out | apply below_alloc | apply pw_below_drewN | apply below_drew1) | exact HB.out)⟩⟩
                  · rw [if_neg c20] at H
                    have c20b0 : (t286 == 0) = false := beq_eq_false_iff_ne.mpr c20
                    have c20b1 : (t286 != 0) = true := bne_iff_ne.mpr c20
                    (first | rw [c20b0] | (simp only [i64_w, i32_w]; rw [c20b0]) | skip)
                    have H' := Aside0.mk H
                    clear H
                    go_wp2
                    go_meet
                    case rel => exact ⟨_, (true), (by first | rfl | (simp; done) | (simp [*]; done)), H', ⟨by have := HJ5.out; have := HK2.out; first | omega | exact Nat.le_refl _⟩, ⟨by repeat (first | (with_reducible first | exact HB.out | apply below_alloc | apply pw_below_drewN | apply below_drew1) | exact HB.out)⟩⟩
                case rest =>
                  clear HC14
                  try clear c1
                  try clear c2
                  try clear p2
                  try clear q2
                  try clear hx2
                  try clear qi2
                  try clear c3
                  try clear c5
                  try clear p6
                  try clear c8
                  try clear c8b0
                  try clear c9
                  try clear c9b0
                  try clear c10
                  try clear c10b0
                  try clear c10b1
                  try clear c10b2
                  try clear c12
                  try clear c12b0
                  try clear c12b1
                  try clear c12b2
                  try clear c15
                  try clear c20
                  try clear c20b0
                  try clear c20b1
                  try clear c21
                  try clear c21b0
                  try clear c21b1
                  try clear c22
                  try clear c22b0
                  try clear c22b1
                  try clear c23
                  try clear c23b0
                  try clear c23b1
                  try clear hx289_0
                  try clear hx289_1
                  try clear hx289_2
                  try clear hx290_0
                  try clear hx290_1
                  try clear hx290_2
                  try clear p2
                  try clear p289
                  try clear p290
                  try clear p6
                  try clear q289
                  try clear q290
                  obtain ⟨kq, x60_13, rfl, HA, HJ13, HB⟩ := hcut
                  cases kq with
                  | zero => exact absurd HA.out (by simp [lapidarylaw14_LexNumbers.j2])
                  | succ kj13 =>
                    have H := HA.out
                    clear HA
                    simp only [lapidarylaw14_LexNumbers.j2] at H
                    by_cases c27 : x60_13 = true
                    · subst c27
                      have H1 : (some false) = some r := by rw [if_pos rfl] at H; exact H
                      clear H
                      have H := H1
                      clear H1
                      obtain rfl := Option.some.inj H
                      go_wp2
                      go_ret
                      exact ⟨by first | rfl | (simp [errW_none, errW_some] <;> rfl) | (simp [*, errW_none, errW_some] <;> rfl), by repeat (first | (with_reducible first | exact HB.out | apply below_alloc | apply pw_below_drewN | apply below_drew1) | exact HB.out)⟩
                    · replace c27 := Bool.eq_false_iff.mpr c27
                      subst c27
                      have H1 : (if 0 ≤ (mn (a2.size : Int) 30) then (if (mn (a2.size : Int) 30) ≤ (a2.size : Int) then (if (x7_2 ++ t284).size + (a2.extract 0 ((mn (a2.size : Int) 30) : Int).toNat).size ≤ 9223372036854775807 then ((lex_Split.f kj13 ((x7_2 ++ t284) ++ (a2.extract 0 ((mn (a2.size : Int) 30) : Int).toNat))).bind fun bt291 => ((lapidaryref14_Split.f kj13 ((x7_2 ++ t284) ++ (a2.extract 0 ((mn (a2.size : Int) 30) : Int).toNat))).bind fun bt295 => (if bt291.2 = bt295.2 then ((lapidarylaw14_back.f kj13 bt291.1).bind fun t299 => ((lapidaryref14_Same.f kj13 t299 bt295.1).bind fun t302 => (some t302))) else (some false)))) else (none)) else (none)) else (none)) = some r := by rw [if_neg (show ¬ (false = true) by decide)] at H; exact H
                      clear H
                      have H := H1
                      clear H1
                      obtain ⟨ji28, hji28⟩ : ∃ j_ : Int, (mn (a2.size : Int) 30) = j_ := ⟨_, rfl⟩
                      replace H : (if 0 ≤ (ji28) then (if (ji28) ≤ (a2.size : Int) then (if (x7_2 ++ t284).size + (a2.extract 0 ((ji28) : Int).toNat).size ≤ 9223372036854775807 then ((lex_Split.f kj13 ((x7_2 ++ t284) ++ (a2.extract 0 ((ji28) : Int).toNat))).bind fun bt291 => ((lapidaryref14_Split.f kj13 ((x7_2 ++ t284) ++ (a2.extract 0 ((ji28) : Int).toNat))).bind fun bt295 => (if bt291.2 = bt295.2 then ((lapidarylaw14_back.f kj13 bt291.1).bind fun t299 => ((lapidaryref14_Same.f kj13 t299 bt295.1).bind fun t302 => (some t302))) else (some false)))) else (none)) else (none)) else (none)) = some r := by first | (rw [hji28] at H; exact H) | (simp only [hji28] at H ⊢; exact H)
                      have hji28_ : (if 30 < (a2.size : Int) then 30 else (a2.size : Int)) = ji28 := hji28
                      by_cases c29 : 0 ≤ (ji28)
                      · rw [if_pos c29] at H
                        have c29b0 := eq_true c29
                        have c29b1 : decide (0 ≤ (ji28)) = true := decide_eq_true c29
                        clear c29
                        by_cases c30 : (ji28) ≤ (a2.size : Int)
                        · rw [if_pos c30] at H
                          have c30b0 := eq_true c30
                          have c30b1 : decide ((ji28) ≤ (a2.size : Int)) = true := decide_eq_true c30
                          clear c30
                          by_cases c31 : (x7_2 ++ t284).size + (a2.extract 0 ((ji28) : Int).toNat).size ≤ 9223372036854775807
                          · rw [if_pos c31] at H
                            have c31b0 := eq_true c31
                            have c31b1 : decide ((x7_2 ++ t284).size + (a2.extract 0 ((ji28) : Int).toNat).size ≤ 9223372036854775807) = true := decide_eq_true c31
                            try have c31b2 : (9223372036854775807 < (x7_2 ++ t284).size + (a2.extract 0 ((ji28) : Int).toNat).size) = False := eq_false (Nat.not_lt.2 c31)
                            replace H := Option.bind_eq_some_iff.mp H
                            obtain ⟨⟨t291, t292⟩, A320, H⟩ := H
                            replace H : ((lapidaryref14_Split.f kj13 ((x7_2 ++ t284) ++ (a2.extract 0 ((ji28) : Int).toNat))).bind fun bt295 => (if t292 = bt295.2 then ((lapidarylaw14_back.f kj13 t291).bind fun t299 => ((lapidaryref14_Same.f kj13 t299 bt295.1).bind fun t302 => (some t302))) else (some false))) = some r := H
                            have A32 := Aside0.mk A320
                            clear A320
                            replace H := Option.bind_eq_some_iff.mp H
                            obtain ⟨⟨t295, t296⟩, A330, H⟩ := H
                            replace H : (if t292 = t296 then ((lapidarylaw14_back.f kj13 t291).bind fun t299 => ((lapidaryref14_Same.f kj13 t299 t295).bind fun t302 => (some t302))) else (some false)) = some r := H
                            have A33 := Aside0.mk A330
                            clear A330
                            by_cases c34 : t292 = t296
                            · rw [if_pos c34] at H
                              have c34b0 : (t292 == t296) = true := beq_iff_eq.mpr c34
                              have c34b1 : (t292 != t296) = false := bne_eq_false_iff_eq.mpr c34
                              clear c34
                              replace H := Option.bind_eq_some_iff.mp H
                              obtain ⟨t299, A350, H⟩ := H
                              replace H : ((lapidaryref14_Same.f kj13 t299 t295).bind fun t302 => (some t302)) = some r := H
                              have A35 := Aside0.mk A350
                              clear A350
                              replace H := Option.bind_eq_some_iff.mp H
                              obtain ⟨t302, A360, H⟩ := H
                              replace H : (some t302) = some r := H
                              have A36 := Aside0.mk A360
                              clear A360
                              obtain rfl := Option.some.inj H
                              go_wp2_with (first | ((with_reducible refine gate_callee (f := 10) rfl ?_); refine goesL_ (some 70) rfl rfl Tryd.func10 (by kernel_rfl) rfl #[.string ((x7_2 ++ t284) ++ (a2.extract 0 ((ji28) : Int).toNat))] rfl (by (try simp only [List.map_toArray, List.map_cons, List.map_nil]); first | done | (simp only [hji28]; rfl) | rfl | (simp only [List.length_drop, List.length_take]; rfl)) ?_; (with_reducible refine (lex_Split.calls kj13 ((x7_2 ++ t284) ++ (a2.extract 0 ((ji28) : Int).toNat)) t291 t292 _ (HE.out.below (by repeat (first | (with_reducible first | exact HB.out | apply below_alloc | apply pw_below_drewN | apply below_drew1) | exact HB.out))) A32.out).mono ?_); rintro e w37 ⟨v293, rfl, ho0, hb⟩; refine ⟨_, rfl, ?_⟩; have n0_ := Aside0.mk (Kd.R_lower ho0 (below_size (by repeat (first | (with_reducible first | exact HB.out | apply below_alloc | apply pw_below_drewN | apply below_drew1) | exact HB.out)))); have n1_ := Aside0.mk (below_step (by repeat (first | (with_reducible first | exact HB.out | apply below_alloc | apply pw_below_drewN | apply below_drew1) | exact HB.out)) hb); clear HB; have HO294 := n0_; have HB := n1_; clear n0_ n1_; (try clear hb); (try clear hb2); (try clear hk); (try clear hi); (try clear ho0)) | ((with_reducible refine gate_callee (f := 11) rfl ?_); refine goesL_ (some 77) rfl rfl Tryd.func11 (by kernel_rfl) rfl #[.string ((x7_2 ++ t284) ++ (a2.extract 0 ((ji28) : Int).toNat))] rfl (by (try simp only [List.map_toArray, List.map_cons, List.map_nil]); first | done | (simp only [hji28]; rfl) | rfl | (simp only [List.length_drop, List.length_take]; rfl)) ?_; (with_reducible refine (lapidaryref14_Split.calls kj13 ((x7_2 ++ t284) ++ (a2.extract 0 ((ji28) : Int).toNat)) t295 t296 _ A33.out).mono ?_); rintro e w38 ⟨v297, rfl, ho0, hb⟩; refine ⟨_, rfl, ?_⟩; have n0_ := Aside0.mk (Kd.R_below (by (with_reducible repeat (first | apply Kd.R_alloc | apply Kd.R_drewN | apply Kd.R_drew)); exact HO294.out) hb); have n1_ := Aside0.mk (Kd.R_lower ho0 (below_size (by repeat (first | (with_reducible first | exact HB.out | apply below_alloc | apply pw_below_drewN | apply below_drew1) | exact HB.out)))); have n2_ := Aside0.mk (below_step (by repeat (first | (with_reducible first | exact HB.out | apply below_alloc | apply pw_below_drewN | apply below_drew1) | exact HB.out)) hb); clear HO294; clear HB; have HO294 := n0_; have HO298 := n1_; have HB := n2_; clear n0_ n1_ n2_; (try clear hb); (try clear hb2); (try clear hk); (try clear hi); (try clear ho0); obtain ⟨Ao39, co39, eo39⟩ := Kd.R_slice HO294.out; subst eo39) | (go_at_call 13; (with_reducible refine (lapidarylaw14_back.calls kj13 _ _ t291 t299 _ ?side1 ?side2 A35.out).mono ?_); (case side1 => repeat (first | exact (Kd.R_reads' HO294.out).2.2 | (with_reducible refine Kd.C_alloc ?_ _) | (with_reducible refine Kd.C_drewN ?_ _) | (with_reducible refine Kd.C_drew ?_))); (case side2 => exact (Kd.R_reads' HO294.out).2.1); rintro e w40 ⟨v300, rfl, ho0, hb⟩; have n0_ := Aside0.mk (Kd.R_below (by (with_reducible repeat (first | apply Kd.R_alloc | apply Kd.R_drewN | apply Kd.R_drew)); exact HO294.out) hb); have n1_ := Aside0.mk (Kd.R_elder' (by (with_reducible repeat (first | apply Kd.R_alloc | apply Kd.R_drewN | apply Kd.R_drew)); exact HO298.out) (Kd.R_base ho0) hb); have n2_ := Aside0.mk (Kd.R_lower (Kd.R_new' ho0 (Kd.R_lt (by (with_reducible repeat (first | apply Kd.R_alloc | apply Kd.R_drewN | apply Kd.R_drew)); exact HO298.out))) (below_size (by repeat (first | (with_reducible first | exact HB.out | apply below_alloc | apply pw_below_drewN | apply below_drew1) | exact HB.out)))); have n3_ := Aside0.mk (below_step (by repeat (first | (with_reducible first | exact HB.out | apply below_alloc | apply pw_below_drewN | apply below_drew1) | exact HB.out)) hb); clear HO294; clear HO298; clear HB; have HO294 := n0_; have HO298 := n1_; have HO301 := n2_; have HB := n3_; clear n0_ n1_ n2_ n3_; (try clear hb); (try clear hb2); (try clear hk); (try clear hi); (try clear ho0); obtain ⟨Ao41, co41, eo41⟩ := Kd.R_slice HO301.out; subst eo41; obtain ⟨Ao42, co42, eo42⟩ := Kd.R_slice HO298.out; subst eo42) | (go_at_call 12; (with_reducible refine (lapidaryref14_Same.calls kj13 _ _ t299 _ _ t295 t302 _ ?side1 ?side2 ?side3 ?side4 A36.out).mono ?_); (case side1 => repeat (first | exact (Kd.R_reads' HO301.out).2.2 | (with_reducible refine Kd.C_alloc ?_ _) | (with_reducible refine Kd.C_drewN ?_ _) | (with_reducible refine Kd.C_drew ?_))); (case side2 => exact (Kd.R_reads' HO301.out).2.1); (case side3 => repeat (first | exact (Kd.R_reads' HO298.out).2.2 | (with_reducible refine Kd.C_alloc ?_ _) | (with_reducible refine Kd.C_drewN ?_ _) | (with_reducible refine Kd.C_drew ?_))); (case side4 => exact (Kd.R_reads' HO298.out).2.1); rintro e w' ⟨rfl, ⟨nd, rfl⟩⟩))
                              go_ret
                              exact ⟨by first | rfl | (simp [errW_none, errW_some] <;> rfl) | (simp only [← hji28]; first | rfl | (simp [errW_none, errW_some] <;> rfl)) | (simp [*, errW_none, errW_some] <;> rfl), by repeat (first | (with_reducible first | exact HB.out | apply below_alloc | apply pw_below_drewN | apply below_drew1) | exact HB.out)⟩
                            · rw [if_neg c34] at H
                              have c34b0 : (t292 == t296) = false := beq_eq_false_iff_ne.mpr c34
                              have c34b1 : (t292 != t296) = true := bne_iff_ne.mpr c34
                              obtain rfl := Option.some.inj H
                              go_wp2_with (first | ((with_reducible refine gate_callee (f := 10) rfl ?_); refine goesL_ (some 70) rfl rfl Tryd.func10 (by kernel_rfl) rfl #[.string ((x7_2 ++ t284) ++ (a2.extract 0 ((ji28) : Int).toNat))] rfl (by (try simp only [List.map_toArray, List.map_cons, List.map_nil]); first | done | (simp only [hji28]; rfl) | rfl | (simp only [List.length_drop, List.length_take]; rfl)) ?_; (with_reducible refine (lex_Split.calls kj13 ((x7_2 ++ t284) ++ (a2.extract 0 ((ji28) : Int).toNat)) t291 t292 _ (HE.out.below (by repeat (first | (with_reducible first | exact HB.out | apply below_alloc | apply pw_below_drewN | apply below_drew1) | exact HB.out))) A32.out).mono ?_); rintro e w43 ⟨v293, rfl, ho0, hb⟩; refine ⟨_, rfl, ?_⟩; have n0_ := Aside0.mk (Kd.R_lower ho0 (below_size (by repeat (first | (with_reducible first | exact HB.out | apply below_alloc | apply pw_below_drewN | apply below_drew1) | exact HB.out)))); have n1_ := Aside0.mk (below_step (by repeat (first | (with_reducible first | exact HB.out | apply below_alloc | apply pw_below_drewN | apply below_drew1) | exact HB.out)) hb); clear HB; have HO294 := n0_; have HB := n1_; clear n0_ n1_; (try clear hb); (try clear hb2); (try clear hk); (try clear hi); (try clear ho0)) | ((with_reducible refine gate_callee (f := 11) rfl ?_); refine goesL_ (some 77) rfl rfl Tryd.func11 (by kernel_rfl) rfl #[.string ((x7_2 ++ t284) ++ (a2.extract 0 ((ji28) : Int).toNat))] rfl (by (try simp only [List.map_toArray, List.map_cons, List.map_nil]); first | done | (simp only [hji28]; rfl) | rfl | (simp only [List.length_drop, List.length_take]; rfl)) ?_; (with_reducible refine (lapidaryref14_Split.calls kj13 ((x7_2 ++ t284) ++ (a2.extract 0 ((ji28) : Int).toNat)) t295 t296 _ A33.out).mono ?_); rintro e w44 ⟨v297, rfl, ho0, hb⟩; refine ⟨_, rfl, ?_⟩; have n0_ := Aside0.mk (Kd.R_below (by (with_reducible repeat (first | apply Kd.R_alloc | apply Kd.R_drewN | apply Kd.R_drew)); exact HO294.out) hb); have n1_ := Aside0.mk (Kd.R_lower ho0 (below_size (by repeat (first | (with_reducible first | exact HB.out | apply below_alloc | apply pw_below_drewN | apply below_drew1) | exact HB.out)))); have n2_ := Aside0.mk (below_step (by repeat (first | (with_reducible first | exact HB.out | apply below_alloc | apply pw_below_drewN | apply below_drew1) | exact HB.out)) hb); clear HO294; clear HB; have HO294 := n0_; have HO298 := n1_; have HB := n2_; clear n0_ n1_ n2_; (try clear hb); (try clear hb2); (try clear hk); (try clear hi); (try clear ho0)))
                              go_ret
                              exact ⟨by first | rfl | (simp [errW_none, errW_some] <;> rfl) | (simp only [← hji28]; first | rfl | (simp [errW_none, errW_some] <;> rfl)) | (simp [*, errW_none, errW_some] <;> rfl), by repeat (first | (with_reducible first | exact HB.out | apply below_alloc | apply pw_below_drewN | apply below_drew1) | exact HB.out)⟩
                          · rw [if_neg c31] at H
                            exact absurd H (by simp)
                        · rw [if_neg c30] at H
                          exact absurd H (by simp)
                      · rw [if_neg c29] at H
                        exact absurd H (by simp)
              · rw [if_neg c12] at H
                exact absurd H (by simp)
  · replace c5 := Bool.eq_false_iff.mpr c5
    subst c5
    have H1 : (some false) = some r := by rw [if_neg (show ¬ (false = true) by decide)] at H; exact H
    clear H
    have H := H1
    clear H1
    obtain rfl := Option.some.inj H
    go_enter Tryd.func8, Tryd.ntmps8
    go_wp2_with (first | ((with_reducible refine gate_callee (f := 9) rfl ?_); refine goesL_ (some 14) rfl rfl Tryd.func9 (by kernel_rfl) rfl #[] rfl (by (try simp only [List.map_toArray, List.map_cons, List.map_nil]); first | done | rfl | (simp only [List.length_drop, List.length_take]; rfl)) ?_; (with_reducible refine (lapidarylaw14_awake.calls k  false _ (HE.out.below (by repeat (first | (with_reducible first | exact HB.out | apply below_alloc | apply pw_below_drewN | apply below_drew1) | exact HB.out))) A4.out).mono ?_); rintro e w45 ⟨rfl, hb⟩; refine ⟨_, rfl, ?_⟩; have n0_ := Aside0.mk (below_step (by repeat (first | (with_reducible first | exact HB.out | apply below_alloc | apply pw_below_drewN | apply below_drew1) | exact HB.out)) hb); clear HB; have HB := n0_; clear n0_; (try clear hb); (try clear hb2); (try clear hk); (try clear hi)))
    go_ret
    exact ⟨by first | rfl | (simp [errW_none, errW_some] <;> rfl) | (simp [*, errW_none, errW_some] <;> rfl), by repeat (first | (with_reducible first | exact HB.out | apply below_alloc | apply pw_below_drewN | apply below_drew1) | exact HB.out)⟩

/-- THE ONE PURE STATEMENT of lapidarylaw14_LexNumbers: yours. -/
def lapidarylaw14_LexNumbers.Pure : Prop := ∀ (a0 : Int) (a1 : Int) (a2 : ByteArray), (Lit.int .i64 a0).wf = true → (Lit.int .u8 a1).wf = true → a2.size ≤ 140737488351232 → ∃ k, lapidarylaw14_LexNumbers.f k a0 a1 a2 = some true
theorem lapidarylaw14_LexNumbers.walk (P : lapidarylaw14_LexNumbers.Pure) (a0 : Int) (a1 : Int) (a2 : ByteArray) (w : World) (hE : UEnv w) (w0 : (Lit.int .i64 a0).wf = true) (w1 : (Lit.int .u8 a1).wf = true) (w2 : a2.size ≤ 140737488351232) :
    Calls Tryd.prog 8 #[.int .i64 a0, .int .u8 a1, .string a2] w fun e w' => e = .returned (.bool true) ∧ Below w.heap.size w w' := by
  obtain ⟨k, h⟩ := P a0 a1 a2 w0 w1 w2
  refine (lapidarylaw14_LexNumbers.calls k a0 a1 a2 true w hE h).mono ?_
  rintro e w' ⟨rfl, hd⟩
  exact ⟨rfl, hd⟩

end Go.Proofs.YtfbikpddpdkllaaDoor.Lx
