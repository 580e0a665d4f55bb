/-
  The lexer's reference and laws as plain functions, and that the Go text comes to their answers: written by a program (the kit's print, turned so that contracts made by hand stand in for what it does not take). Conditions: none beyond each theorem's own.
-/
import Derived.Test.YtfbikpddpdkllaaDoorLx0
import Derived.Test.YtfbikpddpdkllaaDoorLxF10
import Derived.Test.YtfbikpddpdkllaaDoorLxF9
import Derived.Test.YtfbikpddpdkllaaDoorLxF11
import Derived.Test.YtfbikpddpdkllaaDoorLxF12
import Derived.Test.YtfbikpddpdkllaaDoorLxF13
import Derived.Test.YtfbikpddpdkllaaDoorLxF15
namespace Go.Proofs.YtfbikpddpdkllaaDoor.Lx
open Go.RowKit Go.Proofs.YtfbikpddpdkllaaDoorW.PrintWords Go.Proofs.YtfbikpddpdkllaaDoorW.PrintLast Go.Proofs.YtfbikpddpdkllaaDoorW.PrintMore
attribute [local go_sem] max2_int min2_int max_two min_two max_three min_three max_four min_four   -- for this text's walks alone
set_option linter.unusedVariables false
set_option linter.unusedSimpArgs false

/-! ### lapidarylaw14_LexBlanks: function 6 -/
mutual
def lapidarylaw14_LexBlanks.l0 : Nat → List Int → List (S35) → ByteArray → List (S35) → Int → Int → Option (Bool)
  | 0, _, _, _, _, _, _ => none
  | k + 1, x1, x5, x7, x27, x28, x29 => if x29 < x28 then (if 0 ≤ x29 then (if x29 < (x27.length : Int) then (if x29 < (x1.length : Int) then (lapidarylaw14_LexBlanks.j1 k x1 x5 x7 (wrap64 (rd x1 x29)) x27 x28 x29 ((rd_T35 x27 x29).f0) ((rd_T35 x27 x29).f1) ((rd_T35 x27 x29).f2)) else (lapidarylaw14_LexBlanks.j1 k x1 x5 x7 0 x27 x28 x29 ((rd_T35 x27 x29).f0) ((rd_T35 x27 x29).f1) ((rd_T35 x27 x29).f2))) else (none)) else (none)) else (if x7.size + 1 ≤ 9223372036854775807 then ((lex_Split.f k (x7 ++ (⟨#[32]⟩ : ByteArray))).bind fun bt264 => (if (x7.size : Int) ≥ 2000 then (some true) else (if bt264.2 = 0 then ((lapidarylaw14_back.f k bt264.1).bind fun t268 => ((lapidaryref14_Same.f k t268 x5).bind fun t271 => (some t271))) else (some false)))) else (none))
def lapidarylaw14_LexBlanks.j1 : Nat → List Int → List (S35) → ByteArray → Int → List (S35) → Int → Int → Int → ByteArray → Int → Option (Bool)
  | 0, _, _, _, _, _, _, _, _, _, _ => none
  | k + 1, x1, x5, x7, x10, x27, x28, x29, x274000, x274001, x274002 => lapidarylaw14_LexBlanks.l1 k x1 x5 x7 x10 x27 x28 x29 (wrap64 (1 + (Int.tmod x10 3))) 0 x274000 x274001 x274002
def lapidarylaw14_LexBlanks.l1 : Nat → List Int → List (S35) → ByteArray → Int → List (S35) → Int → Int → Int → Int → Int → ByteArray → Int → Option (Bool)
  | 0, _, _, _, _, _, _, _, _, _, _, _, _ => none
  | k + 1, x1, x5, x7, x10, x27, x28, x29, x45, x46, x274000, x274001, x274002 => if x46 < x45 then (if 0 ≤ (Int.tmod (wrap64 (x10 + x46)) 4) then (if (Int.tmod (wrap64 (x10 + x46)) 4) ≤ (wrap64 ((Int.tmod (wrap64 (x10 + x46)) 4) + 1)) then (if (wrap64 ((Int.tmod (wrap64 (x10 + x46)) 4) + 1)) ≤ 4 then (if x7.size + ((⟨#[32, 9, 10, 13]⟩ : ByteArray).extract ((Int.tmod (wrap64 (x10 + x46)) 4) : Int).toNat ((wrap64 ((Int.tmod (wrap64 (x10 + x46)) 4) + 1)) : Int).toNat).size ≤ 9223372036854775807 then (lapidarylaw14_LexBlanks.l1 k x1 x5 (x7 ++ ((⟨#[32, 9, 10, 13]⟩ : ByteArray).extract ((Int.tmod (wrap64 (x10 + x46)) 4) : Int).toNat ((wrap64 ((Int.tmod (wrap64 (x10 + x46)) 4) + 1)) : Int).toNat)) x10 x27 x28 x29 x45 (wrap64 (x46 + 1)) x274000 x274001 x274002) else (none)) else (none)) else (none)) else (none)) else ((lapidaryref14_Join.f k (([(⟨x274000, x274001, x274002⟩ : S35)] : List (S35)))).bind fun t278 => (if x7.size + t278.size ≤ 9223372036854775807 then (lapidarylaw14_LexBlanks.l0 k x1 x5 (x7 ++ t278) x27 x28 (wrap64 (x29 + 1))) else (none)))
end
def lapidarylaw14_LexBlanks.f (k : Nat) (a0 : ByteArray) (l1 : List Int) : Option (Bool) := (lapidarylaw14_awake.f k).bind fun t259 => (if t259 = true then (if 0 ≤ (mn (a0.size : Int) 300) then (if (mn (a0.size : Int) 300) ≤ (a0.size : Int) then ((lapidaryref14_Split.f k (a0.extract 0 ((mn (a0.size : Int) 300) : Int).toNat)).bind fun bt260 => (if bt260.2 = 0 then (lapidarylaw14_LexBlanks.l0 k l1 bt260.1 (⟨#[]⟩ : ByteArray) bt260.1 (bt260.1.length : Int) 0) else (some true))) else (none)) else (none)) else (some false))
theorem lapidarylaw14_LexBlanks.mono_l : ∀ k, (∀ y0 y1 y2 y3 y4 y5, LeO (lapidarylaw14_LexBlanks.l0 k y0 y1 y2 y3 y4 y5) (lapidarylaw14_LexBlanks.l0 (k + 1) y0 y1 y2 y3 y4 y5)) ∧ (∀ y0 y1 y2 y3 y4 y5 y6 y7 y8 y9, LeO (lapidarylaw14_LexBlanks.j1 k y0 y1 y2 y3 y4 y5 y6 y7 y8 y9) (lapidarylaw14_LexBlanks.j1 (k + 1) y0 y1 y2 y3 y4 y5 y6 y7 y8 y9)) ∧ (∀ y0 y1 y2 y3 y4 y5 y6 y7 y8 y9 y10 y11, LeO (lapidarylaw14_LexBlanks.l1 k y0 y1 y2 y3 y4 y5 y6 y7 y8 y9 y10 y11) (lapidarylaw14_LexBlanks.l1 (k + 1) y0 y1 y2 y3 y4 y5 y6 y7 y8 y9 y10 y11))
  | 0 => ⟨fun _ _ _ _ _ _ r h => by simp [lapidarylaw14_LexBlanks.l0] at h, fun _ _ _ _ _ _ _ _ _ _ r h => by simp [lapidarylaw14_LexBlanks.j1] at h, fun _ _ _ _ _ _ _ _ _ _ _ _ r h => by simp [lapidarylaw14_LexBlanks.l1] at h⟩
  | k + 1 => by
    obtain ⟨ih0, ih1, ih2⟩ := lapidarylaw14_LexBlanks.mono_l k
    refine ⟨?_, ?_, ?_⟩
    · intro y0 y1 y2 y3 y4 y5
      unfold lapidarylaw14_LexBlanks.l0
      repeat' first
      | (with_reducible exact ih0 _ _ _ _ _ _)
      | (with_reducible exact ih1 _ _ _ _ _ _ _ _ _ _)
      | (with_reducible exact ih2 _ _ _ _ _ _ _ _ _ _ _ _)
      | (with_reducible exact lapidarylaw14_awake.mono _)
      | (with_reducible exact lapidarylaw14_back.mono _ _)
      | (with_reducible exact lapidaryref14_Join.mono _ _)
      | (with_reducible exact lapidaryref14_Same.mono _ _ _)
      | (with_reducible exact lapidaryref14_Split.mono _ _)
      | (with_reducible exact lex_Split.mono _ _)
      | (with_reducible exact LeO.refl _)
      | (with_reducible exact LeO.none _)
      | (with_reducible refine LeO.ite ?_ ?_)
      | (with_reducible refine LeO.bind ?_ (fun _ => ?_))
      | exact ih0 _ _ _ _ _ _
      | exact ih1 _ _ _ _ _ _ _ _ _ _
      | exact ih2 _ _ _ _ _ _ _ _ _ _ _ _
      | exact lapidarylaw14_awake.mono _
      | exact lapidarylaw14_back.mono _ _
      | exact lapidaryref14_Join.mono _ _
      | exact lapidaryref14_Same.mono _ _ _
      | exact lapidaryref14_Split.mono _ _
      | exact lex_Split.mono _ _
      | exact LeO.none _
      | refine LeO.ite ?_ ?_
      | refine LeO.bind ?_ (fun _ => ?_)
    · intro y0 y1 y2 y3 y4 y5 y6 y7 y8 y9
      unfold lapidarylaw14_LexBlanks.j1
      repeat' first
      | (with_reducible exact ih0 _ _ _ _ _ _)
      | (with_reducible exact ih1 _ _ _ _ _ _ _ _ _ _)
      | (with_reducible exact ih2 _ _ _ _ _ _ _ _ _ _ _ _)
      | (with_reducible exact lapidarylaw14_awake.mono _)
      | (with_reducible exact lapidarylaw14_back.mono _ _)
      | (with_reducible exact lapidaryref14_Join.mono _ _)
      | (with_reducible exact lapidaryref14_Same.mono _ _ _)
      | (with_reducible exact lapidaryref14_Split.mono _ _)
      | (with_reducible exact lex_Split.mono _ _)
      | (with_reducible exact LeO.refl _)
      | (with_reducible exact LeO.none _)
      | (with_reducible refine LeO.ite ?_ ?_)
      | (with_reducible refine LeO.bind ?_ (fun _ => ?_))
      | exact ih0 _ _ _ _ _ _
      | exact ih1 _ _ _ _ _ _ _ _ _ _
      | exact ih2 _ _ _ _ _ _ _ _ _ _ _ _
      | exact lapidarylaw14_awake.mono _
      | exact lapidarylaw14_back.mono _ _
      | exact lapidaryref14_Join.mono _ _
      | exact lapidaryref14_Same.mono _ _ _
      | exact lapidaryref14_Split.mono _ _
      | exact lex_Split.mono _ _
      | exact LeO.none _
      | refine LeO.ite ?_ ?_
      | refine LeO.bind ?_ (fun _ => ?_)
    · intro y0 y1 y2 y3 y4 y5 y6 y7 y8 y9 y10 y11
      unfold lapidarylaw14_LexBlanks.l1
      repeat' first
      | (with_reducible exact ih0 _ _ _ _ _ _)
      | (with_reducible exact ih1 _ _ _ _ _ _ _ _ _ _)
      | (with_reducible exact ih2 _ _ _ _ _ _ _ _ _ _ _ _)
      | (with_reducible exact lapidarylaw14_awake.mono _)
      | (with_reducible exact lapidarylaw14_back.mono _ _)
      | (with_reducible exact lapidaryref14_Join.mono _ _)
      | (with_reducible exact lapidaryref14_Same.mono _ _ _)
      | (with_reducible exact lapidaryref14_Split.mono _ _)
      | (with_reducible exact lex_Split.mono _ _)
      | (with_reducible exact LeO.refl _)
      | (with_reducible exact LeO.none _)
      | (with_reducible refine LeO.ite ?_ ?_)
      | (with_reducible refine LeO.bind ?_ (fun _ => ?_))
      | exact ih0 _ _ _ _ _ _
      | exact ih1 _ _ _ _ _ _ _ _ _ _
      | exact ih2 _ _ _ _ _ _ _ _ _ _ _ _
      | exact lapidarylaw14_awake.mono _
      | exact lapidarylaw14_back.mono _ _
      | exact lapidaryref14_Join.mono _ _
      | exact lapidaryref14_Same.mono _ _ _
      | exact lapidaryref14_Split.mono _ _
      | exact lex_Split.mono _ _
      | exact LeO.none _
      | refine LeO.ite ?_ ?_
      | refine LeO.bind ?_ (fun _ => ?_)
theorem lapidarylaw14_LexBlanks.mono : ∀ a0 a1 k, LeO (lapidarylaw14_LexBlanks.f k a0 a1) (lapidarylaw14_LexBlanks.f (k + 1) a0 a1) := by
  intro a0 a1 k
  obtain ⟨ih0, ih1, ih2⟩ := lapidarylaw14_LexBlanks.mono_l k
  unfold lapidarylaw14_LexBlanks.f
  repeat' first
      | (with_reducible exact ih0 _ _ _ _ _ _)
      | (with_reducible exact ih1 _ _ _ _ _ _ _ _ _ _)
      | (with_reducible exact ih2 _ _ _ _ _ _ _ _ _ _ _ _)
      | (with_reducible exact lapidarylaw14_awake.mono _)
      | (with_reducible exact lapidarylaw14_back.mono _ _)
      | (with_reducible exact lapidaryref14_Join.mono _ _)
      | (with_reducible exact lapidaryref14_Same.mono _ _ _)
      | (with_reducible exact lapidaryref14_Split.mono _ _)
      | (with_reducible exact lex_Split.mono _ _)
      | (with_reducible exact LeO.refl _)
      | (with_reducible exact LeO.none _)
      | (with_reducible refine LeO.ite ?_ ?_)
      | (with_reducible refine LeO.bind ?_ (fun _ => ?_))
      | exact ih0 _ _ _ _ _ _
      | exact ih1 _ _ _ _ _ _ _ _ _ _
      | exact ih2 _ _ _ _ _ _ _ _ _ _ _ _
      | exact lapidarylaw14_awake.mono _
      | exact lapidarylaw14_back.mono _ _
      | exact lapidaryref14_Join.mono _ _
      | exact lapidaryref14_Same.mono _ _ _
      | exact lapidaryref14_Split.mono _ _
      | exact lex_Split.mono _ _
      | exact LeO.none _
      | refine LeO.ite ?_ ?_
      | refine LeO.bind ?_ (fun _ => ?_)
set_option maxHeartbeats 8000000 in
set_option maxRecDepth 100000 in
theorem lapidarylaw14_LexBlanks.calls (k : Nat) (a0 : ByteArray) (A1 : Option Addr) (c1 : Nat) (l1 : List Int) (r : Bool) (w : World) (hr1 : Kd.C (Kd.int .u8) w A1 l1.length l1) (hc1 : l1.length ≤ c1) (hE : UEnv w) (h : lapidarylaw14_LexBlanks.f k a0 l1 = some r) :
    Calls Tryd.prog 6 #[.string a0, .slice A1 l1.length c1] w fun e w' => e = .returned (.bool r) ∧ Below w.heap.size w w' := by
  have hu35 := Tryd.underlying35
  have HR1 := Aside0.mk hr1
  have HC1 := Aside0.mk hc1
  clear hr1 hc1
  have HB := Aside0.mk (Below.refl w.heap.size w)
  have HE := Aside0.mk hE
  clear hE
  have H : ((lapidarylaw14_awake.f k).bind fun t259 => (if t259 = true then (if 0 ≤ (mn (a0.size : Int) 300) then (if (mn (a0.size : Int) 300) ≤ (a0.size : Int) then ((lapidaryref14_Split.f k (a0.extract 0 ((mn (a0.size : Int) 300) : Int).toNat)).bind fun bt260 => (if bt260.2 = 0 then (lapidarylaw14_LexBlanks.l0 k l1 bt260.1 (⟨#[]⟩ : ByteArray) bt260.1 (bt260.1.length : Int) 0) else (some true))) else (none)) else (none)) else (some false))) = some r := h
  clear h
  replace H := Option.bind_eq_some_iff.mp H
  obtain ⟨t259, A30, H⟩ := H
  replace H : (if t259 = true then (if 0 ≤ (mn (a0.size : Int) 300) then (if (mn (a0.size : Int) 300) ≤ (a0.size : Int) then ((lapidaryref14_Split.f k (a0.extract 0 ((mn (a0.size : Int) 300) : Int).toNat)).bind fun bt260 => (if bt260.2 = 0 then (lapidarylaw14_LexBlanks.l0 k l1 bt260.1 (⟨#[]⟩ : ByteArray) bt260.1 (bt260.1.length : Int) 0) else (some true))) else (none)) else (none)) else (some false)) = some r := H
  have A3 := Aside0.mk A30
  clear A30
  by_cases c4 : t259 = true
  · subst c4
    have H1 : (if 0 ≤ (mn (a0.size : Int) 300) then (if (mn (a0.size : Int) 300) ≤ (a0.size : Int) then ((lapidaryref14_Split.f k (a0.extract 0 ((mn (a0.size : Int) 300) : Int).toNat)).bind fun bt260 => (if bt260.2 = 0 then (lapidarylaw14_LexBlanks.l0 k l1 bt260.1 (⟨#[]⟩ : ByteArray) bt260.1 (bt260.1.length : Int) 0) else (some true))) else (none)) else (none)) = some r := by rw [if_pos rfl] at H; exact H
    clear H
    have H := H1
    clear H1
    obtain ⟨ji5, hji5⟩ : ∃ j_ : Int, (mn (a0.size : Int) 300) = j_ := ⟨_, rfl⟩
    replace H : (if 0 ≤ (ji5) then (if (ji5) ≤ (a0.size : Int) then ((lapidaryref14_Split.f k (a0.extract 0 ((ji5) : Int).toNat)).bind fun bt260 => (if bt260.2 = 0 then (lapidarylaw14_LexBlanks.l0 k l1 bt260.1 (⟨#[]⟩ : ByteArray) bt260.1 (bt260.1.length : Int) 0) else (some true))) else (none)) else (none)) = some r := by first | (rw [hji5] at H; exact H) | (simp only [hji5] at H ⊢; exact H)
    (try rw [hji5] at A3)
    (try (have hji5h : ji5 ≤ 300 := by (rw [← hji5]; unfold mn; (repeat' split) <;> omega)))
    (try (have hji5g : ji5 ≤ 64 := by omega))
    (try (have hji5l : 0 ≤ ji5 := by (rw [← hji5]; unfold mn; (repeat' split) <;> omega)))
    (try (have hji5m : 0 ≤ ji5 := by omega))
    have hji5_ : (if 300 < (a0.size : Int) then 300 else (a0.size : Int)) = ji5 := hji5
    by_cases c6 : 0 ≤ (ji5)
    · rw [if_pos c6] at H
      have c6b0 := eq_true c6
      have c6b1 : decide (0 ≤ (ji5)) = true := decide_eq_true c6
      clear c6
      by_cases c7 : (ji5) ≤ (a0.size : Int)
      · rw [if_pos c7] at H
        have c7b0 := eq_true c7
        have c7b1 : decide ((ji5) ≤ (a0.size : Int)) = true := decide_eq_true c7
        clear c7
        replace H := Option.bind_eq_some_iff.mp H
        obtain ⟨⟨t260, t261⟩, A80, H⟩ := H
        replace H : (if t261 = 0 then (lapidarylaw14_LexBlanks.l0 k l1 t260 (⟨#[]⟩ : ByteArray) t260 (t260.length : Int) 0) else (some true)) = some r := H
        have A8 := Aside0.mk A80
        clear A80
        by_cases c9 : t261 = 0
        · rw [if_pos c9] at H
          have c9b0 : (t261 == 0) = true := beq_iff_eq.mpr c9
          have c9b1 : (t261 != 0) = false := bne_eq_false_iff_eq.mpr c9
          clear c9
          have H' := Aside0.mk H
          clear H
          go_enter Tryd.func6, Tryd.ntmps6
          go_wp2_with (first | ((with_reducible refine gate_callee (f := 9) rfl ?_); refine goesL_ (some 14) rfl rfl Tryd.func9 (by kernel_rfl) rfl #[] rfl (by (try simp only [List.map_toArray, List.map_cons, List.map_nil]); first | done | rfl | (simp only [List.length_drop, List.length_take]; rfl)) ?_; (with_reducible refine (lapidarylaw14_awake.calls k  true _ (HE.out.below (by repeat (first | (with_reducible first | exact HB.out | apply below_alloc | apply pw_below_drewN | apply below_drew1) | exact HB.out))) A3.out).mono ?_); rintro e w10 ⟨rfl, hb⟩; refine ⟨_, rfl, ?_⟩; have n0_ := Aside0.mk (below_step (by repeat (first | (with_reducible first | exact HB.out | apply below_alloc | apply pw_below_drewN | apply below_drew1) | exact HB.out)) hb); clear HB; have HB := n0_; clear n0_; (try clear hb); (try clear hb2); (try clear hk); (try clear hi)) | ((with_reducible refine gate_callee (f := 11) rfl ?_); refine goesL_ (some 22) rfl rfl Tryd.func11 (by kernel_rfl) rfl #[.string (a0.extract 0 ((ji5) : Int).toNat)] rfl (by (try simp only [List.map_toArray, List.map_cons, List.map_nil]); first | done | (simp only [hji5]; rfl) | rfl | (simp only [List.length_drop, List.length_take]; rfl)) ?_; (with_reducible refine (lapidaryref14_Split.calls k (a0.extract 0 ((ji5) : Int).toNat) t260 t261 _ A8.out).mono ?_); rintro e w11 ⟨v262, rfl, ho0, hb⟩; refine ⟨_, rfl, ?_⟩; have n0_ := Aside0.mk (Kd.R_lower ho0 (below_size (by repeat (first | (with_reducible first | exact HB.out | apply below_alloc | apply pw_below_drewN | apply below_drew1) | exact HB.out)))); have n1_ := Aside0.mk (below_step (by repeat (first | (with_reducible first | exact HB.out | apply below_alloc | apply pw_below_drewN | apply below_drew1) | exact HB.out)) hb); clear HB; have HO263 := n0_; have HB := n1_; clear n0_ n1_; (try clear hb); (try clear hb2); (try clear hk); (try clear hi); (try clear ho0); obtain ⟨Ao12, co12, eo12⟩ := Kd.R_slice HO263.out; subst eo12))
          go_loopg [7, 29] k (fun kq v7 v29 w' => ∃ (x7_1 : ByteArray) (x29_1 : Int), v7 = .string x7_1 ∧ v29 = .int .i64 x29_1 ∧ Aside0 (lapidarylaw14_LexBlanks.l0 kq l1 t260 x7_1 t260 (t260.length : Int) x29_1 = some r) ∧ Aside0 (kq ≤ k) ∧ Aside0 (Kd.R k35 35 w' w.heap.size (fun _ => True) (.slice Ao12 t260.length co12) t260) ∧ Aside0 (Kd.R k35 35 w' w.heap.size (fun _ => True) (.slice Ao12 t260.length co12) t260) ∧ Aside0 (Below w.heap.size w w'))
          case atStart => exact ⟨((⟨#[]⟩ : ByteArray)), (0), (by first | rfl | (simp; done) | (simp [*]; done)), (by first | rfl | (simp; done) | (simp [*]; done)), H', ⟨Nat.le_refl _⟩, ⟨by (with_reducible repeat (first | apply Kd.R_alloc | apply Kd.R_drewN | apply Kd.R_drew)); exact HO263.out⟩, ⟨by (with_reducible repeat (first | apply Kd.R_alloc | apply Kd.R_drewN | apply Kd.R_drew)); exact HO263.out⟩, ⟨by repeat (first | (with_reducible first | exact HB.out | apply below_alloc | apply pw_below_drewN | apply below_drew1) | exact HB.out)⟩⟩
          case round =>
            clear H'
            try clear c1
            try clear p2
            try clear c4
            try clear c6
            try clear c6b0
            try clear c6b1
            try clear c7
            try clear c7b0
            try clear c7b1
            try clear c9
            try clear c9b0
            try clear c9b1
            try clear c11
            obtain ⟨x7_1, x29_1, rfl, rfl, HA, HK1, HO_5, HO_27, HB⟩ := hrel
            cases gk with
            | zero => exact absurd HA.out (by simp [lapidarylaw14_LexBlanks.l0])
            | succ k1 =>
              have H := HA.out
              clear HA
              simp only [lapidarylaw14_LexBlanks.l0] at H
              by_cases c13 : x29_1 < (t260.length : Int)
              · rw [if_pos c13] at H
                have c13b0 : decide (x29_1 < (t260.length : Int)) = true := decide_eq_true c13
                clear c13
                by_cases c14 : 0 ≤ x29_1
                · rw [if_pos c14] at H
                  have c14b0 : decide (0 ≤ x29_1) = true := decide_eq_true c14
                  clear c14
                  by_cases c15 : x29_1 < (t260.length : Int)
                  · rw [if_pos c15] at H
                    have c15b0 : decide (x29_1 < (t260.length : Int)) = true := decide_eq_true c15
                    clear c15
                    have HC16 := Aside0.mk H
                    clear H
                    have p272 : 0 ≤ (x29_1 : Int) := of_decide_eq_true (by first | (with_reducible assumption) | assumption)
                    have q272 : x29_1 < (t260.length : Int) := of_decide_eq_true (by first | (with_reducible assumption) | assumption)
                    obtain ⟨ad272, e272, hx272_0, hx272_1, hx272_2⟩ := at_T35 (Kd.R_reads' HO_27.out).2.2 x29_1 p272 q272
                    cases e272
                    replace p272 := eq_true p272
                    replace q272 := eq_true q272
                    go_upto_if 37 with (first | ((with_reducible refine gate_dst (N := 9) rfl ?_); refine box_event ?hg (N := 9) ?hd (cs := #[.int .u8 0, .string (⟨#[]⟩ : ByteArray), .int .i64 0]) (t := 35) ?hr ?_; (case hd => rfl); (case hg => rfl); (case hr => first | (go_simp; done) | (go_simp; rfl)); intro gb273 hg w17 hbox hb; have n0_ := Aside0.mk (Kd.R_below (Kd.R_elderB (by (with_reducible repeat (first | apply Kd.R_alloc | apply Kd.R_drewN | apply Kd.R_drew)); exact HO_5.out) gb273 (Nat.le_of_eq hg.symm)) hb); have n1_ := Aside0.mk (Kd.R_below (Kd.R_elderB (by (with_reducible repeat (first | apply Kd.R_alloc | apply Kd.R_drewN | apply Kd.R_drew)); exact HO_27.out) gb273 (Nat.le_of_eq hg.symm)) hb); have n2_ := Aside0.mk (below_step (by repeat (first | (with_reducible first | exact HB.out | apply below_alloc | apply pw_below_drewN | apply below_drew1) | exact HB.out)) hb); have n3_ := Aside0.mk (hbox); have n4_ := Aside0.mk ((by rw [hg]; exact (below_size (by repeat (first | (with_reducible first | exact HB.out | apply below_alloc | apply pw_below_drewN | apply below_drew1) | exact HB.out))) : w.heap.size ≤ gb273)); have n5_ := Aside0.mk ((by rw [hg]; exact (below_size (by repeat (first | (with_reducible first | exact HB.out | apply below_alloc | apply pw_below_drewN | apply below_drew1) | exact HB.out))) : w.heap.size ≤ gb273)); clear HO_5; clear HO_27; clear HB; have HO_5 := n0_; have HO_27 := n1_; have HB := n2_; have BK273 := n3_; have GW273 := n4_; have GE273 := n5_; clear n0_ n1_ n2_ n3_ n4_ n5_; clear hb hbox hg; have hcz18_0 : w17.cell? ⟨gb273, 0, none⟩ = some (.int .u8 0) := (blk_cell BK273.out 0).trans rfl; have hcz18_1 : w17.cell? ⟨gb273, 1, none⟩ = some (.string (⟨#[]⟩ : ByteArray)) := (blk_cell BK273.out 1).trans rfl; have hcz18_2 : w17.cell? ⟨gb273, 2, none⟩ = some (.int .i64 0) := (blk_cell BK273.out 2).trans rfl; have hfz18_0 := blk_frozen BK273.out 0; have hfz18_1 := blk_frozen BK273.out 1; have hfz18_2 := blk_frozen BK273.out 2))
                    (try simp only [Act.put, List.setIfInBounds_toArray, List.set_cons_zero, List.set_cons_succ])
                    go_cut [10] (fun v10 wc => ∃ (kq : Nat) (x10_15 : Int), v10 = .int .i64 x10_15 ∧ Aside0 (lapidarylaw14_LexBlanks.j1 kq l1 t260 x7_1 x10_15 t260 (t260.length : Int) x29_1 ((rd_T35 t260 x29_1).f0) ((rd_T35 t260 x29_1).f1) ((rd_T35 t260 x29_1).f2) = some r) ∧ Aside0 (kq ≤ k1) ∧ Aside0 (Kd.R k35 35 wc w.heap.size (fun k_ => k_ ≠ gb273) (.slice (some ad272) t260.length co12) t260) ∧ Aside0 (Kd.R k35 35 wc w.heap.size (fun k_ => k_ ≠ gb273) (.slice (some ad272) t260.length co12) t260) ∧ Aside0 (wc.heap[gb273]? = some (.cells #[.int .u8 ((rd_T35 t260 x29_1).f0), .string ((rd_T35 t260 x29_1).f1), .int .i64 ((rd_T35 t260 x29_1).f2)] 35 (0, 0))) ∧ Aside0 (Below w.heap.size w wc))
                    case first =>
                      have H := HC16.out
                      clear HC16
                      by_cases c19 : x29_1 < (l1.length : Int)
                      · rw [if_pos c19] at H
                        have c19b0 : decide (x29_1 < (l1.length : Int)) = true := decide_eq_true c19
                        clear c19
                        (first | rw [c19b0] | (simp only [i64_w, i32_w]; rw [c19b0]) | skip)
                        have H' := Aside0.mk H
                        clear H
                        have p274 : 0 ≤ (x29_1 : Int) := of_decide_eq_true (by first | (with_reducible assumption) | assumption)
                        have q274 : x29_1 < (l1.length : Int) := of_decide_eq_true (by first | (with_reducible assumption) | assumption)
                        obtain ⟨ad274, e274, hx274_0⟩ := Kd.at_int HR1.out x29_1 p274 q274
                        cases e274
                        have hn274_0 : ad274.block ≠ gb273 := Nat.ne_of_lt (Nat.lt_of_lt_of_le (by have := World.block_lt_of_cell? _ _ hx274_0; first | rwa [add_block] at this | exact this) GW273.out)
                        have hn274_1 : ad274.block ≠ gb273 := Nat.ne_of_lt (Nat.lt_of_lt_of_le (by have := World.block_lt_of_cell? _ _ hx274_0; first | rwa [add_block] at this | exact this) GW273.out)
                        have hn274_2 : ad274.block ≠ gb273 := Nat.ne_of_lt (Nat.lt_of_lt_of_le (by have := World.block_lt_of_cell? _ _ hx274_0; first | rwa [add_block] at this | exact this) GW273.out)
                        replace hx274_0 := (HB.out.cell (World.block_lt_of_cell? w _ hx274_0)).trans hx274_0
                        replace hx274_0 := (cell_far (p := ⟨gb273, 0, none⟩) (by first | (rw [add_block]; exact hn274_0) | (show (Addr.add _ _).block ≠ _; rw [add_block]; exact hn274_0) | exact hn274_0) (.int .u8 ((rd_T35 t260 x29_1).f0))).trans hx274_0
                        replace hx274_0 := (cell_far (p := ⟨gb273, 1, none⟩) (by first | (rw [add_block]; exact hn274_1) | (show (Addr.add _ _).block ≠ _; rw [add_block]; exact hn274_1) | exact hn274_1) (.string ((rd_T35 t260 x29_1).f1))).trans hx274_0
                        replace hx274_0 := (cell_far (p := ⟨gb273, 2, none⟩) (by first | (rw [add_block]; exact hn274_2) | (show (Addr.add _ _).block ≠ _; rw [add_block]; exact hn274_2) | exact hn274_2) (.int .i64 ((rd_T35 t260 x29_1).f2))).trans hx274_0
                        clear hn274_0
                        clear hn274_1
                        clear hn274_2
                        replace p274 := eq_true p274
                        replace q274 := eq_true q274
                        go_wp2
                        go_meet
                        case rel => exact ⟨_, (wrap64 (rd l1 x29_1)), (by first | rfl | (simp; done) | (simp [*]; done)), H', ⟨by have := HK1.out; first | omega | exact Nat.le_refl _⟩, ⟨by (with_reducible repeat (first | apply Kd.R_alloc | apply Kd.R_drewN | apply Kd.R_drew)); exact Kd.R_mono (Kd.R_far (p := ⟨gb273, 2, none⟩) (Kd.R_far (p := ⟨gb273, 1, none⟩) (Kd.R_far (p := ⟨gb273, 0, none⟩) (Kd.R_mono HO_5.out (fun k_ hk => (⟨hk, hk.2⟩ : _ ∧ k_ ≠ gb273))) (fun _ hk => hk.2) (.int .u8 ((rd_T35 t260 x29_1).f0))) (fun _ hk => hk.2) (.string ((rd_T35 t260 x29_1).f1))) (fun _ hk => hk.2) (.int .i64 ((rd_T35 t260 x29_1).f2))) (fun _ hk => hk.1.2)⟩, ⟨by (with_reducible repeat (first | apply Kd.R_alloc | apply Kd.R_drewN | apply Kd.R_drew)); exact Kd.R_mono (Kd.R_far (p := ⟨gb273, 2, none⟩) (Kd.R_far (p := ⟨gb273, 1, none⟩) (Kd.R_far (p := ⟨gb273, 0, none⟩) (Kd.R_mono HO_27.out (fun k_ hk => (⟨hk, hk.2⟩ : _ ∧ k_ ≠ gb273))) (fun _ hk => hk.2) (.int .u8 ((rd_T35 t260 x29_1).f0))) (fun _ hk => hk.2) (.string ((rd_T35 t260 x29_1).f1))) (fun _ hk => hk.2) (.int .i64 ((rd_T35 t260 x29_1).f2))) (fun _ hk => hk.1.2)⟩, ⟨by (with_reducible repeat (first | refine blk_drewN ?_ _ | refine blk_drew ?_ | refine blk_alloc ?_ _)); refine blk_put (cs := #[.int .u8 ((rd_T35 t260 x29_1).f0), .string ((rd_T35 t260 x29_1).f1), .int .i64 0]) ?_ 2 _ rfl; (with_reducible repeat (first | refine blk_drewN ?_ _ | refine blk_drew ?_ | refine blk_alloc ?_ _)); refine blk_put (cs := #[.int .u8 ((rd_T35 t260 x29_1).f0), .string (⟨#[]⟩ : ByteArray), .int .i64 0]) ?_ 1 _ rfl; (with_reducible repeat (first | refine blk_drewN ?_ _ | refine blk_drew ?_ | refine blk_alloc ?_ _)); refine blk_put (cs := #[.int .u8 0, .string (⟨#[]⟩ : ByteArray), .int .i64 0]) ?_ 0 _ rfl; (with_reducible repeat (first | refine blk_drewN ?_ _ | refine blk_drew ?_ | refine blk_alloc ?_ _)); exact BK273.out⟩, ⟨by repeat (first | (with_reducible first | exact HB.out | apply below_alloc | apply pw_below_drewN | apply below_drew1 | refine below_set ?_ GE273.out) | exact HB.out)⟩⟩
                      · rw [if_neg c19] at H
                        have c19b0 : decide (x29_1 < (l1.length : Int)) = false := decide_eq_false c19
                        clear c19
                        (first | rw [c19b0] | (simp only [i64_w, i32_w]; rw [c19b0]) | skip)
                        have H' := Aside0.mk H
                        clear H
                        go_wp2
                        go_meet
                        case rel => exact ⟨_, (0), (by first | rfl | (simp; done) | (simp [*]; done)), H', ⟨by have := HK1.out; first | omega | exact Nat.le_refl _⟩, ⟨by (with_reducible repeat (first | apply Kd.R_alloc | apply Kd.R_drewN | apply Kd.R_drew)); exact Kd.R_mono (Kd.R_far (p := ⟨gb273, 2, none⟩) (Kd.R_far (p := ⟨gb273, 1, none⟩) (Kd.R_far (p := ⟨gb273, 0, none⟩) (Kd.R_mono HO_5.out (fun k_ hk => (⟨hk, hk.2⟩ : _ ∧ k_ ≠ gb273))) (fun _ hk => hk.2) (.int .u8 ((rd_T35 t260 x29_1).f0))) (fun _ hk => hk.2) (.string ((rd_T35 t260 x29_1).f1))) (fun _ hk => hk.2) (.int .i64 ((rd_T35 t260 x29_1).f2))) (fun _ hk => hk.1.2)⟩, ⟨by (with_reducible repeat (first | apply Kd.R_alloc | apply Kd.R_drewN | apply Kd.R_drew)); exact Kd.R_mono (Kd.R_far (p := ⟨gb273, 2, none⟩) (Kd.R_far (p := ⟨gb273, 1, none⟩) (Kd.R_far (p := ⟨gb273, 0, none⟩) (Kd.R_mono HO_27.out (fun k_ hk => (⟨hk, hk.2⟩ : _ ∧ k_ ≠ gb273))) (fun _ hk => hk.2) (.int .u8 ((rd_T35 t260 x29_1).f0))) (fun _ hk => hk.2) (.string ((rd_T35 t260 x29_1).f1))) (fun _ hk => hk.2) (.int .i64 ((rd_T35 t260 x29_1).f2))) (fun _ hk => hk.1.2)⟩, ⟨by (with_reducible repeat (first | refine blk_drewN ?_ _ | refine blk_drew ?_ | refine blk_alloc ?_ _)); refine blk_put (cs := #[.int .u8 ((rd_T35 t260 x29_1).f0), .string ((rd_T35 t260 x29_1).f1), .int .i64 0]) ?_ 2 _ rfl; (with_reducible repeat (first | refine blk_drewN ?_ _ | refine blk_drew ?_ | refine blk_alloc ?_ _)); refine blk_put (cs := #[.int .u8 ((rd_T35 t260 x29_1).f0), .string (⟨#[]⟩ : ByteArray), .int .i64 0]) ?_ 1 _ rfl; (with_reducible repeat (first | refine blk_drewN ?_ _ | refine blk_drew ?_ | refine blk_alloc ?_ _)); refine blk_put (cs := #[.int .u8 0, .string (⟨#[]⟩ : ByteArray), .int .i64 0]) ?_ 0 _ rfl; (with_reducible repeat (first | refine blk_drewN ?_ _ | refine blk_drew ?_ | refine blk_alloc ?_ _)); exact BK273.out⟩, ⟨by repeat (first | (with_reducible first | exact HB.out | apply below_alloc | apply pw_below_drewN | apply below_drew1 | refine below_set ?_ GE273.out) | exact HB.out)⟩⟩
                    case rest =>
                      clear HC16
                      try clear c1
                      try clear p2
                      try clear q2
                      try clear hx2
                      try clear c4
                      try clear c6
                      try clear c6b0
                      try clear c6b1
                      try clear p6
                      try clear c7
                      try clear c7b0
                      try clear c7b1
                      try clear c9
                      try clear c9b0
                      try clear c9b1
                      try clear c11
                      try clear c13
                      try clear c13b0
                      try clear c14
                      try clear c14b0
                      try clear c15
                      try clear c15b0
                      try clear c19
                      try clear c19b0
                      try clear hcz18_0
                      try clear hcz18_1
                      try clear hcz18_2
                      try clear hfz18_0
                      try clear hfz18_1
                      try clear hfz18_2
                      try clear hx272_0
                      try clear hx272_1
                      try clear hx272_2
                      try clear hx274_0
                      try clear p2
                      try clear p272
                      try clear p274
                      try clear q272
                      try clear q274
                      obtain ⟨kq, x10_15, rfl, HA, HJ15, HO_5, HO_27, BK273, HB⟩ := hcut
                      cases kq with
                      | zero => exact absurd HA.out (by simp [lapidarylaw14_LexBlanks.j1])
                      | succ kj15 =>
                        have H := HA.out
                        clear HA
                        simp only [lapidarylaw14_LexBlanks.j1] at H
                        have H' := Aside0.mk H
                        clear H
                        go_wp2
                        go_loopg [7, 46] kj15 (fun kq v7 v46 w' => ∃ (x7_3 : ByteArray) (x46_3 : Int), v7 = .string x7_3 ∧ v46 = .int .i64 x46_3 ∧ Aside0 (lapidarylaw14_LexBlanks.l1 kq l1 t260 x7_3 x10_15 t260 (t260.length : Int) x29_1 (wrap64 (1 + (Int.tmod x10_15 3))) x46_3 ((rd_T35 t260 x29_1).f0) ((rd_T35 t260 x29_1).f1) ((rd_T35 t260 x29_1).f2) = some r) ∧ Aside0 (kq ≤ kj15) ∧ Aside0 (Kd.R k35 35 w' w.heap.size (fun k_ => k_ ≠ gb273) (.slice (some ad272) t260.length co12) t260) ∧ Aside0 (Kd.R k35 35 w' w.heap.size (fun k_ => k_ ≠ gb273) (.slice (some ad272) t260.length co12) t260) ∧ Aside0 (w'.heap[gb273]? = some (.cells #[.int .u8 ((rd_T35 t260 x29_1).f0), .string ((rd_T35 t260 x29_1).f1), .int .i64 ((rd_T35 t260 x29_1).f2)] 35 (0, 0))) ∧ Aside0 (Below w.heap.size w w'))
                        case atStart => exact ⟨(x7_1), (0), (by first | rfl | (simp; done) | (simp [*]; done)), (by first | rfl | (simp; done) | (simp [*]; done)), H', ⟨Nat.le_refl _⟩, ⟨by (with_reducible repeat (first | apply Kd.R_alloc | apply Kd.R_drewN | apply Kd.R_drew)); exact HO_5.out⟩, ⟨by (with_reducible repeat (first | apply Kd.R_alloc | apply Kd.R_drewN | apply Kd.R_drew)); exact HO_27.out⟩, ⟨by (with_reducible repeat (first | refine blk_drewN ?_ _ | refine blk_drew ?_ | refine blk_alloc ?_ _)); exact BK273.out⟩, ⟨by repeat (first | (with_reducible first | exact HB.out | apply below_alloc | apply pw_below_drewN | apply below_drew1 | refine below_set ?_ GE273.out) | exact HB.out)⟩⟩
                        case round =>
                          clear H'
                          try clear c1
                          try clear p2
                          try clear q2
                          try clear hx2
                          try clear c4
                          try clear c6
                          try clear c6b0
                          try clear c6b1
                          try clear p6
                          try clear c7
                          try clear c7b0
                          try clear c7b1
                          try clear c9
                          try clear c9b0
                          try clear c9b1
                          try clear c11
                          try clear c13
                          try clear c13b0
                          try clear c14
                          try clear c14b0
                          try clear c15
                          try clear c15b0
                          try clear c19
                          try clear c19b0
                          try clear hcz18_0
                          try clear hcz18_1
                          try clear hcz18_2
                          try clear hfz18_0
                          try clear hfz18_1
                          try clear hfz18_2
                          try clear hx272_0
                          try clear hx272_1
                          try clear hx272_2
                          try clear hx274_0
                          try clear p2
                          try clear p272
                          try clear p274
                          try clear p6
                          try clear q2
                          try clear q272
                          try clear q274
                          obtain ⟨x7_3, x46_3, rfl, rfl, HA, HK3, HO_5, HO_27, BK273, HB⟩ := hrel
                          cases gk with
                          | zero => exact absurd HA.out (by simp [lapidarylaw14_LexBlanks.l1])
                          | succ k3 =>
                            have H := HA.out
                            clear HA
                            simp only [lapidarylaw14_LexBlanks.l1] at H
                            by_cases c20 : x46_3 < (wrap64 (1 + (Int.tmod x10_15 3)))
                            · rw [if_pos c20] at H
                              have c20b0 : decide (x46_3 < (wrap64 (1 + (Int.tmod x10_15 3)))) = true := decide_eq_true c20
                              clear c20
                              obtain ⟨ji21, hji21⟩ : ∃ j_ : Int, (Int.tmod (wrap64 (x10_15 + x46_3)) 4) = j_ := ⟨_, rfl⟩
                              replace H : (if 0 ≤ (ji21) then (if (ji21) ≤ (wrap64 ((ji21) + 1)) then (if (wrap64 ((ji21) + 1)) ≤ 4 then (if x7_3.size + ((⟨#[32, 9, 10, 13]⟩ : ByteArray).extract ((ji21) : Int).toNat ((wrap64 ((ji21) + 1)) : Int).toNat).size ≤ 9223372036854775807 then (lapidarylaw14_LexBlanks.l1 k3 l1 t260 (x7_3 ++ ((⟨#[32, 9, 10, 13]⟩ : ByteArray).extract ((ji21) : Int).toNat ((wrap64 ((ji21) + 1)) : Int).toNat)) x10_15 t260 (t260.length : Int) x29_1 (wrap64 (1 + (Int.tmod x10_15 3))) (wrap64 (x46_3 + 1)) ((rd_T35 t260 x29_1).f0) ((rd_T35 t260 x29_1).f1) ((rd_T35 t260 x29_1).f2)) else (none)) else (none)) else (none)) else (none)) = some r := by first | (rw [hji21] at H; exact H) | (simp only [hji21] at H ⊢; exact H)
                              by_cases c22 : 0 ≤ (ji21)
                              · rw [if_pos c22] at H
                                have c22b0 := eq_true c22
                                have c22b1 : decide (0 ≤ (ji21)) = true := decide_eq_true c22
                                clear c22
                                by_cases c23 : (ji21) ≤ (wrap64 ((ji21) + 1))
                                · rw [if_pos c23] at H
                                  have c23b0 := eq_true c23
                                  have c23b1 : decide ((ji21) ≤ (wrap64 ((ji21) + 1))) = true := decide_eq_true c23
                                  by_cases c24 : (wrap64 ((ji21) + 1)) ≤ 4
                                  · rw [if_pos c24] at H
                                    have c24b0 := eq_true c24
                                    have c24b1 : decide ((wrap64 ((ji21) + 1)) ≤ 4) = true := decide_eq_true c24
                                    by_cases c25 : x7_3.size + ((⟨#[32, 9, 10, 13]⟩ : ByteArray).extract ((ji21) : Int).toNat ((wrap64 ((ji21) + 1)) : Int).toNat).size ≤ 9223372036854775807
                                    · rw [if_pos c25] at H
                                      have c25b0 := eq_true c25
                                      have c25b1 : decide (x7_3.size + ((⟨#[32, 9, 10, 13]⟩ : ByteArray).extract ((ji21) : Int).toNat ((wrap64 ((ji21) + 1)) : Int).toNat).size ≤ 9223372036854775807) = true := decide_eq_true c25
                                      try have c25b2 : (9223372036854775807 < x7_3.size + ((⟨#[32, 9, 10, 13]⟩ : ByteArray).extract ((ji21) : Int).toNat ((wrap64 ((ji21) + 1)) : Int).toNat).size) = False := eq_false (Nat.not_lt.2 c25)
                                      have H' := Aside0.mk H
                                      clear H
                                      go_wp2
                                      go_roundg k3
                                      case measure => have := HK1.out; have := HJ15.out; have := HK3.out; omega
                                      case rel => exact ⟨(x7_3 ++ ((⟨#[32, 9, 10, 13]⟩ : ByteArray).extract ((ji21) : Int).toNat ((wrap64 ((ji21) + 1)) : Int).toNat)), (wrap64 (x46_3 + 1)), (by first | rfl | (simp; done) | (simp only [← hji21] <;> (first | rfl | simp)) | (simp [*]; done)), (by first | rfl | (simp; done) | (simp [*]; done)), H', ⟨by have := HK1.out; have := HJ15.out; have := HK3.out; omega⟩, ⟨by (with_reducible repeat (first | apply Kd.R_alloc | apply Kd.R_drewN | apply Kd.R_drew)); exact HO_5.out⟩, ⟨by (with_reducible repeat (first | apply Kd.R_alloc | apply Kd.R_drewN | apply Kd.R_drew)); exact HO_27.out⟩, ⟨by (with_reducible repeat (first | refine blk_drewN ?_ _ | refine blk_drew ?_ | refine blk_alloc ?_ _)); exact BK273.out⟩, ⟨by repeat (first | (with_reducible first | exact HB.out | apply below_alloc | apply pw_below_drewN | apply below_drew1 | refine below_set ?_ GE273.out) | exact HB.out)⟩⟩
                                    · rw [if_neg c25] at H
                                      exact absurd H (by simp)
                                  · rw [if_neg c24] at H
                                    exact absurd H (by simp)
                                · rw [if_neg c23] at H
                                  exact absurd H (by simp)
                              · rw [if_neg c22] at H
                                exact absurd H (by simp)
                            · rw [if_neg c20] at H
                              have c20b0 : decide (x46_3 < (wrap64 (1 + (Int.tmod x10_15 3)))) = false := decide_eq_false c20
                              clear c20
                              obtain ⟨y275, hy275⟩ : ∃ y_ : List (S35), y_ = (([(⟨((rd_T35 t260 x29_1).f0), ((rd_T35 t260 x29_1).f1), ((rd_T35 t260 x29_1).f2)⟩ : S35)] : List (S35))) := ⟨_, rfl⟩
                              replace H : ((lapidaryref14_Join.f k3 y275).bind fun t278 => (if x7_3.size + t278.size ≤ 9223372036854775807 then (lapidarylaw14_LexBlanks.l0 k3 l1 t260 (x7_3 ++ t278) t260 (t260.length : Int) (wrap64 (x29_1 + 1))) else (none))) = some r := by first | (rw [hy275]; with_reducible exact H) | (have H2_ := (Option.bind_some _ _).symm.trans H; rw [hy275]; with_reducible exact H2_) | (have H2_ := (Option.bind_some _ _).symm.trans H; with_reducible exact H2_) | with_reducible exact H | (rw [hy275]; exact H) | exact H
                              have Ny275 := Aside0.mk hy275
                              clear hy275
                              replace H := Option.bind_eq_some_iff.mp H
                              obtain ⟨t278, A260, H⟩ := H
                              replace H : (if x7_3.size + t278.size ≤ 9223372036854775807 then (lapidarylaw14_LexBlanks.l0 k3 l1 t260 (x7_3 ++ t278) t260 (t260.length : Int) (wrap64 (x29_1 + 1))) else (none)) = some r := H
                              have A26 := Aside0.mk A260
                              clear A260
                              by_cases c27 : x7_3.size + t278.size ≤ 9223372036854775807
                              · rw [if_pos c27] at H
                                have c27b0 := eq_true c27
                                have c27b1 : decide (x7_3.size + t278.size ≤ 9223372036854775807) = true := decide_eq_true c27
                                try have c27b2 : (9223372036854775807 < x7_3.size + t278.size) = False := eq_false (Nat.not_lt.2 c27)
                                have H' := Aside0.mk H
                                clear H
                                have hcz28_0 : wr.cell? ⟨gb273, 0, none⟩ = some (.int .u8 ((rd_T35 t260 x29_1).f0)) := (blk_cell BK273.out 0).trans rfl
                                have hcz28_1 : wr.cell? ⟨gb273, 1, none⟩ = some (.string ((rd_T35 t260 x29_1).f1)) := (blk_cell BK273.out 1).trans rfl
                                have hcz28_2 : wr.cell? ⟨gb273, 2, none⟩ = some (.int .i64 ((rd_T35 t260 x29_1).f2)) := (blk_cell BK273.out 2).trans rfl
                                have hfz28_0 := blk_frozen BK273.out 0
                                have hfz28_1 := blk_frozen BK273.out 1
                                have hfz28_2 := blk_frozen BK273.out 2
                                go_wp2_with (first | ((with_reducible refine gate_dst (N := 64) rfl ?_); refine Kd.R_lit k35 _ 35 ?hg (N := 64) ?hd (xs := ([(⟨((rd_T35 t260 x29_1).f0), ((rd_T35 t260 x29_1).f1), ((rd_T35 t260 x29_1).f2)⟩ : S35)] : List (S35))) (inner := [.int .u8 ((rd_T35 t260 x29_1).f0), .string ((rd_T35 t260 x29_1).f1), .int .i64 ((rd_T35 t260 x29_1).f2)]) (ok := fun _ => True) (okp := fun _ => True) ?hr ?hp (fun _ hk => hk) trivial (Below.refl _ _) (Nat.le_refl _) (by simp) ?_; (case hd => rfl); (case hg => rfl); (case hr => first | (go_simp; done) | (go_simp; rfl)); (case hp => exact (Reps.c3 (show Kd.M k35 _ _ _ (⟨((rd_T35 t260 x29_1).f0), ((rd_T35 t260 x29_1).f1), ((rd_T35 t260 x29_1).f2)⟩ : S35) [.int .u8 ((rd_T35 t260 x29_1).f0), .string ((rd_T35 t260 x29_1).f1), .int .i64 ((rd_T35 t260 x29_1).f2)] from (k35_mkM _ _ _ (⟨((rd_T35 t260 x29_1).f0), ((rd_T35 t260 x29_1).f1), ((rd_T35 t260 x29_1).f2)⟩ : S35) )) (Reps.none _ _))); intro v276 w29 ho30 hb hg_ hnew_; clear hg_ hnew_; (first | rw [← Ny275.out] at ho30 | (simp only [Int.reduceToNat] at ho30; rw [← Ny275.out] at ho30)); have n0_ := Aside0.mk (Kd.R_elder' (by (with_reducible repeat (first | apply Kd.R_alloc | apply Kd.R_drewN | apply Kd.R_drew)); exact HO_5.out) (Kd.R_base ho30) hb); have n1_ := Aside0.mk (Kd.R_elder' (by (with_reducible repeat (first | apply Kd.R_alloc | apply Kd.R_drewN | apply Kd.R_drew)); exact HO_27.out) (Kd.R_base ho30) hb); have n2_ := Aside0.mk (Kd.R_lower (Kd.R_newB (Kd.R_new' (Kd.R_new' ho30 (Kd.R_lt (by (with_reducible repeat (first | apply Kd.R_alloc | apply Kd.R_drewN | apply Kd.R_drew)); exact HO_5.out))) (Kd.R_lt (by (with_reducible repeat (first | apply Kd.R_alloc | apply Kd.R_drewN | apply Kd.R_drew)); exact HO_27.out))) (g := gb273) (o := .cells #[.int .u8 ((rd_T35 t260 x29_1).f0), .string ((rd_T35 t260 x29_1).f1), .int .i64 ((rd_T35 t260 x29_1).f2)] 35 (0, 0)) (by (with_reducible repeat (first | refine blk_drewN ?_ _ | refine blk_drew ?_ | refine blk_alloc ?_ _)); exact BK273.out)) (below_size (by repeat (first | (with_reducible first | exact HB.out | apply below_alloc | apply pw_below_drewN | apply below_drew1 | refine below_set ?_ GE273.out) | exact HB.out)))); have n3_ := Aside0.mk (blk_below (g := gb273) (o := .cells #[.int .u8 ((rd_T35 t260 x29_1).f0), .string ((rd_T35 t260 x29_1).f1), .int .i64 ((rd_T35 t260 x29_1).f2)] 35 (0, 0)) (by (with_reducible repeat (first | refine blk_drewN ?_ _ | refine blk_drew ?_ | refine blk_alloc ?_ _)); exact BK273.out) hb); have n4_ := Aside0.mk (below_step (by repeat (first | (with_reducible first | exact HB.out | apply below_alloc | apply pw_below_drewN | apply below_drew1 | refine below_set ?_ GE273.out) | exact HB.out)) hb); clear HO_5; clear HO_27; clear BK273; clear HB; have HO_5 := n0_; have HO_27 := n1_; have HO277 := n2_; have BK273 := n3_; have HB := n4_; clear n0_ n1_ n2_ n3_ n4_; clear hb ho30; obtain ⟨Ao31, co31, eo31⟩ := Kd.R_slice HO277.out; subst eo31) | ((with_reducible refine gate_callee (f := 15) rfl ?_); refine goesL_ (some 65) rfl rfl Tryd.func15 (by kernel_rfl) rfl #[.slice Ao31 y275.length co31] rfl (by (try simp only [List.map_toArray, List.map_cons, List.map_nil]); first | done | rfl | (simp only [List.length_drop, List.length_take]; rfl)) ?_; (with_reducible refine (lapidaryref14_Join.calls k3 _ _ y275 t278 _ ?side1 ?side2 A26.out).mono ?_); (case side1 => repeat (first | exact (Kd.R_reads' HO277.out).2.2 | (with_reducible refine Kd.C_alloc ?_ _) | (with_reducible refine Kd.C_drewN ?_ _) | (with_reducible refine Kd.C_drew ?_))); (case side2 => exact (Kd.R_reads' HO277.out).2.1); rintro e w32 ⟨rfl, hb⟩; refine ⟨_, rfl, ?_⟩; have n0_ := Aside0.mk (Kd.R_below (by (with_reducible repeat (first | apply Kd.R_alloc | apply Kd.R_drewN | apply Kd.R_drew)); exact HO_5.out) hb); have n1_ := Aside0.mk (Kd.R_below (by (with_reducible repeat (first | apply Kd.R_alloc | apply Kd.R_drewN | apply Kd.R_drew)); exact HO_27.out) hb); have n2_ := Aside0.mk (Kd.R_below (by (with_reducible repeat (first | apply Kd.R_alloc | apply Kd.R_drewN | apply Kd.R_drew)); exact HO277.out) hb); have n3_ := Aside0.mk (blk_below (g := gb273) (o := .cells #[.int .u8 ((rd_T35 t260 x29_1).f0), .string ((rd_T35 t260 x29_1).f1), .int .i64 ((rd_T35 t260 x29_1).f2)] 35 (0, 0)) (by (with_reducible repeat (first | refine blk_drewN ?_ _ | refine blk_drew ?_ | refine blk_alloc ?_ _)); exact BK273.out) hb); have n4_ := Aside0.mk (below_step (by repeat (first | (with_reducible first | exact HB.out | apply below_alloc | apply pw_below_drewN | apply below_drew1 | refine below_set ?_ GE273.out) | exact HB.out)) hb); clear HO_5; clear HO_27; clear HO277; clear BK273; clear HB; have HO_5 := n0_; have HO_27 := n1_; have HO277 := n2_; have BK273 := n3_; have HB := n4_; clear n0_ n1_ n2_ n3_ n4_; (try clear hb); (try clear hb2); (try clear hk); (try clear hi)))
                                go_roundg k3
                                case measure => have := HK1.out; have := HJ15.out; have := HK3.out; omega
                                case rel => exact ⟨(x7_3 ++ t278), (wrap64 (x29_1 + 1)), (by first | rfl | (simp; done) | (simp [*]; done)), (by first | rfl | (simp; done) | (simp [*]; done)), H', ⟨by have := HK1.out; have := HJ15.out; have := HK3.out; omega⟩, ⟨by (with_reducible repeat (first | apply Kd.R_alloc | apply Kd.R_drewN | apply Kd.R_drew)); exact Kd.R_mono HO_5.out (fun _ hk => trivial)⟩, ⟨by (with_reducible repeat (first | apply Kd.R_alloc | apply Kd.R_drewN | apply Kd.R_drew)); exact Kd.R_mono HO_27.out (fun _ hk => trivial)⟩, ⟨by repeat (first | (with_reducible first | exact HB.out | apply below_alloc | apply pw_below_drewN | apply below_drew1 | refine below_set ?_ GE273.out) | exact HB.out)⟩⟩
                              · rw [if_neg c27] at H
                                exact absurd H (by simp)
                  · rw [if_neg c15] at H
                    exact absurd H (by simp)
                · rw [if_neg c14] at H
                  exact absurd H (by simp)
              · rw [if_neg c13] at H
                have c13b0 : decide (x29_1 < (t260.length : Int)) = false := decide_eq_false c13
                clear c13
                by_cases c33 : x7_1.size + 1 ≤ 9223372036854775807
                · rw [if_pos c33] at H
                  have c33b0 := eq_true c33
                  have c33b1 : decide (x7_1.size + 1 ≤ 9223372036854775807) = true := decide_eq_true c33
                  try have c33b2 : (9223372036854775807 < x7_1.size + 1) = False := eq_false (Nat.not_lt.2 c33)
                  replace H := Option.bind_eq_some_iff.mp H
                  obtain ⟨⟨t264, t265⟩, A340, H⟩ := H
                  replace H : (if (x7_1.size : Int) ≥ 2000 then (some true) else (if t265 = 0 then ((lapidarylaw14_back.f k1 t264).bind fun t268 => ((lapidaryref14_Same.f k1 t268 t260).bind fun t271 => (some t271))) else (some false))) = some r := H
                  have A34 := Aside0.mk A340
                  clear A340
                  by_cases c35 : (x7_1.size : Int) ≥ 2000
                  · rw [if_pos c35] at H
                    have c35b0 : decide (2000 ≤ (x7_1.size : Int)) = true := decide_eq_true c35
                    have c35b1 : decide (2000 ≤ x7_1.size) = true := decide_eq_true (by omega)
                    clear c35
                    obtain rfl := Option.some.inj H
                    go_wp2_with (first | ((with_reducible refine gate_callee (f := 10) rfl ?_); refine goesL_ (some 71) rfl rfl Tryd.func10 (by kernel_rfl) rfl #[.string (x7_1 ++ (⟨#[32]⟩ : ByteArray))] rfl (by (try simp only [List.map_toArray, List.map_cons, List.map_nil]); first | done | rfl | (simp only [List.length_drop, List.length_take]; rfl)) ?_; (with_reducible refine (lex_Split.calls k1 (x7_1 ++ (⟨#[32]⟩ : ByteArray)) t264 t265 _ (HE.out.below (by repeat (first | (with_reducible first | exact HB.out | apply below_alloc | apply pw_below_drewN | apply below_drew1) | exact HB.out))) A34.out).mono ?_); rintro e w36 ⟨v266, rfl, ho0, hb⟩; refine ⟨_, rfl, ?_⟩; have n0_ := Aside0.mk (Kd.R_below (by (with_reducible repeat (first | apply Kd.R_alloc | apply Kd.R_drewN | apply Kd.R_drew)); exact HO_5.out) hb); have n1_ := Aside0.mk (Kd.R_below (by (with_reducible repeat (first | apply Kd.R_alloc | apply Kd.R_drewN | apply Kd.R_drew)); exact HO_27.out) hb); have n2_ := Aside0.mk (Kd.R_lower ho0 (below_size (by repeat (first | (with_reducible first | exact HB.out | apply below_alloc | apply pw_below_drewN | apply below_drew1) | exact HB.out)))); have n3_ := Aside0.mk (below_step (by repeat (first | (with_reducible first | exact HB.out | apply below_alloc | apply pw_below_drewN | apply below_drew1) | exact HB.out)) hb); clear HO_5; clear HO_27; clear HB; have HO_5 := n0_; have HO_27 := n1_; have HO267 := n2_; have HB := n3_; clear n0_ n1_ n2_ n3_; (try clear hb); (try clear hb2); (try clear hk); (try clear hi); (try clear ho0)))
                    go_ret
                    exact ⟨by first | rfl | (simp [errW_none, errW_some] <;> rfl) | (simp only [← hji5]; first | rfl | (simp [errW_none, errW_some] <;> rfl)) | (simp [*, errW_none, errW_some] <;> rfl), by repeat (first | (with_reducible first | exact HB.out | apply below_alloc | apply pw_below_drewN | apply below_drew1) | exact HB.out)⟩
                  · rw [if_neg c35] at H
                    have c35b0 : decide (2000 ≤ (x7_1.size : Int)) = false := decide_eq_false c35
                    have c35b1 : decide (2000 ≤ x7_1.size) = false := decide_eq_false (by omega)
                    clear c35
                    by_cases c37 : t265 = 0
                    · rw [if_pos c37] at H
                      have c37b0 : (t265 == 0) = true := beq_iff_eq.mpr c37
                      have c37b1 : (t265 != 0) = false := bne_eq_false_iff_eq.mpr c37
                      clear c37
                      replace H := Option.bind_eq_some_iff.mp H
                      obtain ⟨t268, A380, H⟩ := H
                      replace H : ((lapidaryref14_Same.f k1 t268 t260).bind fun t271 => (some t271)) = some r := H
                      have A38 := Aside0.mk A380
                      clear A380
                      replace H := Option.bind_eq_some_iff.mp H
                      obtain ⟨t271, A390, H⟩ := H
                      replace H : (some t271) = some r := H
                      have A39 := Aside0.mk A390
                      clear A390
                      obtain rfl := Option.some.inj H
                      go_wp2_with (first | ((with_reducible refine gate_callee (f := 10) rfl ?_); refine goesL_ (some 71) rfl rfl Tryd.func10 (by kernel_rfl) rfl #[.string (x7_1 ++ (⟨#[32]⟩ : ByteArray))] rfl (by (try simp only [List.map_toArray, List.map_cons, List.map_nil]); first | done | rfl | (simp only [List.length_drop, List.length_take]; rfl)) ?_; (with_reducible refine (lex_Split.calls k1 (x7_1 ++ (⟨#[32]⟩ : ByteArray)) t264 t265 _ (HE.out.below (by repeat (first | (with_reducible first | exact HB.out | apply below_alloc | apply pw_below_drewN | apply below_drew1) | exact HB.out))) A34.out).mono ?_); rintro e w40 ⟨v266, rfl, ho0, hb⟩; refine ⟨_, rfl, ?_⟩; have n0_ := Aside0.mk (Kd.R_below (by (with_reducible repeat (first | apply Kd.R_alloc | apply Kd.R_drewN | apply Kd.R_drew)); exact HO_5.out) hb); have n1_ := Aside0.mk (Kd.R_below (by (with_reducible repeat (first | apply Kd.R_alloc | apply Kd.R_drewN | apply Kd.R_drew)); exact HO_27.out) hb); have n2_ := Aside0.mk (Kd.R_lower ho0 (below_size (by repeat (first | (with_reducible first | exact HB.out | apply below_alloc | apply pw_below_drewN | apply below_drew1) | exact HB.out)))); have n3_ := Aside0.mk (below_step (by repeat (first | (with_reducible first | exact HB.out | apply below_alloc | apply pw_below_drewN | apply below_drew1) | exact HB.out)) hb); clear HO_5; clear HO_27; clear HB; have HO_5 := n0_; have HO_27 := n1_; have HO267 := n2_; have HB := n3_; clear n0_ n1_ n2_ n3_; (try clear hb); (try clear hb2); (try clear hk); (try clear hi); (try clear ho0); obtain ⟨Ao41, co41, eo41⟩ := Kd.R_slice HO267.out; subst eo41) | (go_at_call 13; (with_reducible refine (lapidarylaw14_back.calls k1 _ _ t264 t268 _ ?side1 ?side2 A38.out).mono ?_); (case side1 => repeat (first | exact (Kd.R_reads' HO267.out).2.2 | (with_reducible refine Kd.C_alloc ?_ _) | (with_reducible refine Kd.C_drewN ?_ _) | (with_reducible refine Kd.C_drew ?_))); (case side2 => exact (Kd.R_reads' HO267.out).2.1); rintro e w42 ⟨v269, rfl, ho0, hb⟩; have n0_ := Aside0.mk (Kd.R_elder' (by (with_reducible repeat (first | apply Kd.R_alloc | apply Kd.R_drewN | apply Kd.R_drew)); exact HO_5.out) (Kd.R_base ho0) hb); have n1_ := Aside0.mk (Kd.R_elder' (by (with_reducible repeat (first | apply Kd.R_alloc | apply Kd.R_drewN | apply Kd.R_drew)); exact HO_27.out) (Kd.R_base ho0) hb); have n2_ := Aside0.mk (Kd.R_below (by (with_reducible repeat (first | apply Kd.R_alloc | apply Kd.R_drewN | apply Kd.R_drew)); exact HO267.out) hb); have n3_ := Aside0.mk (Kd.R_lower (Kd.R_new' (Kd.R_new' ho0 (Kd.R_lt (by (with_reducible repeat (first | apply Kd.R_alloc | apply Kd.R_drewN | apply Kd.R_drew)); exact HO_5.out))) (Kd.R_lt (by (with_reducible repeat (first | apply Kd.R_alloc | apply Kd.R_drewN | apply Kd.R_drew)); exact HO_27.out))) (below_size (by repeat (first | (with_reducible first | exact HB.out | apply below_alloc | apply pw_below_drewN | apply below_drew1) | exact HB.out)))); have n4_ := Aside0.mk (below_step (by repeat (first | (with_reducible first | exact HB.out | apply below_alloc | apply pw_below_drewN | apply below_drew1) | exact HB.out)) hb); clear HO_5; clear HO_27; clear HO267; clear HB; have HO_5 := n0_; have HO_27 := n1_; have HO267 := n2_; have HO270 := n3_; have HB := n4_; clear n0_ n1_ n2_ n3_ n4_; (try clear hb); (try clear hb2); (try clear hk); (try clear hi); (try clear ho0); obtain ⟨Ao43, co43, eo43⟩ := Kd.R_slice HO270.out; subst eo43) | (go_at_call 12; (with_reducible refine (lapidaryref14_Same.calls k1 _ _ t268 _ _ t260 t271 _ ?side1 ?side2 ?side3 ?side4 A39.out).mono ?_); (case side1 => repeat (first | exact (Kd.R_reads' HO270.out).2.2 | (with_reducible refine Kd.C_alloc ?_ _) | (with_reducible refine Kd.C_drewN ?_ _) | (with_reducible refine Kd.C_drew ?_))); (case side2 => exact (Kd.R_reads' HO270.out).2.1); (case side3 => repeat (first | exact (Kd.R_reads' HO_5.out).2.2 | (with_reducible refine Kd.C_alloc ?_ _) | (with_reducible refine Kd.C_drewN ?_ _) | (with_reducible refine Kd.C_drew ?_))); (case side4 => exact (Kd.R_reads' HO_5.out).2.1); rintro e w' ⟨rfl, ⟨nd, rfl⟩⟩))
                      go_ret
                      exact ⟨by first | rfl | (simp [errW_none, errW_some] <;> rfl) | (simp only [← hji5]; first | rfl | (simp [errW_none, errW_some] <;> rfl)) | (simp [*, errW_none, errW_some] <;> rfl), by repeat (first | (with_reducible first | exact HB.out | apply below_alloc | apply pw_below_drewN | apply below_drew1) | exact HB.out)⟩
                    · rw [if_neg c37] at H
                      have c37b0 : (t265 == 0) = false := beq_eq_false_iff_ne.mpr c37
                      have c37b1 : (t265 != 0) = true := bne_iff_ne.mpr c37
                      obtain rfl := Option.some.inj H
                      go_wp2_with (first | ((with_reducible refine gate_callee (f := 10) rfl ?_); refine goesL_ (some 71) rfl rfl Tryd.func10 (by kernel_rfl) rfl #[.string (x7_1 ++ (⟨#[32]⟩ : ByteArray))] rfl (by (try simp only [List.map_toArray, List.map_cons, List.map_nil]); first | done | rfl | (simp only [List.length_drop, List.length_take]; rfl)) ?_; (with_reducible refine (lex_Split.calls k1 (x7_1 ++ (⟨#[32]⟩ : ByteArray)) t264 t265 _ (HE.out.below (by repeat (first | (with_reducible first | exact HB.out | apply below_alloc | apply pw_below_drewN | apply below_drew1) | exact HB.out))) A34.out).mono ?_); rintro e w44 ⟨v266, rfl, ho0, hb⟩; refine ⟨_, rfl, ?_⟩; have n0_ := Aside0.mk (Kd.R_below (by (with_reducible repeat (first | apply Kd.R_alloc | apply Kd.R_drewN | apply Kd.R_drew)); exact HO_5.out) hb); have n1_ := Aside0.mk (Kd.R_below (by (with_reducible repeat (first | apply Kd.R_alloc | apply Kd.R_drewN | apply Kd.R_drew)); exact HO_27.out) hb); have n2_ := Aside0.mk (Kd.R_lower ho0 (below_size (by repeat (first | (with_reducible first | exact HB.out | apply below_alloc | apply pw_below_drewN | apply below_drew1) | exact HB.out)))); have n3_ := Aside0.mk (below_step (by repeat (first | (with_reducible first | exact HB.out | apply below_alloc | apply pw_below_drewN | apply below_drew1) | exact HB.out)) hb); clear HO_5; clear HO_27; clear HB; have HO_5 := n0_; have HO_27 := n1_; have HO267 := n2_; have HB := n3_; clear n0_ n1_ n2_ n3_; (try clear hb); (try clear hb2); (try clear hk); (try clear hi); (try clear ho0)))
                      go_ret
                      exact ⟨by first | rfl | (simp [errW_none, errW_some] <;> rfl) | (simp only [← hji5]; first | rfl | (simp [errW_none, errW_some] <;> rfl)) | (simp [*, errW_none, errW_some] <;> rfl), by repeat (first | (with_reducible first | exact HB.out | apply below_alloc | apply pw_below_drewN | apply below_drew1) | exact HB.out)⟩
                · rw [if_neg c33] at H
                  exact absurd H (by simp)
        · rw [if_neg c9] at H
          have c9b0 : (t261 == 0) = false := beq_eq_false_iff_ne.mpr c9
          have c9b1 : (t261 != 0) = true := bne_iff_ne.mpr c9
          obtain rfl := Option.some.inj H
          go_enter Tryd.func6, Tryd.ntmps6
          go_wp2_with (first | ((with_reducible refine gate_callee (f := 9) rfl ?_); refine goesL_ (some 14) rfl rfl Tryd.func9 (by kernel_rfl) rfl #[] rfl (by (try simp only [List.map_toArray, List.map_cons, List.map_nil]); first | done | rfl | (simp only [List.length_drop, List.length_take]; rfl)) ?_; (with_reducible refine (lapidarylaw14_awake.calls k  true _ (HE.out.below (by repeat (first | (with_reducible first | exact HB.out | apply below_alloc | apply pw_below_drewN | apply below_drew1) | exact HB.out))) A3.out).mono ?_); rintro e w45 ⟨rfl, hb⟩; refine ⟨_, rfl, ?_⟩; have n0_ := Aside0.mk (below_step (by repeat (first | (with_reducible first | exact HB.out | apply below_alloc | apply pw_below_drewN | apply below_drew1) | exact HB.out)) hb); clear HB; have HB := n0_; clear n0_; (try clear hb); (try clear hb2); (try clear hk); (try clear hi)) | ((with_reducible refine gate_callee (f := 11) rfl ?_); refine goesL_ (some 22) rfl rfl Tryd.func11 (by kernel_rfl) rfl #[.string (a0.extract 0 ((ji5) : Int).toNat)] rfl (by (try simp only [List.map_toArray, List.map_cons, List.map_nil]); first | done | (simp only [hji5]; rfl) | rfl | (simp only [List.length_drop, List.length_take]; rfl)) ?_; (with_reducible refine (lapidaryref14_Split.calls k (a0.extract 0 ((ji5) : Int).toNat) t260 t261 _ A8.out).mono ?_); rintro e w46 ⟨v262, rfl, ho0, hb⟩; refine ⟨_, rfl, ?_⟩; have n0_ := Aside0.mk (Kd.R_lower ho0 (below_size (by repeat (first | (with_reducible first | exact HB.out | apply below_alloc | apply pw_below_drewN | apply below_drew1) | exact HB.out)))); have n1_ := Aside0.mk (below_step (by repeat (first | (with_reducible first | exact HB.out | apply below_alloc | apply pw_below_drewN | apply below_drew1) | exact HB.out)) hb); clear HB; have HO263 := n0_; have HB := n1_; clear n0_ n1_; (try clear hb); (try clear hb2); (try clear hk); (try clear hi); (try clear ho0)))
          go_ret
          exact ⟨by first | rfl | (simp [errW_none, errW_some] <;> rfl) | (simp only [← hji5]; first | rfl | (simp [errW_none, errW_some] <;> rfl)) | (simp [*, errW_none, errW_some] <;> rfl), by repeat (first | (with_reducible first | exact HB.out | apply below_alloc | apply pw_below_drewN | apply below_drew1) | exact HB.out)⟩
      · rw [if_neg c7] at H
        exact absurd H (by simp)
    · rw [if_neg c6] at H
      exact absurd H (by simp)
  · replace c4 := Bool.eq_false_iff.mpr c4
    subst c4
    have H1 : (some false) = some r := by rw [if_neg (show ¬ (false = true) by decide)] at H; exact H
    clear H
    have H := H1
    clear H1
    obtain rfl := Option.some.inj H
    go_enter Tryd.func6, Tryd.ntmps6
    go_wp2_with (first | ((with_reducible refine gate_callee (f := 9) rfl ?_); refine goesL_ (some 14) rfl rfl Tryd.func9 (by kernel_rfl) rfl #[] rfl (by (try simp only [List.map_toArray, List.map_cons, List.map_nil]); first | done | rfl | (simp only [List.length_drop, List.length_take]; rfl)) ?_; (with_reducible refine (lapidarylaw14_awake.calls k  false _ (HE.out.below (by repeat (first | (with_reducible first | exact HB.out | apply below_alloc | apply pw_below_drewN | apply below_drew1) | exact HB.out))) A3.out).mono ?_); rintro e w47 ⟨rfl, hb⟩; refine ⟨_, rfl, ?_⟩; have n0_ := Aside0.mk (below_step (by repeat (first | (with_reducible first | exact HB.out | apply below_alloc | apply pw_below_drewN | apply below_drew1) | exact HB.out)) hb); clear HB; have HB := n0_; clear n0_; (try clear hb); (try clear hb2); (try clear hk); (try clear hi)))
    go_ret
    exact ⟨by first | rfl | (simp [errW_none, errW_some] <;> rfl) | (simp [*, errW_none, errW_some] <;> rfl), by repeat (first | (with_reducible first | exact HB.out | apply below_alloc | apply pw_below_drewN | apply below_drew1) | exact HB.out)⟩

/-- THE ONE PURE STATEMENT of lapidarylaw14_LexBlanks: yours. -/
def lapidarylaw14_LexBlanks.Pure : Prop := ∀ (a0 : ByteArray) (l1 : List Int), a0.size ≤ 140737488351232 → l1.length ≤ maxLen → l1.length * 1 ≤ 140737488351232 → (∀ x ∈ l1, (Lit.int .u8 x).wf = true) → ∃ k, lapidarylaw14_LexBlanks.f k a0 l1 = some true
theorem lapidarylaw14_LexBlanks.walk (P : lapidarylaw14_LexBlanks.Pure) (a0 : ByteArray) (a1 : Option Addr) (len1 cap1 : Nat) (z1 : List Int) (w : World) (hE : UEnv w) (w0 : a0.size ≤ 140737488351232) (w1 : (a1 = none ∧ len1 = 0 ∧ cap1 = 0 ∧ z1 = []) ∨ ∃ x, a1 = some x ∧ len1 ≤ cap1 ∧ cap1 ≤ maxLen ∧ z1.length = cap1 ∧ (∀ i, i < z1.length → w.cell? (x.add i) = some (.int .u8 (z1.getD i 0))) ∧ ∀ n ∈ z1, (Lit.int .u8 n).wf = true) (y1 : len1 * 1 ≤ 140737488351232) :
    Calls Tryd.prog 6 #[.string a0, .slice a1 len1 cap1] w fun e w' => e = .returned (.bool true) ∧ Below w.heap.size w w' := by
  obtain ⟨l1, rfl, hr1, hm1, hw1, hc1⟩ := ReadsInt.ofRowC w1
  obtain ⟨k, h⟩ := P a0 l1 w0 hm1 y1 hw1
  refine (lapidarylaw14_LexBlanks.calls k a0 _ _ l1 true w (Kd.C_of_reads (d := (0 : Int)) (h1 := fun _ => rfl) hr1) hc1 hE h).mono ?_
  rintro e w' ⟨rfl, hd⟩
  exact ⟨rfl, hd⟩

end Go.Proofs.YtfbikpddpdkllaaDoor.Lx
