/-
  The two closures that are handed to stmt.Walk, and what walks with them do. Conditions: the depth is a small number; the counter lies in a block of its own.
-/
import Derived.Test.YtijohhadgioolaaWalk
import Derived.Deep.RegionWith
namespace Go.Proofs.Ytijohhadgioolaa
open Go.RowKit
set_option linter.unusedVariables false
set_option linter.unusedSimpArgs false
set_option maxRecDepth 4000

/-- a number in a block of its own -/
def Cnt (d : Nat) (m : Int) (w : World) : Prop := w.heap[d]? = some (.cells #[.int .i64 m] 3 (0, 0))
theorem Cnt.cell {d : Nat} {m : Int} {w : World} (h : Cnt d m w) : w.cell? ⟨d, 0, none⟩ = some (.int .i64 m) := hat0 h 0 _ rfl
theorem Cnt.free {d : Nat} {m : Int} {w : World} (h : Cnt d m w) : w.frozen? ⟨d, 0, none⟩ = false := by
  unfold Cnt at h
  simp [World.frozen?, h]
theorem Cnt.lt {d : Nat} {m : Int} {w : World} (h : Cnt d m w) : d < w.heap.size := (Array.getElem?_eq_some_iff.1 h).1
theorem Cnt.below {d : Nat} {m : Int} {w w' : World} (h : Cnt d m w) (hb : Below w.heap.size w w') : Cnt d m w' := (hb.block d h.lt).trans h
theorem Cnt.set {d : Nat} {m : Int} {w : World} (h : Cnt d m w) (n : Int) : Cnt d n (w.setCell ⟨d, 0, none⟩ (.int .i64 n)) := by
  unfold Cnt at h ⊢
  simp [World.setCell, Array.getElem?_modify, h]
theorem Step.set {d : Nat} {a w : World} (h : Step d a w) (u : Value) : Step d a (w.setCell ⟨d, 0, none⟩ u) :=
  h.trans ⟨rfl, rfl, rfl, by simp [World.setCell], fun k _ hd => Below.heap_setCell _ _ _ _ hd⟩

def mxi (a m : Int) : Int := if a > m then a else m
theorem deep_closure (d : Nat) (m : Int) (v : Value) (t : Ex) (w : World) (hi : Cnt d m w) (h : Rep w v t) (hd : t.depth ≤ 1000000) :
    Calls Try.prog 9 #[v, .pointer (some ⟨d, 0, none⟩)] w fun e w' => e = .returned (.bool true) ∧ Cnt d (mxi t.depth m) w' ∧ Step d w w' := by
  have HI := Lib.hid hi
  have hcell := hi.cell
  have hfree := hi.free
  have HD := Lib.hid (fun w' hr => depth_calls t v w' hr hd)
  have h1 : 1 ≤ t.depth := by rw [depth_kids]; omega
  obtain ⟨ty, x, rfl⟩ := h.iface
  have hkd : Keep w w.drew := keep_below (Below.refl _ w).drew
  have hr := Lib.hid h
  clear h hi
  go_enter Try.func9, Try.ntmps9
  go_wp2_with fail
  go_region_with (go_at_call 10; refine (HD.out _ (by first | exact hr.out | exact hr.out.keep hkd)).mono ?_; rintro e w2 ⟨rfl, hb2⟩; have hi2 := Lib.hid (HI.out.below (by first | exact hb2 | exact (Below.refl _ w).drew.trans hb2)); have hc2 := hi2.out.cell; have hf2 := hi2.out.free)
  all_goals
    have hb : Below w.heap.size w w2 := (Below.refl _ w).drew.trans hb2
    have hi3 := Lib.hid (hi2.out.set (if m < (t.depth : Int) then (t.depth : Int) else m))
    have hs3 := (Step.of_below (d := d) hb).set (.int .i64 (if m < (t.depth : Int) then (t.depth : Int) else m))
    have hr3 := Lib.hid (hr.out.keep (hs3.keep ⟨_, _, _, HI.out, rfl⟩))
    clear hkd hi2 hc2 hf2 hcell hfree hb2 hb
    generalize w2.setCell ⟨d, 0, none⟩ (.int .i64 (if m < (t.depth : Int) then (t.depth : Int) else m)) = w3 at hi3 hs3 hr3 ⊢
    generalize hM : (if m < (t.depth : Int) then (t.depth : Int) else m) = M at hi3 ⊢
    replace hM := Lib.hid hM
    go_wp2_with fail
    refine (HD.out _ hr3.out).mono ?_
    rintro e w4 ⟨rfl, hb4⟩
    have h1i : (1 : Int) ≤ (t.depth : Int) := by omega
    go_wp2_with fail
    go_ret
    exact ⟨rfl, by have := hi3.out.below hb4; rw [← hM.out] at this; unfold mxi; exact this, hs3.trans (Step.of_below hb4)⟩
theorem count_closure (d q : Nat) (m most : Int) (v : Value) (w : World) (hi : Cnt d m w) (hq : w.cell? ⟨q, 0, none⟩ = some (.int .u8 most)) (hdq : q ≠ d) (hm : 0 ≤ most ∧ most ≤ 255) :
    Calls Try.prog 14 #[v, .pointer (some ⟨d, 0, none⟩), .pointer (some ⟨q, 0, none⟩)] w fun e w' => e = .returned (.bool (wrap64 (m + 1) != most)) ∧ w' = w.setCell ⟨d, 0, none⟩ (.int .i64 (wrap64 (m + 1))) := by
  have HI := Lib.hid hi
  have hcell := hi.cell
  have hfree := hi.free
  have hs := (hi.set (wrap64 (m + 1))).cell
  have hs2 : (w.setCell ⟨d, 0, none⟩ (.int .i64 (wrap64 (m + 1)))).cell? ⟨q, 0, none⟩ = some (.int .u8 most) := by
    rw [World.cell?_setCell_other _ _ _ _ (by intro e; injection e with e _ _; exact hdq e.symm)]
    exact hq
  go_enter Try.func14, Try.ntmps14
  go_wp2_with fail
  go_ret
  exact ⟨rfl, rfl⟩
/-- what a walk with the first closure leaves: the greater of what stood there and the depth -/
def fdeep (m : Int) (t : Ex) : Int × Bool := (mxi t.depth m, true)
def fcount (most m : Int) (t : Ex) : Int × Bool := (wrap64 (m + 1), wrap64 (m + 1) != most)
theorem walk_deep (d : Nat) (t : Ex) (v : Value) (m : Int) (w : World) (h : Rep w v t) (hd : t.depth ≤ 1000000) (hi : Cnt d m w) :
    Calls Try.prog 8 #[v, .func (.func 9) #[] #[.pointer (some ⟨d, 0, none⟩)]] w fun e w' => e = .returned (.bool (wk fdeep t m).2) ∧ Cnt d (wk fdeep t m).1 w' ∧ Step d w w' :=
  walk_calls1 (.pointer (some ⟨d, 0, none⟩)) d fdeep (Cnt d) (fun s v t w hi hr hd => deep_closure d s v t w hi hr hd) (fun s w hi => ⟨_, _, _, hi, rfl⟩) (fun s w w' hi hb => hi.below hb) t v m w h hd hi
theorem walk_count (d q : Nat) (most : Int) (hm : 0 ≤ most ∧ most ≤ 255) (hdq : q ≠ d) (t : Ex) (v : Value) (m : Int) (w : World) (h : Rep w v t) (hd : t.depth ≤ 1000000) (hi : Cnt d m w) (hq : w.cell? ⟨q, 0, none⟩ = some (.int .u8 most)) :
    Calls Try.prog 8 #[v, .func (.func 14) #[] #[.pointer (some ⟨d, 0, none⟩), .pointer (some ⟨q, 0, none⟩)]] w fun e w' => e = .returned (.bool (wk (fcount most) t m).2) ∧ (Cnt d (wk (fcount most) t m).1 w' ∧ w'.cell? ⟨q, 0, none⟩ = some (.int .u8 most)) ∧ Step d w w' :=
  walk_calls2 (.pointer (some ⟨d, 0, none⟩)) (.pointer (some ⟨q, 0, none⟩)) d (fcount most) (fun m w => Cnt d m w ∧ w.cell? ⟨q, 0, none⟩ = some (.int .u8 most)) (fun s v t w hi hr hd => (count_closure d q s most v w hi.1 hi.2 hdq hm).mono fun e w' ⟨h1, h2⟩ => by
      subst h2
      exact ⟨h1, ⟨hi.1.set _, by rw [World.cell?_setCell_other _ _ _ _ (by intro e; injection e with e _ _; exact hdq e.symm)]; exact hi.2⟩, (Step.refl d w).set _⟩) (fun s w hi => ⟨_, _, _, hi.1, rfl⟩) (fun s w w' hi hb => ⟨hi.1.below hb, by
        have hl : q < w.heap.size := by
          rcases Nat.lt_or_ge q w.heap.size with h1 | h1
          · exact h1
          · have := hi.2; simp [World.cell?, Array.getElem?_eq_none h1] at this
        rw [hb.cell (p := ⟨q, 0, none⟩) hl]; exact hi.2⟩) t v m w h hd ⟨hi, hq⟩
theorem wk_deep : ∀ (t : Ex) (m : Int), (wk fdeep t m).2 = true ∧ (wk fdeep t m).1 = mxi t.depth m
  | .lit, m => ⟨rfl, rfl⟩
  | .col, m => ⟨rfl, rfl⟩
  | .agg0, m => ⟨rfl, rfl⟩
  | .un x, m => by
    have h := wk_deep x (fdeep m (.un x)).1
    rw [wk, if_pos (show (fdeep m (.un x)).2 = true from rfl)]
    refine ⟨h.1, h.2.trans ?_⟩
    simp only [fdeep, Ex.depth, mxi]
    repeat' split
    all_goals omega
  | .is x, m => by
    have h := wk_deep x (fdeep m (.is x)).1
    rw [wk, if_pos (show (fdeep m (.is x)).2 = true from rfl)]
    refine ⟨h.1, h.2.trans ?_⟩
    simp only [fdeep, Ex.depth, mxi]
    repeat' split
    all_goals omega
  | .agg x, m => by
    have h := wk_deep x (fdeep m (.agg x)).1
    rw [wk, if_pos (show (fdeep m (.agg x)).2 = true from rfl)]
    refine ⟨h.1, h.2.trans ?_⟩
    simp only [fdeep, Ex.depth, mxi]
    repeat' split
    all_goals omega
  | .bin x y, m => by
    have h := wk_deep x (fdeep m (.bin x y)).1
    have h2 := wk_deep y (wk fdeep x (fdeep m (.bin x y)).1).1
    rw [wk, if_pos (show (fdeep m (.bin x y)).2 = true from rfl), if_pos h.1]
    refine ⟨h2.1, h2.2.trans ?_⟩
    rw [h.2]
    simp only [fdeep, Ex.depth, mxi]
    repeat' split
    all_goals omega
end Go.Proofs.Ytijohhadgioolaa
