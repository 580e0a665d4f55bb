/-
  The law StmtDepths: true, whatever nodes. Conditions: the row of nodes reads as nodes.
-/
import Derived.Test.YtijohhadgioolaaWalksWalk
import Derived.Deep.RegionHeld3
namespace Go.Proofs.Ytijohhadgioolaa
open Go.RowKit
set_option linter.unusedVariables false
set_option linter.unusedSimpArgs false
set_option maxRecDepth 100000

theorem Step.cell {d : Nat} {w w' : World} (h : Step d w w') {p : Addr} {v : Value} (hp : p.block ≠ d) (hc : w.cell? p = some v) : w'.cell? p = some v := by
  have hl : p.block < w.heap.size := by
    rcases Nat.lt_or_ge p.block w.heap.size with h1 | h1
    · exact h1
    · simp [World.cell?, Array.getElem?_eq_none h1] at hc
  rw [World.cell?_of_block (h.block p.block hl hp)]
  exact hc
theorem depth_pos (t : Ex) : 1 ≤ t.depth := by cases t <;> simp [Ex.depth]
theorem two_plain (W0 : World) (o1 o2 : Obj) (z : Nat) (hz : W0.heap.size = z) : ((W0.alloc o1).alloc o2).heap[z]? = some o1 ∧ ((W0.alloc o1).alloc o2).heap[z + 1]? = some o2 ∧ Below W0.heap.size W0 ((W0.alloc o1).alloc o2) := by
  obtain ⟨h1, h2, _⟩ := two_new W0 o1 o2 z hz
  exact ⟨h1, h2, ((Below.refl _ W0).alloc (Nat.le_refl _) _).alloc (by simp) _⟩
/-- Depth of what is one deeper -/
def Deeper (n : Nat) (a : Value) (W : World) : Prop := Calls Try.prog 10 #[a] W fun e w' => e = .returned (.int .i64 ((n : Int) + 1)) ∧ Below W.heap.size W w'
theorem deeper_of {n : Nat} {a : Value} {W : World} {t : Ex} (h : Rep W a t) (hd : t.depth = n + 1) (hn : n ≤ 60) : Deeper n a W :=
  (depth_calls t a W h (by omega)).mono fun e w' ⟨he, hb⟩ => ⟨by rw [he, hd]; rfl, hb⟩
theorem deeper_un {W : World} {m : Item} {t : Ex} {z : Nat} {c0 : Value} (h : Rep W (.iface m.d m.x) t) (hb : W.heap[z]? = some (.cells #[c0, .iface m.d m.x] 41 (0, 0))) (hn : t.depth ≤ 60) : Deeper t.depth (.iface 39 (.pointer (some ⟨z, 0, none⟩))) W :=
  deeper_of (t := .un t) ⟨_, _, _, _, rfl, hb, h⟩ (by simp only [Ex.depth]; omega) hn
theorem deeper_is {W : World} {m : Item} {t : Ex} {z : Nat} {c0 : Value} (h : Rep W (.iface m.d m.x) t) (hb : W.heap[z]? = some (.cells #[.iface m.d m.x, c0] 44 (0, 0))) (hn : t.depth ≤ 60) : Deeper t.depth (.iface 42 (.pointer (some ⟨z, 0, none⟩))) W :=
  deeper_of (t := .is t) ⟨_, _, _, _, rfl, hb, h⟩ (by simp only [Ex.depth]; omega) hn
theorem deeper_bin {W : World} {m : Item} {t : Ex} (c : Array Value) (c0 : Value) (h : Rep W (.iface m.d m.x) t) (hn : t.depth ≤ 60) :
    Deeper t.depth (.iface 45 (.pointer (some ⟨W.heap.size + 1, 0, none⟩))) ((W.alloc (.cells c 48)).alloc (.cells #[c0, .iface m.d m.x, .iface 46 (.pointer (some ⟨W.heap.size, 0, none⟩))] 50)) := by
  obtain ⟨h1, h2, hb⟩ := two_plain W (.cells c 48) (.cells #[c0, .iface m.d m.x, .iface 46 (.pointer (some ⟨W.heap.size, 0, none⟩))] 50) _ rfl
  have hp := depth_pos t
  exact deeper_of (t := .bin t .lit) ⟨_, _, _, _, _, rfl, h2, h.keep (keep_below hb), ⟨_, _, _, rfl, h1⟩⟩ (by simp only [Ex.depth]; omega) hn
set_option maxHeartbeats 40000000 in
theorem depths_calls (A : Option Addr) (len cap : Nat) (hlen : len ≤ 9223372036854775807) (w : World) (hN : Nodes w A len) : Calls Try.prog 3 #[.slice A len cap] w fun e w' => e = .returned (.bool true) ∧ Below w.heap.size w w' := by
  have HN := Lib.hid hN
  clear hN
  go_enter Try.func3, Try.ntmps3
  go_wp2_with fail
  refine (awake_calls _).mono ?_
  rintro e w1 ⟨rfl, hb1⟩
  go_wp2_with fail
  refine (build_calls A len cap hlen w1 (HN.out.below hb1)).mono ?_
  rintro e w2 ⟨v, L, rfl, hO, hT, hb2⟩
  have hB2 := hb1.trans (hb2.mono hb1.size)
  have hO := Lib.hid hO
  obtain ⟨A3, cp3, rfl⟩ : ∃ A3 cp3, v = .slice A3 L.length cp3 := by
    rcases hO.out.slice with ⟨h1, h2⟩ | ⟨g2, cp, h1⟩
    · exact ⟨none, 0, by rw [h1, h2]; rfl⟩
    · exact ⟨_, cp, h1⟩
  generalize w1.heap.size = B at hO
  clear hb2 hb1 HN
  have hLen : L.length ≤ 60 := Nat.le_trans (len_total L) hT
  go_wp2_with fail
  go_loopw [13] (fun i wr => ∃ j : Nat, i = .int .i64 j ∧ j ≤ L.length ∧ Hid (Out B wr (.slice A3 L.length cp3) L) ∧ Below w.heap.size w wr) (fun i _ => L.length - (intOf i).toNat)
  case atStart => exact ⟨0, rfl, by omega, hO, hB2⟩
  case round =>
    obtain ⟨j, rfl, hj, hOr, hBr⟩ := hrel
    clear hO hB2
    by_cases hlt : j < L.length
    · have hli : (j : Int) < (L.length : Int) := Int.ofNat_lt.2 hlt
      obtain ⟨m, t, hjt⟩ : ∃ m t, L[j]? = some (m, t) := ⟨_, _, List.getElem?_eq_getElem hlt⟩
      obtain ⟨g2, rfl⟩ := hOr.out.addr (by intro e; rw [e] at hlt; exact absurd hlt (by simp))
      obtain ⟨hIs, p0, p1, p2, p3, p4, p5, p6, p7, p8⟩ := hOr.out.at hjt
      have hcnt : t.count ≤ 60 := Nat.le_trans (mem_total L (m, t) (List.mem_of_getElem? hjt)) hT
      have hdep : t.depth ≤ 60 := Nat.le_trans (depth_count t) hcnt
      have hIs := Lib.hid hIs
      clear hjt
      have hBr := Lib.hid hBr
      have hsw : w.heap.size ≤ wr.heap.size := hBr.out.size
      obtain ⟨x1, x2, x3⟩ := two_plain wr (.cells m.vals.toArray 35) (.cells #[.int .i64 0] 3) _ rfl
      have X1 := Lib.hid x1
      have X2 := Lib.hid x2
      have X3 := Lib.hid x3
      clear x1 x2 x3
      go_wp2_with fail
      refine (walk_deep (wr.heap.size + 1) t (.iface m.d m.x) 0 _ (hIs.out.1.keep (keep_below X3.out)) (by omega) X2.out).mono ?_
      rintro e w4 ⟨he, hc4, hs4⟩
      have hwk := wk_deep t 0
      have hmx : mxi t.depth 0 = (t.depth : Int) := by unfold mxi; split <;> omega
      rw [hwk.1] at he
      rw [hwk.2, hmx] at hc4
      subst he
      have hIs4 := Lib.hid ((hIs.out.keep (keep_below X3.out)).keep (hs4.keep ⟨_, _, _, X2.out, rfl⟩))
      have r4 : w4.cell? ⟨wr.heap.size, 0, none⟩ = some (.iface m.d m.x) := hs4.cell (by simp) (hat0 X1.out 0 _ rfl)
      have r5 : w4.cell? ⟨wr.heap.size + 1, 0, none⟩ = some (.int .i64 (t.depth : Int)) := hc4.cell
      have hB4 := Lib.hid (Step.below (Below.trans (Below.refl wr.heap.size wr) X3.out) hs4 X3.out.size (by omega))
      have hl4 : wr.heap.size + 1 < w4.heap.size := hc4.lt
      have hcall := Lib.hid (depth_calls t (.iface m.d m.x) w4.drew (hIs4.out.1.keep (keep_below ((Below.refl _ w4).drew))) (by omega))
      clear hwk hmx hs4 X1 X2 X3 hIs p0 p1 p2 p3 p4 p5 p6 p7 p8 hc4
      go_wp2_with fail
      go_region_held3 (fun w' => w'.cell? ⟨wr.heap.size, 0, none⟩ = some (.iface m.d m.x) ∧ w'.cell? ⟨wr.heap.size + 1, 0, none⟩ = some (.int .i64 (t.depth : Int)))
        (first
          | exact ⟨cell_keep hb5 r4, cell_keep hb5 r5⟩
          | go_keep)
        ((go_at_call 10; refine hcall.out.mono ?_; rintro e w5 ⟨rfl, hb5⟩))
      have hB45 : Below w4.heap.size w4 w5 := Below.trans ((Below.refl w4.heap.size w4).drew) hb5
      have hB5 := Lib.hid (hB4.out.trans (hB45.mono hB4.out.size))
      have hIs5 := Lib.hid (hIs4.out.keep (keep_below hB45))
      have r4' := Lib.hid (cell_keep hB45 r4)
      have r5' := Lib.hid (cell_keep hB45 r5)
      have hl5 : wr.heap.size + 1 < w5.heap.size := Nat.lt_of_lt_of_le hl4 hB45.size
      have hl50 : wr.heap.size < w5.heap.size := by omega
      clear hb5 hB45 hB4 hIs4 r4 r5 hcall hl4
      obtain ⟨y1, y2, y3⟩ := two_plain w5 (.cells #[.string ⟨#[78, 79, 84]⟩, .iface m.d m.x] 41) (.cells #[.iface m.d m.x, .bool false] 44) _ rfl
      have Y1 := Lib.hid y1
      have Y2 := Lib.hid y2
      have Y3 := Lib.hid y3
      have s4 := r4'.out
      have s5 := r5'.out
      clear y1 y2 y3
      go_wp2_with fail
      generalize (w5.alloc (.cells #[.string ⟨#[78, 79, 84]⟩, .iface m.d m.x] 41)).alloc (.cells #[.iface m.d m.x, .bool false] 44) = W6 at Y1 Y2 Y3 ⊢
      clear s4 s5
      have s4 := cell_keep Y3.out r4'.out
      have s5 := cell_keep Y3.out r5'.out
      have hIs6 := Lib.hid (hIs5.out.keep (keep_below Y3.out))
      have hB6 := Lib.hid (hB5.out.trans (Y3.out.mono hB5.out.size))
      have D1 : Hid (∀ W, Below W6.heap.size W6 W → Calls Try.prog 10 #[.iface 39 (.pointer (some ⟨w5.heap.size, 0, none⟩))] W fun e w' => e = .returned (.int .i64 ((t.depth : Int) + 1)) ∧ Below W.heap.size W w') := Lib.hid (fun W hb => deeper_un (hIs6.out.1.keep (keep_below hb)) ((hb.block _ (Array.getElem?_eq_some_iff.1 Y1.out).1).trans Y1.out) hdep)
      have D2 : Hid (∀ W, Below W6.heap.size W6 W → Calls Try.prog 10 #[.iface 42 (.pointer (some ⟨w5.heap.size + 1, 0, none⟩))] W fun e w' => e = .returned (.int .i64 ((t.depth : Int) + 1)) ∧ Below W.heap.size W w') := Lib.hid (fun W hb => deeper_is (hIs6.out.1.keep (keep_below hb)) ((hb.block _ (Array.getElem?_eq_some_iff.1 Y2.out).1).trans Y2.out) hdep)
      have D3 : Hid (∀ W, Below W6.heap.size W6 W → Calls Try.prog 10 #[.iface 45 (.pointer (some ⟨W.heap.size + 1, 0, none⟩))] ((W.alloc (.cells #[.int .u8 0, .int .i64 0, .string ⟨#[]⟩, .bool false] 48)).alloc (.cells #[.string ⟨#[43]⟩, .iface m.d m.x, .iface 46 (.pointer (some ⟨W.heap.size, 0, none⟩))] 50)) fun e w' => e = .returned (.int .i64 ((t.depth : Int) + 1)) ∧ Below ((W.alloc (.cells #[.int .u8 0, .int .i64 0, .string ⟨#[]⟩, .bool false] 48)).alloc (.cells #[.string ⟨#[43]⟩, .iface m.d m.x, .iface 46 (.pointer (some ⟨W.heap.size, 0, none⟩))] 50)).heap.size ((W.alloc (.cells #[.int .u8 0, .int .i64 0, .string ⟨#[]⟩, .bool false] 48)).alloc (.cells #[.string ⟨#[43]⟩, .iface m.d m.x, .iface 46 (.pointer (some ⟨W.heap.size, 0, none⟩))] 50)) w') := Lib.hid (fun W hb => deeper_bin _ _ (hIs6.out.1.keep (keep_below hb)) hdep)
      have hl6 : wr.heap.size + 1 < W6.heap.size := Nat.lt_of_lt_of_le hl5 Y3.out.size
      have b0 : Hid (Below W6.heap.size W6 W6.drew) := Lib.hid ((Below.refl W6.heap.size W6).drew)
      have hd0 : (0 : Int) ≤ (t.depth : Int) := by omega
      have hd1 : (t.depth : Int) ≤ 60 := by omega
      have hl60 : wr.heap.size < W6.heap.size := by omega
      clear hB5 hIs5 r4' r5' hl5 hl50
      have hw : IntKind.i64.wrap ((t.depth : Int) + 1) = (t.depth : Int) + 1 := IntWalk.i64_in _ (by omega)
      go_region_held3 (fun w' => w'.cell? ⟨wr.heap.size, 0, none⟩ = some (.iface m.d m.x) ∧ w'.cell? ⟨wr.heap.size + 1, 0, none⟩ = some (.int .i64 (t.depth : Int)))
        (first
          | exact ⟨cell_keep hb10 (cell_keep (two_plain w8 _ _ _ rfl).2.2 (cell_keep b8.out s4)), cell_keep hb10 (cell_keep (two_plain w8 _ _ _ rfl).2.2 (cell_keep b8.out s5))⟩
          | with_reducible exact ⟨cell_keep (two_plain w8 _ _ _ rfl).2.2 (cell_keep b8.out s4), cell_keep (two_plain w8 _ _ _ rfl).2.2 (cell_keep b8.out s5)⟩
          | with_reducible exact ⟨cell_keep ((Below.refl _ w8).alloc (Nat.le_refl _) _) (cell_keep b8.out s4), cell_keep ((Below.refl _ w8).alloc (Nat.le_refl _) _) (cell_keep b8.out s5)⟩
          | exact ⟨cell_keep b8.out s4, cell_keep b8.out s5⟩
          | exact ⟨cell_keep b7.out s4, cell_keep b7.out s5⟩
          | go_keep)
        (first
          | (go_at_call 10; (with_reducible refine (D1.out _ b0.out).mono ?_); rintro e w7 ⟨rfl, hb7⟩; have b7 : Hid (Below W6.heap.size W6 w7) := Lib.hid (Below.trans b0.out hb7))
          | (go_at_call 10; (with_reducible refine (D2.out _ b7.out).mono ?_); rintro e w8 ⟨rfl, hb8⟩; have b8 : Hid (Below W6.heap.size W6 w8) := Lib.hid (Below.trans b7.out (hb8.mono b7.out.size)))
          | (go_at_call 10; (with_reducible refine (D3.out _ b8.out).mono ?_); rintro e w10 ⟨rfl, hb10⟩))
      clear hw
      have hBf := Lib.hid (hB6.out.trans (((b8.out.trans ((two_plain w8 _ _ _ rfl).2.2.mono b8.out.size)).trans (hb10.mono (Nat.le_trans b8.out.size (two_plain w8 _ _ _ rfl).2.2.size))).mono hB6.out.size))
      clear hb10 hb8 hb7 b7 b8 b0 D1 D2 D3 Y1 Y2 Y3 s4 s5 hIs6 hB6
      go_wp2_with fail
      go_round
      case rel => exact ⟨j + 1, by go_num, by omega, Lib.hid (hOr.out.below hBf.out), hBr.out.trans (hBf.out.mono hsw)⟩
      case measure => simp [intOf]; omega
    · have hli : ¬ (j : Int) < (L.length : Int) := by omega
      go_wp2_with fail
      go_ret
      exact ⟨rfl, hBr⟩
end Go.Proofs.Ytijohhadgioolaa
