/-
  The law StmtWalks: true, whatever nodes. Conditions: the row of nodes reads as nodes.
-/
import Derived.Test.YtijohhadgioolaaBuild
import Derived.Test.YtijohhadgioolaaCountLaw
namespace Go.Proofs.Ytijohhadgioolaa
open Go.RowKit
set_option linter.unusedVariables false
set_option linter.unusedSimpArgs false
set_option maxRecDepth 100000

/-- the cells of the pair at a place -/
theorem Out.at {B g cp : Nat} {w : World} {L : List (Item × Ex)} {n j : Nat} {m : Item} {t : Ex} (h : Out B w (.slice (some ⟨g, 0, none⟩) n cp) L) (hj : L[j]? = some (m, t)) :
    m.Is w t ∧ w.cell? ⟨g, j * 9, none⟩ = some (.iface m.d m.x) ∧ w.cell? ⟨g, j * 9 + 1, none⟩ = some (.int .u8 m.r.k) ∧ w.cell? ⟨g, j * 9 + 2, none⟩ = some (.int .u8 m.r.a) ∧ w.cell? ⟨g, j * 9 + 3, none⟩ = some (.int .i64 m.r.b) ∧ w.cell? ⟨g, j * 9 + 4, none⟩ = some (.string m.r.c) ∧ w.cell? ⟨g, j * 9 + 5, none⟩ = some (.bool m.r.e) ∧ w.cell? ⟨g, j * 9 + 6, none⟩ = some (.string m.r.t) ∧ w.cell? ⟨g, j * 9 + 7, none⟩ = some (.string m.r.s) ∧ w.cell? ⟨g, j * 9 + 8, none⟩ = some (.slice m.r.A m.r.n m.r.cp) := by
  have hc := h.own.cells (g := g) rfl
  have hf : ∀ (L : List (Item × Ex)) (j k : Nat) (u : Value), L[j]? = some (m, t) → m.vals[k]? = some u → (flat L)[j * 9 + k]? = some u := by
    intro L
    induction L with
    | nil => intro j k u h; simp at h
    | cons p L ih =>
      intro j k u h hu
      have e : flat (p :: L) = p.1.vals ++ flat L := rfl
      rw [e]
      match j, h with
      | 0, h =>
        obtain rfl : p = (m, t) := by simpa using h
        rw [Nat.zero_mul, Nat.zero_add, List.getElem?_append_left (List.getElem?_eq_some_iff.1 hu).1]
        exact hu
      | j + 1, h =>
        rw [List.getElem?_append_right (by rw [Item.len]; omega), Item.len]
        have e2 : (j + 1) * 9 + k - 9 = j * 9 + k := by omega
        rw [e2]
        exact ih j k u (by simpa using h) hu
  have hk : ∀ k u, m.vals[k]? = some u → w.cell? ⟨g, j * 9 + k, none⟩ = some u := fun k u hu => by
    have e : (⟨g, 0, none⟩ : Addr).add (j * 9 + k) = ⟨g, j * 9 + k, none⟩ := by
      unfold Addr.add
      split <;> simp_all
    rw [← e]
    exact hc _ _ (hf L j k u hj hu)
  exact ⟨h.is (m, t) (List.mem_of_getElem? hj), hk 0 _ rfl, hk 1 _ rfl, hk 2 _ rfl, hk 3 _ rfl, hk 4 _ rfl, hk 5 _ rfl, hk 6 _ rfl, hk 7 _ rfl, hk 8 _ rfl⟩
theorem cell_box (w : World) (v : Value) (t : TypeId) : (w.alloc (.cells #[v] t)).cell? ⟨w.heap.size, 0, none⟩ = some v := hat0 (alloc_new w _) 0 _ rfl
theorem cnt_new (w : World) (n : Int) : Cnt w.heap.size n (w.alloc (.cells #[.int .i64 n] 3)) := alloc_new w _
set_option maxHeartbeats 40000000 in
theorem walks_calls (A : Option Addr) (len cap : Nat) (hlen : len ≤ 9223372036854775807) (most : Int) (hm : 0 ≤ most ∧ most ≤ 255) (w : World) (hN : Nodes w A len) : Calls Try.prog 5 #[.slice A len cap, .int .u8 most] w fun e w' => e = .returned (.bool true) ∧ Below w.heap.size w w' := by
  have HN := Lib.hid hN
  have HM := Lib.hid hm
  obtain ⟨hm0, hm1⟩ := hm
  clear hN
  go_enter Try.func5, Try.ntmps5
  go_wp2_with fail
  have hq0 := Lib.hid (cell_box w (.int .u8 most) 5)
  have hB0 : Below w.heap.size w (w.alloc (.cells #[.int .u8 most] 5)) := (Below.refl _ w).alloc (Nat.le_refl _) _
  generalize w.alloc (.cells #[.int .u8 most] 5) = W0 at hq0 hB0 ⊢
  refine (awake_calls _).mono ?_
  rintro e w1 ⟨rfl, hb1⟩
  have hq1 := Lib.hid (cell_keep hb1 hq0.out)
  have hB1 := hB0.trans (hb1.mono hB0.size)
  clear hb1 hq0 hB0
  go_wp2_with fail
  refine (build_calls A len cap hlen w1 (HN.out.below hB1)).mono ?_
  rintro e w2 ⟨v, L, rfl, hO, hT, hb2⟩
  have hq2 := Lib.hid (cell_keep hb2 hq1.out)
  have hB2 := hB1.trans (hb2.mono hB1.size)
  have hO := Lib.hid hO
  obtain ⟨A3, cp3, rfl⟩ : ∃ A3 cp3, v = .slice A3 L.length cp3 := by
    rcases hO.out.slice with ⟨h1, h2⟩ | ⟨g2, cp, h1⟩
    · exact ⟨none, 0, by rw [h1, h2]; rfl⟩
    · exact ⟨_, cp, h1⟩
  generalize w1.heap.size = B at hO
  clear hb2 hq1 hB1 HN
  have hLen : L.length ≤ 60 := Nat.le_trans (len_total L) hT
  go_wp2_with fail
  go_loopw [16] (fun i wr => ∃ j : Nat, i = .int .i64 j ∧ j ≤ L.length ∧ Hid (Out B wr (.slice A3 L.length cp3) L) ∧ Hid (wr.cell? ⟨w.heap.size, 0, none⟩ = some (.int .u8 most)) ∧ Below w.heap.size w wr) (fun i _ => L.length - (intOf i).toNat)
  case atStart => exact ⟨0, rfl, by omega, hO, hq2, hB2⟩
  case round =>
    obtain ⟨j, rfl, hj, hOr, hqr, hBr⟩ := hrel
    clear hO hq2 hB2
    by_cases hlt : j < L.length
    · have hli : (j : Int) < (L.length : Int) := Int.ofNat_lt.2 hlt
      obtain ⟨m, t, hjt⟩ : ∃ m t, L[j]? = some (m, t) := ⟨_, _, List.getElem?_eq_getElem hlt⟩
      obtain ⟨g2, rfl⟩ := hOr.out.addr (by intro e; rw [e] at hlt; exact absurd hlt (by simp))
      obtain ⟨hIs, p0, p1, p2, p3, p4, p5, p6, p7, p8⟩ := hOr.out.at hjt
      have hcnt : t.count ≤ 60 := Nat.le_trans (mem_total L (m, t) (List.mem_of_getElem? hjt)) hT
      have hdep : t.depth ≤ 60 := Nat.le_trans (depth_count t) hcnt
      have hIs := Lib.hid hIs
      clear hjt
      have hBr := Lib.hid hBr
      go_wp2_with fail
      refine (count_calls t m.r _ (hIs.out.2.keep (keep_below ((Below.refl _ wr).alloc (Nat.le_refl _) _))) (by omega)).mono ?_
      rintro e w3 ⟨rfl, hb3⟩
      have r0 := cell_keep hb3 (hat0 (alloc_new wr (.cells m.vals.toArray 35)) 0 (.iface m.d m.x) rfl)
      have hb13 : Below wr.heap.size wr w3 := ((Below.refl _ wr).alloc (Nat.le_refl _) _).trans (hb3.mono (by simp))
      have hsz : wr.heap.size + 1 ≤ w3.heap.size := by have := hb3.size; simpa using this
      have hlt3 : wr.heap.size < w3.heap.size := by omega
      have HB13 := Lib.hid hb13
      have hIs3 := Lib.hid (hIs.out.keep (keep_below hb13))
      have hq3 := Lib.hid (cell_keep hb13 hqr.out)
      have hsw : w.heap.size ≤ wr.heap.size := hBr.out.size
      have hd3 := Lib.hid (show w.heap.size ≠ w3.heap.size by omega)
      clear hb3 hb13 hIs hqr p0 p1 p2 p3 p4 p5 p6 p7 p8
      go_wp2_with fail
      refine (walk_count w3.heap.size w.heap.size most HM.out hd3.out t (.iface m.d m.x) 0 _ (hIs3.out.1.keep (keep_below ((Below.refl _ w3).alloc (Nat.le_refl _) _))) (by omega) (cnt_new w3 0) (cell_keep ((Below.refl _ w3).alloc (Nat.le_refl _) _) hq3.out)).mono ?_
      rintro e w4 ⟨he, ⟨hc4, hq4⟩, hs4⟩
      have hBw := hBr.out.trans (HB13.out.mono hsw)
      have hBw4 := Lib.hid (Step.below (hBw.alloc (by omega) _) hs4 (by simp; omega) (by omega))
      have hOr4 := Lib.hid (hOr.out.below (Step.below (HB13.out.alloc (by omega) _) hs4 (by simp; omega) (by omega)))
      rw [wk_count most hm0 t 0 (by omega) (by omega) (by omega)] at he hc4
      have HQ4 := Lib.hid hq4
      have hct : (0 : Int) ≤ (t.count : Int) ∧ (t.count : Int) ≤ 60 := by omega
      obtain ⟨hct0, hct1⟩ := hct
      clear hs4 hBw hIs3 hq3 hd3 hOr r0 hsz hlt3 hsw
      rcases (show most = 0 ∨ (most ≠ 0 ∧ (t.count : Int) < most) ∨ (most ≠ 0 ∧ ¬ (t.count : Int) < most) by omega) with h0 | ⟨h0, h1⟩ | ⟨h0, h1⟩
      · subst h0
        rw [if_pos (.inl rfl)] at he hc4
        subst he
        have k0 : w4.cell? ⟨w3.heap.size, 0, none⟩ = some (.int .i64 (0 + (t.count : Int))) := hc4.cell
        rw [Int.zero_add] at k0
        clear hc4
        go_wp2_with fail
        go_round
        case rel => exact ⟨j + 1, by go_num, by omega, hOr4, HQ4, hBw4.out⟩
        case measure => simp [intOf]; omega
      · rw [if_pos (.inr (by omega))] at he hc4
        subst he
        have k0 : w4.cell? ⟨w3.heap.size, 0, none⟩ = some (.int .i64 (0 + (t.count : Int))) := hc4.cell
        rw [Int.zero_add] at k0
        have hmin : ∀ (ats : Array TypeId) (ty : TypeId), Builtin.min_ ats ty #[.int .i64 (t.count : Int), .int .i64 most] = pure (.int .i64 (t.count : Int)) := by
          intro ats ty
          have : (if most < (t.count : Int) then most else (t.count : Int)) = (t.count : Int) := by split <;> omega
          simp only [Builtin.min_, List.foldlM_cons, List.foldlM_nil, Builtin.min2, this]
          rfl
        have hp : (0 : Int) < most := by omega
        have hz : (most == 0) = false := by rw [beq_eq_false_iff_ne]; exact h0
        clear hc4
        go_wp2_with fail
        go_round
        case rel => exact ⟨j + 1, by go_num, by omega, hOr4, HQ4, hBw4.out⟩
        case measure => simp [intOf]; omega
      · rw [if_neg (by omega)] at he hc4
        subst he
        have k0 : w4.cell? ⟨w3.heap.size, 0, none⟩ = some (.int .i64 most) := hc4.cell
        have hmin : ∀ (ats : Array TypeId) (ty : TypeId), Builtin.min_ ats ty #[.int .i64 (t.count : Int), .int .i64 most] = pure (.int .i64 most) := by
          intro ats ty
          have : (if most < (t.count : Int) then most else (t.count : Int)) = most := by split <;> omega
          simp only [Builtin.min_, List.foldlM_cons, List.foldlM_nil, Builtin.min2, this]
          rfl
        have hp : (0 : Int) < most := by omega
        have hz : (most == 0) = false := by rw [beq_eq_false_iff_ne]; exact h0
        clear hc4
        go_wp2_with fail
        go_round
        case rel => exact ⟨j + 1, by go_num, by omega, hOr4, HQ4, hBw4.out⟩
        case measure => simp [intOf]; omega
    · have hli : ¬ (j : Int) < (L.length : Int) := by omega
      go_wp2_with fail
      refine (walk_nil _ _).mono ?_
      rintro e w5 ⟨rfl, hb5⟩
      go_wp2_with fail
      go_ret
      exact ⟨rfl, hBr.trans (hb5.mono hBr.size)⟩
end Go.Proofs.Ytijohhadgioolaa
