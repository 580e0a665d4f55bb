/-
  stmt.Depth by the tree. Conditions: the depth is a small number.
-/
import Derived.Test.YtijohhadgioolaaTree
import Derived.LoopTactic
import Derived.Lib.Hide
namespace Go.Proofs.Ytijohhadgioolaa
open Go.RowKit
set_option linter.unusedVariables false
set_option linter.unusedSimpArgs false
set_option maxRecDepth 4000

def mx (l : List Ex) : Nat := l.foldl (fun n k => max n k.depth) 0
theorem depth_kids (t : Ex) : t.depth = mx t.kids + 1 := by cases t <;> rfl
theorem mx_snoc (l : List Ex) (i : Nat) (k : Ex) (h : l[i]? = some k) : mx (l.take (i + 1)) = max (mx (l.take i)) k.depth := by
  rw [List.take_add_one, h]
  unfold mx
  rw [List.foldl_append]
  rfl
theorem depth_nil (w : World) : Calls Try.prog 10 #[.nilIface] w fun e w' => e = .returned (.int .i64 0) ∧ Below w.heap.size w w' := by
  go_enter Try.func10, Try.ntmps10
  go_wp2_with fail
  go_ret
  exact ⟨rfl, Below.refl _ _⟩
theorem depth_step (t : Ex) (v : Value) (w : World) (h : Rep w v t) (hd : t.depth ≤ 1000000)
    (ih : ∀ k ∈ t.kids, ∀ (v : Value) (w : World), Rep w v k → Calls Try.prog 10 #[v] w fun e w' => e = .returned (.int .i64 k.depth) ∧ Below w.heap.size w w') :
    Calls Try.prog 10 #[v] w fun e w' => e = .returned (.int .i64 t.depth) ∧ Below w.heap.size w w' := by
  have hp := parts_calls t v w h
  obtain ⟨d, x, rfl⟩ := h.iface
  rw [depth_kids] at hd ⊢
  have hlen : t.kids.length ≤ 2 := by cases t <;> simp [Ex.kids]
  generalize t.kids = ks at hp ih hd hlen ⊢
  clear h
  go_enter Try.func10, Try.ntmps10
  go_wp2_with fail
  refine hp.mono ?_
  rintro e w1 ⟨A, c, rfl, hk, hb⟩
  go_wp2_with fail
  clear hp
  go_loopw [3, 11] (fun n i wr => ∃ j : Nat, i = .int .i64 j ∧ n = .int .i64 (mx (ks.take j) : Nat) ∧ j ≤ ks.length ∧ Hid (Kids wr A ks) ∧ Below w.heap.size w wr) (fun _ i _ => ks.length - (intOf i).toNat)
  case atStart => exact ⟨0, rfl, rfl, by omega, Lib.hid hk, hb⟩
  case round =>
    obtain ⟨j, rfl, rfl, hj, hkr, hbw⟩ := hrel
    by_cases hlt : j < ks.length
    · have hk0 : ks[j]? = some ks[j] := List.getElem?_eq_getElem hlt
      obtain ⟨b, u, rfl, hcell, hrep⟩ := hkr.out.at hk0
      have hc := ih ks[j] (List.getElem_mem hlt) u wr hrep
      obtain ⟨d2, x2, rfl⟩ := hrep.iface
      have hm := mx_snoc ks j ks[j] hk0
      have HM := Lib.hid hm
      generalize ks[j] = k at hc HM
      clear hk0 hm hrep ih
      have hli : (j : Int) < (ks.length : Int) := Int.ofNat_lt.2 hlt
      go_wp2_with fail
      refine hc.mono ?_
      rintro e w2 ⟨rfl, hb2⟩
      go_wp2_with fail
      go_round
      case rel => exact ⟨j + 1, by go_num, by rw [HM.out]; congr 1; split <;> omega, by omega, Lib.hid (hkr.out.below hb2), hbw.trans (hb2.mono hbw.size)⟩
      case measure => simp [intOf]; omega
    · have hli : ¬ (j : Int) < (ks.length : Int) := by omega
      have e : ks.take j = ks := List.take_of_length_le (by omega)
      rw [e]
      clear e ih hk
      go_wp2_with fail
      go_ret
      exact ⟨by go_num, hbw⟩
theorem depth_calls : ∀ (t : Ex) (v : Value) (w : World), Rep w v t → t.depth ≤ 1000000 → Calls Try.prog 10 #[v] w fun e w' => e = .returned (.int .i64 t.depth) ∧ Below w.heap.size w w'
  | .lit, v, w, h, hd => depth_step _ v w h hd (fun k hk => by simp [Ex.kids] at hk)
  | .col, v, w, h, hd => depth_step _ v w h hd (fun k hk => by simp [Ex.kids] at hk)
  | .agg0, v, w, h, hd => depth_step _ v w h hd (fun k hk => by simp [Ex.kids] at hk)
  | .un x, v, w, h, hd => depth_step _ v w h hd (fun k hk v w hr => by
      have e : k = x := by simpa [Ex.kids] using hk
      rw [e] at hr ⊢; exact depth_calls x v w hr (by simp only [Ex.depth] at hd; omega))
  | .is x, v, w, h, hd => depth_step _ v w h hd (fun k hk v w hr => by
      have e : k = x := by simpa [Ex.kids] using hk
      rw [e] at hr ⊢; exact depth_calls x v w hr (by simp only [Ex.depth] at hd; omega))
  | .agg x, v, w, h, hd => depth_step _ v w h hd (fun k hk v w hr => by
      have e : k = x := by simpa [Ex.kids] using hk
      rw [e] at hr ⊢; exact depth_calls x v w hr (by simp only [Ex.depth] at hd; omega))
  | .bin x y, v, w, h, hd => depth_step _ v w h hd (fun k hk v w hr => by
      have hk2 : k = x ∨ k = y := by simpa [Ex.kids] using hk
      rcases hk2 with e | e
      · rw [e] at hr ⊢; exact depth_calls x v w hr (by simp only [Ex.depth] at hd; omega)
      · rw [e] at hr ⊢; exact depth_calls y v w hr (by simp only [Ex.depth] at hd; omega))
end Go.Proofs.Ytijohhadgioolaa
