/-
  A row of nodes that came in, opened: each node's seven cells. No conditions.
-/
import Derived.Test.YtijohhadgioolaaBuild
import Derived.ProofKit
import Derived.OpenShut
import Derived.Deep.Slices
namespace Go.Proofs.Ytijohhadgioolaa
open Go.ChangeShapes Go.WideShapes Go.ChangeAt Go.RowKit Go.Deep
set_option linter.unusedVariables false
set_option linter.unusedSimpArgs false

theorem own : ownKnob Try.prog.godebug = none := by kernel_rfl
theorem laidOut : laidOutB Try.prog = true := by kernel_rfl
theorem node_cells : Try.prog.cellsOf 60 = 7 := by kernel_rfl
theorem value_cells : Try.prog.cellsOf 30 = 4 := by kernel_rfl
theorem one28 : Try.prog.cellsOf 28 = 1 := by kernel_rfl
theorem one2 : Try.prog.cellsOf 2 = 1 := by kernel_rfl
theorem one9 : Try.prog.cellsOf 9 = 1 := by kernel_rfl
theorem one4 : Try.prog.cellsOf 4 = 1 := by kernel_rfl
theorem one5 : Try.prog.cellsOf 5 = 1 := by kernel_rfl
theorem seven_of {cs : List Value} (h : cs.length = 7) : ∃ c0 c1 c2 c3 c4 c5 c6, cs = [c0, c1, c2, c3, c4, c5, c6] := by
  match cs, h with
  | [c0, c1, c2, c3, c4, c5, c6], _ => exact ⟨_, _, _, _, _, _, _, rfl⟩
section
variable {H : Type} {enc : TypeId × Value → H} {W : World} {base : Nat} {spare : Nat → Bool} {held : Bool}
theorem node_of {n : Nat} {cs : List Value} {x : DataW H × List MemPlace} (h : DataW.trod enc Try.prog W base spare held n 60 cs = some x) :
    ∃ d a b c e s t, cs = [.int .u8 d, .int .u8 a, .int .i64 b, .string c, .bool e, .string s, .string t] ∧ (Lit.int .u8 d).wf = true := by
  obtain ⟨xs, n1, _, _, hlen, hxs, hf⟩ := DataW.trod_struct Try.underlying60 h
  rw [node_cells] at hlen
  obtain ⟨c0, c1, c2, c3, c4, c5, c6, rfl⟩ := seven_of hlen
  have g0 : DataW.trod enc Try.prog W base spare held n1 5 (([c0, c1, c2, c3, c4, c5, c6].drop 0).take (Try.prog.cellsOf 5)) = xs[0]? := hf 0 _ rfl
  have g1 : DataW.trod enc Try.prog W base spare held n1 30 (([c0, c1, c2, c3, c4, c5, c6].drop 1).take (Try.prog.cellsOf 30)) = xs[1]? := hf 1 _ rfl
  have g2 : DataW.trod enc Try.prog W base spare held n1 9 (([c0, c1, c2, c3, c4, c5, c6].drop 5).take (Try.prog.cellsOf 9)) = xs[2]? := hf 2 _ rfl
  have g3 : DataW.trod enc Try.prog W base spare held n1 9 (([c0, c1, c2, c3, c4, c5, c6].drop 6).take (Try.prog.cellsOf 9)) = xs[3]? := hf 3 _ rfl
  rw [one5] at g0
  rw [value_cells] at g1
  rw [one9] at g2 g3
  have hxs4 : xs.length = 4 := hxs
  rw [List.getElem?_eq_getElem (by omega)] at g0 g1 g2 g3
  obtain ⟨d, e0, _, wd⟩ := DataW.trod_int Try.underlying5 g0
  obtain ⟨s, e5, _, _⟩ := DataW.trod_string Try.underlying9 g2
  obtain ⟨t, e6, _, _⟩ := DataW.trod_string Try.underlying9 g3
  obtain ⟨ys, n2, _, _, _, hys, hv⟩ := DataW.trod_struct Try.underlying30 g1
  have k0 : DataW.trod enc Try.prog W base spare held n2 28 (((([c0, c1, c2, c3, c4, c5, c6].drop 1).take 4).drop 0).take (Try.prog.cellsOf 28)) = ys[0]? := hv 0 _ rfl
  have k1 : DataW.trod enc Try.prog W base spare held n2 2 (((([c0, c1, c2, c3, c4, c5, c6].drop 1).take 4).drop 1).take (Try.prog.cellsOf 2)) = ys[1]? := hv 1 _ rfl
  have k2 : DataW.trod enc Try.prog W base spare held n2 9 (((([c0, c1, c2, c3, c4, c5, c6].drop 1).take 4).drop 2).take (Try.prog.cellsOf 9)) = ys[2]? := hv 2 _ rfl
  have k3 : DataW.trod enc Try.prog W base spare held n2 4 (((([c0, c1, c2, c3, c4, c5, c6].drop 1).take 4).drop 3).take (Try.prog.cellsOf 4)) = ys[3]? := hv 3 _ rfl
  rw [one28] at k0
  rw [one2] at k1
  rw [one9] at k2
  rw [one4] at k3
  have hys4 : ys.length = 4 := hys
  rw [List.getElem?_eq_getElem (by omega)] at k0 k1 k2 k3
  obtain ⟨a, e1, _, _⟩ := DataW.trod_int Try.underlying28 k0
  obtain ⟨b, e2, _, _⟩ := DataW.trod_int Try.underlying2 k1
  obtain ⟨c, e3, _, _⟩ := DataW.trod_string Try.underlying9 k2
  obtain ⟨e, e4, _⟩ := DataW.trod_bool Try.underlying4 k3
  simp only [List.drop_zero, List.drop_succ_cons, List.take_succ_cons, List.take_zero, List.cons.injEq, and_true] at e0 e1 e2 e3 e4 e5 e6
  subst e0 e1 e2 e3 e4 e5 e6
  exact ⟨d, a, b, c, e, s, t, rfl, wd⟩
theorem nodes_of {fuel : Nat} {A : Option Addr} {len cap : Nat} {x : DataW H × List MemPlace} (h : DataW.trod enc Try.prog W base spare held fuel 22 [.slice A len cap] = some x) : Nodes W A len ∧ len ≤ 9223372036854775807 := by
  rcases open_slice Try.underlying22 h with ⟨hcs, _⟩ | ⟨a, l, c, m, n, D, Pl, hcs, _, hl, hm, hmm, _, hi⟩
  · simp only [List.cons.injEq, Value.slice.injEq, and_true] at hcs
    obtain ⟨rfl, rfl, rfl⟩ := hcs
    exact ⟨fun j hj => absurd hj (by omega), by omega⟩
  · simp only [List.cons.injEq, Value.slice.injEq, and_true] at hcs
    obtain ⟨rfl, rfl, rfl⟩ := hcs
    refine ⟨fun j hj => ?_, Nat.le_trans (Nat.le_trans hl hm) (by decide)⟩
    obtain ⟨cs', h1, h2⟩ := hi j (by rw [hmm]; split <;> omega)
    rw [node_cells] at h1
    obtain ⟨d, a', b, c', e, s, t, rfl, wd⟩ := node_of h2
    obtain ⟨_, _, hc⟩ := World.cells?_some h1
    have c0 := hc 0 (by omega)
    have c1 := hc 1 (by omega)
    have c2 := hc 2 (by omega)
    have c3 := hc 3 (by omega)
    have c4 := hc 4 (by omega)
    have c5 := hc 5 (by omega)
    have c6 := hc 6 (by omega)
    have hs : (a.add (j * 7)).spot = none := by
      cases hsp : (a.add (j * 7)).spot with
      | none => rfl
      | some u =>
        have e0 : (a.add (j * 7)).add 0 = a.add (j * 7) := rfl
        rw [e0] at c0
        have : W.cell? (a.add (j * 7)) = none := by
          unfold World.cell?
          rw [hsp]
          split <;> simp
        rw [this] at c0
        cases c0
    have bd := bounds_u8 wd
    exact ⟨a, d, a', b, c', e, s, t, rfl, ⟨c0, c1, c2, c3, c4, c5, c6, bd.1, bd.2⟩⟩
end
end Go.Proofs.Ytijohhadgioolaa
