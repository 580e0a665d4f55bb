/-
  A round's own copy of a node, and what a store into it leaves. No conditions.
-/
import Derived.Test.YtijohhadgioolaaOut
namespace Go.Proofs.Ytijohhadgioolaa
open Go.RowKit
set_option linter.unusedVariables false
set_option linter.unusedSimpArgs false
set_option maxRecDepth 4000

/-- a node in the row of the arguments -/
structure NodeAt (w : World) (y : Addr) (d a b : Int) (c : ByteArray) (e : Bool) (s t : ByteArray) : Prop where
  h0 : w.cell? y = some (.int .u8 d)
  h1 : w.cell? ⟨y.block, y.off + 1, none⟩ = some (.int .u8 a)
  h2 : w.cell? ⟨y.block, y.off + 2, none⟩ = some (.int .i64 b)
  h3 : w.cell? ⟨y.block, y.off + 3, none⟩ = some (.string c)
  h4 : w.cell? ⟨y.block, y.off + 4, none⟩ = some (.bool e)
  h5 : w.cell? ⟨y.block, y.off + 5, none⟩ = some (.string s)
  h6 : w.cell? ⟨y.block, y.off + 6, none⟩ = some (.string t)
  d0 : 0 ≤ d
  d1 : d ≤ 255
def Nodes (w : World) (A : Option Addr) (len : Nat) : Prop := ∀ j, j < len → ∃ x d a b c e s t, A = some x ∧ NodeAt w (x.add (j * 7)) d a b c e s t
theorem cell_keep {w w' : World} (hb : Below w.heap.size w w') {p : Addr} {v : Value} (h : w.cell? p = some v) : w'.cell? p = some v := by
  have hl : p.block < w.heap.size := by
    rcases Nat.lt_or_ge p.block w.heap.size with h1 | h1
    · exact h1
    · simp [World.cell?, Array.getElem?_eq_none h1] at h
  rw [hb.cell hl]
  exact h
theorem NodeAt.below {w w' : World} {y : Addr} {d a b : Int} {c : ByteArray} {e : Bool} {s t : ByteArray} (h : NodeAt w y d a b c e s t) (hb : Below w.heap.size w w') : NodeAt w' y d a b c e s t :=
  ⟨cell_keep hb h.h0, cell_keep hb h.h1, cell_keep hb h.h2, cell_keep hb h.h3, cell_keep hb h.h4, cell_keep hb h.h5, cell_keep hb h.h6, h.d0, h.d1⟩
theorem Nodes.below {w w' : World} {A : Option Addr} {len : Nat} (h : Nodes w A len) (hb : Below w.heap.size w w') : Nodes w' A len := fun j hj => by
  obtain ⟨x, d, a, b, c, e, s, t, e1, e2⟩ := h j hj
  exact ⟨x, d, a, b, c, e, s, t, e1, e2.below hb⟩
/-- the round's own copy of the node -/
def Own (w : World) (g : Nat) (d a b : Int) (c : ByteArray) (e : Bool) (s t : ByteArray) : Prop := w.heap[g]? = some (.cells #[.int .u8 d, .int .u8 a, .int .i64 b, .string c, .bool e, .string s, .string t] 60 (0, 0))
theorem own_new (w : World) (d a b : Int) (c : ByteArray) (e : Bool) (s t : ByteArray) : Own (w.alloc (.cells #[.int .u8 d, .int .u8 a, .int .i64 b, .string c, .bool e, .string s, .string t] 60)) w.heap.size d a b c e s t := by
  unfold Own
  simp [World.alloc, -World.alloc_eq]
theorem Own.free {w : World} {g : Nat} {d a b : Int} {c : ByteArray} {e : Bool} {s t : ByteArray} (h : Own w g d a b c e s t) (i : Nat) : w.frozen? ⟨g, i, none⟩ = false := by
  unfold Own at h
  simp [World.frozen?, h]
theorem Own.lt {w : World} {g : Nat} {d a b : Int} {c : ByteArray} {e : Bool} {s t : ByteArray} (h : Own w g d a b c e s t) : g < w.heap.size := (Array.getElem?_eq_some_iff.1 h).1
theorem Own.below {w w' : World} {g : Nat} {d a b : Int} {c : ByteArray} {e : Bool} {s t : ByteArray} (h : Own w g d a b c e s t) (hb : Below w.heap.size w w') : Own w' g d a b c e s t := (hb.block g h.lt).trans h
theorem keep_set {w : World} {g : Nat} {d a b : Int} {c : ByteArray} {e : Bool} {s t : ByteArray} (h : Own w g d a b c e s t) (i : Nat) (u : Value) : Keep w (w.setCell ⟨g, i, none⟩ u) := fun k cs ty f hn he => by
  have hk : k ≠ g := by
    rintro rfl
    unfold Own at h
    rw [he] at h
    cases h
    exact absurd hn (by decide)
  rw [Below.heap_setCell _ _ _ _ hk]
  exact he
theorem Out.set {B : Nat} {w : World} {v : Value} {L : List (Item × Ex)} (h : Out B w v L) {g : Nat} {d a b : Int} {c : ByteArray} {e : Bool} {s t : ByteArray} (hO : Own w g d a b c e s t) (i : Nat) (u : Value) : Out B (w.setCell ⟨g, i, none⟩ u) v L where
  own := ownsRow_setCell_other h.own (by
    intro hv
    rcases h.own.2 with ⟨rfl, _⟩ | ⟨g', cap, cur, rfl, _, hh, _⟩
    · simp [Value.ownBlock] at hv
    · simp only [Value.ownBlock, Option.some.injEq] at hv
      subst hv
      unfold Own at hO
      rw [hO] at hh
      cases hh) u
  is := fun p hp => (h.is p hp).keep (keep_set hO i u)
theorem Out.below {B : Nat} {w w' : World} {v : Value} {L : List (Item × Ex)} (h : Out B w v L) (hb : Below w.heap.size w w') : Out B w' v L :=
  ⟨h.own.kept (row := none) ⟨hb.os, hb.tape, hb.output, hb.size, fun k hk _ => hb.block k hk⟩ (by cases hv : v.ownBlock with | none => exact .inl rfl | some k => exact .inr (by simp)), fun p hp => (h.is p hp).keep (keep_below hb)⟩
theorem below_step {w W w2 : World} (h : Below w.heap.size w W) (k : Below W.heap.size W w2) : Below w.heap.size w w2 := h.trans (k.mono h.size)
theorem Out.slice {B : Nat} {w : World} {v : Value} {L : List (Item × Ex)} (h : Out B w v L) : (v = .slice none 0 0 ∧ L = []) ∨ ∃ g cp, v = .slice (some ⟨g, 0, none⟩) L.length cp := by
  rcases h.own.2 with ⟨h1, h2⟩ | ⟨g, cp, cur, h1, _⟩
  · exact .inl ⟨h1, List.length_eq_zero_iff.1 h2⟩
  · exact .inr ⟨g, cp, h1⟩
theorem Out.drew {B : Nat} {w : World} {v : Value} {L : List (Item × Ex)} (h : Out B w v L) : Out B w.drew v L := ⟨h.own, fun p hp => (h.is p hp).keep (keep_below (Below.refl _ w).drew)⟩
theorem Own.drew {w : World} {g : Nat} {d a b : Int} {c : ByteArray} {e : Bool} {s t : ByteArray} (h : Own w g d a b c e s t) : Own w.drew g d a b c e s t := h
theorem Own.set5 {w : World} {g : Nat} {d a b : Int} {c : ByteArray} {e : Bool} {s t : ByteArray} (h : Own w g d a b c e s t) (s1 : ByteArray) : Own (w.setCell ⟨g, 5, none⟩ (.string s1)) g d a b c e s1 t := by
  unfold Own at h ⊢
  simp [World.setCell, Array.getElem?_modify, h]
theorem Own.set6 {w : World} {g : Nat} {d a b : Int} {c : ByteArray} {e : Bool} {s t : ByteArray} (h : Own w g d a b c e s t) (s1 : ByteArray) : Own (w.setCell ⟨g, 6, none⟩ (.string s1)) g d a b c e s s1 := by
  unfold Own at h ⊢
  simp [World.setCell, Array.getElem?_modify, h]
theorem Own.set1 {w : World} {g : Nat} {d a b : Int} {c : ByteArray} {e : Bool} {s t : ByteArray} (h : Own w g d a b c e s t) (n : Int) : Own (w.setCell ⟨g, 1, none⟩ (.int .u8 n)) g d n b c e s t := by
  unfold Own at h ⊢
  simp [World.setCell, Array.getElem?_modify, h]
theorem Own.set2 {w : World} {g : Nat} {d a b : Int} {c : ByteArray} {e : Bool} {s t : ByteArray} (h : Own w g d a b c e s t) (n : Int) : Own (w.setCell ⟨g, 2, none⟩ (.int .i64 n)) g d a n c e s t := by
  unfold Own at h ⊢
  simp [World.setCell, Array.getElem?_modify, h]
theorem Own.set3 {w : World} {g : Nat} {d a b : Int} {c : ByteArray} {e : Bool} {s t : ByteArray} (h : Own w g d a b c e s t) (n : ByteArray) : Own (w.setCell ⟨g, 3, none⟩ (.string n)) g d a b n e s t := by
  unfold Own at h ⊢
  simp [World.setCell, Array.getElem?_modify, h]
theorem Own.set4 {w : World} {g : Nat} {d a b : Int} {c : ByteArray} {e : Bool} {s t : ByteArray} (h : Own w g d a b c e s t) (n : Bool) : Own (w.setCell ⟨g, 4, none⟩ (.bool n)) g d a b c n s t := by
  unfold Own at h ⊢
  simp [World.setCell, Array.getElem?_modify, h]
end Go.Proofs.Ytijohhadgioolaa
