/-
  Expressions as trees: what an interface value in the heap stands for; parts and Depth by the tree. No conditions beyond what the theorems say.
-/
import Derived.Test.YtijohhadgioolaaRows
import Derived.WalkKit
import Derived.WalkSpells
import Derived.WalkLawsBesides
namespace Go.Proofs.Ytijohhadgioolaa
open Go.RowKit
set_option linter.unusedVariables false
set_option linter.unusedSimpArgs false
set_option maxRecDepth 4000

inductive Ex | lit | col | un (x : Ex) | bin (a b : Ex) | is (x : Ex) | agg0 | agg (x : Ex)
namespace Ex
def kids : Ex → List Ex
  | .un x => [x]
  | .bin a b => [a, b]
  | .is x => [x]
  | .agg x => [x]
  | _ => []
def depth : Ex → Nat
  | .un x => max 0 x.depth + 1
  | .bin a b => max (max 0 a.depth) b.depth + 1
  | .is x => max 0 x.depth + 1
  | .agg x => max 0 x.depth + 1
  | _ => 1
end Ex

/-- the types of the blocks that trees are made of -/
def nodeTy (t : TypeId) : Bool := t == 27 || t == 33 || t == 41 || t == 50 || t == 44 || t == 67 || t == 48 || t == 58
/-- the trees' blocks stay -/
def Keep (w w' : World) : Prop := ∀ (b : Nat) (c : Array Value) (t : TypeId) (f : Nat × Nat), nodeTy t = true → w.heap[b]? = some (.cells c t f) → w'.heap[b]? = some (.cells c t f)
theorem Keep.refl (w : World) : Keep w w := fun _ _ _ _ _ h => h
theorem Keep.trans {a b c : World} (h : Keep a b) (k : Keep b c) : Keep a c := fun x c t f hn he => k x c t f hn (h x c t f hn he)
theorem keep_below {w w' : World} (h : Below w.heap.size w w') : Keep w w' := fun b c t f _ he => (h.block b (Array.getElem?_eq_some_iff.1 he).1).trans he

/-- an interface value stands for a tree -/
def Rep (w : World) : Value → Ex → Prop
  | v, .lit => ∃ b c f, v = .iface 46 (.pointer (some ⟨b, 0, none⟩)) ∧ w.heap[b]? = some (.cells c 48 f)
  | v, .col => ∃ b c f, v = .iface 56 (.pointer (some ⟨b, 0, none⟩)) ∧ w.heap[b]? = some (.cells c 58 f)
  | v, .un x => ∃ b c0 u f, v = .iface 39 (.pointer (some ⟨b, 0, none⟩)) ∧ w.heap[b]? = some (.cells #[c0, u] 41 f) ∧ Rep w u x
  | v, .bin x y => ∃ b c0 u u2 f, v = .iface 45 (.pointer (some ⟨b, 0, none⟩)) ∧ w.heap[b]? = some (.cells #[c0, u, u2] 50 f) ∧ Rep w u x ∧ Rep w u2 y
  | v, .is x => ∃ b u c1 f, v = .iface 42 (.pointer (some ⟨b, 0, none⟩)) ∧ w.heap[b]? = some (.cells #[u, c1] 44 f) ∧ Rep w u x
  | v, .agg0 => ∃ b c0 f, v = .iface 65 (.pointer (some ⟨b, 0, none⟩)) ∧ w.heap[b]? = some (.cells #[c0, .nilIface] 67 f)
  | v, .agg x => ∃ b c0 u f, v = .iface 65 (.pointer (some ⟨b, 0, none⟩)) ∧ w.heap[b]? = some (.cells #[c0, u] 67 f) ∧ Rep w u x
theorem Rep.keep {w w' : World} (h : Keep w w') : ∀ {t : Ex} {v : Value}, Rep w v t → Rep w' v t
  | .lit, v, ⟨b, c, f, e, hb⟩ => ⟨b, c, f, e, h _ _ _ _ rfl hb⟩
  | .col, v, ⟨b, c, f, e, hb⟩ => ⟨b, c, f, e, h _ _ _ _ rfl hb⟩
  | .un x, v, ⟨b, c0, u, f, e, hb, hx⟩ => ⟨b, c0, u, f, e, h _ _ _ _ rfl hb, Rep.keep h hx⟩
  | .bin x y, v, ⟨b, c0, u, u2, f, e, hb, hx, hy⟩ => ⟨b, c0, u, u2, f, e, h _ _ _ _ rfl hb, Rep.keep h hx, Rep.keep h hy⟩
  | .is x, v, ⟨b, u, c1, f, e, hb, hx⟩ => ⟨b, u, c1, f, e, h _ _ _ _ rfl hb, Rep.keep h hx⟩
  | .agg0, v, ⟨b, c0, f, e, hb⟩ => ⟨b, c0, f, e, h _ _ _ _ rfl hb⟩
  | .agg x, v, ⟨b, c0, u, f, e, hb, hx⟩ => ⟨b, c0, u, f, e, h _ _ _ _ rfl hb, Rep.keep h hx⟩
theorem Rep.iface {w : World} {t : Ex} {v : Value} (h : Rep w v t) : ∃ d x, v = .iface d x := by
  cases t <;> simp only [Rep] at h
  case lit => obtain ⟨b, c, f, e, _⟩ := h; exact ⟨_, _, e⟩
  case col => obtain ⟨b, c, f, e, _⟩ := h; exact ⟨_, _, e⟩
  case un => obtain ⟨b, c, u, f, e, _⟩ := h; exact ⟨_, _, e⟩
  case bin => obtain ⟨b, c, u, u2, f, e, _⟩ := h; exact ⟨_, _, e⟩
  case is => obtain ⟨b, c, u, f, e, _⟩ := h; exact ⟨_, _, e⟩
  case agg0 => obtain ⟨b, c, f, e, _⟩ := h; exact ⟨_, _, e⟩
  case agg => obtain ⟨b, c, u, f, e, _⟩ := h; exact ⟨_, _, e⟩
theorem hat0 {w : World} {b : Nat} {c : Array Value} {t : TypeId} {f : Nat × Nat} (h : w.heap[b]? = some (.cells c t f)) (i : Nat) (v : Value) (hv : c[i]? = some v) : w.cell? ⟨b, i, none⟩ = some v := by
  simp only [World.cell?, h]
  simpa using hv
/-- a row of interface values stands for trees -/
def Kids (w : World) (A : Option Addr) (l : List Ex) : Prop := ∀ (i : Nat) (t : Ex), l[i]? = some t → ∃ b cs f u, A = some ⟨b, 0, none⟩ ∧ w.heap[b]? = some (.cells cs 27 f) ∧ cs[i]? = some u ∧ Rep w u t
theorem Kids.keep {w w' : World} {A : Option Addr} {l : List Ex} (h : Kids w A l) (hk : Keep w w') : Kids w' A l := fun i t ht => by
  obtain ⟨b, cs, f, u, e, h1, h2, h3⟩ := h i t ht
  exact ⟨b, cs, f, u, e, hk _ _ _ _ rfl h1, h2, h3.keep hk⟩
theorem Kids.at {w : World} {A : Option Addr} {l : List Ex} (h : Kids w A l) {i : Nat} {t : Ex} (ht : l[i]? = some t) : ∃ b u, A = some ⟨b, 0, none⟩ ∧ w.cell? ⟨b, i, none⟩ = some u ∧ Rep w u t := by
  obtain ⟨b, cs, f, u, e, h1, h2, h3⟩ := h i t ht
  exact ⟨b, u, e, hat0 h1 i u h2, h3⟩
theorem Kids.below {w w' : World} {A : Option Addr} {l : List Ex} (h : Kids w A l) (hb : Below w.heap.size w w') : Kids w' A l := h.keep (keep_below hb)
theorem ta_46_39 (p : Option Addr) (w : World) : (Instr.typeAssert (.iface 46 (.pointer p)) 27 39 true).run Try.prog w = .ok (.tuple #[.pointer none, .bool false]) w := by kernel_rfl
theorem ta_46_45 (p : Option Addr) (w : World) : (Instr.typeAssert (.iface 46 (.pointer p)) 27 45 true).run Try.prog w = .ok (.tuple #[.pointer none, .bool false]) w := by kernel_rfl
theorem ta_46_42 (p : Option Addr) (w : World) : (Instr.typeAssert (.iface 46 (.pointer p)) 27 42 true).run Try.prog w = .ok (.tuple #[.pointer none, .bool false]) w := by kernel_rfl
theorem ta_46_65 (p : Option Addr) (w : World) : (Instr.typeAssert (.iface 46 (.pointer p)) 27 65 true).run Try.prog w = .ok (.tuple #[.pointer none, .bool false]) w := by kernel_rfl
theorem ta_56_39 (p : Option Addr) (w : World) : (Instr.typeAssert (.iface 56 (.pointer p)) 27 39 true).run Try.prog w = .ok (.tuple #[.pointer none, .bool false]) w := by kernel_rfl
theorem ta_56_45 (p : Option Addr) (w : World) : (Instr.typeAssert (.iface 56 (.pointer p)) 27 45 true).run Try.prog w = .ok (.tuple #[.pointer none, .bool false]) w := by kernel_rfl
theorem ta_56_42 (p : Option Addr) (w : World) : (Instr.typeAssert (.iface 56 (.pointer p)) 27 42 true).run Try.prog w = .ok (.tuple #[.pointer none, .bool false]) w := by kernel_rfl
theorem ta_56_65 (p : Option Addr) (w : World) : (Instr.typeAssert (.iface 56 (.pointer p)) 27 65 true).run Try.prog w = .ok (.tuple #[.pointer none, .bool false]) w := by kernel_rfl
theorem ta_39_39 (p : Option Addr) (w : World) : (Instr.typeAssert (.iface 39 (.pointer p)) 27 39 true).run Try.prog w = .ok (.tuple #[.pointer p, .bool true]) w := by kernel_rfl
theorem ta_39_45 (p : Option Addr) (w : World) : (Instr.typeAssert (.iface 39 (.pointer p)) 27 45 true).run Try.prog w = .ok (.tuple #[.pointer none, .bool false]) w := by kernel_rfl
theorem ta_39_42 (p : Option Addr) (w : World) : (Instr.typeAssert (.iface 39 (.pointer p)) 27 42 true).run Try.prog w = .ok (.tuple #[.pointer none, .bool false]) w := by kernel_rfl
theorem ta_39_65 (p : Option Addr) (w : World) : (Instr.typeAssert (.iface 39 (.pointer p)) 27 65 true).run Try.prog w = .ok (.tuple #[.pointer none, .bool false]) w := by kernel_rfl
theorem ta_45_39 (p : Option Addr) (w : World) : (Instr.typeAssert (.iface 45 (.pointer p)) 27 39 true).run Try.prog w = .ok (.tuple #[.pointer none, .bool false]) w := by kernel_rfl
theorem ta_45_45 (p : Option Addr) (w : World) : (Instr.typeAssert (.iface 45 (.pointer p)) 27 45 true).run Try.prog w = .ok (.tuple #[.pointer p, .bool true]) w := by kernel_rfl
theorem ta_45_42 (p : Option Addr) (w : World) : (Instr.typeAssert (.iface 45 (.pointer p)) 27 42 true).run Try.prog w = .ok (.tuple #[.pointer none, .bool false]) w := by kernel_rfl
theorem ta_45_65 (p : Option Addr) (w : World) : (Instr.typeAssert (.iface 45 (.pointer p)) 27 65 true).run Try.prog w = .ok (.tuple #[.pointer none, .bool false]) w := by kernel_rfl
theorem ta_42_39 (p : Option Addr) (w : World) : (Instr.typeAssert (.iface 42 (.pointer p)) 27 39 true).run Try.prog w = .ok (.tuple #[.pointer none, .bool false]) w := by kernel_rfl
theorem ta_42_45 (p : Option Addr) (w : World) : (Instr.typeAssert (.iface 42 (.pointer p)) 27 45 true).run Try.prog w = .ok (.tuple #[.pointer none, .bool false]) w := by kernel_rfl
theorem ta_42_42 (p : Option Addr) (w : World) : (Instr.typeAssert (.iface 42 (.pointer p)) 27 42 true).run Try.prog w = .ok (.tuple #[.pointer p, .bool true]) w := by kernel_rfl
theorem ta_42_65 (p : Option Addr) (w : World) : (Instr.typeAssert (.iface 42 (.pointer p)) 27 65 true).run Try.prog w = .ok (.tuple #[.pointer none, .bool false]) w := by kernel_rfl
theorem ta_65_39 (p : Option Addr) (w : World) : (Instr.typeAssert (.iface 65 (.pointer p)) 27 39 true).run Try.prog w = .ok (.tuple #[.pointer none, .bool false]) w := by kernel_rfl
theorem ta_65_45 (p : Option Addr) (w : World) : (Instr.typeAssert (.iface 65 (.pointer p)) 27 45 true).run Try.prog w = .ok (.tuple #[.pointer none, .bool false]) w := by kernel_rfl
theorem ta_65_42 (p : Option Addr) (w : World) : (Instr.typeAssert (.iface 65 (.pointer p)) 27 42 true).run Try.prog w = .ok (.tuple #[.pointer none, .bool false]) w := by kernel_rfl
theorem ta_65_65 (p : Option Addr) (w : World) : (Instr.typeAssert (.iface 65 (.pointer p)) 27 65 true).run Try.prog w = .ok (.tuple #[.pointer p, .bool true]) w := by kernel_rfl
theorem kids_one {w : World} {x : Ex} {u : Value} (hx : Rep w u x) : Kids (w.alloc (.cells #[u] 27)) (some ⟨w.heap.size, 0, none⟩) [x] := by
  intro i t h
  have hi : i = 0 := by
    rcases i with _ | i
    · rfl
    · simp at h
  subst hi
  obtain rfl : x = t := by simpa using h
  refine ⟨_, #[u], (0, 0), u, rfl, ?_, rfl, hx.keep (keep_below ((Below.refl _ w).alloc (Nat.le_refl _) _))⟩
  simp [World.alloc, -World.alloc_eq]
theorem kids_two {w : World} {x y : Ex} {u u2 : Value} (hx : Rep w u x) (hy : Rep w u2 y) : Kids (w.alloc (.cells #[u, u2] 27)).drew (some ⟨w.heap.size, 0, none⟩) [x, y] := by
  have hk : Keep w (w.alloc (.cells #[u, u2] 27)).drew := keep_below ((Below.refl _ w).alloc (Nat.le_refl _) _).drew
  intro i t h
  match i, h with
  | 0, h =>
    obtain rfl : x = t := by simpa using h
    refine ⟨_, #[u, u2], (0, 0), u, rfl, ?_, rfl, hx.keep hk⟩
    simp [World.alloc, World.drew, -World.alloc_eq, -World.drew_eq]
  | 1, h =>
    obtain rfl : y = t := by simpa using h
    refine ⟨_, #[u, u2], (0, 0), u2, rfl, ?_, rfl, hy.keep hk⟩
    simp [World.alloc, World.drew, -World.alloc_eq, -World.drew_eq]
  | i + 2, h => simp at h
theorem parts_calls (t : Ex) (v : Value) (w : World) (h : Rep w v t) : Calls Try.prog 21 #[v] w fun e w' => ∃ A c, e = .returned (.slice A t.kids.length c) ∧ Kids w' A t.kids ∧ Below w.heap.size w w' := by
  cases t <;> simp only [Rep] at h
  case lit =>
    obtain ⟨b, c, f, rfl, hb⟩ := h
    have q39 := ta_46_39 (some ⟨b, 0, none⟩)
    have q45 := ta_46_45 (some ⟨b, 0, none⟩)
    have q42 := ta_46_42 (some ⟨b, 0, none⟩)
    have q65 := ta_46_65 (some ⟨b, 0, none⟩)
    go_enter Try.func21, Try.ntmps21
    go_wp2_with fail
    go_ret
    exact ⟨none, 0, rfl, fun i t h => by simp [Ex.kids] at h, Below.refl _ _⟩
  case col =>
    obtain ⟨b, c, f, rfl, hb⟩ := h
    have q39 := ta_56_39 (some ⟨b, 0, none⟩)
    have q45 := ta_56_45 (some ⟨b, 0, none⟩)
    have q42 := ta_56_42 (some ⟨b, 0, none⟩)
    have q65 := ta_56_65 (some ⟨b, 0, none⟩)
    go_enter Try.func21, Try.ntmps21
    go_wp2_with fail
    go_ret
    exact ⟨none, 0, rfl, fun i t h => by simp [Ex.kids] at h, Below.refl _ _⟩
  case un =>
    obtain ⟨b, c0, u, f, rfl, hb, hx⟩ := h
    obtain ⟨d, y, rfl⟩ := hx.iface
    have h1 := hat0 hb 1 _ rfl
    have q39 := ta_39_39 (some ⟨b, 0, none⟩)
    go_enter Try.func21, Try.ntmps21
    go_wp2_with fail
    go_ret
    exact ⟨some ⟨w.heap.size, 0, none⟩, _, rfl, kids_one hx, (Below.refl _ w).alloc (Nat.le_refl _) _⟩
  case bin =>
    obtain ⟨b, c0, u, u2, f, rfl, hb, hx, hy⟩ := h
    obtain ⟨d, z, rfl⟩ := hx.iface
    obtain ⟨d2, z2, rfl⟩ := hy.iface
    have h1 := hat0 hb 1 _ rfl
    have h2 := hat0 hb 2 _ rfl
    have q39 := ta_45_39 (some ⟨b, 0, none⟩)
    have q45 := ta_45_45 (some ⟨b, 0, none⟩)
    go_enter Try.func21, Try.ntmps21
    go_wp2_with fail
    go_region
    go_wp2_with fail
    go_ret
    exact ⟨some ⟨w.heap.size, 0, none⟩, _, rfl, kids_two hx hy, ((Below.refl _ w).alloc (Nat.le_refl _) _).drew⟩
  case is =>
    obtain ⟨b, u, c1, f, rfl, hb, hx⟩ := h
    obtain ⟨d, y, rfl⟩ := hx.iface
    have h1 := hat0 hb 0 _ rfl
    have q39 := ta_42_39 (some ⟨b, 0, none⟩)
    have q45 := ta_42_45 (some ⟨b, 0, none⟩)
    have q42 := ta_42_42 (some ⟨b, 0, none⟩)
    go_enter Try.func21, Try.ntmps21
    go_wp2_with fail
    go_ret
    exact ⟨some ⟨w.heap.size, 0, none⟩, _, rfl, kids_one hx, (Below.refl _ w).alloc (Nat.le_refl _) _⟩
  case agg0 =>
    obtain ⟨b, c0, f, rfl, hb⟩ := h
    have h1 := hat0 hb 1 .nilIface rfl
    have q39 := ta_65_39 (some ⟨b, 0, none⟩)
    have q45 := ta_65_45 (some ⟨b, 0, none⟩)
    have q42 := ta_65_42 (some ⟨b, 0, none⟩)
    have q65 := ta_65_65 (some ⟨b, 0, none⟩)
    go_enter Try.func21, Try.ntmps21
    go_wp2_with fail
    go_ret
    exact ⟨none, 0, rfl, fun i t h => by simp [Ex.kids] at h, Below.refl _ _⟩
  case agg =>
    obtain ⟨b, c0, u, f, rfl, hb, hx⟩ := h
    obtain ⟨d, y, rfl⟩ := hx.iface
    have h1 := hat0 hb 1 _ rfl
    have q39 := ta_65_39 (some ⟨b, 0, none⟩)
    have q45 := ta_65_45 (some ⟨b, 0, none⟩)
    have q42 := ta_65_42 (some ⟨b, 0, none⟩)
    have q65 := ta_65_65 (some ⟨b, 0, none⟩)
    go_enter Try.func21, Try.ntmps21
    go_wp2_with fail
    go_ret
    exact ⟨some ⟨w.heap.size, 0, none⟩, _, rfl, kids_one hx, (Below.refl _ w).alloc (Nat.le_refl _) _⟩
end Go.Proofs.Ytijohhadgioolaa
