/-
  awake: true. No conditions.
-/
import Derived.Test.YtijohhadgioolaaAwake
namespace Go.Proofs.Ytijohhadgioolaa
open Go.RowKit
set_option linter.unusedVariables false
set_option linter.unusedSimpArgs false
set_option maxRecDepth 4000
theorem alloc_at (w : World) (o : Obj) (k : Nat) (h : k < w.heap.size) : (w.alloc o).heap[k]? = w.heap[k]? := Below.heap_alloc w o k h
theorem alloc_new (w : World) (o : Obj) : (w.alloc o).heap[w.heap.size]? = some o := by simp [World.alloc, -World.alloc_eq]
theorem alloc_sz (w : World) (o : Obj) : (w.alloc o).heap.size = w.heap.size + 1 := by simp
theorem five {w W : World} {o0 o1 o2 o3 o4 : Obj} (h : ((((w.alloc o0).alloc o1).alloc o2).alloc o3).alloc o4 = W) :
    W.heap[w.heap.size]? = some o0 ∧ W.heap[w.heap.size + 1]? = some o1 ∧ W.heap[w.heap.size + 1 + 1]? = some o2 ∧ W.heap[w.heap.size + 1 + 1 + 1]? = some o3 ∧ W.heap[w.heap.size + 1 + 1 + 1 + 1]? = some o4 ∧ Below w.heap.size w W := by
  subst h
  refine ⟨?_, ?_, ?_, ?_, ?_, ?_⟩
  · rw [alloc_at _ _ _ (by simp <;> omega), alloc_at _ _ _ (by simp <;> omega), alloc_at _ _ _ (by simp <;> omega), alloc_at _ _ _ (by simp), alloc_new]
  · rw [alloc_at _ _ _ (by simp <;> omega), alloc_at _ _ _ (by simp <;> omega), alloc_at _ _ _ (by simp), ← alloc_sz w o0, alloc_new]
  · rw [alloc_at _ _ _ (by simp <;> omega), alloc_at _ _ _ (by simp), ← alloc_sz w o0, ← alloc_sz (w.alloc o0) o1, alloc_new]
  · rw [alloc_at _ _ _ (by simp), ← alloc_sz w o0, ← alloc_sz (w.alloc o0) o1, ← alloc_sz ((w.alloc o0).alloc o1) o2, alloc_new]
  · rw [← alloc_sz w o0, ← alloc_sz (w.alloc o0) o1, ← alloc_sz ((w.alloc o0).alloc o1) o2, ← alloc_sz (((w.alloc o0).alloc o1).alloc o2) o3, alloc_new]
  · exact (((((Below.refl _ w).alloc (Nat.le_refl _) _).alloc (by simp) _).alloc (by simp <;> omega) _).alloc (by simp <;> omega) _).alloc (by simp <;> omega) _
theorem awake_calls (w : World) : Calls Try.prog 6 #[] w fun e w' => e = .returned (.bool true) ∧ Below w.heap.size w w' := by
  go_enter Try.func6, Try.ntmps6
  go_wp2_with fail
  generalize hW : World.alloc _ _ = W
  obtain ⟨e0, e1, e2, e3, e4, hb⟩ := five hW
  clear hW
  refine (outerText W _ _ _ _ _ _ _ _ _ _ e4 e2 e0 e1 e3).mono ?_
  rintro e w2 ⟨rfl, hb2⟩
  have hB2 : Below w.heap.size w w2 := hb.trans (hb2.mono hb.size)
  have hrep : Rep w2 (.iface 45 (.pointer (some ⟨w.heap.size + 1 + 1 + 1 + 1, 0, none⟩))) (.bin (.bin .col .lit) .lit) :=
    Rep.keep (keep_below hb2) ⟨_, _, _, _, _, rfl, e4, ⟨_, _, _, _, _, rfl, e2, ⟨_, _, _, rfl, e0⟩, ⟨_, _, _, rfl, e1⟩⟩, ⟨_, _, _, rfl, e3⟩⟩
  have hd := depth_calls _ _ w2 hrep (by decide)
  clear hrep e0 e1 e2 e3 e4
  go_wp2_with fail
  refine hd.mono ?_
  rintro e w3 ⟨rfl, hb3⟩
  go_wp2_with fail
  go_ret
  exact ⟨by kernel_rfl, hB2.trans (hb3.mono hB2.size)⟩
end Go.Proofs.Ytijohhadgioolaa
