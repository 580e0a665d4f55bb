/-
  Contracts of package cell's open, truth, bit, rank, truths: what a value is, as Go has it. Conditions: the kind is a byte.
-/
import Derived.Test.YtpkohkhgimmkhaaDoorProg
import Derived.WalkKit
import Derived.WalkLawsBesides
import Derived.Lib.Hide
import Derived.Below
import Derived.Outline
namespace Go.Proofs.YtpkohkhgimmkhaaDoor
open Go.RowKit
set_option linter.unusedVariables false
set_option linter.unusedSimpArgs false

/-! ### what a type assertion gives: closed facts of the program -/
@[go_sem] theorem as_ii (v : Value) (w : World) : (Instr.typeAssert (.iface 2 v) 20 2 true).run Tryd.prog w = .ok (.tuple #[v, .bool true]) w := by kernel_rfl
@[go_sem] theorem as_is (v : Value) (w : World) : (Instr.typeAssert (.iface 2 v) 20 9 true).run Tryd.prog w = .ok (.tuple #[.string ⟨#[]⟩, .bool false]) w := by kernel_rfl
@[go_sem] theorem as_ib (v : Value) (w : World) : (Instr.typeAssert (.iface 2 v) 20 4 true).run Tryd.prog w = .ok (.tuple #[.bool false, .bool false]) w := by kernel_rfl
@[go_sem] theorem as_i (v : Value) (w : World) : (Instr.typeAssert (.iface 2 v) 20 2 false).run Tryd.prog w = .ok v w := by kernel_rfl
@[go_sem] theorem as_ni (w : World) : (Instr.typeAssert .nilIface 20 2 true).run Tryd.prog w = .ok (.tuple #[.int .i64 0, .bool false]) w := by kernel_rfl
@[go_sem] theorem as_si (v : Value) (w : World) : (Instr.typeAssert (.iface 9 v) 20 2 true).run Tryd.prog w = .ok (.tuple #[.int .i64 0, .bool false]) w := by kernel_rfl
@[go_sem] theorem as_ss (v : Value) (w : World) : (Instr.typeAssert (.iface 9 v) 20 9 true).run Tryd.prog w = .ok (.tuple #[v, .bool true]) w := by kernel_rfl
@[go_sem] theorem as_sb (v : Value) (w : World) : (Instr.typeAssert (.iface 9 v) 20 4 true).run Tryd.prog w = .ok (.tuple #[.bool false, .bool false]) w := by kernel_rfl
@[go_sem] theorem as_s (v : Value) (w : World) : (Instr.typeAssert (.iface 9 v) 20 9 false).run Tryd.prog w = .ok v w := by kernel_rfl
@[go_sem] theorem as_ns (w : World) : (Instr.typeAssert .nilIface 20 9 true).run Tryd.prog w = .ok (.tuple #[.string ⟨#[]⟩, .bool false]) w := by kernel_rfl
@[go_sem] theorem as_bi (v : Value) (w : World) : (Instr.typeAssert (.iface 4 v) 20 2 true).run Tryd.prog w = .ok (.tuple #[.int .i64 0, .bool false]) w := by kernel_rfl
@[go_sem] theorem as_bs (v : Value) (w : World) : (Instr.typeAssert (.iface 4 v) 20 9 true).run Tryd.prog w = .ok (.tuple #[.string ⟨#[]⟩, .bool false]) w := by kernel_rfl
@[go_sem] theorem as_bb (v : Value) (w : World) : (Instr.typeAssert (.iface 4 v) 20 4 true).run Tryd.prog w = .ok (.tuple #[v, .bool true]) w := by kernel_rfl
@[go_sem] theorem as_b (v : Value) (w : World) : (Instr.typeAssert (.iface 4 v) 20 4 false).run Tryd.prog w = .ok v w := by kernel_rfl
@[go_sem] theorem as_nb (w : World) : (Instr.typeAssert .nilIface 20 4 true).run Tryd.prog w = .ok (.tuple #[.bool false, .bool false]) w := by kernel_rfl

/-- what cell.open hands back -/
def openV (k i : Int) (s : ByteArray) (b : Bool) : Value :=
  if k = 1 then .iface 2 (.int .i64 i) else if k = 2 then .iface 9 (.string s) else if k = 3 then .iface 4 (.bool b) else .nilIface
theorem bcell {W w1 : World} (hb : Below W.heap.size W w1) : (∀ b o, b < W.heap.size → w1.cell? ⟨b, o, none⟩ = W.cell? ⟨b, o, none⟩) ∧ (∀ b o, b < W.heap.size → w1.frozen? ⟨b, o, none⟩ = W.frozen? ⟨b, o, none⟩) :=
  ⟨fun b o h => hb.cell (p := ⟨b, o, none⟩) h, fun b o h => hb.frozen (p := ⟨b, o, none⟩) h⟩
theorem ret_val {a b : Value} (h : a = b) : Ending.returned a = .returned b := by rw [h]
theorem below1 (w : World) (o : Obj) : Below w.heap.size w (w.alloc o) := (Below.refl _ _).alloc (Nat.le_refl _) _

theorem open_any (k i : Int) (s : ByteArray) (b : Bool) (w : World) :
    Calls Tryd.prog 30 #[.agg #[.int .u8 k, .int .i64 i, .string s, .bool b]] w fun e w' => e = .returned (openV k i s b) ∧ Below w.heap.size w w' := by
  by_cases h1 : k = 1
  · subst h1
    go_enter Tryd.func30, Tryd.ntmps30
    go_wp2_with fail
    go_ret
    exact ⟨rfl, below1 _ _⟩
  · have p1 : (k == 1) = false := beq_eq_false_iff_ne.2 h1
    by_cases h2 : k = 2
    · subst h2
      go_enter Tryd.func30, Tryd.ntmps30
      go_wp2_with fail
      go_ret
      exact ⟨rfl, below1 _ _⟩
    · have p2 : (k == 2) = false := beq_eq_false_iff_ne.2 h2
      by_cases h3 : k = 3
      · subst h3
        go_enter Tryd.func30, Tryd.ntmps30
        go_wp2_with fail
        go_ret
        exact ⟨rfl, below1 _ _⟩
      · have p3 : (k == 3) = false := beq_eq_false_iff_ne.2 h3
        have H := Lib.hid (show openV k i s b = .nilIface from by simp [openV, h1, h2, h3])
        clear h1 h2 h3
        go_enter Tryd.func30, Tryd.ntmps30
        go_wp2_with fail
        go_ret
        exact ⟨ret_val H.out.symm, below1 _ _⟩

/-- a type assertion to bool, of what cell.open gives -/
@[go_sem] theorem as_open (k i : Int) (s : ByteArray) (b : Bool) (w : World) : (Instr.typeAssert (openV k i s b) 20 4 true).run Tryd.prog w = .ok (.tuple #[.bool (k == 3 && b), .bool (k == 3)]) w := by
  unfold openV
  by_cases h1 : k = 1
  · subst h1; exact as_ib _ _
  · by_cases h2 : k = 2
    · subst h2; exact as_sb _ _
    · by_cases h3 : k = 3
      · subst h3; exact as_bb _ _
      · rw [if_neg h1, if_neg h2, if_neg h3, show (k == 3) = false from beq_eq_false_iff_ne.2 h3]
        exact as_nb _
@[go_sem ↓] theorem guard_neq_open (k i : Int) (s : ByteArray) (b : Bool) (x : Operand) (w : World) : (eqGuard .neq 20 x (.const .nilIface) (openV k i s b) .nilIface).run Tryd.prog w = .ok () w := by
  unfold openV
  by_cases h1 : k = 1
  · subst h1; kernel_rfl
  · by_cases h2 : k = 2
    · subst h2; kernel_rfl
    · by_cases h3 : k = 3
      · subst h3; kernel_rfl
      · rw [if_neg h1, if_neg h2, if_neg h3]
        cases x <;> kernel_rfl
@[go_sem ↓] theorem guard_eql_open (k i : Int) (s : ByteArray) (b : Bool) (x : Operand) (w : World) : (eqGuard .eql 20 x (.const .nilIface) (openV k i s b) .nilIface).run Tryd.prog w = .ok () w := by
  unfold openV
  by_cases h1 : k = 1
  · subst h1; kernel_rfl
  · by_cases h2 : k = 2
    · subst h2; kernel_rfl
    · by_cases h3 : k = 3
      · subst h3; kernel_rfl
      · rw [if_neg h1, if_neg h2, if_neg h3]
        cases x <;> kernel_rfl
/-- is there anything in it? -/
def any3 (k : Int) : Bool := k == 1 || k == 2 || k == 3
@[go_sem ↓] theorem neq_open (k i : Int) (s : ByteArray) (b : Bool) (w : World) : (binOp .neq 20 (openV k i s b) .nilIface).run Tryd.prog w = .ok (.bool (any3 k)) w := by
  unfold openV any3
  by_cases h1 : k = 1
  · subst h1; kernel_rfl
  · by_cases h2 : k = 2
    · subst h2; kernel_rfl
    · by_cases h3 : k = 3
      · subst h3; kernel_rfl
      · rw [if_neg h1, if_neg h2, if_neg h3, show (k == 1) = false from beq_eq_false_iff_ne.2 h1, show (k == 2) = false from beq_eq_false_iff_ne.2 h2, show (k == 3) = false from beq_eq_false_iff_ne.2 h3]
        kernel_rfl
@[go_sem ↓] theorem eql_open (k i : Int) (s : ByteArray) (b : Bool) (w : World) : (binOp .eql 20 (openV k i s b) .nilIface).run Tryd.prog w = .ok (.bool (!any3 k)) w := by
  unfold openV any3
  by_cases h1 : k = 1
  · subst h1; kernel_rfl
  · by_cases h2 : k = 2
    · subst h2; kernel_rfl
    · by_cases h3 : k = 3
      · subst h3; kernel_rfl
      · rw [if_neg h1, if_neg h2, if_neg h3, show (k == 1) = false from beq_eq_false_iff_ne.2 h1, show (k == 2) = false from beq_eq_false_iff_ne.2 h2, show (k == 3) = false from beq_eq_false_iff_ne.2 h3]
        kernel_rfl
theorem bst {w w1 : World} {o : Obj} (h : Below (w.heap.size + 1) (w.alloc o) w1) : Below w.heap.size w w1 := (below1 w o).trans (h.mono (by omega))
theorem size_alloc (w : World) (o : Obj) : (w.alloc o).heap.size = w.heap.size + 1 := by simp
/-- the four cells of a boxed value, behind a call that leaves them -/
theorem box4 {w w1 : World} {x0 x1 x2 x3 : Value} {t : TypeId} (hb : Below (w.heap.size + 1) (w.alloc (.cells #[x0, x1, x2, x3] t)) w1) :
    w1.cell? ⟨w.heap.size, 0, none⟩ = some x0 ∧ w1.cell? ⟨w.heap.size, 1, none⟩ = some x1 ∧ w1.cell? ⟨w.heap.size, 2, none⟩ = some x2 ∧ w1.cell? ⟨w.heap.size, 3, none⟩ = some x3 := by
  refine ⟨?_, ?_, ?_, ?_⟩
  · rw [hb.cell (p := ⟨w.heap.size, 0, none⟩) (by simp)]; simp [go_sem]
  · rw [hb.cell (p := ⟨w.heap.size, 1, none⟩) (by simp)]; simp [go_sem]
  · rw [hb.cell (p := ⟨w.heap.size, 2, none⟩) (by simp)]; simp [go_sem]
  · rw [hb.cell (p := ⟨w.heap.size, 3, none⟩) (by simp)]; simp [go_sem]
end Go.Proofs.YtpkohkhgimmkhaaDoor
