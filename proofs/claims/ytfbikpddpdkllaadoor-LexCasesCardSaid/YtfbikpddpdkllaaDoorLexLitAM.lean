/-
  The contracts of cell.Literal and of the reference's Literal, of a text: both lay it between quotes and double each quote in it. Conditions: a text is no longer than 100 bytes; the library's tables are as laid.
-/
import Derived.Test.YtfbikpddpdkllaaDoorLexEnv
import Derived.Test.YtfbikpddpdkllaaDoorLexNum
import Derived.WalkLawsBesides
import Derived.Lib.Hide
import Derived.Below
namespace Go.Proofs.YtfbikpddpdkllaaDoor
open Go.RowKit Go.Sort
set_option linter.unusedVariables false
set_option linter.unusedSimpArgs false

/-! ### what a type assertion gives: closed facts of the program -/
@[go_sem] theorem as_ii (v : Value) (w : World) : (Instr.typeAssert (.iface 2 v) 20 2 true).run Tryd.prog w = .ok (.tuple #[v, .bool true]) w := by kernel_rfl
@[go_sem] theorem as_is (v : Value) (w : World) : (Instr.typeAssert (.iface 2 v) 20 9 true).run Tryd.prog w = .ok (.tuple #[.string ⟨#[]⟩, .bool false]) w := by kernel_rfl
@[go_sem] theorem as_ib (v : Value) (w : World) : (Instr.typeAssert (.iface 2 v) 20 4 true).run Tryd.prog w = .ok (.tuple #[.bool false, .bool false]) w := by kernel_rfl
@[go_sem] theorem as_i (v : Value) (w : World) : (Instr.typeAssert (.iface 2 v) 20 2 false).run Tryd.prog w = .ok v w := by kernel_rfl
@[go_sem] theorem as_ni (w : World) : (Instr.typeAssert .nilIface 20 2 true).run Tryd.prog w = .ok (.tuple #[.int .i64 0, .bool false]) w := by kernel_rfl
@[go_sem] theorem as_si (v : Value) (w : World) : (Instr.typeAssert (.iface 9 v) 20 2 true).run Tryd.prog w = .ok (.tuple #[.int .i64 0, .bool false]) w := by kernel_rfl
@[go_sem] theorem as_ss (v : Value) (w : World) : (Instr.typeAssert (.iface 9 v) 20 9 true).run Tryd.prog w = .ok (.tuple #[v, .bool true]) w := by kernel_rfl
@[go_sem] theorem as_sb (v : Value) (w : World) : (Instr.typeAssert (.iface 9 v) 20 4 true).run Tryd.prog w = .ok (.tuple #[.bool false, .bool false]) w := by kernel_rfl
@[go_sem] theorem as_s (v : Value) (w : World) : (Instr.typeAssert (.iface 9 v) 20 9 false).run Tryd.prog w = .ok v w := by kernel_rfl
@[go_sem] theorem as_ns (w : World) : (Instr.typeAssert .nilIface 20 9 true).run Tryd.prog w = .ok (.tuple #[.string ⟨#[]⟩, .bool false]) w := by kernel_rfl
@[go_sem] theorem as_bi (v : Value) (w : World) : (Instr.typeAssert (.iface 4 v) 20 2 true).run Tryd.prog w = .ok (.tuple #[.int .i64 0, .bool false]) w := by kernel_rfl
@[go_sem] theorem as_bs (v : Value) (w : World) : (Instr.typeAssert (.iface 4 v) 20 9 true).run Tryd.prog w = .ok (.tuple #[.string ⟨#[]⟩, .bool false]) w := by kernel_rfl
@[go_sem] theorem as_bb (v : Value) (w : World) : (Instr.typeAssert (.iface 4 v) 20 4 true).run Tryd.prog w = .ok (.tuple #[v, .bool true]) w := by kernel_rfl
@[go_sem] theorem as_b (v : Value) (w : World) : (Instr.typeAssert (.iface 4 v) 20 4 false).run Tryd.prog w = .ok v w := by kernel_rfl
@[go_sem] theorem as_nb (w : World) : (Instr.typeAssert .nilIface 20 4 true).run Tryd.prog w = .ok (.tuple #[.bool false, .bool false]) w := by kernel_rfl

/-- what cell.open hands back -/
def openV (k i : Int) (s : ByteArray) (b : Bool) : Value :=
  if k = 1 then .iface 2 (.int .i64 i) else if k = 2 then .iface 9 (.string s) else if k = 3 then .iface 4 (.bool b) else .nilIface
theorem bcell {W w1 : World} (hb : Below W.heap.size W w1) : (∀ b o, b < W.heap.size → w1.cell? ⟨b, o, none⟩ = W.cell? ⟨b, o, none⟩) ∧ (∀ b o, b < W.heap.size → w1.frozen? ⟨b, o, none⟩ = W.frozen? ⟨b, o, none⟩) :=
  ⟨fun b o h => hb.cell (p := ⟨b, o, none⟩) h, fun b o h => hb.frozen (p := ⟨b, o, none⟩) h⟩
theorem ret_val {a b : Value} (h : a = b) : Ending.returned a = .returned b := by rw [h]
theorem below1 (w : World) (o : Obj) : Below w.heap.size w (w.alloc o) := (Below.refl _ _).alloc (Nat.le_refl _) _

theorem open_any (k i : Int) (s : ByteArray) (b : Bool) (w : World) :
    Calls Tryd.prog 45 #[.agg #[.int .u8 k, .int .i64 i, .string s, .bool b]] w fun e w' => e = .returned (openV k i s b) ∧ Below w.heap.size w w' := by
  by_cases h1 : k = 1
  · subst h1
    go_enter Tryd.func45, Tryd.ntmps45
    go_wp2_with fail
    go_ret
    exact ⟨rfl, below1 _ _⟩
  · have p1 : (k == 1) = false := beq_eq_false_iff_ne.2 h1
    by_cases h2 : k = 2
    · subst h2
      go_enter Tryd.func45, Tryd.ntmps45
      go_wp2_with fail
      go_ret
      exact ⟨rfl, below1 _ _⟩
    · have p2 : (k == 2) = false := beq_eq_false_iff_ne.2 h2
      by_cases h3 : k = 3
      · subst h3
        go_enter Tryd.func45, Tryd.ntmps45
        go_wp2_with fail
        go_ret
        exact ⟨rfl, below1 _ _⟩
      · have p3 : (k == 3) = false := beq_eq_false_iff_ne.2 h3
        have H := Lib.hid (show openV k i s b = .nilIface from by simp [openV, h1, h2, h3])
        clear h1 h2 h3
        go_enter Tryd.func45, Tryd.ntmps45
        go_wp2_with fail
        go_ret
        exact ⟨ret_val H.out.symm, below1 _ _⟩

theorem open_s (i : Int) (s : ByteArray) (b : Bool) (w : World) :
    Calls Tryd.prog 45 #[.agg #[.int .u8 2, .int .i64 i, .string s, .bool b]] w fun e w' => e = .returned (.iface 9 (.string s)) ∧ Below w.heap.size w w' := open_any 2 i s b w
theorem below_then {w w1 w2 : World} (h : Below w.heap.size w w1) (k : Below w1.heap.size w1 w2) : Below w.heap.size w w2 := h.trans (k.mono h.size)
set_option maxRecDepth 100000 in
/-- a text in quotes, each quote in it doubled -/
def quoteL (l : List UInt8) : List UInt8 := [39] ++ dbl l ++ [39]
theorem lit_s (i : Int) (s : ByteArray) (b : Bool) (w : World) (h : s.size ≤ 100) (he : Env w) :
    Calls Tryd.prog 26 #[.agg #[.int .u8 2, .int .i64 i, .string s, .bool b]] w fun e w' => e = .returned (.string ⟨(quoteL s.data.toList).toArray⟩) ∧ Below w.heap.size w w' := by
  go_enter Tryd.func26, Tryd.ntmps26
  go_wp2_with fail
  refine (open_s i s b _).mono ?_
  rintro e w1 ⟨rfl, hb⟩
  have hb0 := below_then (below1 _ _) hb
  clear hb
  have he1 := he.below hb0
  obtain ⟨m, hm⟩ := he1.2.1
  clear he1
  go_wp2_with fail
  refine (Tryd.strings_ReplaceAll s ⟨#[39]⟩ ⟨#[39, 39]⟩ m w1 (by omega) hm (by decide) (by have := Lib.countB_le ⟨#[39]⟩ (by decide) _ s (Nat.le_refl _); show s.size + _ * 2 ≤ _; omega)).mono ?_
  rintro e w2 ⟨rfl, hb⟩
  replace hb0 := below_then hb0 hb
  clear hb
  have hR : Lib.replaceAll s.data.toList (⟨#[39]⟩ : ByteArray).data.toList (⟨#[39, 39]⟩ : ByteArray).data.toList = dbl s.data.toList := replaceAll_39 _
  have hD := dbl_le s.data.toList
  have hS : s.data.toList.length = s.size := by simp
  rw [hS] at hD
  rw [hR]
  clear hR hS
  generalize hg : dbl s.data.toList = d at hD
  have hG := Lib.hid hg
  clear hg
  go_wp2_with fail
  refine bodyPost_ret (v := .string (⟨#[39]⟩ ++ ⟨d.toArray⟩ ++ ⟨#[39]⟩)) (by simp [results, Tryd.results26, go_sem]) rfl ⟨?_, hb0⟩
  refine ret_str ?_
  unfold quoteL
  rw [hG.out]
  rw [ByteArray.mk_append_mk [39], ByteArray.mk_append_mk _ [39]]
theorem dbl_snoc (c : UInt8) : ∀ l : List UInt8, dbl (l ++ [c]) = dbl l ++ (if c = 39 then [39, 39] else [c])
  | [] => by
    by_cases h : c = 39 <;> simp [dbl, h]
  | b :: l => by
    rw [List.cons_append, dbl, dbl, dbl_snoc c l]
    by_cases h : b = 39 <;> simp [h]
theorem take_one (s : ByteArray) (k : Nat) (h : k < s.size) : s.data.toList.take (k + 1) = s.data.toList.take k ++ [s[k]] := by
  rw [List.take_add_one, List.getElem?_eq_getElem (by simpa using h)]
  rfl
theorem one_piece (s : ByteArray) (k : Nat) (h : k < s.size) (w : World) :
    (Instr.slice 9 (.string s) (some (.int .i64 (k : Int))) (some (.int .i64 ((k : Int) + 1))) none).run Tryd.prog w = .ok (.string ⟨#[s[k]]⟩) w := by
  rw [run_slice_string w 9 _ .i64 .i64 _ _ Tryd.underlying9 (by omega) (by omega) (by omega)]
  rw [show ((k : Int) + 1).toNat = k + 1 from by omega, show ((k : Int)).toNat = k from by omega]
  have : s.extract k (k + 1) = ⟨#[s[k]]⟩ := by
    apply ByteArray.ext
    rw [ByteArray.data_extract]
    apply Array.ext
    · simp; omega
    · intro i h1 h2
      simp at h1 h2
      obtain rfl : i = 0 := by omega
      simp
      rfl
  rw [this]
theorem put_one (t : List UInt8) (c : UInt8) : (⟨t.toArray⟩ : ByteArray) ++ ⟨#[c]⟩ = ⟨(t ++ [c]).toArray⟩ := ByteArray.mk_append_mk t [c]
theorem rlit_s (i : Int) (s : ByteArray) (b : Bool) (w : World) (h : s.size ≤ 100) :
    Calls Tryd.prog 29 #[.agg #[.int .u8 2, .int .i64 i, .string s, .bool b]] w fun e w' => e = .returned (.string ⟨(quoteL s.data.toList).toArray⟩) ∧ Below w.heap.size w w' := by
  go_enter Tryd.func29, Tryd.ntmps29
  go_wp2_with fail
  go_loop [3, 4] (fun v u => ∃ (t : List UInt8) (k : Nat), v = .string ⟨t.toArray⟩ ∧ u = .int .i64 k ∧ k ≤ s.size ∧ t.length ≤ 1 + 2 * k ∧ Hid (t = 39 :: dbl (s.data.toList.take k))) (fun v u => s.size - (intOf u).toNat)
  case atStart => exact ⟨[39], 0, rfl, rfl, by omega, by simp, Lib.hid (by simp [dbl])⟩
  case round =>
    obtain ⟨t, k, rfl, rfl, hk, hl, HT⟩ := hrel
    by_cases hlt : k < s.size
    · have hp := fun wx => one_piece s k hlt wx
      by_cases hq : (s[k]).toNat = 39
      · have hq' : (((s[k]).toNat : Int) == 39) = true := by simp [hq]
        have hc : s[k] = 39 := UInt8.toNat_inj.1 hq
        have HN : Hid (t ++ [s[k]] ++ [39] = 39 :: dbl (s.data.toList.take (k + 1))) := Lib.hid (by rw [take_one s k hlt, dbl_snoc, HT.out, if_pos hc, hc]; simp)
        clear hq hc
        go_wp2_with fail
        go_round
        case rel => exact ⟨t ++ [s[k]] ++ [39], k + 1, by rw [put_one, put_one], by go_num, by omega, by simp; omega, HN⟩
        case measure => simp [intOf]; omega
      · have hq' : (((s[k]).toNat : Int) == 39) = false := by
          rw [beq_eq_false_iff_ne]
          omega
        have hc : s[k] ≠ 39 := fun e => hq (by rw [e]; rfl)
        have HN : Hid (t ++ [s[k]] = 39 :: dbl (s.data.toList.take (k + 1))) := Lib.hid (by rw [take_one s k hlt, dbl_snoc, HT.out, if_neg hc]; simp)
        clear hq hc
        go_wp2_with fail
        go_round
        case rel => exact ⟨t ++ [s[k]], k + 1, by rw [put_one], by go_num, by omega, by simp; omega, HN⟩
        case measure => simp [intOf]; omega
    · have HE : Hid (t ++ [39] = quoteL s.data.toList) := Lib.hid (by
        rw [HT.out, List.take_of_length_le (by simp; omega)]
        unfold quoteL
        simp)
      go_wp2_with fail
      refine bodyPost_ret (v := .string (⟨t.toArray⟩ ++ ⟨#[39]⟩)) (by simp [results, Tryd.results29, go_sem]) rfl ⟨?_, below1 _ _⟩
      refine ret_str ?_
      rw [put_one, HE.out]
end Go.Proofs.YtfbikpddpdkllaaDoor
