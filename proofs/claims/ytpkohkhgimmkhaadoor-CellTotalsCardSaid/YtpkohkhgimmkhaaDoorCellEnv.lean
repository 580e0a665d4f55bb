/-
  What the laws of package cell ask of the world (three tables and one number of the library), and the contract of cell.Literal. Conditions: an integer is int64; a text is no longer than 100 bytes.
-/
import Derived.Test.YtpkohkhgimmkhaaDoorCellRefLess
import Derived.Test.YtpkohkhgimmkhaaDoorDec
import Derived.Test.YtpkohkhgimmkhaaDoorDouble
namespace Go.Proofs.YtpkohkhgimmkhaaDoor
open Go.RowKit Go.Sort
set_option linter.unusedVariables false
set_option linter.unusedSimpArgs false

/-- the library's tables are as laid, its number is some number -/
def Env (w : World) : Prop := Pow w ∧ (∃ m, w.cell? ⟨2, 0, none⟩ = some (.int .i64 m)) ∧ Lib.Utf8Tabs 0 1 w
theorem gMax : Tryd.prog.globalNamed "internal/bytealg.MaxLen" = some 2 := by kernel_rfl
theorem block_of_cell {w : World} {b o : Nat} {x : Value} (h : w.cell? ⟨b, o, none⟩ = some x) : b < w.heap.size := by
  rcases Nat.lt_or_ge b w.heap.size with h' | h'
  · exact h'
  · rw [World.cell?, Array.getElem?_eq_none h'] at h
    cases h
theorem Env.below {w w' : World} (h : Env w) (hb : Below w.heap.size w w') : Env w' := by
  obtain ⟨h1, ⟨m, hm⟩, h3, h4⟩ := h
  refine ⟨h1.below hb, ⟨m, ?_⟩, ?_, ?_⟩
  · rw [hb.cell (p := ⟨2, 0, none⟩) (block_of_cell hm)]; exact hm
  · intro c hc
    rw [hb.cell (p := ⟨0, c, none⟩) (block_of_cell (h3 c hc))]; exact h3 c hc
  · intro i hi
    rw [hb.cell (p := ⟨1, 2 * i, none⟩) (block_of_cell (h4 i hi).1), hb.cell (p := ⟨1, 2 * i + 1, none⟩) (block_of_cell (h4 i hi).2)]; exact h4 i hi

/-- a text in quotes, each quote in it doubled -/
def quoteL (l : List UInt8) : List UInt8 := [39] ++ dbl l ++ [39]
def litV (k i : Int) (s : ByteArray) (b : Bool) : ByteArray :=
  if k = 1 then decS i else if k = 2 then ⟨(quoteL s.data.toList).toArray⟩ else if k = 3 then (if b = true then ⟨#[84, 82, 85, 69]⟩ else ⟨#[70, 65, 76, 83, 69]⟩) else ⟨#[78, 85, 76, 76]⟩
theorem lit_i (i : Int) (s : ByteArray) (b : Bool) (w : World) (h : R i) (he : Env w) :
    Calls Tryd.prog 14 #[.agg #[.int .u8 1, .int .i64 i, .string s, .bool b]] w fun e w' => e = .returned (.string (decS i)) ∧ Below w.heap.size w w' := by
  go_enter Tryd.func14, Tryd.ntmps14
  go_wp2_with fail
  refine (open_i i s b _).mono ?_
  rintro e w1 ⟨rfl, hb⟩
  have hb0 := below_then (below1 _ _) hb
  clear hb
  go_wp2_with fail
  refine (dec_any i w1 h (he.below hb0).1).mono ?_
  rintro e w2 ⟨rfl, hb⟩
  replace hb0 := below_then hb0 hb
  clear hb
  go_wp2_with fail
  go_ret
  exact ⟨rfl, hb0⟩
theorem lit_b (i : Int) (s : ByteArray) (b : Bool) (w : World) :
    Calls Tryd.prog 14 #[.agg #[.int .u8 3, .int .i64 i, .string s, .bool b]] w fun e w' => e = .returned (.string (litV 3 i s b)) ∧ Below w.heap.size w w' := by
  cases b with
  | true =>
    go_enter Tryd.func14, Tryd.ntmps14
    go_wp2_with fail
    refine (open_b i s true _).mono ?_
    rintro e w1 ⟨rfl, hb⟩
    have hb0 := below_then (below1 _ _) hb
    clear hb
    go_wp2_with fail
    go_ret
    exact ⟨rfl, hb0⟩
  | false =>
    go_enter Tryd.func14, Tryd.ntmps14
    go_wp2_with fail
    refine (open_b i s false _).mono ?_
    rintro e w1 ⟨rfl, hb⟩
    have hb0 := below_then (below1 _ _) hb
    clear hb
    go_wp2_with fail
    go_ret
    exact ⟨rfl, hb0⟩
theorem lit_n (k i : Int) (s : ByteArray) (b : Bool) (w : World) (h : any3 k = false) :
    Calls Tryd.prog 14 #[.agg #[.int .u8 k, .int .i64 i, .string s, .bool b]] w fun e w' => e = .returned (.string ⟨#[78, 85, 76, 76]⟩) ∧ Below w.heap.size w w' := by
  go_enter Tryd.func14, Tryd.ntmps14
  go_wp2_with fail
  refine (open_n k i s b _ h).mono ?_
  rintro e w1 ⟨rfl, hb⟩
  have hb0 := below_then (below1 _ _) hb
  clear hb
  go_wp2_with fail
  go_ret
  exact ⟨rfl, hb0⟩


theorem lit_s (i : Int) (s : ByteArray) (b : Bool) (w : World) (h : s.size ≤ 100) (he : Env w) :
    Calls Tryd.prog 14 #[.agg #[.int .u8 2, .int .i64 i, .string s, .bool b]] w fun e w' => e = .returned (.string ⟨(quoteL s.data.toList).toArray⟩) ∧ Below w.heap.size w w' := by
  go_enter Tryd.func14, Tryd.ntmps14
  go_wp2_with fail
  refine (open_s i s b _).mono ?_
  rintro e w1 ⟨rfl, hb⟩
  have hb0 := below_then (below1 _ _) hb
  clear hb
  have he1 := he.below hb0
  obtain ⟨m, hm⟩ := he1.2.1
  clear he1
  go_wp2_with fail
  refine (Tryd.strings_ReplaceAll s ⟨#[39]⟩ ⟨#[39, 39]⟩ m w1 (by omega) hm (by decide) (by have := Lib.countB_le ⟨#[39]⟩ (by decide) _ s (Nat.le_refl _); show s.size + _ * 2 ≤ _; omega)).mono ?_
  rintro e w2 ⟨rfl, hb⟩
  replace hb0 := below_then hb0 hb
  clear hb
  have hR : Lib.replaceAll s.data.toList (⟨#[39]⟩ : ByteArray).data.toList (⟨#[39, 39]⟩ : ByteArray).data.toList = dbl s.data.toList := replaceAll_39 _
  have hD := dbl_le s.data.toList
  have hS : s.data.toList.length = s.size := by simp
  rw [hS] at hD
  rw [hR]
  clear hR hS
  generalize hg : dbl s.data.toList = d at hD
  have hG := Lib.hid hg
  clear hg
  go_wp2_with fail
  refine bodyPost_ret (v := .string (⟨#[39]⟩ ++ ⟨d.toArray⟩ ++ ⟨#[39]⟩)) (by simp [results, Tryd.results14, go_sem]) rfl ⟨?_, hb0⟩
  refine ret_str ?_
  unfold quoteL
  rw [hG.out]
  rw [ByteArray.mk_append_mk [39], ByteArray.mk_append_mk _ [39]]
theorem literal_any (k i : Int) (s : ByteArray) (b : Bool) (w : World) (h : R i) (hs : k = 2 → s.size ≤ 100) (he : Env w) :
    Calls Tryd.prog 14 #[.agg #[.int .u8 k, .int .i64 i, .string s, .bool b]] w fun e w' => e = .returned (.string (litV k i s b)) ∧ Below w.heap.size w w' := by
  by_cases h1 : k = 1
  · subst h1; exact lit_i i s b w h he
  by_cases h2 : k = 2
  · subst h2; exact lit_s i s b w (hs rfl) he
  by_cases h3 : k = 3
  · subst h3; exact lit_b i s b w
  · rw [show litV k i s b = ⟨#[78, 85, 76, 76]⟩ from by simp [litV, h1, h2, h3]]
    exact lit_n k i s b w (by simp [any3, h1, h2, h3])
end Go.Proofs.YtpkohkhgimmkhaaDoor
