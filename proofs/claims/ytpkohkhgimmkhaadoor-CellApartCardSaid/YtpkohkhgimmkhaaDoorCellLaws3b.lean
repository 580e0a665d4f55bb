/-
  CellOrders: the reference's order answers as package cell's does, at right values; the law's walk. Conditions: the library's tables are as laid.
-/
import Derived.Test.YtpkohkhgimmkhaaDoorCellLaws3
import Derived.Test.YtpkohkhgimmkhaaDoorCellLaws1b
namespace Go.Proofs.YtpkohkhgimmkhaaDoor
open Go.RowKit Go.Sort
set_option linter.unusedVariables false
set_option linter.unusedSimpArgs false

theorem cmpI_val (x y : Int) : cmpI x y = -1 ∨ cmpI x y = 0 ∨ cmpI x y = 1 := by unfold cmpI; split <;> (try split) <;> simp
theorem cmpS_val (x y : ByteArray) : cmpS x y = -1 ∨ cmpS x y = 0 ∨ cmpS x y = 1 := by unfold cmpS; split <;> (try split) <;> simp
theorem ord_val (k i : Int) (s : ByteArray) (b : Bool) (k2 i2 : Int) (s2 : ByteArray) (b2 : Bool) : orderV k i s b k2 i2 s2 b2 = -1 ∨ orderV k i s b k2 i2 s2 b2 = 0 ∨ orderV k i s b k2 i2 s2 b2 = 1 := by
  unfold orderV
  split
  · split
    · exact cmpI_val _ _
    · split
      · exact cmpS_val _ _
      · split
        · exact cmpI_val _ _
        · exact .inr (.inl rfl)
  · exact cmpI_val _ _
theorem lessV_eq (k i : Int) (s : ByteArray) (b : Bool) (k2 i2 : Int) (s2 : ByteArray) (b2 : Bool) (h : four k) (h2 : four k2) : lessV k i s b k2 i2 s2 b2 = decide (orderV k i s b k2 i2 s2 b2 < 0) := by
  rw [Bool.eq_iff_iff, decide_eq_true_eq, lt_iff]
  unfold lessV
  rcases h with rfl | rfl | rfl | rfl <;> rcases h2 with rfl | rfl | rfl | rfl <;> cases b <;> cases b2 <;> simp [placeV, rankV]
theorem rless_is {k i : Int} {s : ByteArray} {b : Bool} {k2 i2 : Int} {s2 : ByteArray} {b2 r : Bool} (h : four k) (h2 : four k2) (hr : decide (orderV k i s b k2 i2 s2 b2 < 0) = r) :
    Hid (∀ w : World, Calls Tryd.prog 20 #[.agg #[.int .u8 k, .int .i64 i, .string s, .bool b], .agg #[.int .u8 k2, .int .i64 i2, .string s2, .bool b2]] w fun e w' => e = .returned (.bool r) ∧ Below w.heap.size w w') :=
  Lib.hid (fun w => ((lessV_eq k i s b k2 i2 s2 b2 h h2).trans hr) ▸ rless_any k i s b k2 i2 s2 b2 w)
theorem sameV_eq (k i : Int) (s : ByteArray) (b : Bool) (k2 i2 : Int) (s2 : ByteArray) (b2 : Bool) (h : four k) (h2 : four k2) : sameV k i s b k2 i2 s2 b2 = (orderV k i s b k2 i2 s2 b2 == 0) := by
  unfold sameV
  rw [lessV_eq _ _ _ _ _ _ _ _ h h2, lessV_eq _ _ _ _ _ _ _ _ h2 h]
  by_cases h0 : orderV k i s b k2 i2 s2 b2 = 0
  · have h1 := ord_sym h0
    rw [h0, h1]; rfl
  · by_cases h1 : orderV k i s b k2 i2 s2 b2 < 0
    · rw [decide_eq_true h1, beq_eq_false_iff_ne.2 h0]; rfl
    · by_cases h3 : orderV k2 i2 s2 b2 k i s b < 0
      · rw [decide_eq_true h3, beq_eq_false_iff_ne.2 h0]; simp
      · exact absurd (ord_total h1 h3) h0
theorem rsame_is {k i : Int} {s : ByteArray} {b : Bool} {k2 i2 : Int} {s2 : ByteArray} {b2 r : Bool} (h : four k) (h2 : four k2) (hr : (orderV k i s b k2 i2 s2 b2 == 0) = r) :
    Hid (∀ w : World, Calls Tryd.prog 16 #[.agg #[.int .u8 k, .int .i64 i, .string s, .bool b], .agg #[.int .u8 k2, .int .i64 i2, .string s2, .bool b2]] w fun e w' => e = .returned (.bool r) ∧ Below w.heap.size w w') :=
  Lib.hid (fun w => ((sameV_eq k i s b k2 i2 s2 b2 h h2).trans hr) ▸ rsame_any k i s b k2 i2 s2 b2 w)

/-- what a comparison hands back -/
def CompIs (f : FuncId) (k i : Int) (s : ByteArray) (b : Bool) (k2 i2 : Int) (s2 : ByteArray) (b2 : Bool) (c : Int) (known : Bool) (e : Int) : Prop :=
  ∀ w : World, Calls Tryd.prog f #[.agg #[.int .u8 k, .int .i64 i, .string s, .bool b], .agg #[.int .u8 k2, .int .i64 i2, .string s2, .bool b2]] w fun x w' => x = .returned (.tuple #[.int .i64 c, .bool known, .int .i64 e]) ∧ Below w.heap.size w w'
theorem comp_any (k i : Int) (s : ByteArray) (b : Bool) (k2 i2 : Int) (s2 : ByteArray) (b2 : Bool) : ∃ c known e, CompIs 18 k i s b k2 i2 s2 b2 c known e := by
  cases h : any3 k with
  | false => exact ⟨_, _, _, fun w => comp_0 k i s b k2 i2 s2 b2 w h⟩
  | true =>
    cases h2 : any3 k2 with
    | false => exact ⟨_, _, _, fun w => comp_1 k i s b k2 i2 s2 b2 w h h2⟩
    | true =>
      by_cases hk : k = k2
      · subst hk
        exact ⟨_, _, _, fun w => comp_e k i s b i2 s2 b2 w h⟩
      · exact ⟨_, _, _, fun w => comp_d k i s b k2 i2 s2 b2 w h h2 (beq_eq_false_iff_ne.2 hk)⟩
theorem any3_four {k : Int} (h : four k) : any3 k = !(k == 0) := by rcases h with rfl | rfl | rfl | rfl <;> decide
theorem comp_same (k i : Int) (s : ByteArray) (b : Bool) (k2 i2 : Int) (s2 : ByteArray) (b2 : Bool) (h : four k) (h2 : four k2) :
    ∃ c known e, CompIs 18 k i s b k2 i2 s2 b2 c known e ∧ CompIs 19 k i s b k2 i2 s2 b2 c known e := by
  have a1 := any3_four h
  have a2 := any3_four h2
  cases e1 : (k == 0) with
  | true => exact ⟨_, _, _, fun w => comp_0 k i s b k2 i2 s2 b2 w (by rw [a1, e1]; rfl), fun w => rcomp_0 k i s b k2 i2 s2 b2 w e1⟩
  | false =>
    have g1 : any3 k = true := by rw [a1, e1]; rfl
    cases e2 : (k2 == 0) with
    | true => exact ⟨_, _, _, fun w => comp_1 k i s b k2 i2 s2 b2 w g1 (by rw [a2, e2]; rfl), fun w => rcomp_1 k i s b k2 i2 s2 b2 w e1 e2⟩
    | false =>
      have g2 : any3 k2 = true := by rw [a2, e2]; rfl
      by_cases hk : k = k2
      · subst hk
        refine ⟨_, _, _, fun w => comp_e k i s b i2 s2 b2 w g1, fun w => ?_⟩
        rcases ord_val k i s b k i2 s2 b2 with hv | hv | hv
        · rw [hv]
          exact rcomp_l k i s b i2 s2 b2 w e1 (by rw [lessV_eq _ _ _ _ _ _ _ _ h h, hv]; rfl)
        · rw [hv]
          exact rcomp_e k i s b i2 s2 b2 w e1 (by rw [lessV_eq _ _ _ _ _ _ _ _ h h, hv]; rfl) (by rw [lessV_eq _ _ _ _ _ _ _ _ h h, ord_sym hv]; rfl)
        · have hl : ¬ orderV k i s b k i2 s2 b2 < 0 := by omega
          have hg : orderV k i2 s2 b2 k i s b < 0 := by
            by_cases hg : orderV k i2 s2 b2 k i s b < 0
            · exact hg
            · have := ord_total hl hg; omega
          rw [hv]
          exact rcomp_g k i s b i2 s2 b2 w e1 (by rw [lessV_eq _ _ _ _ _ _ _ _ h h, hv]; rfl) (by rw [lessV_eq _ _ _ _ _ _ _ _ h h]; exact decide_eq_true hg)
      · have hk' := beq_eq_false_iff_ne.2 hk
        exact ⟨_, _, _, fun w => comp_d k i s b k2 i2 s2 b2 w g1 g2 hk', fun w => rcomp_d k i s b k2 i2 s2 b2 w e1 e2 hk'⟩

theorem orders_walk (k i : Int) (s : ByteArray) (b : Bool) (k2 i2 : Int) (s2 : ByteArray) (b2 : Bool) (w : World) (he : Env w) :
    Calls Tryd.prog 5 #[.agg #[.int .u8 k, .int .i64 i, .string s, .bool b], .agg #[.int .u8 k2, .int .i64 i2, .string s2, .bool b2]] w fun e w' => e = .returned (.bool true) ∧ Below w.heap.size w w' := by
  cases h : rightV k i s b with
  | false =>
    obtain ⟨c, kn, e, hC⟩ := comp_any k i s b k2 i2 s2 b2
    exact orders_w0 k i s b k2 i2 s2 b2 _ _ _ w he (Lib.hid h) (Lib.hid hC)
  | true =>
  cases h2 : rightV k2 i2 s2 b2 with
  | false =>
    obtain ⟨c, kn, e, hC⟩ := comp_any k i s b k2 i2 s2 b2
    exact orders_w1 k i s b k2 i2 s2 b2 _ _ _ w he (Lib.hid h) (Lib.hid h2) (Lib.hid hC)
  | true =>
    have f1 := four_of h
    have f2 := four_of h2
    obtain ⟨c, kn, e, hC, hD⟩ := comp_same k i s b k2 i2 s2 b2 f1 f2
    by_cases x : orderV k i s b k2 i2 s2 b2 < 0
    · have y := ord_asym x
      have z : (orderV k i s b k2 i2 s2 b2 == 0) = false := beq_eq_false_iff_ne.2 (by omega)
      cases kn
      · exact orders_lf k i s b k2 i2 s2 b2 _ _ w he (Lib.hid h) (Lib.hid h2) (Lib.hid hC) (Lib.hid hD) (less_is (decide_eq_true x)) (rless_is f1 f2 (decide_eq_true x)) (same_is z) (rsame_is f1 f2 z) (less_is (decide_eq_false y))
      · exact orders_lt k i s b k2 i2 s2 b2 _ _ w he (Lib.hid h) (Lib.hid h2) (Lib.hid hC) (Lib.hid hD) (less_is (decide_eq_true x)) (rless_is f1 f2 (decide_eq_true x)) (same_is z) (rsame_is f1 f2 z) (less_is (decide_eq_false y))
    · by_cases z : orderV k i s b k2 i2 s2 b2 = 0
      · have z' : (orderV k i s b k2 i2 s2 b2 == 0) = true := beq_iff_eq.2 z
        cases kn
        · exact orders_ef k i s b k2 i2 s2 b2 _ _ w he (Lib.hid h) (Lib.hid h2) (Lib.hid hC) (Lib.hid hD) (less_is (decide_eq_false x)) (rless_is f1 f2 (decide_eq_false x)) (same_is z') (rsame_is f1 f2 z')
        · exact orders_et k i s b k2 i2 s2 b2 _ _ w he (Lib.hid h) (Lib.hid h2) (Lib.hid hC) (Lib.hid hD) (less_is (decide_eq_false x)) (rless_is f1 f2 (decide_eq_false x)) (same_is z') (rsame_is f1 f2 z')
      · have z' : (orderV k i s b k2 i2 s2 b2 == 0) = false := beq_eq_false_iff_ne.2 z
        cases kn
        · exact orders_gf k i s b k2 i2 s2 b2 _ _ w he (Lib.hid h) (Lib.hid h2) (Lib.hid hC) (Lib.hid hD) (less_is (decide_eq_false x)) (rless_is f1 f2 (decide_eq_false x)) (same_is z') (rsame_is f1 f2 z')
        · exact orders_gt k i s b k2 i2 s2 b2 _ _ w he (Lib.hid h) (Lib.hid h2) (Lib.hid hC) (Lib.hid hD) (less_is (decide_eq_false x)) (rless_is f1 f2 (decide_eq_false x)) (same_is z') (rsame_is f1 f2 z')
end Go.Proofs.YtpkohkhgimmkhaaDoor
