/-
  The contract of the reference's Literal (lapidaryref02): the same as package cell's. Conditions: an integer is int64; a text is no longer than 100 bytes.
-/
import Derived.Test.YtpkohkhgimmkhaaDoorCellEnv
namespace Go.Proofs.YtpkohkhgimmkhaaDoor
open Go.RowKit Go.Sort
set_option linter.unusedVariables false
set_option linter.unusedSimpArgs false

theorem dbl_snoc (c : UInt8) : ∀ l : List UInt8, dbl (l ++ [c]) = dbl l ++ (if c = 39 then [39, 39] else [c])
  | [] => by
    by_cases h : c = 39 <;> simp [dbl, h]
  | b :: l => by
    rw [List.cons_append, dbl, dbl, dbl_snoc c l]
    by_cases h : b = 39 <;> simp [h]
theorem take_one (s : ByteArray) (k : Nat) (h : k < s.size) : s.data.toList.take (k + 1) = s.data.toList.take k ++ [s[k]] := by
  rw [List.take_add_one, List.getElem?_eq_getElem (by simpa using h)]
  rfl
theorem one_piece (s : ByteArray) (k : Nat) (h : k < s.size) (w : World) :
    (Instr.slice 9 (.string s) (some (.int .i64 (k : Int))) (some (.int .i64 ((k : Int) + 1))) none).run Tryd.prog w = .ok (.string ⟨#[s[k]]⟩) w := by
  rw [run_slice_string w 9 _ .i64 .i64 _ _ Tryd.underlying9 (by omega) (by omega) (by omega)]
  rw [show ((k : Int) + 1).toNat = k + 1 from by omega, show ((k : Int)).toNat = k from by omega]
  have : s.extract k (k + 1) = ⟨#[s[k]]⟩ := by
    apply ByteArray.ext
    rw [ByteArray.data_extract]
    apply Array.ext
    · simp; omega
    · intro i h1 h2
      simp at h1 h2
      obtain rfl : i = 0 := by omega
      simp
      rfl
  rw [this]
theorem put_one (t : List UInt8) (c : UInt8) : (⟨t.toArray⟩ : ByteArray) ++ ⟨#[c]⟩ = ⟨(t ++ [c]).toArray⟩ := ByteArray.mk_append_mk t [c]
theorem rlit_i (i : Int) (s : ByteArray) (b : Bool) (w : World) (h : R i) :
    Calls Tryd.prog 15 #[.agg #[.int .u8 1, .int .i64 i, .string s, .bool b]] w fun e w' => e = .returned (.string (decS i)) ∧ Below w.heap.size w w' := by
  go_enter Tryd.func15, Tryd.ntmps15
  go_wp2_with fail
  refine (ref_dec i _ h).mono ?_
  rintro e w1 ⟨rfl, rfl⟩
  go_wp2_with fail
  go_ret
  exact ⟨rfl, below1 _ _⟩
theorem rlit_t (i : Int) (s : ByteArray) (w : World) :
    Calls Tryd.prog 15 #[.agg #[.int .u8 3, .int .i64 i, .string s, .bool true]] w fun e w' => e = .returned (.string ⟨#[84, 82, 85, 69]⟩) ∧ Below w.heap.size w w' := by
  go_enter Tryd.func15, Tryd.ntmps15
  go_wp2_with fail
  go_ret
  exact ⟨rfl, below1 _ _⟩
theorem rlit_f (i : Int) (s : ByteArray) (w : World) :
    Calls Tryd.prog 15 #[.agg #[.int .u8 3, .int .i64 i, .string s, .bool false]] w fun e w' => e = .returned (.string ⟨#[70, 65, 76, 83, 69]⟩) ∧ Below w.heap.size w w' := by
  go_enter Tryd.func15, Tryd.ntmps15
  go_wp2_with fail
  go_ret
  exact ⟨rfl, below1 _ _⟩
theorem rlit_n (k i : Int) (s : ByteArray) (b : Bool) (w : World) (h1 : (k == 1) = false) (h2 : (k == 2) = false) (h3 : (k == 3) = false) :
    Calls Tryd.prog 15 #[.agg #[.int .u8 k, .int .i64 i, .string s, .bool b]] w fun e w' => e = .returned (.string ⟨#[78, 85, 76, 76]⟩) ∧ Below w.heap.size w w' := by
  go_enter Tryd.func15, Tryd.ntmps15
  go_wp2_with fail
  go_ret
  exact ⟨rfl, below1 _ _⟩
theorem rlit_s (i : Int) (s : ByteArray) (b : Bool) (w : World) (h : s.size ≤ 100) :
    Calls Tryd.prog 15 #[.agg #[.int .u8 2, .int .i64 i, .string s, .bool b]] w fun e w' => e = .returned (.string ⟨(quoteL s.data.toList).toArray⟩) ∧ Below w.heap.size w w' := by
  go_enter Tryd.func15, Tryd.ntmps15
  go_wp2_with fail
  go_loop [3, 4] (fun v u => ∃ (t : List UInt8) (k : Nat), v = .string ⟨t.toArray⟩ ∧ u = .int .i64 k ∧ k ≤ s.size ∧ t.length ≤ 1 + 2 * k ∧ Hid (t = 39 :: dbl (s.data.toList.take k))) (fun v u => s.size - (intOf u).toNat)
  case atStart => exact ⟨[39], 0, rfl, rfl, by omega, by simp, Lib.hid (by simp [dbl])⟩
  case round =>
    obtain ⟨t, k, rfl, rfl, hk, hl, HT⟩ := hrel
    by_cases hlt : k < s.size
    · have hp := fun wx => one_piece s k hlt wx
      by_cases hq : (s[k]).toNat = 39
      · have hq' : (((s[k]).toNat : Int) == 39) = true := by simp [hq]
        have hc : s[k] = 39 := UInt8.toNat_inj.1 hq
        have HN : Hid (t ++ [s[k]] ++ [39] = 39 :: dbl (s.data.toList.take (k + 1))) := Lib.hid (by rw [take_one s k hlt, dbl_snoc, HT.out, if_pos hc, hc]; simp)
        clear hq hc
        go_wp2_with fail
        go_round
        case rel => exact ⟨t ++ [s[k]] ++ [39], k + 1, by rw [put_one, put_one], by go_num, by omega, by simp; omega, HN⟩
        case measure => simp [intOf]; omega
      · have hq' : (((s[k]).toNat : Int) == 39) = false := by
          rw [beq_eq_false_iff_ne]
          omega
        have hc : s[k] ≠ 39 := fun e => hq (by rw [e]; rfl)
        have HN : Hid (t ++ [s[k]] = 39 :: dbl (s.data.toList.take (k + 1))) := Lib.hid (by rw [take_one s k hlt, dbl_snoc, HT.out, if_neg hc]; simp)
        clear hq hc
        go_wp2_with fail
        go_round
        case rel => exact ⟨t ++ [s[k]], k + 1, by rw [put_one], by go_num, by omega, by simp; omega, HN⟩
        case measure => simp [intOf]; omega
    · have HE : Hid (t ++ [39] = quoteL s.data.toList) := Lib.hid (by
        rw [HT.out, List.take_of_length_le (by simp; omega)]
        unfold quoteL
        simp)
      go_wp2_with fail
      refine bodyPost_ret (v := .string (⟨t.toArray⟩ ++ ⟨#[39]⟩)) (by simp [results, Tryd.results15, go_sem]) rfl ⟨?_, below1 _ _⟩
      refine ret_str ?_
      rw [put_one, HE.out]
theorem rliteral_any (k i : Int) (s : ByteArray) (b : Bool) (w : World) (h : R i) (hs : k = 2 → s.size ≤ 100) :
    Calls Tryd.prog 15 #[.agg #[.int .u8 k, .int .i64 i, .string s, .bool b]] w fun e w' => e = .returned (.string (litV k i s b)) ∧ Below w.heap.size w w' := by
  by_cases h1 : k = 1
  · subst h1; exact rlit_i i s b w h
  by_cases h2 : k = 2
  · subst h2; exact rlit_s i s b w (hs rfl)
  by_cases h3 : k = 3
  · subst h3
    cases b with
    | true => exact rlit_t i s w
    | false => exact rlit_f i s w
  · rw [show litV k i s b = ⟨#[78, 85, 76, 76]⟩ from by simp [litV, h1, h2, h3]]
    exact rlit_n k i s b w (beq_eq_false_iff_ne.2 h1) (beq_eq_false_iff_ne.2 h2) (beq_eq_false_iff_ne.2 h3)
end Go.Proofs.YtpkohkhgimmkhaaDoor
