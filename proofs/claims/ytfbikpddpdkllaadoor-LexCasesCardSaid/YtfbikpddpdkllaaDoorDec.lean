/-
  The contracts of calc.Dec and of the reference's Dec: both hand back the decimal digits ('Lib.itoa'). Conditions: the number is int64; the library's table of powers of ten holds what its initialiser lays.
-/
import Derived.Test.YtfbikpddpdkllaaDoorShelf
import Derived.Test.YtfbikpddpdkllaaDoorLexNum
import Derived.Lib.AppendIntMem
import Derived.Lib.ItoaLen
import Derived.Lib.ItoaMem
namespace Go.Proofs.YtfbikpddpdkllaaDoor
open Go.RowKit Go.Sort
set_option linter.unusedVariables false
set_option linter.unusedSimpArgs false

/-- the library's table of powers of ten is as laid -/
def Pow (w : World) : Prop := Lib.TabIs Tryd.prog w "internal/strconv.uint64pow10" .u64 Lib.pow10Tab
theorem gPow : Tryd.prog.globalNamed "internal/strconv.uint64pow10" = some 3 := by kernel_rfl
theorem Pow.below {w w' : World} (h : Pow w) (hb : Below w.heap.size w w') : Pow w' := by
  unfold Pow Lib.TabIs World.var? at h ⊢
  rw [gPow] at h ⊢
  simp only [Option.bind_some] at h ⊢
  have hlt : 3 < w.heap.size := by
    rcases Nat.lt_or_ge 3 w.heap.size with h' | h'
    · exact h'
    · rw [Array.getElem?_eq_none h'] at h; cases h
  rw [hb.block _ hlt]
  exact h
/-- the digits, as a string -/
def decS (n : Int) : ByteArray := ⟨(Lib.itoa n).toArray⟩
theorem ret_str {s t : ByteArray} (h : s = t) : Ending.returned (.string s) = .returned (.string t) := by rw [h]
theorem decS_size (n : Int) (h : R n) : (decS n).size ≤ 21 := by
  have := Lib.itoa_length_le n h.1 h.2
  unfold decS
  show (Lib.itoa n).toArray.size ≤ 21
  simpa using this

theorem dec_any (n : Int) (w : World) (h : R n) (ht : Pow w) :
    Calls Tryd.prog 25 #[.int .i64 n] w fun e w' => e = .returned (.string (decS n)) ∧ Below w.heap.size w w' := by
  go_enter Tryd.func25, Tryd.ntmps25
  go_wp2_with fail
  refine (Tryd.strconv_FormatInt_10 n h.1 h.2 w ht).mono ?_
  rintro e w' ⟨rfl, k, os, rfl⟩
  have hb := Lib.below_grow w.heap.size w (Nat.le_refl _) k os
  generalize grow (w.drewN k) os = w1 at *
  go_wp2_with fail
  go_ret
  exact ⟨rfl, hb⟩

theorem ret_int {k : IntKind} {a b : Int} (h : a = b) : Ending.returned (.int k a) = .returned (.int k b) := by rw [h]
theorem size_any (n : Int) (w : World) (h : R n) :
    Calls Tryd.prog 50 #[.int .i64 n] w fun e w' => e = .returned (.int .u64 (mag n)) ∧ w = w' := by
  obtain ⟨l, u⟩ := h
  by_cases h0 : 0 ≤ n
  · rw [mag_pos h0]
    go_enter Tryd.func50, Tryd.ntmps50
    go_wp2_with fail
    go_ret
    exact ⟨rfl, rfl⟩
  · rw [mag_neg (by omega)]
    have h1 : n < 0 := by omega
    clear h0
    go_enter Tryd.func50, Tryd.ntmps50
    go_wp2_with fail
    go_ret
    exact ⟨ret_int (by omega), rfl⟩

/-- what is left to say: the digits of m, and those that stand behind -/
def Left (M m : Nat) (t : List UInt8) : Prop := (t = [] ∧ m = M) ∨ (t ≠ [] ∧ Lib.decDigits M = (if m = 0 then [] else Lib.decDigits m) ++ t)
/-- the last digit of m -/
def dgc (m : Nat) : UInt8 := UInt8.ofNat (48 + m % 10)
theorem Left.step {M m : Nat} {t : List UInt8} (h : Left M m t) (hg : 0 < m ∨ t = []) : Left M (m / 10) (dgc m :: t) := by
  refine .inr ⟨by simp, ?_⟩
  have e : Lib.decDigits M = Lib.decDigits m ++ t := by
    rcases h with ⟨h1, h2⟩ | ⟨h1, h2⟩
    · rw [h1, h2, List.append_nil]
    · rw [h2, if_neg (by rcases hg with h | h; · omega
                         · exact absurd h h1)]
  rw [e, Lib.decDigits]
  unfold dgc
  by_cases hm : m < 10
  · rw [dif_pos hm, if_pos (by omega), Nat.mod_eq_of_lt hm]
    rfl
  · rw [dif_neg hm, if_neg (by omega)]
    simp
theorem Left.done {M : Nat} {t : List UInt8} (h : Left M 0 t) (ht : t ≠ []) : t = Lib.decDigits M := by
  rcases h with ⟨h1, _⟩ | ⟨_, h2⟩
  · exact absurd h1 ht
  · rw [h2, if_pos rfl]; rfl

theorem Left.len {M m : Nat} {t : List UInt8} (h : Left M m t) : t.length ≤ (Lib.decDigits M).length := by
  rcases h with ⟨h1, _⟩ | ⟨_, h2⟩
  · rw [h1]; exact Nat.zero_le _
  · rw [h2, List.length_append]; omega
theorem dig_piece (m : Nat) (w : World) :
    (Instr.slice 9 (.string ⟨#[48, 49, 50, 51, 52, 53, 54, 55, 56, 57]⟩) (some (.int .u64 ((m : Int) % 10))) (some (.int .u64 ((m : Int) % 10 + 1))) none).run Tryd.prog w =   .ok (.string ⟨#[dgc m]⟩) w := by
  unfold dgc
  rw [run_slice_string w 9 _ .u64 .u64 _ _ Tryd.underlying9 (by omega) (by omega) (by show (m : Int) % 10 + 1 ≤ ((10 : Nat) : Int); omega)]
  have h : m % 10 < 10 := Nat.mod_lt _ (by omega)
  rw [show ((m : Int) % 10).toNat = m % 10 from by omega, show ((m : Int) % 10 + 1).toNat = m % 10 + 1 from by omega]
  generalize m % 10 = d at h
  have : d = 0 ∨ d = 1 ∨ d = 2 ∨ d = 3 ∨ d = 4 ∨ d = 5 ∨ d = 6 ∨ d = 7 ∨ d = 8 ∨ d = 9 := by omega
  rcases this with rfl | rfl | rfl | rfl | rfl | rfl | rfl | rfl | rfl | rfl <;> rfl
theorem one_more (c : UInt8) (t : List UInt8) : (⟨#[c]⟩ : ByteArray) ++ ⟨t.toArray⟩ = ⟨(c :: t).toArray⟩ := ByteArray.mk_append_mk [c] t

/-- 1 where the string is empty -/
def noStr (v : Value) : Nat := match v with | .string s => if s.size = 0 then 1 else 0 | _ => 0
theorem noStr_le (v : Value) : noStr v ≤ 1 := by unfold noStr; split <;> (try split) <;> omega
theorem noStr_cons (c : UInt8) (t : List UInt8) : noStr (.string ⟨(c :: t).toArray⟩) = 0 := rfl
theorem noStr_nil : noStr (.string ⟨#[]⟩) = 1 := rfl
theorem ref_dec (n : Int) (w : World) (h : R n) :
    Calls Tryd.prog 28 #[.int .i64 n] w fun e w' => e = .returned (.string (decS n)) ∧ w = w' := by
  have hm := mag_rng h
  obtain ⟨M, hM⟩ := Int.eq_ofNat_of_zero_le hm.1
  have hL := Lib.itoa_length_le n h.1 h.2
  have hl2 : (Lib.decDigits M).length ≤ 21 := by
    unfold Lib.itoa at hL
    by_cases h0 : n < 0
    · rw [if_pos h0, show n.natAbs = M from by rw [mag_neg h0] at hM; omega] at hL
      simp at hL; omega
    · rw [if_neg h0, show n.toNat = M from by rw [mag_pos (by omega)] at hM; omega] at hL
      exact hL
  have ht : decS n = ⟨((if n < 0 then [45] else []) ++ Lib.decDigits M).toArray⟩ := by
    unfold decS Lib.itoa
    by_cases h0 : n < 0
    · rw [if_pos h0, if_pos h0, show n.natAbs = M from by rw [mag_neg h0] at hM; omega]
      rfl
    · rw [if_neg h0, if_neg h0, show n.toNat = M from by rw [mag_pos (by omega)] at hM; omega]
      rfl
  have cs := size_any n w h
  rw [hM] at cs hm
  have hM2 := hm.2
  have CS := Lib.hid cs
  have HT := Lib.hid ht
  clear cs ht hM hm hL
  go_enter Tryd.func28, Tryd.ntmps28
  go_wp2_with fail
  refine CS.out.mono ?_
  rintro e w' ⟨rfl, rfl⟩
  go_wp2_with fail
  go_loop [3, 4] (fun s u => ∃ (t : List UInt8) (m : Nat), s = .string ⟨t.toArray⟩ ∧ u = .int .u64 m ∧ m ≤ 9223372036854775808 ∧ Left M m t) (fun s u => (intOf u).toNat + noStr s)
  case atStart => exact ⟨[], M, rfl, rfl, by omega, .inl ⟨rfl, rfl⟩⟩
  case round =>
    obtain ⟨t, m, rfl, rfl, hm, hl⟩ := hrel
    have hlen := hl.len
    have hp := fun wx => dig_piece m wx
    by_cases h0 : 0 < m
    · have hs := hl.step (.inl h0)
      go_wp2_with fail
      go_round
      case rel => exact ⟨_, m / 10, by rw [one_more], by go_num, by omega, hs⟩
      case measure =>
        rw [one_more, noStr_cons]
        simp [intOf]
        omega
    · obtain rfl : m = 0 := by omega
      by_cases ht : t = []
      · have hs := hl.step (.inr ht)
        subst ht
        clear hp hl
        go_wp2_with fail
        exact ⟨⟨[dgc 0], 0, by kernel_rfl, rfl, by omega, hs⟩, by decide⟩
      · have hd := hl.done ht
        have he : t.isEmpty = false := by simpa using ht
        have HD := Lib.hid hd
        clear hd hp hl
        by_cases hn : n < 0
        · go_wp2_with fail
          go_ret
          exact ⟨ret_str (by rw [HT.out, if_pos hn, HD.out, one_more]; rfl), rfl⟩
        · go_wp2_with fail
          go_ret
          exact ⟨ret_str (by rw [HT.out, if_neg (by omega), HD.out]; rfl), rfl⟩
end Go.Proofs.YtfbikpddpdkllaaDoor
