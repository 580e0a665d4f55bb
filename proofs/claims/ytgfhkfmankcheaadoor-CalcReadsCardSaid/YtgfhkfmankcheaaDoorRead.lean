/-
  The contract of calc.Read: it hands back the number that the digits say, 0 and ErrOver where it doesn't fit, 0 and ErrForm where the text isn't digits; new blocks alone are made. Conditions: the text is no longer than 2^63 - 1.
-/
import Derived.Test.YtgfhkfmankcheaaDoorDigits
import Derived.Test.YtgfhkfmankcheaaDoorCalc
import Derived.Laws.RangeAny
import Derived.Laws.RangeString
import Derived.Lib.Hide
import Derived.Lib.Strings
namespace Go.Proofs.YtgfhkfmankcheaaDoor
open Go.RowKit
set_option linter.unusedVariables false
set_option linter.unusedSimpArgs false

theorem below_iter {B : Nat} {w W : World} (h : Below B w W) (hB : B ≤ W.heap.size) (s : ByteArray) (pos : Nat) : Below B w (W.iter s pos) := h.alloc hB _
theorem decode_dig (s : ByteArray) (pos : Nat) (h : pos < s.size) (hd : (s[pos]).toNat ≤ 57) : Utf8.decode s pos = ((s[pos]).toNat, 1) := decode_ascii s pos h (by omega)

theorem ret_ii {k k' : IntKind} {a b a' b' : Int} (h : a = a') (h' : b = b') : Ending.returned (.tuple #[.int k a, .int k' b]) = .returned (.tuple #[.int k a', .int k' b']) := by rw [h, h']
/-- the rune at a byte that is no digit is none -/
theorem rune_not (s : ByteArray) (pos : Nat) (h : pos < s.size) (hd : ¬ (48 ≤ (s[pos]).toNat ∧ (s[pos]).toNat ≤ 57)) : (Utf8.decode s pos).1 < 48 ∨ (48 ≤ (Utf8.decode s pos).1 ∧ 57 < (Utf8.decode s pos).1) := by
  by_cases ha : (s[pos]).toNat < 128
  · rw [decode_ascii s pos h ha]
    show (s[pos]).toNat < 48 ∨ (48 ≤ (s[pos]).toNat ∧ 57 < (s[pos]).toNat)
    omega
  · have := (decode_high s pos h (by omega)).1
    omega
theorem fits_num {n : Nat} (h : fits (n : Int) = true) : (n : Int) ≤ 9223372036854775807 := ((fits_iff _).1 h).2

theorem read_any (s : ByteArray) (w : World) (hs : s.size ≤ 9223372036854775807) :
    Calls Tryd.prog 5 #[.string s] w fun e w' => e = .returned (.tuple #[.int .i64 (readV s.data.toList), .int .i64 (readE s.data.toList)]) ∧ Below w.heap.size w w' := by
  go_enter Tryd.func5, Tryd.ntmps5
  go_wp2_with fail
  go_loopw [6] (fun _ w' => ∃ pos, w' = w.iter s pos ∧ pos ≤ s.size ∧ (s.data.toList.take pos).all isDig = true) (fun _ w' => s.size - w'.iterPos w.heap.size)
  case atStart => exact ⟨0, rfl, by omega, by simp⟩
  case round =>
    obtain ⟨pos, rfl, hp, hall⟩ := hrel
    by_cases hlt : pos < s.size
    · by_cases hd : 48 ≤ (s[pos]).toNat ∧ (s[pos]).toNat ≤ 57
      · have hnx : ∀ ty, (Instr.next (.pointer (some ⟨w.heap.size, 0, none⟩)) true ty).run Tryd.prog (w.iter s pos) = _ := fun ty => run_next_ascii w s pos ty hlt (by omega)
        have d1 : 48 ≤ ((s[pos]).toNat : Int) := by omega
        have d2 : ((s[pos]).toNat : Int) ≤ 57 := by omega
        have hall2 : (s.data.toList.take (pos + 1)).all isDig = true := by
          rw [take_snoc s pos hlt, List.all_append, hall]
          simpa [isDig_iff] using hd
        clear hd hall
        go_wp2_with fail
        go_roundw
        case rel => exact ⟨pos + 1, rfl, by omega, hall2⟩
        case measure => simp; omega
      · have hno := read_not (digits_not s pos hlt hd)
        have hnx : ∀ ty, (Instr.next (.pointer (some ⟨w.heap.size, 0, none⟩)) true ty).run Tryd.prog (w.iter s pos) = _ := fun ty => run_next_any w s pos ty hlt
        have H := Lib.hid hno
        clear hno hall
        rcases rune_not s pos hlt hd with h1 | ⟨h1, h2⟩
        · clear hd
          go_wp2_with fail
          go_ret2
          exact ⟨ret_ii H.out.1.symm H.out.2.symm, below_iter (Below.refl _ _) (Nat.le_refl _) _ _⟩
        · clear hd
          go_wp2_with fail
          go_ret2
          exact ⟨ret_ii H.out.1.symm H.out.2.symm, below_iter (Below.refl _ _) (Nat.le_refl _) _ _⟩
    · have hnx : ∀ ty, (Instr.next (.pointer (some ⟨w.heap.size, 0, none⟩)) true ty).run Tryd.prog (w.iter s pos) = _ := fun ty => run_next_end w s pos ty hlt
      rw [take_all s pos (by omega)] at hall
      by_cases h0 : s.size = 0
      · have hd : digits s.data.toList = false := by
          have : s.data.toList = [] := List.eq_nil_of_length_eq_zero (by simpa using h0)
          rw [this]; rfl
        have H := Lib.hid (read_not hd)
        have he : s.toList.isEmpty = true := by
          rw [Lib.toList_data]
          have : s.data.toList = [] := List.eq_nil_of_length_eq_zero (by simpa using h0)
          rw [this]; rfl
        clear hall hd h0
        go_wp2_with fail
        go_ret2
        exact ⟨ret_ii H.out.1.symm H.out.2.symm, below_iter (Below.refl _ _) (Nat.le_refl _) _ _⟩
      · have hd := digits_yes hall (by omega)
        have he : s.toList.isEmpty = false := by
          rw [Lib.toList_data]
          have : s.data.toList ≠ [] := by
            intro e
            have h2 : s.data.toList.length = s.size := by simp
            rw [e] at h2
            simp at h2
            omega
          simpa using this
        have H := Lib.hid hall
        have Hd := Lib.hid hd
        obtain ⟨w1, hw1⟩ : ∃ w1, w1 = w.iter s pos := ⟨_, rfl⟩
        have hb1 : Below w.heap.size w w1 := by rw [hw1]; exact below_iter (Below.refl _ _) (Nat.le_refl _) _ _
        have hz1 : w.heap.size ≤ w1.heap.size := hb1.size
        clear hall hd h0 hlt hp
        go_wp2_with fail
        clear hnx he
        rw [← hw1]
        clear hw1
        go_loopw [4, 8, 9, 10] (fun n _ _ _ w' => ∃ pos, w' = w1.iter s pos ∧ pos ≤ s.size ∧ n = .int .i64 (num (s.data.toList.take pos) : Nat) ∧ fits (num (s.data.toList.take pos) : Nat) = true) (fun _ _ _ _ w' => s.size - w'.iterPos w1.heap.size)
        case atStart => exact ⟨0, rfl, by omega, by simp [num], by simp [num, fits]⟩
        case round =>
          obtain ⟨pos, rfl, hp, rfl, hf⟩ := hrel
          by_cases hlt : pos < s.size
          · have hd := all_at s H.out pos hlt
            have hnx : ∀ ty, (Instr.next (.pointer (some ⟨w1.heap.size, 0, none⟩)) true ty).run Tryd.prog (w1.iter s pos) = _ := fun ty => run_next_ascii w1 s pos ty hlt (by omega)
            have d1 : 48 ≤ ((s[pos]).toNat : Int) := by omega
            have d2 : ((s[pos]).toNat : Int) ≤ 57 := by omega
            have hs1 : num (s.data.toList.take (pos + 1)) = num (s.data.toList.take pos) * 10 + ((s[pos]).toNat - 48) := by rw [take_snoc s pos hlt, num_snoc]
            have hle := num_take_le s.data.toList (pos + 1)
            have hfn := fits_num hf
            have Hs := Lib.hid hs1
            have Hf := Lib.hid hf
            clear hf hs1 hd
            generalize hk : num (s.data.toList.take pos) = k at *
            clear hk
            go_wp2_with fail
            cases hm : fits ((k : Int) * 10) with
            | false =>
              have hr := read_over Hd.out (n := (k : Int) * 10) (by omega) (by rw [Hs.out] at hle; omega) hm
              have Hr := Lib.hid hr
              clear hr
              refine (mul_over _ _ _ ⟨by omega, by omega⟩ ⟨by omega, by omega⟩ hm).mono ?_
              rintro e w' ⟨rfl, rfl⟩
              clear hm
              go_wp2_with fail
              go_ret2
              exact ⟨ret_ii Hr.out.1.symm Hr.out.2.symm, below_iter hb1 hz1 _ _⟩
            | true =>
              refine (mul_fit _ _ _ ⟨by omega, by omega⟩ ⟨by omega, by omega⟩ hm).mono ?_
              rintro e w' ⟨rfl, rfl⟩
              have hm2 := (fits_iff _).1 hm
              clear hm
              obtain ⟨hm3, hm4⟩ := hm2
              go_wp2_with fail
              have hs2 : ((num (s.data.toList.take (pos + 1)) : Nat) : Int) = (k : Int) * 10 + (((s[pos]).toNat : Int) - 48) := by rw [Hs.out]; omega
              have Hs2 := Lib.hid hs2
              clear hs2
              cases ha : fits ((k : Int) * 10 + (((s[pos]).toNat : Int) - 48)) with
              | false =>
                have hr := read_over Hd.out (n := (k : Int) * 10 + (((s[pos]).toNat : Int) - 48)) (by omega) (by rw [← Hs2.out]; omega) ha
                have Hr := Lib.hid hr
                clear hr
                refine (add_over _ _ _ ⟨by omega, by omega⟩ ⟨by omega, by omega⟩ ha).mono ?_
                rintro e w' ⟨rfl, rfl⟩
                clear ha
                go_wp2_with fail
                go_ret2
                exact ⟨ret_ii Hr.out.1.symm Hr.out.2.symm, below_iter hb1 hz1 _ _⟩
              | true =>
                refine (add_fit _ _ _ ⟨by omega, by omega⟩ ⟨by omega, by omega⟩ ha).mono ?_
                rintro e w' ⟨rfl, rfl⟩
                have Ha := Lib.hid ha
                clear ha
                go_wp2_with fail
                go_roundw
                case rel => exact ⟨pos + 1, rfl, by omega, by rw [Hs2.out], by rw [Hs2.out]; exact Ha.out⟩
                case measure => simp; omega
          · have hnx : ∀ ty, (Instr.next (.pointer (some ⟨w1.heap.size, 0, none⟩)) true ty).run Tryd.prog (w1.iter s pos) = _ := fun ty => run_next_end w1 s pos ty hlt
            rw [take_all s pos (by omega)] at hf
            have hr := read_yes Hd.out
            rw [show val (num s.data.toList : Nat) = (num s.data.toList : Nat) from by simp [val, hf], show err (num s.data.toList : Nat) = 0 from by simp [err, hf]] at hr
            rw [take_all s pos (by omega)]
            have Hr := Lib.hid hr
            clear hr hf
            go_wp2_with fail
            go_ret2
            exact ⟨ret_ii Hr.out.1.symm Hr.out.2.symm, below_iter hb1 hz1 _ _⟩
end Go.Proofs.YtgfhkfmankcheaaDoor
