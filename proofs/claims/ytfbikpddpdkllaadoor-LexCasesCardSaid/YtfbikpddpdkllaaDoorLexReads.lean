/-
  The contracts of calc.Read and of the reference's Read. Conditions: as each theorem says.
-/
import Derived.Test.YtfbikpddpdkllaaDoorNums
import Derived.Test.YtfbikpddpdkllaaDoorProg
import Derived.WalkKit
import Derived.WalkLawsBesides
import Derived.Test.YtfbikpddpdkllaaDoorLexNum
import Derived.Laws.RangeAny
import Derived.Laws.RangeString
import Derived.Lib.Hide
import Derived.Lib.Strings
import Derived.Test.YtfbikpddpdkllaaDoorDec
import Derived.Lib.IndexBytes
namespace Go.Proofs.YtfbikpddpdkllaaDoor
open Go.RowKit
set_option linter.unusedVariables false
set_option linter.unusedSimpArgs false

theorem told_any (n : Int) (ok : Bool) (w : World) :
    Calls Tryd.prog 65 #[.int .i64 n, .bool ok] w fun e w' => e = .returned (.tuple #[.int .i64 (toldV n ok), .int .i64 (toldE ok)]) ∧ w = w' := by
  cases ok
  · go_enter Tryd.func65, Tryd.ntmps65
    go_wp2
    go_ret2
    exact ⟨rfl, rfl⟩
  · go_enter Tryd.func65, Tryd.ntmps65
    go_wp2
    go_ret2
    exact ⟨rfl, rfl⟩


theorem add_any (a b : Int) (w : World) (ha : R a) (hb : R b) :
    Calls Tryd.prog 58 #[.int .i64 a, .int .i64 b] w fun e w' => e = .returned (.tuple #[.int .i64 (val (a + b)), .int .i64 (err (a + b))]) ∧ w = w' := by
  have H := add_ok a b ha hb
  rw [← told_val H, ← told_err H]
  clear H ha hb
  go_enter Tryd.func58, Tryd.ntmps58
  go_wp2_with (go_at_call 65; refine (told_any _ _ _).mono ?_; rintro e w' ⟨rfl, rfl⟩)
  go_ret2
  exact ⟨rfl, rfl⟩

theorem mul_0a (b : Int) (w : World) :
    Calls Tryd.prog 57 #[.int .i64 0, .int .i64 b] w fun e w' => e = .returned (.tuple #[.int .i64 0, .int .i64 0]) ∧ w = w' := by
  go_enter Tryd.func57, Tryd.ntmps57
  go_wp2
  go_ret2
  exact ⟨rfl, rfl⟩
theorem mul_0b (a : Int) (w : World) (h0 : (a == 0) = false) :
    Calls Tryd.prog 57 #[.int .i64 a, .int .i64 0] w fun e w' => e = .returned (.tuple #[.int .i64 0, .int .i64 0]) ∧ w = w' := by
  go_enter Tryd.func57, Tryd.ntmps57
  go_wp2
  go_ret2
  exact ⟨rfl, rfl⟩
theorem mul_ab (a b : Int) (w : World) (h0 : (a == 0) = false) (h1 : (b == 0) = false) :
    Calls Tryd.prog 57 #[.int .i64 a, .int .i64 b] w fun e w' => e = .returned (.tuple #[.int .i64 (toldV (wrap64 (a * b)) (mulB a b)), .int .i64 (toldE (mulB a b))]) ∧ w = w' := by
  have hB : mulB a b = ((wrap64 ((wrap64 (a * b)).tdiv b) == a) && !(a == -1 && b == -9223372036854775808) && !(b == -1 && a == -9223372036854775808)) := rfl
  have hb0 : ¬ b = 0 := beq_eq_false_iff_ne.1 h1
  cases p1 : (wrap64 ((wrap64 (a * b)).tdiv b) == a)
  · rw [show mulB a b = false from by rw [hB, p1]; rfl]
    clear hB
    go_enter Tryd.func57, Tryd.ntmps57
    go_wp2_with (go_at_call 65; refine (told_any _ _ _).mono ?_; rintro e w' ⟨rfl, rfl⟩)
    go_ret2
    exact ⟨rfl, rfl⟩
  · cases p2 : (a == -1)
    · cases p4 : (b == -1)
      · rw [show mulB a b = true from by rw [hB, p1, p2, p4]; rfl]
        clear hB
        go_enter Tryd.func57, Tryd.ntmps57
        go_wp2_with (go_at_call 65; refine (told_any _ _ _).mono ?_; rintro e w' ⟨rfl, rfl⟩)
        go_ret2
        exact ⟨rfl, rfl⟩
      · cases p5 : (a == -9223372036854775808)
        · rw [show mulB a b = true from by rw [hB, p1, p2, p4, p5]; rfl]
          clear hB
          go_enter Tryd.func57, Tryd.ntmps57
          go_wp2_with (go_at_call 65; refine (told_any _ _ _).mono ?_; rintro e w' ⟨rfl, rfl⟩)
          go_ret2
          exact ⟨rfl, rfl⟩
        · rw [show mulB a b = false from by rw [hB, p1, p2, p4, p5]; rfl]
          clear hB
          go_enter Tryd.func57, Tryd.ntmps57
          go_wp2_with (go_at_call 65; refine (told_any _ _ _).mono ?_; rintro e w' ⟨rfl, rfl⟩)
          go_ret2
          exact ⟨rfl, rfl⟩
    · cases p3 : (b == -9223372036854775808)
      · cases p4 : (b == -1)
        · rw [show mulB a b = true from by rw [hB, p1, p2, p3, p4]; rfl]
          clear hB
          go_enter Tryd.func57, Tryd.ntmps57
          go_wp2_with (go_at_call 65; refine (told_any _ _ _).mono ?_; rintro e w' ⟨rfl, rfl⟩)
          go_ret2
          exact ⟨rfl, rfl⟩
        · obtain rfl : a = -1 := by simpa using p2
          obtain rfl : b = -1 := by simpa using p4
          clear hB p1 p2 p3 p4 h0 h1 hb0
          go_enter Tryd.func57, Tryd.ntmps57
          go_wp2_with (go_at_call 65; refine (told_any _ _ _).mono ?_; rintro e w' ⟨rfl, rfl⟩)
          go_ret2
          exact ⟨by kernel_rfl, rfl⟩
      · obtain rfl : a = -1 := by simpa using p2
        obtain rfl : b = -9223372036854775808 := by simpa using p3
        exact absurd p1 (by decide +kernel)

theorem mul_any (a b : Int) (w : World) (ha : R a) (hb : R b) :
    Calls Tryd.prog 57 #[.int .i64 a, .int .i64 b] w fun e w' => e = .returned (.tuple #[.int .i64 (val (a * b)), .int .i64 (err (a * b))]) ∧ w = w' := by
  by_cases h0 : a = 0
  · subst h0
    rw [show val (0 * b) = 0 from by rw [Int.zero_mul]; rfl, show err (0 * b) = 0 from by rw [Int.zero_mul]; rfl]
    exact mul_0a b w
  · by_cases h1 : b = 0
    · subst h1
      rw [show val (a * 0) = 0 from by rw [Int.mul_zero]; rfl, show err (a * 0) = 0 from by rw [Int.mul_zero]; rfl]
      exact mul_0b a w (beq_eq_false_iff_ne.2 h0)
    · have H := mul_ok a b ha hb h1
      rw [← told_val H, ← told_err H]
      exact mul_ab a b w (beq_eq_false_iff_ne.2 h0) (beq_eq_false_iff_ne.2 h1)

theorem add_fit (a b : Int) (w : World) (ha : R a) (hb : R b) (h : fits (a + b) = true) :
    Calls Tryd.prog 58 #[.int .i64 a, .int .i64 b] w fun e w' => e = .returned (.tuple #[.int .i64 (a + b), .int .i64 0]) ∧ w = w' := by
  have := add_any a b w ha hb
  rwa [show val (a + b) = a + b from by simp [val, h], show err (a + b) = 0 from by simp [err, h]] at this
theorem add_over (a b : Int) (w : World) (ha : R a) (hb : R b) (h : fits (a + b) = false) :
    Calls Tryd.prog 58 #[.int .i64 a, .int .i64 b] w fun e w' => e = .returned (.tuple #[.int .i64 0, .int .i64 9]) ∧ w = w' := by
  have := add_any a b w ha hb
  rwa [show val (a + b) = 0 from by simp [val, h], show err (a + b) = 9 from by simp [err, h]] at this

theorem mul_fit (a b : Int) (w : World) (ha : R a) (hb : R b) (h : fits (a * b) = true) :
    Calls Tryd.prog 57 #[.int .i64 a, .int .i64 b] w fun e w' => e = .returned (.tuple #[.int .i64 (a * b), .int .i64 0]) ∧ w = w' := by
  have := mul_any a b w ha hb
  rwa [show val (a * b) = a * b from by simp [val, h], show err (a * b) = 0 from by simp [err, h]] at this
theorem mul_over (a b : Int) (w : World) (ha : R a) (hb : R b) (h : fits (a * b) = false) :
    Calls Tryd.prog 57 #[.int .i64 a, .int .i64 b] w fun e w' => e = .returned (.tuple #[.int .i64 0, .int .i64 9]) ∧ w = w' := by
  have := mul_any a b w ha hb
  rwa [show val (a * b) = 0 from by simp [val, h], show err (a * b) = 9 from by simp [err, h]] at this

theorem add_zero (a : Int) (w : World) (ha : R a) :
    Calls Tryd.prog 58 #[.int .i64 a, .int .i64 0] w fun e w' => e = .returned (.tuple #[.int .i64 a, .int .i64 0]) ∧ w = w' := by
  have := add_fit a 0 w ha ⟨by omega, by omega⟩ (by rw [Int.add_zero]; exact fits_of ha)
  rwa [Int.add_zero] at this
end Go.Proofs.YtfbikpddpdkllaaDoor
namespace Go.Proofs.YtfbikpddpdkllaaDoor
open Go.RowKit
set_option linter.unusedVariables false
set_option linter.unusedSimpArgs false

theorem below_iter {B : Nat} {w W : World} (h : Below B w W) (hB : B ≤ W.heap.size) (s : ByteArray) (pos : Nat) : Below B w (W.iter s pos) := h.alloc hB _
theorem decode_dig (s : ByteArray) (pos : Nat) (h : pos < s.size) (hd : (s[pos]).toNat ≤ 57) : Utf8.decode s pos = ((s[pos]).toNat, 1) := decode_ascii s pos h (by omega)

theorem ret_ii {k k' : IntKind} {a b a' b' : Int} (h : a = a') (h' : b = b') : Ending.returned (.tuple #[.int k a, .int k' b]) = .returned (.tuple #[.int k a', .int k' b']) := by rw [h, h']
/-- the rune at a byte that is no digit is none -/
theorem rune_not (s : ByteArray) (pos : Nat) (h : pos < s.size) (hd : ¬ (48 ≤ (s[pos]).toNat ∧ (s[pos]).toNat ≤ 57)) : (Utf8.decode s pos).1 < 48 ∨ (48 ≤ (Utf8.decode s pos).1 ∧ 57 < (Utf8.decode s pos).1) := by
  by_cases ha : (s[pos]).toNat < 128
  · rw [decode_ascii s pos h ha]
    show (s[pos]).toNat < 48 ∨ (48 ≤ (s[pos]).toNat ∧ 57 < (s[pos]).toNat)
    omega
  · have := (decode_high s pos h (by omega)).1
    omega
theorem fits_num {n : Nat} (h : fits (n : Int) = true) : (n : Int) ≤ 9223372036854775807 := ((fits_iff _).1 h).2

theorem read_any (s : ByteArray) (w : World) (hs : s.size ≤ 9223372036854775807) :
    Calls Tryd.prog 38 #[.string s] w fun e w' => e = .returned (.tuple #[.int .i64 (readV s.data.toList), .int .i64 (readE s.data.toList)]) ∧ Below w.heap.size w w' := by
  go_enter Tryd.func38, Tryd.ntmps38
  go_wp2_with fail
  go_loopw [6] (fun _ w' => ∃ pos, w' = w.iter s pos ∧ pos ≤ s.size ∧ (s.data.toList.take pos).all isDig = true) (fun _ w' => s.size - w'.iterPos w.heap.size)
  case atStart => exact ⟨0, rfl, by omega, by simp⟩
  case round =>
    obtain ⟨pos, rfl, hp, hall⟩ := hrel
    by_cases hlt : pos < s.size
    · by_cases hd : 48 ≤ (s[pos]).toNat ∧ (s[pos]).toNat ≤ 57
      · have hnx : ∀ ty, (Instr.next (.pointer (some ⟨w.heap.size, 0, none⟩)) true ty).run Tryd.prog (w.iter s pos) = _ := fun ty => run_next_ascii w s pos ty hlt (by omega)
        have d1 : 48 ≤ ((s[pos]).toNat : Int) := by omega
        have d2 : ((s[pos]).toNat : Int) ≤ 57 := by omega
        have hall2 : (s.data.toList.take (pos + 1)).all isDig = true := by
          rw [take_snoc s pos hlt, List.all_append, hall]
          simpa [isDig_iff] using hd
        clear hd hall
        go_wp2_with fail
        go_roundw
        case rel => exact ⟨pos + 1, rfl, by omega, hall2⟩
        case measure => simp; omega
      · have hno := read_not (digits_not s pos hlt hd)
        have hnx : ∀ ty, (Instr.next (.pointer (some ⟨w.heap.size, 0, none⟩)) true ty).run Tryd.prog (w.iter s pos) = _ := fun ty => run_next_any w s pos ty hlt
        have H := Lib.hid hno
        clear hno hall
        rcases rune_not s pos hlt hd with h1 | ⟨h1, h2⟩
        · clear hd
          go_wp2_with fail
          go_ret2
          exact ⟨ret_ii H.out.1.symm H.out.2.symm, below_iter (Below.refl _ _) (Nat.le_refl _) _ _⟩
        · clear hd
          go_wp2_with fail
          go_ret2
          exact ⟨ret_ii H.out.1.symm H.out.2.symm, below_iter (Below.refl _ _) (Nat.le_refl _) _ _⟩
    · have hnx : ∀ ty, (Instr.next (.pointer (some ⟨w.heap.size, 0, none⟩)) true ty).run Tryd.prog (w.iter s pos) = _ := fun ty => run_next_end w s pos ty hlt
      rw [take_all s pos (by omega)] at hall
      by_cases h0 : s.size = 0
      · have hd : digits s.data.toList = false := by
          have : s.data.toList = [] := List.eq_nil_of_length_eq_zero (by simpa using h0)
          rw [this]; rfl
        have H := Lib.hid (read_not hd)
        have he : s.toList.isEmpty = true := by
          rw [Lib.toList_data]
          have : s.data.toList = [] := List.eq_nil_of_length_eq_zero (by simpa using h0)
          rw [this]; rfl
        clear hall hd h0
        go_wp2_with fail
        go_ret2
        exact ⟨ret_ii H.out.1.symm H.out.2.symm, below_iter (Below.refl _ _) (Nat.le_refl _) _ _⟩
      · have hd := digits_yes hall (by omega)
        have he : s.toList.isEmpty = false := by
          rw [Lib.toList_data]
          have : s.data.toList ≠ [] := by
            intro e
            have h2 : s.data.toList.length = s.size := by simp
            rw [e] at h2
            simp at h2
            omega
          simpa using this
        have H := Lib.hid hall
        have Hd := Lib.hid hd
        obtain ⟨w1, hw1⟩ : ∃ w1, w1 = w.iter s pos := ⟨_, rfl⟩
        have hb1 : Below w.heap.size w w1 := by rw [hw1]; exact below_iter (Below.refl _ _) (Nat.le_refl _) _ _
        have hz1 : w.heap.size ≤ w1.heap.size := hb1.size
        clear hall hd h0 hlt hp
        go_wp2_with fail
        clear hnx he
        rw [← hw1]
        clear hw1
        go_loopw [4, 8, 9, 10] (fun n _ _ _ w' => ∃ pos, w' = w1.iter s pos ∧ pos ≤ s.size ∧ n = .int .i64 (num (s.data.toList.take pos) : Nat) ∧ fits (num (s.data.toList.take pos) : Nat) = true) (fun _ _ _ _ w' => s.size - w'.iterPos w1.heap.size)
        case atStart => exact ⟨0, rfl, by omega, by simp [num], by simp [num, fits]⟩
        case round =>
          obtain ⟨pos, rfl, hp, rfl, hf⟩ := hrel
          by_cases hlt : pos < s.size
          · have hd := all_at s H.out pos hlt
            have hnx : ∀ ty, (Instr.next (.pointer (some ⟨w1.heap.size, 0, none⟩)) true ty).run Tryd.prog (w1.iter s pos) = _ := fun ty => run_next_ascii w1 s pos ty hlt (by omega)
            have d1 : 48 ≤ ((s[pos]).toNat : Int) := by omega
            have d2 : ((s[pos]).toNat : Int) ≤ 57 := by omega
            have hs1 : num (s.data.toList.take (pos + 1)) = num (s.data.toList.take pos) * 10 + ((s[pos]).toNat - 48) := by rw [take_snoc s pos hlt, num_snoc]
            have hle := num_take_le s.data.toList (pos + 1)
            have hfn := fits_num hf
            have Hs := Lib.hid hs1
            have Hf := Lib.hid hf
            clear hf hs1 hd
            generalize hk : num (s.data.toList.take pos) = k at *
            clear hk
            go_wp2_with fail
            cases hm : fits ((k : Int) * 10) with
            | false =>
              have hr := read_over Hd.out (n := (k : Int) * 10) (by omega) (by rw [Hs.out] at hle; omega) hm
              have Hr := Lib.hid hr
              clear hr
              refine (mul_over _ _ _ ⟨by omega, by omega⟩ ⟨by omega, by omega⟩ hm).mono ?_
              rintro e w' ⟨rfl, rfl⟩
              clear hm
              go_wp2_with fail
              go_ret2
              exact ⟨ret_ii Hr.out.1.symm Hr.out.2.symm, below_iter hb1 hz1 _ _⟩
            | true =>
              refine (mul_fit _ _ _ ⟨by omega, by omega⟩ ⟨by omega, by omega⟩ hm).mono ?_
              rintro e w' ⟨rfl, rfl⟩
              have hm2 := (fits_iff _).1 hm
              clear hm
              obtain ⟨hm3, hm4⟩ := hm2
              go_wp2_with fail
              have hs2 : ((num (s.data.toList.take (pos + 1)) : Nat) : Int) = (k : Int) * 10 + (((s[pos]).toNat : Int) - 48) := by rw [Hs.out]; omega
              have Hs2 := Lib.hid hs2
              clear hs2
              cases ha : fits ((k : Int) * 10 + (((s[pos]).toNat : Int) - 48)) with
              | false =>
                have hr := read_over Hd.out (n := (k : Int) * 10 + (((s[pos]).toNat : Int) - 48)) (by omega) (by rw [← Hs2.out]; omega) ha
                have Hr := Lib.hid hr
                clear hr
                refine (add_over _ _ _ ⟨by omega, by omega⟩ ⟨by omega, by omega⟩ ha).mono ?_
                rintro e w' ⟨rfl, rfl⟩
                clear ha
                go_wp2_with fail
                go_ret2
                exact ⟨ret_ii Hr.out.1.symm Hr.out.2.symm, below_iter hb1 hz1 _ _⟩
              | true =>
                refine (add_fit _ _ _ ⟨by omega, by omega⟩ ⟨by omega, by omega⟩ ha).mono ?_
                rintro e w' ⟨rfl, rfl⟩
                have Ha := Lib.hid ha
                clear ha
                go_wp2_with fail
                go_roundw
                case rel => exact ⟨pos + 1, rfl, by omega, by rw [Hs2.out], by rw [Hs2.out]; exact Ha.out⟩
                case measure => simp; omega
          · have hnx : ∀ ty, (Instr.next (.pointer (some ⟨w1.heap.size, 0, none⟩)) true ty).run Tryd.prog (w1.iter s pos) = _ := fun ty => run_next_end w1 s pos ty hlt
            rw [take_all s pos (by omega)] at hf
            have hr := read_yes Hd.out
            rw [show val (num s.data.toList : Nat) = (num s.data.toList : Nat) from by simp [val, hf], show err (num s.data.toList : Nat) = 0 from by simp [err, hf]] at hr
            rw [take_all s pos (by omega)]
            have Hr := Lib.hid hr
            clear hr hf
            go_wp2_with fail
            go_ret2
            exact ⟨ret_ii Hr.out.1.symm Hr.out.2.symm, below_iter hb1 hz1 _ _⟩
end Go.Proofs.YtfbikpddpdkllaaDoor
namespace Go.Proofs.YtfbikpddpdkllaaDoor
open Go.RowKit
set_option linter.unusedVariables false
set_option linter.unusedSimpArgs false

theorem isEmpty_size (s : ByteArray) (h : s.size = 0) : s.data.toList = [] := List.eq_nil_of_length_eq_zero (by simpa using h)
/-- what is left of the text when the noughts ahead are struck -/
def Cut (s t : ByteArray) : Prop := num t.data.toList = num s.data.toList ∧ t.data.toList.all isDig = true ∧ 1 ≤ t.size ∧ t.size ≤ s.size
theorem Cut.next {s t : ByteArray} (h : Cut s t) (h1 : 1 < t.size) (h0 : (t[0]'(by omega)).toNat = 48) : Cut s (t.extract 1 t.size) := by
  obtain ⟨a, b, c, d⟩ := h
  have e : t.data.toList = (t[0]'(by omega)) :: (t.extract 1 t.size).data.toList := by
    rw [Lib.extract_to_end]
    have hl : t.data.toList.length = t.size := by simp
    cases hh : t.data.toList with
    | nil => rw [hh] at hl; simp at hl; omega
    | cons x r =>
      have : t[0]'(by omega) = x := by
        have : (t.data.toList)[0]? = some x := by rw [hh]; rfl
        rw [List.getElem?_eq_getElem (by rw [hl]; omega)] at this
        exact Option.some.inj this
      rw [this]; rfl
  have e0 : t[0]'(by omega) = 48 := UInt8.toNat_inj.1 h0
  rw [e0] at e
  refine ⟨?_, ?_, ?_, ?_⟩
  · rw [← a, e, num_nought]
  · rw [e] at b
    simp only [List.all_cons, Bool.and_eq_true] at b
    exact b.2
  · rw [ByteArray.size_extract]; omega
  · rw [ByteArray.size_extract]; omega

set_option maxHeartbeats 1000000 in
theorem ref_read (s : ByteArray) (w : World) (hs : s.size ≤ 9223372036854775807) :
    Calls Tryd.prog 21 #[.string s] w fun e w' => e = .returned (.tuple #[.int .i64 (readV s.data.toList), .int .i64 (readE s.data.toList)]) ∧ w = w' := by
  by_cases h0 : s.size = 0
  · have hd : digits s.data.toList = false := by rw [isEmpty_size s h0]; rfl
    have H := Lib.hid (read_not hd)
    have hz : ((s.size : Int) == 0) = true := by simp [h0]
    clear hd
    go_enter Tryd.func21, Tryd.ntmps21
    go_wp2_with fail
    go_ret2
    exact ⟨ret_ii H.out.1.symm H.out.2.symm, rfl⟩
  · have hz : ((s.size : Int) == 0) = false := beq_eq_false_iff_ne.2 (by omega)
    go_enter Tryd.func21, Tryd.ntmps21
    go_wp2_with fail
    go_loop [4] (fun i => ∃ k : Nat, k ≤ s.size ∧ i = .int .i64 k ∧ (s.data.toList.take k).all isDig = true) (fun i => s.size - (intOf i).toNat)
    case atStart => exact ⟨0, by omega, rfl, by simp⟩
    case round =>
      obtain ⟨k, hk, rfl, hall⟩ := hrel
      by_cases hlt : k < s.size
      · by_cases hd : 48 ≤ (s[k]).toNat ∧ (s[k]).toNat ≤ 57
        · have d1 : 48 ≤ ((s[k]).toNat : Int) := by omega
          have d2 : ((s[k]).toNat : Int) ≤ 57 := by omega
          have hall2 : (s.data.toList.take (k + 1)).all isDig = true := by
            rw [take_snoc s k hlt, List.all_append, hall]
            simpa [isDig_iff] using hd
          clear hd hall
          go_wp2_with fail
          go_round
          case rel => exact ⟨k + 1, by omega, by go_num, hall2⟩
          case measure => simp [intOf]; omega
        · have H := Lib.hid (read_not (digits_not s k hlt hd))
          have hd2 : ((s[k]).toNat : Int) < 48 ∨ (48 ≤ ((s[k]).toNat : Int) ∧ 57 < ((s[k]).toNat : Int)) := by omega
          clear hd hall
          rcases hd2 with h1 | ⟨h1, h2⟩
          · go_wp2_with fail
            go_ret2
            exact ⟨ret_ii H.out.1.symm H.out.2.symm, rfl⟩
          · go_wp2_with fail
            go_ret2
            exact ⟨ret_ii H.out.1.symm H.out.2.symm, rfl⟩
      · rw [take_all s k (by omega)] at hall
        have hd := digits_yes hall (by omega)
        have hr := read_yes hd
        have HR := Lib.hid hr
        have HA := Lib.hid hall
        have hc : Cut s s := ⟨rfl, hall, by omega, by omega⟩
        have HC := Lib.hid hc
        clear hall hd hr hc
        go_wp2_with fail
        clear hlt hk
        go_loop [0] (fun v => ∃ t : ByteArray, v = .string t ∧ Hid (Cut s t)) (fun v => match v with | .string t => t.size | _ => 0)
        case atStart => exact ⟨s, rfl, HC⟩
        case round =>
          obtain ⟨t, rfl, HCut⟩ := hrel
          have hts : 1 ≤ t.size ∧ t.size ≤ s.size := ⟨HCut.out.2.2.1, HCut.out.2.2.2⟩
          obtain ⟨t1, t2⟩ := hts
          have hover : ∀ h : 9223372036854775807 < num t.data.toList, readV s.data.toList = 0 ∧ readE s.data.toList = 9 := fun h => by
            have hf : fits (num t.data.toList : Nat) = false := by
              cases hf : fits (num t.data.toList : Nat) with
              | false => rfl
              | true => exact absurd ((fits_iff _).1 hf).2 (by omega)
            rw [HCut.out.1] at hf
            exact ⟨by rw [HR.out.1]; simp [val, hf], by rw [HR.out.2]; simp [err, hf]⟩
          have HO := Lib.hid hover
          clear hover
          by_cases h1 : 1 < t.size
          · have hc0 : (t[0]'(by omega)).toNat = 48 ∨ 49 ≤ (t[0]'(by omega)).toNat := by
              have := all_at t HCut.out.2.1 0 (by omega)
              omega
            rcases hc0 with hc0 | hc0
            · have hn := Lib.hid (HCut.out.next h1 hc0)
              have hb : (((t[0]'(by omega)).toNat : Int) == 48) = true := by simp [hc0]
              have hsz : (t.extract 1 t.size).size = t.size - 1 := by rw [ByteArray.size_extract]; omega
              have HS := Lib.hid hsz
              clear hc0 hsz
              go_wp2_with fail
              go_round
              case rel => exact ⟨_, rfl, hn⟩
              case measure => show (t.extract 1 t.size).size < t.size; rw [HS.out]; omega
            · have hb : (((t[0]'(by omega)).toNat : Int) == 48) = false := beq_eq_false_iff_ne.2 (by omega)
              by_cases h19 : 19 < t.size
              · have ho : 9223372036854775807 < num t.data.toList := by
                  have hl : t.data.toList.length = t.size := by simp
                  cases hh : t.data.toList with
                  | nil => rw [hh] at hl; simp at hl; omega
                  | cons x r =>
                    have : t[0]'(by omega) = x := by
                      have : (t.data.toList)[0]? = some x := by rw [hh]; rfl
                      rw [List.getElem?_eq_getElem (by rw [hl]; omega)] at this
                      exact Option.some.inj this
                    rw [this] at hc0
                    rw [hh] at hl
                    exact over_len x r hc0 (by simp at hl; omega)
                have H := Lib.hid (HO.out ho)
                have g19 : ((19 : Int) < t.size) := by omega
                clear ho hc0
                go_wp2_with fail
                go_ret2
                exact ⟨ret_ii H.out.1.symm H.out.2.symm, rfl⟩
              · clear hc0
                by_cases e19 : t.size = 19
                · have hov := over_most t.data.toList HCut.out.2.1 (by simpa using e19)
                  have e20 : ((t.size : Int) == 19) = true := by simp [e19]
                  have hls := less_num t.data.toList most HCut.out.2.1 most_dig (by rw [show most.length = 19 from rfl]; simpa using e19)
                  have heq := eq_num t.data.toList most HCut.out.2.1 most_dig (by rw [show most.length = 19 from rfl]; simpa using e19)
                  rw [most_num] at hls heq
                  by_cases ho : 9223372036854775807 < num t.data.toList
                  · have b1 : Op.bytesLess t.toList [57, 50, 50, 51, 51, 55, 50, 48, 51, 54, 56, 53, 52, 55, 55, 53, 56, 48, 55] = false := by rw [Lib.toList_data]; exact hls.trans (decide_eq_false (by omega))
                    have b2 : (t.toList == [57, 50, 50, 51, 51, 55, 50, 48, 51, 54, 56, 53, 52, 55, 55, 53, 56, 48, 55]) = false := by rw [Lib.toList_data]; exact beq_eq_false_iff_ne.2 (fun e => by have := heq.1 e; omega)
                    have H := Lib.hid (HO.out ho)
                    clear ho hov hls heq e19
                    go_wp2_with fail
                    go_ret2
                    exact ⟨ret_ii H.out.1.symm H.out.2.symm, rfl⟩
                  · have HB := Lib.hid (show num t.data.toList ≤ 9223372036854775807 from by omega)
                    by_cases hl : num t.data.toList < 9223372036854775807
                    · have b1 : Op.bytesLess t.toList [57, 50, 50, 51, 51, 55, 50, 48, 51, 54, 56, 53, 52, 55, 55, 53, 56, 48, 55] = true := by rw [Lib.toList_data]; exact hls.trans (decide_eq_true hl)
                      clear ho hov hls heq e19 hl
                      go_wp2_with fail
                      go_loop [5, 6] (fun n i => ∃ k : Nat, k ≤ t.size ∧ i = .int .i64 k ∧ n = .int .i64 (num (t.data.toList.take k) : Nat)) (fun _ i => t.size - (intOf i).toNat)
                      case atStart => exact ⟨0, by omega, rfl, rfl⟩
                      case round =>
                        obtain ⟨k, hk, rfl, rfl⟩ := hrel
                        by_cases hlt : k < t.size
                        · have hd := all_at t HCut.out.2.1 k hlt
                          have d1 : 48 ≤ ((t[k]).toNat : Int) := by omega
                          have d2 : ((t[k]).toNat : Int) ≤ 57 := by omega
                          have hs1 : num (t.data.toList.take (k + 1)) = num (t.data.toList.take k) * 10 + ((t[k]).toNat - 48) := by rw [take_snoc t k hlt, num_snoc]
                          have hle := num_take_le t.data.toList (k + 1)
                          have hb := HB.out
                          have Hs := Lib.hid hs1
                          clear hd hs1
                          rw [Hs.out] at hle
                          generalize hn : num (t.data.toList.take k) = m at *
                          have hm : (m : Int) * 10 + ((t[k]).toNat - 48) ≤ 9223372036854775807 := by omega
                          have hm2 : 10 * (m : Int) + ((t[k]).toNat - 48) ≤ 9223372036854775807 := by omega
                          have hm3 : 10 * (m : Int) ≤ 9223372036854775807 := by omega
                          clear hn hle hb
                          go_wp2_with fail
                          go_round
                          case rel => exact ⟨k + 1, by omega, by go_num, by rw [Hs.out]; go_num⟩
                          case measure => simp [intOf]; omega
                        · rw [take_all t k (by omega)]
                          have hf : fits (num t.data.toList : Nat) = true := (fits_iff _).2 ⟨by omega, by have := HB.out; omega⟩
                          have hr : readV s.data.toList = (num t.data.toList : Nat) ∧ readE s.data.toList = 0 := by
                            rw [HCut.out.1] at hf ⊢
                            exact ⟨by rw [HR.out.1]; simp [val, hf], by rw [HR.out.2]; simp [err, hf]⟩
                          have HF := Lib.hid hr
                          clear hf hr
                          go_wp2_with fail
                          go_ret2
                          exact ⟨ret_ii HF.out.1.symm HF.out.2.symm, rfl⟩
                    · have b1 : Op.bytesLess t.toList [57, 50, 50, 51, 51, 55, 50, 48, 51, 54, 56, 53, 52, 55, 55, 53, 56, 48, 55] = false := by rw [Lib.toList_data]; exact hls.trans (decide_eq_false hl)
                      have b2 : (t.toList == [57, 50, 50, 51, 51, 55, 50, 48, 51, 54, 56, 53, 52, 55, 55, 53, 56, 48, 55]) = true := by rw [Lib.toList_data]; exact beq_iff_eq.2 (heq.2 (by omega))
                      clear ho hov hls heq e19 hl
                      go_wp2_with fail
                      go_loop [5, 6] (fun n i => ∃ k : Nat, k ≤ t.size ∧ i = .int .i64 k ∧ n = .int .i64 (num (t.data.toList.take k) : Nat)) (fun _ i => t.size - (intOf i).toNat)
                      case atStart => exact ⟨0, by omega, rfl, rfl⟩
                      case round =>
                        obtain ⟨k, hk, rfl, rfl⟩ := hrel
                        by_cases hlt : k < t.size
                        · have hd := all_at t HCut.out.2.1 k hlt
                          have d1 : 48 ≤ ((t[k]).toNat : Int) := by omega
                          have d2 : ((t[k]).toNat : Int) ≤ 57 := by omega
                          have hs1 : num (t.data.toList.take (k + 1)) = num (t.data.toList.take k) * 10 + ((t[k]).toNat - 48) := by rw [take_snoc t k hlt, num_snoc]
                          have hle := num_take_le t.data.toList (k + 1)
                          have hb := HB.out
                          have Hs := Lib.hid hs1
                          clear hd hs1
                          rw [Hs.out] at hle
                          generalize hn : num (t.data.toList.take k) = m at *
                          have hm : (m : Int) * 10 + ((t[k]).toNat - 48) ≤ 9223372036854775807 := by omega
                          have hm2 : 10 * (m : Int) + ((t[k]).toNat - 48) ≤ 9223372036854775807 := by omega
                          have hm3 : 10 * (m : Int) ≤ 9223372036854775807 := by omega
                          clear hn hle hb
                          go_wp2_with fail
                          go_round
                          case rel => exact ⟨k + 1, by omega, by go_num, by rw [Hs.out]; go_num⟩
                          case measure => simp [intOf]; omega
                        · rw [take_all t k (by omega)]
                          have hf : fits (num t.data.toList : Nat) = true := (fits_iff _).2 ⟨by omega, by have := HB.out; omega⟩
                          have hr : readV s.data.toList = (num t.data.toList : Nat) ∧ readE s.data.toList = 0 := by
                            rw [HCut.out.1] at hf ⊢
                            exact ⟨by rw [HR.out.1]; simp [val, hf], by rw [HR.out.2]; simp [err, hf]⟩
                          have HF := Lib.hid hr
                          clear hf hr
                          go_wp2_with fail
                          go_ret2
                          exact ⟨ret_ii HF.out.1.symm HF.out.2.symm, rfl⟩
                · have HB := Lib.hid (under_len t.data.toList HCut.out.2.1 (by have h9 : t.data.toList.length = t.size := (by simp); omega))
                  have e20 : ((t.size : Int) == 19) = false := beq_eq_false_iff_ne.2 (by omega)
                  have e21 : ((t.size : Int) < 19) := by omega
                  clear e19
                  go_wp2_with fail
                  go_loop [5, 6] (fun n i => ∃ k : Nat, k ≤ t.size ∧ i = .int .i64 k ∧ n = .int .i64 (num (t.data.toList.take k) : Nat)) (fun _ i => t.size - (intOf i).toNat)
                  case atStart => exact ⟨0, by omega, rfl, rfl⟩
                  case round =>
                    obtain ⟨k, hk, rfl, rfl⟩ := hrel
                    by_cases hlt : k < t.size
                    · have hd := all_at t HCut.out.2.1 k hlt
                      have d1 : 48 ≤ ((t[k]).toNat : Int) := by omega
                      have d2 : ((t[k]).toNat : Int) ≤ 57 := by omega
                      have hs1 : num (t.data.toList.take (k + 1)) = num (t.data.toList.take k) * 10 + ((t[k]).toNat - 48) := by rw [take_snoc t k hlt, num_snoc]
                      have hle := num_take_le t.data.toList (k + 1)
                      have hb := HB.out
                      have Hs := Lib.hid hs1
                      clear hd hs1
                      rw [Hs.out] at hle
                      generalize hn : num (t.data.toList.take k) = m at *
                      have hm : (m : Int) * 10 + ((t[k]).toNat - 48) ≤ 9223372036854775807 := by omega
                      have hm2 : 10 * (m : Int) + ((t[k]).toNat - 48) ≤ 9223372036854775807 := by omega
                      have hm3 : 10 * (m : Int) ≤ 9223372036854775807 := by omega
                      clear hn hle hb
                      go_wp2_with fail
                      go_round
                      case rel => exact ⟨k + 1, by omega, by go_num, by rw [Hs.out]; go_num⟩
                      case measure => simp [intOf]; omega
                    · rw [take_all t k (by omega)]
                      have hf : fits (num t.data.toList : Nat) = true := (fits_iff _).2 ⟨by omega, by have := HB.out; omega⟩
                      have hr : readV s.data.toList = (num t.data.toList : Nat) ∧ readE s.data.toList = 0 := by
                        rw [HCut.out.1] at hf ⊢
                        exact ⟨by rw [HR.out.1]; simp [val, hf], by rw [HR.out.2]; simp [err, hf]⟩
                      have HF := Lib.hid hr
                      clear hf hr
                      go_wp2_with fail
                      go_ret2
                      exact ⟨ret_ii HF.out.1.symm HF.out.2.symm, rfl⟩
          · have HB := Lib.hid (under_len t.data.toList HCut.out.2.1 (by have h9 : t.data.toList.length = t.size := (by simp); omega))
            have e20 : ((t.size : Int) == 19) = false := beq_eq_false_iff_ne.2 (by omega)
            have e22 : ¬ ((19 : Int) < t.size) := by omega
            go_wp2_with fail
            go_loop [5, 6] (fun n i => ∃ k : Nat, k ≤ t.size ∧ i = .int .i64 k ∧ n = .int .i64 (num (t.data.toList.take k) : Nat)) (fun _ i => t.size - (intOf i).toNat)
            case atStart => exact ⟨0, by omega, rfl, rfl⟩
            case round =>
              obtain ⟨k, hk, rfl, rfl⟩ := hrel
              by_cases hlt : k < t.size
              · have hd := all_at t HCut.out.2.1 k hlt
                have d1 : 48 ≤ ((t[k]).toNat : Int) := by omega
                have d2 : ((t[k]).toNat : Int) ≤ 57 := by omega
                have hs1 : num (t.data.toList.take (k + 1)) = num (t.data.toList.take k) * 10 + ((t[k]).toNat - 48) := by rw [take_snoc t k hlt, num_snoc]
                have hle := num_take_le t.data.toList (k + 1)
                have hb := HB.out
                have Hs := Lib.hid hs1
                clear hd hs1
                rw [Hs.out] at hle
                generalize hn : num (t.data.toList.take k) = m at *
                have hm : (m : Int) * 10 + ((t[k]).toNat - 48) ≤ 9223372036854775807 := by omega
                have hm2 : 10 * (m : Int) + ((t[k]).toNat - 48) ≤ 9223372036854775807 := by omega
                have hm3 : 10 * (m : Int) ≤ 9223372036854775807 := by omega
                clear hn hle hb
                go_wp2_with fail
                go_round
                case rel => exact ⟨k + 1, by omega, by go_num, by rw [Hs.out]; go_num⟩
                case measure => simp [intOf]; omega
              · rw [take_all t k (by omega)]
                have hf : fits (num t.data.toList : Nat) = true := (fits_iff _).2 ⟨by omega, by have := HB.out; omega⟩
                have hr : readV s.data.toList = (num t.data.toList : Nat) ∧ readE s.data.toList = 0 := by
                  rw [HCut.out.1] at hf ⊢
                  exact ⟨by rw [HR.out.1]; simp [val, hf], by rw [HR.out.2]; simp [err, hf]⟩
                have HF := Lib.hid hr
                clear hf hr
                go_wp2_with fail
                go_ret2
                exact ⟨ret_ii HF.out.1.symm HF.out.2.symm, rfl⟩
end Go.Proofs.YtfbikpddpdkllaaDoor
