/-
  The contract of lex.while: how many bytes in front are of a sort. Conditions: the text is no longer than 2^63 - 1.
-/
import Derived.Test.YtfbikpddpdkllaaDoorLexPlain
import Derived.Test.YtfbikpddpdkllaaDoorLexLitAM
import Derived.Laws.RangeAny
import Derived.Laws.RangeString
import Derived.Outline
namespace Go.Proofs.YtfbikpddpdkllaaDoor
open Go.RowKit
set_option linter.unusedVariables false
set_option linter.unusedSimpArgs false

theorem below_iter {B : Nat} {w W : World} (h : Below B w W) (hB : B ≤ W.heap.size) (s : ByteArray) (pos : Nat) : Below B w (W.iter s pos) := h.alloc hB _
/-- the tests of a rune -/
def digR (r : Int) : Bool := decide (48 ≤ r) && decide (r ≤ 57)
def letR (r : Int) : Bool := (decide (97 ≤ r) && decide (r ≤ 122)) || (decide (65 ≤ r) && decide (r ≤ 90)) || (r == 95)
def wdR (r : Int) : Bool := letR r || digR r
theorem digit_any (r : Int) (w : World) : Calls Tryd.prog 35 #[.int .i32 r] w fun e w' => e = .returned (.bool (digR r)) ∧ w = w' := by
  unfold digR
  by_cases h : 48 ≤ r
  · have h1 : decide (48 ≤ r) = true := decide_eq_true h
    rw [h1, Bool.true_and]
    clear h
    go_enter Tryd.func35, Tryd.ntmps35
    go_wp2
    go_ret
    exact ⟨rfl, rfl⟩
  · have h1 : decide (48 ≤ r) = false := decide_eq_false h
    rw [h1, Bool.false_and]
    clear h
    go_enter Tryd.func35, Tryd.ntmps35
    go_wp2
    go_ret
    exact ⟨rfl, rfl⟩
theorem letter_any (r : Int) (w : World) : Calls Tryd.prog 32 #[.int .i32 r] w fun e w' => e = .returned (.bool (letR r)) ∧ w = w' := by
  unfold letR
  cases h1 : decide (97 ≤ r) with
  | true =>
    cases h2 : decide (r ≤ 122) with
    | true =>
      go_enter Tryd.func32, Tryd.ntmps32
      go_wp2
      go_ret
      exact ⟨rfl, rfl⟩
    | false =>
      have h4 : decide (r ≤ 90) = false := by have := of_decide_eq_false h2; exact decide_eq_false (by omega)
      have h3 : decide (65 ≤ r) = true := by have := of_decide_eq_true h1; exact decide_eq_true (by omega)
      rw [h3, h4]
      go_enter Tryd.func32, Tryd.ntmps32
      go_wp2
      go_ret
      exact ⟨rfl, rfl⟩
  | false =>
    cases h3 : decide (65 ≤ r) with
    | true =>
      cases h4 : decide (r ≤ 90) with
      | true =>
        go_enter Tryd.func32, Tryd.ntmps32
        go_wp2
        go_ret
        exact ⟨rfl, rfl⟩
      | false =>
        go_enter Tryd.func32, Tryd.ntmps32
        go_wp2
        go_ret
        exact ⟨rfl, rfl⟩
    | false =>
      go_enter Tryd.func32, Tryd.ntmps32
      go_wp2
      go_ret
      exact ⟨rfl, rfl⟩
theorem letter_is {r : Int} {b : Bool} (h : letR r = b) (w : World) : Calls Tryd.prog 32 #[.int .i32 r] w fun e w' => e = .returned (.bool b) ∧ w = w' := h ▸ letter_any r w
theorem digit_is {r : Int} {b : Bool} (h : digR r = b) (w : World) : Calls Tryd.prog 35 #[.int .i32 r] w fun e w' => e = .returned (.bool b) ∧ w = w' := h ▸ digit_any r w
theorem word_any (r : Int) (w : World) : Calls Tryd.prog 34 #[.int .i32 r] w fun e w' => e = .returned (.bool (wdR r)) ∧ w = w' := by
  unfold wdR
  cases h : letR r with
  | true =>
    have H := Lib.hid h
    clear h
    go_enter Tryd.func34, Tryd.ntmps34
    go_wp2_with fail
    refine (letter_is H.out _).mono ?_
    rintro e w' ⟨rfl, rfl⟩
    go_wp2_with fail
    go_ret
    exact ⟨rfl, rfl⟩
  | false =>
    have H := Lib.hid h
    clear h
    rw [Bool.false_or]
    generalize hd : digR r = d
    have HD := Lib.hid hd
    clear hd
    go_enter Tryd.func34, Tryd.ntmps34
    go_wp2_with fail
    refine (letter_is H.out _).mono ?_
    rintro e w' ⟨rfl, rfl⟩
    go_wp2_with fail
    refine (digit_is HD.out _).mono ?_
    rintro e w' ⟨rfl, rfl⟩
    go_wp2_with fail
    go_ret
    exact ⟨rfl, rfl⟩
theorem word_is {r : Int} {b : Bool} (h : wdR r = b) (w : World) : Calls Tryd.prog 34 #[.int .i32 r] w fun e w' => e = .returned (.bool b) ∧ w = w' := h ▸ word_any r w

/-! ### a byte and the rune at it -/
theorem digR_byte (c : UInt8) : digR (c.toNat : Int) = isDig c := by
  unfold digR isDig
  rw [Bool.eq_iff_iff]
  simp only [Bool.and_eq_true, decide_eq_true_eq]
  omega
theorem letR_byte (c : UInt8) : letR (c.toNat : Int) = isLet c := by
  unfold letR isLet
  rw [Bool.eq_iff_iff]
  simp
  omega
theorem wdR_byte (c : UInt8) : wdR (c.toNat : Int) = isWd c := by unfold wdR isWd; rw [digR_byte, letR_byte]
theorem wdR_high {r : Int} (h : 128 ≤ r) : wdR r = false ∧ digR r = false ∧ letR r = false := by
  unfold wdR digR letR
  simp
  omega
theorem wd_high {c : UInt8} (h : 128 ≤ c.toNat) : isWd c = false ∧ isDig c = false ∧ isLet c = false := by
  have := wdR_high (r := (c.toNat : Int)) (by omega)
  rwa [wdR_byte, digR_byte, letR_byte] at this
theorem rune_dig (s : ByteArray) (pos : Nat) (h : pos < s.size) : digR ((Utf8.decode s pos).1 : Int) = isDig s[pos] := by
  by_cases ha : (s[pos]).toNat < 128
  · rw [decode_ascii s pos h ha]; exact digR_byte _
  · have := (decode_high s pos h (by omega)).1
    rw [(wdR_high (by omega)).2.1, (wd_high (by omega)).2.1]
theorem rune_let (s : ByteArray) (pos : Nat) (h : pos < s.size) : letR ((Utf8.decode s pos).1 : Int) = isLet s[pos] := by
  by_cases ha : (s[pos]).toNat < 128
  · rw [decode_ascii s pos h ha]; exact letR_byte _
  · have := (decode_high s pos h (by omega)).1
    rw [(wdR_high (by omega)).2.2, (wd_high (by omega)).2.2]
theorem rune_wd (s : ByteArray) (pos : Nat) (h : pos < s.size) : wdR ((Utf8.decode s pos).1 : Int) = isWd s[pos] := by
  unfold wdR isWd
  rw [rune_dig s pos h, rune_let s pos h]
theorem wd_low {c : UInt8} (h : isWd c = true) : c.toNat < 128 := by
  rcases Nat.lt_or_ge c.toNat 128 with h1 | h1
  · exact h1
  · rw [(wd_high h1).1] at h; cases h
theorem dig_low {c : UInt8} (h : isDig c = true) : c.toNat < 128 := wd_low (by unfold isWd; rw [h, Bool.or_true])
theorem runLen_at (p : UInt8 → Bool) (s : ByteArray) (pos : Nat) (hp : pos < s.size) (h : (s.data.toList.take pos).all p = true) (hn : p s[pos] = false) : runLen p s.data.toList = pos := by
  have e : s.data.toList = s.data.toList.take pos ++ s[pos] :: s.data.toList.drop (pos + 1) := by
    have : s.data.toList[pos]'(by simpa using hp) = s[pos] := rfl
    rw [← this, ← List.drop_eq_getElem_cons, List.take_append_drop]
  unfold runLen
  rw [e, List.takeWhile_append_of_pos (fun a ha => List.all_eq_true.1 h a ha), List.takeWhile_cons_of_neg (by simp [hn]), List.append_nil, List.length_take]
  simp
  omega
theorem runLen_full (p : UInt8 → Bool) : ∀ l : List UInt8, l.all p = true → runLen p l = l.length
  | [], _ => rfl
  | c :: r, h => by
    simp only [List.all_cons, Bool.and_eq_true] at h
    rw [runLen_cons, if_pos h.1, runLen_full p r h.2]; rfl
theorem runLen_all (p : UInt8 → Bool) (s : ByteArray) (h : s.data.toList.all p = true) : runLen p s.data.toList = s.size := by
  rw [runLen_full p _ h]
  simp
theorem ret_int2 {k : IntKind} {a b : Int} (h : a = b) : Ending.returned (.int k a) = .returned (.int k b) := by rw [h]

theorem while_dig (s : ByteArray) (w : World) (hs : s.size ≤ 9223372036854775807) :
    Calls Tryd.prog 33 #[.string s, .func (.func 35) #[] #[]] w fun e w' => e = .returned (.int .i64 (runLen isDig s.data.toList : Nat)) ∧ Below w.heap.size w w' := by
  go_enter Tryd.func33, Tryd.ntmps33
  go_wp2_with fail
  go_loopw [5, 6] (fun _ _ w' => ∃ pos, w' = w.iter s pos ∧ pos ≤ s.size ∧ Hid ((s.data.toList.take pos).all isDig = true)) (fun _ _ w' => s.size - w'.iterPos w.heap.size)
  case atStart => exact ⟨0, rfl, by omega, Lib.hid (by simp)⟩
  case round =>
    obtain ⟨pos, rfl, hp, hall⟩ := hrel
    by_cases hlt : pos < s.size
    · cases hd : isDig s[pos] with
      | true =>
        have hnx : ∀ ty, (Instr.next (.pointer (some ⟨w.heap.size, 0, none⟩)) true ty).run Tryd.prog (w.iter s pos) = _ := fun ty => run_next_ascii w s pos ty hlt (dig_low hd)
        have hall2 := Lib.hid (show (s.data.toList.take (pos + 1)).all isDig = true by rw [take_snoc s pos hlt, List.all_append, hall.out]; simp [hd])
        have HD := Lib.hid (show digR ((s[pos]).toNat : Int) = true from by rw [digR_byte]; exact hd)
        clear hd hall
        go_wp2_with fail
        refine (digit_is HD.out _).mono ?_
        rintro e w' ⟨rfl, rfl⟩
        go_wp2_with fail
        go_roundw
        case rel => exact ⟨pos + 1, rfl, by omega, hall2⟩
        case measure => simp; omega
      | false =>
        have hnx : ∀ ty, (Instr.next (.pointer (some ⟨w.heap.size, 0, none⟩)) true ty).run Tryd.prog (w.iter s pos) = _ := fun ty => run_next_any w s pos ty hlt
        have HR := Lib.hid (runLen_at isDig s pos hlt hall.out hd)
        have HD := Lib.hid ((rune_dig s pos hlt).trans hd)
        clear hd hall
        go_wp2_with fail
        refine (digit_is HD.out _).mono ?_
        rintro e w' ⟨rfl, rfl⟩
        go_wp2_with fail
        go_ret
        exact ⟨ret_int2 (by rw [HR.out]), below_iter (Below.refl _ _) (Nat.le_refl _) _ _⟩
    · have hnx : ∀ ty, (Instr.next (.pointer (some ⟨w.heap.size, 0, none⟩)) true ty).run Tryd.prog (w.iter s pos) = _ := fun ty => run_next_end w s pos ty hlt
      have HR := Lib.hid (runLen_all isDig s (by have := hall.out; rwa [take_all s pos (by omega)] at this))
      clear hall
      go_wp2_with fail
      go_ret
      exact ⟨ret_int2 (by rw [HR.out]), below_iter (Below.refl _ _) (Nat.le_refl _) _ _⟩

theorem while_word (s : ByteArray) (w : World) (hs : s.size ≤ 9223372036854775807) :
    Calls Tryd.prog 33 #[.string s, .func (.func 34) #[] #[]] w fun e w' => e = .returned (.int .i64 (runLen isWd s.data.toList : Nat)) ∧ Below w.heap.size w w' := by
  go_enter Tryd.func33, Tryd.ntmps33
  go_wp2_with fail
  go_loopw [5, 6] (fun _ _ w' => ∃ pos, w' = w.iter s pos ∧ pos ≤ s.size ∧ Hid ((s.data.toList.take pos).all isWd = true)) (fun _ _ w' => s.size - w'.iterPos w.heap.size)
  case atStart => exact ⟨0, rfl, by omega, Lib.hid (by simp)⟩
  case round =>
    obtain ⟨pos, rfl, hp, hall⟩ := hrel
    by_cases hlt : pos < s.size
    · cases hd : isWd s[pos] with
      | true =>
        have hnx : ∀ ty, (Instr.next (.pointer (some ⟨w.heap.size, 0, none⟩)) true ty).run Tryd.prog (w.iter s pos) = _ := fun ty => run_next_ascii w s pos ty hlt (wd_low hd)
        have hall2 := Lib.hid (show (s.data.toList.take (pos + 1)).all isWd = true by rw [take_snoc s pos hlt, List.all_append, hall.out]; simp [hd])
        have HD := Lib.hid (show wdR ((s[pos]).toNat : Int) = true from by rw [wdR_byte]; exact hd)
        clear hd hall
        go_wp2_with fail
        refine (word_is HD.out _).mono ?_
        rintro e w' ⟨rfl, rfl⟩
        go_wp2_with fail
        go_roundw
        case rel => exact ⟨pos + 1, rfl, by omega, hall2⟩
        case measure => simp; omega
      | false =>
        have hnx : ∀ ty, (Instr.next (.pointer (some ⟨w.heap.size, 0, none⟩)) true ty).run Tryd.prog (w.iter s pos) = _ := fun ty => run_next_any w s pos ty hlt
        have HR := Lib.hid (runLen_at isWd s pos hlt hall.out hd)
        have HD := Lib.hid ((rune_wd s pos hlt).trans hd)
        clear hd hall
        go_wp2_with fail
        refine (word_is HD.out _).mono ?_
        rintro e w' ⟨rfl, rfl⟩
        go_wp2_with fail
        go_ret
        exact ⟨ret_int2 (by rw [HR.out]), below_iter (Below.refl _ _) (Nat.le_refl _) _ _⟩
    · have hnx : ∀ ty, (Instr.next (.pointer (some ⟨w.heap.size, 0, none⟩)) true ty).run Tryd.prog (w.iter s pos) = _ := fun ty => run_next_end w s pos ty hlt
      have HR := Lib.hid (runLen_all isWd s (by have := hall.out; rwa [take_all s pos (by omega)] at this))
      clear hall
      go_wp2_with fail
      go_ret
      exact ⟨ret_int2 (by rw [HR.out]), below_iter (Below.refl _ _) (Nat.le_refl _) _ _⟩
end Go.Proofs.YtfbikpddpdkllaaDoor
