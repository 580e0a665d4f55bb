/-
  Plain law: valid UTF-8 without a nought, as the reference looks at it and as package cell asks it. Conditions: as each theorem says.
-/
import Derived.Test.YtfbikpddpdkllaaDoorLxF43
import Derived.Lib.TrimUEq
import Derived.Lib.ValidU
import Derived.Test.YtfbikpddpdkllaaDoorLxF22
import Derived.Test.YtfbikpddpdkllaaDoorLxF23
import Derived.Lib.IndexAny
namespace Go.Proofs.YtfbikpddpdkllaaDoor
open Go.RowKit Go.Proofs.YtfbikpddpdkllaaDoor.Lx Go.Proofs.YtfbikpddpdkllaaDoorW.PrintWords
set_option linter.unusedVariables false
set_option linter.unusedSimpArgs false

/-- the byte at i, 0 beyond the end -/
def at0 (s : ByteArray) (i : Nat) : Nat := (s.data.toList.getD i 0).toNat
theorem at0_lt (s : ByteArray) (i : Nat) : at0 s i < 256 := UInt8.toNat_lt _
theorem bt_nat (s : ByteArray) (i : Nat) (h : i < s.size) : bt s (i : Int) = (at0 s i : Int) := by
  unfold bt at0
  rw [dif_pos (by simpa using h)]
  have : s.data.toList.getD i 0 = s[i] := by
    rw [List.getD_eq_getElem?_getD, List.getElem?_eq_getElem (by simpa using h)]
    rfl
  rw [this]
  simp
theorem l0_more {k : Nat} {s : ByteArray} {i : Int} {r : Bool} (j : Nat) (h : lapidaryref02_valid.l0 k s i = some r) : lapidaryref02_valid.l0 (k + j) s i = some r :=
  at_rounds (g := fun k => lapidaryref02_valid.l0 k s i) (fun k => (lapidaryref02_valid.mono_l k).1 s i) (Nat.le_add_right k j) h
theorem w64 {n : Int} (h0 : -9223372036854775808 ≤ n) (h1 : n ≤ 9223372036854775807) : wrap64 n = n := by unfold wrap64; omega
theorem w32 {n : Int} (h0 : -2147483648 ≤ n) (h1 : n ≤ 2147483647) : wrap32 n = n := by unfold wrap32; omega

/-- one inner round that goes on -/
theorem l1_go {k : Nat} {s : ByteArray} {i : Nat} {n least r : Int} {j c : Nat} (hs : s.size ≤ 9223372036854775807) (hi : i + j < s.size) (hj : (j : Int) ≤ n) (hc : at0 s (i + j) = c) (h1 : 128 ≤ c) (h2 : c < 192) (hr0 : 0 ≤ r) (hr1 : r ≤ 33554430) :
    lapidaryref02_valid.l1 (k + 1) s (i : Int) n least r (j : Int) = lapidaryref02_valid.l1 k s (i : Int) n least (r * 64 + ((c : Int) - 128)) ((j + 1 : Nat) : Int) := by
  have e1 : wrap64 ((i : Int) + j) = ((i + j : Nat) : Int) := by rw [w64 (by omega) (by omega)]; simp
  have e2 : bt s ((i + j : Nat) : Int) = (c : Int) := by rw [bt_nat s (i + j) hi, hc]
  rw [lapidaryref02_valid.l1, e1, e2, if_pos hj, if_pos (by omega), if_pos (by omega), if_neg (by omega), if_neg (by omega)]
  rw [w64 (n := (j : Int) + 1) (by omega) (by omega), w32 (n := r * 64) (by omega) (by omega)]
  rw [show ((c : Int) - 128) % 256 = (c : Int) - 128 from by omega, w32 (by omega) (by omega)]
  simp
theorem l1_bad {k : Nat} {s : ByteArray} {i : Nat} {n least r : Int} {j c : Nat} (hs : s.size ≤ 9223372036854775807) (hi : i + j < s.size) (hj : (j : Int) ≤ n) (hc : at0 s (i + j) = c) (h : c < 128 ∨ 192 ≤ c) :
    lapidaryref02_valid.l1 (k + 1) s (i : Int) n least r (j : Int) = some false := by
  have e1 : wrap64 ((i : Int) + j) = ((i + j : Nat) : Int) := by rw [w64 (by omega) (by omega)]; simp
  have e2 : bt s ((i + j : Nat) : Int) = (c : Int) := by rw [bt_nat s (i + j) hi, hc]
  rw [lapidaryref02_valid.l1, e1, e2, if_pos hj, if_pos (by omega), if_pos (by omega)]
  by_cases h1 : (c : Int) < 128
  · rw [if_pos h1]
  · rw [if_neg h1, if_pos (by omega)]
/-- the end of the inner loop -/
theorem l1_end {k : Nat} {s : ByteArray} {i : Nat} {n least r : Int} {j : Nat} (hs : s.size ≤ 9223372036854775807) (hi : (i : Int) + n < s.size) (hn : 0 ≤ n) (hj : (j : Int) = n + 1) :
    lapidaryref02_valid.l1 (k + 1) s (i : Int) n least r (j : Int) = if r < least ∨ 1114111 < r ∨ (55296 ≤ r ∧ r < 57344) then some false else lapidaryref02_valid.l0 k s ((i : Int) + (n + 1)) := by
  rw [lapidaryref02_valid.l1, if_neg (by omega), w64 (n := n + 1) (by omega) (by omega), w64 (n := (i : Int) + (n + 1)) (by omega) (by omega)]
  by_cases h1 : r < least
  · rw [if_pos h1, if_pos (by omega)]
  · rw [if_neg h1]
    by_cases h2 : 1114111 < r
    · rw [if_pos h2, if_pos (by omega)]
    · rw [if_neg (show ¬ r > 1114111 from h2)]
      by_cases h3 : 55296 ≤ r
      · rw [if_pos (show r ≥ 55296 from h3)]
        by_cases h4 : r < 57344
        · rw [if_pos h4, if_pos (by omega)]
        · rw [if_neg h4, if_neg (by omega)]
      · rw [if_neg (show ¬ r ≥ 55296 from h3), if_neg (by omega)]

theorem valid_zero {k : Nat} {s : ByteArray} {i : Nat} (hi : i < s.size) (h : at0 s i = 0) : lapidaryref02_valid.l0 (k + 1) s (i : Int) = some false := by
  rw [lapidaryref02_valid.l0, bt_nat s i hi, h, if_pos (by omega), if_pos (by omega), if_pos (by simp)]
theorem valid_ascii {k : Nat} {s : ByteArray} {i : Nat} (hs : s.size ≤ 9223372036854775807) (hi : i < s.size) (h0 : at0 s i ≠ 0) (h : at0 s i < 128) : lapidaryref02_valid.l0 (k + 1) s (i : Int) = lapidaryref02_valid.l0 k s ((i + 1 : Nat) : Int) := by
  rw [lapidaryref02_valid.l0, bt_nat s i hi, if_pos (by omega), if_pos (by omega), if_neg (by omega), if_pos (by omega), w64 (by omega) (by omega)]
  rfl
theorem valid_low {k : Nat} {s : ByteArray} {i : Nat} (hi : i < s.size) (h : 128 ≤ at0 s i) (h2 : at0 s i < 192) : lapidaryref02_valid.l0 (k + 3) s (i : Int) = some false := by
  rw [lapidaryref02_valid.l0, bt_nat s i hi, if_pos (by omega), if_pos (by omega), if_neg (by omega), if_neg (by omega), if_neg (by omega)]
  rw [lapidaryref02_valid.j1, if_neg (by decide), if_neg (by omega), lapidaryref02_valid.j2, if_neg (by decide), if_neg (by omega)]
theorem valid_high {k : Nat} {s : ByteArray} {i : Nat} (hi : i < s.size) (h : 248 ≤ at0 s i) : lapidaryref02_valid.l0 (k + 3) s (i : Int) = some false := by
  rw [lapidaryref02_valid.l0, bt_nat s i hi, if_pos (by omega), if_pos (by omega), if_neg (by omega), if_neg (by omega), if_pos (by omega)]
  rw [lapidaryref02_valid.j1, if_neg (by simp; omega), if_pos (by omega), lapidaryref02_valid.j2, if_neg (by simp; omega), if_pos (by omega), if_neg (by omega)]
/-- behind the lead byte: enough bytes, or not -/
theorem j3_at {k : Nat} {s : ByteArray} {i : Nat} {n least r : Int} (hs : s.size ≤ 9223372036854775807) (hi : i < s.size) :
    lapidaryref02_valid.j3 (k + 1) s (i : Int) n least r = if (s.size : Int) - i ≤ n then some false else lapidaryref02_valid.l1 k s (i : Int) n least r ((1 : Nat) : Int) := by
  rw [lapidaryref02_valid.j3, w64 (by omega) (by omega)]
  rfl
theorem valid_2 {k : Nat} {s : ByteArray} {i : Nat} (hi : i < s.size) (h : 192 ≤ at0 s i) (h2 : at0 s i < 224) :
    lapidaryref02_valid.l0 (k + 2) s (i : Int) = lapidaryref02_valid.j3 k s (i : Int) 1 128 ((at0 s i : Int) - 192) := by
  rw [lapidaryref02_valid.l0, bt_nat s i hi, if_pos (by omega), if_pos (by omega), if_neg (by omega), if_neg (by omega), if_pos (by omega)]
  rw [lapidaryref02_valid.j1, if_pos (by simp; omega), show ((at0 s i : Int) - 192) % 256 = (at0 s i : Int) - 192 from by omega]
theorem valid_3 {k : Nat} {s : ByteArray} {i : Nat} (hi : i < s.size) (h : 224 ≤ at0 s i) (h2 : at0 s i < 240) :
    lapidaryref02_valid.l0 (k + 3) s (i : Int) = lapidaryref02_valid.j3 k s (i : Int) 2 2048 ((at0 s i : Int) - 224) := by
  rw [lapidaryref02_valid.l0, bt_nat s i hi, if_pos (by omega), if_pos (by omega), if_neg (by omega), if_neg (by omega), if_pos (by omega)]
  rw [lapidaryref02_valid.j1, if_neg (by simp; omega), if_pos (by omega), lapidaryref02_valid.j2, if_pos (by simp; omega), show ((at0 s i : Int) - 224) % 256 = (at0 s i : Int) - 224 from by omega]
theorem valid_4 {k : Nat} {s : ByteArray} {i : Nat} (hi : i < s.size) (h : 240 ≤ at0 s i) (h2 : at0 s i < 248) :
    lapidaryref02_valid.l0 (k + 3) s (i : Int) = lapidaryref02_valid.j3 k s (i : Int) 3 65536 ((at0 s i : Int) - 240) := by
  rw [lapidaryref02_valid.l0, bt_nat s i hi, if_pos (by omega), if_pos (by omega), if_neg (by omega), if_neg (by omega), if_pos (by omega)]
  rw [lapidaryref02_valid.j1, if_neg (by simp; omega), if_pos (by omega), lapidaryref02_valid.j2, if_neg (by simp; omega), if_pos (by omega), if_pos (by omega), show ((at0 s i : Int) - 240) % 256 = (at0 s i : Int) - 240 from by omega]

/-- does the rune at i stand whole? -/
def badAt (s : ByteArray) (i : Nat) : Prop := at0 s i = 0 ∨ ((Utf8.decode s i).1 = 65533 ∧ (Utf8.decode s i).2 = 1)
theorem dec_at (s : ByteArray) (i : Nat) : Utf8.decode s i = Lib.decodeN (s.size - i) (at0 s i) (at0 s (i + 1)) (at0 s (i + 2)) (at0 s (i + 3)) := by
  rw [Lib.decode_N, Lib.size_eq]; rfl
set_option maxHeartbeats 4000000 in
/-- one round of the outer loop -/
theorem valid_step (k : Nat) (s : ByteArray) (i : Nat) (hs : s.size ≤ 9223372036854775807) (hi : i < s.size) :
    (badAt s i → lapidaryref02_valid.l0 (k + 8) s (i : Int) = some false) ∧ (¬ badAt s i → ∀ r, lapidaryref02_valid.l0 k s ((i + (Utf8.decode s i).2 : Nat) : Int) = some r → lapidaryref02_valid.l0 (k + 8) s (i : Int) = some r) := by
  have hd := dec_at s i
  have l1 := at0_lt s (i + 1)
  have l2 := at0_lt s (i + 2)
  have l3 := at0_lt s (i + 3)
  unfold badAt
  rw [hd]
  generalize e0 : at0 s i = b0
  generalize e1 : at0 s (i + 1) = b1 at *
  generalize e2 : at0 s (i + 2) = b2 at *
  generalize e3 : at0 s (i + 3) = b3 at *
  by_cases c0 : b0 = 0
  · subst c0
    exact ⟨fun _ => valid_zero hi e0, fun h => absurd (.inl rfl) h⟩
  by_cases c1 : b0 < 128
  · have hn : Lib.decodeN (s.size - i) b0 b1 b2 b3 = (b0, 1) := by unfold Lib.decodeN; rw [if_pos c1]
    rw [hn]
    refine ⟨fun h => ?_, fun _ r hr => ?_⟩
    · rcases h with h | ⟨h, _⟩
      · exact absurd h c0
      · simp only at h; omega
    · rw [show k + 8 = (k + 7) + 1 from rfl, valid_ascii hs hi (by omega) (by omega)]
      exact l0_more 7 hr
  by_cases c2 : b0 < 192
  · have hn : Lib.decodeN (s.size - i) b0 b1 b2 b3 = (65533, 1) := by unfold Lib.decodeN; rw [if_neg c1, if_neg (by omega), if_neg (by omega), if_neg (by omega)]
    rw [hn]
    exact ⟨fun _ => valid_low (k := k + 5) hi (by omega) (by omega), fun h => absurd (.inr ⟨rfl, rfl⟩) h⟩
  by_cases c3 : 248 ≤ b0
  · have hn : Lib.decodeN (s.size - i) b0 b1 b2 b3 = (65533, 1) := by unfold Lib.decodeN; rw [if_neg c1, if_neg (by omega), if_neg (by omega), if_neg (by omega)]
    rw [hn]
    exact ⟨fun _ => valid_high (k := k + 5) hi (by omega), fun h => absurd (.inr ⟨rfl, rfl⟩) h⟩
  by_cases c4 : b0 < 224
  · rw [show k + 8 = (k + 6) + 2 from rfl, valid_2 hi (by omega) (by omega), e0, show k + 6 = (k + 5) + 1 from rfl, j3_at hs hi]
    by_cases d1 : s.size - i ≤ 1
    · have hn : Lib.decodeN (s.size - i) b0 b1 b2 b3 = (65533, 1) := by unfold Lib.decodeN; rw [if_neg c1, if_neg (by omega), if_neg (by omega), if_neg (by omega)]
      rw [hn, if_pos (by omega)]
      exact ⟨fun _ => rfl, fun h => absurd (.inr ⟨rfl, rfl⟩) h⟩
    · rw [if_neg (by omega)]
      by_cases d2 : b1 < 128 ∨ 192 ≤ b1
      · have hn : Lib.decodeN (s.size - i) b0 b1 b2 b3 = (65533, 1) := by unfold Lib.decodeN; rw [if_neg c1, if_neg (by omega), if_neg (by omega), if_neg (by omega)]
        rw [hn, show k + 5 = (k + 4) + 1 from rfl, l1_bad hs (j := 1) (by omega) (by omega) e1 d2]
        exact ⟨fun _ => rfl, fun h => absurd (.inr ⟨rfl, rfl⟩) h⟩
      · rw [show k + 5 = (k + 4) + 1 from rfl, l1_go hs (j := 1) (by omega) (by omega) e1 (by omega) (by omega) (by omega) (by omega), show k + 4 = (k + 3) + 1 from rfl, l1_end hs (by omega) (by omega) (by omega)]
        by_cases d3 : b0 % 32 * 64 + b1 % 64 ≥ 128
        · have hn : Lib.decodeN (s.size - i) b0 b1 b2 b3 = (b0 % 32 * 64 + b1 % 64, 2) := by unfold Lib.decodeN; rw [if_neg c1, if_pos (by omega), if_pos d3]
          rw [hn, if_neg (by omega)]
          refine ⟨fun h => ?_, fun _ r hr => l0_more 3 hr⟩
          rcases h with h | ⟨_, h⟩
          · exact absurd h c0
          · simp only at h; omega
        · have hn : Lib.decodeN (s.size - i) b0 b1 b2 b3 = (65533, 1) := by unfold Lib.decodeN; rw [if_neg c1, if_pos (by omega), if_neg d3]
          rw [hn, if_pos (by omega)]
          exact ⟨fun _ => rfl, fun h => absurd (.inr ⟨rfl, rfl⟩) h⟩
  by_cases c5 : b0 < 240
  · rw [show k + 8 = (k + 5) + 3 from rfl, valid_3 hi (by omega) (by omega), e0, show k + 5 = (k + 4) + 1 from rfl, j3_at hs hi]
    by_cases d1 : s.size - i ≤ 2
    · have hn : Lib.decodeN (s.size - i) b0 b1 b2 b3 = (65533, 1) := by unfold Lib.decodeN; rw [if_neg c1, if_neg (by omega), if_neg (by omega), if_neg (by omega)]
      rw [hn, if_pos (by omega)]
      exact ⟨fun _ => rfl, fun h => absurd (.inr ⟨rfl, rfl⟩) h⟩
    · rw [if_neg (by omega)]
      by_cases d2 : b1 < 128 ∨ 192 ≤ b1
      · have hn : Lib.decodeN (s.size - i) b0 b1 b2 b3 = (65533, 1) := by unfold Lib.decodeN; rw [if_neg c1, if_neg (by omega), if_neg (by omega), if_neg (by omega)]
        rw [hn, show k + 4 = (k + 3) + 1 from rfl, l1_bad hs (j := 1) (by omega) (by omega) e1 d2]
        exact ⟨fun _ => rfl, fun h => absurd (.inr ⟨rfl, rfl⟩) h⟩
      · rw [show k + 4 = (k + 3) + 1 from rfl, l1_go hs (j := 1) (by omega) (by omega) e1 (by omega) (by omega) (by omega) (by omega)]
        by_cases d3 : b2 < 128 ∨ 192 ≤ b2
        · have hn : Lib.decodeN (s.size - i) b0 b1 b2 b3 = (65533, 1) := by unfold Lib.decodeN; rw [if_neg c1, if_neg (by omega), if_neg (by omega), if_neg (by omega)]
          rw [hn, show k + 3 = (k + 2) + 1 from rfl, l1_bad hs (j := 2) (by omega) (by omega) e2 d3]
          exact ⟨fun _ => rfl, fun h => absurd (.inr ⟨rfl, rfl⟩) h⟩
        · rw [show k + 3 = (k + 2) + 1 from rfl, l1_go hs (j := 2) (by omega) (by omega) e2 (by omega) (by omega) (by omega) (by omega), show k + 2 = (k + 1) + 1 from rfl, l1_end hs (by omega) (by omega) (by omega)]
          by_cases d4 : b0 % 16 * 4096 + b1 % 64 * 64 + b2 % 64 ≥ 2048 ∧ (b0 % 16 * 4096 + b1 % 64 * 64 + b2 % 64 < 55296 ∨ (57344 ≤ b0 % 16 * 4096 + b1 % 64 * 64 + b2 % 64 ∧ b0 % 16 * 4096 + b1 % 64 * 64 + b2 % 64 ≤ 1114111))
          · have hn : Lib.decodeN (s.size - i) b0 b1 b2 b3 = (b0 % 16 * 4096 + b1 % 64 * 64 + b2 % 64, 3) := by unfold Lib.decodeN; rw [if_neg c1, if_neg (by omega), if_pos (by omega), if_pos d4]
            rw [hn, if_neg (by omega)]
            refine ⟨fun h => ?_, fun _ r hr => l0_more 1 hr⟩
            rcases h with h | ⟨_, h⟩
            · exact absurd h c0
            · simp only at h; omega
          · have hn : Lib.decodeN (s.size - i) b0 b1 b2 b3 = (65533, 1) := by unfold Lib.decodeN; rw [if_neg c1, if_neg (by omega), if_pos (by omega), if_neg d4]
            rw [hn, if_pos (by omega)]
            exact ⟨fun _ => rfl, fun h => absurd (.inr ⟨rfl, rfl⟩) h⟩
  · rw [show k + 8 = (k + 5) + 3 from rfl, valid_4 hi (by omega) (by omega), e0, show k + 5 = (k + 4) + 1 from rfl, j3_at hs hi]
    by_cases d1 : s.size - i ≤ 3
    · have hn : Lib.decodeN (s.size - i) b0 b1 b2 b3 = (65533, 1) := by unfold Lib.decodeN; rw [if_neg c1, if_neg (by omega), if_neg (by omega), if_neg (by omega)]
      rw [hn, if_pos (by omega)]
      exact ⟨fun _ => rfl, fun h => absurd (.inr ⟨rfl, rfl⟩) h⟩
    · rw [if_neg (by omega)]
      by_cases d2 : b1 < 128 ∨ 192 ≤ b1
      · have hn : Lib.decodeN (s.size - i) b0 b1 b2 b3 = (65533, 1) := by unfold Lib.decodeN; rw [if_neg c1, if_neg (by omega), if_neg (by omega), if_neg (by omega)]
        rw [hn, show k + 4 = (k + 3) + 1 from rfl, l1_bad hs (j := 1) (by omega) (by omega) e1 d2]
        exact ⟨fun _ => rfl, fun h => absurd (.inr ⟨rfl, rfl⟩) h⟩
      · rw [show k + 4 = (k + 3) + 1 from rfl, l1_go hs (j := 1) (by omega) (by omega) e1 (by omega) (by omega) (by omega) (by omega)]
        by_cases d3 : b2 < 128 ∨ 192 ≤ b2
        · have hn : Lib.decodeN (s.size - i) b0 b1 b2 b3 = (65533, 1) := by unfold Lib.decodeN; rw [if_neg c1, if_neg (by omega), if_neg (by omega), if_neg (by omega)]
          rw [hn, show k + 3 = (k + 2) + 1 from rfl, l1_bad hs (j := 2) (by omega) (by omega) e2 d3]
          exact ⟨fun _ => rfl, fun h => absurd (.inr ⟨rfl, rfl⟩) h⟩
        · rw [show k + 3 = (k + 2) + 1 from rfl, l1_go hs (j := 2) (by omega) (by omega) e2 (by omega) (by omega) (by omega) (by omega)]
          by_cases d4 : b3 < 128 ∨ 192 ≤ b3
          · have hn : Lib.decodeN (s.size - i) b0 b1 b2 b3 = (65533, 1) := by unfold Lib.decodeN; rw [if_neg c1, if_neg (by omega), if_neg (by omega), if_neg (by omega)]
            rw [hn, show k + 2 = (k + 1) + 1 from rfl, l1_bad hs (j := 3) (by omega) (by omega) e3 d4]
            exact ⟨fun _ => rfl, fun h => absurd (.inr ⟨rfl, rfl⟩) h⟩
          · rw [show k + 2 = (k + 1) + 1 from rfl, l1_go hs (j := 3) (by omega) (by omega) e3 (by omega) (by omega) (by omega) (by omega), l1_end hs (by omega) (by omega) (by omega)]
            by_cases d5 : b0 % 8 * 262144 + b1 % 64 * 4096 + b2 % 64 * 64 + b3 % 64 ≥ 65536 ∧ (b0 % 8 * 262144 + b1 % 64 * 4096 + b2 % 64 * 64 + b3 % 64 < 55296 ∨ (57344 ≤ b0 % 8 * 262144 + b1 % 64 * 4096 + b2 % 64 * 64 + b3 % 64 ∧ b0 % 8 * 262144 + b1 % 64 * 4096 + b2 % 64 * 64 + b3 % 64 ≤ 1114111))
            · have hn : Lib.decodeN (s.size - i) b0 b1 b2 b3 = (b0 % 8 * 262144 + b1 % 64 * 4096 + b2 % 64 * 64 + b3 % 64, 4) := by unfold Lib.decodeN; rw [if_neg c1, if_neg (by omega), if_neg (by omega), if_pos (by omega), if_pos d5]
              rw [hn, if_neg (by omega)]
              refine ⟨fun h => ?_, fun _ r hr => hr⟩
              rcases h with h | ⟨_, h⟩
              · exact absurd h c0
              · simp only at h; omega
            · have hn : Lib.decodeN (s.size - i) b0 b1 b2 b3 = (65533, 1) := by unfold Lib.decodeN; rw [if_neg c1, if_neg (by omega), if_neg (by omega), if_pos (by omega), if_neg d5]
              rw [hn, if_pos (by omega)]
              exact ⟨fun _ => rfl, fun h => absurd (.inr ⟨rfl, rfl⟩) h⟩
end Go.Proofs.YtfbikpddpdkllaaDoor
namespace Go.Proofs.YtfbikpddpdkllaaDoor
open Go.RowKit Go.Proofs.YtfbikpddpdkllaaDoor.Lx Go.Proofs.YtfbikpddpdkllaaDoorW.PrintWords
set_option linter.unusedVariables false
set_option linter.unusedSimpArgs false

def wholeN : Nat → List UInt8 → Bool
  | 0, _ => true
  | n + 1, l => if l = [] then true else if l.headD 0 = 0 then false else if (Lib.decodeL l).1 = 65533 ∧ (Lib.decodeL l).2 = 1 then false else wholeN n (l.drop (Lib.decodeL l).2)
theorem at0_drop (s : ByteArray) (i j : Nat) : (((s.data.toList.drop i).drop j).headD 0).toNat = at0 s (i + j) := by
  unfold at0
  rw [List.drop_drop, List.headD_eq_head?_getD, List.head?_drop, List.getD_eq_getElem?_getD]
theorem badAt_iff (s : ByteArray) (i : Nat) : badAt s i ↔ ((s.data.toList.drop i).headD 0 = 0 ∨ ((Lib.decodeL (s.data.toList.drop i)).1 = 65533 ∧ (Lib.decodeL (s.data.toList.drop i)).2 = 1)) := by
  unfold badAt
  rw [Lib.decodeL_drop]
  have h := at0_drop s i 0
  rw [List.drop_zero, Nat.add_zero] at h
  rw [← h, ← UInt8.toNat_inj (b := 0)]
  rfl
theorem valid_from (s : ByteArray) (hs : s.size ≤ 9223372036854775807) : ∀ n i, s.size - i ≤ n → ∃ k, lapidaryref02_valid.l0 k s (i : Int) = some (wholeN n (s.data.toList.drop i)) := by
  intro n
  induction n with
  | zero =>
    intro i h
    refine ⟨1, ?_⟩
    rw [lapidaryref02_valid.l0, if_neg (by omega)]
    rfl
  | succ n ih =>
    intro i h
    by_cases hi : i < s.size
    · have hl : s.data.toList.drop i ≠ [] := by
        intro he
        have := congrArg List.length he
        simp at this
        omega
      by_cases hb : badAt s i
      · refine ⟨8, ?_⟩
        rw [(valid_step 0 s i hs hi).1 hb, wholeN, if_neg hl]
        rcases (badAt_iff s i).1 hb with h1 | h1
        · rw [if_pos h1]
        · by_cases h2 : (s.data.toList.drop i).headD 0 = 0
          · rw [if_pos h2]
          · rw [if_neg h2, if_pos h1]
      · have hw : 1 ≤ (Utf8.decode s i).2 := Lib.width_pos s i
        obtain ⟨k, hk⟩ := ih (i + (Utf8.decode s i).2) (by omega)
        refine ⟨k + 8, (valid_step k s i hs hi).2 hb _ ?_⟩
        have hb' := fun h => hb ((badAt_iff s i).2 h)
        rw [hk, wholeN, if_neg hl, if_neg (fun h => hb' (.inl h)), if_neg (fun h => hb' (.inr h)), List.drop_drop, Lib.decodeL_drop]
    · refine ⟨1, ?_⟩
      rw [lapidaryref02_valid.l0, if_neg (by omega), wholeN, if_pos (by apply List.drop_eq_nil_of_le; simp; omega)]
/-- is the text whole? -/
def wholeV (s : ByteArray) : Bool := wholeN s.size s.data.toList
theorem valid_f (s : ByteArray) (hs : s.size ≤ 9223372036854775807) : ∃ k, lapidaryref02_valid.f k s = some (wholeV s) := by
  obtain ⟨k, hk⟩ := valid_from s hs s.size 0 (by omega)
  exact ⟨k, by unfold lapidaryref02_valid.f; simpa [wholeV] using hk⟩

/-- is it a right value? -/
def rightV (k i : Int) (s : ByteArray) (b : Bool) : Bool :=
  if k = 0 then decide (i = 0 ∧ s.toList = []) && !b
  else if k = 1 then decide (s.toList = []) && !b
  else if k = 2 then decide (i = 0 ∧ s.size ≤ 60) && !b && wholeV s
  else if k = 3 then decide (i = 0 ∧ s.toList = []) else false
theorem right_f (k i : Int) (s : ByteArray) (b : Bool) : ∃ n, lapidaryref02_Right.f n k i s b = some (rightV k i s b) := by
  unfold lapidaryref02_Right.f rightV
  by_cases h0 : k = 0
  · refine ⟨0, ?_⟩
    subst h0
    by_cases h1 : i = 0 <;> by_cases h2 : s.toList = [] <;> simp [h1, h2]
  by_cases h1 : k = 1
  · refine ⟨0, ?_⟩
    subst h1
    by_cases h2 : s.toList = [] <;> simp [h2]
  by_cases h2 : k = 2
  · subst h2
    by_cases h3 : (s.size : Int) ≤ 60
    · obtain ⟨n, hn⟩ := valid_f s (by omega)
      refine ⟨n, ?_⟩
      have h3' : s.size ≤ 60 := by omega
      rw [hn]
      by_cases h1 : i = 0 <;> cases b <;> simp [h1, h3, h3']
    · refine ⟨0, ?_⟩
      have h3' : ¬ s.size ≤ 60 := by omega
      by_cases h1 : i = 0 <;> cases b <;> simp [h1, h3, h3']
  by_cases h3 : k = 3
  · refine ⟨0, ?_⟩
    subst h3
    by_cases h1 : i = 0
    · by_cases h2 : s.toList = [] <;> simp [h1, h2]
    · simp [h1]
  · exact ⟨0, by simp [h0, h1, h2, h3]⟩
theorem ref_right (k i : Int) (s : ByteArray) (b : Bool) (w : World) :
    Calls Tryd.prog 22 #[.agg #[.int .u8 k, .int .i64 i, .string s, .bool b]] w fun e w' => e = .returned (.bool (rightV k i s b)) ∧ Below w.heap.size w w' := by
  obtain ⟨n, hn⟩ := right_f k i s b
  exact lapidaryref02_Right.calls n k i s b _ w hn
end Go.Proofs.YtfbikpddpdkllaaDoor
namespace Go.Proofs.YtfbikpddpdkllaaDoor
open Go.RowKit
set_option linter.unusedVariables false
set_option linter.unusedSimpArgs false

theorem no_nought (l : List UInt8) : decide (Lib.indexByte l 0 < 0) = !(l.contains 0) := by
  rw [Lib.contains_iff_indexByte]
  by_cases h : Lib.indexByte l 0 < 0
  · rw [decide_eq_true h, decide_eq_false (by omega)]; rfl
  · rw [decide_eq_false h, decide_eq_true (by omega)]; rfl
theorem decN_nz (n b0 b1 b2 b3 : Nat) : (1 < (Lib.decodeN n b0 b1 b2 b3).2 → b1 ≠ 0) ∧ (2 < (Lib.decodeN n b0 b1 b2 b3).2 → b2 ≠ 0) ∧ (3 < (Lib.decodeN n b0 b1 b2 b3).2 → b3 ≠ 0) ∧ (Lib.decodeN n b0 b1 b2 b3).2 ≤ 4 := by
  unfold Lib.decodeN
  repeat' split
  all_goals (refine ⟨fun h => ?_, fun h => ?_, fun h => ?_, ?_⟩ <;> simp only at * <;> omega)
/-- the bytes of a rune that stands whole are none of them 0 -/
theorem step_no_nought (l : List UInt8) (h0 : l.headD 0 ≠ 0) : (l.take (Lib.decodeL l).2).contains 0 = false := by
  have e := Lib.decodeL_drop ⟨l.toArray⟩ 0
  simp only [List.drop_zero] at e
  have e' : Lib.decodeL l = Utf8.decode ⟨l.toArray⟩ 0 := e
  rw [e', Lib.decode_N]
  obtain ⟨n1, n2, n3, n4⟩ := decN_nz ((⟨l.toArray⟩ : ByteArray).data.toList.length - 0) ((⟨l.toArray⟩ : ByteArray).data.toList.getD 0 0).toNat ((⟨l.toArray⟩ : ByteArray).data.toList.getD (0 + 1) 0).toNat ((⟨l.toArray⟩ : ByteArray).data.toList.getD (0 + 2) 0).toNat ((⟨l.toArray⟩ : ByteArray).data.toList.getD (0 + 3) 0).toNat
  generalize (Lib.decodeN _ _ _ _ _).2 = w at *
  cases hc : (l.take w).contains 0 with
  | false => rfl
  | true =>
    exfalso
    have hm : (0 : UInt8) ∈ l.take w := by simpa using hc
    obtain ⟨j, hj, hx⟩ := List.mem_iff_getElem.1 hm
    rw [List.length_take] at hj
    rw [List.getElem_take] at hx
    have hg : l.getD j 0 = 0 := by
      rw [List.getD_eq_getElem?_getD, List.getElem?_eq_getElem (by omega), hx]; rfl
    have : j = 0 ∨ j = 1 ∨ j = 2 ∨ j = 3 := by omega
    rcases this with rfl | rfl | rfl | rfl
    · apply h0
      rw [List.headD_eq_head?_getD, List.head?_eq_getElem?, ← List.getD_eq_getElem?_getD]
      exact hg
    · exact n1 (by omega) (by show (l.getD 1 0).toNat = 0; rw [hg]; rfl)
    · exact n2 (by omega) (by show (l.getD 2 0).toNat = 0; rw [hg]; rfl)
    · exact n3 (by omega) (by show (l.getD 3 0).toNat = 0; rw [hg]; rfl)
theorem whole_split : ∀ n l, l.length ≤ n → wholeN n l = (Lib.validGoD n l && !(l.contains 0))
  | 0, l, h => by
    obtain rfl : l = [] := List.length_eq_zero_iff.1 (by omega)
    rfl
  | n + 1, l, h => by
    rw [wholeN, Lib.validGoD]
    by_cases hl : l = []
    · rw [if_pos hl, if_pos hl, hl]; rfl
    rw [if_neg hl, if_neg hl]
    by_cases h0 : l.headD 0 = 0
    · rw [if_pos h0]
      have : l.contains 0 = true := by
        match l, hl with
        | a :: m, _ =>
          have : a = 0 := h0
          simp [this]
      rw [this]; simp
    rw [if_neg h0]
    by_cases hb : (Lib.decodeL l).1 = 65533 ∧ (Lib.decodeL l).2 = 1
    · rw [if_pos hb, if_pos hb]; rfl
    rw [if_neg hb, if_neg hb]
    have hw : 1 ≤ (Lib.decodeL l).2 := by
      have e := Lib.decodeL_drop ⟨l.toArray⟩ 0
      simp only [List.drop_zero] at e
      have e' : Lib.decodeL l = Utf8.decode ⟨l.toArray⟩ 0 := e
      rw [e']
      exact Lib.width_pos _ _
    rw [whole_split n _ (by rw [List.length_drop]; omega)]
    have hs := step_no_nought l h0
    have : l.contains 0 = ((l.take (Lib.decodeL l).2).contains 0 || (l.drop (Lib.decodeL l).2).contains 0) := by
      conv => lhs; rw [← List.take_append_drop (Lib.decodeL l).2 l]
      rw [List.contains_append]
    rw [this, hs]
    rfl
theorem whole_eq (s : ByteArray) : wholeV s = (Lib.validD s.data.toList && decide (Lib.indexByte s.data.toList 0 < 0)) := by
  unfold wholeV Lib.validD
  rw [no_nought]
  have : s.size = s.data.toList.length := by simp
  rw [this]
  exact whole_split _ _ (Nat.le_refl _)
end Go.Proofs.YtfbikpddpdkllaaDoor
