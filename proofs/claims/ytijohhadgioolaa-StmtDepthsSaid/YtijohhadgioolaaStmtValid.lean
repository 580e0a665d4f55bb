/-
  Plain law: the reference's hand-written look at UTF-8 (its printed form) tells just whether the text is valid UTF-8 without a byte 0. Conditions: the text is no longer than 2^63 - 1.
-/
import Derived.Test.YtijohhadgioolaaPStmtDepthsx1
import Derived.Lib.TrimUEq
import Derived.Lib.ValidU
namespace Go.Proofs.Ytijohhadgioolaa
open Go.RowKit Go.Proofs.Ytijohhadgioolaa.PStmtDepths Go.Proofs.YtijohhadgioolaaW.PrintWords
set_option linter.unusedVariables false
set_option linter.unusedSimpArgs false

/-- the byte at i, 0 beyond the end -/
def at0 (s : ByteArray) (i : Nat) : Nat := (s.data.toList.getD i 0).toNat
theorem at0_lt (s : ByteArray) (i : Nat) : at0 s i < 256 := UInt8.toNat_lt _
theorem bt_nat (s : ByteArray) (i : Nat) (h : i < s.size) : bt s (i : Int) = (at0 s i : Int) := by
  unfold bt at0
  rw [dif_pos (by simpa using h)]
  have : s.data.toList.getD i 0 = s[i] := by
    rw [List.getD_eq_getElem?_getD, List.getElem?_eq_getElem (by simpa using h)]
    rfl
  rw [this]
  simp
theorem l0_more {k : Nat} {s : ByteArray} {i : Int} {r : Bool} (j : Nat) (h : lapidaryref02_valid.l0 k s i = some r) : lapidaryref02_valid.l0 (k + j) s i = some r :=
  at_rounds (g := fun k => lapidaryref02_valid.l0 k s i) (fun k => (lapidaryref02_valid.mono_l k).1 s i) (Nat.le_add_right k j) h
theorem w64 {n : Int} (h0 : -9223372036854775808 ≤ n) (h1 : n ≤ 9223372036854775807) : wrap64 n = n := by unfold wrap64; omega
theorem w32 {n : Int} (h0 : -2147483648 ≤ n) (h1 : n ≤ 2147483647) : wrap32 n = n := by unfold wrap32; omega

/-- one inner round that goes on -/
theorem l1_go {k : Nat} {s : ByteArray} {i : Nat} {n least r : Int} {j c : Nat} (hs : s.size ≤ 9223372036854775807) (hi : i + j < s.size) (hj : (j : Int) ≤ n) (hc : at0 s (i + j) = c) (h1 : 128 ≤ c) (h2 : c < 192) (hr0 : 0 ≤ r) (hr1 : r ≤ 33554430) :
    lapidaryref02_valid.l1 (k + 1) s (i : Int) n least r (j : Int) = lapidaryref02_valid.l1 k s (i : Int) n least (r * 64 + ((c : Int) - 128)) ((j + 1 : Nat) : Int) := by
  have e1 : wrap64 ((i : Int) + j) = ((i + j : Nat) : Int) := by rw [w64 (by omega) (by omega)]; simp
  have e2 : bt s ((i + j : Nat) : Int) = (c : Int) := by rw [bt_nat s (i + j) hi, hc]
  rw [lapidaryref02_valid.l1, e1, e2, if_pos hj, if_pos (by omega), if_pos (by omega), if_neg (by omega), if_neg (by omega)]
  rw [w64 (n := (j : Int) + 1) (by omega) (by omega), w32 (n := r * 64) (by omega) (by omega)]
  rw [show ((c : Int) - 128) % 256 = (c : Int) - 128 from by omega, w32 (by omega) (by omega)]
  simp
theorem l1_bad {k : Nat} {s : ByteArray} {i : Nat} {n least r : Int} {j c : Nat} (hs : s.size ≤ 9223372036854775807) (hi : i + j < s.size) (hj : (j : Int) ≤ n) (hc : at0 s (i + j) = c) (h : c < 128 ∨ 192 ≤ c) :
    lapidaryref02_valid.l1 (k + 1) s (i : Int) n least r (j : Int) = some false := by
  have e1 : wrap64 ((i : Int) + j) = ((i + j : Nat) : Int) := by rw [w64 (by omega) (by omega)]; simp
  have e2 : bt s ((i + j : Nat) : Int) = (c : Int) := by rw [bt_nat s (i + j) hi, hc]
  rw [lapidaryref02_valid.l1, e1, e2, if_pos hj, if_pos (by omega), if_pos (by omega)]
  by_cases h1 : (c : Int) < 128
  · rw [if_pos h1]
  · rw [if_neg h1, if_pos (by omega)]
/-- the end of the inner loop -/
theorem l1_end {k : Nat} {s : ByteArray} {i : Nat} {n least r : Int} {j : Nat} (hs : s.size ≤ 9223372036854775807) (hi : (i : Int) + n < s.size) (hn : 0 ≤ n) (hj : (j : Int) = n + 1) :
    lapidaryref02_valid.l1 (k + 1) s (i : Int) n least r (j : Int) = if r < least ∨ 1114111 < r ∨ (55296 ≤ r ∧ r < 57344) then some false else lapidaryref02_valid.l0 k s ((i : Int) + (n + 1)) := by
  rw [lapidaryref02_valid.l1, if_neg (by omega), w64 (n := n + 1) (by omega) (by omega), w64 (n := (i : Int) + (n + 1)) (by omega) (by omega)]
  by_cases h1 : r < least
  · rw [if_pos h1, if_pos (by omega)]
  · rw [if_neg h1]
    by_cases h2 : 1114111 < r
    · rw [if_pos h2, if_pos (by omega)]
    · rw [if_neg (show ¬ r > 1114111 from h2)]
      by_cases h3 : 55296 ≤ r
      · rw [if_pos (show r ≥ 55296 from h3)]
        by_cases h4 : r < 57344
        · rw [if_pos h4, if_pos (by omega)]
        · rw [if_neg h4, if_neg (by omega)]
      · rw [if_neg (show ¬ r ≥ 55296 from h3), if_neg (by omega)]

theorem valid_zero {k : Nat} {s : ByteArray} {i : Nat} (hi : i < s.size) (h : at0 s i = 0) : lapidaryref02_valid.l0 (k + 1) s (i : Int) = some false := by
  rw [lapidaryref02_valid.l0, bt_nat s i hi, h, if_pos (by omega), if_pos (by omega), if_pos (by simp)]
theorem valid_ascii {k : Nat} {s : ByteArray} {i : Nat} (hs : s.size ≤ 9223372036854775807) (hi : i < s.size) (h0 : at0 s i ≠ 0) (h : at0 s i < 128) : lapidaryref02_valid.l0 (k + 1) s (i : Int) = lapidaryref02_valid.l0 k s ((i + 1 : Nat) : Int) := by
  rw [lapidaryref02_valid.l0, bt_nat s i hi, if_pos (by omega), if_pos (by omega), if_neg (by omega), if_pos (by omega), w64 (by omega) (by omega)]
  rfl
theorem valid_low {k : Nat} {s : ByteArray} {i : Nat} (hi : i < s.size) (h : 128 ≤ at0 s i) (h2 : at0 s i < 192) : lapidaryref02_valid.l0 (k + 3) s (i : Int) = some false := by
  rw [lapidaryref02_valid.l0, bt_nat s i hi, if_pos (by omega), if_pos (by omega), if_neg (by omega), if_neg (by omega), if_neg (by omega)]
  rw [lapidaryref02_valid.j1, if_neg (by decide), if_neg (by omega), lapidaryref02_valid.j2, if_neg (by decide), if_neg (by omega)]
theorem valid_high {k : Nat} {s : ByteArray} {i : Nat} (hi : i < s.size) (h : 248 ≤ at0 s i) : lapidaryref02_valid.l0 (k + 3) s (i : Int) = some false := by
  rw [lapidaryref02_valid.l0, bt_nat s i hi, if_pos (by omega), if_pos (by omega), if_neg (by omega), if_neg (by omega), if_pos (by omega)]
  rw [lapidaryref02_valid.j1, if_neg (by simp; omega), if_pos (by omega), lapidaryref02_valid.j2, if_neg (by simp; omega), if_pos (by omega), if_neg (by omega)]
/-- behind the lead byte: enough bytes, or not -/
theorem j3_at {k : Nat} {s : ByteArray} {i : Nat} {n least r : Int} (hs : s.size ≤ 9223372036854775807) (hi : i < s.size) :
    lapidaryref02_valid.j3 (k + 1) s (i : Int) n least r = if (s.size : Int) - i ≤ n then some false else lapidaryref02_valid.l1 k s (i : Int) n least r ((1 : Nat) : Int) := by
  rw [lapidaryref02_valid.j3, w64 (by omega) (by omega)]
  rfl
theorem valid_2 {k : Nat} {s : ByteArray} {i : Nat} (hi : i < s.size) (h : 192 ≤ at0 s i) (h2 : at0 s i < 224) :
    lapidaryref02_valid.l0 (k + 2) s (i : Int) = lapidaryref02_valid.j3 k s (i : Int) 1 128 ((at0 s i : Int) - 192) := by
  rw [lapidaryref02_valid.l0, bt_nat s i hi, if_pos (by omega), if_pos (by omega), if_neg (by omega), if_neg (by omega), if_pos (by omega)]
  rw [lapidaryref02_valid.j1, if_pos (by simp; omega), show ((at0 s i : Int) - 192) % 256 = (at0 s i : Int) - 192 from by omega]
theorem valid_3 {k : Nat} {s : ByteArray} {i : Nat} (hi : i < s.size) (h : 224 ≤ at0 s i) (h2 : at0 s i < 240) :
    lapidaryref02_valid.l0 (k + 3) s (i : Int) = lapidaryref02_valid.j3 k s (i : Int) 2 2048 ((at0 s i : Int) - 224) := by
  rw [lapidaryref02_valid.l0, bt_nat s i hi, if_pos (by omega), if_pos (by omega), if_neg (by omega), if_neg (by omega), if_pos (by omega)]
  rw [lapidaryref02_valid.j1, if_neg (by simp; omega), if_pos (by omega), lapidaryref02_valid.j2, if_pos (by simp; omega), show ((at0 s i : Int) - 224) % 256 = (at0 s i : Int) - 224 from by omega]
theorem valid_4 {k : Nat} {s : ByteArray} {i : Nat} (hi : i < s.size) (h : 240 ≤ at0 s i) (h2 : at0 s i < 248) :
    lapidaryref02_valid.l0 (k + 3) s (i : Int) = lapidaryref02_valid.j3 k s (i : Int) 3 65536 ((at0 s i : Int) - 240) := by
  rw [lapidaryref02_valid.l0, bt_nat s i hi, if_pos (by omega), if_pos (by omega), if_neg (by omega), if_neg (by omega), if_pos (by omega)]
  rw [lapidaryref02_valid.j1, if_neg (by simp; omega), if_pos (by omega), lapidaryref02_valid.j2, if_neg (by simp; omega), if_pos (by omega), if_pos (by omega), show ((at0 s i : Int) - 240) % 256 = (at0 s i : Int) - 240 from by omega]

/-- does the rune at i stand whole? -/
def badAt (s : ByteArray) (i : Nat) : Prop := at0 s i = 0 ∨ ((Utf8.decode s i).1 = 65533 ∧ (Utf8.decode s i).2 = 1)
theorem dec_at (s : ByteArray) (i : Nat) : Utf8.decode s i = Lib.decodeN (s.size - i) (at0 s i) (at0 s (i + 1)) (at0 s (i + 2)) (at0 s (i + 3)) := by
  rw [Lib.decode_N, Lib.size_eq]; rfl
set_option maxHeartbeats 4000000 in
/-- one round of the outer loop -/
theorem valid_step (k : Nat) (s : ByteArray) (i : Nat) (hs : s.size ≤ 9223372036854775807) (hi : i < s.size) :
    (badAt s i → lapidaryref02_valid.l0 (k + 8) s (i : Int) = some false) ∧ (¬ badAt s i → ∀ r, lapidaryref02_valid.l0 k s ((i + (Utf8.decode s i).2 : Nat) : Int) = some r → lapidaryref02_valid.l0 (k + 8) s (i : Int) = some r) := by
  have hd := dec_at s i
  have l1 := at0_lt s (i + 1)
  have l2 := at0_lt s (i + 2)
  have l3 := at0_lt s (i + 3)
  unfold badAt
  rw [hd]
  generalize e0 : at0 s i = b0
  generalize e1 : at0 s (i + 1) = b1 at *
  generalize e2 : at0 s (i + 2) = b2 at *
  generalize e3 : at0 s (i + 3) = b3 at *
  by_cases c0 : b0 = 0
  · subst c0
    exact ⟨fun _ => valid_zero hi e0, fun h => absurd (.inl rfl) h⟩
  by_cases c1 : b0 < 128
  · have hn : Lib.decodeN (s.size - i) b0 b1 b2 b3 = (b0, 1) := by unfold Lib.decodeN; rw [if_pos c1]
    rw [hn]
    refine ⟨fun h => ?_, fun _ r hr => ?_⟩
    · rcases h with h | ⟨h, _⟩
      · exact absurd h c0
      · simp only at h; omega
    · rw [show k + 8 = (k + 7) + 1 from rfl, valid_ascii hs hi (by omega) (by omega)]
      exact l0_more 7 hr
  by_cases c2 : b0 < 192
  · have hn : Lib.decodeN (s.size - i) b0 b1 b2 b3 = (65533, 1) := by unfold Lib.decodeN; rw [if_neg c1, if_neg (by omega), if_neg (by omega), if_neg (by omega)]
    rw [hn]
    exact ⟨fun _ => valid_low (k := k + 5) hi (by omega) (by omega), fun h => absurd (.inr ⟨rfl, rfl⟩) h⟩
  by_cases c3 : 248 ≤ b0
  · have hn : Lib.decodeN (s.size - i) b0 b1 b2 b3 = (65533, 1) := by unfold Lib.decodeN; rw [if_neg c1, if_neg (by omega), if_neg (by omega), if_neg (by omega)]
    rw [hn]
    exact ⟨fun _ => valid_high (k := k + 5) hi (by omega), fun h => absurd (.inr ⟨rfl, rfl⟩) h⟩
  by_cases c4 : b0 < 224
  · rw [show k + 8 = (k + 6) + 2 from rfl, valid_2 hi (by omega) (by omega), e0, show k + 6 = (k + 5) + 1 from rfl, j3_at hs hi]
    by_cases d1 : s.size - i ≤ 1
    · have hn : Lib.decodeN (s.size - i) b0 b1 b2 b3 = (65533, 1) := by unfold Lib.decodeN; rw [if_neg c1, if_neg (by omega), if_neg (by omega), if_neg (by omega)]
      rw [hn, if_pos (by omega)]
      exact ⟨fun _ => rfl, fun h => absurd (.inr ⟨rfl, rfl⟩) h⟩
    · rw [if_neg (by omega)]
      by_cases d2 : b1 < 128 ∨ 192 ≤ b1
      · have hn : Lib.decodeN (s.size - i) b0 b1 b2 b3 = (65533, 1) := by unfold Lib.decodeN; rw [if_neg c1, if_neg (by omega), if_neg (by omega), if_neg (by omega)]
        rw [hn, show k + 5 = (k + 4) + 1 from rfl, l1_bad hs (j := 1) (by omega) (by omega) e1 d2]
        exact ⟨fun _ => rfl, fun h => absurd (.inr ⟨rfl, rfl⟩) h⟩
      · rw [show k + 5 = (k + 4) + 1 from rfl, l1_go hs (j := 1) (by omega) (by omega) e1 (by omega) (by omega) (by omega) (by omega), show k + 4 = (k + 3) + 1 from rfl, l1_end hs (by omega) (by omega) (by omega)]
        by_cases d3 : b0 % 32 * 64 + b1 % 64 ≥ 128
        · have hn : Lib.decodeN (s.size - i) b0 b1 b2 b3 = (b0 % 32 * 64 + b1 % 64, 2) := by unfold Lib.decodeN; rw [if_neg c1, if_pos (by omega), if_pos d3]
          rw [hn, if_neg (by omega)]
          refine ⟨fun h => ?_, fun _ r hr => l0_more 3 hr⟩
          rcases h with h | ⟨_, h⟩
          · exact absurd h c0
          · simp only at h; omega
        · have hn : Lib.decodeN (s.size - i) b0 b1 b2 b3 = (65533, 1) := by unfold Lib.decodeN; rw [if_neg c1, if_pos (by omega), if_neg d3]
          rw [hn, if_pos (by omega)]
          exact ⟨fun _ => rfl, fun h => absurd (.inr ⟨rfl, rfl⟩) h⟩
  by_cases c5 : b0 < 240
  · rw [show k + 8 = (k + 5) + 3 from rfl, valid_3 hi (by omega) (by omega), e0, show k + 5 = (k + 4) + 1 from rfl, j3_at hs hi]
    by_cases d1 : s.size - i ≤ 2
    · have hn : Lib.decodeN (s.size - i) b0 b1 b2 b3 = (65533, 1) := by unfold Lib.decodeN; rw [if_neg c1, if_neg (by omega), if_neg (by omega), if_neg (by omega)]
      rw [hn, if_pos (by omega)]
      exact ⟨fun _ => rfl, fun h => absurd (.inr ⟨rfl, rfl⟩) h⟩
    · rw [if_neg (by omega)]
      by_cases d2 : b1 < 128 ∨ 192 ≤ b1
      · have hn : Lib.decodeN (s.size - i) b0 b1 b2 b3 = (65533, 1) := by unfold Lib.decodeN; rw [if_neg c1, if_neg (by omega), if_neg (by omega), if_neg (by omega)]
        rw [hn, show k + 4 = (k + 3) + 1 from rfl, l1_bad hs (j := 1) (by omega) (by omega) e1 d2]
        exact ⟨fun _ => rfl, fun h => absurd (.inr ⟨rfl, rfl⟩) h⟩
      · rw [show k + 4 = (k + 3) + 1 from rfl, l1_go hs (j := 1) (by omega) (by omega) e1 (by omega) (by omega) (by omega) (by omega)]
        by_cases d3 : b2 < 128 ∨ 192 ≤ b2
        · have hn : Lib.decodeN (s.size - i) b0 b1 b2 b3 = (65533, 1) := by unfold Lib.decodeN; rw [if_neg c1, if_neg (by omega), if_neg (by omega), if_neg (by omega)]
          rw [hn, show k + 3 = (k + 2) + 1 from rfl, l1_bad hs (j := 2) (by omega) (by omega) e2 d3]
          exact ⟨fun _ => rfl, fun h => absurd (.inr ⟨rfl, rfl⟩) h⟩
        · rw [show k + 3 = (k + 2) + 1 from rfl, l1_go hs (j := 2) (by omega) (by omega) e2 (by omega) (by omega) (by omega) (by omega), show k + 2 = (k + 1) + 1 from rfl, l1_end hs (by omega) (by omega) (by omega)]
          by_cases d4 : b0 % 16 * 4096 + b1 % 64 * 64 + b2 % 64 ≥ 2048 ∧ (b0 % 16 * 4096 + b1 % 64 * 64 + b2 % 64 < 55296 ∨ (57344 ≤ b0 % 16 * 4096 + b1 % 64 * 64 + b2 % 64 ∧ b0 % 16 * 4096 + b1 % 64 * 64 + b2 % 64 ≤ 1114111))
          · have hn : Lib.decodeN (s.size - i) b0 b1 b2 b3 = (b0 % 16 * 4096 + b1 % 64 * 64 + b2 % 64, 3) := by unfold Lib.decodeN; rw [if_neg c1, if_neg (by omega), if_pos (by omega), if_pos d4]
            rw [hn, if_neg (by omega)]
            refine ⟨fun h => ?_, fun _ r hr => l0_more 1 hr⟩
            rcases h with h | ⟨_, h⟩
            · exact absurd h c0
            · simp only at h; omega
          · have hn : Lib.decodeN (s.size - i) b0 b1 b2 b3 = (65533, 1) := by unfold Lib.decodeN; rw [if_neg c1, if_neg (by omega), if_pos (by omega), if_neg d4]
            rw [hn, if_pos (by omega)]
            exact ⟨fun _ => rfl, fun h => absurd (.inr ⟨rfl, rfl⟩) h⟩
  · rw [show k + 8 = (k + 5) + 3 from rfl, valid_4 hi (by omega) (by omega), e0, show k + 5 = (k + 4) + 1 from rfl, j3_at hs hi]
    by_cases d1 : s.size - i ≤ 3
    · have hn : Lib.decodeN (s.size - i) b0 b1 b2 b3 = (65533, 1) := by unfold Lib.decodeN; rw [if_neg c1, if_neg (by omega), if_neg (by omega), if_neg (by omega)]
      rw [hn, if_pos (by omega)]
      exact ⟨fun _ => rfl, fun h => absurd (.inr ⟨rfl, rfl⟩) h⟩
    · rw [if_neg (by omega)]
      by_cases d2 : b1 < 128 ∨ 192 ≤ b1
      · have hn : Lib.decodeN (s.size - i) b0 b1 b2 b3 = (65533, 1) := by unfold Lib.decodeN; rw [if_neg c1, if_neg (by omega), if_neg (by omega), if_neg (by omega)]
        rw [hn, show k + 4 = (k + 3) + 1 from rfl, l1_bad hs (j := 1) (by omega) (by omega) e1 d2]
        exact ⟨fun _ => rfl, fun h => absurd (.inr ⟨rfl, rfl⟩) h⟩
      · rw [show k + 4 = (k + 3) + 1 from rfl, l1_go hs (j := 1) (by omega) (by omega) e1 (by omega) (by omega) (by omega) (by omega)]
        by_cases d3 : b2 < 128 ∨ 192 ≤ b2
        · have hn : Lib.decodeN (s.size - i) b0 b1 b2 b3 = (65533, 1) := by unfold Lib.decodeN; rw [if_neg c1, if_neg (by omega), if_neg (by omega), if_neg (by omega)]
          rw [hn, show k + 3 = (k + 2) + 1 from rfl, l1_bad hs (j := 2) (by omega) (by omega) e2 d3]
          exact ⟨fun _ => rfl, fun h => absurd (.inr ⟨rfl, rfl⟩) h⟩
        · rw [show k + 3 = (k + 2) + 1 from rfl, l1_go hs (j := 2) (by omega) (by omega) e2 (by omega) (by omega) (by omega) (by omega)]
          by_cases d4 : b3 < 128 ∨ 192 ≤ b3
          · have hn : Lib.decodeN (s.size - i) b0 b1 b2 b3 = (65533, 1) := by unfold Lib.decodeN; rw [if_neg c1, if_neg (by omega), if_neg (by omega), if_neg (by omega)]
            rw [hn, show k + 2 = (k + 1) + 1 from rfl, l1_bad hs (j := 3) (by omega) (by omega) e3 d4]
            exact ⟨fun _ => rfl, fun h => absurd (.inr ⟨rfl, rfl⟩) h⟩
          · rw [show k + 2 = (k + 1) + 1 from rfl, l1_go hs (j := 3) (by omega) (by omega) e3 (by omega) (by omega) (by omega) (by omega), l1_end hs (by omega) (by omega) (by omega)]
            by_cases d5 : b0 % 8 * 262144 + b1 % 64 * 4096 + b2 % 64 * 64 + b3 % 64 ≥ 65536 ∧ (b0 % 8 * 262144 + b1 % 64 * 4096 + b2 % 64 * 64 + b3 % 64 < 55296 ∨ (57344 ≤ b0 % 8 * 262144 + b1 % 64 * 4096 + b2 % 64 * 64 + b3 % 64 ∧ b0 % 8 * 262144 + b1 % 64 * 4096 + b2 % 64 * 64 + b3 % 64 ≤ 1114111))
            · have hn : Lib.decodeN (s.size - i) b0 b1 b2 b3 = (b0 % 8 * 262144 + b1 % 64 * 4096 + b2 % 64 * 64 + b3 % 64, 4) := by unfold Lib.decodeN; rw [if_neg c1, if_neg (by omega), if_neg (by omega), if_pos (by omega), if_pos d5]
              rw [hn, if_neg (by omega)]
              refine ⟨fun h => ?_, fun _ r hr => hr⟩
              rcases h with h | ⟨_, h⟩
              · exact absurd h c0
              · simp only at h; omega
            · have hn : Lib.decodeN (s.size - i) b0 b1 b2 b3 = (65533, 1) := by unfold Lib.decodeN; rw [if_neg c1, if_neg (by omega), if_neg (by omega), if_pos (by omega), if_neg d5]
              rw [hn, if_pos (by omega)]
              exact ⟨fun _ => rfl, fun h => absurd (.inr ⟨rfl, rfl⟩) h⟩
end Go.Proofs.Ytijohhadgioolaa
