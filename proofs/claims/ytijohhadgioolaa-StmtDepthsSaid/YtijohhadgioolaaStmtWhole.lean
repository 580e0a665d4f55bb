/-
  Plain law: the reference's look at UTF-8 ends, and tells 'wholeV': valid UTF-8 and no byte 0; the contract of the reference's Right with it. Conditions: the text is no longer than 2^63 - 1.
-/
import Derived.Test.YtijohhadgioolaaStmtValid
namespace Go.Proofs.Ytijohhadgioolaa
open Go.RowKit Go.Proofs.Ytijohhadgioolaa.PStmtDepths Go.Proofs.YtijohhadgioolaaW.PrintWords
set_option linter.unusedVariables false
set_option linter.unusedSimpArgs false

def wholeN : Nat → List UInt8 → Bool
  | 0, _ => true
  | n + 1, l => if l = [] then true else if l.headD 0 = 0 then false else if (Lib.decodeL l).1 = 65533 ∧ (Lib.decodeL l).2 = 1 then false else wholeN n (l.drop (Lib.decodeL l).2)
theorem at0_drop (s : ByteArray) (i j : Nat) : (((s.data.toList.drop i).drop j).headD 0).toNat = at0 s (i + j) := by
  unfold at0
  rw [List.drop_drop, List.headD_eq_head?_getD, List.head?_drop, List.getD_eq_getElem?_getD]
theorem badAt_iff (s : ByteArray) (i : Nat) : badAt s i ↔ ((s.data.toList.drop i).headD 0 = 0 ∨ ((Lib.decodeL (s.data.toList.drop i)).1 = 65533 ∧ (Lib.decodeL (s.data.toList.drop i)).2 = 1)) := by
  unfold badAt
  rw [Lib.decodeL_drop]
  have h := at0_drop s i 0
  rw [List.drop_zero, Nat.add_zero] at h
  rw [← h, ← UInt8.toNat_inj (b := 0)]
  rfl
theorem valid_from (s : ByteArray) (hs : s.size ≤ 9223372036854775807) : ∀ n i, s.size - i ≤ n → ∃ k, lapidaryref02_valid.l0 k s (i : Int) = some (wholeN n (s.data.toList.drop i)) := by
  intro n
  induction n with
  | zero =>
    intro i h
    refine ⟨1, ?_⟩
    rw [lapidaryref02_valid.l0, if_neg (by omega)]
    rfl
  | succ n ih =>
    intro i h
    by_cases hi : i < s.size
    · have hl : s.data.toList.drop i ≠ [] := by
        intro he
        have := congrArg List.length he
        simp at this
        omega
      by_cases hb : badAt s i
      · refine ⟨8, ?_⟩
        rw [(valid_step 0 s i hs hi).1 hb, wholeN, if_neg hl]
        rcases (badAt_iff s i).1 hb with h1 | h1
        · rw [if_pos h1]
        · by_cases h2 : (s.data.toList.drop i).headD 0 = 0
          · rw [if_pos h2]
          · rw [if_neg h2, if_pos h1]
      · have hw : 1 ≤ (Utf8.decode s i).2 := Lib.width_pos s i
        obtain ⟨k, hk⟩ := ih (i + (Utf8.decode s i).2) (by omega)
        refine ⟨k + 8, (valid_step k s i hs hi).2 hb _ ?_⟩
        have hb' := fun h => hb ((badAt_iff s i).2 h)
        rw [hk, wholeN, if_neg hl, if_neg (fun h => hb' (.inl h)), if_neg (fun h => hb' (.inr h)), List.drop_drop, Lib.decodeL_drop]
    · refine ⟨1, ?_⟩
      rw [lapidaryref02_valid.l0, if_neg (by omega), wholeN, if_pos (by apply List.drop_eq_nil_of_le; simp; omega)]
/-- is the text whole? -/
def wholeV (s : ByteArray) : Bool := wholeN s.size s.data.toList
theorem valid_f (s : ByteArray) (hs : s.size ≤ 9223372036854775807) : ∃ k, lapidaryref02_valid.f k s = some (wholeV s) := by
  obtain ⟨k, hk⟩ := valid_from s hs s.size 0 (by omega)
  exact ⟨k, by unfold lapidaryref02_valid.f; simpa [wholeV] using hk⟩

/-- is it a right value? -/
def rightV (k i : Int) (s : ByteArray) (b : Bool) : Bool :=
  if k = 0 then decide (i = 0 ∧ s.toList = []) && !b
  else if k = 1 then decide (s.toList = []) && !b
  else if k = 2 then decide (i = 0 ∧ s.size ≤ 60) && !b && wholeV s
  else if k = 3 then decide (i = 0 ∧ s.toList = []) else false
theorem right_f (k i : Int) (s : ByteArray) (b : Bool) : ∃ n, lapidaryref02_Right.f n k i s b = some (rightV k i s b) := by
  unfold lapidaryref02_Right.f rightV
  by_cases h0 : k = 0
  · refine ⟨0, ?_⟩
    subst h0
    by_cases h1 : i = 0 <;> by_cases h2 : s.toList = [] <;> simp [h1, h2]
  by_cases h1 : k = 1
  · refine ⟨0, ?_⟩
    subst h1
    by_cases h2 : s.toList = [] <;> simp [h2]
  by_cases h2 : k = 2
  · subst h2
    by_cases h3 : (s.size : Int) ≤ 60
    · obtain ⟨n, hn⟩ := valid_f s (by omega)
      refine ⟨n, ?_⟩
      have h3' : s.size ≤ 60 := by omega
      rw [hn]
      by_cases h1 : i = 0 <;> cases b <;> simp [h1, h3, h3']
    · refine ⟨0, ?_⟩
      have h3' : ¬ s.size ≤ 60 := by omega
      by_cases h1 : i = 0 <;> cases b <;> simp [h1, h3, h3']
  by_cases h3 : k = 3
  · refine ⟨0, ?_⟩
    subst h3
    by_cases h1 : i = 0
    · by_cases h2 : s.toList = [] <;> simp [h1, h2]
    · simp [h1]
  · exact ⟨0, by simp [h0, h1, h2, h3]⟩
theorem ref_right (k i : Int) (s : ByteArray) (b : Bool) (w : World) :
    Calls Try.prog 18 #[.agg #[.int .u8 k, .int .i64 i, .string s, .bool b]] w fun e w' => e = .returned (.bool (rightV k i s b)) ∧ Below w.heap.size w w' := by
  obtain ⟨n, hn⟩ := right_f k i s b
  exact lapidaryref02_Right.calls n k i s b _ w hn
end Go.Proofs.Ytijohhadgioolaa
