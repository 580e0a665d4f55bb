/-
  Plain law of the small functions of the lexer's reference, in their printed form: letter, digit, single, lower, Right, Whole. Conditions: the text is no longer than 4000 bytes.
-/
import Derived.Test.YtfbikpddpdkllaaDoorLexSplitLaw
import Derived.Test.YtfbikpddpdkllaaDoorLexRead
import Derived.Test.YtfbikpddpdkllaaDoorLxF18
import Derived.Test.YtfbikpddpdkllaaDoorLxF19
import Derived.Test.YtfbikpddpdkllaaDoorLxF20
import Derived.Test.YtfbikpddpdkllaaDoorLxF24
namespace Go.Proofs.YtfbikpddpdkllaaDoor
open Go.RowKit Go.Proofs.YtfbikpddpdkllaaDoor.Lx Go.Proofs.YtfbikpddpdkllaaDoorW.PrintWords
set_option linter.unusedVariables false
set_option linter.unusedSimpArgs false

def c35 (t : Tok) : S35 := ⟨t.k, ⟨t.s.toArray⟩, t.n⟩
def out35 (acc : List S35) (x : List Tok × Int) : List S35 × Int := if x.2 = 0 then (acc ++ x.1.map c35, 0) else ([], x.2)
def byteZ (l : List UInt8) : List Int := l.map fun c => (c.toNat : Int)
theorem str_byteZ (l : List UInt8) : strOfNums (byteZ l) = ⟨l.toArray⟩ := by
  unfold strOfNums byteZ
  have h : ((fun n : Int => UInt8.ofNat n.toNat) ∘ fun c : UInt8 => (c.toNat : Int)) = id := by funext c; simp
  rw [List.map_map, h, List.map_id]
theorem byteZ_snoc (l : List UInt8) (c : UInt8) : byteZ (l ++ [c]) = byteZ l ++ [(c.toNat : Int)] := by simp [byteZ]
theorem byteZ_len (l : List UInt8) : (byteZ l).length = l.length := by simp [byteZ]
theorem bt_list (s : ByteArray) (i : Nat) (c : UInt8) (h : s.data.toList[i]? = some c) : i < s.size ∧ bt s (i : Int) = (c.toNat : Int) := by
  obtain ⟨h1, h2⟩ := List.getElem?_eq_some_iff.1 h
  have h3 : i < s.size := by simpa using h1
  refine ⟨h3, ?_⟩
  unfold bt
  rw [dif_pos (by simpa using h3), ← h2]
  simp
  rfl
theorem wr1 (i : Nat) (h : i ≤ 4000) : wrap64 ((i : Int) + 1) = ((i + 1 : Nat) : Int) := by rw [w64' (by omega) (by omega)]; simp
theorem wr2 (i : Nat) (h : i ≤ 4000) : wrap64 ((i : Int) + 2) = ((i + 2 : Nat) : Int) := by rw [w64' (by omega) (by omega)]; simp
theorem rletter_f (c : UInt8) : lapidaryref14_letter.f (c.toNat : Int) = some (isLet c) := by
  unfold lapidaryref14_letter.f isLet
  have h95 : (((c.toNat : Nat) : Int) == 95) = decide (c.toNat = 95) := by rw [Bool.eq_iff_iff]; simp; omega
  by_cases h1 : 97 ≤ c.toNat
  · rw [if_pos (by omega), decide_eq_true h1]
    by_cases h2 : c.toNat ≤ 122
    · rw [if_pos (by omega), decide_eq_true h2]; rfl
    · rw [if_neg (by omega), if_pos (by omega), if_neg (by omega), h95, decide_eq_false h2, decide_eq_false (show ¬ c.toNat ≤ 90 by omega)]
      simp
  · rw [if_neg (by omega), decide_eq_false h1]
    by_cases h3 : 65 ≤ c.toNat
    · rw [if_pos (by omega), decide_eq_true h3]
      by_cases h4 : c.toNat ≤ 90
      · rw [if_pos (by omega), decide_eq_true h4]; rfl
      · rw [if_neg (by omega), h95, decide_eq_false h4]; simp
    · rw [if_neg (by omega), h95, decide_eq_false h3]; simp
theorem rdigit_f (c : UInt8) : lapidaryref14_digit.f (c.toNat : Int) = some (isDig c) := by
  unfold lapidaryref14_digit.f isDig
  by_cases h1 : 48 ≤ c.toNat
  · rw [if_pos (by omega), decide_eq_true h1, Bool.true_and]
    congr 1
    rw [Bool.eq_iff_iff]
    simp
    omega
  · rw [if_neg (by omega), decide_eq_false h1]; rfl
theorem single_all : ∀ n : Fin 256, lapidaryref14_single.f 14 ((n.val : Nat) : Int) = some (signs.contains (UInt8.ofNat n.val)) := by decide +kernel
theorem rsingle_f (c : UInt8) : Ev (fun k => lapidaryref14_single.f k (c.toNat : Int)) (signs.contains c) := by
  have h := single_all ⟨c.toNat, c.toNat_lt⟩
  have e : UInt8.ofNat c.toNat = c := by simp
  simp only [e] at h
  exact Ev.of (fun k => lapidaryref14_single.mono _ k) h
theorem low_byte (c : UInt8) (h : 65 ≤ c.toNat ∧ c.toNat ≤ 90) : (((c.toNat : Nat) : Int) + 32) % 256 = ((lowB c).toNat : Int) := by
  unfold lowB
  rw [if_pos h, UInt8.toNat_add]
  simp
theorem low_same (c : UInt8) (h : ¬ (65 ≤ c.toNat ∧ c.toNat ≤ 90)) : lowB c = c := if_neg h
theorem lower_l0 (s : ByteArray) (hs : s.size ≤ 4000) : ∀ (n i : Nat) (a : List UInt8), s.size ≤ i + n → i ≤ s.size → a.length ≤ i → Ev (fun k => lapidaryref14_lower.l0 k s (byteZ a) (i : Int)) ⟨(a ++ (s.data.toList.drop i).map lowB).toArray⟩
  | n, i, a, hn, hi, ha => by
    have hl : s.data.toList.length = s.size := by simp
    by_cases hlt : i < s.size
    · obtain ⟨m, rfl⟩ : ∃ m, n = m + 1 := ⟨n - 1, by omega⟩
      obtain ⟨c, hc⟩ : ∃ c, s.data.toList[i]? = some c := ⟨_, List.getElem?_eq_getElem (by omega)⟩
      obtain ⟨_, hb⟩ := bt_list s i c hc
      have ih := lower_l0 s hs m (i + 1) (a ++ [lowB c]) (by omega) (by omega) (by simp; omega)
      rw [drop_at hc, List.map_cons, show a ++ lowB c :: (s.data.toList.drop (i + 1)).map lowB = a ++ [lowB c] ++ (s.data.toList.drop (i + 1)).map lowB by simp]
      refine Ev.step (fun k => ?_) ih
      rw [lapidaryref14_lower.l0, if_pos (by omega), if_pos (by omega), hb, wr1 i (by omega), byteZ_snoc, byteZ_len]
      by_cases h1 : 65 ≤ c.toNat
      · by_cases h2 : c.toNat ≤ 90
        · rw [if_pos (by omega), if_pos (by omega), if_pos (by omega), low_byte c ⟨h1, h2⟩]
        · rw [if_pos (by omega), if_neg (by omega), if_pos (by omega), low_same c (fun h => h2 h.2)]
      · rw [if_neg (by omega), if_pos (by omega), low_same c (fun h => h1 h.1)]
    · rw [List.drop_eq_nil_of_le (by omega)]
      refine Ev.step (f := fun _ => some (strOfNums (byteZ a))) (fun k => ?_) (by rw [str_byteZ]; simpa using Ev.now _)
      rw [lapidaryref14_lower.l0, if_neg (by omega)]
theorem lower_f (s : ByteArray) (hs : s.size ≤ 4000) : Ev (fun k => lapidaryref14_lower.f k s) ⟨(s.data.toList.map lowB).toArray⟩ := by
  have := lower_l0 s hs s.size 0 [] (by omega) (by omega) (by simp)
  rw [List.drop_zero, List.nil_append] at this
  exact this
theorem rright_f (t : List UInt8) : Ev (fun k => lapidaryref02_Right.f k 2 0 ⟨t.toArray⟩ false) (decide (t.length ≤ 60) && wholeL t) := by
  obtain ⟨n, hn⟩ := right_f 2 0 ⟨t.toArray⟩ false
  have e : rightV 2 0 ⟨t.toArray⟩ false = (decide (t.length ≤ 60) && wholeL t) := by
    unfold rightV wholeL
    simp [ByteArray.size]
  rw [e] at hn
  exact Ev.of (fun k => lapidaryref02_Right.mono _ _ _ _ k) hn
theorem rwhole_f (t : List UInt8) (h : t.length ≤ 4000) : Ev (fun k => lapidaryref02_Whole.f k ⟨t.toArray⟩) (wholeL t) := by
  obtain ⟨n, hn⟩ := valid_f ⟨t.toArray⟩ (by simp [ByteArray.size]; omega)
  have hw : lapidaryref02_Whole.f n ⟨t.toArray⟩ = some (wholeL t) := by
    unfold lapidaryref02_Whole.f
    rw [hn]
    rfl
  exact Ev.of (fun k => lapidaryref02_Whole.mono _ k) hw
theorem ref_read_f (s : ByteArray) (h : s.size ≤ 4000) : lapidaryref01_Read.f s = some (readV s.data.toList, readE s.data.toList) := by
  unfold lapidaryref01_Read.f
  rw [if_pos (by omega)]
end Go.Proofs.YtfbikpddpdkllaaDoor
