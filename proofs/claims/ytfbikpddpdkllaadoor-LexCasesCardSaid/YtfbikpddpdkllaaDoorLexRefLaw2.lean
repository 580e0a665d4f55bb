/-
  Plain law: the printed Split of the lexer's reference comes to 'toks', as lex.Split does. Conditions: none beyond the bound of the document (2000 bytes).
-/
import Derived.Test.YtfbikpddpdkllaaDoorLexRefLaw1
import Derived.Test.YtfbikpddpdkllaaDoorLexPlain
import Derived.Test.YtfbikpddpdkllaaDoorLxF11
namespace Go.Proofs.YtfbikpddpdkllaaDoor
open Go.RowKit Go.Proofs.YtfbikpddpdkllaaDoor.Lx Go.Proofs.YtfbikpddpdkllaaDoorW.PrintWords
set_option linter.unusedVariables false
set_option linter.unusedSimpArgs false

theorem runLen_in (p : UInt8 → Bool) : ∀ (l : List UInt8) (j : Nat), j < runLen p l → ∃ c, l[j]? = some c ∧ p c = true
  | [], j, h => by simp [runLen] at h
  | a :: l, j, h => by
    rw [runLen_cons] at h
    by_cases ha : p a = true
    · rw [if_pos ha] at h
      cases j with
      | zero => exact ⟨a, rfl, ha⟩
      | succ j =>
        obtain ⟨c, h1, h2⟩ := runLen_in p l j (by omega)
        exact ⟨c, by simpa using h1, h2⟩
    · rw [if_neg ha] at h; omega
theorem runLen_out (p : UInt8 → Bool) : ∀ (l : List UInt8) (c : UInt8), l[runLen p l]? = some c → p c = false
  | [], c, h => by simp at h
  | a :: l, c, h => by
    rw [runLen_cons] at h
    by_cases ha : p a = true
    · rw [if_pos ha] at h
      exact runLen_out p l c (by simpa using h)
    · rw [if_neg ha] at h
      have : a = c := by simpa using h
      rw [← this]
      simpa using ha
theorem at_drop {l : List UInt8} {i j : Nat} (h : i ≤ j) : l[j]? = (l.drop i)[j - i]? := by
  rw [List.getElem?_drop]
  congr 1
  omega
theorem blank_cases {c : UInt8} : isBl c = true ↔ c.toNat = 32 ∨ c.toNat = 9 ∨ c.toNat = 10 ∨ c.toNat = 13 := by
  unfold isBl
  simp [or_assoc]
theorem l0_j1 (k : Nat) (s : ByteArray) (acc : List S35) (i : Nat) (c : UInt8) (hc : s.data.toList[i]? = some c) :
    lapidaryref14_Split.l0 (k + 1) s acc (i : Int) = lapidaryref14_Split.j1 k s acc (i : Int) (c.toNat : Int) (i : Int) (isBl c) := by
  obtain ⟨hi, hb⟩ := bt_list s i c hc
  rw [lapidaryref14_Split.l0, if_pos (by omega), if_pos (by omega), hb]
  by_cases h1 : c.toNat = 32
  · rw [if_pos (by omega), blank_cases.2 (.inl h1)]
  · rw [if_neg (by omega)]
    by_cases h2 : c.toNat = 9
    · rw [if_pos (by omega), blank_cases.2 (.inr (.inl h2))]
    · rw [if_neg (by omega)]
      by_cases h3 : c.toNat = 10
      · rw [if_pos (by omega), blank_cases.2 (.inr (.inr (.inl h3)))]
      · rw [if_neg (by omega)]
        have : (((c.toNat : Nat) : Int) == 13) = isBl c := by
          rw [Bool.eq_iff_iff, blank_cases, beq_iff_eq]
          omega
        rw [this]
theorem l0_end (k : Nat) (s : ByteArray) (acc : List S35) (i : Nat) (h : s.size ≤ i) : lapidaryref14_Split.l0 (k + 1) s acc (i : Int) = some (acc, 0) := by
  rw [lapidaryref14_Split.l0, if_neg (by omega)]
def endW (s : ByteArray) (acc : List S35) (i e : Nat) (k : Nat) : Option (List S35 × Int) :=
  (lapidaryref14_lower.f k (s.extract i e)).bind fun t => if acc.length < 4398046511104 then lapidaryref14_Split.l0 k s (acc ++ [(⟨1, t, 0⟩ : S35)]) (e : Int) else none
def endN (s : ByteArray) (acc : List S35) (i e : Nat) (k : Nat) : Option (List S35 × Int) :=
  (lapidaryref01_Read.f (s.extract i e)).bind fun b => if b.2 = 0 then (if acc.length < 4398046511104 then lapidaryref14_Split.l0 k s (acc ++ [(⟨2, (⟨#[]⟩ : ByteArray), b.1⟩ : S35)]) (e : Int) else none) else some (([] : List S35), b.2)
theorem l1_run (s : ByteArray) (hs : s.size ≤ 2000) (acc : List S35) (i e : Nat) (he : e = i + runLen isWd (s.data.toList.drop i)) (hes : e ≤ s.size) (R : List S35 × Int) (hE : Ev (endW s acc i e) R) :
    ∀ (n j : Nat), e ≤ j + n → i ≤ j → j ≤ e → Ev (fun k => lapidaryref14_Split.l1 k s acc (j : Int) (i : Int)) R
  | n, j, hn, hij, hje => by
    by_cases hlt : j < e
    · obtain ⟨m, rfl⟩ : ∃ m, n = m + 1 := ⟨n - 1, by omega⟩
      obtain ⟨c, hc, hw⟩ := runLen_in isWd (s.data.toList.drop i) (j - i) (by omega)
      rw [← at_drop hij] at hc
      obtain ⟨hj, hb⟩ := bt_list s j c hc
      refine Ev.step (fun k => ?_) (l1_run s hs acc i e he hes R hE m (j + 1) (by omega) (by omega) (by omega))
      rw [lapidaryref14_Split.l1, if_pos (by omega), if_pos (by omega), hb, rletter_f, wr1 j (by omega)]
      simp only [Option.bind_some]
      cases hl : isLet c with
      | true => rw [if_pos rfl]
      | false =>
        rw [if_neg (by decide), rdigit_f]
        have hd : isDig c = true := by unfold isWd at hw; rw [hl, Bool.false_or] at hw; exact hw
        simp only [Option.bind_some]
        rw [if_pos hd]
    · obtain rfl : j = e := by omega
      refine Ev.step (fun k => ?_) hE
      by_cases hjs : j < s.size
      · have hl : s.data.toList.length = s.size := by simp
        obtain ⟨c, hc⟩ : ∃ c, s.data.toList[j]? = some c := ⟨_, List.getElem?_eq_getElem (by omega)⟩
        obtain ⟨hj, hb⟩ := bt_list s j c hc
        have hw : isWd c = false := by
          rw [at_drop hij, show j - i = runLen isWd (s.data.toList.drop i) by omega] at hc
          exact runLen_out _ _ _ hc
        have hw2 : isLet c = false ∧ isDig c = false := by
          unfold isWd at hw
          exact Bool.or_eq_false_iff.1 hw
        rw [lapidaryref14_Split.l1, if_pos (by omega), if_pos (by omega), hb, rletter_f, rdigit_f, hw2.1, hw2.2]
        simp only [Option.bind_some, Bool.false_eq_true, if_false]
        rw [if_pos (by omega), if_pos (by omega), if_pos (by omega)]
        rfl
      · rw [lapidaryref14_Split.l1, if_neg (by omega), if_pos (by omega), if_pos (by omega), if_pos (by omega)]
        rfl
theorem l2_run (s : ByteArray) (hs : s.size ≤ 2000) (acc : List S35) (i e : Nat) (he : e = i + runLen isDig (s.data.toList.drop i)) (hes : e ≤ s.size) (R : List S35 × Int) (hE : Ev (endN s acc i e) R) :
    ∀ (n j : Nat), e ≤ j + n → i ≤ j → j ≤ e → Ev (fun k => lapidaryref14_Split.l2 k s acc (j : Int) (i : Int)) R
  | n, j, hn, hij, hje => by
    by_cases hlt : j < e
    · obtain ⟨m, rfl⟩ : ∃ m, n = m + 1 := ⟨n - 1, by omega⟩
      obtain ⟨c, hc, hw⟩ := runLen_in isDig (s.data.toList.drop i) (j - i) (by omega)
      rw [← at_drop hij] at hc
      obtain ⟨hj, hb⟩ := bt_list s j c hc
      refine Ev.step (fun k => ?_) (l2_run s hs acc i e he hes R hE m (j + 1) (by omega) (by omega) (by omega))
      rw [lapidaryref14_Split.l2, if_pos (by omega), if_pos (by omega), hb, rdigit_f, wr1 j (by omega)]
      simp only [Option.bind_some]
      rw [if_pos hw]
    · obtain rfl : j = e := by omega
      refine Ev.step (fun k => ?_) hE
      by_cases hjs : j < s.size
      · have hl : s.data.toList.length = s.size := by simp
        obtain ⟨c, hc⟩ : ∃ c, s.data.toList[j]? = some c := ⟨_, List.getElem?_eq_getElem (by omega)⟩
        obtain ⟨hj, hb⟩ := bt_list s j c hc
        have hw : isDig c = false := by
          rw [at_drop hij, show j - i = runLen isDig (s.data.toList.drop i) by omega] at hc
          exact runLen_out _ _ _ hc
        rw [lapidaryref14_Split.l2, if_pos (by omega), if_pos (by omega), hb, rdigit_f, hw]
        simp only [Option.bind_some, Bool.false_eq_true, if_false]
        rw [if_pos (by omega), if_pos (by omega), if_pos (by omega)]
        rfl
      · rw [lapidaryref14_Split.l2, if_neg (by omega), if_pos (by omega), if_pos (by omega), if_pos (by omega)]
        rfl

/-! ### texts -/
theorem byte_is (c m : UInt8) : ((c.toNat : Int) = (m.toNat : Int)) ↔ c = m := ⟨fun h => UInt8.toNat_inj.1 (by omega), fun h => by rw [h]⟩
theorem byte_39i (c : UInt8) : ((c.toNat : Int) = 39) ↔ c = 39 := byte_is c 39
theorem byte_60i (c : UInt8) : ((c.toNat : Int) = 60) ↔ c = 60 := byte_is c 60
theorem byte_61i (c : UInt8) : ((c.toNat : Int) = 61) ↔ c = 61 := byte_is c 61
theorem byte_62i (c : UInt8) : ((c.toNat : Int) = 62) ↔ c = 62 := byte_is c 62
theorem textL_c {c : UInt8} (h : c ≠ 39) (r : List UInt8) : textL (c :: r) = (textL r).map fun x => (c :: x.1, x.2 + 1) := by
  cases r with
  | nil => simp [textL, h]
  | cons d r => rw [textL, if_neg h]
theorem l3_run (s : ByteArray) (hs : s.size ≤ 2000) (acc : List S35) : ∀ (n j : Nat) (a : List UInt8) (R : List S35 × Int), s.size ≤ j + n → j ≤ s.size → a.length ≤ j →
    (textL (s.data.toList.drop j) = none → R = ([], 4)) → (∀ x, textL (s.data.toList.drop j) = some x → Ev (fun k => lapidaryref14_Split.l3 k s acc ((j + x.2 : Nat) : Int) (byteZ (a ++ x.1)) true) R) →
    Ev (fun k => lapidaryref14_Split.l3 k s acc (j : Int) (byteZ a) false) R
  | n, j, a, R, hn, hj, ha, h0, h1 => by
    have hl : s.data.toList.length = s.size := by simp
    by_cases hlt : j < s.size
    · obtain ⟨m, rfl⟩ : ∃ m, n = m + 1 := ⟨n - 1, by omega⟩
      obtain ⟨c, hc⟩ : ∃ c, s.data.toList[j]? = some c := ⟨_, List.getElem?_eq_getElem (by omega)⟩
      obtain ⟨_, hb⟩ := bt_list s j c hc
      have hdr := drop_at hc
      have first : ∀ k, lapidaryref14_Split.l3 (k + 1) s acc (j : Int) (byteZ a) false = lapidaryref14_Split.j5 k s acc (j : Int) (byteZ a) false true := fun k => by
        rw [lapidaryref14_Split.l3, if_pos (by omega)]; rfl
      by_cases h39 : c = 39
      · subst h39
        by_cases hj1 : j + 1 < s.size
        · obtain ⟨d, hd⟩ : ∃ d, s.data.toList[j + 1]? = some d := ⟨_, List.getElem?_eq_getElem (by omega)⟩
          obtain ⟨_, hb1⟩ := bt_list s (j + 1) d hd
          have hdr1 := drop_at hd
          by_cases hd39 : d = 39
          · subst hd39
            have ht : textL (s.data.toList.drop j) = (textL (s.data.toList.drop (j + 2))).map fun x => (39 :: x.1, x.2 + 2) := by rw [hdr, hdr1, textL_qq]
            refine Ev.step first (Ev.step (fun k => ?_) (l3_run s hs acc m (j + 2) (a ++ [39]) R (by omega) (by omega) (by simp; omega) (fun h => h0 (by rw [ht, h]; rfl)) (fun x hx => ?_)))
            · rw [lapidaryref14_Split.j5, if_pos rfl, if_pos (by omega), if_pos (by omega), hb, if_pos (by decide), wr1 j (by omega), if_pos (by omega), if_pos (by omega), hb1, if_pos (by decide), if_pos (by rw [byteZ_len]; omega), wr2 j (by omega), byteZ_snoc]
              rfl
            · have := h1 (39 :: x.1, x.2 + 2) (by rw [ht, hx]; rfl)
              rw [show j + 2 + x.2 = j + (x.2 + 2) by omega, List.append_assoc]
              exact this
          · have ht : textL (s.data.toList.drop j) = some ([], 1) := by rw [hdr, hdr1, textL_qn hd39]
            have := h1 _ ht
            rw [List.append_nil] at this
            refine Ev.step first (Ev.step (fun k => ?_) this)
            have hne : ¬ ((d.toNat : Int) = 39) := fun h => hd39 ((byte_39i d).1 h)
            rw [lapidaryref14_Split.j5, if_pos rfl, if_pos (by omega), if_pos (by omega), hb, if_pos (by decide), wr1 j (by omega), if_pos (by omega), if_pos (by omega), hb1, if_neg hne]
        · have ht : textL (s.data.toList.drop j) = some ([], 1) := by rw [hdr, List.drop_eq_nil_of_le (by omega), textL_q1]
          have := h1 _ ht
          rw [List.append_nil] at this
          refine Ev.step first (Ev.step (fun k => ?_) this)
          rw [lapidaryref14_Split.j5, if_pos rfl, if_pos (by omega), if_pos (by omega), hb, if_pos (by decide), wr1 j (by omega), if_neg (by omega)]
      · have hne : ¬ ((c.toNat : Int) = 39) := fun h => h39 ((byte_39i c).1 h)
        have ht : textL (s.data.toList.drop j) = (textL (s.data.toList.drop (j + 1))).map fun x => (c :: x.1, x.2 + 1) := by rw [hdr, textL_c h39]
        refine Ev.step first (Ev.step (fun k => ?_) (l3_run s hs acc m (j + 1) (a ++ [c]) R (by omega) (by omega) (by simp; omega) (fun h => h0 (by rw [ht, h]; rfl)) (fun x hx => ?_)))
        · rw [lapidaryref14_Split.j5, if_pos rfl, if_pos (by omega), if_pos (by omega), hb, if_neg hne, if_pos (by rw [byteZ_len]; omega), wr1 j (by omega), byteZ_snoc]
        · have := h1 (c :: x.1, x.2 + 1) (by rw [ht, hx]; rfl)
          rw [show j + 1 + x.2 = j + (x.2 + 1) by omega, List.append_assoc]
          exact this
    · rw [h0 (by rw [List.drop_eq_nil_of_le (by omega)]; rfl)]
      refine Ev.step (f := fun k => lapidaryref14_Split.j5 k s acc (j : Int) (byteZ a) false false) (fun k => by rw [lapidaryref14_Split.l3, if_neg (by omega)]) (Ev.step (f := fun _ => some (([] : List S35), 4)) (fun k => ?_) (Ev.now _))
      rw [lapidaryref14_Split.j5, if_neg (by decide), if_neg (by decide)]
def endT (s : ByteArray) (acc : List S35) (j : Nat) (a : List UInt8) (k : Nat) : Option (List S35 × Int) :=
  (lapidaryref02_Right.f k 2 0 (strOfNums (byteZ a)) false).bind fun t => if t = true then (if acc.length < 4398046511104 then lapidaryref14_Split.l0 k s (acc ++ [(⟨3, strOfNums (byteZ a), 0⟩ : S35)]) (j : Int) else none) else (lapidaryref02_Whole.f k (strOfNums (byteZ a))).bind fun t => if t = true then some (([] : List S35), 2) else some (([] : List S35), 4)
theorem l3_closed (s : ByteArray) (acc : List S35) (j : Nat) (a : List UInt8) (R : List S35 × Int) (h : Ev (endT s acc j a) R) : Ev (fun k => lapidaryref14_Split.l3 k s acc (j : Int) (byteZ a) true) R := by
  refine Ev.step (f := fun k => lapidaryref14_Split.j5 k s acc (j : Int) (byteZ a) true false) (fun k => ?_) (Ev.step (fun k => ?_) h)
  · rw [lapidaryref14_Split.l3]
    by_cases hlt : (j : Int) < s.size
    · rw [if_pos hlt]; rfl
    · rw [if_neg hlt]
  · rw [lapidaryref14_Split.j5, if_neg (by decide), if_pos rfl]
    rfl

/-! ### signs -/
def twoAt (l : List UInt8) (i : Nat) (c : UInt8) : Bool := match l[i + 1]? with | some d => two c d | none => false
theorem j1_sign (k : Nat) (s : ByteArray) (hs : s.size ≤ 2000) (acc : List S35) (i : Nat) (c : UInt8) (hc : s.data.toList[i]? = some c) (h1 : isLet c = false) (h2 : isDig c = false) (h3 : c ≠ 39) :
    lapidaryref14_Split.j1 (k + 1) s acc (i : Int) (c.toNat : Int) (i : Int) false = lapidaryref14_Split.j6 k s acc (i : Int) (c.toNat : Int) (i : Int) (twoAt s.data.toList i c) := by
  obtain ⟨hi, _⟩ := bt_list s i c hc
  have hl : s.data.toList.length = s.size := by simp
  have e39 := byte_39i c
  have e60 := byte_60i c
  have e62 := byte_62i c
  rw [lapidaryref14_Split.j1, if_neg (by decide), rletter_f, rdigit_f, h1, h2]
  simp only [Option.bind_some, Bool.false_eq_true, if_false]
  rw [if_neg (fun h => h3 (e39.1 h)), wr1 i (by omega)]
  by_cases hlt : i + 1 < s.size
  · obtain ⟨d, hd⟩ : ∃ d, s.data.toList[i + 1]? = some d := ⟨_, List.getElem?_eq_getElem (by omega)⟩
    obtain ⟨_, hb1⟩ := bt_list s (i + 1) d hd
    have d61 := byte_61i d
    have d62 := byte_62i d
    have ht : twoAt s.data.toList i c = two c d := by unfold twoAt; rw [hd]
    have hq : (((d.toNat : Nat) : Int) == 61) = decide (d = 61) := by rw [Bool.eq_iff_iff, beq_iff_eq, decide_eq_true_iff]; exact d61
    rw [if_pos (by omega), ht, hb1, hq]
    unfold two
    by_cases a1 : c = 60
    · have a2 : c ≠ 62 := by rw [a1]; decide
      rw [if_pos (e60.2 a1), if_pos (by omega)]
      by_cases b1 : d = 61
      · rw [if_pos (d61.2 b1)]; simp [a1, b1]
      · rw [if_neg (fun h => b1 (d61.1 h))]
        by_cases b2 : d = 62
        · rw [if_pos (d62.2 b2)]; simp [a1, b2]
        · rw [if_neg (fun h => b2 (d62.1 h)), if_neg (fun h => a2 (e62.1 h))]; simp [a1, b1, b2]
    · rw [if_neg (fun h => a1 (e60.1 h))]
      by_cases a2 : c = 62
      · rw [if_pos (e62.2 a2), if_pos (by omega)]; simp [a2]
      · rw [if_neg (fun h => a2 (e62.1 h))]; simp [a1, a2]
  · have ht : twoAt s.data.toList i c = false := by unfold twoAt; rw [List.getElem?_eq_none (by omega)]
    rw [if_neg (by omega), ht]
theorem sign_at (l : List UInt8) (i : Nat) (c : UInt8) (hc : l[i]? = some c) : signL (l.drop i) = if twoAt l i c = true then 2 else if signs.contains c = true then 1 else 0 := by
  rw [drop_at hc]
  unfold twoAt
  cases hd : l[i + 1]? with
  | none =>
    have : l.drop (i + 1) = [] := by
      have := List.getElem?_eq_none_iff.1 hd
      exact List.drop_eq_nil_of_le this
    rw [this, signL]
    simp
  | some d => rw [drop_at hd, signL]
def endS (s : ByteArray) (acc : List S35) (i e : Nat) (k : Nat) : Option (List S35 × Int) := lapidaryref14_Split.l0 k s (acc ++ [(⟨4, s.extract i e, 0⟩ : S35)]) (e : Int)
theorem j6_two (s : ByteArray) (hs : s.size ≤ 2000) (acc : List S35) (ha : acc.length ≤ 4000) (i : Nat) (c : UInt8) (hi : i + 2 ≤ s.size) (R : List S35 × Int) (h : Ev (endS s acc i (i + 2)) R) :
    Ev (fun k => lapidaryref14_Split.j6 k s acc (i : Int) (c.toNat : Int) (i : Int) true) R := by
  refine Ev.step (fun k => ?_) h
  rw [lapidaryref14_Split.j6, if_pos rfl, wr2 i (by omega), if_pos (by omega), if_pos (by omega), if_pos (by omega), if_pos (by omega)]
  rfl
theorem j6_one (s : ByteArray) (hs : s.size ≤ 2000) (acc : List S35) (ha : acc.length ≤ 4000) (i : Nat) (c : UInt8) (hi : i + 1 ≤ s.size) (R : List S35 × Int) (hc : signs.contains c = true) (h : Ev (endS s acc i (i + 1)) R) :
    Ev (fun k => lapidaryref14_Split.j6 k s acc (i : Int) (c.toNat : Int) (i : Int) false) R := by
  have hb := Ev.bind (f := fun k t => if t = true then endS s acc i (i + 1) k else some (([] : List S35), 4)) (rsingle_f c) (r := R) (by rw [hc]; simpa using h)
  refine Ev.step (fun k => ?_) hb
  rw [lapidaryref14_Split.j6, if_neg (by decide), wr1 i (by omega), if_pos (by omega), if_pos (by omega), if_pos (by omega), if_pos (by omega)]
  rfl
theorem j6_none (s : ByteArray) (hs : s.size ≤ 2000) (acc : List S35) (i : Nat) (c : UInt8) (hi : i + 1 ≤ s.size) (ha : acc.length ≤ 4000) (hc : signs.contains c = false) :
    Ev (fun k => lapidaryref14_Split.j6 k s acc (i : Int) (c.toNat : Int) (i : Int) false) ([], 4) := by
  have hb := Ev.bind (f := fun k t => if t = true then endS s acc i (i + 1) k else some (([] : List S35), 4)) (rsingle_f c) (r := (([] : List S35), 4)) (by rw [hc]; simpa using Ev.now _)
  refine Ev.step (fun k => ?_) hb
  rw [lapidaryref14_Split.j6, if_neg (by decide), wr1 i (by omega), if_pos (by omega), if_pos (by omega), if_pos (by omega), if_pos (by omega)]
  rfl
theorem out_next {acc : List S35} {c : UInt8} {r : List UInt8} (h : ¬ isBl c = true) (he : (nextL (c :: r)).2.2 = 0) :
    out35 acc (toks (c :: r)) = out35 (acc ++ [c35 (nextL (c :: r)).1]) (toks ((c :: r).drop (nextL (c :: r)).2.1)) := by
  rw [toks_next h he]
  unfold out35
  by_cases h0 : (toks ((c :: r).drop (nextL (c :: r)).2.1)).2 = 0
  · rw [if_pos h0, if_pos rfl, if_pos h0]
    simp
  · rw [if_neg h0, if_neg h0, if_neg h0]
theorem out_err {acc : List S35} {c : UInt8} {r : List UInt8} (h : ¬ isBl c = true) (he : (nextL (c :: r)).2.2 ≠ 0) : out35 acc (toks (c :: r)) = ([], (nextL (c :: r)).2.2) := by
  rw [toks_err h he]
  unfold out35
  rw [if_neg he]
theorem bl_let {c : UInt8} (h : isBl c = true) : isLet c = false ∧ isDig c = false := by
  have := blank_cases.1 h
  constructor
  · unfold isLet
    rw [Bool.eq_false_iff]
    simp
    omega
  · unfold isDig
    rw [Bool.eq_false_iff]
    simp
    omega
theorem rsplit_l0 (s : ByteArray) (hs : s.size ≤ 2000) : ∀ (n i : Nat) (acc : List S35), s.size ≤ i + n → i ≤ s.size → acc.length ≤ i → Ev (fun k => lapidaryref14_Split.l0 k s acc (i : Int)) (out35 acc (toks (s.data.toList.drop i)))
  | n, i, acc, hn, hi, ha => by
    have hl : s.data.toList.length = s.size := by simp
    by_cases hlt : i < s.size
    · obtain ⟨m, rfl⟩ : ∃ m, n = m + 1 := ⟨n - 1, by omega⟩
      obtain ⟨c, hc⟩ : ∃ c, s.data.toList[i]? = some c := ⟨_, List.getElem?_eq_getElem (by omega)⟩
      have hdr := drop_at hc
      have hdd : ∀ j, (c :: s.data.toList.drop (i + 1)).drop j = s.data.toList.drop (i + j) := fun j => by rw [← hdr, List.drop_drop]
      have hex : ∀ e, i ≤ e → (s.extract i e).data.toList = (c :: s.data.toList.drop (i + 1)).take (e - i) := fun e he => by rw [Lib.extract_data, hdr]
      refine Ev.step (fun k => l0_j1 k s acc i c hc) ?_
      cases hb : isBl c with
      | true =>
        rw [hdr, toks_blank hb]
        refine Ev.step (fun k => ?_) (rsplit_l0 s hs m (i + 1) acc (by omega) (by omega) (by omega))
        rw [lapidaryref14_Split.j1, if_pos rfl, wr1 i (by omega)]
      | false =>
        have hb' : ¬ isBl c = true := by rw [hb]; decide
        have good : ∀ e : Nat, (nextL (c :: s.data.toList.drop (i + 1))).2.2 = 0 → (nextL (c :: s.data.toList.drop (i + 1))).2.1 = e - i → i < e → e ≤ s.size → Ev (fun k => lapidaryref14_Split.l0 k s (acc ++ [c35 (nextL (c :: s.data.toList.drop (i + 1))).1]) (e : Int)) (out35 acc (toks (s.data.toList.drop i))) := fun e h0 h1 h2 h3 => by
          rw [hdr, out_next hb' h0, h1, hdd, show i + (e - i) = e by omega]
          exact rsplit_l0 s hs m e _ (by omega) h3 (by rw [List.length_append, List.length_singleton]; omega)
        cases h1 : isLet c with
        | true =>
          have hn1 := nextL_word (r := s.data.toList.drop (i + 1)) h1
          have hrl := runLen_le isWd (c :: s.data.toList.drop (i + 1))
          have hr1 : 1 ≤ runLen isWd (c :: s.data.toList.drop (i + 1)) := by rw [runLen_cons, if_pos (by simp [isWd, h1])]; omega
          rw [← hdr, List.length_drop, hdr] at hrl
          have hE : Ev (endW s acc i (i + runLen isWd (c :: s.data.toList.drop (i + 1)))) (out35 acc (toks (s.data.toList.drop i))) := by
            refine Ev.bind (lower_f _ (by rw [ByteArray.size_extract]; omega)) ?_
            have hg := good (i + runLen isWd (c :: s.data.toList.drop (i + 1))) (by rw [hn1]) (by rw [hn1]; show runLen _ _ = _; omega) (by omega) (by omega)
            rw [hn1] at hg
            refine Ev.congr (fun k => ?_) hg
            rw [if_pos (by omega), hex _ (by omega), show i + runLen isWd (c :: s.data.toList.drop (i + 1)) - i = runLen isWd (c :: s.data.toList.drop (i + 1)) by omega]
            rfl
          refine Ev.step (fun k => ?_) (l1_run s hs acc i _ (by rw [hdr]) (by omega) _ hE _ i (Nat.le_refl _) (Nat.le_refl _) (by omega))
          rw [lapidaryref14_Split.j1, if_neg (by decide), rletter_f, h1]
          simp only [Option.bind_some, if_true]
        | false =>
          cases h2 : isDig c with
          | true =>
            have hn1 := nextL_num (r := s.data.toList.drop (i + 1)) h1 h2
            have hrl := runLen_le isDig (c :: s.data.toList.drop (i + 1))
            have hr1 : 1 ≤ runLen isDig (c :: s.data.toList.drop (i + 1)) := by rw [runLen_cons, if_pos h2]; omega
            rw [← hdr, List.length_drop, hdr] at hrl
            have hE : Ev (endN s acc i (i + runLen isDig (c :: s.data.toList.drop (i + 1)))) (out35 acc (toks (s.data.toList.drop i))) := by
              have hrd := ref_read_f (s.extract i (i + runLen isDig (c :: s.data.toList.drop (i + 1)))) (by rw [ByteArray.size_extract]; omega)
              rw [hex _ (by omega), show i + runLen isDig (c :: s.data.toList.drop (i + 1)) - i = runLen isDig (c :: s.data.toList.drop (i + 1)) by omega] at hrd
              by_cases h0 : readE ((c :: s.data.toList.drop (i + 1)).take (runLen isDig (c :: s.data.toList.drop (i + 1)))) = 0
              · have hg := good (i + runLen isDig (c :: s.data.toList.drop (i + 1))) (by rw [hn1]; exact h0) (by rw [hn1]; show runLen _ _ = _; omega) (by omega) (by omega)
                rw [hn1] at hg
                refine Ev.congr (fun k => ?_) hg
                unfold endN
                rw [hrd]
                simp only [Option.bind_some]
                rw [if_pos h0, if_pos (by omega)]
                rfl
              · rw [hdr, out_err hb' (by rw [hn1]; exact h0), hn1]
                refine Ev.congr (fun k => ?_) (Ev.now _)
                unfold endN
                rw [hrd]
                simp only [Option.bind_some]
                rw [if_neg h0]
            refine Ev.step (fun k => ?_) (l2_run s hs acc i _ (by rw [hdr]) (by omega) _ hE _ i (Nat.le_refl _) (Nat.le_refl _) (by omega))
            rw [lapidaryref14_Split.j1, if_neg (by decide), rletter_f, h1, rdigit_f, h2]
            simp only [Option.bind_some, Bool.false_eq_true, if_false, if_true]
          | false =>
            by_cases h3 : c = 39
            · subst h3
              have hj : ∀ k, lapidaryref14_Split.j1 (k + 1) s acc (i : Int) ((39 : UInt8).toNat : Int) (i : Int) false = lapidaryref14_Split.l3 k s acc ((i + 1 : Nat) : Int) (byteZ []) false := fun k => by
                rw [lapidaryref14_Split.j1, if_neg (by decide), rletter_f, h1, rdigit_f, h2]
                simp only [Option.bind_some, Bool.false_eq_true, if_false]
                rw [if_pos (by decide), wr1 i (by omega)]
                rfl
              refine Ev.step hj (l3_run s hs acc s.size (i + 1) [] _ (by omega) (by omega) (by simp) (fun h => ?_) (fun x hx => l3_closed s acc _ _ _ ?_))
              · have hn1 := nextL_none h
                rw [hdr, out_err hb' (by rw [hn1]; decide), hn1]
              · rw [List.nil_append]
                have hn1 := nextL_text hx
                have hlen := textL_some hx
                rw [List.length_drop] at hlen
                unfold endT
                rw [str_byteZ]
                refine Ev.bind (rright_f x.1) ?_
                cases hw : wholeL x.1 with
                | false =>
                  rw [textT_bad hw] at hn1
                  rw [hdr, out_err hb' (by rw [hn1]; decide), hn1]
                  have hb2 := Ev.bind (f := fun _ t => if t = true then some (([] : List S35), (2 : Int)) else some (([] : List S35), 4)) (rwhole_f x.1 (by omega)) (r := (([] : List S35), (4 : Int))) (by rw [hw]; simpa using Ev.now _)
                  refine Ev.congr (fun k => ?_) hb2
                  simp
                | true =>
                  by_cases hl60 : x.1.length ≤ 60
                  · rw [textT_ok hw hl60] at hn1
                    have hg := good (i + 1 + x.2) (by rw [hn1]) (by rw [hn1]; show x.2 + 1 = _; omega) (by omega) (by omega)
                    rw [hn1] at hg
                    refine Ev.congr (fun k => ?_) hg
                    rw [decide_eq_true hl60]
                    simp only [Bool.and_self, if_true]
                    rw [if_pos (by omega)]
                    rfl
                  · rw [textT_long hw (by omega)] at hn1
                    rw [hdr, out_err hb' (by rw [hn1]; decide), hn1]
                    have hb2 := Ev.bind (f := fun _ t => if t = true then some (([] : List S35), (2 : Int)) else some (([] : List S35), 4)) (rwhole_f x.1 (by omega)) (r := (([] : List S35), (2 : Int))) (by rw [hw]; simpa using Ev.now _)
                    refine Ev.congr (fun k => ?_) hb2
                    rw [decide_eq_false hl60]
                    simp
            · refine Ev.step (fun k => j1_sign k s hs acc i c hc h1 h2 h3) ?_
              have hsl := sign_at s.data.toList i c hc
              rw [hdr] at hsl
              cases ht : twoAt s.data.toList i c with
              | true =>
                rw [ht, if_pos rfl] at hsl
                have hn1 := nextL_sign (r := s.data.toList.drop (i + 1)) h1 h2 h3 (by omega)
                rw [hsl] at hn1
                have hle := signL_le (c :: s.data.toList.drop (i + 1))
                rw [hsl, ← hdr, List.length_drop] at hle
                have hg := good (i + 2) (by rw [hn1]) (by rw [hn1]; show 2 = _; omega) (by omega) (by omega)
                rw [hn1] at hg
                refine j6_two s hs acc (by omega) i c (by omega) _ (Ev.congr (fun k => ?_) hg)
                unfold endS c35
                have hx : s.extract i (i + 2) = ⟨((c :: s.data.toList.drop (i + 1)).take 2).toArray⟩ := by
                  have h5 := hex (i + 2) (by omega)
                  rw [show i + 2 - i = 2 by omega] at h5
                  rw [← h5]
                rw [hx]
              | false =>
                rw [ht, if_neg (by decide)] at hsl
                cases hc2 : signs.contains c with
                | true =>
                  rw [hc2, if_pos rfl] at hsl
                  have hn1 := nextL_sign (r := s.data.toList.drop (i + 1)) h1 h2 h3 (by omega)
                  rw [hsl] at hn1
                  have hg := good (i + 1) (by rw [hn1]) (by rw [hn1]; show 1 = _; omega) (by omega) (by omega)
                  rw [hn1] at hg
                  refine j6_one s hs acc (by omega) i c (by omega) _ hc2 (Ev.congr (fun k => ?_) hg)
                  unfold endS c35
                  have hx : s.extract i (i + 1) = ⟨((c :: s.data.toList.drop (i + 1)).take 1).toArray⟩ := by
                    have h5 := hex (i + 1) (by omega)
                    rw [show i + 1 - i = 1 by omega] at h5
                    rw [← h5]
                  rw [hx]
                | false =>
                  rw [hc2, if_neg (by decide)] at hsl
                  have hn1 := nextL_bad (r := s.data.toList.drop (i + 1)) h1 h2 h3 hsl
                  rw [hdr, out_err hb' (by rw [hn1]; decide), hn1]
                  exact j6_none s hs acc i c (by omega) (by omega) hc2
    · rw [List.drop_eq_nil_of_le (by omega), toks_nil]
      refine Ev.step (f := fun _ => some (acc, 0)) (fun k => l0_end k s acc i (by omega)) (by simpa [out35] using Ev.now (acc, (0 : Int)))
theorem rsplit_f (s : ByteArray) : Ev (fun k => lapidaryref14_Split.f k s) (out35 [] (splitV s)) := by
  unfold splitV
  by_cases h : 2000 < s.size
  · rw [if_pos h]
    refine Ev.congr (f := fun _ => some (([] : List S35), 2)) (fun k => ?_) (Ev.now _)
    unfold lapidaryref14_Split.f
    rw [if_pos (by omega)]
  · rw [if_neg h]
    refine Ev.congr (fun k => ?_) (rsplit_l0 s (by omega) s.size 0 [] (by omega) (by omega) (by simp))
    unfold lapidaryref14_Split.f
    rw [if_neg (by omega)]
    rfl
end Go.Proofs.YtfbikpddpdkllaaDoor
