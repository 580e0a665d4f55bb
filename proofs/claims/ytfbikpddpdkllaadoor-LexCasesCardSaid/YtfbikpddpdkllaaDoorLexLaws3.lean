/-
  Plain law: each token that is read has a text of its own, which is read as that token. No program in sight. No conditions.
-/
import Derived.Test.YtfbikpddpdkllaaDoorLexLaws2
import Derived.Test.YtfbikpddpdkllaaDoorLexNum
import Derived.Test.YtfbikpddpdkllaaDoorLexLitAM
namespace Go.Proofs.YtfbikpddpdkllaaDoor
open Go.RowKit
set_option linter.unusedVariables false
set_option linter.unusedSimpArgs false

def txt (t : Tok) : List UInt8 := if t.k = 2 then Lib.itoa t.n else if t.k = 3 then quoteL t.s else t.s
/-- its text is read as it -/
structure Good (t : Tok) : Prop where
  r : nextL (txt t) = (t, (txt t).length, 0)
  b : ∃ c r, txt t = c :: r ∧ isBl c = false
  n : t.k = 2 → 0 ≤ t.n ∧ t.n ≤ 9223372036854775807
  s : t.k = 3 → t.s.length ≤ 60
theorem low_nat (c : UInt8) : (lowB c).toNat = if 65 ≤ c.toNat ∧ c.toNat ≤ 90 then c.toNat + 32 else c.toNat := by
  by_cases h : 65 ≤ c.toNat ∧ c.toNat ≤ 90
  · have := low_byte c h
    rw [if_pos h]
    omega
  · rw [if_neg h, low_same c h]
theorem low_let (c : UInt8) : isLet (lowB c) = isLet c := by
  have h := low_nat c
  unfold isLet
  rw [Bool.eq_iff_iff]
  simp only [Bool.or_eq_true, Bool.and_eq_true, decide_eq_true_eq]
  split at h <;> omega
theorem low_dig (c : UInt8) : isDig (lowB c) = isDig c := by
  have h := low_nat c
  rw [Bool.eq_iff_iff, isDig_iff, isDig_iff]
  split at h <;> omega
theorem low_wd (c : UInt8) : isWd (lowB c) = isWd c := by unfold isWd; rw [low_let, low_dig]
theorem low_low (c : UInt8) : lowB (lowB c) = lowB c := by
  apply low_same
  have h := low_nat c
  split at h <;> omega
theorem let_bl {c : UInt8} (h : isLet c = true ∨ isDig c = true) : isBl c = false := by
  cases hb : isBl c with
  | false => rfl
  | true =>
    have := bl_let hb
    rw [this.1, this.2] at h
    simp at h
theorem dig_let {c : UInt8} (h : isDig c = true) : isLet c = false := by
  have h1 := (isDig_iff c).1 h
  unfold isLet
  rw [Bool.eq_false_iff]
  simp
  omega
theorem good_word {c : UInt8} {r : List UInt8} (h : isLet c = true) : Good ⟨1, ((c :: r).take (runLen isWd (c :: r))).map lowB, 0⟩ := by
  have hall : ∀ x ∈ (c :: r).take (runLen isWd (c :: r)), isWd x = true := fun x hx => by rw [take_run] at hx; exact mem_run isWd _ x hx
  have hlen : 1 ≤ runLen isWd (c :: r) := by rw [runLen_cons, if_pos (by simp [isWd, h])]; omega
  obtain ⟨n, hn⟩ : ∃ n, runLen isWd (c :: r) = n + 1 := ⟨runLen isWd (c :: r) - 1, by omega⟩
  rw [hn] at hall ⊢
  rw [List.take_succ_cons, List.map_cons]
  have ht : txt ⟨1, lowB c :: (r.take n).map lowB, 0⟩ = lowB c :: (r.take n).map lowB := rfl
  have h1 : isLet (lowB c) = true := by rw [low_let]; exact h
  refine ⟨?_, ⟨_, _, ht, let_bl (.inl h1)⟩, fun h => absurd (show (1 : Int) = 2 from h) (by decide), fun h => absurd (show (1 : Int) = 3 from h) (by decide)⟩
  have hfull : runLen isWd (lowB c :: (r.take n).map lowB) = (lowB c :: (r.take n).map lowB).length := by
    apply runLen_full
    rw [List.all_eq_true]
    intro x hx
    rw [← List.map_cons] at hx
    obtain ⟨y, hy, rfl⟩ := List.mem_map.1 hx
    rw [low_wd]
    exact hall y (by rw [List.take_succ_cons]; exact hy)
  rw [ht, nextL_word h1, hfull, List.take_length]
  have hm : (lowB c :: (r.take n).map lowB).map lowB = lowB c :: (r.take n).map lowB := by
    rw [← List.map_cons, List.map_map]
    apply List.map_congr_left
    intro x _
    exact low_low x
  rw [hm]
theorem readE_zero {l : List UInt8} (h : readE l = 0) : digits l = true ∧ fits (num l : Nat) = true := by
  unfold readE at h
  by_cases hd : digits l = true
  · rw [if_pos hd] at h
    refine ⟨hd, ?_⟩
    unfold err at h
    by_cases hf : fits (num l : Nat) = true
    · exact hf
    · rw [if_neg hf] at h; cases h
  · rw [if_neg hd] at h; cases h
theorem readV_range {l : List UInt8} (h : readE l = 0) : 0 ≤ readV l ∧ readV l ≤ 9223372036854775807 := by
  obtain ⟨h1, h2⟩ := readE_zero h
  have h3 := (fits_iff _).1 h2
  rw [(read_yes h1).1]
  unfold val
  rw [if_pos h2]
  omega
/-- digits alone, and any: a number -/
theorem next_digits {l : List UInt8} (hd : digits l = true) : ∃ c r, l = c :: r ∧ isBl c = false ∧ nextL l = (⟨2, [], readV l⟩, l.length, readE l) := by
  unfold digits at hd
  simp only [Bool.and_eq_true] at hd
  cases l with
  | nil => simp at hd
  | cons c r =>
    have hc : isDig c = true := by
      have := hd.2
      simp only [List.all_cons, Bool.and_eq_true] at this
      exact this.1
    refine ⟨c, r, rfl, let_bl (.inr hc), ?_⟩
    rw [nextL_num (dig_let hc) hc, runLen_full isDig (c :: r) hd.2, List.take_length]
theorem itoa_digits (n : Int) (h : 0 ≤ n) : digits (Lib.itoa n) = true := by
  obtain ⟨u, rfl⟩ := Int.eq_ofNat_of_zero_le h
  rw [Lib.itoa_nonneg]
  obtain ⟨h1, h2, h3⟩ := dec_digits u
  unfold digits
  rw [h1, Bool.and_true]
  simpa using h2
theorem good_num {n : Int} (h : 0 ≤ n) (h1 : n ≤ 9223372036854775807) : Good ⟨2, [], n⟩ := by
  have ht : txt ⟨2, [], n⟩ = Lib.itoa n := rfl
  obtain ⟨c, r, e1, e2, e3⟩ := next_digits (itoa_digits n h)
  obtain ⟨v1, v2⟩ := read_dec_pos n h h1
  refine ⟨?_, ⟨c, r, by rw [ht, e1], e2⟩, fun _ => ⟨h, h1⟩, fun h => absurd (show (2 : Int) = 3 from h) (by decide)⟩
  rw [ht, e3, v1, v2]
theorem textL_dbl : ∀ s : List UInt8, textL (dbl s ++ [39]) = some (s, (dbl s).length + 1)
  | [] => textL_q1
  | b :: s => by
    have ih := textL_dbl s
    by_cases hb : b = 39
    · subst hb
      rw [dbl, if_pos rfl, List.cons_append, List.cons_append, textL_qq, ih]
      simp
    · rw [dbl, if_neg hb, List.cons_append, textL_c hb, ih]
      simp
theorem good_text {s : List UInt8} (h : wholeL s = true) (h1 : s.length ≤ 60) : Good ⟨3, s, 0⟩ := by
  have ht : txt ⟨3, s, 0⟩ = 39 :: (dbl s ++ [39]) := rfl
  refine ⟨?_, ⟨39, _, ht, by decide⟩, fun h => absurd (show (3 : Int) = 2 from h) (by decide), fun _ => h1⟩
  rw [ht, nextL_text (textL_dbl s), textT_ok h h1]
  simp
theorem good_sign {c : UInt8} {r : List UInt8} (h1 : isLet c = false) (h2 : isDig c = false) (h3 : c ≠ 39) (h4 : signL (c :: r) ≠ 0) (hb : isBl c = false) : Good ⟨4, (c :: r).take (signL (c :: r)), 0⟩ := by
  have key : ∀ (s : List UInt8) (e : UInt8) (q : List UInt8), s = e :: q → isLet e = false → isDig e = false → e ≠ 39 → isBl e = false → signL s = s.length → Good ⟨4, s, 0⟩ := by
    intro s e q hs a1 a2 a3 a4 a5
    have ht : txt ⟨4, s, 0⟩ = s := rfl
    refine ⟨?_, ⟨e, q, by rw [ht, hs], a4⟩, fun h => absurd (show (4 : Int) = 2 from h) (by decide), fun h => absurd (show (4 : Int) = 3 from h) (by decide)⟩
    rw [ht]
    rw [hs] at a5 ⊢
    rw [nextL_sign a1 a2 a3 (by rw [a5]; simp), a5, List.take_length]
  cases r with
  | nil =>
    have hc : signs.contains c = true := by
      rw [signL] at h4
      by_cases hc : signs.contains c = true
      · exact hc
      · rw [if_neg hc] at h4; exact absurd rfl h4
    have hs : signL [c] = 1 := by rw [signL, if_pos hc]
    rw [hs]
    exact key [c] c [] rfl h1 h2 h3 hb (by rw [hs]; rfl)
  | cons d r =>
    by_cases ht : two c d = true
    · have hs : signL (c :: d :: r) = 2 := by rw [signL, if_pos ht]
      rw [hs]
      exact key [c, d] c [d] rfl h1 h2 h3 hb (by rw [signL, if_pos ht]; rfl)
    · have hs0 : signL (c :: d :: r) = if signs.contains c = true then 1 else 0 := by rw [signL, if_neg ht]
      have hc : signs.contains c = true := by
        by_cases hc : signs.contains c = true
        · exact hc
        · rw [hs0, if_neg hc] at h4; exact absurd rfl h4
      rw [hs0, if_pos hc]
      exact key [c] c [] rfl h1 h2 h3 hb (by rw [signL, if_pos hc]; rfl)
theorem good_next {c : UInt8} {r : List UInt8} (hb : isBl c = false) (h : (nextL (c :: r)).2.2 = 0) : Good (nextL (c :: r)).1 := by
  cases h1 : isLet c with
  | true => rw [nextL_word h1]; exact good_word h1
  | false =>
    cases h2 : isDig c with
    | true =>
      rw [nextL_num h1 h2] at h ⊢
      obtain ⟨a, b⟩ := readV_range h
      exact good_num a b
    | false =>
      by_cases h3 : c = 39
      · subst h3
        cases ht : textL r with
        | none => rw [nextL_none ht] at h; exact absurd h (by decide)
        | some x =>
          rw [nextL_text ht] at h ⊢
          cases hw : wholeL x.1 with
          | false => rw [textT_bad hw] at h; exact absurd h (by decide)
          | true =>
            by_cases hl : x.1.length ≤ 60
            · rw [textT_ok hw hl]; exact good_text hw hl
            · rw [textT_long hw (by omega)] at h; exact absurd h (by decide)
      · by_cases h4 : signL (c :: r) = 0
        · rw [nextL_bad h1 h2 h3 h4] at h; exact absurd h (by decide)
        · rw [nextL_sign h1 h2 h3 h4]; exact good_sign h1 h2 h3 h4 hb
theorem goods : ∀ (n : Nat) (l : List UInt8), l.length ≤ n → ∀ t ∈ (toks l).1, Good t
  | n, [], _, t, h => by rw [toks_nil] at h; simp at h
  | n, c :: r, hn, t, h => by
    obtain ⟨m, rfl⟩ : ∃ m, n = m + 1 := ⟨n - 1, by simp at hn; omega⟩
    rw [List.length_cons] at hn
    cases hb : isBl c with
    | true => rw [toks_blank hb] at h; exact goods m r (by omega) t h
    | false =>
      have hb' : ¬ isBl c = true := by rw [hb]; decide
      by_cases he : (nextL (c :: r)).2.2 = 0
      · have hl := nextL_len he
        rw [toks_next hb' he] at h
        by_cases h0 : (toks ((c :: r).drop (nextL (c :: r)).2.1)).2 = 0
        · rw [if_pos h0] at h
          rcases List.mem_cons.1 h with rfl | h
          · exact good_next hb he
          · exact goods m _ (by rw [List.length_drop, List.length_cons]; omega) t h
        · rw [if_neg h0] at h; simp at h
      · rw [toks_err hb' he] at h; simp at h
theorem toks_txt {t : Tok} (h : Good t) : toks (txt t) = ([t], 0) := by
  obtain ⟨c, r, e, hb⟩ := h.b
  have hr := h.r
  rw [e] at hr ⊢
  rw [toks_next (by rw [hb]; decide) (by rw [hr]), hr]
  show (if (toks ((c :: r).drop (c :: r).length)).2 = 0 then _ else _) = _
  rw [List.drop_length, toks_nil, if_pos rfl]
theorem toks_txt_blank {t : Tok} (h : Good t) {d : UInt8} (hd : isBl d = true) (r : List UInt8) (hr : (toks r).2 = 0) : toks (txt t ++ d :: r) = (t :: (toks r).1, 0) := by
  have h1 := toks_txt h
  rw [toks_ext d r hd _ (txt t) (Nat.le_refl _) (by rw [h1]), if_pos hr, h1]
  rfl
theorem txt_len {t : Tok} (h : Good t) : t.k ≠ 2 → t.k ≠ 3 → txt t = t.s := fun a b => by unfold txt; rw [if_neg a, if_neg b]
/-- noughts ahead of digits change nothing -/
theorem noughts_read (m : Nat) (l : List UInt8) (hd : digits l = true) : digits (List.replicate m 48 ++ l) = true ∧ readV (List.replicate m 48 ++ l) = readV l ∧ readE (List.replicate m 48 ++ l) = readE l := by
  have hn : num (List.replicate m 48 ++ l) = num l := by
    induction m with
    | zero => rfl
    | succ m ih => rw [List.replicate_succ, List.cons_append, num_nought, ih]
  have hd2 : digits (List.replicate m 48 ++ l) = true := by
    unfold digits at hd ⊢
    simp only [Bool.and_eq_true, Bool.not_eq_true', List.isEmpty_eq_false_iff] at hd ⊢
    refine ⟨by simp [hd.1], ?_⟩
    rw [List.all_append, hd.2, Bool.and_true, List.all_eq_true]
    intro x hx
    rw [(List.mem_replicate.1 hx).2]
    decide
  refine ⟨hd2, ?_, ?_⟩
  · rw [(read_yes hd2).1, (read_yes hd).1, hn]
  · rw [(read_yes hd2).2, (read_yes hd).2, hn]
theorem toks_noughts (m : Nat) (n : Int) (h : 0 ≤ n) (h1 : n ≤ 9223372036854775807) : toks (List.replicate m 48 ++ Lib.itoa n) = ([⟨2, [], n⟩], 0) := by
  obtain ⟨a, b, c⟩ := noughts_read m (Lib.itoa n) (itoa_digits n h)
  obtain ⟨v1, v2⟩ := read_dec_pos n h h1
  obtain ⟨e, q, e1, e2, e3⟩ := next_digits a
  rw [b, c, v1, v2] at e3
  rw [e1] at e3 ⊢
  rw [toks_next (by rw [e2]; decide) (by rw [e3]), e3]
  show (if (toks ((e :: q).drop (e :: q).length)).2 = 0 then _ else _) = _
  rw [List.drop_length, toks_nil, if_pos rfl]
end Go.Proofs.YtfbikpddpdkllaaDoor
